/- Plain facts about attacks: the rules of published tables. -/
import Derived.Test.YtbgnaamdlcggjaaGreatPY
set_option linter.unusedVariables false
set_option autoImplicit false
namespace Go.Proofs.YtbgnaamdlcggjaaGreat
open Go Go.RowKit Go.Gv
def mv (f:Nat→Bool) (g:Nat→Int) (T x:Nat):List Int:=(List.range T).map fun k=>if decide (k<x)&&f k then g k else 0
theorem mv_len {f:Nat→Bool} {g:Nat→Int} {T x:Nat}:(mv f g T x).length=T:=by simp [mv]
theorem mv_get {f:Nat→Bool} {g:Nat→Int} {T x k:Nat} (h:k<(mv f g T x).length):(mv f g T x)[k]=if decide (k<x)&&f k then g k else 0:=by simp [mv]
theorem mv_zero {f:Nat→Bool} {g:Nat→Int} {T:Nat}:mv f g T 0=List.replicate T 0:=by
  refine List.ext_getElem (by simp [mv]) fun k h1 h2=>?_
  rw [mv_get]; simp
theorem mv_set {f:Nat→Bool} {g:Nat→Int} {T x:Nat} (h:f x=true):(mv f g T x).set x (g x)=mv f g T (x+1):=by
  refine List.ext_getElem (by simp [mv]) fun k h1 h2=>?_
  rw [List.getElem_set,mv_get]
  split
  · rename_i e; subst e
    rw [mv_get,h,decide_eq_true (by omega:x<x+1)]; rfl
  · rename_i e
    rw [mv_get]
    have:decide (k<x)=decide (k<x+1):=by rw [Bool.eq_iff_iff]; simp; omega
    rw [this]
theorem mv_skip {f:Nat→Bool} {g:Nat→Int} {T x:Nat} (h:f x=false):mv f g T x=mv f g T (x+1):=by
  refine List.ext_getElem (by simp [mv]) fun k h1 h2=>?_
  rw [mv_get,mv_get]
  by_cases e:k=x
  · subst e; rw [h]; simp
  · have:decide (k<x)=decide (k<x+1):=by rw [Bool.eq_iff_iff]; simp; omega
    rw [this]
section
variable (p:List Int) (sx:List Variable)
def cl (b:Published) (k:Nat):Int×Int:=cell p sx b.Table (recAt p sx k).Area.toNat (recAt p sx k).Values
def fB (b:Published) (c k:Nat):Bool:=decide ((cl p sx b k).1=(c:Int))
def gB (b:Published) (k:Nat):Int:=(cl p sx b k).2
def rulesTo (x:Nat) (b:Published) (j:Nat):List (List Int×Int):=((List.range j).filter fun c=>decide (0≤gi b.Cells c)).map fun c=>(mv (fB p sx b c) (gB p sx b) (nT p sx) x,gi b.Cells c)
def rulesOf (b:Published):List (List Int×Int):=rulesTo p sx (nT p sx) b b.Cells.length
def rules (l:List Published):List (List Int×Int):=l.flatMap (rulesOf p sx)
end
section
variable {p:List Int} {sx:List Variable}
theorem cin (hg:gOk p=true) (hL:Lok sx) {b:Published} (ht:tOk p sx b.Table=true) {k:Nat} (hk:k<nT p sx) :
    CIn p sx b.Table (recAt p sx k).Area.toNat (recAt p sx k).Values∧(recAt p sx k).Area=((recAt p sx k).Area.toNat:Int):=by
  obtain ⟨i,e,hi⟩:=recAt_area hL hk
  exact ⟨⟨hg,hL,ht,by omega,vals_fit hL _⟩,by omega⟩
theorem rulesTo_succ {x:Nat} {b:Published} {j:Nat}:rulesTo p sx x b (j+1)=rulesTo p sx x b j++if 0≤gi b.Cells j then [(mv (fB p sx b j) (gB p sx b) (nT p sx) x,gi b.Cells j)] else []:=by
  unfold rulesTo
  rw [List.range_succ,List.filter_append,List.map_append,List.filter_cons,List.filter_nil]
  by_cases h:0≤gi b.Cells j
  · simp [h]
  · simp [h]
theorem rulesTo_len {x:Nat} {b:Published} {j:Nat}:(rulesTo p sx x b j).length≤j:=by
  unfold rulesTo
  rw [List.length_map]
  have:=List.length_filter_le (fun c=>decide (0≤gi b.Cells c)) (List.range j)
  rwa [List.length_range] at this
theorem pubOk_of {b:Published} (h:pubOk p sx b=true):tOk p sx b.Table=true∧b.Cells.length≤600∧b.Cells.length=cellN p sx b.Table:=by
  unfold pubOk at h
  simp only [Bool.and_eq_true,decide_eq_true_eq] at h
  have ht:=h.1.1
  unfold tOk at ht
  simp only [Bool.and_eq_true,decide_eq_true_eq] at ht
  exact ⟨h.1.1,by omega,h.1.2⟩
theorem rules_len {l:List Published} (h:∀ b∈l,pubOk p sx b=true):(rules p sx l).length≤l.length * 600:=by
  unfold rules
  induction l with
  | nil=>simp
  | cons b l ih =>
    have h1:=ih fun x hx=>h x (List.mem_cons_of_mem _ hx)
    have h2:=(pubOk_of (h b (List.mem_cons_self ..))).2.1
    have h3:=rulesTo_len (p:=p) (sx:=sx) (x:=nT p sx) (b:=b) (j:=b.Cells.length)
    have h4:(rulesOf p sx b).length≤b.Cells.length:=h3
    rw [List.flatMap_cons,List.length_append,List.length_cons,Nat.add_mul,Nat.one_mul]; omega
def mkR (r:List Int×Int):ARule:=⟨r.1,r.2⟩
theorem aRules_ok {l:List Published} {Q:List ARule→Prop} (hg:gOk p=true) (hL:Lok sx) (hT:nT p sx≤12) (hl:pubsOk p sx l=true) (hq:Q ((rules p sx l).map mkR)):spec_aRules ⟨p⟩ sx l Q:=by
  unfold pubsOk at hl
  simp only [Bool.and_eq_true,decide_eq_true_eq] at hl
  have hall:=List.all_eq_true.1 hl.1
  unfold spec_aRules
  refine loop2_list (by omega) (fun o i=>o=(rules p sx (l.take i)).map mkR) (by simp [rules]) (fun o i nx hi ho hx=>idx_at hi ?_) (fun o ho=>by rw [List.take_length] at ho; rw [ho]; exact hq)
  subst ho
  have ⟨ht,h600,hcn⟩:=pubOk_of (hall _ (List.getElem_mem hi))
  have hpre:=rules_len (p:=p) (sx:=sx) (l:=l.take i) fun b hb=>hall b (List.mem_of_mem_take hb)
  rw [List.length_take] at hpre
  have hlm:(rules p sx (l.take i)).length≤12000:=by
    have:min i l.length * 600≤20 * 600:=Nat.mul_le_mul_right _ (by omega)
    omega
  refine loop2_list (by omega) (fun o j=>o=(rules p sx (l.take i)++rulesTo p sx (nT p sx) l[i] j).map mkR) (by simp [rulesTo]) (fun o j nx2 hj ho hx2=>?_) (fun o ho=>?_)
  · subst ho
    have hrl:=rulesTo_len (p:=p) (sx:=sx) (x:=nT p sx) (b:=l[i]) (j:=j)
    refine jn_bool ((rules p sx (l.take i)++rulesTo p sx (nT p sx) l[i] (j+1)).map mkR) (hx2 _ rfl) fun k hk=>idx_at hj (br_dec (fun g=>?_) (fun g=>aTypes_ok (p:=p) hg hL ⟨by omega,by omega,?_⟩))
    · rw [rulesTo_succ,gi_at hj,if_neg (by omega),List.append_nil] at hk; exact hk
    · rw [rulesTo_succ,gi_at hj,if_pos (by omega)] at hk
      refine ⟨fun x a=>∃ m:Nat,x=(m:Int)∧m≤nT p sx∧a=mv (fB p sx l[i] j) (gB p sx l[i]) (nT p sx) m,fun x _=>((nT p sx:Int)-x).toNat,⟨0,rfl,Nat.zero_le _,by rw [mv_zero]; simp⟩,?_⟩
      rintro _ _ ⟨m,rfl,hm,rfl⟩
      have hrep:ln (List.replicate (Int.toNat (nT p sx:Int)) ((0:Int)))=(nT p sx:Int):=by unfold ln; simp
      rw [hrep]
      refine br_dec (fun g2=>?_) (fun g2=>?_)
      · have hm':m<nT p sx:=by omega
        have ⟨c,ha⟩:=cin hg hL ht hm'
        refine jn_bool (mv (fB p sx l[i] j) (gB p sx l[i]) (nT p sx) (m+1)) ?_ fun k2 hk2=>aRecord_ok (p:=p) hg hL hm' ⟨(cl p sx l[i] m).1,(cl p sx l[i] m).2,uCell_ok (p:=p) (t:=l[i].Table) (r:=recAt p sx m) c ha ⟨rfl,rfl⟩,br_eq (fun g3=>?_) (fun g3=>?_)⟩
        · rw [wr_in (by omega) (by omega)]
          refine ⟨⟨m+1,by omega,hm',rfl⟩,?_⟩
          show ((nT p sx:Int)-((m:Int)+1)).toNat<((nT p sx:Int)-(m:Int)).toNat
          omega
        · refine ⟨by omega,by rw [mv_len]; omega,?_⟩
          rw [← mv_set (show fB p sx l[i] j m=true from decide_eq_true g3)] at hk2
          rw [Int.toNat_natCast]; exact hk2
        · rw [← mv_skip (show fB p sx l[i] j m=false from decide_eq_false g3)] at hk2
          exact hk2
      · have:m=nT p sx:=by omega
        subst this
        refine ⟨by unfold ln; rw [List.length_map,List.length_append]; simp only [List.length_singleton]; omega,?_⟩
        rw [← List.append_assoc,List.map_append] at hk
        exact hk
  · have e:(rules p sx (l.take i)++rulesTo p sx (nT p sx) l[i] l[i].Cells.length)=rules p sx (l.take (i+1)):=by
      unfold rules
      rw [List.take_succ_eq_append_getElem hi,List.flatMap_append]
      simp [rulesOf]
    rw [e] at ho
    exact hx _ ho
end
end Go.Proofs.YtbgnaamdlcggjaaGreat
