import Derived.Test.YtbgnaamdlcggjaaGreatPY
set_option linter.unusedVariables false
set_option autoImplicit false
namespace Go.Proofs.YtbgnaamdlcggjaaGreat
open Go Go.RowKit Go.Gv
def mv(f:Nat->Bool)(g:Nat->Int)(T x:Nat):List Int:=(List.range T).map fun k=>if decide (k<x)&&f k then g k else 0
theorem BZ5{f:Nat->Bool}{g:Nat->Int}{T x:Nat}:(mv f g T x).length=T:=by simp [mv]
theorem BE0{f:Nat->Bool}{g:Nat->Int}{T x k:Nat}(h:k<(mv f g T x).length):(mv f g T x)[k]=if decide (k<x)&&f k then g k else 0:=by simp [mv]
theorem DJ9{f:Nat->Bool}{g:Nat->Int}{T:Nat}:mv f g T 0=List.replicate T 0:=by
  refine List.ext_getElem (by simp [mv]) fun k h1 h2=>?_
  rw [BE0]; simp
theorem EA5{f:Nat->Bool}{g:Nat->Int}{T x:Nat}(h:f x=true):(mv f g T x).set x (g x)=mv f g T (x+1):=by
  refine List.ext_getElem (by simp [mv]) fun k h1 h2=>?_
  rw [List.getElem_set,BE0]
  split
  · rename_i e; subst e
    rw [BE0,h,decide_eq_true (by omega:x<x+1)]; rfl
  · rename_i e
    rw [BE0]
    have:decide (k<x)=decide (k<x+1):=by rw [Bool.eq_iff_iff]; simp; omega
    rw [this]
theorem DE0{f:Nat->Bool}{g:Nat->Int}{T x:Nat}(h:f x=false):mv f g T x=mv f g T (x+1):=by
  refine List.ext_getElem (by simp [mv]) fun k h1 h2=>?_
  rw [BE0,BE0]
  by_cases e:k=x
  · subst e; rw [h]; simp
  · have:decide (k<x)=decide (k<x+1):=by rw [Bool.eq_iff_iff]; simp; omega
    rw [this]
section
variable (p:List Int) (sx:List A0)
def cl(b:B0)(k:Nat):Int×Int:=cell p sx b.Table (AG0 p sx k).Area.toNat (AG0 p sx k).Values
def fB(b:B0)(c k:Nat):Bool:=decide ((cl p sx b k).1=(c:Int))
def gB(b:B0)(k:Nat):Int:=(cl p sx b k).2
def J0(x:Nat)(b:B0)(j:Nat):List (List Int×Int):=((List.range j).filter fun c=>decide (0<=gi b.Cells c)).map fun c=>(mv (fB p sx b c) (gB p sx b) (nT p sx) x,gi b.Cells c)
def BP3(b:B0):List (List Int×Int):=J0 p sx (nT p sx) b b.Cells.length
def L1(l:List B0):List (List Int×Int):=l.flatMap (BP3 p sx)
end
section
variable {p:List Int} {sx:List A0}
theorem cin(hg:gOk p=true)(hL:Lok sx){b:B0}(ht:tOk p sx b.Table=true){k:Nat}(hk:k<nT p sx) :
    CIn p sx b.Table (AG0 p sx k).Area.toNat (AG0 p sx k).Values/\(AG0 p sx k).Area=((AG0 p sx k).Area.toNat:Int):=by
  obtain ⟨i,e,hi⟩:=DC1 hL hk
  exact ⟨⟨hg,hL,ht,by omega,DZ7 hL _⟩,by omega⟩
theorem AP3{x:Nat}{b:B0}{j:Nat}:J0 p sx x b (j+1)=J0 p sx x b j++if 0<=gi b.Cells j then [(mv (fB p sx b j) (gB p sx b) (nT p sx) x,gi b.Cells j)] else []:=by
  unfold J0
  rw [List.range_succ,List.filter_append,List.map_append,List.filter_cons,List.filter_nil]
  by_cases h:0<=gi b.Cells j
  · simp [h]
  · simp [h]
theorem BD2{x:Nat}{b:B0}{j:Nat}:(J0 p sx x b j).length<=j:=by
  unfold J0
  rw [List.length_map]
  have:=List.length_filter_le (fun c=>decide (0<=gi b.Cells c)) (List.range j)
  rwa [List.length_range] at this
theorem BM9{b:B0}(h:AR2 p sx b=true):tOk p sx b.Table=true/\b.Cells.length<=600/\b.Cells.length=L3 p sx b.Table:=by
  unfold AR2 at h
  simp only [Bool.and_eq_true,decide_eq_true_eq] at h
  have ht:=h.1.1
  unfold tOk at ht
  simp only [Bool.and_eq_true,decide_eq_true_eq] at ht
  exact ⟨h.1.1,by omega,h.1.2⟩
theorem BQ2{l:List B0}(h:∀ b∈l,AR2 p sx b=true):(L1 p sx l).length<=l.length * 600:=by
  unfold L1
  induction l with
  | nil=>simp
  | cons b l ih =>
    have h1:=ih fun x hx=>h x (List.mem_cons_of_mem _ hx)
    have h2:=(BM9 (h b (List.mem_cons_self ..))).2.1
    have h3:=BD2 (p:=p) (sx:=sx) (x:=nT p sx) (b:=b) (j:=b.Cells.length)
    have h4:(BP3 p sx b).length<=b.Cells.length:=h3
    rw [List.flatMap_cons,List.length_append,List.length_cons,Nat.add_mul,Nat.one_mul]; omega
def mkR(r:List Int×Int):Q9:=⟨r.1,r.2⟩
theorem DM4{l:List B0}{Q:List Q9->Prop}(hg:gOk p=true)(hL:Lok sx)(hT:nT p sx<=12)(hl:S2 p sx l=true)(hq:Q ((L1 p sx l).map mkR)):AS8 ⟨p⟩ sx l Q:=by
  unfold S2 at hl
  simp only [Bool.and_eq_true,decide_eq_true_eq] at hl
  have hall:=List.all_eq_true.1 hl.1
  unfold AS8
  refine F4 (by omega) (fun o i=>o=(L1 p sx (l.take i)).map mkR) (by simp [L1]) (fun o i nx hi ho hx=>C4 hi ?_) (fun o ho=>by rw [List.take_length] at ho; rw [ho]; exact hq)
  subst ho
  have ⟨ht,h600,hcn⟩:=BM9 (hall _ (List.getElem_mem hi))
  have hpre:=BQ2 (p:=p) (sx:=sx) (l:=l.take i) fun b hb=>hall b (List.mem_of_mem_take hb)
  rw [List.length_take] at hpre
  have hlm:(L1 p sx (l.take i)).length<=12000:=by
    have:min i l.length * 600<=20 * 600:=Nat.mul_le_mul_right _ (by omega)
    omega
  refine F4 (by omega) (fun o j=>o=(L1 p sx (l.take i)++J0 p sx (nT p sx) l[i] j).map mkR) (by simp [J0]) (fun o j nx2 hj ho hx2=>?_) (fun o ho=>?_)
  · subst ho
    have hrl:=BD2 (p:=p) (sx:=sx) (x:=nT p sx) (b:=l[i]) (j:=j)
    refine D3 ((L1 p sx (l.take i)++J0 p sx (nT p sx) l[i] (j+1)).map mkR) (hx2 _ rfl) fun k hk=>C4 hj (E1 (fun g=>?_) (fun g=>BQ4 (p:=p) hg hL ⟨by omega,by omega,?_⟩))
    · rw [AP3,H9 hj,if_neg (by omega),List.append_nil] at hk; exact hk
    · rw [AP3,H9 hj,if_pos (by omega)] at hk
      refine ⟨fun x a=>∃ m:Nat,x=(m:Int)/\m<=nT p sx/\a=mv (fB p sx l[i] j) (gB p sx l[i]) (nT p sx) m,fun x _=>((nT p sx:Int)-x).toNat,⟨0,rfl,Nat.zero_le _,by rw [DJ9]; simp⟩,?_⟩
      rintro _ _ ⟨m,rfl,hm,rfl⟩
      have hrep:ln (List.replicate (Int.toNat (nT p sx:Int)) ((0:Int)))=(nT p sx:Int):=by unfold ln; simp
      rw [hrep]
      refine E1 (fun g2=>?_) (fun g2=>?_)
      · have hm':m<nT p sx:=by omega
        have ⟨c,ha⟩:=cin hg hL ht hm'
        refine D3 (mv (fB p sx l[i] j) (gB p sx l[i]) (nT p sx) (m+1)) ?_ fun k2 hk2=>DB5 (p:=p) hg hL hm' ⟨(cl p sx l[i] m).1,(cl p sx l[i] m).2,CR1 (p:=p) (t:=l[i].Table) (r:=AG0 p sx m) c ha ⟨rfl,rfl⟩,P8 (fun g3=>?_) (fun g3=>?_)⟩
        · rw [E9 (by omega) (by omega)]
          refine ⟨⟨m+1,by omega,hm',rfl⟩,?_⟩
          show ((nT p sx:Int)-((m:Int)+1)).toNat<((nT p sx:Int)-(m:Int)).toNat
          omega
        · refine ⟨by omega,by rw [BZ5]; omega,?_⟩
          rw [← EA5 (show fB p sx l[i] j m=true from decide_eq_true g3)] at hk2
          rw [Int.toNat_natCast]; exact hk2
        · rw [← DE0 (show fB p sx l[i] j m=false from decide_eq_false g3)] at hk2
          exact hk2
      · have:m=nT p sx:=by omega
        subst this
        refine ⟨by unfold ln; rw [List.length_map,List.length_append]; simp only [List.length_singleton]; omega,?_⟩
        rw [← List.append_assoc,List.map_append] at hk
        exact hk
  · have e:(L1 p sx (l.take i)++J0 p sx (nT p sx) l[i] l[i].Cells.length)=L1 p sx (l.take (i+1)):=by
      unfold L1
      rw [List.take_succ_eq_append_getElem hi,List.flatMap_append]
      simp [BP3]
    rw [e] at ho
    exact hx _ ho
end
end Go.Proofs.YtbgnaamdlcggjaaGreat
