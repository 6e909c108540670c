/- Plain facts about attacks: the program's conditions are the reference's rules. -/
import Derived.Test.YtbgnaamdlcggjaaGreatPZ
set_option linter.unusedVariables false
set_option autoImplicit false
namespace Go.Proofs.YtbgnaamdlcggjaaGreat
open Go Go.RowKit Go.Gv
section
variable {p:List Int} {sx:List Variable}
def mkC (r:List Int×Int):Condition:=⟨r.1,r.2⟩
def entry (p:List Int) (sx:List Variable) (x:Nat) (b:Published) (c:Nat):List Int×Int:=(mv (fB p sx b c) (gB p sx b) (nT p sx) x,gi b.Cells c)
def rulesL (p:List Int) (sx:List Variable) (x:Nat) (b:Published) (L:List Nat):List (List Int×Int):=(L.filter fun c=>decide (0≤gi b.Cells c)).map (entry p sx x b)
theorem rulesTo_eq {x:Nat} {b:Published} {j:Nat}:rulesTo p sx x b j=rulesL p sx x b (List.range j):=rfl
theorem rulesL_same {k:Nat} {b:Published} {L:List Nat} (h:∀ c∈L,0≤gi b.Cells c→fB p sx b c k=false):rulesL p sx (k+1) b L=rulesL p sx k b L:=by
  unfold rulesL
  refine List.map_congr_left fun c hc=>?_
  have ⟨h1,h2⟩:=List.mem_filter.1 hc
  unfold entry
  rw [mv_skip (h c h1 (of_decide_eq_true h2))]
theorem range_split {n c:Nat} (h:c<n):∃ R:List Nat,List.range n=List.range c++c :: R∧∀ x∈R,x≠c:=by
  refine ⟨(List.range (n-c-1)).map (fun i=>c+(i+1)),?_,fun x hx=>?_⟩
  · have e:n=c+((n-c-1)+1):=by omega
    conv=>lhs; rw [e]
    rw [List.range_add,List.range_succ_eq_map,List.map_cons,List.map_map]
    rfl
  · obtain ⟨i,_,rfl⟩:=List.mem_map.1 hx; omega
theorem rulesL_append {x:Nat} {b:Published} {L R:List Nat}:rulesL p sx x b (L++R)=rulesL p sx x b L++rulesL p sx x b R:=by unfold rulesL; rw [List.filter_append,List.map_append]
theorem rulesL_cons {x:Nat} {b:Published} {c:Nat} {R:List Nat} (h:0≤gi b.Cells c):rulesL p sx x b (c :: R)=entry p sx x b c :: rulesL p sx x b R:=by
  unfold rulesL; rw [List.filter_cons,if_pos (decide_eq_true h)]; rfl
theorem rulesL_len {x y:Nat} {b:Published} {L:List Nat}:(rulesL p sx x b L).length=(rulesL p sx y b L).length:=by unfold rulesL; simp
/-- One amount more. -/
theorem rules_put {k c:Nat} {b:Published} {pre:List (List Int×Int)} (hc:c<b.Cells.length) (h0:0≤gi b.Cells c) (hk:fB p sx b c k=true) :
    ∃ h:pre.length+(rulesTo p sx 0 b c).length<((pre++rulesTo p sx k b b.Cells.length).map mkC).length,
      ((pre++rulesTo p sx k b b.Cells.length).map mkC)[pre.length+(rulesTo p sx 0 b c).length]=mkC (entry p sx k b c) ∧
      ((pre++rulesTo p sx k b b.Cells.length).map mkC).set (pre.length+(rulesTo p sx 0 b c).length) (mkC (entry p sx (k+1) b c))=(pre++rulesTo p sx (k+1) b b.Cells.length).map mkC:=by
  obtain ⟨R,hR,hne⟩:=range_split hc
  have other:∀ x,x≠c→fB p sx b x k=false:=fun x hx=>by
    unfold fB at hk ⊢
    have:=of_decide_eq_true hk
    exact decide_eq_false (by omega)
  have e1:rulesTo p sx (k+1) b b.Cells.length=rulesL p sx k b (List.range c)++entry p sx (k+1) b c :: rulesL p sx k b R:=by
    rw [rulesTo_eq,hR,rulesL_append,rulesL_cons h0,rulesL_same (L:=List.range c) fun x hx _=>other x (by have:=List.mem_range.1 hx; omega),rulesL_same (L:=R) fun x hx _=>other x (hne x hx)]
  have e0:rulesTo p sx k b b.Cells.length=rulesL p sx k b (List.range c)++entry p sx k b c :: rulesL p sx k b R:=by
    rw [rulesTo_eq,hR,rulesL_append,rulesL_cons h0]
  have el:(rulesTo p sx 0 b c).length=(rulesL p sx k b (List.range c)).length:=rulesL_len
  rw [e0,e1,el]
  generalize rulesL p sx k b (List.range c)=A
  generalize rulesL p sx k b R=B
  have h:pre.length+A.length<((pre++(A++entry p sx k b c :: B)).map mkC).length:=by simp
  refine ⟨h,?_,?_⟩
  · rw [List.getElem_map]
    congr 1
    rw [List.getElem_append_right (by omega),List.getElem_append_right (by omega)]
    simp
  · have es:pre++(A++entry p sx k b c :: B)=(pre++A)++entry p sx k b c :: B:=by rw [List.append_assoc]
    have es2:pre++(A++entry p sx (k+1) b c :: B)=(pre++A)++entry p sx (k+1) b c :: B:=by rw [List.append_assoc]
    rw [es,es2,List.map_append (l₁:=pre++A) (l₂:=entry p sx k b c :: B),List.map_append (l₁:=pre++A) (l₂:=entry p sx (k+1) b c :: B),List.map_cons,List.map_cons,List.set_append_right _ _ (by simp)]
    simp
theorem conditionsOf_ok {l:List Published} {Q:List Condition→Prop} (hg:gOk p=true) (hL:Lok sx) (hT:nT p sx≤12) (hl:pubsOk p sx l=true) (hq:Q ((rules p sx l).map mkC)):impl_conditionsOf ⟨p⟩ sx l Q:=by
  unfold pubsOk at hl
  simp only [Bool.and_eq_true,decide_eq_true_eq] at hl
  have hall:=List.all_eq_true.1 hl.1
  unfold impl_conditionsOf
  refine typeCount_ok (p:=p) hg hL ?_
  refine loop2_list (by omega) (fun o i=>o=(rules p sx (l.take i)).map mkC) (by simp [rules]) (fun o i nx hi ho hx=>idx_at hi ?_) (fun o ho=>by rw [List.take_length] at ho; rw [ho]; exact hq)
  subst ho
  have ⟨ht,h600,hcn⟩:=pubOk_of (hall _ (List.getElem_mem hi))
  have hpre:=rules_len (p:=p) (sx:=sx) (l:=l.take i) fun b hb=>hall b (List.mem_of_mem_take hb)
  rw [List.length_take] at hpre
  have hlm:(rules p sx (l.take i)).length≤12000:=by
    have:min i l.length * 600≤20 * 600:=Nat.mul_le_mul_right _ (by omega)
    omega
  have hnext:rules p sx (l.take i)++rulesTo p sx (nT p sx) l[i] l[i].Cells.length=rules p sx (l.take (i+1)):=by
    unfold rules
    rw [List.take_succ_eq_append_getElem hi,List.flatMap_append]
    simp [rulesOf]
  generalize hpr:rules p sx (l.take i)=pre at hlm hnext ⊢
  generalize hb:l[i]=b at ht h600 hcn hnext ⊢
  refine ⟨by unfold ln; omega,by unfold ln; omega,?_⟩
  refine loop3_list (by omega) (fun o a j=>o=(pre++rulesTo p sx 0 b j).map mkC∧a.length=b.Cells.length∧∀ c (hc:c<a.length),c<j→a[c]=if 0≤gi b.Cells c then ((pre.length+(rulesTo p sx 0 b c).length:Nat):Int) else -1) ⟨by simp [rulesTo],by simp,fun c _ h=>by omega⟩ ?_ ?_
  · rintro _ a j nx2 hj ⟨rfl,ha,hat⟩ hx2
    have hrl:=rulesTo_len (p:=p) (sx:=sx) (x:=0) (b:=b) (j:=j)
    refine jn_bool2 ((pre++rulesTo p sx 0 b (j+1)).map mkC) (a.set j (if 0≤gi b.Cells j then ((pre.length+(rulesTo p sx 0 b j).length:Nat):Int) else -1)) (hx2 _ _ ⟨rfl,by simpa using ha,fun c hc hcj=>?_⟩) fun k hk=>idx_at hj ⟨by omega,by omega,br_dec (fun g=>⟨by omega,by simp; omega,by omega,by omega,?_,?_⟩) (fun g=>?_)⟩
    · rw [List.getElem_set]
      split
      · rename_i e; subst e; rfl
      · exact hat c (by simpa using hc) (by omega)
    · unfold ln; rw [List.length_map,List.length_append]; simp only [List.length_singleton]; omega
    · rw [rulesTo_succ,gi_at hj,if_pos (by omega),if_pos (by omega),← List.append_assoc,List.map_append,mv_zero] at hk
      rw [Int.toNat_natCast,List.set_set]
      have e:ln ((pre++rulesTo p sx 0 b j).map mkC)=((pre.length+(rulesTo p sx 0 b j).length:Nat):Int):=by unfold ln; rw [List.length_map,List.length_append]
      rw [e]
      exact hk
    · rw [rulesTo_succ,gi_at hj,if_neg (by omega),if_neg (by omega),List.append_nil] at hk
      rw [Int.toNat_natCast]; exact hk
  · rintro _ a ⟨rfl,ha,hat⟩
    refine loop2_to (n:=(nT p sx:Int)) (by omega) (fun o k=>o=(pre++rulesTo p sx k b b.Cells.length).map mkC) rfl ?_ ?_
    · rintro _ m nx3 hm rfl hx3
      have hm':m<nT p sx:=by omega
      have ⟨c,har⟩:=cin hg hL ht hm'
      refine jn_bool ((pre++rulesTo p sx (m+1) b b.Cells.length).map mkC) (hx3 _ rfl) fun k hk=>typeAt_ok (p:=p) hg hL hm' ⟨(cl p sx b m).1,(cl p sx b m).2,contribution_ok (p:=p) (t:=b.Table) (r:=recAt p sx m) c har ⟨rfl,rfl⟩,?_⟩
      -- where it counts
      have hcase:(cl p sx b m).1 = -1∨∃ q:Nat,(cl p sx b m).1=(q:Int)∧q<b.Cells.length:=by
        unfold cl cell
        by_cases h:up p (recAt p sx m).Area.toNat b.Table.Level<0∨metW b.Table.Where (recAt p sx m).Values=false
        · rw [if_pos h]; exact .inl rfl
        · rw [if_neg h]
          exact .inr ⟨_,rfl,by rw [hcn]; exact (c.lt fun x=>h (.inl x)).2.2⟩
      rcases hcase with h1 | ⟨q,h1,h2⟩
      · rw [h1]
        have hno:∀ x∈List.range b.Cells.length,0≤gi b.Cells x→fB p sx b x m=false:=fun x _ _=>decide_eq_false (by rw [h1]; omega)
        rw [rulesTo_eq,rulesL_same hno,← rulesTo_eq] at hk
        exact jn_bool false (br_false rfl hk) fun k2 hk2=>br_no (by omega) hk2
      · rw [h1]
        have hq:q<a.length:=by omega
        have haq:=hat q hq h2
        by_cases h0:0≤gi b.Cells q
        · rw [if_pos h0] at haq
          have hfb:fB p sx b q m=true:=decide_eq_true h1
          obtain ⟨w1,w2,w3⟩:=rules_put (p:=p) (sx:=sx) (k:=m) (pre:=pre) h2 h0 hfb
          refine jn_bool true (br_true rfl (idx_at hq ?_)) fun k2 hk2=>br_yes (by omega) (idx_at hq ?_)
          · rw [haq]
            refine idx_at w1 ?_
            rw [w2]
            refine ⟨by omega,by show m<(mv _ _ _ _).length; rw [mv_len]; exact hm',?_⟩
            rw [Int.toNat_natCast,Int.toNat_natCast]
            have e:({mkC (entry p sx m b q) with Amounts:=List.set (mkC (entry p sx m b q)).Amounts m (cl p sx b m).2}:Condition)=mkC (entry p sx (m+1) b q):=by
              unfold mkC entry
              simp only
              congr 1
              exact mv_set hfb
            rw [e,w3]; exact hk
          · rw [haq,decide_eq_true (by omega)]; exact hk2
        · rw [if_neg h0] at haq
          have hno:∀ x∈List.range b.Cells.length,0≤gi b.Cells x→fB p sx b x m=false:=fun x _ hx0=>decide_eq_false (by
            rw [h1]; intro e
            have:q=x:=by omega
            subst this; exact h0 hx0)
          rw [rulesTo_eq,rulesL_same hno,← rulesTo_eq] at hk
          refine jn_bool false (br_false rfl hk) fun k2 hk2=>br_yes (by omega) (idx_at hq ?_)
          rw [haq,decide_eq_false (by omega)]; exact hk2
    · rintro _ m hm rfl
      have e:m=nT p sx:=by omega
      subst e
      rw [hnext]; exact hx _ rfl
end
end Go.Proofs.YtbgnaamdlcggjaaGreat
