/- The law of CountSurveys. -/
import Derived.Test.YtbgnaamdlcggjaaGreatQE
set_option linter.unusedVariables false
set_option autoImplicit false
namespace Go.Proofs.YtbgnaamdlcggjaaGreat
open Go Go.RowKit Go.Gv
theorem mv_ab {f:Nat→Bool} {g:Nat→Int} {T x:Nat} (h:∀ k,k<T→f k=true→0≤g k∧g k≤60):Ab (mv f g T x):=fun a ha=>by
  obtain ⟨k,hk,rfl⟩:=List.mem_iff_getElem.1 ha
  rw [mv_len] at hk
  rw [mv_get]
  split
  · rename_i c
    simp only [Bool.and_eq_true] at c
    exact h k hk c.2
  · omega
theorem rules_ab {p:List Int} {sx:List Variable} {l:List Published} (hg:gOk p=true) (hL:Lok sx) (hl:pubsOk p sx l=true):∀ r∈rules p sx l,Ab r.1∧r.1.length=nT p sx:=fun r hr=>by
  unfold pubsOk at hl
  simp only [Bool.and_eq_true,decide_eq_true_eq] at hl
  have hall:=List.all_eq_true.1 hl.1
  obtain ⟨b,hb,hr⟩:=List.mem_flatMap.1 hr
  have ⟨ht,_,_⟩:=pubOk_of (hall b hb)
  obtain ⟨c,_,rfl⟩:=List.mem_map.1 hr
  refine ⟨mv_ab fun k hk _=>?_,mv_len⟩
  have ⟨ci,_⟩:=cin hg hL ht hk
  unfold gB cl cell
  split
  · exact ⟨Int.le_refl _,by omega⟩
  · show 0≤amt _ _∧amt _ _≤60
    unfold amt
    split
    · omega
    · rename_i h2
      have t3:=ci.tf.2.2.1
      have hlen:b.Table.Sum.toNat<(recAt p sx k).Values.length:=by rw [ci.v.1]; omega
      rw [gi_at hlen]
      exact fitV_ok hL ci.v _ (List.getElem_mem hlen)
def surv (p:List Int) (sx:List Variable) (l:List Published) (n:Nat):List (List Int):=sols (rules p sx l) [] (nT p sx) n
theorem att_of {p:List Int} {sx:List Variable} {l:List Published} (h:attOk p sx l=true):gOk p=true∧Lok sx∧nT p sx≤12∧pubsOk p sx l=true∧(rules p sx l).length≤12000:=by
  unfold attOk at h
  simp only [Bool.and_eq_true] at h
  have ⟨a,b,c,d⟩:=tyOk_of h.1
  refine ⟨a,c,d,h.2,?_⟩
  have hl:=h.2
  unfold pubsOk at hl
  simp only [Bool.and_eq_true,decide_eq_true_eq] at hl
  have h1:=rules_len (p:=p) (sx:=sx) (List.all_eq_true.1 hl.1)
  have:l.length * 600≤20 * 600:=Nat.mul_le_mul_right _ hl.2
  omega
theorem aSolve_ok {p:List Int} {sx:List Variable} {l:List Published} {n M:Nat} {Q:List (List Int)→Prop} (h:attOk p sx l=true) (hn:n≤8) (hM:M≤20000) (hq:Q ((surv p sx l n).take (M+1))):spec_aSolve ⟨p⟩ sx l (n:Int) (M:Int) Q:=by
  have ⟨a,b,c,d,e⟩:=att_of h
  unfold spec_aSolve
  refine aRules_ok (p:=p) a b c d ⟨(nT p sx:Int),aTypes_ok (p:=p) a b rfl,?_⟩
  exact sRun_ok (R:=rules p sx l) (T:=nT p sx) (M:=M) (x:=⟨(rules p sx l).map mkR,(nT p sx:Int),(M:Int),[]⟩) (pre:=[]) (rules_ab a b d) c hM e ⟨rfl,rfl,rfl⟩ (Nat.zero_le _) (fun x hx=>by cases hx) hn (Nat.zero_le _) hq
theorem solutions_ok {p:List Int} {sx:List Variable} {l:List Published} {n M:Nat} {Q:Int→Prop} (h:attOk p sx l=true) (hn:n≤8) (hM:M≤20001) (h0:0<M) (hq:Q ((min M (surv p sx l n).length:Nat):Int)):impl_solutions_impl_CountSurveys_1 ⟨p⟩ sx l (n:Int) (M:Int) Q:=by
  have ⟨a,b,c,d,e⟩:=att_of h
  have key:∀ (Q2:Bool→List Int→List Int→Int→Prop),(∀ x y z,Q2 x y z ((min M (surv p sx l n).length:Nat):Int)) →
      impl_search_from_impl_solutions_1_impl_CountSurveys_1 ⟨(rules p sx l).map mkC,List.replicate (Int.toNat (nT p sx:Int)) 0,List.replicate (Int.toNat (ln ((rules p sx l).map mkC))) 0⟩ 0 (M:Int) 0 (n:Int) Q2:=fun Q2 h2=>by
    have e1:List.replicate (Int.toNat (nT p sx:Int)) (0:Int)=cntOf (nT p sx) []:=by unfold cntOf; simp
    have e2:List.replicate (Int.toNat (ln ((rules p sx l).map mkC))) (0:Int)=sumsOf (rules p sx l) []:=by
      refine List.ext_getElem (by unfold sumsOf ln; simp) fun j h1 h2=>?_
      rw [sumsOf_at,dot_nil]; simp
    rw [e1,e2]
    refine from_ok (R:=rules p sx l) (T:=nT p sx) (M:=M) (pre:=[]) (found:=0) (rules_ab a b d) c hM e (Nat.zero_le _) (fun x hx=>by cases hx) hn h0 ?_
    have:=h2 (decide (0+(surv p sx l n).length<M)) (cntOf (nT p sx) []) (sumsOf (rules p sx l) [])
    simp only [Nat.zero_add] at this ⊢
    exact this
  have hb:=nT_b a b
  have hml:ln ((rules p sx l).map mkC)=((rules p sx l).length:Int):=by unfold ln; simp
  unfold impl_solutions_impl_CountSurveys_1
  refine conditionsOf_ok (p:=p) a b c d ⟨(nT p sx:Int),typeCount_ok (p:=p) a b rfl,?_⟩
  have k2:=key (fun _ _ _ r=>Q r) fun _ _ _=>hq
  first | exact ⟨by omega,by omega,by omega,by omega,k2⟩ | exact ⟨⟨by omega,by omega,by omega,by omega,k2⟩,⟨by omega,by omega,by omega,by omega,k2⟩,⟨by omega,by omega,by omega,by omega,k2⟩,⟨by omega,by omega,by omega,by omega,k2⟩⟩
end Go.Proofs.YtbgnaamdlcggjaaGreat
