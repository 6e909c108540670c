/- The plain laws of TypeRanges and CertainTypes. -/
import Derived.Test.YtdgfkenlkpmlgaaGreatRC
import Derived.Test.YtdgfkenlkpmlgaaGreatRE
set_option linter.unusedVariables false
set_option autoImplicit false
namespace Go.Proofs.YtdgfkenlkpmlgaaGreat
open Go Go.RowKit Go.Gv
def trO (p:List Int) (sx:List Variable) (l:List Published) (n:Int):Bool:=askB p sx l n&&(decide (1≤(surv p sx l n.toNat).length)&&decide ((surv p sx l n.toNat).length≤20000))
theorem askB_of {p:List Int} {sx:List Variable} {l:List Published} {n:Int} (g:askB p sx l n=true):attOk p sx l=true∧0<nT p sx∧nT p sx≤12∧n.toNat≤8∧((n.toNat:Nat):Int)=n:=by
  unfold askB at g
  simp only [Bool.and_eq_true] at g
  have hn:=inb_iff'.1 g.2
  have ⟨a,b,c,d,e⟩:=att_of g.1
  exact ⟨g.1,nT_pos a b,c,by omega,by omega⟩
theorem aAll_ok {p:List Int} {sx:List Variable} {l:List Published} {n:Int} {Q:List (List Int)→Bool→Prop} (w:WD p sx l) (hf:trO p sx l n=false→∀ x,Q x false) (ht:trO p sx l n=true→Q (surv p sx l n.toNat) true):spec_aAll ⟨p⟩ sx l n Q:=by
  unfold spec_aAll
  refine aAsked_ok (p:=p) w.p w.s.1 w.s.2 w.b (br_nb (fun g=>?_) (fun g=>?_))
  · have g':askB p sx l n=false:=g
    exact hf (by unfold trO; rw [g',Bool.false_and]) _
  · have g':askB p sx l n=true:=g
    have ⟨h1,h2,h3,h4,en⟩:=askB_of g'
    have goal:spec_aSolve ⟨p⟩ sx l ((n.toNat:Nat):Int) ((20000:Nat):Int) (fun r22=>spec_l1In (ln r22) 1 20000 fun r34=>Q r22 r34):=by
      refine aSolve_ok (p:=p) (M:=20000) h1 (by omega) (by omega) (l1In_ok ?_)
      have e:(decide (1≤ln ((surv p sx l n.toNat).take (20000+1)))&&decide (ln ((surv p sx l n.toNat).take (20000+1))≤20000))=trO p sx l n:=by
        unfold trO
        rw [g',Bool.true_and,Bool.eq_iff_iff]
        unfold ln
        rw [List.length_take]
        simp only [Bool.and_eq_true,decide_eq_true_eq]
        omega
      rw [e]
      cases ho:trO p sx l n with
      | false=>exact hf ho _
      | true =>
        have ho2:=ho
        unfold trO at ho2
        simp only [Bool.and_eq_true,decide_eq_true_eq] at ho2
        rw [List.take_of_length_le (by omega)]
        exact ht ho
    rw [en] at goal
    exact goal
theorem trO_of {p:List Int} {sx:List Variable} {l:List Published} {n:Int} (h:trO p sx l n=true):askB p sx l n=true∧1≤(surv p sx l n.toNat).length∧(surv p sx l n.toNat).length≤20000:=by
  unfold trO at h
  simp only [Bool.and_eq_true,decide_eq_true_eq] at h
  exact ⟨h.1,h.2.1,h.2.2⟩
end Go.Proofs.YtdgfkenlkpmlgaaGreat
