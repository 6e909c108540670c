/- The plain law of IsSafeRelease. -/
import Derived.Test.YtbgnaamdlcggjaaGreatQGPure
set_option linter.unusedVariables false
set_option autoImplicit false
namespace Go.Proofs.YtbgnaamdlcggjaaGreat
open Go Go.RowKit Go.Gv
theorem solutionsS_eq : @impl_solutions_impl_IsSafeRelease_1 = @impl_solutions_impl_CountSurveys_1:=rfl
def safB (p:List Int) (sx:List Variable) (l:List Published) (n f:Int):Bool:=askB p sx l n&&inb 0 20000 f
def saf (p:List Int) (sx:List Variable) (l:List Published) (n f:Int):Bool:=safB p sx l n f&&decide (f≤((surv p sx l n.toNat).length:Int))
theorem sSafe_ok {p:List Int} {sx:List Variable} {l:List Published} {n f:Int} {Q:Bool→Bool→Prop} (w:WD p sx l) (hq:Q (saf p sx l n f) (safB p sx l n f)):spec_IsSafeRelease ⟨p⟩ sx l n f Q:=by
  unfold spec_IsSafeRelease
  refine jn_bool (!safB p sx l n f) ?_ fun k hk=>aAsked_ok (p:=p) w.p w.s.1 w.s.2 w.b (br_nb (fun g=>?_) (fun g=>l1In_ok ?_))
  · refine br_nb (fun g=>?_) (fun g=>?_)
    · unfold saf at hq; rw [g] at hq; simpa using hq
    · have gg:=g
      unfold safB askB at gg
      simp only [Bool.and_eq_true] at gg
      have hn:=inb_iff'.1 gg.1.2
      have hf:=inb_iff'.1 gg.2
      have en:((n.toNat:Nat):Int)=n:=by omega
      refine jn_bool (decide (f≤((surv p sx l n.toNat).length:Int))) ?_ fun k hk=>br_eq (fun g2=>?_) (fun g2=>?_)
      · unfold saf at hq; rw [g,Bool.true_and] at hq; exact hq
      · rw [decide_eq_true (by omega)] at hk; exact hk
      · have goal:spec_aSolve ⟨p⟩ sx l ((n.toNat:Nat):Int) (((f-1).toNat:Nat):Int) (fun r47=>k (decide (ln r47≥f))):=by
          refine aSolve_ok (p:=p) (M:=(f-1).toNat) gg.1.1 (by omega) (by omega) ?_
          have hlen:((surv p sx l n.toNat).take ((f-1).toNat+1)).length=min ((f-1).toNat+1) (surv p sx l n.toNat).length:=by rw [List.length_take]
          have e:decide (ln ((surv p sx l n.toNat).take ((f-1).toNat+1))≥f)=decide (f≤((surv p sx l n.toNat).length:Int)):=by
            rw [Bool.eq_iff_iff]; unfold ln; rw [hlen]; simp only [decide_eq_true_eq]; omega
          rw [e]; exact hk
        rw [en] at goal
        rw [wr_in (by omega) (by omega)]
        rw [show (((f-1).toNat:Nat):Int)=f-1 by omega] at goal
        exact goal
  · unfold safB askB at hk; rw [show (attOk p sx l&&inb 0 8 n)=false from g] at hk; exact hk
  · unfold safB askB at hk; rw [show (attOk p sx l&&inb 0 8 n)=true from g,Bool.true_and] at hk; exact hk
theorem iSafe_ok {p:List Int} {sx:List Variable} {l:List Published} {n f:Int} {Q:Bool→Bool→Prop} (w:WD p sx l) (hq:Q (saf p sx l n f) (safB p sx l n f)):impl_IsSafeRelease ⟨p⟩ sx l n f Q:=by
  unfold impl_IsSafeRelease
  refine jn_bool (!safB p sx l n f) ?_ fun k hk=>areAttacked_ok (p:=p) w.p w.s.1 w.b (br_nb (fun g=>?_) (fun g=>isPersons_ok (br_nb (fun g2=>?_) (fun g2=>br_dec (fun g3=>?_) (fun g3=>?_)))))
  · refine br_nb (fun g=>?_) (fun g=>br_eq (fun g2=>?_) (fun g2=>?_))
    · unfold saf at hq; rw [g] at hq; simpa using hq
    · unfold saf at hq; rw [g,decide_eq_true (by omega)] at hq; exact hq
    · have gg:=g
      unfold safB askB at gg
      simp only [Bool.and_eq_true] at gg
      have hn:=inb_iff'.1 gg.1.2
      have hf:=inb_iff'.1 gg.2
      have en:((n.toNat:Nat):Int)=n:=by omega
      have ef:((f.toNat:Nat):Int)=f:=by omega
      rw [solutionsS_eq]
      have goal:impl_solutions_impl_CountSurveys_1 ⟨p⟩ sx l ((n.toNat:Nat):Int) ((f.toNat:Nat):Int) (fun r41=>Q (decide (r41≥f)) true):=by
        refine solutions_ok (p:=p) (M:=f.toNat) gg.1.1 (by omega) (by omega) (by omega) ?_
        have e:decide ((((min f.toNat (surv p sx l n.toNat).length:Nat)):Int)≥f)=decide (f≤((surv p sx l n.toNat).length:Int)):=by
          rw [Bool.eq_iff_iff]; simp only [decide_eq_true_eq]; omega
        unfold saf at hq
        rw [g,Bool.true_and] at hq
        rw [e]; exact hq
      rw [en,ef] at goal
      exact goal
  · unfold safB askB at hk; rw [g] at hk; exact hk
  · unfold safB askB at hk; rw [g,g2] at hk; exact hk
  · unfold safB askB at hk; rw [g,g2,show inb 0 20000 f=false by rw [Bool.eq_false_iff,ne_eq,inb_iff']; omega] at hk; exact hk
  · unfold safB askB at hk; rw [g,g2,Bool.true_and,Bool.true_and] at hk
    have e:decide (f>20000)=!inb 0 20000 f:=by
      rw [Bool.eq_iff_iff]; simp only [decide_eq_true_eq,Bool.not_eq_true',Bool.eq_false_iff,ne_eq,inb_iff']; omega
    rw [e]; exact hk
end Go.Proofs.YtbgnaamdlcggjaaGreat
