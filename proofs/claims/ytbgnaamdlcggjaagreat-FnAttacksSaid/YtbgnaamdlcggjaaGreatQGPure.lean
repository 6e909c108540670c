/- The plain law of CountSurveys. -/
import Derived.Test.YtbgnaamdlcggjaaGreatQF
set_option linter.unusedVariables false
set_option autoImplicit false
namespace Go.Proofs.YtbgnaamdlcggjaaGreat
open Go Go.RowKit Go.Gv
def askB (p:List Int) (sx:List Variable) (l:List Published) (n:Int):Bool:=attOk p sx l&&inb 0 8 n
def csN (p:List Int) (sx:List Variable) (l:List Published) (n:Int):Nat:=if askB p sx l n=true∧(surv p sx l n.toNat).length≤20000 then (surv p sx l n.toNat).length else 0
def csB (p:List Int) (sx:List Variable) (l:List Published) (n:Int):Bool:=askB p sx l n&&decide ((surv p sx l n.toNat).length≤20000)
structure WD (p:List Int) (sx:List Variable) (l:List Published):Prop where
  p:p.length≤1048576
  s:sx.length≤1048576∧∀ x∈sx,x.Name.size≤1048576
  b:Wp l
theorem sCount2_ok {p:List Int} {sx:List Variable} {l:List Published} {n:Int} {Q:Int→Bool→Prop} (w:WD p sx l) (hq:Q (csN p sx l n:Int) (csB p sx l n)):spec_CountSurveys ⟨p⟩ sx l n Q:=by
  unfold spec_CountSurveys
  refine aAsked_ok (p:=p) w.p w.s.1 w.s.2 w.b (br_nb (fun g=>?_) (fun g=>?_))
  · have g':askB p sx l n=false:=g
    unfold csN csB at hq
    rw [g'] at hq
    simpa using hq
  · have g':askB p sx l n=true:=g
    have gg:=g
    simp only [Bool.and_eq_true] at gg
    have hn:=inb_iff'.1 gg.2
    have en:((n.toNat:Nat):Int)=n:=by omega
    rw [← en]
    refine aSolve_ok (p:=p) (M:=20000) gg.1 (by omega) (by omega) ?_
    unfold csN csB at hq
    rw [g'] at hq
    have hlen:((surv p sx l n.toNat).take (20000+1)).length=min 20001 (surv p sx l n.toNat).length:=by rw [List.length_take]
    refine br_dec (fun g2=>?_) (fun g2=>?_)
    · have:¬ (surv p sx l n.toNat).length≤20000:=by unfold ln at g2; omega
      rw [if_neg (fun c=>this c.2),decide_eq_false this] at hq; exact hq
    · have:(surv p sx l n.toNat).length≤20000:=by unfold ln at g2; omega
      rw [if_pos ⟨rfl,this⟩,decide_eq_true this] at hq
      have e:ln ((surv p sx l n.toNat).take (20000+1))=((surv p sx l n.toNat).length:Int):=by unfold ln; rw [hlen]; omega
      rw [e]; exact hq
theorem iCount2_ok {p:List Int} {sx:List Variable} {l:List Published} {n:Int} {Q:Int→Bool→Prop} (w:WD p sx l) (hq:Q (csN p sx l n:Int) (csB p sx l n)):impl_CountSurveys ⟨p⟩ sx l n Q:=by
  unfold impl_CountSurveys
  refine jn_bool (!askB p sx l n) ?_ fun k hk=>areAttacked_ok (p:=p) w.p w.s.1 w.b (br_nb (fun g=>?_) (fun g=>isPersons_ok ?_))
  · refine br_nb (fun g=>?_) (fun g'=>?_)
    · unfold csN csB at hq
      rw [g] at hq
      simpa using hq
    · have gg:=g'
      unfold askB at gg
      simp only [Bool.and_eq_true] at gg
      have hn:=inb_iff'.1 gg.2
      have en:((n.toNat:Nat):Int)=n:=by omega
      unfold csN csB at hq
      rw [g'] at hq
      have goal:impl_solutions_impl_CountSurveys_1 ⟨p⟩ sx l ((n.toNat:Nat):Int) ((20001:Nat):Int) (fun r41=>br (decide (r41>20000)) (Q 0 false) (Q r41 true)):=by
        refine solutions_ok (p:=p) (M:=20001) gg.1 (by omega) (by omega) (by omega) (br_dec (fun g2=>?_) (fun g2=>?_))
        · have:¬ (surv p sx l n.toNat).length≤20000:=by omega
          rw [if_neg (fun c=>this c.2),decide_eq_false this] at hq; exact hq
        · have:(surv p sx l n.toNat).length≤20000:=by omega
          rw [if_pos ⟨rfl,this⟩,decide_eq_true this] at hq
          rw [Nat.min_eq_right (by omega)]; exact hq
      rw [en] at goal
      exact goal
  · unfold askB at hk; rw [g] at hk; exact hk
  · unfold askB at hk; rw [g,Bool.true_and] at hk; exact hk
end Go.Proofs.YtbgnaamdlcggjaaGreat
