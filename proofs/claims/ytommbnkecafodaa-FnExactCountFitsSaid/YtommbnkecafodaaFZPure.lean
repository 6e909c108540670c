/- The program counts the fits of a pattern as the reference does. -/
import Derived.Test.YtommbnkecafodaaFZ
import Derived.Test.YtommbnkecafodaaFYPure
set_option linter.unusedVariables false
set_option autoImplicit false
namespace Go.Proofs.Ytommbnkecafodaa
open Go Go.RowKit Go.Gv

theorem lawCountFits (aX aP : List (List Int)) (w0 : Wf.wf aX) (w1 : Wf.wf aP) : laws_FnExactCountFits aX aP (fun r => r = true) := by
  unfold laws_FnExactCountFits
  refine szIntSS_ok w0 (by omega) fun r a1 a2 => br_dec (fun _ => rfl) fun c => szIntSS_ok w1 (by omega) fun r' b1 b2 => br_dec (fun _ => rfl) fun c' => ?_
  have sX := a2 (by omega); have sP := b2 (by omega)
  refine toIntSS_ok sX (toIntSS_ok sP ?_)
  have fin : ∀ (a : Int) (b : Bool), jn (fun (k : Bool → Prop) => br (a != a) (k true) <| k (b != b)) (fun (x84 : Bool) => br (x84) (false = true) <| laws_toIntSS aX fun r88 => laws_eqIntSS aX r88 fun r98 => br (!r98) (false = true) <| laws_toIntSS aP fun r105 => laws_eqIntSS aP r105 fun r117 => br (!r117) (false = true) <| true = true) := fun a b =>
    same_ok (br_false rfl (toIntSS_ok sX (eqIntSS_same sX (br_false rfl (toIntSS_ok sP (eqIntSS_same sP (br_false rfl rfl)))))))
  by_cases h : Sp aX aP
  · obtain ⟨g1, g2, e1, e2⟩ := h
    have hp : Sh aX.length (aX.getD 0 []).length aP := by have := g2.sh; rw [e1, e2] at this; exact this
    unfold spec_CountFits
    refine qPattern_ok sX sP fun b hb => br_false (by rw [hb.2 ⟨g1, g2, e1, e2⟩]; rfl) (qNetwork_ok g1 hp fun t nt => ?_)
    have gd := nt.gd g1
    refine specCount_ok (t := t) gd.smallT (fun hn => ?_) fun n m g => ?_
    · have r1 := gd.rl; have r2 := gd.cl; rw [r1, r2] at hn; exact (hn gd).elim
    have r1 := gd.rl; have r2 := gd.cl; have r3 := g.rl; have r4 := g.cl
    have e3 : n = aX.length := by omega
    have e4 : m = (aX.getD 0 []).length := by omega
    subst e3; subst e4
    refine toIntSS_ok sX (toIntSS_ok sP ?_)
    unfold impl_CountFits
    refine areSuppressed_ok sX sP fun b hb => br_false (by rw [hb.2 ⟨g1, g2, e1, e2⟩]; rfl) (attack_ok g1 hp fun u nu => ?_)
    have eu := nt.uniq nu
    subst eu
    exact countFlows_ok (t := t) gd (fin _ _)
  · unfold spec_CountFits
    refine qPattern_ok sX sP fun b hb => br_true (by have : b = false := by (rw [Bool.eq_false_iff]; exact fun e => h (hb.1 e))
                                                     rw [this]; rfl) (toIntSS_ok sX (toIntSS_ok sP ?_))
    unfold impl_CountFits
    refine areSuppressed_ok sX sP fun b hb => br_true (by have : b = false := by (rw [Bool.eq_false_iff]; exact fun e => h (hb.1 e))
                                                          rw [this]; rfl) (fin _ _)
end Go.Proofs.Ytommbnkecafodaa
