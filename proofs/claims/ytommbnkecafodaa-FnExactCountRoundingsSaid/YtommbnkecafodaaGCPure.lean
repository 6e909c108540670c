/- The program counts roundings as the reference does. -/
import Derived.Test.YtommbnkecafodaaGC
import Derived.Test.YtommbnkecafodaaFYPure
set_option linter.unusedVariables false
set_option autoImplicit false
namespace Go.Proofs.Ytommbnkecafodaa
open Go Go.RowKit Go.Gv

theorem lawCountRoundings (aX : List (List Int)) (aBase : Int) (w0 : Wf.wf aX) (w1 : Wf.wf aBase) : laws_FnExactCountRoundings aX aBase (fun r => r = true) := by
  unfold laws_FnExactCountRoundings
  refine szIntSS_ok w0 (by omega) fun r a1 a2 => br_dec (fun _ => rfl) fun c => ?_
  have sX := a2 (by omega)
  refine toIntSS_ok sX ?_
  have fin : ∀ (a : Int) (b : Bool), jn (fun (k : Bool → Prop) => br (a != a) (k true) <| k (b != b)) (fun (x39 : Bool) => br (x39) (false = true) <| laws_toIntSS aX fun r43 => laws_eqIntSS aX r43 fun r53 => br (!r53) (false = true) <| true = true) := fun a b =>
    same_ok (br_false rfl (toIntSS_ok sX (eqIntSS_same sX (br_false rfl rfl))))
  by_cases h : Mx aX ∧ 2 ≤ aBase ∧ aBase ≤ 100
  · obtain ⟨mx, hb⟩ := h
    unfold spec_CountRoundings
    refine oGood_ok sX fun b hb' => br_false (by rw [hb'.2 ⟨mx, hb⟩]; rfl) (oNetwork_ok mx.g mx.n7 mx.m7 hb fun t nt => ?_)
    have gd := nt.gd mx.g mx.n7 mx.m7 hb
    refine specCount_ok (t := t) gd.smallT (fun hn => ?_) fun n m g => ?_
    · have r1 := gd.rl; have r2 := gd.cl; rw [r1, r2] at hn; exact (hn gd).elim
    have r1 := gd.rl; have r2 := gd.cl; have r3 := g.rl; have r4 := g.cl
    have e3 : n = aX.length + 1 := by omega
    have e4 : m = (aX.getD 0 []).length + 1 := by omega
    subst e3; subst e4
    refine toIntSS_ok sX ?_
    unfold impl_CountRoundings
    refine jn_bool false (br_false rfl (rNet_ok mx.g mx.n7 mx.m7 hb fun u nu => ?_)) fun k hk => isMatrix_ok sX fun b hb' => br_false (by rw [hb'.2 mx]; rfl) (isBase_ok fun b hb' => by rw [hb'.2 hb]; exact hk)
    have eu := nt.uniq nu
    subst eu
    exact countFlows_ok (t := t) gd (fin _ _)
  · unfold spec_CountRoundings
    refine oGood_ok sX fun b hb' => br_true (by rw [show b = false from Bool.eq_false_iff.2 fun e => h (hb'.1 e)]; rfl) (toIntSS_ok sX ?_)
    unfold impl_CountRoundings
    refine jn_bool true (br_true rfl (fin _ _)) fun k hk => isMatrix_ok sX fun b hb' => br_nb (fun _ => hk) fun e => isBase_ok fun b2 hb2 => ?_
    rw [show b2 = false from Bool.eq_false_iff.2 fun e2 => h ⟨hb'.1 e, hb2.1 e2⟩]; exact hk
end Go.Proofs.Ytommbnkecafodaa
