/- The program counts flows as the reference does. -/
import Derived.Test.YtommbnkecafodaaFX
set_option linter.unusedVariables false
set_option autoImplicit false
namespace Go.Proofs.Ytommbnkecafodaa
open Go Go.RowKit Go.Gv

theorem same_ok {a : Int} {b : Bool} {K : Bool → Prop} (h : K false) : jn (fun (k : Bool → Prop) => br (a != a) (k true) <| k (b != b)) K := by
  refine jn_bool false h fun k hk => br_ne (fun c => (c rfl).elim) fun _ => ?_
  have : (b != b) = false := by cases b <;> rfl
  rw [this]; exact hk
theorem lawCountFlows (aT : Transport) (hw : Wf.wf aT) : laws_FnExactCountFlows aT (fun r => r = true) := by
  unfold laws_FnExactCountFlows
  refine szTransport_ok hw (by omega) fun r hr => br_dec (fun _ => rfl) fun c => ?_
  have hs := hr (by omega)
  refine toTransport_ok hs ?_
  refine specCount_ok (t := aT) hs (fun hn => toTransport_ok hs (implCount_ok (t := aT) hs (fun _ => ?_) fun n m g => ?_)) fun n m g => toTransport_ok hs (implCount_ok (t := aT) hs (fun hn => ?_) fun n' m' g' => ?_)
  · exact same_ok (br_false rfl (toTransport_ok hs (eqTransport_same (t := aT) hs (br_false rfl rfl))))
  · have e1 := g.rl; have e2 := g.cl; subst e1; subst e2; exact (hn g).elim
  · have e1 := g.rl; have e2 := g.cl; subst e1; subst e2; exact (hn g).elim
  · have e1 := g.rl; have e2 := g.cl; have e3 := g'.rl; have e4 := g'.cl; subst e1; subst e2; subst e3; subst e4
    exact same_ok (br_false rfl (toTransport_ok hs (eqTransport_same (t := aT) hs (br_false rfl rfl))))
end Go.Proofs.Ytommbnkecafodaa
