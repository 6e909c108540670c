/- The program counts flows as the reference does. -/
import Derived.Test.YtommbnkecafodaaFX
set_option linter.unusedVariables false
set_option autoImplicit false
namespace Go.Proofs.Ytommbnkecafodaa
open Go Go.RowKit Go.Gv

theorem same_ok {a : Int} {b : Bool} {K : Bool → Prop} (h : K false) : jn (fun (k : Bool → Prop) => br (a != a) (k true) <| k (b != b)) K := by
  refine jn_bool false h fun k hk => br_ne (fun c => (c rfl).elim) fun _ => ?_
  have : (b != b) = false := by cases b <;> rfl
  rw [this]; exact hk
end Go.Proofs.Ytommbnkecafodaa
