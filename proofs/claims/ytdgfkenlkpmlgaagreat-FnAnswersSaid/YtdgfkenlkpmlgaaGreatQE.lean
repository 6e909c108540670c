/- Plain facts about attacks: the program's search, whole. -/
import Derived.Test.YtdgfkenlkpmlgaaGreatQD
set_option linter.unusedVariables false
set_option autoImplicit false
namespace Go.Proofs.YtdgfkenlkpmlgaaGreat
open Go Go.RowKit Go.Gv
theorem sumsOf_len {R:List (List Int×Int)} {pre:List Int}:(sumsOf R pre).length=R.length:=by simp [sumsOf]
theorem sumsOf_at {R:List (List Int×Int)} {pre:List Int} {j:Nat} (h:j<(sumsOf R pre).length):(sumsOf R pre)[j]=dot (R[j]'(by rw [sumsOf_len] at h; exact h)).1 pre:=by simp [sumsOf]
end Go.Proofs.YtdgfkenlkpmlgaaGreat
