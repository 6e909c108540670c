/- PackingBound: the program's search, the failed edits, the law. -/
import Derived.Test.YtklajcbpnpkniaaPpPure
set_option linter.unusedVariables false
set_option autoImplicit false
namespace Go.Proofs.Ytklajcbpnpkniaa
open Go Go.RowKit Go.Gv
section
variable {n : Nat} {w : List Int} {I : List (List Int)} {f : List Int}
theorem hasB_iff {l : List Int} {v : Int} : hasB l v = true ↔ v ∈ l := by
  unfold hasB
  rw [List.any_eq_true]
  constructor
  · rintro ⟨x, hx, e⟩; have : x = v := by simpa using e
    subst this; exact hx
  · intro h; exact ⟨v, h, by simp⟩
end
/-! ### the failed edits -/
end Go.Proofs.Ytklajcbpnpkniaa
