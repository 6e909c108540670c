/- PackingBound: what both search for. -/
import Derived.Test.YtklajcbpnpkniaaPkPure
set_option linter.unusedVariables false
set_option autoImplicit false
namespace Go.Proofs.Ytklajcbpnpkniaa
open Go Go.RowKit Go.Gv

/-! ### the sets of variables as numbers -/
/-! ### choices -/
section
variable (w : List Int) (I : List (List Int))
def gI (k : Nat) : List Int := I.getD k []
end
structure PkIn (n : Nat) (w : List Int) (I : List (List Int)) (f : List Int) : Prop where
  wl : w.length = n ∧ n ≤ 6
  wb : ∀ x ∈ w, 1 ≤ x ∧ x ≤ 100
  il : I.length ≤ 12
  fl : f.length = I.length
  iv : ∀ vars ∈ I, (0 < vars.length ∧ vars.length ≤ 6) ∧ ∀ v ∈ vars, 0 ≤ v ∧ v < n
section
variable {n : Nat} {w : List Int} {I : List (List Int)} {f : List Int}
theorem gI_at {k : Nat} (h : k < I.length) : gI I k = I[k] := by unfold gI; simp [List.getD_eq_getElem?_getD, h]
theorem PkIn.len (h : PkIn n w I f) {k : Nat} (hk : k < I.length) : 0 < (gI I k).length ∧ (gI I k).length ≤ 6 := by rw [gI_at hk]; exact (h.iv _ (List.getElem_mem hk)).1
end
end Go.Proofs.Ytklajcbpnpkniaa
