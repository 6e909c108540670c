/- Plain facts: maximal edits; the laws of EliminateVariable and MaximalEdits. -/
import Derived.Test.YtklajcbpnpkniaaPJ
set_option linter.unusedVariables false
set_option autoImplicit false
namespace Go.Proofs.Ytklajcbpnpkniaa
open Go Go.RowKit Go.Gv

theorem sOr_ge {s : Int} {y : Nat} (h : 0 ≤ s) : s ≤ sOr s (y : Int) := by
  unfold sOr
  have : s.toNat ≤ s.toNat ||| 2 ^ (y : Int).toNat := Nat.left_le_or
  omega
theorem sOr_full {x : Variable} {r : List Variable} (hr : Rok (x :: r)) {s : Int} {y : Nat} (h : 0 ≤ s ∧ s ≤ full x) (hy : y < lv x) : sOr s (y : Int) ≤ full x := by
  have ⟨_, _, _, h5⟩ := hr.head
  have e : ((2 ^ lv x : Nat) : Int) = 2 ^ lv x := by simp
  have := (sOr_lt (s := s) (x := (y : Int)) (L := lv x) h.1 (by omega) (by omega) (by omega)).2
  omega
theorem inE_set {v : Int} : ∀ {r : List Variable} {n : Nat} {t : List Int} {k y : Nat}, Rok r → inE v n r t → (hk : k < r.length) → y < lv (vAt r k) → inE v n r (t.set k (sOr (gi t k) (y : Int)))
  | x :: r, n, s :: t, 0, y, hr, h, _, hy => by
    have ⟨_, h3, _, _⟩ := hr.head
    have hf := frs_at (v := v) (n := n) h3
    have h1 := h.1
    have hy' : y < lv x := by simpa [vAt] using hy
    refine ⟨?_, h.2⟩
    have e : gi (s :: t) 0 = s := rfl
    rw [e]
    have := sOr_ge (s := s) (y := y) (by omega)
    have := sOr_full hr (s := s) (y := y) (by omega) hy'
    omega
  | x :: r, n, s :: t, k + 1, y, hr, h, hk, hy => by
    refine ⟨h.1, ?_⟩
    have := inE_set (v := v) (r := r) (n := n + 1) (t := t) (k := k) (y := y) hr.tail h.2 (by simpa using hk) (by simpa [vAt] using hy)
    simpa [gi] using this
/-! ### both give the same -/
def pass (sx : List Variable) (l : List Edit) : List (List Int) := ((List.range (cnt sx)).filter fun i => !failsB l (vals sx i)).map (vals sx)
/-! ### EliminateVariable -/
def Wide (sx : List Variable) (l : List Edit) : Prop := (sx.length ≤ 1048576 ∧ ∀ x ∈ sx, x.Name.size ≤ 1048576) ∧ (l.length ≤ 1048576 ∧ ∀ e ∈ l, e.Sets.length ≤ 1048576)
theorem smOk_of {sx : List Variable} (h : smOk sx = true) : Lok sx ∧ cnt sx ≤ 100 ∧ 1 ≤ sx.length := by
  unfold smOk at h
  simp only [Bool.and_eq_true, decide_eq_true_eq] at h
  exact ⟨Lok_of h.1, h.2, (schOk_of h.1).1.1⟩
end Go.Proofs.Ytklajcbpnpkniaa
