/- The plain law of FnElimination. -/
import Derived.Test.YtklajcbpnpkniaaNE
set_option linter.unusedVariables false
set_option autoImplicit false
namespace Go.Proofs.Ytklajcbpnpkniaa
open Go Go.RowKit Go.Gv

/-! ### draws -/
theorem values_ok {code : List B8} {sx : List Variable} {a s : Int} {Q : List Int → Int → Int → Prop} (hc : bytesOk code) (hl : sx.length ≤ 7) (ha : 0 ≤ a ∧ a ≤ 900000000000) (h : ∀ l a' s', l.length = sx.length → 0 ≤ a' → a' ≤ a + 14 → Q l a' s') : spec_l1Cur_values ⟨code, a, s⟩ sx Q := by
  unfold spec_l1Cur_values
  dsimp only
  refine ⟨fun o x at1 _ => ∃ n : Nat, x = (n : Int) ∧ n ≤ sx.length ∧ o.length = n ∧ 0 ≤ at1 ∧ at1 ≤ a + 2 * (n : Int), fun _ x _ _ => ((sx.length : Int) - x).toNat, ⟨0, rfl, Nat.zero_le _, rfl, ha.1, by omega⟩, ?_⟩
  rintro o _ at1 s1 ⟨n, rfl, hn, hlo, h0, h1⟩
  refine br_dec (fun g => ?_) (fun g => h _ _ _ (by unfold ln at g; omega) h0 (by omega))
  unfold ln at g
  refine idx_at (by omega) (pick_ok hc (by unfold atOk; omega) fun r a1 s2 _ _ _ k2 k3 => ⟨by unfold ln; simp only [List.length_singleton]; omega, ?_⟩)
  rw [wr_in (by omega) (by omega)]
  exact ⟨⟨n + 1, by omega, by omega, by simp; omega, k2, by omega⟩, by dsimp only; omega⟩
/-! ### what the law asks -/
theorem vals_fitOk {sx : List Variable} (hL : Lok sx) (i : Nat) : fitOk sx (vals sx i) = true := by
  unfold fitOk
  simp only [Bool.and_eq_true, decide_eq_true_eq]
  refine ⟨vals_length sx i, List.all_eq_true.2 fun j hj => ?_⟩
  have hj := List.mem_range.1 hj
  have h1 := vals_fit hL i j hj
  have h2 := (lv_at hL hj).1
  rw [vAt_at hj] at h1 ⊢
  rw [inb_iff']; omega
end Go.Proofs.Ytklajcbpnpkniaa
