/- The plain law of PackingBound. -/
import Derived.Test.YtdaojggigfnnpaaIdPure
set_option linter.unusedVariables false
set_option autoImplicit false
namespace Go.Proofs.Ytdaojggigfnnpaa
open Go Go.RowKit Go.Gv

/-! ### what is valid -/
/-! ### the levels of a number -/
def bl (m : Nat) : List Nat := (List.range 12).filter m.testBit
def cI (l : List Nat) : List Int := l.map fun (i : Nat) => (i : Int)
theorem shr_of {m i : Nat} (hi : i ≤ 62) : shr .i64 (m : Int) (i : Int) = ((m >>> i : Nat) : Int) := shr_nat hi
theorem shr12 {m : Nat} (h : m < 4096) : m >>> 12 = 0 := by rw [Nat.shiftRight_eq_div_pow]; exact Nat.div_eq_of_lt h
theorem bl_end {m i : Nat} (hi : i ≤ 12) (h : m >>> i = 0) : (List.range i).filter m.testBit = bl m := by
  have hb : ∀ j, i ≤ j → m.testBit j = false := fun j hj => by
    have h1 : m < 2 ^ i := by
      rw [Nat.shiftRight_eq_div_pow] at h
      exact (Nat.div_eq_zero_iff_lt (Nat.pow_pos (by decide))).1 h
    exact Nat.testBit_lt_two_pow (Nat.lt_of_lt_of_le h1 (Nat.pow_le_pow_right (by decide) hj))
  have key : ∀ d, i + d ≤ 12 → (List.range (i + d)).filter m.testBit = (List.range i).filter m.testBit := by
    intro d
    induction d with
    | zero => intro _; rfl
    | succ d ih => intro hd; rw [← Nat.add_assoc, List.range_succ, List.filter_append, ih (by omega), List.filter_cons, hb (i + d) (by omega)]; simp
  have := key (12 - i) (by omega)
  rw [show i + (12 - i) = 12 by omega] at this
  exact this.symm
theorem bl_step {m i : Nat} : cI ((List.range (i + 1)).filter m.testBit) = cI ((List.range i).filter m.testBit) ++ if m.testBit i then [(i : Int)] else [] := by
  unfold cI
  rw [List.range_succ, List.filter_append, List.map_append, List.filter_cons, List.filter_nil]
  split <;> rfl
theorem bl_pre {m i : Nat} : (cI ((List.range i).filter m.testBit)).length ≤ i := by
  unfold cI; rw [List.length_map]
  have := List.length_filter_le m.testBit (List.range i)
  rwa [List.length_range] at this
theorem bitq {m i : Nat} (hm : m < 4096) (hi : i ≤ 12) : (bits .and .i64 (shr .i64 (m : Int) (i : Int)) 1 == 1) = m.testBit i := by
  rw [bit_nat (by have : (2 : Nat) ^ 62 = 4611686018427387904 := by decide
                  omega) (by omega)]
  cases m.testBit i <;> rfl
theorem membersOf_ok {m : Nat} {Q : List Int → Prop} (hm : m < 4096) (hq : Q (cI (bl m))) : impl_membersOf (m : Int) Q := by
  unfold impl_membersOf
  refine ⟨fun o x => ∃ i : Nat, x = (i : Int) ∧ i ≤ 12 ∧ o = cI ((List.range i).filter m.testBit), fun _ x => (12 - x).toNat, ⟨0, rfl, by omega, rfl⟩, ?_⟩
  rintro _ _ ⟨i, rfl, hi, rfl⟩
  rw [shr_of (by omega)]
  refine ⟨by omega, br_ne (fun g => ?_) (fun g => ?_)⟩
  · have hi' : i < 12 := by
      apply Nat.lt_of_not_le; intro c
      have e : i = 12 := by omega
      subst e; rw [shr12 hm] at g; simp at g
    have hp := bl_pre (m := m) (i := i)
    rw [← shr_of (by omega), bitq hm hi]
    refine jn_bool (cI ((List.range (i + 1)).filter m.testBit)) ?_ fun k hk => ⟨by omega, br_bo (fun g1 => ⟨by unfold ln; simp only [List.length_singleton]; omega, ?_⟩) (fun g1 => ?_)⟩
    · rw [wr_in (by omega) (by omega)]
      refine ⟨⟨i + 1, by omega, by omega, rfl⟩, ?_⟩
      show (12 - ((i : Int) + 1)).toNat < (12 - (i : Int)).toNat
      omega
    · rw [bl_step, g1, if_pos rfl] at hk; exact hk
    · rw [bl_step, g1] at hk; simpa using hk
  · have : m >>> i = 0 := by generalize m >>> i = q at g; omega
    rw [bl_end hi this]; exact hq
theorem bl_len {m : Nat} : (bl m).length ≤ 12 := by
  unfold bl
  have := List.length_filter_le m.testBit (List.range 12)
  rwa [List.length_range] at this
/-! ### the least weight -/
def Win (w : List Int) (n : Nat) (vars : List Int) : Prop := (w.length = n ∧ n ≤ 6) ∧ (∀ x ∈ w, 1 ≤ x ∧ x ≤ 100) ∧ ∀ v ∈ vars, 0 ≤ v ∧ v < n
theorem Win.at {w : List Int} {n : Nat} {vars : List Int} (h : Win w n vars) {i : Nat} (hi : i < vars.length) : 0 ≤ vars[i] ∧ vars[i].toNat < w.length ∧ (1 ≤ gi w vars[i].toNat ∧ gi w vars[i].toNat ≤ 100) := by
  have h1 := h.2.2 _ (List.getElem_mem hi)
  have h2 := h.1
  have h3 : vars[i].toNat < w.length := by omega
  exact ⟨h1.1, h3, by rw [gi_at h3]; exact h.2.1 _ (List.getElem_mem h3)⟩
end Go.Proofs.Ytdaojggigfnnpaa
