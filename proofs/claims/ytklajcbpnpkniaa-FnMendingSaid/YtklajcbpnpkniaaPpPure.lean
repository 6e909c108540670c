/- PackingBound: what both search for. -/
import Derived.Test.YtklajcbpnpkniaaPkPure
set_option linter.unusedVariables false
set_option autoImplicit false
namespace Go.Proofs.Ytklajcbpnpkniaa
open Go Go.RowKit Go.Gv

/-! ### the sets of variables as numbers -/
def mkN (vars : List Int) : Nat := vars.foldl (fun m v => m ||| 2 ^ v.toNat) 0
theorem mkN_take {vars : List Int} {i : Nat} (hi : i < vars.length) : mkN (vars.take (i + 1)) = mkN (vars.take i) ||| 2 ^ vars[i].toNat := by
  unfold mkN; rw [List.take_succ_eq_append_getElem hi, List.foldl_append]; rfl
theorem hasB_append {a b : List Int} {v : Int} : hasB (a ++ b) v = (hasB a v || hasB b v) := by unfold hasB; rw [List.any_append]
theorem mkN_ok {vars : List Int} (h : ∀ v ∈ vars, 0 ≤ v ∧ v < 6) : ∀ i, i ≤ vars.length → mkN (vars.take i) < 64 ∧ ∀ v : Nat, (mkN (vars.take i)).testBit v = hasB (vars.take i) (v : Int) := by
  intro i
  induction i with
  | zero => intro _; rw [List.take_zero]; exact ⟨by decide, fun v => by show Nat.testBit 0 v = false; simp⟩
  | succ i ih =>
    intro hi
    have ⟨h1, h2⟩ := ih (by omega)
    have hv := h _ (List.getElem_mem (show i < vars.length by omega))
    rw [mkN_take (by omega), List.take_succ_eq_append_getElem (by omega)]
    refine ⟨?_, fun v => ?_⟩
    · exact Nat.or_lt_two_pow (n := 6) h1 (Nat.pow_lt_pow_right (by decide) (by omega))
    · rw [Nat.testBit_or, h2 v, hasB_append, Nat.testBit_two_pow]
      congr 1
      unfold hasB
      simp only [List.any_cons, List.any_nil, Bool.or_false]
      rw [Bool.eq_iff_iff]; simp; omega
/-! ### choices -/
section
variable (w : List Int) (I : List (List Int))
def gI (k : Nat) : List Int := I.getD k []
def usedTo (ks : List Nat) : List Int := ks.flatMap (gI I)
def sumTo (ks : List Nat) : Int := (ks.map fun k => lst w (gI I k)).sum
def apartTo (ks : List Nat) (j : Nat) : Bool := (List.range j).all fun i => !((gI I (ks.getD i 0)).any fun v => hasB (usedTo I (ks.take i)) v)
def valK (m : Nat) : Int := if apartTo I (bl m) (bl m).length then sumTo w I (bl m) else -1
def bst : Nat → Int × Nat
  | 0 => (0, 0)
  | m + 1 => if valK w I m > (bst m).1 then (valK w I m, m) else bst m
end
def listOf (f : List Int) (m : Nat) : List Int := (bl m).map fun k => gi f k
structure PkIn (n : Nat) (w : List Int) (I : List (List Int)) (f : List Int) : Prop where
  wl : w.length = n ∧ n ≤ 6
  wb : ∀ x ∈ w, 1 ≤ x ∧ x ≤ 100
  il : I.length ≤ 12
  fl : f.length = I.length
  iv : ∀ vars ∈ I, (0 < vars.length ∧ vars.length ≤ 6) ∧ ∀ v ∈ vars, 0 ≤ v ∧ v < n
section
variable {n : Nat} {w : List Int} {I : List (List Int)} {f : List Int}
theorem gI_at {k : Nat} (h : k < I.length) : gI I k = I[k] := by unfold gI; simp [List.getD_eq_getElem?_getD, h]
theorem PkIn.win (h : PkIn n w I f) {k : Nat} (hk : k < I.length) : Win w n (gI I k) := ⟨h.wl, h.wb, by rw [gI_at hk]; exact (h.iv _ (List.getElem_mem hk)).2⟩
theorem PkIn.len (h : PkIn n w I f) {k : Nat} (hk : k < I.length) : 0 < (gI I k).length ∧ (gI I k).length ≤ 6 := by rw [gI_at hk]; exact (h.iv _ (List.getElem_mem hk)).1
theorem PkIn.lstb (h : PkIn n w I f) {k : Nat} (hk : k < I.length) : 1 ≤ lst w (gI I k) ∧ lst w (gI I k) ≤ 101 := by
  have := lst_b (h.win hk) (gI I k).length (Nat.le_refl _); rwa [List.take_length] at this
theorem bl_at {m i : Nat} (hm : m < 2 ^ I.length) (hi : i < (bl m).length) : (bl m)[i] < I.length := bl_lt hm (List.getElem_mem hi)
theorem sumTo_succ {ks : List Nat} {i : Nat} (hi : i < ks.length) : sumTo w I (ks.take (i + 1)) = sumTo w I (ks.take i) + lst w (gI I ks[i]) := by
  unfold sumTo; rw [List.take_succ_eq_append_getElem hi, List.map_append, List.sum_append]; simp
theorem usedTo_succ {ks : List Nat} {i : Nat} (hi : i < ks.length) : usedTo I (ks.take (i + 1)) = usedTo I (ks.take i) ++ gI I ks[i] := by
  unfold usedTo; rw [List.take_succ_eq_append_getElem hi, List.flatMap_append]; simp
theorem sum_b (h : PkIn n w I f) {m : Nat} (hm : m < 2 ^ I.length) : ∀ i, i ≤ (bl m).length → 0 ≤ sumTo w I ((bl m).take i) ∧ sumTo w I ((bl m).take i) ≤ 101 * (i : Int) := by
  intro i
  induction i with
  | zero => intro _; exact ⟨by simp [sumTo], by simp [sumTo]⟩
  | succ i ih =>
    intro hi
    have := ih (by omega)
    have h2 := h.lstb (bl_at hm (show i < (bl m).length by omega))
    rw [sumTo_succ (by omega)]; omega
theorem valK_b (h : PkIn n w I f) {m : Nat} (hm : m < 2 ^ I.length) : -1 ≤ valK w I m ∧ valK w I m ≤ 2000 := by
  unfold valK
  have := sum_b h hm (bl m).length (Nat.le_refl _)
  rw [List.take_length] at this
  have := bl_len (m := m)
  split <;> omega
theorem bst_b (h : PkIn n w I f) : ∀ m, m ≤ 2 ^ I.length → 0 ≤ (bst w I m).1 ∧ (bst w I m).1 ≤ 2000 ∧ (bst w I m).2 < 2 ^ I.length := by
  intro m
  induction m with
  | zero => intro _; exact ⟨by simp [bst], by simp [bst], by simp only [bst]; exact Nat.pow_pos (by decide)⟩
  | succ m ih =>
    intro hm
    have := ih (by omega)
    have hv := valK_b h (show m < 2 ^ I.length by omega)
    simp only [bst]
    split
    · exact ⟨by omega, hv.2, hm⟩
    · exact this
theorem pow12 (h : I.length ≤ 12) : 2 ^ I.length ≤ 4096 := by
  have := Nat.pow_le_pow_right (n := 2) (by decide) h
  have e : (2 : Nat) ^ 12 = 4096 := by decide
  omega
theorem apart_succ {ks : List Nat} {j : Nat} (hj : j < ks.length) : apartTo I ks (j + 1) = (apartTo I ks j && !((gI I ks[j]).any fun v => hasB (usedTo I (ks.take j)) v)) := by
  unfold apartTo; rw [range_all_snoc]
  have : ks.getD j 0 = ks[j] := by simp [List.getD_eq_getElem?_getD, hj]
  rw [this]
end
end Go.Proofs.Ytklajcbpnpkniaa
