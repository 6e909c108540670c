/- The plain law of PackingBound. -/
import Derived.Test.YtklajcbpnpkniaaIdPure
set_option linter.unusedVariables false
set_option autoImplicit false
namespace Go.Proofs.Ytklajcbpnpkniaa
open Go Go.RowKit Go.Gv

/-! ### what is valid -/
def wOk (sx : List Variable) (w : List Int) : Bool := decide (w.length = sx.length) && w.all (inb 1 100)
theorem iWeights_ok {sx : List Variable} {w : List Int} {Q : Bool → Prop} (hw : w.length ≤ 1048576) (hq : Q (wOk sx w)) : spec_iWeights sx w Q := by
  unfold spec_iWeights
  refine jn_bool (wOk sx w) hq fun k hk => br_eq (fun g => l1All_ok hw ?_) (fun g => ?_)
  · have : wOk sx w = w.all (inb 1 100) := by unfold wOk; rw [decide_eq_true (by unfold ln at g; omega)]; rfl
    rw [this] at hk; exact hk
  · have : wOk sx w = false := by unfold wOk; rw [decide_eq_false (by unfold ln at g; omega)]; rfl
    rw [this] at hk; exact hk
theorem areWeights_ok {sx : List Variable} {w : List Int} {Q : Bool → Prop} (hw : w.length ≤ 1048576) (hq : Q (wOk sx w)) : impl_areWeights sx w Q := by
  unfold impl_areWeights
  refine br_ne (fun g => ?_) (fun g => ?_)
  · have : wOk sx w = false := by unfold wOk; rw [decide_eq_false (by unfold ln at g; omega)]; rfl
    rw [this] at hq; exact hq
  · have g' : w.length = sx.length := by unfold ln at g; omega
    refine loop1_list (by omega) (fun i => (w.take i).all (inb 1 100) = true) (by simp) (fun i nx hi hj hx => idx_at hi ?_) (fun hj => ?_)
    · have e1 : inb 1 100 w[i] = (!(decide (w[i] < 1)) && !decide (w[i] > 100)) := by
        unfold inb; rw [Bool.eq_iff_iff]; simp
      refine jn_bool (!inb 1 100 w[i]) ?_ fun k hk => br_dec (fun g1 => ?_) (fun g1 => ?_)
      · refine br_nb (fun g1 => ?_) (fun g1 => hx (all_take_succ hi hj g1))
        have : wOk sx w = false := by unfold wOk; rw [all_false hi g1, Bool.and_false]
        rw [this] at hq; exact hq
      · rw [e1, decide_eq_true g1] at hk; exact hk
      · rw [e1, decide_eq_false g1, Bool.not_false, Bool.true_and, Bool.not_not] at hk; exact hk
    · rw [List.take_length] at hj
      have : wOk sx w = true := by unfold wOk; rw [hj, decide_eq_true g']; rfl
      rw [this] at hq; exact hq
def pkOk (sx : List Variable) (l : List Edit) (w vs : List Int) : Bool := (maxOk sx l && wOk sx w) && fitOk sx vs
theorem iInput_ok {sx : List Variable} {l : List Edit} {w vs : List Int} {Q : Bool → Prop} (hw : Wide sx l) (hww : w.length ≤ 1048576) (hq : Q (pkOk sx l w vs)) : spec_iInput sx l w vs Q := by
  unfold spec_iInput
  refine jn_bool (pkOk sx l w vs) hq fun k hk => eSmall_ok hw.1.1 hw.1.2 hw.2.1 hw.2.2 (br_bo (fun g => iWeights_ok hww (br_bo (fun g1 => sFits_ok (maxOk_of g).1 ?_) (fun g1 => ?_))) (fun g => ?_))
  · have : pkOk sx l w vs = fitOk sx vs := by unfold pkOk maxOk; rw [g, g1]; rfl
    rw [this] at hk; exact hk
  · have : pkOk sx l w vs = false := by unfold pkOk; rw [g1]; simp
    rw [this] at hk; exact hk
  · have : pkOk sx l w vs = false := by unfold pkOk maxOk; rw [g]; rfl
    rw [this] at hk; exact hk
theorem isMendable_ok {sx : List Variable} {l : List Edit} {w : List Int} {Q : Bool → Prop} (hw : Wide sx l) (hww : w.length ≤ 1048576) (hq : Q (maxOk sx l && wOk sx w)) : impl_isMendable sx l w Q := by
  unfold impl_isMendable
  refine jn_bool (maxOk sx l && wOk sx w) hq fun k hk => isSmall_ok hw.1.1 (br_bo (fun g => areEdits_ok (smOk_of g).1 hw.2.2 (br_bo (fun g1 => areWeights_ok hww ?_) (fun g1 => ?_))) (fun g => ?_))
  · have : (maxOk sx l && wOk sx w) = wOk sx w := by unfold maxOk; rw [g, g1]; rfl
    rw [this] at hk; exact hk
  · have : (maxOk sx l && wOk sx w) = false := by unfold maxOk; rw [g1]; simp
    rw [this] at hk; exact hk
  · have : (maxOk sx l && wOk sx w) = false := by unfold maxOk; rw [g]; rfl
    rw [this] at hk; exact hk
/-! ### the levels of a number -/
def bl (m : Nat) : List Nat := (List.range 12).filter m.testBit
def cI (l : List Nat) : List Int := l.map fun (i : Nat) => (i : Int)
theorem shr_of {m i : Nat} (hi : i ≤ 62) : shr .i64 (m : Int) (i : Int) = ((m >>> i : Nat) : Int) := shr_nat hi
theorem shr12 {m : Nat} (h : m < 4096) : m >>> 12 = 0 := by rw [Nat.shiftRight_eq_div_pow]; exact Nat.div_eq_of_lt h
theorem bl_end {m i : Nat} (hi : i ≤ 12) (h : m >>> i = 0) : (List.range i).filter m.testBit = bl m := by
  have hb : ∀ j, i ≤ j → m.testBit j = false := fun j hj => by
    have h1 : m < 2 ^ i := by
      rw [Nat.shiftRight_eq_div_pow] at h
      exact (Nat.div_eq_zero_iff_lt (Nat.pow_pos (by decide))).1 h
    exact Nat.testBit_lt_two_pow (Nat.lt_of_lt_of_le h1 (Nat.pow_le_pow_right (by decide) hj))
  have key : ∀ d, i + d ≤ 12 → (List.range (i + d)).filter m.testBit = (List.range i).filter m.testBit := by
    intro d
    induction d with
    | zero => intro _; rfl
    | succ d ih => intro hd; rw [← Nat.add_assoc, List.range_succ, List.filter_append, ih (by omega), List.filter_cons, hb (i + d) (by omega)]; simp
  have := key (12 - i) (by omega)
  rw [show i + (12 - i) = 12 by omega] at this
  exact this.symm
theorem bl_step {m i : Nat} : cI ((List.range (i + 1)).filter m.testBit) = cI ((List.range i).filter m.testBit) ++ if m.testBit i then [(i : Int)] else [] := by
  unfold cI
  rw [List.range_succ, List.filter_append, List.map_append, List.filter_cons, List.filter_nil]
  split <;> rfl
theorem bl_pre {m i : Nat} : (cI ((List.range i).filter m.testBit)).length ≤ i := by
  unfold cI; rw [List.length_map]
  have := List.length_filter_le m.testBit (List.range i)
  rwa [List.length_range] at this
theorem bitq {m i : Nat} (hm : m < 4096) (hi : i ≤ 12) : (bits .and .i64 (shr .i64 (m : Int) (i : Int)) 1 == 1) = m.testBit i := by
  rw [bit_nat (by have : (2 : Nat) ^ 62 = 4611686018427387904 := by decide
                  omega) (by omega)]
  cases m.testBit i <;> rfl
theorem iBits_ok {m : Nat} {Q : List Int → Prop} (hm : m < 4096) (hq : Q (cI (bl m))) : spec_iBits (m : Int) Q := by
  unfold spec_iBits
  refine ⟨fun o x => ∃ i : Nat, x = (i : Int) ∧ i ≤ 12 ∧ o = cI ((List.range i).filter m.testBit), fun _ x => (12 - x).toNat, ⟨0, rfl, by omega, rfl⟩, ?_⟩
  rintro _ _ ⟨i, rfl, hi, rfl⟩
  rw [wrap_u64 (by omega) (by omega), shr_of (by omega)]
  refine ⟨by omega, br_dec (fun g => ?_) (fun g => ?_)⟩
  · have hi' : i < 12 := by
      apply Nat.lt_of_not_le; intro c
      have e : i = 12 := by omega
      subst e; rw [shr12 hm] at g; simp at g
    have hp := bl_pre (m := m) (i := i)
    rw [← shr_of (by omega), bitq hm hi]
    refine jn_bool (cI ((List.range (i + 1)).filter m.testBit)) ?_ fun k hk => ⟨by omega, br_bo (fun g1 => ⟨by unfold ln; simp only [List.length_singleton]; omega, ?_⟩) (fun g1 => ?_)⟩
    · rw [wr_in (by omega) (by omega)]
      refine ⟨⟨i + 1, by omega, by omega, rfl⟩, ?_⟩
      show (12 - ((i : Int) + 1)).toNat < (12 - (i : Int)).toNat
      omega
    · rw [bl_step, g1, if_pos rfl] at hk; exact hk
    · rw [bl_step, g1] at hk; simpa using hk
  · have : m >>> i = 0 := by generalize m >>> i = q at g; omega
    rw [bl_end hi this]; exact hq
theorem membersOf_ok {m : Nat} {Q : List Int → Prop} (hm : m < 4096) (hq : Q (cI (bl m))) : impl_membersOf (m : Int) Q := by
  unfold impl_membersOf
  refine ⟨fun o x => ∃ i : Nat, x = (i : Int) ∧ i ≤ 12 ∧ o = cI ((List.range i).filter m.testBit), fun _ x => (12 - x).toNat, ⟨0, rfl, by omega, rfl⟩, ?_⟩
  rintro _ _ ⟨i, rfl, hi, rfl⟩
  rw [shr_of (by omega)]
  refine ⟨by omega, br_ne (fun g => ?_) (fun g => ?_)⟩
  · have hi' : i < 12 := by
      apply Nat.lt_of_not_le; intro c
      have e : i = 12 := by omega
      subst e; rw [shr12 hm] at g; simp at g
    have hp := bl_pre (m := m) (i := i)
    rw [← shr_of (by omega), bitq hm hi]
    refine jn_bool (cI ((List.range (i + 1)).filter m.testBit)) ?_ fun k hk => ⟨by omega, br_bo (fun g1 => ⟨by unfold ln; simp only [List.length_singleton]; omega, ?_⟩) (fun g1 => ?_)⟩
    · rw [wr_in (by omega) (by omega)]
      refine ⟨⟨i + 1, by omega, by omega, rfl⟩, ?_⟩
      show (12 - ((i : Int) + 1)).toNat < (12 - (i : Int)).toNat
      omega
    · rw [bl_step, g1, if_pos rfl] at hk; exact hk
    · rw [bl_step, g1] at hk; simpa using hk
  · have : m >>> i = 0 := by generalize m >>> i = q at g; omega
    rw [bl_end hi this]; exact hq
theorem bl_lt {m n : Nat} (hm : m < 2 ^ n) {k : Nat} (hk : k ∈ bl m) : k < n := by
  have h1 := (List.mem_filter.1 hk).2
  apply Nat.lt_of_not_le; intro c
  rw [Nat.testBit_lt_two_pow (Nat.lt_of_lt_of_le hm (Nat.pow_le_pow_right (by decide) c))] at h1
  cases h1
theorem bl_len {m : Nat} : (bl m).length ≤ 12 := by
  unfold bl
  have := List.length_filter_le m.testBit (List.range 12)
  rwa [List.length_range] at this
/-! ### the least weight -/
def Win (w : List Int) (n : Nat) (vars : List Int) : Prop := (w.length = n ∧ n ≤ 6) ∧ (∀ x ∈ w, 1 ≤ x ∧ x ≤ 100) ∧ ∀ v ∈ vars, 0 ≤ v ∧ v < n
theorem Win.at {w : List Int} {n : Nat} {vars : List Int} (h : Win w n vars) {i : Nat} (hi : i < vars.length) : 0 ≤ vars[i] ∧ vars[i].toNat < w.length ∧ (1 ≤ gi w vars[i].toNat ∧ gi w vars[i].toNat ≤ 100) := by
  have h1 := h.2.2 _ (List.getElem_mem hi)
  have h2 := h.1
  have h3 : vars[i].toNat < w.length := by omega
  exact ⟨h1.1, h3, by rw [gi_at h3]; exact h.2.1 _ (List.getElem_mem h3)⟩
end Go.Proofs.Ytklajcbpnpkniaa
