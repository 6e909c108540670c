/- Plain facts about sums of weights: packings and covers, cheapest changes. -/
import Derived.Test.YtklajcbpnpkniaaPqPure
import Derived.Test.YtklajcbpnpkniaaNE
set_option linter.unusedVariables false
set_option autoImplicit false
namespace Go.Proofs.Ytklajcbpnpkniaa
open Go Go.RowKit Go.Gv

/-- The sum of the weights at which p holds. -/
def wsm (w : List Int) (p : Nat → Bool) : Nat → Int
  | 0 => 0
  | n + 1 => wsm w p n + if p n then gi w n else 0
theorem ws_succ {w : List Int} {p : Nat → Bool} {n : Nat} : wsm w p (n + 1) = wsm w p n + if p n then gi w n else 0 := rfl
theorem ws_mono {w : List Int} {p q : Nat → Bool} : ∀ {n : Nat}, (∀ i, i < n → 0 ≤ gi w i) → (∀ i, i < n → p i = true → q i = true) → wsm w p n ≤ wsm w q n
  | 0, _, _ => Int.le_refl _
  | n + 1, h, hp => by
    have ih := ws_mono (w := w) (p := p) (q := q) (n := n) (fun i hi => h i (by omega)) (fun i hi => hp i (by omega))
    have h0 := h n (by omega)
    have h1 := hp n (by omega)
    rw [ws_succ, ws_succ]
    cases hpn : p n with
    | true => rw [h1 hpn, if_pos rfl]; omega
    | false => rw [if_neg (by decide)]; split <;> omega
theorem ws_nonneg {w : List Int} {p : Nat → Bool} : ∀ {n : Nat}, (∀ i, i < n → 0 ≤ gi w i) → 0 ≤ wsm w p n
  | 0, _ => Int.le_refl _
  | n + 1, h => by
    have ih := ws_nonneg (w := w) (p := p) (n := n) (fun i hi => h i (by omega))
    have h0 := h n (by omega)
    rw [ws_succ]; split <;> omega
theorem ws_congr {w : List Int} {p q : Nat → Bool} : ∀ {n : Nat}, (∀ i, i < n → p i = q i) → wsm w p n = wsm w q n
  | 0, _ => rfl
  | n + 1, h => by rw [ws_succ, ws_succ, ws_congr (n := n) (fun i hi => h i (by omega)), h n (by omega)]
theorem ws_le {w : List Int} {p : Nat → Bool} : ∀ {n : Nat}, (∀ i, i < n → 0 ≤ gi w i ∧ gi w i ≤ 100) → wsm w p n ≤ 100 * (n : Int)
  | 0, _ => by simp [wsm]
  | n + 1, h => by
    have ih := ws_le (w := w) (p := p) (n := n) (fun i hi => h i (by omega))
    have h0 := h n (by omega)
    rw [ws_succ]; split <;> omega
theorem ws_cut {w : List Int} {p : Nat → Bool} {n : Nat} : ∀ {m : Nat}, n ≤ m → (∀ i, n ≤ i → p i = false) → wsm w p m = wsm w p n
  | 0, hm, _ => by rw [show n = 0 by omega]
  | m + 1, hm, h => by
    by_cases e : n = m + 1
    · rw [e]
    · rw [ws_succ, h m (by omega), if_neg (by decide), ws_cut (by omega) h, Int.add_zero]
/-- The cost of a list of variables. -/
def costL (w : List Int) (vars : List Int) : Int := (vars.map fun v => gi w v.toNat).sum
theorem costL_append {w a b : List Int} : costL w (a ++ b) = costL w a + costL w b := by unfold costL; rw [List.map_append, List.sum_append]
theorem costL_filter {w : List Int} {p : Nat → Bool} : ∀ n : Nat, costL w (cI ((List.range n).filter p)) = wsm w p n
  | 0 => by simp [costL, cI, wsm]
  | n + 1 => by
    have e : cI ((List.range (n + 1)).filter p) = cI ((List.range n).filter p) ++ if p n then [(n : Int)] else [] := by
      unfold cI
      rw [List.range_succ, List.filter_append, List.map_append, List.filter_cons, List.filter_nil]
      split <;> rfl
    rw [e, costL_append, costL_filter n, ws_succ]
    congr 1
    split <;> simp [costL]
theorem testBit_hi {m n : Nat} (hm : m < 2 ^ n) {i : Nat} (hi : n ≤ i) : m.testBit i = false := Nat.testBit_lt_two_pow (Nat.lt_of_lt_of_le hm (Nat.pow_le_pow_right (by decide) hi))
theorem costL_bl {w : List Int} {m n : Nat} (hm : m < 2 ^ n) (hn : n ≤ 12) : costL w (cI (bl m)) = wsm w m.testBit n := by
  have : costL w (cI (bl m)) = wsm w m.testBit 12 := costL_filter (p := m.testBit) 12
  rw [this]
  exact ws_cut hn fun i hi => testBit_hi hm hi
theorem hasB_bl {m i : Nat} (hi : i < 12) : hasB (cI (bl m)) (i : Int) = m.testBit i := by
  rw [Bool.eq_iff_iff, hasB_iff]
  unfold cI bl
  rw [List.mem_map]
  constructor
  · rintro ⟨a, ha, e⟩
    have ha := (List.mem_filter.1 ha).2
    have : a = i := by omega
    subst this; exact ha
  · intro h
    exact ⟨i, List.mem_filter.2 ⟨List.mem_range.2 hi, h⟩, rfl⟩
/-- A number whose bits are given. -/
def mkp (p : Nat → Bool) : Nat → Nat
  | 0 => 0
  | n + 1 => mkp p n ||| (if p n then 2 ^ n else 0)
theorem mkp_ok {p : Nat → Bool} : ∀ n, mkp p n < 2 ^ n ∧ ∀ i, i < n → (mkp p n).testBit i = p i
  | 0 => ⟨by show 0 < 1; omega, fun i hi => by omega⟩
  | n + 1 => by
    have ⟨h1, h2⟩ := mkp_ok (p := p) n
    have h3 : 2 ^ n < 2 ^ (n + 1) := Nat.pow_lt_pow_right (by decide) (by omega)
    unfold mkp
    refine ⟨Nat.or_lt_two_pow (by omega) (by split <;> omega), fun i hi => ?_⟩
    rw [Nat.testBit_or]
    by_cases e : i = n
    · subst e
      rw [testBit_hi h1 (Nat.le_refl _), Bool.false_or]
      split
      · rename_i h; rw [Nat.testBit_two_pow_self, h]
      · rename_i h; simp at h; simp [h]
    · rw [h2 i (by omega)]
      have : (if p n then 2 ^ n else 0).testBit i = false := by
        split
        · rw [Nat.testBit_two_pow]; exact decide_eq_false (by omega)
        · simp
      rw [this, Bool.or_false]
/-! ### packings cost no more than covers -/
/-! ### the cheapest change -/
def bt2 (c d : Int) (a b : List Int) : Bool := decide (c < d) || (decide (c = d) && btr a b)
/-- The cheapest of the first m lists: (list, cost, whether there is one). -/
def ccv (sx : List Variable) (l : List Edit) (w vs : List Int) : Nat → List Int × Int × Bool
  | 0 => ([], 0, false)
  | m + 1 => if compl sx l vs (cI (bl m)) && (!(ccv sx l w vs m).2.2 || bt2 (costL w (cI (bl m))) (ccv sx l w vs m).2.1 (cI (bl m)) (ccv sx l w vs m).1) then (cI (bl m), costL w (cI (bl m)), true) else ccv sx l w vs m
theorem ccv_fact {sx : List Variable} {l : List Edit} {w vs : List Int} : ∀ m, ((ccv sx l w vs m).2.2 = true → ∃ k, k < m ∧ (ccv sx l w vs m).1 = cI (bl k) ∧ (ccv sx l w vs m).2.1 = costL w (cI (bl k)) ∧ compl sx l vs (cI (bl k)) = true) ∧
    (∀ k, k < m → compl sx l vs (cI (bl k)) = true → (ccv sx l w vs m).2.2 = true ∧ (ccv sx l w vs m).2.1 ≤ costL w (cI (bl k))) ∧ ((ccv sx l w vs m).2.2 = false → (ccv sx l w vs m).1 = [] ∧ (ccv sx l w vs m).2.1 = 0)
  | 0 => ⟨fun h => (by cases h), fun k hk => (by omega), fun _ => ⟨rfl, rfl⟩⟩
  | m + 1 => by
    have ⟨h1, h2, h3⟩ := ccv_fact (sx := sx) (l := l) (w := w) (vs := vs) m
    unfold ccv
    split
    · rename_i g
      simp only [Bool.and_eq_true] at g
      refine ⟨fun _ => ⟨m, by omega, rfl, rfl, g.1⟩, fun k hk hc => ⟨rfl, ?_⟩, fun h => (by cases h)⟩
      show costL w (cI (bl m)) ≤ _
      by_cases e : k = m
      · subst e; exact Int.le_refl _
      · have ⟨a, b⟩ := h2 k (by omega) hc
        have g2 := g.2
        rw [a, Bool.not_true, Bool.false_or] at g2
        unfold bt2 at g2
        simp only [Bool.or_eq_true, Bool.and_eq_true, decide_eq_true_eq] at g2
        omega
    · rename_i g
      refine ⟨fun h => ?_, fun k hk hc => ?_, h3⟩
      · obtain ⟨k, hk, r⟩ := h1 h
        exact ⟨k, by omega, r⟩
      · by_cases e : k = m
        · subst e
          rw [hc, Bool.true_and] at g
          cases hf : (ccv sx l w vs k).2.2 with
          | false => rw [hf] at g; exact absurd rfl g
          | true =>
            rw [hf, Bool.not_true, Bool.false_or] at g
            refine ⟨rfl, ?_⟩
            unfold bt2 at g
            simp only [Bool.or_eq_true, Bool.and_eq_true, decide_eq_true_eq, not_or, not_and] at g
            omega
        · exact h2 k (by omega) hc
theorem ccv_len {sx : List Variable} {l : List Edit} {w vs : List Int} (m : Nat) : (ccv sx l w vs m).1.length ≤ 12 := by
  have ⟨h1, _, h3⟩ := ccv_fact (sx := sx) (l := l) (w := w) (vs := vs) m
  cases hf : (ccv sx l w vs m).2.2 with
  | false => rw [(h3 hf).1]; simp
  | true =>
    obtain ⟨k, _, e, _⟩ := h1 hf
    rw [e]; exact cI_len
end Go.Proofs.Ytklajcbpnpkniaa
