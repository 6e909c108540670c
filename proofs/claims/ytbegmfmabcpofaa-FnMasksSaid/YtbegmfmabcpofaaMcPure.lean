/- The plain law of 'FnExactMaskCounts': what the walk computes answers true, whatever the two numbers. -/
import Derived.Test.YtbegmfmabcpofaaPB
set_option linter.unusedVariables false
set_option autoImplicit false
namespace Go.Proofs.Ytbegmfmabcpofaa
open Go Go.RowKit Go.Gv

/-! ### the counts of masks -/
def mcIn (m n : Int) : Bool := decide (2 ≤ m) && decide (m ≤ 20) && (decide (1 ≤ n) && decide (n ≤ 3))
def mcEach (m n : Int) : Int := if n = 1 then 1 else if n = 2 then m else m * m
def mcOut (m n : Int) : List Int := if mcIn m n then List.replicate m.toNat (mcEach m n) else []
theorem set_all {v : Int} {xs : List Int} {i n : Nat} (hl : xs.length = n) (hi : i < n) (h : xs.take i = List.replicate i v) : (xs.set i v).take (i+1) = List.replicate (i+1) v := by
  refine List.ext_getElem (by simp; omega) fun j hj hj' => ?_
  simp at hj
  by_cases e : i = j
  · subst e; simp
  · simp only [List.getElem_take, List.getElem_replicate]
    rw [List.getElem_set_ne e]
    have hji : j < i := by omega
    have : (xs.take i)[j]'(by simp; omega) = v := by simp [h]
    simpa using this
theorem implMc_ok {m n : Int} {Q : List Int → Bool → Prop} (h : Q (mcOut m n) (mcIn m n)) : impl_MaskCounts m n Q := by
  have hno : mcIn m n = false → Q [] false := by intro e; rw [mcOut, e] at h; simpa using h
  unfold impl_MaskCounts
  refine jn_of ?_
  have key : ∀ x : Bool, (x = !mcIn m n) → br (x) (Q ([]) false) (Loop2 (fun (each : Int) (x4 : Int) nx =>
    br (decide (x4 < (wr (n - 1)))) (nx (wr (each * m)) (wr (x4 + 1))) <|
    (0 : Int) ≤ m ∧ 8 * m ≤ 140737488355328 ∧ (
    Loop2 (fun (out : List Int) (x15 : Int) nx23 =>
    br (decide (x15 < (ln (List.replicate (Int.toNat m) ((0 : Int)))))) ((0 : Int) ≤ x15 ∧ Int.toNat x15 < List.length out ∧ (
    nx23 (List.set out (Int.toNat x15) each) (wr (x15 + 1)))) <|
    Q out true) (List.replicate (Int.toNat m) ((0 : Int))) 0)) 1 0) := by
    intro x hx
    refine br_of ?_
    split
    · rename_i h1
      exact hno (by rw [h1] at hx; simpa using hx.symm)
    · rename_i h1
      have hin : mcIn m n = true := by cases hb : mcIn m n <;> simp_all
      have hr : 2 ≤ m ∧ m ≤ 20 ∧ 1 ≤ n ∧ n ≤ 3 := by simpa [mcIn, and_assoc] using hin
      obtain ⟨m0, m1, n0, n1⟩ := hr
      have hw : wr (n - 1) = n - 1 := wr_in (by omega) (by omega)
      rw [hw]
      refine ⟨fun e i => 0 ≤ i ∧ i ≤ n - 1 ∧ e = mcEach m (i + 1), fun _ i => (n - 1 - i).toNat, ⟨by omega, by omega, by simp [mcEach]⟩, fun e i ⟨h0, h1, h2⟩ => br_of ?_⟩
      split
      · rename_i hi
        have hi : i < n - 1 := of_decide_eq_true hi
        rw [wr_in (x := i + 1) (by omega) (by omega)]
        have hc : i = 0 ∨ i = 1 := by omega
        refine ⟨⟨by omega, by omega, ?_⟩, ?_⟩
        · rcases hc with rfl | rfl
          · rw [h2]; simp only [mcEach]; simp; exact wr_in (by omega) (by omega)
          · rw [h2]; simp only [mcEach]; simp
            have : m * m ≤ 20 * 20 := Int.mul_le_mul m1 m1 (by omega) (by omega)
            have : 0 ≤ m * m := Int.mul_nonneg (by omega) (by omega)
            exact wr_in (by omega) (by omega)
        · show (n - 1 - (i + 1)).toNat < (n - 1 - i).toNat
          omega
      · rename_i hi
        have hi : ¬ i < n - 1 := fun c => hi (decide_eq_true c)
        have he : e = mcEach m n := by rw [h2, show i + 1 = n from by omega]
        refine ⟨by omega, by omega, ?_⟩
        refine ⟨fun out j => 0 ≤ j ∧ j ≤ m ∧ out.length = m.toNat ∧ out.take j.toNat = List.replicate j.toNat e, fun _ j => (m - j).toNat, ⟨by omega, by omega, by simp, by simp⟩, fun out j ⟨j0, j1, j2, j3⟩ => br_of ?_⟩
        have hrl : ((List.replicate m.toNat (0 : Int)).length : Int) = m := by simp; omega
        have hx : ln (List.replicate m.toNat (0 : Int)) = m := hrl
        split
        · rename_i hj
          have hj : j < m := by have := of_decide_eq_true hj; omega
          refine ⟨j0, by omega, ?_⟩
          rw [wr_in (by omega) (by omega)]
          refine ⟨⟨by omega, by omega, by simpa using j2, ?_⟩, ?_⟩
          · rw [show (j + 1).toNat = j.toNat + 1 from by omega]
            exact set_all j2 (by omega) j3
          · show (m - (j + 1)).toNat < (m - j).toNat
            omega
        · rename_i hj
          have hj : ¬ j < m := fun c => hj (decide_eq_true (by rw [hx]; exact c))
          have ho : out = List.replicate m.toNat e := by
            rw [← List.take_length (l := out), j2, show m.toNat = j.toNat from by omega]; exact j3
          rw [ho, he]
          rw [mcOut, hin] at h; simpa using h
  refine br_of ?_
  split
  · rename_i h1
    have h1 : m < 2 := of_decide_eq_true h1
    exact key _ (by simp [mcIn]; omega)
  · rename_i h1
    have h1 : ¬ m < 2 := fun c => h1 (decide_eq_true c)
    refine br_of ?_
    split
    · rename_i h2
      have h2 : m > 20 := of_decide_eq_true h2
      exact key _ (by simp [mcIn]; omega)
    · rename_i h2
      have h2 : ¬ m > 20 := fun c => h2 (decide_eq_true c)
      refine br_of ?_
      split
      · rename_i h3
        have h3 : n < 1 := of_decide_eq_true h3
        exact key _ (by simp [mcIn]; omega)
      · rename_i h3
        have h3 : ¬ n < 1 := fun c => h3 (decide_eq_true c)
        refine key _ ?_
        have e1 : decide (2 ≤ m) = true := decide_eq_true (by omega)
        have e2 : decide (m ≤ 20) = true := decide_eq_true (by omega)
        have e3 : decide (1 ≤ n) = true := decide_eq_true (by omega)
        simp only [mcIn, e1, e2, e3, Bool.true_and]
        by_cases hh : n > 3
        · rw [decide_eq_true hh, decide_eq_false (by omega)]; rfl
        · rw [decide_eq_false hh, decide_eq_true (by omega)]; rfl
theorem rep_of {xs : List Int} {n : Nat} {v : Int} (hl : xs.length = n) (h : ∀ j, (hj : j < xs.length) → xs[j] = v) : xs = List.replicate n v :=
  List.ext_getElem (by simp [hl]) fun j hj hj' => by rw [h j hj]; simp
theorem sum_bound (B : Int) : ∀ (xs : List Int), (∀ x ∈ xs, 0 ≤ x ∧ x ≤ B) → 0 ≤ xs.sum ∧ xs.sum ≤ B * xs.length
  | [], _ => by simp
  | x :: xs, h => by
    have h1 := h x (by simp)
    have h2 := sum_bound B xs (fun y hy => h y (by simp [hy]))
    simp only [List.sum_cons, List.length_cons, Int.natCast_add, Int.mul_add]
    omega
/-- ONE ROUND: every number of one face is added to every row. -/
def mcRound (counts : List Int) (m : Int) : List Int := List.replicate m.toNat counts.sum
theorem mcRound_ok {counts : List Int} {m B : Int} {Q : List Int → Prop} (m0 : 2 ≤ m) (m1 : m ≤ 20) (hl : counts.length = m.toNat) (hb : ∀ x ∈ counts, 0 ≤ x ∧ x ≤ 1000)
    (h : Q (mcRound counts m)) :
    Loop2 (fun (nextx : List Int) (x49 : Int) nx59 =>
      br (decide (x49 < (ln counts))) (idx counts x49 fun x61 =>
      Loop2 (fun (nextx69 : List Int) (x75 : Int) nx83 =>
      br (decide (x75 < m)) (m ≠ 0 ∧ (
      idx nextx69 (Int.tmod (wr (x49 + x75)) m) fun x85 =>
      (0 : Int) ≤ (Int.tmod (wr (x49 + x75)) m) ∧ Int.toNat (Int.tmod (wr (x49 + x75)) m) < List.length nextx69 ∧ (
      nx83 (List.set nextx69 (Int.toNat (Int.tmod (wr (x49 + x75)) m)) (wr (x85 + x61))) (wr (x75 + 1))))) <|
      nx59 nextx69 (wr (x49 + 1))) nextx 0) <|
      Q nextx) (List.replicate (Int.toNat m) ((0 : Int))) 0 := by
  have hlc : (counts.length : Int) = m := by omega
  have hlc' : ln counts = m := hlc
  refine ⟨fun nx v => 0 ≤ v ∧ v ≤ m ∧ nx = List.replicate m.toNat (counts.take v.toNat).sum, fun _ v => (m - v).toNat, ⟨by omega, by omega, by simp⟩, fun nx v ⟨h0, h1, h2⟩ => br_of ?_⟩
  split
  · rename_i hi
    rw [hlc'] at hi
    have hi : v < m := of_decide_eq_true hi
    refine idx_of h0 (by omega) ?_
    have hc := hb counts[v.toNat] (by simp)
    have hT : 0 ≤ (counts.take v.toNat).sum ∧ (counts.take v.toNat).sum ≤ 20000 := by
      have hq := sum_bound 1000 (counts.take v.toNat) (fun x hx => hb x (List.mem_of_mem_take hx))
      have hq2 : (counts.take v.toNat).length ≤ 20 := by simp; omega
      omega
    have hS : (counts.take (v + 1).toNat).sum = (counts.take v.toNat).sum + counts[v.toNat] := by
      rw [show (v + 1).toNat = v.toNat + 1 from by omega, List.take_succ_eq_append_getElem (by omega), List.sum_append]; simp
    generalize counts[v.toNat] = c at hc hS
    generalize (counts.take v.toNat).sum = T at hT hS h2
    refine ⟨fun ny d => 0 ≤ d ∧ d ≤ m ∧ ny.length = m.toNat ∧ ∀ w : Nat, (hw : w < ny.length) → ny[w] = if ((w : Int) - v) % m < d then T + c else T, fun _ d => (m - d).toNat,
      ⟨by omega, by omega, by simp [h2], fun w hw => ?_⟩, fun ny d ⟨d0, d1, d2, d3⟩ => br_of ?_⟩
    · have : 0 ≤ ((w : Int) - v) % m := Int.emod_nonneg _ (by omega)
      rw [if_neg (by omega)]
      simp [h2]
    · split
      · rename_i hd
        have hd : d < m := of_decide_eq_true hd
        rw [wr_in (x := v + d) (by omega) (by omega), wr_in (x := d + 1) (by omega) (by omega)]
        have ht : (v + d).tmod m = if v + d < m then v + d else v + d - m := by
          rw [Int.tmod_eq_emod_of_nonneg (by omega)]
          split
          · exact Int.emod_eq_of_lt (by omega) (by omega)
          · rw [← Int.sub_emod_right]; exact Int.emod_eq_of_lt (by omega) (by omega)
        have hk : ((v + d).tmod m - v) % m = d := by
          rw [ht]; split
          · rw [show v + d - v = d from by omega]; exact Int.emod_eq_of_lt (by omega) (by omega)
          · rw [show v + d - m - v = d - m from by omega, Int.sub_emod_right]; exact Int.emod_eq_of_lt (by omega) (by omega)
        have hr : 0 ≤ (v + d).tmod m ∧ (v + d).tmod m < m := by rw [ht]; split <;> omega
        generalize (v + d).tmod m = k at hk hr
        refine ⟨by omega, idx_of hr.1 (by omega) ⟨hr.1, by omega, ?_⟩⟩
        have hkv : ny[k.toNat]'(by omega) = T := by
          rw [d3 k.toNat (by omega), show ((k.toNat : Nat) : Int) = k from by omega, hk, if_neg (by omega)]
        rw [hkv, wr_in (x := T + c) (by omega) (by omega)]
        refine ⟨⟨by omega, by omega, by simpa using d2, fun w hw => ?_⟩, ?_⟩
        · by_cases e : k.toNat = w
          · subst e
            rw [show ((k.toNat : Nat) : Int) = k from by omega, hk, if_pos (by omega)]; simp
          · have hw' : w < ny.length := by simpa using hw
            rw [List.getElem_set_ne e, d3 w hw']
            have hne : ((w : Int) - v) % m ≠ d := by
              intro q
              have a1 : ((w : Int) - v) % m = (k - v) % m := by rw [q, hk]
              have a2 := Int.emod_emod_of_dvd
              have a3 : (((w : Int) - v) - (k - v)) % m = 0 := by rw [Int.sub_emod, a1]; simp
              rw [show ((w : Int) - v) - (k - v) = w - k from by omega] at a3
              have a4 := Int.dvd_of_emod_eq_zero a3
              obtain ⟨z, hz⟩ := a4
              have hz0 : z = 0 := by
                rcases Int.lt_trichotomy z 0 with g | g | g
                · have : m * z ≤ m * (-1) := Int.mul_le_mul_of_nonneg_left (by omega) (by omega)
                  omega
                · exact g
                · have : m * 1 ≤ m * z := Int.mul_le_mul_of_nonneg_left (by omega) (by omega)
                  omega
              rw [hz0] at hz; simp at hz; omega
            by_cases g : ((w : Int) - v) % m < d
            · rw [if_pos g, if_pos (by omega)]
            · rw [if_neg g, if_neg (by omega)]
        · show (m - (d + 1)).toNat < (m - d).toNat
          omega
      · rename_i hd
        have hd : ¬ d < m := fun c => hd (decide_eq_true c)
        rw [wr_in (x := v + 1) (by omega) (by omega)]
        refine ⟨⟨by omega, by omega, ?_⟩, ?_⟩
        · rw [hS]
          refine rep_of d2 fun w hw => ?_
          rw [d3 w hw, if_pos]
          have := Int.emod_lt_of_pos ((w : Int) - v) (show 0 < m from by omega)
          omega
        · show (m - (v + 1)).toNat < (m - v).toNat
          omega
  · rename_i hi
    rw [hlc'] at hi
    have hi : ¬ v < m := fun c => hi (decide_eq_true c)
    have : counts.take v.toNat = counts := List.take_of_length_le (by omega)
    rw [h2, this]; exact h
theorem sum_rep (v : Int) : ∀ n : Nat, (List.replicate n v).sum = n * v
  | 0 => by simp
  | n + 1 => by rw [List.replicate_succ, List.sum_cons, sum_rep v n, Int.natCast_add, Int.add_mul]; simp; omega
theorem specMc_ok {m n : Int} {Q : List Int → Bool → Prop} (h : Q (mcOut m n) (mcIn m n)) : spec_MaskCounts m n Q := by
  have hno : mcIn m n = false → Q [] false := by intro e; rw [mcOut, e] at h; simpa using h
  unfold spec_MaskCounts
  refine jn_of (l1In_ok ?_)
  refine br_of ?_
  split
  · rename_i h1
    refine br_true rfl (hno ?_)
    simp only [mcIn]
    rw [Bool.not_eq_true'] at h1
    rw [h1]; rfl
  · rename_i h1
    rw [Bool.not_eq_true', Bool.not_eq_false] at h1
    refine l1In_ok (br_of ?_)
    split
    · rename_i h2
      refine hno ?_
      simp only [mcIn]
      rw [Bool.not_eq_true'] at h2
      rw [h2, Bool.and_false]
    · rename_i h2
      rw [Bool.not_eq_true', Bool.not_eq_false] at h2
      have hin : mcIn m n = true := by simp only [mcIn, h1, h2, Bool.and_true]
      have hr : 2 ≤ m ∧ m ≤ 20 ∧ 1 ≤ n ∧ n ≤ 3 := by simpa [mcIn, and_assoc] using hin
      obtain ⟨m0, m1, n0, n1⟩ := hr
      refine ⟨by omega, by omega, by omega, by simp; omega, ?_⟩
      refine ⟨fun k cs => 0 ≤ k ∧ k ≤ n ∧ (cs = if k = n then (List.replicate m.toNat (0 : Int)).set (Int.toNat 0) 1 else List.replicate m.toNat (mcEach m (n - k))), fun k _ => k.toNat, ⟨by omega, by omega, by simp⟩, fun k cs ⟨k0, k1, k2⟩ => br_of ?_⟩
      have hmm : m * m ≤ 20 * 20 := Int.mul_le_mul m1 m1 (by omega) (by omega)
      have hmm0 : 0 ≤ m * m := Int.mul_nonneg (by omega) (by omega)
      have hE : ∀ i, 0 ≤ mcEach m i ∧ mcEach m i ≤ 400 := by intro i; unfold mcEach; split <;> (try split) <;> omega
      split
      · rename_i hk
        have hk : k > 0 := of_decide_eq_true hk
        refine ⟨by omega, by omega, ?_⟩
        have hcl : cs.length = m.toNat := by rw [k2]; split <;> simp
        have hcb : ∀ x ∈ cs, 0 ≤ x ∧ x ≤ 1000 := by
          intro x hx
          rw [k2] at hx
          split at hx
          · rcases List.mem_or_eq_of_mem_set hx with q | q
            · have := List.eq_of_mem_replicate q; omega
            · omega
          · have := List.eq_of_mem_replicate hx
            have := hE (n - k); omega
        refine mcRound_ok (B := 0) m0 m1 hcl hcb ?_
        rw [wr_in (by omega) (by omega)]
        refine ⟨⟨by omega, by omega, ?_⟩, ?_⟩
        · rw [if_neg (by omega), mcRound]
          congr 1
          rw [k2]
          split
          · rename_i e
            subst e
            rw [show k - (k - 1) = 1 from by omega]
            obtain ⟨r, hr⟩ : ∃ r, m.toNat = r + 1 := ⟨m.toNat - 1, by omega⟩
            rw [hr, List.replicate_succ]
            simp [mcEach]
          · rw [sum_rep, show ((m.toNat : Nat) : Int) = m from by omega, show n - (k - 1) = n - k + 1 from by omega]
            have hc : n - k = 1 ∨ n - k = 2 := by omega
            rcases hc with q | q <;> rw [q] <;> simp [mcEach]
        · show (k - 1).toNat < k.toNat
          omega
      · rename_i hk
        have hk : ¬ k > 0 := fun c => hk (decide_eq_true c)
        have : k = 0 := by omega
        subst this
        rw [if_neg (by omega), show n - 0 = n from by omega] at k2
        rw [mcOut, hin] at h
        rw [k2]; simpa using h

theorem mcOut_length (m n : Int) : (mcOut m n).length ≤ 20 := by
  unfold mcOut
  split
  · rename_i hin
    have hr : 2 ≤ m ∧ m ≤ 20 ∧ 1 ≤ n ∧ n ≤ 3 := by simpa [mcIn, and_assoc] using hin
    simp; omega
  · simp
theorem lawMc_ok (m n : Int) : laws_FnExactMaskCounts m n (fun r => r = true) := by
  have hl := mcOut_length m n
  unfold laws_FnExactMaskCounts
  refine specMc_ok (implMc_ok (jn_of (eqIntS_ok (by omega) ?_)))
  refine br_false (by simp) (br_false (by simp) ?_)
  refine markIntS_ok (by omega) (by omega) (by omega) (heldIntS_ok (by omega) (by omega) (by omega) ?_)
  refine br_false (by simp; omega) (br_false (by simp) ?_)
  refine implMc_ok (jn_of (eqIntS_ok (by omega) ?_))
  refine br_false (by simp) (br_false (by simp) ?_)
  refine heldIntS_ok (by omega) (by omega) (by omega) ?_
  exact br_false (by simp; omega) (br_false (by simp) rfl)
end Go.Proofs.Ytbegmfmabcpofaa
