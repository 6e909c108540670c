/- The plain law of 'FnExactGiniOf': what the walk computes answers true, whatever the arguments. -/
import Derived.Test.YtbegmfmabcpofaaCn
set_option linter.unusedVariables false
set_option autoImplicit false
namespace Go.Proofs.Ytbegmfmabcpofaa
open Go Go.RowKit Go.Gv

theorem map_sum_take_succ {l : List Int} (f : Int → Int) {i : Nat} (hi : i < l.length) : ((l.take (i + 1)).map f).sum = ((l.take i).map f).sum + f l[i] := by
  rw [List.take_succ_eq_append_getElem hi, List.map_append, List.sum_append]; simp
theorem map_sum_within {f : Int → Int} {B : Int} : ∀ {l : List Int}, (∀ x ∈ l, 0 ≤ f x ∧ f x ≤ B) → 0 ≤ (l.map f).sum ∧ (l.map f).sum ≤ B * l.length
  | [], _ => by simp
  | x :: xs, h => by
    have h1 := h x (by simp)
    have h2 := map_sum_within (l := xs) (fun y hy => h y (by simp [hy]))
    simp only [List.map_cons, List.sum_cons, List.length_cons, Int.natCast_add, Int.mul_add]
    omega
def gnD (a b : Int) : Int := ((a - b).natAbs : Int)
def gnRow (l : List Int) (a : Int) : Int := (l.map (gnD a)).sum
def gnSum (l : List Int) : Int := (l.map (gnRow l)).sum
theorem gnD_in {a b : Int} (ha : 0 ≤ a ∧ a ≤ 1000000) (hb : 0 ≤ b ∧ b ≤ 1000000) : 0 ≤ gnD a b ∧ gnD a b ≤ 1000000 := by unfold gnD; omega
theorem gnPart_in {l : List Int} {a : Int} (hl : l.length ≤ 100) (hx : ∀ x ∈ l, 0 ≤ x ∧ x ≤ 1000000) (ha : 0 ≤ a ∧ a ≤ 1000000) (j : Nat) : 0 ≤ ((l.take j).map (gnD a)).sum ∧ ((l.take j).map (gnD a)).sum ≤ 100000000 := by
  have := map_sum_within (f := gnD a) (B := 1000000) (mem_take (fun x hxl => gnD_in ha (hx x hxl)) j)
  have h2 : (l.take j).length ≤ 100 := by rw [List.length_take]; omega
  omega
theorem gnRow_in {l : List Int} {a : Int} (hl : l.length ≤ 100) (hx : ∀ x ∈ l, 0 ≤ x ∧ x ≤ 1000000) (ha : 0 ≤ a ∧ a ≤ 1000000) : 0 ≤ gnRow l a ∧ gnRow l a ≤ 100000000 := by
  have := gnPart_in hl hx ha l.length
  rw [List.take_length] at this; exact this
theorem gnSum_in {l : List Int} (hl : l.length ≤ 100) (hx : ∀ x ∈ l, 0 ≤ x ∧ x ≤ 1000000) (j : Nat) : 0 ≤ ((l.take j).map (gnRow l)).sum ∧ ((l.take j).map (gnRow l)).sum ≤ 10000000000 := by
  have := map_sum_within (f := gnRow l) (B := 100000000) (mem_take (fun x hxl => gnRow_in hl hx (hx x hxl)) j)
  have h2 : (l.take j).length ≤ 100 := by rw [List.length_take]; omega
  omega
def gnIn (l : List Int) : Bool := if cntIn l then frIn (gnSum l) (2 * l.length * l.sum) else false
def gnOf (l : List Int) : Frac := if cntIn l then frOf (gnSum l) (2 * l.length * l.sum) else ⟨0, 0⟩
theorem gn_den {l : List Int} (hc : cntIn l = true) : 0 < 2 * (l.length : Int) * l.sum ∧ 2 * (l.length : Int) * l.sum ≤ 20000000000 := by
  obtain ⟨h0, h1, hx, hs⟩ := cntIn_of hc
  constructor
  · exact Int.mul_pos (by omega) (by omega)
  · have : 2 * (l.length : Int) * l.sum ≤ 200 * 100000000 := Int.mul_le_mul (by omega) (by omega) (by omega) (by omega)
    omega
theorem specGn_ok {l : List Int} {Q : Frac → Bool → Prop} (hl : l.length ≤ 1048576) (h : Q (gnOf l) (gnIn l)) : spec_GiniOf l Q := by
  unfold spec_GiniOf
  refine oCounts_ok hl (br_nb (fun g => ?_) (fun g => ?_))
  · unfold gnOf gnIn at h; rw [g] at h; simpa using h
  · obtain ⟨h0, h1, hx, hs⟩ := cntIn_of g
    have hd := gn_den g
    refine loop2_list (by omega) (fun s i => s = ((l.take i).map (gnRow l)).sum) (by simp) (fun s i nx hi hsum hn => idx_at hi ?_) (fun s hsum => ?_)
    · have hv := hx _ (List.getElem_mem hi)
      have hb := gnSum_in h1 hx i
      refine loop2_list (by omega) (fun t j => t = s + ((l.take j).map (gnD l[i])).sum) (by simp) (fun t j nx2 hj ht hn2 => idx_at hj ?_) (fun t ht => ?_)
      · have hw := hx _ (List.getElem_mem hj)
        have hp := gnPart_in h1 hx hv j
        have hdd := gnD_in hv hw
        rw [wr_in (x := l[i] - l[j]) (by omega) (by omega)]
        refine l1Abs_ok (by unfold sml; omega) ?_
        rw [wr_in (by unfold gnD at hdd; omega) (by unfold gnD at hdd; omega)]
        refine hn2 _ ?_
        rw [map_sum_take_succ _ hj, ht]; unfold gnD; omega
      · rw [List.take_length] at ht
        refine hn _ ?_
        rw [map_sum_take_succ _ hi, ht, hsum]; rfl
    · rw [List.take_length] at hsum
      have hb := gnSum_in h1 hx l.length
      rw [List.take_length] at hb
      refine tSum_ok h1 hx ?_
      rw [hsum, wr_in (x := 2 * ln l) (by unfold ln; omega) (by unfold ln; omega), wr_in (x := 2 * ln l * l.sum) (by unfold ln; omega) (by unfold ln; omega)]
      refine fMake_ok (by unfold sml; omega) (by unfold sml ln; omega) ?_
      unfold ln
      rw [if_neg (by omega), if_neg (by omega)]
      unfold gnOf gnIn at h; rw [g, if_pos rfl, if_pos rfl] at h; exact h
theorem implGn_ok {l : List Int} {Q : Frac → Bool → Prop} (hl : l.length ≤ 1048576) (h : Q (gnOf l) (gnIn l)) : impl_GiniOf l Q := by
  unfold impl_GiniOf
  refine areCounts_ok hl (br_nb (fun g => ?_) (fun g => ?_))
  · unfold gnOf gnIn at h; rw [g] at h; simpa using h
  · obtain ⟨h0, h1, hx, hs⟩ := cntIn_of g
    have hd := gn_den g
    refine loop2_list (by omega) (fun s i => s = ((l.take i).map (gnRow l)).sum) (by simp) (fun s i nx hi hsum hn => idx_at hi ?_) (fun s hsum => ?_)
    · have hv := hx _ (List.getElem_mem hi)
      have hb := gnSum_in h1 hx i
      refine loop2_list (by omega) (fun t j => t = s + ((l.take j).map (gnD l[i])).sum) (by simp) (fun t j nx2 hj ht hn2 => idx_at hj ?_) (fun t ht => ?_)
      · have hw := hx _ (List.getElem_mem hj)
        have hp := gnPart_in h1 hx hv j
        have hdd := gnD_in hv hw
        rw [wr_in (x := l[i] - l[j]) (by omega) (by omega), wr_in (x := l[j] - l[i]) (by omega) (by omega)]
        have hm : mx (l[i] - l[j]) (l[j] - l[i]) = gnD l[i] l[j] := by unfold mx gnD; split <;> omega
        rw [hm, wr_in (x := t + _) (by omega) (by omega)]
        refine hn2 _ ?_
        rw [map_sum_take_succ _ hj, ht]; omega
      · rw [List.take_length] at ht
        refine hn _ ?_
        rw [map_sum_take_succ _ hi, ht, hsum]; rfl
    · rw [List.take_length] at hsum
      have hb := gnSum_in h1 hx l.length
      rw [List.take_length] at hb
      refine total_ok h1 hx ?_
      rw [hsum, wr_in (x := 2 * ln l) (by unfold ln; omega) (by unfold ln; omega), wr_in (x := 2 * ln l * l.sum) (by unfold ln; omega) (by unfold ln; omega)]
      refine reduced_ok (by unfold sml; omega) (by unfold sml ln; omega) (by unfold ln; omega) ?_
      unfold gnOf gnIn at h; rw [g, if_pos rfl, if_pos rfl] at h; exact h
theorem lawGn_ok (l : List Int) (_ : Wf.wf l) : laws_FnExactGiniOf l (fun r => r = true) := by
  unfold laws_FnExactGiniOf
  refine br_dec (fun _ => rfl) (fun hl => ?_)
  have hl : l.length ≤ 1048576 := by unfold ln at hl; omega
  refine toIntS_ok hl (specGn_ok hl (toIntS_ok hl (implGn_ok hl (jn_of (eqFrac_same ?_)))))
  refine br_false rfl (br_false (by simp) ?_)
  exact toIntS_ok hl (eqIntS_ok (by omega) (br_false (by simp) rfl))
end Go.Proofs.Ytbegmfmabcpofaa
