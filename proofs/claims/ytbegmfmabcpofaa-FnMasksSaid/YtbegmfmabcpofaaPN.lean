/- Plain facts about shares of sites, present sites, repairs. -/
import Derived.Test.YtbegmfmabcpofaaPM
set_option linter.unusedVariables false
set_option autoImplicit false
namespace Go.Proofs.Ytbegmfmabcpofaa
open Go Go.RowKit Go.Gv

theorem allG_succ {α : Type} {p : α → Bool} {l : List α} {i : Nat} (hi : i < l.length) (h : (l.take i).all p = true) (hp : p l[i] = true) : (l.take (i + 1)).all p = true := by
  rw [List.take_succ_eq_append_getElem hi, List.all_append, h]; simp [hp]
theorem allG_no {α : Type} {p : α → Bool} {l : List α} {i : Nat} (hi : i < l.length) (hp : p l[i] = false) : l.all p = false := by
  rw [List.all_eq_false]; exact ⟨l[i], List.getElem_mem hi, by simp [hp]⟩

/-! ### shares -/
def isResW (m : Int) (l : List Int) : Bool := decide (l.length ≤ 600) && l.all (inb 0 (wr (m - 1)))
theorem isResW_eq {m : Int} {l : List Int} (hm : 2 ≤ m ∧ m ≤ 1000000007) : isResW m l = isRes m l := by
  unfold isResW isRes; rw [wr_in (by omega) (by omega)]
theorem zeValuesW_ok {m : Int} {l : List Int} {Q : Bool → Prop} (h : Q (isResW m l)) : spec_zeValues m l Q := by
  unfold spec_zeValues
  refine jn_bool (isResW m l) h fun k hk => br_dec (fun g => ?_) (fun g => ?_)
  · have g : l.length ≤ 600 := by unfold ln at g; omega
    unfold isResW at hk; rw [decide_eq_true g] at hk
    exact l1All_ok (by omega) hk
  · have g : ¬ l.length ≤ 600 := by unfold ln at g; omega
    unfold isResW at hk; rw [decide_eq_false g] at hk; exact hk
def shRow (m : Int) (n : Nat) (r : List Int) : Bool := decide (r.length = n) && isRes m r
def shRowW (m : Int) (n : Nat) (r : List Int) : Bool := decide (r.length = n) && isResW m r
def shN (s : List (List Int)) : Nat := (s.getD 0 []).length
def shIn (m : Int) (s : List (List Int)) : Bool := inb 2 1000000007 m && (decide (1 ≤ s.length ∧ s.length ≤ 8) && s.all (shRow m (shN s)))
theorem shIn_of {m : Int} {s : List (List Int)} (h : shIn m s = true) : (2 ≤ m ∧ m ≤ 1000000007) ∧ (1 ≤ s.length ∧ s.length ≤ 8) ∧ shN s ≤ 600 ∧ ∀ r ∈ s, r.length = shN s ∧ resL m r := by
  unfold shIn at h
  simp only [Bool.and_eq_true, decide_eq_true_eq] at h
  obtain ⟨h1, h2, h3⟩ := h
  have hr : ∀ r ∈ s, r.length = shN s ∧ r.length ≤ 600 ∧ resL m r := fun r hr => by
    have := List.all_eq_true.1 h3 r hr
    unfold shRow isRes at this
    simp only [Bool.and_eq_true, decide_eq_true_eq] at this
    exact ⟨this.1, this.2.1, inb_all this.2.2⟩
  refine ⟨inb_iff.1 h1, h2, ?_, fun r q => ⟨(hr r q).1, (hr r q).2.2⟩⟩
  have := hr s[0] (List.getElem_mem (by omega))
  omega
theorem shN_at {s : List (List Int)} (h : 0 < s.length) : s[0].length = shN s := by unfold shN; rw [getD_row h]
theorem zeShares_ok {m : Int} {s : List (List Int)} {Q : Bool → Prop} (hl : s.length ≤ 1048576) (h : Q (shIn m s)) : spec_zeShares m s Q := by
  unfold spec_zeShares
  refine loop1_list (by omega) (fun i => (s.take i).all (shRowW m (shN s)) = true) (by simp) (fun i nx hi hj hx => idx_at hi ?_) (fun hj => ?_)
  · refine jn_bool (!shRowW m (shN s) s[i]) (br_nb (fun g => ?_) (fun g => hx (allG_succ hi hj g))) fun k hk => ?_
    · have : shIn m s = false := by
        unfold shIn
        cases hm : inb 2 1000000007 m with
        | false => rfl
        | true =>
          have e : shRowW m (shN s) s[i] = shRow m (shN s) s[i] := by unfold shRowW shRow; rw [isResW_eq (inb_iff.1 hm)]
          rw [e] at g
          rw [allG_no hi g]; simp
      rw [this] at h; exact h
    · refine idx_of (by omega) (by omega) (br_ne (fun g => ?_) (fun g => zeValuesW_ok ?_))
      · have := shN_at (s := s) (by omega)
        unfold shRowW at hk; rw [decide_eq_false (by unfold ln at g; simp at g; omega)] at hk; exact hk
      · have := shN_at (s := s) (by omega)
        unfold shRowW at hk; rw [decide_eq_true (by unfold ln at g; simp at g; omega), Bool.true_and] at hk; exact hk
  · rw [List.take_length] at hj
    refine jn_bool (shIn m s) h fun k hk => zeModulus_ok (br_bo (fun g => l1In_ok ?_) (fun g => ?_))
    · have e : ∀ r, shRowW m (shN s) r = shRow m (shN s) r := fun r => by unfold shRowW shRow; rw [isResW_eq (inb_iff.1 g)]
      have hj' : s.all (shRow m (shN s)) = true := by rw [← hj]; congr 1; exact (funext e).symm
      unfold shIn at hk; rw [g, hj', Bool.true_and, Bool.and_true] at hk
      rw [show (decide (1 ≤ ln s) && decide (ln s ≤ 8)) = decide (1 ≤ s.length ∧ s.length ≤ 8) from by
        rw [Bool.eq_iff_iff]; simp only [Bool.and_eq_true, decide_eq_true_eq]; unfold ln; omega]
      exact hk
    · unfold shIn at hk; rw [g] at hk; exact hk
theorem areShares_ok {m : Int} {s : List (List Int)} {Q : Bool → Prop} (h : Q (shIn m s)) : impl_areShares m s Q := by
  unfold impl_areShares
  refine jn_bool (!(inb 2 1000000007 m && decide (1 ≤ s.length ∧ s.length ≤ 8))) ?_ fun k hk => isModulus_ok (br_nb (fun g => ?_) (fun g => br_dec (fun g1 => ?_) (fun g1 => ?_)))
  · refine br_nb (fun g => ?_) (fun g => ?_)
    · have : shIn m s = false := by unfold shIn; rw [← Bool.and_assoc, g]; rfl
      rw [this] at h; exact h
    · have g' := g
      simp only [Bool.and_eq_true, decide_eq_true_eq] at g'
      have hm := inb_iff.1 g'.1
      have e0 : shIn m s = s.all (shRow m (shN s)) := by unfold shIn; rw [← Bool.and_assoc, g]; rfl
      rw [e0] at h
      refine loop1_list (by omega) (fun i => (s.take i).all (shRow m (shN s)) = true) (by simp) (fun i nx hi hj hx => idx_at hi ?_) (fun hj => by rw [List.take_length] at hj; rw [hj] at h; exact h)
      refine jn_bool (!shRow m (shN s) s[i]) (br_nb (fun g => ?_) (fun g => hx (allG_succ hi hj g))) fun k hk => ?_
      · rw [allG_no hi g] at h; exact h
      · refine idx_of (by omega) (by omega) (br_ne (fun g => ?_) (fun g => areResidues_ok hm ?_))
        · have := shN_at (s := s) (by omega)
          unfold shRow at hk; rw [decide_eq_false (by unfold ln at g; simp at g; omega)] at hk; exact hk
        · have := shN_at (s := s) (by omega)
          unfold shRow at hk; rw [decide_eq_true (by unfold ln at g; simp at g; omega), Bool.true_and] at hk; exact hk
  · rw [show inb 2 1000000007 m = false from g] at hk; exact hk
  · rw [decide_eq_false (by unfold ln at g1; omega)] at hk; simpa using hk
  · rw [show inb 2 1000000007 m = true from g, Bool.true_and, show (!decide (1 ≤ s.length ∧ s.length ≤ 8)) = decide (ln s > 8) from by
      rw [← decide_not]; congr 1; unfold ln at *; rw [eq_iff_iff]; omega] at hk
    exact hk
def smGo (m : Int) (s : List (List Int)) : Nat → List Int
  | 0 => List.replicate (shN s) 0
  | i + 1 => cmb 1 m (smGo m s i) (s.getD i [])
def smOf (m : Int) (s : List (List Int)) : List Int := smGo m s s.length
theorem smGo_in {m : Int} {s : List (List Int)} (h : shIn m s = true) : ∀ i, i ≤ s.length → (smGo m s i).length = shN s ∧ resL m (smGo m s i)
  | 0, _ => ⟨by simp [smGo], fun x hx => by have := List.eq_of_mem_replicate hx; have := (shIn_of h).1; omega⟩
  | i + 1, hi => by
    have ih := smGo_in h i (by omega)
    obtain ⟨hm, hl, hn, hr⟩ := shIn_of h
    have := hr s[i] (List.getElem_mem (by omega))
    unfold smGo
    rw [getD_row (by omega)]
    exact ⟨by rw [cmb_length (by omega)]; exact ih.1, cmb_res hm.1⟩
theorem smOf_in {m : Int} {s : List (List Int)} (h : shIn m s = true) : (smOf m s).length = shN s ∧ resL m (smOf m s) := smGo_in h _ (Nat.le_refl _)
theorem zeSum_ok {m : Int} {s : List (List Int)} {Q : List Int → Prop} (hs : shIn m s = true) (h : Q (smOf m s)) : spec_zeSum m s Q := by
  obtain ⟨hm, hl, hn, hr⟩ := shIn_of hs
  have h0 := shN_at (s := s) (by omega)
  unfold spec_zeSum
  refine idx_of (by omega) (by omega) ⟨by unfold ln; omega, by unfold ln; simp; omega, ?_⟩
  refine loop2_list (by omega) (fun out i => out = smGo m s i) (by unfold ln; simp [smGo, h0]) (fun out i nx hi ho hx => idx_at hi ?_) (fun out ho => by rw [ho]; exact h)
  have hg := smGo_in hs i (by omega)
  have hri := hr s[i] (List.getElem_mem hi)
  refine zeAdd_ok hm (.inl rfl) (by rw [ho]; omega) (by rw [ho]; omega) (by rw [ho]; exact hg.2) hri.2 (hx _ ?_)
  rw [smGo, getD_row hi, ho]
theorem sumOfShares_ok {m : Int} {s : List (List Int)} {Q : List Int → Prop} (hs : shIn m s = true) (h : Q (smOf m s)) : impl_sumOfShares m s Q := by
  obtain ⟨hm, hl, hn, hr⟩ := shIn_of hs
  have h0 := shN_at (s := s) (by omega)
  unfold impl_sumOfShares
  refine idx_of (by omega) (by omega) ⟨by unfold ln; omega, by unfold ln; simp; omega, ?_⟩
  refine loop2_list (by omega) (fun out i => out = smGo m s i) (by unfold ln; simp [smGo, h0]) (fun out i nx hi ho hx => idx_at hi ?_) (fun out ho => by rw [ho]; exact h)
  have hg := smGo_in hs i (by omega)
  have hri := hr s[i] (List.getElem_mem hi)
  refine combine_ok hm (.inl rfl) (by rw [ho]; omega) (by rw [ho]; omega) (by rw [ho]; exact hg.2) hri.2 (hx _ ?_)
  rw [smGo, getD_row hi, ho]

/-! ### present sites -/
def lastOf (l : List Int) (i : Nat) : Int := if i = 0 then -1 else l.getD (i - 1) 0
def riseAt (l : List Int) (n : Int) (i : Nat) : Bool := decide (lastOf l i < l.getD i 0 ∧ l.getD i 0 < n)
def rise (l : List Int) (n : Int) : Bool := (List.range l.length).all (riseAt l n)
theorem rise_pos {l : List Int} {n : Int} {k : Nat} (hk : k ≤ l.length) (h : (List.range k).all (riseAt l n) = true) : ∀ i, i < k → 0 ≤ l.getD i 0 ∧ l.getD i 0 < n
  | 0, hi => by
    have := of_decide_eq_true (range_all_of h hi)
    unfold lastOf at this; rw [if_pos rfl] at this; omega
  | i + 1, hi => by
    have ih := rise_pos hk h i (by omega)
    have := of_decide_eq_true (range_all_of h hi)
    unfold lastOf at this; rw [if_neg (by omega), Nat.add_sub_cancel] at this; omega
theorem rise_all {l : List Int} {n : Int} (h : rise l n = true) : ∀ x ∈ l, 0 ≤ x ∧ x < n := fun x hx => by
  obtain ⟨i, hi, rfl⟩ := List.mem_iff_getElem.1 hx
  have := rise_pos (Nat.le_refl _) h i hi
  rw [getD_at hi] at this; exact this
theorem areIndices_ok {l : List Int} {n : Int} {Q : Bool → Prop} (hl : l.length ≤ 1048576) (h : Q (rise l n)) : impl_areIndices l n Q := by
  unfold impl_areIndices
  refine loop2_list (by omega) (fun last i => last = lastOf l i ∧ (List.range i).all (riseAt l n) = true) ⟨rfl, rfl⟩ (fun last i nx hi ⟨h1, h2⟩ hx => idx_at hi ?_) (fun last ⟨h1, h2⟩ => by unfold rise at h; rw [h2] at h; exact h)
  refine jn_bool (!riseAt l n i) (br_nb (fun g => ?_) (fun g => hx _ ⟨?_, range_succ_all h2 g⟩)) fun k hk => br_dec (fun g => ?_) (fun g => ?_)
  · unfold rise at h; rw [range_all_no hi g] at h; exact h
  · unfold lastOf; rw [if_neg (by omega), Nat.add_sub_cancel, getD_at hi]
  · unfold riseAt at hk; rw [getD_at hi, decide_eq_false (by omega)] at hk; exact hk
  · rw [show (!riseAt l n i) = decide (l[i] ≥ n) from by unfold riseAt; rw [getD_at hi, ← decide_not]; congr 1; rw [eq_iff_iff]; omega] at hk
    exact hk
theorem l1Rising_ok {l : List Int} {n : Int} {Q : Bool → Prop} (hl : l.length ≤ 1048576) (hn : 0 ≤ n ∧ n ≤ 1048576) (h : Q (rise l n)) : spec_l1Rising l 0 (wr (n - 1)) Q := by
  unfold spec_l1Rising
  rw [wr_in (by omega) (by omega)]
  refine loop1_list (by omega) (fun i => (List.range i).all (riseAt l n) = true) rfl (fun i nx hi h2 hx => idx_at hi ?_) (fun h2 => by unfold rise at h; rw [h2] at h; exact h)
  refine jn_bool (!riseAt l n i) (br_nb (fun g => ?_) (fun g => hx (range_succ_all h2 g))) fun k hk => l1In_ok (br_nb (fun g => ?_) (fun g => br_dec (fun g1 => ?_) (fun g1 => ?_)))
  · unfold rise at h; rw [range_all_no hi g] at h; exact h
  · have hlast : -1 ≤ lastOf l i := by
      unfold lastOf
      split
      · omega
      · have := (rise_pos (by omega) h2 (i - 1) (by omega)).1; omega
    have := inb_f g
    unfold riseAt at hk; rw [getD_at hi, decide_eq_false (by omega)] at hk; exact hk
  · have gi := inb_iff.1 g
    have e : wr ((i : Int) - 1) = ((i - 1 : Nat) : Int) := by rw [wr_in (by omega) (by omega)]; omega
    rw [e]
    refine idx_at (by omega) ?_
    rw [show (!riseAt l n i) = decide (l[i - 1] ≥ l[i]) from by
      unfold riseAt lastOf; rw [if_neg (by omega), getD_at hi, getD_at (by omega), ← decide_not]; congr 1; rw [eq_iff_iff]; omega] at hk
    exact hk
  · have gi := inb_iff.1 g
    have hi0 : i = 0 := by omega
    have : riseAt l n i = true := by unfold riseAt lastOf; rw [if_pos hi0, getD_at hi]; exact decide_eq_true (by omega)
    rw [this] at hk; exact hk
def presIn (s : List (List Int)) (p : List Int) : Bool := seedsIn s && (decide (0 < p.length) && rise p s.length)
theorem zePresent_ok {s : List (List Int)} {p : List Int} {Q : Bool → Prop} (hs : small s) (hp : p.length ≤ 1048576) (h : Q (presIn s p)) : spec_zePresent s p Q := by
  unfold spec_zePresent
  refine jn_bool _ h fun k hk => zeSeeds_ok hs (br_bo (fun g => br_dec (fun g1 => ?_) (fun g1 => ?_)) (fun g => ?_))
  · have := hs.1
    refine l1Rising_ok (n := s.length) hp (by omega) ?_
    unfold presIn at hk; rw [g, decide_eq_true (by unfold ln at g1; omega)] at hk; exact hk
  · unfold presIn at hk; rw [decide_eq_false (by unfold ln at g1; omega)] at hk; simpa using hk
  · unfold presIn at hk; rw [g] at hk; exact hk
theorem arePresent_ok {s : List (List Int)} {p : List Int} {Q : Bool → Prop} (hp : p.length ≤ 1048576) (h : Q (decide (0 < p.length) && rise p s.length)) : impl_arePresent s p Q := by
  unfold impl_arePresent
  refine jn_bool _ h fun k hk => br_dec (fun g1 => areIndices_ok hp ?_) (fun g1 => ?_)
  · rw [decide_eq_true (by unfold ln at g1; omega)] at hk; exact hk
  · rw [decide_eq_false (by unfold ln at g1; omega)] at hk; exact hk
def rpGo (s : List (List Int)) (p : List Int) (round n m : Int) : Nat → List Int
  | 0 => List.replicate n.toNat 0
  | j + 1 => cmb 1 m (rpGo s p round n m j) (mkOf s (p.getD j 0) round n m)
def rpOf (s : List (List Int)) (p : List Int) (round n m : Int) : List Int := rpGo s p round n m p.length
theorem rpGo_in {s : List (List Int)} {p : List Int} {round n m : Int} (hm : 2 ≤ m) : ∀ j, (rpGo s p round n m j).length = n.toNat ∧ resL m (rpGo s p round n m j)
  | 0 => ⟨by simp [rpGo], fun x hx => by have := List.eq_of_mem_replicate hx; omega⟩
  | j + 1 => by
    have ih := rpGo_in (s := s) (p := p) (round := round) (n := n) hm j
    unfold rpGo
    exact ⟨by rw [cmb_length (by rw [ih.1, mkOf_length])]; exact ih.1, cmb_res hm⟩
theorem pres_at {s : List (List Int)} {p : List Int} (hp : presIn s p = true) : (s.length ≤ 8 ∧ ∀ r ∈ s, r.length = s.length) ∧ ∀ x ∈ p, 0 ≤ x ∧ x < s.length := by
  unfold presIn at hp
  simp only [Bool.and_eq_true] at hp
  have := seedsIn_of hp.1
  exact ⟨⟨this.1.2, this.2⟩, rise_all hp.2.2⟩
section
variable {s : List (List Int)} {p : List Int} {round n m : Int} {Q : List Int → Prop} (hp : presIn s p = true) (hpl : p.length ≤ 1048576) (hn : 0 ≤ n ∧ n ≤ 600) (hm : 2 ≤ m ∧ m ≤ 1000000007)
include hp hpl hn hm
theorem zeRepair_ok (h : Q (rpOf s p round n m)) : spec_zeRepair s p round n m Q := by
  obtain ⟨h1, h2⟩ := pres_at hp
  unfold spec_zeRepair
  refine ⟨hn.1, by omega, ?_⟩
  refine loop2_list (by omega) (fun out j => out = rpGo s p round n m j) rfl (fun out j nx hj ho hx => idx_at hj ?_) (fun out ho => by rw [ho]; exact h)
  have hg := rpGo_in (s := s) (p := p) (round := round) (n := n) hm.1 j
  refine zeMaskOf_ok h1 (h2 _ (List.getElem_mem hj)) hn hm (zeAdd_ok hm (.inl rfl) (by rw [ho]; omega) (by rw [ho, mkOf_length]; exact hg.1) (by rw [ho]; exact hg.2) (mkOf_res hm.1) (hx _ ?_))
  rw [rpGo, getD_at hj, ho]
theorem maskRepair_ok (h : Q (rpOf s p round n m)) : impl_maskRepair s p round n m Q := by
  obtain ⟨h1, h2⟩ := pres_at hp
  unfold impl_maskRepair
  refine ⟨hn.1, by omega, ?_⟩
  refine loop2_list (by omega) (fun out j => out = rpGo s p round n m j) rfl (fun out j nx hj ho hx => idx_at hj ?_) (fun out ho => by rw [ho]; exact h)
  have hg := rpGo_in (s := s) (p := p) (round := round) (n := n) hm.1 j
  refine maskOf_ok h1 (h2 _ (List.getElem_mem hj)) hn hm (combine_ok hm (.inl rfl) (by rw [ho]; omega) (by rw [ho, mkOf_length]; exact hg.1) (by rw [ho]; exact hg.2) (mkOf_res hm.1) (hx _ ?_))
  rw [rpGo, getD_at hj, ho]
end
end Go.Proofs.Ytbegmfmabcpofaa
