/- The plain law of 'FnMasks': what the walk computes answers true, whatever the bytes. -/
import Derived.Test.YtbegmfmabcpofaaDm
import Derived.Test.YtbegmfmabcpofaaSoPure
import Derived.Test.YtbegmfmabcpofaaSpPure
import Derived.Test.YtbegmfmabcpofaaMcPure
set_option linter.unusedVariables false
set_option autoImplicit false
namespace Go.Proofs.Ytbegmfmabcpofaa
open Go Go.RowKit Go.Gv

/-! ### sums of sums -/
def sumN (f : Nat → Int) : Nat → Int
  | 0 => 0
  | n + 1 => sumN f n + f n
theorem sumN_congr {f g : Nat → Int} : ∀ {n : Nat}, (∀ i, i < n → f i = g i) → sumN f n = sumN g n
  | 0, _ => rfl
  | n + 1, h => by rw [sumN, sumN, sumN_congr fun i hi => h i (by omega), h n (by omega)]
theorem sumN_zero (n : Nat) : sumN (fun _ => 0) n = 0 := by induction n with | zero => rfl | succ n ih => rw [sumN, ih]; rfl
theorem sumN_add (f g : Nat → Int) (n : Nat) : sumN (fun i => f i + g i) n = sumN f n + sumN g n := by
  induction n with
  | zero => rfl
  | succ n ih => rw [sumN, sumN, sumN, ih]; omega
theorem sumN_neg (f : Nat → Int) (n : Nat) : sumN (fun i => -f i) n = -sumN f n := by
  induction n with
  | zero => rfl
  | succ n ih => rw [sumN, sumN, ih]; omega
theorem sumN_swap (f : Nat → Nat → Int) (m : Nat) : ∀ n, sumN (fun i => sumN (f i) m) n = sumN (fun k => sumN (fun i => f i k) n) m
  | 0 => by simp only [sumN]; rw [sumN_zero]
  | n + 1 => by
    rw [sumN, sumN_swap f m n, ← sumN_add]
    rfl
theorem sumN_anti {f : Nat → Nat → Int} {n : Nat} (h : ∀ i k, i < n → k < n → f i k = -f k i) : sumN (fun i => sumN (f i) n) n = 0 := by
  have h1 : sumN (fun i => sumN (f i) n) n = sumN (fun i => sumN (fun k => -f k i) n) n := sumN_congr fun i hi => sumN_congr fun k hk => h i k hi hk
  have h2 : sumN (fun i => sumN (fun k => -f k i) n) n = -sumN (fun i => sumN (fun k => f k i) n) n := by
    rw [← sumN_neg]; exact sumN_congr fun i _ => sumN_neg _ n
  have h3 := sumN_swap f n n
  omega
theorem emod_step (a b m : Int) : (a % m + b) % m = (a + b) % m := by rw [Int.add_emod, Int.emod_emod_of_dvd _ (Int.dvd_refl _), ← Int.add_emod]
theorem sumN_mod (f : Nat → Int) (m : Int) : ∀ n, sumN (fun i => f i % m) n % m = sumN f n % m
  | 0 => rfl
  | n + 1 => by
    rw [sumN, sumN, ← emod_step, sumN_mod f m n, emod_step, Int.add_comm, emod_step, Int.add_comm]

/-! ### masks cancel -/
def el (l : List Int) (t : Nat) : Int := l.getD t 0
theorem el_at {l : List Int} {t : Nat} (h : t < l.length) : el l t = l[t] := getD_at h
theorem el_cmb {s m : Int} {a b : List Int} {t : Nat} (ha : t < a.length) (hb : t < b.length) : el (cmb s m a b) t = (el a t + s * el b t) % m := by
  rw [el_at (by simp [cmb]; omega), cmb_get (by simp [cmb]; omega) ha hb, el_at ha, el_at hb]
def ctr (s : List (List Int)) (round m : Int) (t i k : Nat) : Int :=
  if (k : Int) > i then pm1 (sg s i k) i k round m t else if (k : Int) < i then -pm1 (sg s i k) k i round m t else 0
theorem el_pm {seed i k round n m : Int} {t : Nat} (ht : t < n.toNat) : el (pmOf seed i k round n m) t = pm1 seed i k round m t := by
  rw [el_at (by rw [pmOf_length]; exact ht)]; simp [pmOf]
theorem el_mkGo {s : List (List Int)} {round n m : Int} {t i : Nat} (ht : t < n.toNat) : ∀ k, el (mkGo s (i : Int) round n m k) t = sumN (ctr s round m t i) k % m
  | 0 => by simp [mkGo, sumN, el, List.getD_eq_getElem?_getD, ht]
  | k + 1 => by
    have ih := el_mkGo (s := s) (round := round) (n := n) (m := m) (i := i) ht k
    have hl := mkGo_length (s := s) (i := (i : Int)) (round := round) (n := n) (m := m) k
    rw [mkGo, sumN]
    unfold ctr
    rw [Int.toNat_natCast]
    split
    · rw [el_cmb (by omega) (by rw [pmOf_length]; exact ht), ih, el_pm ht, Int.one_mul, emod_step]; rfl
    · split
      · rw [el_cmb (by omega) (by rw [pmOf_length]; exact ht), ih, el_pm ht, Int.neg_one_mul, emod_step]; rfl
      · rw [ih, Int.add_zero]; rfl
theorem sg_sym {s : List (List Int)} (h : seedsIn s = true) {i k : Nat} (hi : i < s.length) (hk : k < s.length) : sg s i k = sg s k i := by
  unfold seedsIn at h
  simp only [Bool.and_eq_true] at h
  have key : ∀ i k, i < s.length → k < i → sg s i k = sg s k i := fun i k hi hk => by
    have := range_all_of h.2 hi
    unfold rowIn at this
    simp only [Bool.and_eq_true] at this
    have := range_all_of this.2 hk
    simpa using this
  rcases Nat.lt_trichotomy i k with e | e | e
  · exact (key k i hk e).symm
  · rw [e]
  · exact key i k hi e
theorem ctr_anti {s : List (List Int)} (h : seedsIn s = true) {round m : Int} {t i k : Nat} (hi : i < s.length) (hk : k < s.length) : ctr s round m t i k = -ctr s round m t k i := by
  unfold ctr
  rw [sg_sym h hk hi]
  by_cases e1 : (k : Int) > i
  · rw [if_pos e1, if_neg (show ¬ (i : Int) > k by omega), if_pos (show (i : Int) < k by omega)]; omega
  · by_cases e2 : (k : Int) < i
    · rw [if_neg e1, if_pos e2, if_pos (show (i : Int) > k by omega)]
    · rw [if_neg e1, if_neg e2, if_neg (show ¬ (i : Int) > k by omega), if_neg (show ¬ (i : Int) < k by omega)]; rfl
def msOf (s : List (List Int)) (round n m : Int) : List (List Int) := (List.range s.length).map fun (i : Nat) => moOf s (i : Int) round n m
theorem msOf_row {s : List (List Int)} {round n m : Int} {i : Nat} (hi : i < s.length) : (msOf s round n m).getD i [] = moOf s (i : Int) round n m := by
  simp [msOf, List.getD_eq_getElem?_getD, hi]
section
variable {s : List (List Int)} {round n m : Int} (hall : ∀ i : Nat, i < s.length → moIn s (i : Int) round n m = true) (hpos : 0 < s.length)
include hall hpos
theorem ms_all : seedsIn s = true ∧ (2 ≤ s.length ∧ s.length ≤ 8) ∧ (0 ≤ n ∧ n ≤ 600) ∧ (2 ≤ m ∧ m ≤ 1000000007) := by
  have h := hall 0 hpos
  have h1 := moIn_of h
  unfold moIn at h
  simp only [Bool.and_eq_true] at h
  exact ⟨h.1, (seedsIn_of h.1).1, h1.2.2.1, h1.2.2.2⟩
theorem ms_row {i : Nat} (hi : i < s.length) : moOf s (i : Int) round n m = mkOf s (i : Int) round n m := by have _ := hpos; unfold moOf; rw [hall i hi, if_pos rfl]
theorem ms_shN : shN (msOf s round n m) = n.toNat := by
  unfold shN
  rw [msOf_row hpos, ms_row hall hpos hpos, mkOf_length]
theorem ms_in : shIn m (msOf s round n m) = true := by
  obtain ⟨h1, h2, h3, h4⟩ := ms_all hall hpos
  have hN := ms_shN hall hpos
  unfold shIn
  rw [show inb 2 1000000007 m = true from inb_iff.2 h4, decide_eq_true (by simp [msOf]; omega), Bool.true_and, Bool.true_and]
  refine List.all_eq_true.2 fun r hr => ?_
  obtain ⟨i, hi, rfl⟩ := List.mem_map.1 hr
  have hi := List.mem_range.1 hi
  rw [ms_row hall hpos hi]
  unfold shRow isRes
  rw [hN, mkOf_length, decide_eq_true rfl, decide_eq_true (by omega), Bool.true_and, Bool.true_and]
  exact List.all_eq_true.2 fun x hx => inb_iff.2 (mkOf_res h4.1 x hx)
theorem el_smGo {t : Nat} (ht : t < n.toNat) : ∀ j, j ≤ s.length → el (smGo m (msOf s round n m) j) t = sumN (fun i => sumN (ctr s round m t i) s.length) j % m
  | 0, _ => by simp [smGo, sumN, el, List.getD_eq_getElem?_getD, ms_shN hall hpos, ht]
  | j + 1, hj => by
    have ih := el_smGo ht j (by omega)
    have hin := ms_in hall hpos
    have hg := smGo_in hin j (by simp [msOf]; omega)
    rw [ms_shN hall hpos] at hg
    rw [smGo, sumN, msOf_row (by omega), ms_row hall hpos (by omega), el_cmb (by omega) (by rw [mkOf_length]; exact ht), ih, Int.one_mul, emod_step]
    unfold mkOf
    rw [el_mkGo ht, Int.add_comm, emod_step, Int.add_comm]
theorem ms_zero {t : Nat} (ht : t < n.toNat) : el (smOf m (msOf s round n m)) t = 0 := by
  have h := el_smGo hall hpos ht s.length (Nat.le_refl _)
  have hl : (msOf s round n m).length = s.length := by simp [msOf]
  unfold smOf
  rw [hl, h, sumN_anti fun i k hi hk => ctr_anti (ms_all hall hpos).1 hi hk, Int.zero_emod]
end
theorem sameInts_same {a : List Int} {Q : Bool → Prop} (hl : a.length ≤ 1048576) (h : Q true) : laws_sameInts a a Q := by
  unfold laws_sameInts
  refine br_false (by simp) ?_
  exact loop1_list (by omega) (fun _ => True) trivial (fun i nx hi _ hn => idx_at hi (idx_at hi (br_false (by simp) (hn trivial)))) (fun _ => h)
theorem pSum_zero {a : List Int} {Q : Int → Prop} (hl : a.length ≤ 1048576) (hz : ∀ t, (h : t < a.length) → a[t] = 0) (h : Q 0) : laws_pSum a Q := by
  unfold laws_pSum
  refine loop2_list (by omega) (fun s _ => s = 0) rfl (fun s i nx hi hs hn => idx_at hi ?_) (fun s hs => by rw [hs]; exact h)
  rw [hz i hi, hs, wr_in (by omega) (by omega)]
  exact hn _ rfl
theorem big_ok {a b : List B8} {Q : Bool → Prop} (h : ∀ r, (r = false → a.length ≤ 1048576 ∧ b.length ≤ 1048576) → Q r) : laws_big a b Q := by
  unfold laws_big
  refine jn_ok (fun r => r = false → a.length ≤ 1048576 ∧ b.length ≤ 1048576) h fun k hk => br_dec (fun g => hk _ (fun c => by cases c)) (fun g => hk _ fun c => ?_)
  have := of_decide_eq_false c
  rw [wr_in (by unfold ln at *; omega) (by unfold ln at *; omega)] at this
  unfold ln at *; omega
theorem lawMk_ok (code more : List B8) (hw : Wf.wf code) (hw2 : Wf.wf more) : laws_FnMasks code more (fun r => r = true) := by
  unfold laws_FnMasks
  refine big_ok fun b hb => br_bo (fun _ => rfl) (fun hbf => ?_)
  obtain ⟨l1, l2⟩ := hb hbf
  have c1 : bytesOk code := ⟨l1, hw.2⟩
  have c2 : bytesOk more := ⟨l2, hw2.2⟩
  refine drawMaskOf_ok c1 fun s i0 round n m hs n0 n1 m0 m1 => ?_
  have hsm := hs.small
  have hlen := hs.1
  refine loop3_list (by omega) (fun masks all i => masks = (List.range i).map (fun (i : Nat) => moOf s (i : Int) round n m) ∧ (all = true → ∀ j : Nat, j < i → moIn s (j : Int) round n m = true)) ⟨rfl, fun _ j hj => by omega⟩ (fun masks all i nx hi ⟨h1, h2⟩ hx => ?_) (fun masks all ⟨h1, h2⟩ => ?_)
  · have hml := moOf_length s (i : Int) round n m
    refine implMo_ok (specMo_ok hsm (jn_of (br_false (by simp) (sameInts_same (by omega) (br_false rfl ?_)))))
    have hmas : masks.length ≤ 9 := by rw [h1]; simp; omega
    have hap : masks ++ [moOf s (i : Int) round n m] = (List.range (i + 1)).map (fun (i : Nat) => moOf s (i : Int) round n m) := by rw [h1, List.range_succ, List.map_append]; rfl
    refine jn_ok (fun a => a = true → ∀ j : Nat, j < i + 1 → moIn s (j : Int) round n m = true) (fun a ha => ⟨by unfold ln; simp; omega, hx _ _ ⟨hap, ha⟩⟩) fun k hk => br_bo (fun ga => hk _ fun gm j hj => ?_) (fun _ => hk _ fun c => by cases c)
    by_cases e : j = i
    · rw [e]; exact gm
    · exact h2 ga j (by omega)
  · have hms : masks = msOf s round n m := h1
    refine jn_of (jn_ok (fun x => x = true → all = true ∧ 0 < s.length) (fun x hx => ?_) fun k hk => br_bo (fun g => hk _ fun c => ⟨g, ?_⟩) (fun _ => hk _ fun c => by cases c))
    · have rest : spec_DrawMaskRepair more fun r174 r175 r176 r177 r178 =>
          impl_MaskRepair r174 r175 r176 r177 r178 fun r195 r196 =>
          spec_MaskRepair r174 r175 r176 r177 r178 fun r206 r207 =>
          jn (fun (k223 : Bool → Prop) => br (r196 != r207) (k223 true) <|
          laws_sameInts r195 r206 fun r228 =>
          k223 (!r228)) <|
          fun (x219 : Bool) =>
          br (x219) (false = true) <|
          spec_DrawSumPresent more fun r235 r236 r237 r238 r239 =>
          impl_SumPresent r235 r236 r237 r238 r239 fun r263 r264 =>
          spec_SumPresent r235 r236 r237 r238 r239 fun r274 r275 =>
          jn (fun (k292 : Bool → Prop) => br (r264 != r275) (k292 true) <|
          laws_sameInts r263 r274 fun r297 =>
          k292 (!r297)) <|
          fun (x288 : Bool) =>
          br (x288) (false = true) <|
          spec_DrawMaskCounts more fun r304 r305 =>
          impl_MaskCounts r304 r305 fun r308 r309 =>
          spec_MaskCounts r304 r305 fun r319 r320 =>
          jn (fun (k333 : Bool → Prop) => br (r309 == r320) (laws_sameInts r308 r319 fun r336 =>
          k333 r336) <|
          k333 false) <|
          fun (x330 : Bool) =>
          x330 = true := by
        refine drawMaskRepair_ok c2 fun s2 p2 round2 n2 m2 hs2 hp2 _ _ _ _ => ?_
        have q1 := mrOf_length s2 p2 round2 n2 m2
        refine implMr_ok (by omega) (specMr_ok hs2.small (by omega) (jn_of (br_false (by simp) (sameInts_same (by omega) (br_false rfl ?_)))))
        refine drawSumPresent_ok c2 fun s3 p3 round3 m3 q3 hs3 hp3 hq3 => ?_
        have q2 := spOf_length s3 p3 round3 m3 q3
        refine implSp_ok (by omega) (specSp_ok hs3.small (by omega) hq3.1 (jn_of (br_false (by simp) (sameInts_same (by omega) (br_false rfl ?_)))))
        refine drawMaskCounts_ok c2 fun m4 n4 => ?_
        have q3 := mcOut_length m4 n4
        exact implMc_ok (specMc_ok (jn_of (br_true (by simp) (sameInts_same (by omega) rfl))))
      refine br_bo (fun g => ?_) (fun _ => rest)
      obtain ⟨ga, gp⟩ := hx g
      have hall := h2 ga
      have hin := ms_in hall gp
      have hso : soOf m masks = smOf m (msOf s round n m) := by unfold soOf; rw [hms, hin, if_pos rfl]
      have hlen2 : (smOf m (msOf s round n m)).length = n.toNat := by rw [(smOf_in hin).1, ms_shN hall gp]
      have hn := (ms_all hall gp).2.2.1
      have hz : ∀ t, (h : t < (smOf m (msOf s round n m)).length) → (smOf m (msOf s round n m))[t] = 0 := fun t h => by
        rw [← el_at h]; exact ms_zero hall gp (by omega)
      refine implSo_ok ?_
      rw [hso, show shIn m masks = true from by rw [hms]; exact hin]
      refine jn_bool false (br_false rfl ?_) fun k hk => br_false rfl (br_ne (fun c => absurd (show ln (smOf m (msOf s round n m)) = n by unfold ln; omega) c) (fun _ => pSum_zero (by omega) hz hk))
      exact loop1_list (by omega) (fun _ => True) trivial (fun i nx hi _ hn => idx_at hi (by rw [hz i hi]; exact br_false (by simp) (hn trivial))) (fun _ => rest)
    · have := of_decide_eq_true c
      rw [h1] at this; unfold ln at this; simpa using this
end Go.Proofs.Ytbegmfmabcpofaa
