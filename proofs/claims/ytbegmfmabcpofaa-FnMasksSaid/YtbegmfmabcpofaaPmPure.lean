/- The plain law of 'FnExactPairMask': what the walk computes answers true, whatever the arguments. -/
import Derived.Test.YtbegmfmabcpofaaSvPure
set_option linter.unusedVariables false
set_option autoImplicit false
namespace Go.Proofs.Ytbegmfmabcpofaa
open Go Go.RowKit Go.Gv

theorem hMod_ok {x m : Int} {Q : Int → Prop} (h0 : 0 < m) (h1 : m ≤ 4294967296) (h : Q (x % m)) : spec_hMod x m Q := by
  unfold spec_hMod
  have hlt := Int.tmod_lt_of_pos x h0
  have hgt : -m < x.tmod m := by
    have := Int.tmod_lt_of_pos (-x) h0; rw [Int.neg_tmod] at this; omega
  refine ⟨by omega, by omega, ?_⟩
  rw [wr_in (by omega) (by omega), Int.tmod_eq_emod_of_nonneg (by omega), Int.add_emod_right]
  have : x.tmod m % m = x % m := by
    rw [Int.tmod_def, Int.sub_emod, Int.mul_emod_right]; simp
  rw [this]; exact h
theorem tmod_fix {x m : Int} (h0 : 0 < m) : (x.tmod m < 0 → x % m = x.tmod m + m) ∧ (¬ x.tmod m < 0 → x % m = x.tmod m) := by
  have hlt := Int.tmod_lt_of_pos x h0
  have hgt : -m < x.tmod m := by
    have := Int.tmod_lt_of_pos (-x) h0; rw [Int.neg_tmod] at this; omega
  have e : x.tmod m % m = x % m := by
    rw [Int.tmod_def, Int.sub_emod, Int.mul_emod_right]; simp
  constructor
  · intro h
    rw [← e, ← Int.add_emod_right]; exact Int.emod_eq_of_lt (by omega) (by omega)
  · intro h
    rw [← e]; exact Int.emod_eq_of_lt (by omega) (by omega)
def dgA (a x : Int) : Int := (48271 * a + x % 2147483647 + 1) % 2147483647
def dgB (b x a : Int) : Int := (69621 * b + x % 2147483629 + a) % 2147483629
def dg (l : List Int) : Nat → Int × Int
  | 0 => (l.length, 1)
  | i + 1 => (dgA (dg l i).1 (l.getD i 0), dgB (dg l i).2 (l.getD i 0) (dgA (dg l i).1 (l.getD i 0)))
theorem dg_bounds {l : List Int} (hl : l.length ≤ 1000000) : ∀ i, 0 ≤ (dg l i).1 ∧ (dg l i).1 ≤ 2147483647 ∧ 0 ≤ (dg l i).2 ∧ (dg l i).2 ≤ 2147483647
  | 0 => by simp only [dg]; omega
  | i + 1 => by
    simp only [dg, dgA, dgB]
    refine ⟨Int.emod_nonneg _ (by omega), ?_, Int.emod_nonneg _ (by omega), ?_⟩
    · have := Int.emod_lt_of_pos (48271 * (dg l i).1 + l.getD i 0 % 2147483647 + 1) (show (0 : Int) < 2147483647 by omega); omega
    · have := Int.emod_lt_of_pos (69621 * (dg l i).2 + l.getD i 0 % 2147483629 + (48271 * (dg l i).1 + l.getD i 0 % 2147483647 + 1) % 2147483647) (show (0 : Int) < 2147483629 by omega); omega
def dgOf (l : List Int) : Int := wr (wr ((dg l (l.length + 4)).1 * 2 ^ 31) + (dg l (l.length + 4)).2)
theorem getD_at {l : List Int} {i : Nat} (h : i < l.length) : l.getD i 0 = l[i] := by simp [List.getD_eq_getElem?_getD, h]
theorem getD_out {l : List Int} {i : Nat} (h : ¬ i < l.length) : l.getD i 0 = 0 := by simp [List.getD_eq_getElem?_getD, List.getElem?_eq_none (show l.length ≤ i by omega)]
theorem hInts_ok {l : List Int} {Q : Int → Prop} (hl : l.length ≤ 1000) (h : Q (dgOf l)) : spec_hInts l Q := by
  unfold spec_hInts
  have hw : wr (ln l + 4) = ln l + 4 := wr_in (by unfold ln; omega) (by unfold ln; omega)
  rw [hw]
  refine loop3_to (by unfold ln; omega) (fun a b i => a = (dg l i).1 ∧ b = (dg l i).2) ⟨rfl, rfl⟩ (fun a b i nx hi ⟨ha, hb⟩ hx => ?_) (fun a b i hi ⟨ha, hb⟩ => ?_)
  · have bd := dg_bounds (show l.length ≤ 1000000 by omega) i
    rw [← ha, ← hb] at bd
    refine jn_bool (l.getD i 0) ?_ fun k hk => br_dec (fun g => ?_) (fun g => ?_)
    · refine hMod_ok (by omega) (by omega) (hMod_ok (by omega) (by omega) ?_)
      have e1 := Int.emod_nonneg (l.getD i 0) (show (2147483647 : Int) ≠ 0 by omega)
      have e2 := Int.emod_lt_of_pos (l.getD i 0) (show (0 : Int) < 2147483647 by omega)
      have e3 := Int.emod_nonneg (l.getD i 0) (show (2147483629 : Int) ≠ 0 by omega)
      have e4 := Int.emod_lt_of_pos (l.getD i 0) (show (0 : Int) < 2147483629 by omega)
      rw [wr_in (x := 48271 * a) (by omega) (by omega), wr_in (x := 48271 * a + _) (by omega) (by omega), wr_in (x := 48271 * a + _ + 1) (by omega) (by omega)]
      rw [Int.tmod_eq_emod_of_nonneg (a := 48271 * a + _ + 1) (by omega)]
      have f1 := Int.emod_nonneg (48271 * a + l.getD i 0 % 2147483647 + 1) (show (2147483647 : Int) ≠ 0 by omega)
      have f2 := Int.emod_lt_of_pos (48271 * a + l.getD i 0 % 2147483647 + 1) (show (0 : Int) < 2147483647 by omega)
      rw [wr_in (x := 69621 * b) (by omega) (by omega), wr_in (x := 69621 * b + _) (by omega) (by omega), wr_in (x := 69621 * b + _ + _) (by omega) (by omega)]
      rw [Int.tmod_eq_emod_of_nonneg (a := 69621 * b + _ + _) (by omega)]
      exact hx _ _ ⟨by rw [dg, ha]; rfl, by rw [dg, hb, ha]; rfl⟩
    · have g := ln_nat.1 g
      refine idx_at g ?_; rw [getD_at g] at hk; exact hk
    · rw [getD_out (fun c => g (ln_nat.2 c))] at hk; exact hk
  · have : i = l.length + 4 := by unfold ln at hi; omega
    subst this; rw [ha, hb]; exact h
theorem step_ok {f n x more p : Int} {Q : Int → Prop} (hp : 0 < p) (hp' : p ≤ 4294967296) (hf : 0 ≤ f * n ∧ f * n ≤ 1000000000000000) (hm : 0 ≤ more ∧ more ≤ 4294967296) (h : Q ((f * n + x % p + more) % p)) : impl_step f n x more p Q := by
  unfold impl_step
  have e1 := Int.emod_nonneg x (show p ≠ 0 by omega)
  have e2 := Int.emod_lt_of_pos x hp
  have fx := tmod_fix (x := x) hp
  refine ⟨by omega, jn_bool (x % p) ?_ fun k hk => br_dec (fun g => ?_) (fun g => ?_)⟩
  · refine ⟨by omega, ?_⟩
    rw [wr_in (x := f * n) (by omega) (by omega), wr_in (x := f * n + _) (by omega) (by omega), wr_in (x := f * n + _ + more) (by omega) (by omega)]
    rw [Int.tmod_eq_emod_of_nonneg (by omega)]; exact h
  · rw [wr_in (by have := fx.1 g; omega) (by have := fx.1 g; omega), ← fx.1 g]; exact hk
  · rw [← fx.2 g]; exact hk
theorem digest_ok {l : List Int} {Q : Int → Prop} (hl : l.length ≤ 1000) (h : Q (dgOf l)) : impl_digest l Q := by
  unfold impl_digest
  have hw : wr (ln l + 4) = ln l + 4 := wr_in (by unfold ln; omega) (by unfold ln; omega)
  have h0 : (ln l).tmod 2147483647 = ln l := by
    rw [Int.tmod_eq_emod_of_nonneg (by unfold ln; omega)]; exact Int.emod_eq_of_lt (by unfold ln; omega) (by unfold ln; omega)
  rw [hw, h0]
  refine loop3_to (by unfold ln; omega) (fun a b i => a = (dg l i).1 ∧ b = (dg l i).2) ⟨rfl, rfl⟩ (fun a b i nx hi ⟨ha, hb⟩ hx => ?_) (fun a b i hi ⟨ha, hb⟩ => ?_)
  · have bd := dg_bounds (show l.length ≤ 1000000 by omega) i
    rw [← ha, ← hb] at bd
    refine jn_bool (l.getD i 0) ?_ fun k hk => br_dec (fun g => ?_) (fun g => ?_)
    · refine step_ok (by omega) (by omega) (by omega) (by omega) ?_
      have f1 := Int.emod_nonneg (48271 * a + l.getD i 0 % 2147483647 + 1) (show (2147483647 : Int) ≠ 0 by omega)
      have f2 := Int.emod_lt_of_pos (48271 * a + l.getD i 0 % 2147483647 + 1) (show (0 : Int) < 2147483647 by omega)
      rw [Int.tmod_eq_emod_of_nonneg (a := (48271 * a + l.getD i 0 % 2147483647 + 1) % 2147483647) f1]
      have g1 := Int.emod_nonneg ((48271 * a + l.getD i 0 % 2147483647 + 1) % 2147483647) (show (2147483629 : Int) ≠ 0 by omega)
      have g2 := Int.emod_lt_of_pos ((48271 * a + l.getD i 0 % 2147483647 + 1) % 2147483647) (show (0 : Int) < 2147483629 by omega)
      refine step_ok (by omega) (by omega) (by omega) (by omega) ?_
      refine hx _ _ ⟨by rw [dg, ha]; rfl, ?_⟩
      rw [Int.add_emod, Int.emod_emod_of_dvd _ (Int.dvd_refl _), ← Int.add_emod]
      rw [dg, hb, ha]; rfl
    · have g := ln_nat.1 g
      refine idx_at g ?_; rw [getD_at g] at hk; exact hk
    · rw [getD_out (fun c => g (ln_nat.2 c))] at hk; exact hk
  · have : i = l.length + 4 := by unfold ln at hi; omega
    subst this; rw [ha, hb]; exact h

def pm1 (seed i k round m : Int) (j : Nat) : Int := (dgOf [5, seed, i, k, round, (j : Int)]).tmod m
def pmOf (seed i k round n m : Int) : List Int := (List.range n.toNat).map (pm1 seed i k round m)
theorem zeMask_ok {seed i k round n m : Int} {Q : List Int → Prop} (hm : m ≠ 0) (hn : n ≤ 600) (h : Q (pmOf seed i k round n m)) : spec_zeMask seed i k round n m Q := by
  unfold spec_zeMask
  refine loop2_to (by omega) (fun out j => out = (List.range j).map (pm1 seed i k round m)) rfl (fun out j nx hj ho hx => hInts_ok (by simp) ⟨hm, ?_, hx _ ?_⟩) (fun out j hj ho => ?_)
  · unfold ln; rw [ho]; simp; omega
  · rw [ho, List.range_succ, List.map_append]; rfl
  · rw [ho, hj]; exact h
theorem pairMask_ok {seed i k round n m : Int} {Q : List Int → Prop} (hm : m ≠ 0) (hn0 : 0 ≤ n) (hn : n ≤ 600) (h : Q (pmOf seed i k round n m)) : impl_pairMask seed i k round n m Q := by
  unfold impl_pairMask
  refine ⟨hn0, by omega, ?_⟩
  have hlen : (pmOf seed i k round n m).length = n.toNat := by simp [pmOf]
  refine loop2_list (by simp; omega) (fun out j => out.length = (pmOf seed i k round n m).length ∧ out.take j = (pmOf seed i k round n m).take j) (by simp [hlen]) (fun out j nx hj ⟨h1, h2⟩ hx => digest_ok (by simp) ⟨hm, ?_⟩) (fun out ⟨h1, h2⟩ => ?_)
  · have hj' : j < out.length := by rw [h1, hlen]; simpa using hj
    refine ⟨by omega, by simpa using hj', hx _ ⟨by simpa using h1, ?_⟩⟩
    have := set_done h1 hj' h2
    simpa [pmOf, pm1] using this
  · have : out = pmOf seed i k round n m := by
      rw [List.length_replicate, ← hlen, List.take_length, ← h1, List.take_length] at h2; exact h2
    rw [this]; exact h
def pmIn (seed i k round n m : Int) : Bool := decide ((0 ≤ seed ∧ seed ≤ 4611686016279904236) ∧ (0 ≤ i ∧ i ≤ 6) ∧ (i + 1 ≤ k ∧ k ≤ 7) ∧ (0 ≤ round ∧ round ≤ 1000000) ∧ (0 ≤ n ∧ n ≤ 600) ∧ (2 ≤ m ∧ m ≤ 1000000007))
def pmOut (seed i k round n m : Int) : List Int := if pmIn seed i k round n m then pmOf seed i k round n m else []
theorem inb_f {lo hi x : Int} (h : inb lo hi x = false) : ¬ (lo ≤ x ∧ x ≤ hi) := inb_no.1 h
theorem hDigest_ok {l : List Int} {Q : Bool → Prop} (hl : l.length ≤ 1048576) (h : Q (l.all (inb 0 4611686016279904236))) : spec_hDigest l Q := l1All_ok hl h
theorem zeRound_ok {round n m : Int} {Q : Bool → Prop} (h : Q (inb 0 1000000 round && (inb 0 600 n && inb 2 1000000007 m))) : spec_zeRound round n m Q := by
  unfold spec_zeRound
  refine jn_bool _ h fun k hk => l1In_ok (br_bo (fun g => l1In_ok (br_bo (fun g2 => zeModulus_ok ?_) (fun g2 => ?_))) (fun g => ?_))
  · rw [show inb 0 1000000 round = true from g, show inb 0 600 n = true from g2] at hk; exact hk
  · rw [show inb 0 600 n = false from g2] at hk; simpa using hk
  · rw [show inb 0 1000000 round = false from g] at hk; exact hk
theorem specPm_ok {seed i k round n m : Int} {Q : List Int → Bool → Prop} (h : Q (pmOut seed i k round n m) (pmIn seed i k round n m)) : spec_PairMask seed i k round n m Q := by
  unfold spec_PairMask
  refine jn_bool (!pmIn seed i k round n m) ?_ fun c hk => hDigest_ok (by simp) (br_nb (fun g => ?_) (fun g => l1In_ok (br_nb (fun g1 => ?_) (fun g1 => l1In_ok (br_nb (fun g2 => ?_) (fun g2 => zeRound_ok ?_))))))
  · refine br_nb (fun g => ?_) (fun g => ?_)
    · unfold pmOut at h; rw [g] at h; simpa using h
    · have hp := of_decide_eq_true g
      refine zeMask_ok (by omega) (by omega) ?_
      unfold pmOut at h; rw [g] at h; simpa using h
  · have hs : ¬ (0 ≤ seed ∧ seed ≤ 4611686016279904236) := inb_f (by simpa using g)
    rw [show pmIn seed i k round n m = false from decide_eq_false (fun q => hs q.1)] at hk; exact hk
  · have := inb_f g1
    rw [show pmIn seed i k round n m = false from decide_eq_false (by omega)] at hk; exact hk
  · have e1 := inb_iff.1 g1
    have := inb_f g2
    rw [wr_in (by omega) (by omega)] at this
    rw [show pmIn seed i k round n m = false from decide_eq_false (by omega)] at hk; exact hk
  · have e1 := inb_iff.1 g1
    have e2 := inb_iff.1 g2
    rw [wr_in (by omega) (by omega)] at e2
    have hs : (0 ≤ seed ∧ seed ≤ 4611686016279904236) := inb_iff.1 (by simpa using g)
    have : (inb 0 1000000 round && (inb 0 600 n && inb 2 1000000007 m)) = pmIn seed i k round n m := by
      unfold pmIn inb
      rw [Bool.eq_iff_iff]; simp only [Bool.and_eq_true, decide_eq_true_eq]; omega
    rw [this]; exact hk
theorem isSeed_ok {n : Int} {Q : Bool → Prop} (h : Q (inb 0 4611686016279904236 n)) : impl_isSeed n Q := by
  unfold impl_isSeed
  refine jn_bool _ h fun k hk => br_dec (fun g => ?_) (fun g => ?_)
  · unfold inb at hk; rw [decide_eq_true (by omega : 0 ≤ n)] at hk; exact hk
  · unfold inb at hk; rw [decide_eq_false (by omega : ¬ 0 ≤ n)] at hk; exact hk
theorem isRound_ok {n : Int} {Q : Bool → Prop} (h : Q (inb 0 1000000 n)) : impl_isRound n Q := by
  unfold impl_isRound
  refine jn_bool _ h fun k hk => br_dec (fun g => ?_) (fun g => ?_)
  · unfold inb at hk; rw [decide_eq_true (by omega : 0 ≤ n)] at hk; exact hk
  · unfold inb at hk; rw [decide_eq_false (by omega : ¬ 0 ≤ n)] at hk; exact hk
theorem isLength_ok {n : Int} {Q : Bool → Prop} (h : Q (inb 0 600 n)) : impl_isLength n Q := by
  unfold impl_isLength
  refine jn_bool _ h fun k hk => br_dec (fun g => ?_) (fun g => ?_)
  · unfold inb at hk; rw [decide_eq_true (by omega : 0 ≤ n)] at hk; exact hk
  · unfold inb at hk; rw [decide_eq_false (by omega : ¬ 0 ≤ n)] at hk; exact hk
theorem implPm_ok {seed i k round n m : Int} {Q : List Int → Bool → Prop} (h : Q (pmOut seed i k round n m) (pmIn seed i k round n m)) : impl_PairMask seed i k round n m Q := by
  unfold impl_PairMask
  refine jn_bool (!pmIn seed i k round n m) ?_ fun c hk => isSeed_ok (br_nb (fun g => ?_) (fun g => br_dec (fun g1 => ?_) (fun g1 => br_dec (fun g2 => ?_) (fun g2 => br_dec (fun g3 => ?_) (fun g3 => isRound_ok (br_nb (fun g4 => ?_) (fun g4 => isLength_ok (br_nb (fun g5 => ?_) (fun g5 => isModulus_ok ?_)))))))))
  · refine br_nb (fun g => ?_) (fun g => ?_)
    · unfold pmOut at h; rw [g] at h; simpa using h
    · have hp := of_decide_eq_true g
      refine pairMask_ok (by omega) (by omega) (by omega) ?_
      unfold pmOut at h; rw [g] at h; simpa using h
  · have := inb_f g
    rw [show pmIn seed i k round n m = false from decide_eq_false (by omega)] at hk; exact hk
  · rw [show pmIn seed i k round n m = false from decide_eq_false (by omega)] at hk; exact hk
  · rw [show pmIn seed i k round n m = false from decide_eq_false (by omega)] at hk; exact hk
  · rw [show pmIn seed i k round n m = false from decide_eq_false (by omega)] at hk; exact hk
  · have := inb_f g4
    rw [show pmIn seed i k round n m = false from decide_eq_false (by omega)] at hk; exact hk
  · have := inb_f g5
    rw [show pmIn seed i k round n m = false from decide_eq_false (by omega)] at hk; exact hk
  · have e0 := inb_iff.1 g
    have e4 := inb_iff.1 g4
    have e5 := inb_iff.1 g5
    have : inb 2 1000000007 m = pmIn seed i k round n m := by
      unfold pmIn inb
      rw [Bool.eq_iff_iff]; simp only [Bool.and_eq_true, decide_eq_true_eq]; omega
    rw [this]; exact hk
theorem pmOut_length (seed i k round n m : Int) : (pmOut seed i k round n m).length ≤ 600 := by
  unfold pmOut
  split
  · rename_i g; have := of_decide_eq_true g; simp [pmOf]; omega
  · simp
theorem lawPm_ok (seed i k round n m : Int) (_ : Wf.wf seed) (_ : Wf.wf i) (_ : Wf.wf k) (_ : Wf.wf round) (_ : Wf.wf n) (_ : Wf.wf m) : laws_FnExactPairMask seed i k round n m (fun r => r = true) := by
  have hO := pmOut_length seed i k round n m
  unfold laws_FnExactPairMask
  refine specPm_ok (implPm_ok (jn_of (eqIntS_ok (by omega) ?_)))
  refine br_false (by simp) (br_false (by simp) ?_)
  refine markIntS_ok (by omega) (by omega) (by omega) (heldIntS_ok (by omega) (by omega) (by omega) ?_)
  refine br_false (by simp; omega) (br_false (by simp) ?_)
  refine implPm_ok (jn_of (eqIntS_ok (by omega) (br_false (by simp) (br_false (by simp) ?_))))
  refine heldIntS_ok (by omega) (by omega) (by omega) ?_
  exact br_false (by simp; omega) (br_false (by simp) rfl)
end Go.Proofs.Ytbegmfmabcpofaa
