/- Plain facts about mended values: their cost, and the bound of a packing. -/
import Derived.Test.YtklajcbpnpkniaaMA
set_option linter.unusedVariables false
set_option autoImplicit false
namespace Go.Proofs.Ytklajcbpnpkniaa
open Go Go.RowKit Go.Gv

theorem completionOf_in {sx : List Variable} {l : List Edit} {vs vars : List Int} {Q : List Int → Prop} (hL : Lok sx) (h1 : 1 ≤ sx.length) (he : Eok sx.length l) (hvs : vs.length = sx.length)
    (hq : ∀ r : List Int, ((r = [] ∧ compl sx l vs vars = false) ∨ (r ∈ pass sx l ∧ agree sx vars vs r = true ∧ compl sx l vs vars = true)) → Q r) : impl_completionOf sx l (oth sx vars) vs Q := by
  have h0 := hL.1
  have hcs := cnt_small' hL
  have ho : (oth sx vars).length ≤ sx.length := by
    unfold oth
    rw [List.length_map]
    have := List.length_filter_le (fun (i : Nat) => !hasB vars (i : Int)) (List.range sx.length)
    rwa [List.length_range] at this
  have hov : ∀ j (hj : j < (oth sx vars).length), ∃ i : Nat, (oth sx vars)[j] = (i : Int) ∧ i < sx.length := fun j hj => by
    have := List.getElem_mem hj
    unfold oth at this
    obtain ⟨i, hi, e⟩ := List.mem_map.1 this
    exact ⟨i, e.symm, List.mem_range.1 (List.mem_filter.1 hi).1⟩
  unfold impl_completionOf impl_passing_impl_completionOf_1
  refine combinations_ok hL ?_
  refine ⟨fun x f => ∃ n : Nat, x = (n : Int) ∧ n ≤ cnt sx ∧ f = [] ∧ (List.range n).all (fun i => failsB l (vals sx i) || !agree sx vars vs (vals sx i)) = true, fun x _ => ((cnt sx : Int) - x).toNat, ⟨0, rfl, Nat.zero_le _, rfl, by simp⟩, ?_⟩
  rintro x f ⟨n, rfl, hn, rfl, hj⟩
  refine br_dec (fun g => valuesAt_ok hL (by omega) ?_) (fun g => ?_)
  · have hn' : n < cnt sx := by omega
    have hvl := vals_length sx n
    refine jn_bool2 (!(failsB l (vals sx n) || !agree sx vars vs (vals sx n))) (if !(failsB l (vals sx n) || !agree sx vars vs (vals sx n)) then vals sx n else []) ?_ fun k hk => failsOne_ok (by rw [hvl]; exact he) (vals_ok n hL.2) (by omega) ?_
    · refine br_nb (fun g1 => ?_) (fun g1 => ?_)
      · rw [g1, Bool.not_false, if_pos rfl]
        refine hq _ ?_
        simp only [Bool.or_eq_false_iff, Bool.not_eq_false'] at g1
        have : compl sx l vs vars = true := List.any_eq_true.2 ⟨vals sx n, List.mem_map.2 ⟨n, List.mem_filter.2 ⟨List.mem_range.2 hn', by rw [g1.1]; rfl⟩, rfl⟩, g1.2⟩
        exact .inr ⟨List.mem_map.2 ⟨n, List.mem_filter.2 ⟨List.mem_range.2 hn', by rw [g1.1]; rfl⟩, rfl⟩, g1.2, this⟩
      · rw [g1, Bool.not_true, if_neg (by decide), wr_in (by omega) (by omega)]
        refine ⟨⟨n + 1, by omega, hn', rfl, range_all_succ hj g1⟩, ?_⟩
        show ((cnt sx : Int) - ((n : Int) + 1)).toNat < ((cnt sx : Int) - (n : Int)).toNat
        omega
    · refine br_nb (fun g1 => ?_) (fun g1 => ?_)
      · have g1' : failsB l (vals sx n) = false := g1
        rw [g1', Bool.false_or, Bool.not_not] at hk
        unfold impl_completionOf_1
        refine loop1_list (by omega) (fun i => ((oth sx vars).take i).all (fun v => gi (vals sx n) v.toNat == gi vs v.toNat) = true) (by simp) (fun i nx hi hji hx => ?_) (fun hji => ⟨by unfold ln; omega, ?_⟩)
        · obtain ⟨m, em, hm⟩ := hov i hi
          refine idx_at hi ?_
          rw [em]
          refine idx_at (by omega) (idx_at (by omega) (br_ne (fun g2 => ?_) (fun g2 => hx (lall_succ hi hji ?_))))
          · have : agree sx vars vs (vals sx n) = false := by
              refine lall_no hi ?_
              rw [em, Int.toNat_natCast, gi_at (by omega), gi_at (by omega)]
              simpa using g2
            rw [this] at hk; simpa using hk
          · rw [em, Int.toNat_natCast, gi_at (by omega), gi_at (by omega)]
            simpa using g2
        · rw [List.take_length] at hji
          have : agree sx vars vs (vals sx n) = true := hji
          rw [this] at hk; simpa using hk
      · have g1' : failsB l (vals sx n) = true := g1
        rw [g1', Bool.true_or] at hk
        simpa using hk
  · have : n = cnt sx := by omega
    subst this
    refine hq _ ?_
    have : compl sx l vs vars = false := by
      unfold compl pass
      rw [List.any_map, List.any_eq_false]
      intro i hi
      have hf := List.mem_filter.1 hi
      have := List.all_eq_true.1 hj i hf.1
      have h2 : failsB l (vals sx i) = false := by simpa using hf.2
      rw [h2, Bool.false_or] at this
      simpa using this
    exact .inl ⟨rfl, this⟩

theorem w_in {sx : List Variable} {w : List Int} (hw : w.length = sx.length ∧ ∀ x ∈ w, 1 ≤ x ∧ x ≤ 100) : ∀ i, i < sx.length → 1 ≤ gi w i ∧ gi w i ≤ 100 := fun i hi => by
  rw [gi_at (by omega)]; exact hw.2 _ (List.getElem_mem _)
/-- What mended values cost. -/
def dif (vs x : List Int) (i : Nat) : Bool := gi vs i != gi x i
theorem cost_eq {sx : List Variable} {l : List Edit} {w vs x : List Int} {k : Nat} (hL : Lok sx) (hw : w.length = sx.length ∧ ∀ x ∈ w, 1 ≤ x ∧ x ≤ 100) (hk : k < 2 ^ sx.length) (hx : x ∈ pass sx l) (ha : agree sx (cI (bl k)) vs x = true)
    (hmin : ∀ m, m < 2 ^ sx.length → compl sx l vs (cI (bl m)) = true → costL w (cI (bl k)) ≤ costL w (cI (bl m))) : wsm w (dif vs x) sx.length = costL w (cI (bl k)) := by
  have h6 := hL.1
  have hwi := w_in hw
  have ⟨m1, m2⟩ := mkp_ok (p := dif vs x) sx.length
  have hcm : compl sx l vs (cI (bl (mkp (dif vs x) sx.length))) = true := by
    refine List.any_eq_true.2 ⟨x, hx, agree_iff.2 fun i hi hb => ?_⟩
    rw [hasB_bl (by omega), m2 i hi] at hb
    unfold dif at hb
    have : gi vs i = gi x i := by simpa using hb
    exact this.symm
  have h1 := hmin _ m1 hcm
  rw [costL_bl m1 (by omega), costL_bl hk (by omega)] at h1
  rw [costL_bl hk (by omega)]
  rw [ws_congr (q := dif vs x) (fun i hi => m2 i hi)] at h1
  have h2 := ws_mono (w := w) (p := dif vs x) (q := k.testBit) (n := sx.length) (fun i hi => by have := hwi i hi; omega) (fun i hi hd => by
    cases hb : k.testBit i with
    | true => rfl
    | false =>
      have := agree_iff.1 ha i hi (by rw [hasB_bl (by omega)]; exact hb)
      unfold dif at hd
      rw [this] at hd; simp at hd)
  omega
theorem pack_cover {sx : List Variable} {l : List Edit} {w vs : List Int} {k : Nat} (g : pkE sx l w vs = true) (hk : k < 2 ^ sx.length) (hc : compl sx l vs (cI (bl k)) = true) : pkB sx l w vs ≤ costL w (cI (bl k)) := by
  unfold pkB
  rw [if_pos g]
  unfold pkE at g
  simp only [Bool.and_eq_true] at g
  have ⟨⟨hL, hcn, hE⟩, hw, hvl, hvo⟩ := pk_facts g.1
  have h6 := hL.1
  have hfit : fitOk sx vs = true := by
    have := g.1
    unfold pkOk at this
    simp only [Bool.and_eq_true] at this
    exact this.2
  have hsets : ∀ e ∈ maxE sx l (-1), e.Sets.length = sx.length := fun e he => inB_length (inE_B hL.2 (maxE_sets hL _ he))
  have hP := pkIn_of hL hsets hw g.2
  have hC : isC sx l vs (cI (bl k)) = true := by rw [cover_iff hL hfit]; exact hc
  rw [costL_bl hk (by omega)]
  have := bst_le hP (p := k.testBit) (fun j hj => ?_) (2 ^ (pkI sx l vs).length) (Nat.le_refl _)
  · exact this
  · rw [gI_at hj, List.getElem_map]
    have hm := List.getElem_mem (show j < (fx (maxE sx l (-1)) vs (maxE sx l (-1)).length).length by simpa using hj)
    have ⟨h1, h2⟩ := mem_fx.1 hm
    rw [eAt_at h1] at h2
    have hmet := List.all_eq_true.1 hC _ (List.getElem_mem h1)
    unfold metB at hmet
    rw [h2, Bool.true_and, Bool.not_not] at hmet
    obtain ⟨v, hv, hb⟩ := List.any_eq_true.1 hmet
    obtain ⟨i, rfl, hi, _⟩ := mem_invl.1 hv
    have hs := hsets _ (List.getElem_mem h1)
    rw [hasB_bl (by omega)] at hb
    refine ⟨i, by omega, ?_, hb⟩
    rw [hasB_iff]
    unfold iAt
    rw [eAt_at h1]; exact hv
end Go.Proofs.Ytklajcbpnpkniaa
