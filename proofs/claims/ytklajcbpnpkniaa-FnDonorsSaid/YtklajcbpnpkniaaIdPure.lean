/- The law of IsCover. -/
import Derived.Test.YtklajcbpnpkniaaIcPure
set_option linter.unusedVariables false
set_option autoImplicit false
namespace Go.Proofs.Ytklajcbpnpkniaa
open Go Go.RowKit Go.Gv

theorem sFits_ok {sx : List Variable} {vs : List Int} {Q : Bool → Prop} (hL : Lok sx) (hq : Q (fitOk sx vs)) : spec_sFits sx vs Q := by
  have h0 := hL.1
  unfold spec_sFits
  refine br_ne (fun g => ?_) (fun g => ?_)
  · have : fitOk sx vs = false := by unfold fitOk; rw [decide_eq_false (by unfold ln at g; omega)]; rfl
    rw [this] at hq; exact hq
  · have g' : vs.length = sx.length := by unfold ln at g; omega
    refine loop1_list (by omega) (fun i => (List.range i).all (fun i => inb 0 ((vAt sx i).Levels - 1) (gi vs i)) = true) (by simp) (fun i nx hi hj hx => idx_at hi (idx_at (by omega) ?_)) (fun hj => ?_)
    · have ⟨e, h1, h2⟩ := lv_at hL hi
      refine ⟨inb 0 (sx[i].Levels - 1) (vs[i]'(by omega)), l1In_ok (by rw [wr_in (by omega) (by omega)]; rfl), ?_⟩
      have e1 : inb 0 ((vAt sx i).Levels - 1) (gi vs i) = inb 0 (sx[i].Levels - 1) (vs[i]'(by omega)) := by rw [gi_at (by omega), vAt_at hi]
      rw [← e1]
      refine br_nb (fun g1 => ?_) (fun g1 => hx (range_all_succ hj g1))
      have : fitOk sx vs = false := by unfold fitOk; rw [range_all_no hi g1, Bool.and_false]
      rw [this] at hq; exact hq
    · have : fitOk sx vs = true := by unfold fitOk; rw [hj, decide_eq_true g']; rfl
      rw [this] at hq; exact hq
theorem areValues_ok {sx : List Variable} {vs : List Int} {Q : Bool → Prop} (hL : Lok sx) (hq : Q (fitOk sx vs)) : impl_areValues sx vs Q := by
  have h0 := hL.1
  unfold impl_areValues
  refine br_ne (fun g => ?_) (fun g => ?_)
  · have : fitOk sx vs = false := by unfold fitOk; rw [decide_eq_false (by unfold ln at g; omega)]; rfl
    rw [this] at hq; exact hq
  · have g' : vs.length = sx.length := by unfold ln at g; omega
    refine loop1_list (by omega) (fun i => (List.range i).all (fun i => inb 0 ((vAt sx i).Levels - 1) (gi vs i)) = true) (by simp) (fun i nx hi hj hx => idx_at hi ?_) (fun hj => ?_)
    · have hi' : i < sx.length := by omega
      have ⟨e, h1, h2⟩ := lv_at hL hi'
      have e1 : inb 0 ((vAt sx i).Levels - 1) (gi vs i) = (!(decide (vs[i] < 0)) && !decide (vs[i] ≥ sx[i].Levels)) := by
        rw [gi_at hi, vAt_at hi']; unfold inb; rw [Bool.eq_iff_iff]; simp; omega
      refine jn_bool (!inb 0 ((vAt sx i).Levels - 1) (gi vs i)) ?_ fun k hk => br_dec (fun g1 => ?_) (fun g1 => idx_at hi' ?_)
      · refine br_nb (fun g1 => ?_) (fun g1 => hx (range_all_succ hj g1))
        have : fitOk sx vs = false := by unfold fitOk; rw [range_all_no hi' g1, Bool.and_false]
        rw [this] at hq; exact hq
      · rw [e1, decide_eq_true g1] at hk; exact hk
      · rw [e1, decide_eq_false g1, Bool.not_false, Bool.true_and, Bool.not_not] at hk; exact hk
    · have : fitOk sx vs = true := by unfold fitOk; rw [← g', hj, decide_eq_true (by omega)]; rfl
      rw [this] at hq; exact hq
theorem otherVars_ok {sx : List Variable} {vars : List Int} {Q : List Int → Prop} (hl : sx.length ≤ 1048576) (hv : vars.length ≤ 1048576) (hq : Q (oth sx vars)) : impl_otherVars sx vars Q := by
  unfold impl_otherVars
  refine loop2_list (by omega) (fun o i => o = ((List.range i).filter fun (i : Nat) => !hasB vars (i : Int)).map fun (i : Nat) => (i : Int)) rfl ?_ ?_
  · rintro _ i nx hi rfl hx
    have hp : (((List.range i).filter fun (i : Nat) => !hasB vars (i : Int)).map fun (i : Nat) => (i : Int)).length ≤ i := by
      rw [List.length_map]
      have := List.length_filter_le (fun (i : Nat) => !hasB vars (i : Int)) (List.range i)
      rwa [List.length_range] at this
    refine jn_bool (((List.range (i + 1)).filter fun (i : Nat) => !hasB vars (i : Int)).map fun (i : Nat) => (i : Int)) (hx _ rfl) fun k hk => Contains_ok hv ?_
    rw [List.range_succ, List.filter_append, List.map_append, List.filter_cons, List.filter_nil] at hk
    refine br_nb (fun g => ⟨by unfold ln; simp only [List.length_singleton]; omega, ?_⟩) (fun g => ?_)
    · have g' : hasB vars (i : Int) = false := g
      rw [g'] at hk; exact hk
    · have g' : hasB vars (i : Int) = true := g
      rw [g'] at hk; simpa using hk
  · rintro _ rfl; exact hq
theorem completionOf_ok {sx : List Variable} {l : List Edit} {vs vars : List Int} {Q : List Int → Prop} (hL : Lok sx) (h1 : 1 ≤ sx.length) (he : Eok sx.length l) (hvs : vs.length = sx.length)
    (hq : ∀ r : List Int, (r.length = 0 ↔ compl sx l vs vars = false) → Q r) : impl_completionOf sx l (oth sx vars) vs Q := by
  have h0 := hL.1
  have hcs := cnt_small' hL
  have ho : (oth sx vars).length ≤ sx.length := by
    unfold oth
    rw [List.length_map]
    have := List.length_filter_le (fun (i : Nat) => !hasB vars (i : Int)) (List.range sx.length)
    rwa [List.length_range] at this
  have hov : ∀ j (hj : j < (oth sx vars).length), ∃ i : Nat, (oth sx vars)[j] = (i : Int) ∧ i < sx.length := fun j hj => by
    have := List.getElem_mem hj
    unfold oth at this
    obtain ⟨i, hi, e⟩ := List.mem_map.1 this
    exact ⟨i, e.symm, List.mem_range.1 (List.mem_filter.1 hi).1⟩
  unfold impl_completionOf impl_passing_impl_completionOf_1
  refine combinations_ok hL ?_
  refine ⟨fun x f => ∃ n : Nat, x = (n : Int) ∧ n ≤ cnt sx ∧ f = [] ∧ (List.range n).all (fun i => failsB l (vals sx i) || !agree sx vars vs (vals sx i)) = true, fun x _ => ((cnt sx : Int) - x).toNat, ⟨0, rfl, Nat.zero_le _, rfl, by simp⟩, ?_⟩
  rintro x f ⟨n, rfl, hn, rfl, hj⟩
  refine br_dec (fun g => valuesAt_ok hL (by omega) ?_) (fun g => ?_)
  · have hn' : n < cnt sx := by omega
    have hvl := vals_length sx n
    refine jn_bool2 (!(failsB l (vals sx n) || !agree sx vars vs (vals sx n))) (if !(failsB l (vals sx n) || !agree sx vars vs (vals sx n)) then vals sx n else []) ?_ fun k hk => failsOne_ok (by rw [hvl]; exact he) (vals_ok n hL.2) (by omega) ?_
    · refine br_nb (fun g1 => ?_) (fun g1 => ?_)
      · rw [g1, Bool.not_false, if_pos rfl]
        refine hq _ ?_
        simp only [Bool.or_eq_false_iff, Bool.not_eq_false'] at g1
        have : compl sx l vs vars = true := List.any_eq_true.2 ⟨vals sx n, List.mem_map.2 ⟨n, List.mem_filter.2 ⟨List.mem_range.2 hn', by rw [g1.1]; rfl⟩, rfl⟩, g1.2⟩
        rw [this]
        constructor
        · intro c; omega
        · intro c; cases c
      · rw [g1, Bool.not_true, if_neg (by decide), wr_in (by omega) (by omega)]
        refine ⟨⟨n + 1, by omega, hn', rfl, range_all_succ hj g1⟩, ?_⟩
        show ((cnt sx : Int) - ((n : Int) + 1)).toNat < ((cnt sx : Int) - (n : Int)).toNat
        omega
    · refine br_nb (fun g1 => ?_) (fun g1 => ?_)
      · have g1' : failsB l (vals sx n) = false := g1
        rw [g1', Bool.false_or, Bool.not_not] at hk
        unfold impl_completionOf_1
        refine loop1_list (by omega) (fun i => ((oth sx vars).take i).all (fun v => gi (vals sx n) v.toNat == gi vs v.toNat) = true) (by simp) (fun i nx hi hji hx => ?_) (fun hji => ⟨by unfold ln; omega, ?_⟩)
        · obtain ⟨m, em, hm⟩ := hov i hi
          refine idx_at hi ?_
          rw [em]
          refine idx_at (by omega) (idx_at (by omega) (br_ne (fun g2 => ?_) (fun g2 => hx (lall_succ hi hji ?_))))
          · have : agree sx vars vs (vals sx n) = false := by
              refine lall_no hi ?_
              rw [em, Int.toNat_natCast, gi_at (by omega), gi_at (by omega)]
              simpa using g2
            rw [this] at hk; simpa using hk
          · rw [em, Int.toNat_natCast, gi_at (by omega), gi_at (by omega)]
            simpa using g2
        · rw [List.take_length] at hji
          have : agree sx vars vs (vals sx n) = true := hji
          rw [this] at hk; simpa using hk
      · have g1' : failsB l (vals sx n) = true := g1
        rw [g1', Bool.true_or] at hk
        simpa using hk
  · have : n = cnt sx := by omega
    subst this
    refine hq _ ?_
    have : compl sx l vs vars = false := by
      unfold compl pass
      rw [List.any_map, List.any_eq_false]
      intro i hi
      have hf := List.mem_filter.1 hi
      have := List.all_eq_true.1 hj i hf.1
      have h2 : failsB l (vals sx i) = false := by simpa using hf.2
      rw [h2, Bool.false_or] at this
      simpa using this
    rw [this]
    simp
end Go.Proofs.Ytklajcbpnpkniaa
