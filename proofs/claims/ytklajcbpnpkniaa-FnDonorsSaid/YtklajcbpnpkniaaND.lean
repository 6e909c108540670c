/- Plain facts about elimination, completions and smallest covers. -/
import Derived.Test.YtklajcbpnpkniaaPkPure
import Derived.Test.YtklajcbpnpkniaaNB
set_option linter.unusedVariables false
set_option autoImplicit false
namespace Go.Proofs.Ytklajcbpnpkniaa
open Go Go.RowKit Go.Gv

/-! ### the reference's completions -/
theorem oth_len {sx : List Variable} {vars : List Int} : (oth sx vars).length ≤ sx.length := by
  unfold oth
  rw [List.length_map]
  have := List.length_filter_le (fun (i : Nat) => !hasB vars (i : Int)) (List.range sx.length)
  rwa [List.length_range] at this
theorem oth_at {sx : List Variable} {vars : List Int} {j : Nat} (hj : j < (oth sx vars).length) : ∃ i : Nat, (oth sx vars)[j] = (i : Int) ∧ i < sx.length := by
  have := List.getElem_mem hj
  unfold oth at this
  obtain ⟨i, hi, e⟩ := List.mem_map.1 this
  exact ⟨i, e.symm, List.mem_range.1 (List.mem_filter.1 hi).1⟩
theorem eComplete_ok {sx : List Variable} {l : List Edit} {vs vars : List Int} {Q : List Int → Bool → Prop} (hL : Lok sx) (he : Eok sx.length l) (hvs : vs.length = sx.length)
    (hq : ∀ r : List Int, Q r (compl sx l vs vars)) : spec_eComplete sx l (oth sx vars) vs Q := by
  have h0 := hL.1
  have hcs := cnt_small' hL
  have ho := oth_len (sx := sx) (vars := vars)
  unfold spec_eComplete
  refine ⟨fun x => ∃ n : Nat, x = (n : Int) ∧ n ≤ cnt sx ∧ (List.range n).all (fun i => failsB l (vals sx i) || !agree sx vars vs (vals sx i)) = true, fun x => ((cnt sx : Int) - x).toNat, ⟨0, rfl, Nat.zero_le _, by simp⟩, ?_⟩
  rintro x ⟨n, rfl, hn, hj⟩
  refine sCount_ok hL (br_dec (fun g => sAt_ok hL (by omega) ?_) (fun g => ?_))
  · have hvl := vals_length sx n
    refine eFailed_ok (by rw [hvl]; exact he) (vals_ok n hL.2) (by omega) fun o hoo => ?_
    have e0 : ((ln o) == 0) = !failsB l (vals sx n) := by
      unfold ln
      cases hfb : failsB l (vals sx n) with
      | false => have := hoo.2 hfb; simp; exact List.eq_nil_of_length_eq_zero this
      | true =>
        have : ¬ o.length = 0 := fun c => by rw [hoo.1 c] at hfb; cases hfb
        simp; intro c; exact this (by rw [c]; rfl)
    rw [e0]
    refine loop2_list (xs := oth sx vars) (by omega) (fun f i => f = (!failsB l (vals sx n) && ((oth sx vars).take i).all (fun v => gi (vals sx n) v.toNat == gi vs v.toNat))) (by simp) ?_ ?_
    · rintro f i nx hi rfl hx
      obtain ⟨m, em, hm⟩ := oth_at hi
      refine jn_bool _ (hx _ rfl) fun k hk => idx_at hi ?_
      rw [List.take_succ_eq_append_getElem hi, List.all_append] at hk
      simp only [List.all_cons, List.all_nil, Bool.and_true] at hk
      rw [← Bool.and_assoc] at hk
      rw [em] at hk ⊢
      refine br_bo (fun g1 => idx_at (by omega) (idx_at (by omega) ?_)) (fun g1 => ?_)
      · rw [g1, Bool.true_and, Int.toNat_natCast, gi_at (show m < (vals sx n).length by omega), gi_at (show m < vs.length by omega)] at hk; exact hk
      · rw [g1, Bool.false_and] at hk; exact hk
    · rintro f rfl
      rw [List.take_length]
      have ea : ((oth sx vars).all fun v => gi (vals sx n) v.toNat == gi vs v.toNat) = agree sx vars vs (vals sx n) := rfl
      rw [ea]
      refine br_bo (fun g1 => ?_) (fun g1 => ?_)
      · simp only [Bool.and_eq_true, Bool.not_eq_true'] at g1
        have : compl sx l vs vars = true := List.any_eq_true.2 ⟨vals sx n, List.mem_map.2 ⟨n, List.mem_filter.2 ⟨List.mem_range.2 (by omega), by rw [g1.1]; rfl⟩, rfl⟩, g1.2⟩
        have h := hq (vals sx n); rw [this] at h; exact h
      · rw [wr_in (by omega) (by omega)]
        refine ⟨⟨n + 1, by omega, by omega, range_all_succ hj ?_⟩, by dsimp only; omega⟩
        cases hfb : failsB l (vals sx n) with
        | true => rfl
        | false => rw [hfb, Bool.not_false, Bool.true_and] at g1; rw [g1]; rfl
  · have e1 : n = cnt sx := by omega
    subst e1
    have : compl sx l vs vars = false := by
      unfold compl pass
      rw [List.any_map, List.any_eq_false]
      intro i hi
      have hf := List.mem_filter.1 hi
      have := List.all_eq_true.1 hj i hf.1
      have h2 : failsB l (vals sx i) = false := by simpa using hf.2
      rw [h2, Bool.false_or] at this
      simpa using this
    have h := hq []; rw [this] at h; exact h
end Go.Proofs.Ytklajcbpnpkniaa
