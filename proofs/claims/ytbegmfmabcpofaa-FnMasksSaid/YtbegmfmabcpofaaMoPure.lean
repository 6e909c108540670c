/- The plain law of 'FnExactMaskOf': what the walk computes answers true, whatever the arguments. -/
import Derived.Test.YtbegmfmabcpofaaPN
set_option linter.unusedVariables false
set_option autoImplicit false
namespace Go.Proofs.Ytbegmfmabcpofaa
open Go Go.RowKit Go.Gv

def moIn (s : List (List Int)) (i round n m : Int) : Bool := seedsIn s && decide ((0 ≤ i ∧ i < s.length) ∧ (0 ≤ round ∧ round ≤ 1000000) ∧ (0 ≤ n ∧ n ≤ 600) ∧ (2 ≤ m ∧ m ≤ 1000000007))
def moOf (s : List (List Int)) (i round n m : Int) : List Int := if moIn s i round n m then mkOf s i round n m else []
theorem moIn_of {s : List (List Int)} {i round n m : Int} (h : moIn s i round n m = true) : (s.length ≤ 8 ∧ ∀ r ∈ s, r.length = s.length) ∧ (0 ≤ i ∧ i < s.length) ∧ (0 ≤ n ∧ n ≤ 600) ∧ (2 ≤ m ∧ m ≤ 1000000007) := by
  unfold moIn at h
  simp only [Bool.and_eq_true, decide_eq_true_eq] at h
  have := seedsIn_of h.1
  exact ⟨⟨this.1.2, this.2⟩, h.2.1, h.2.2.2.1, h.2.2.2.2⟩
theorem round_eq {round n m : Int} : (inb 0 1000000 round && (inb 0 600 n && inb 2 1000000007 m)) = decide ((0 ≤ round ∧ round ≤ 1000000) ∧ (0 ≤ n ∧ n ≤ 600) ∧ (2 ≤ m ∧ m ≤ 1000000007)) := by
  unfold inb; rw [Bool.eq_iff_iff]; simp only [Bool.and_eq_true, decide_eq_true_eq]
theorem specMo_ok {s : List (List Int)} {i round n m : Int} {Q : List Int → Bool → Prop} (hs : small s) (h : Q (moOf s i round n m) (moIn s i round n m)) : spec_MaskOf s i round n m Q := by
  unfold spec_MaskOf
  refine jn_bool (!moIn s i round n m) ?_ fun c hk => zeSeeds_ok hs (br_nb (fun g => ?_) (fun g => l1In_ok (br_nb (fun g1 => ?_) (fun g1 => zeRound_ok ?_))))
  · refine br_nb (fun g => ?_) (fun g => ?_)
    · unfold moOf at h; rw [g] at h; simpa using h
    · obtain ⟨h1, h2, h3, h4⟩ := moIn_of g
      refine zeMaskOf_ok h1 h2 h3 h4 ?_
      unfold moOf at h; rw [g] at h; simpa using h
  · unfold moIn at hk; rw [g] at hk; exact hk
  · have := inb_f g1
    have hl := hs.1
    rw [wr_in (by unfold ln; omega) (by unfold ln; omega)] at this
    unfold moIn at hk; rw [decide_eq_false (by unfold ln at this; omega)] at hk; simpa using hk
  · have e1 := inb_iff.1 g1
    have hl := hs.1
    rw [wr_in (by unfold ln; omega) (by unfold ln; omega)] at e1
    rw [round_eq]
    unfold moIn at hk; rw [g, Bool.true_and] at hk
    rw [show decide ((0 ≤ round ∧ round ≤ 1000000) ∧ (0 ≤ n ∧ n ≤ 600) ∧ (2 ≤ m ∧ m ≤ 1000000007)) = decide ((0 ≤ i ∧ i < s.length) ∧ (0 ≤ round ∧ round ≤ 1000000) ∧ (0 ≤ n ∧ n ≤ 600) ∧ (2 ≤ m ∧ m ≤ 1000000007)) from by
      congr 1; rw [eq_iff_iff]; unfold ln at e1; omega]
    exact hk
theorem implMo_ok {s : List (List Int)} {i round n m : Int} {Q : List Int → Bool → Prop} (h : Q (moOf s i round n m) (moIn s i round n m)) : impl_MaskOf s i round n m Q := by
  unfold impl_MaskOf
  refine jn_bool (!moIn s i round n m) ?_ fun c hk => areSeedRows_ok (br_nb (fun g => ?_) (fun g => br_dec (fun g1 => ?_) (fun g1 => br_dec (fun g2 => ?_) (fun g2 => isRound_ok (br_nb (fun g3 => ?_) (fun g3 => isLength_ok (br_nb (fun g4 => ?_) (fun g4 => isModulus_ok ?_))))))))
  · refine br_nb (fun g => ?_) (fun g => ?_)
    · unfold moOf at h; rw [g] at h; simpa using h
    · obtain ⟨h1, h2, h3, h4⟩ := moIn_of g
      refine maskOf_ok h1 h2 h3 h4 ?_
      unfold moOf at h; rw [g] at h; simpa using h
  · unfold moIn at hk; rw [g] at hk; exact hk
  · unfold moIn at hk; rw [decide_eq_false (by omega)] at hk; simpa using hk
  · unfold moIn at hk; rw [decide_eq_false (by unfold ln at g2; omega)] at hk; simpa using hk
  · have := inb_f g3
    unfold moIn at hk; rw [decide_eq_false (by omega)] at hk; simpa using hk
  · have := inb_f g4
    unfold moIn at hk; rw [decide_eq_false (by omega)] at hk; simpa using hk
  · have e3 := inb_iff.1 g3
    have e4 := inb_iff.1 g4
    have : inb 2 1000000007 m = moIn s i round n m := by
      unfold moIn inb; rw [g, Bool.true_and, Bool.eq_iff_iff]
      simp only [Bool.and_eq_true, decide_eq_true_eq]; unfold ln at g2; omega
    rw [this]; exact hk
theorem moOf_length (s : List (List Int)) (i round n m : Int) : (moOf s i round n m).length ≤ 600 := by
  unfold moOf
  split
  · rename_i g
    have h1 := (moIn_of g).2.2.1
    rw [mkOf_length]; omega
  · simp
theorem lawMo_ok (s : List (List Int)) (i round n m : Int) (hw : Wf.wf s) (_ : Wf.wf i) (_ : Wf.wf round) (_ : Wf.wf n) (_ : Wf.wf m) : laws_FnExactMaskOf s i round n m (fun r => r = true) := by
  have hO := moOf_length s i round n m
  unfold laws_FnExactMaskOf
  refine szIntSS_ok hw (by omega) fun r hr hs => br_dec (fun _ => rfl) (fun g => ?_)
  have hs := hs (by omega)
  refine toIntSS_ok hs (specMo_ok hs (toIntSS_ok hs (implMo_ok (jn_of (eqIntS_same (by omega) ?_)))))
  refine br_false rfl (br_false (by simp) ?_)
  refine toIntSS_ok hs (eqIntSS_same hs (br_false rfl ?_))
  refine markIntSS_ok hs (by omega) fun k' a' hk hk2 => jn_of (br_no (by omega) (eqIntS_same (by omega) (br_false rfl (br_false (by simp) ?_))))
  refine markIntS_ok (by omega) (by omega) (by omega) (heldIntS_ok (by omega) (by omega) (by omega) ?_)
  refine br_false (by simp; omega) (br_false (by simp) ?_)
  refine toIntSS_ok hs (implMo_ok (jn_of (eqIntS_same (by omega) (br_false rfl (br_false (by simp) ?_)))))
  refine heldIntS_ok (by omega) (by omega) (by omega) ?_
  exact br_false (by simp; omega) (br_false (by simp) rfl)
end Go.Proofs.Ytbegmfmabcpofaa
