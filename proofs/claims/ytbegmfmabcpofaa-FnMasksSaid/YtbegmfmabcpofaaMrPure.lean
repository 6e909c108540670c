/- The plain law of 'FnExactMaskRepair': what the walk computes answers true, whatever the arguments. -/
import Derived.Test.YtbegmfmabcpofaaMoPure
set_option linter.unusedVariables false
set_option autoImplicit false
namespace Go.Proofs.Ytbegmfmabcpofaa
open Go Go.RowKit Go.Gv

def mrIn (s : List (List Int)) (p : List Int) (round n m : Int) : Bool := presIn s p && decide ((0 ≤ round ∧ round ≤ 1000000) ∧ (0 ≤ n ∧ n ≤ 600) ∧ (2 ≤ m ∧ m ≤ 1000000007))
def mrOf (s : List (List Int)) (p : List Int) (round n m : Int) : List Int := if mrIn s p round n m then rpOf s p round n m else []
theorem mrIn_of {s : List (List Int)} {p : List Int} {round n m : Int} (h : mrIn s p round n m = true) : presIn s p = true ∧ (0 ≤ n ∧ n ≤ 600) ∧ (2 ≤ m ∧ m ≤ 1000000007) := by
  unfold mrIn at h
  simp only [Bool.and_eq_true, decide_eq_true_eq] at h
  exact ⟨h.1, h.2.2.1, h.2.2.2⟩
theorem specMr_ok {s : List (List Int)} {p : List Int} {round n m : Int} {Q : List Int → Bool → Prop} (hs : small s) (hp : p.length ≤ 1048576) (h : Q (mrOf s p round n m) (mrIn s p round n m)) : spec_MaskRepair s p round n m Q := by
  unfold spec_MaskRepair
  refine jn_bool (!mrIn s p round n m) ?_ fun c hk => zePresent_ok hs hp (br_nb (fun g => ?_) (fun g => zeRound_ok ?_))
  · refine br_nb (fun g => ?_) (fun g => ?_)
    · unfold mrOf at h; rw [g] at h; simpa using h
    · obtain ⟨h1, h2, h3⟩ := mrIn_of g
      refine zeRepair_ok h1 hp h2 h3 ?_
      unfold mrOf at h; rw [g] at h; simpa using h
  · unfold mrIn at hk; rw [g] at hk; exact hk
  · rw [round_eq]
    unfold mrIn at hk; rw [g, Bool.true_and] at hk; exact hk
theorem implMr_ok {s : List (List Int)} {p : List Int} {round n m : Int} {Q : List Int → Bool → Prop} (hp : p.length ≤ 1048576) (h : Q (mrOf s p round n m) (mrIn s p round n m)) : impl_MaskRepair s p round n m Q := by
  unfold impl_MaskRepair
  refine jn_bool (!mrIn s p round n m) ?_ fun c hk => areSeedRows_ok (br_nb (fun g => ?_) (fun g => arePresent_ok hp (br_nb (fun g1 => ?_) (fun g1 => isRound_ok (br_nb (fun g3 => ?_) (fun g3 => isLength_ok (br_nb (fun g4 => ?_) (fun g4 => isModulus_ok ?_))))))))
  · refine br_nb (fun g => ?_) (fun g => ?_)
    · unfold mrOf at h; rw [g] at h; simpa using h
    · obtain ⟨h1, h2, h3⟩ := mrIn_of g
      refine maskRepair_ok h1 hp h2 h3 ?_
      unfold mrOf at h; rw [g] at h; simpa using h
  · unfold mrIn presIn at hk; rw [g] at hk; exact hk
  · unfold mrIn presIn at hk; rw [g1] at hk; simpa using hk
  · have := inb_f g3
    unfold mrIn at hk; rw [decide_eq_false (by omega)] at hk; simpa using hk
  · have := inb_f g4
    unfold mrIn at hk; rw [decide_eq_false (by omega)] at hk; simpa using hk
  · have e3 := inb_iff.1 g3
    have e4 := inb_iff.1 g4
    have : inb 2 1000000007 m = mrIn s p round n m := by
      unfold mrIn presIn inb; rw [g, Bool.true_and, g1, Bool.true_and, Bool.eq_iff_iff]
      simp only [Bool.and_eq_true, decide_eq_true_eq]; omega
    rw [this]; exact hk
theorem mrOf_length (s : List (List Int)) (p : List Int) (round n m : Int) : (mrOf s p round n m).length ≤ 600 := by
  unfold mrOf
  split
  · rename_i g
    have h1 := mrIn_of g
    have h2 := (rpGo_in (s := s) (p := p) (round := round) (n := n) h1.2.2.1 p.length).1
    unfold rpOf; omega
  · simp
theorem lawMr_ok (s : List (List Int)) (p : List Int) (round n m : Int) (hw : Wf.wf s) (_ : Wf.wf p) (_ : Wf.wf round) (_ : Wf.wf n) (_ : Wf.wf m) : laws_FnExactMaskRepair s p round n m (fun r => r = true) := by
  have hO := mrOf_length s p round n m
  unfold laws_FnExactMaskRepair
  refine br_dec (fun _ => rfl) (fun hl => ?_)
  have hl : p.length ≤ 1048576 := by unfold ln at hl; omega
  refine szIntSS_ok hw (by omega) fun r hr hs => br_dec (fun _ => rfl) (fun g => ?_)
  have hs := hs (by omega)
  refine toIntSS_ok hs (toIntS_ok hl (specMr_ok hs hl (toIntSS_ok hs (toIntS_ok hl (implMr_ok hl (jn_of (eqIntS_same (by omega) ?_)))))))
  refine br_false rfl (br_false (by simp) ?_)
  refine toIntSS_ok hs (eqIntSS_same hs (br_false rfl (toIntS_ok hl (eqIntS_same hl (br_false rfl ?_)))))
  refine markIntSS_ok hs (by omega) fun k' a' hk hk2 => markIntS_ok (by omega) (by omega) (by omega) (jn_of (br_no (by omega) (eqIntS_same (by omega) (br_false rfl (br_false (by simp) ?_)))))
  refine markIntS_ok (by omega) (by omega) (by omega) (heldIntS_ok (by omega) (by omega) (by omega) ?_)
  refine br_false (by simp; omega) (br_false (by simp) ?_)
  refine toIntSS_ok hs (toIntS_ok hl (implMr_ok hl (jn_of (eqIntS_same (by omega) (br_false rfl (br_false (by simp) ?_))))))
  refine heldIntS_ok (by omega) (by omega) (by omega) ?_
  exact br_false (by simp; omega) (br_false (by simp) rfl)
end Go.Proofs.Ytbegmfmabcpofaa
