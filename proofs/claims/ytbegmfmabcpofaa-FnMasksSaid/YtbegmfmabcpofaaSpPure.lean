/- The plain law of 'FnExactSumPresent': what the walk computes answers true, whatever the arguments. -/
import Derived.Test.YtbegmfmabcpofaaMrPure
set_option linter.unusedVariables false
set_option autoImplicit false
namespace Go.Proofs.Ytbegmfmabcpofaa
open Go Go.RowKit Go.Gv

def spIn (s : List (List Int)) (p : List Int) (round m : Int) (q : List (List Int)) : Bool := presIn s p && (decide (0 ≤ round ∧ round ≤ 1000000) && (shIn m q && decide (q.length = p.length)))
def spOf (s : List (List Int)) (p : List Int) (round m : Int) (q : List (List Int)) : List Int := if spIn s p round m q then cmb (-1) m (smOf m q) (rpOf s p round (smOf m q).length m) else []
theorem spIn_of {s : List (List Int)} {p : List Int} {round m : Int} {q : List (List Int)} (h : spIn s p round m q = true) : presIn s p = true ∧ shIn m q = true := by
  unfold spIn at h
  simp only [Bool.and_eq_true, decide_eq_true_eq] at h
  exact ⟨h.1, h.2.2.1⟩
theorem neq_len {a b : List (List Int)} {c : List Int} : (ln a != ln c) = !decide (a.length = c.length) := by
  rw [bne]; congr 1; rw [Bool.eq_iff_iff, beq_iff_eq, decide_eq_true_iff]; unfold ln; omega
section
variable {s : List (List Int)} {p : List Int} {round m : Int} {q : List (List Int)} {Q : List Int → Bool → Prop}
theorem specSp_ok (hs : small s) (hp : p.length ≤ 1048576) (hq : q.length ≤ 1048576) (h : Q (spOf s p round m q) (spIn s p round m q)) : spec_SumPresent s p round m q Q := by
  unfold spec_SumPresent
  refine jn_bool (!spIn s p round m q) ?_ fun c hk => zePresent_ok hs hp (br_nb (fun g => ?_) (fun g => zeRound_ok (br_nb (fun g1 => ?_) (fun g1 => zeShares_ok hq (br_nb (fun g2 => ?_) (fun g2 => ?_))))))
  · refine br_nb (fun g => ?_) (fun g => ?_)
    · unfold spOf at h; rw [g] at h; simpa using h
    · obtain ⟨h1, h2⟩ := spIn_of g
      have hm := (shIn_of h2).1
      have hi := smOf_in h2
      have hN := (shIn_of h2).2.2.1
      have hr := rpGo_in (s := s) (p := p) (round := round) (n := ((smOf m q).length : Int)) hm.1 p.length
      refine zeSum_ok h2 (zeRepair_ok h1 hp (by unfold ln; omega) hm (zeAdd_ok hm (.inr rfl) (by omega) ?_ hi.2 hr.2 ?_))
      · have := hr.1; unfold rpOf ln; omega
      · unfold spOf at h; rw [g] at h; simpa using h
  · unfold spIn at hk; rw [g] at hk; exact hk
  · rw [round_eq] at g1
    have := of_decide_eq_false g1
    have e : (decide (0 ≤ round ∧ round ≤ 1000000) && (shIn m q && decide (q.length = p.length))) = false := by
      cases e2 : shIn m q with
      | false => simp
      | true =>
        have hm := (shIn_of e2).1
        rw [decide_eq_false (by omega)]; rfl
    unfold spIn at hk; rw [e, Bool.and_false] at hk; exact hk
  · unfold spIn at hk; rw [g2] at hk; simpa using hk
  · rw [round_eq] at g1
    have := of_decide_eq_true g1
    unfold spIn at hk; rw [g, g2, decide_eq_true (by omega), Bool.true_and, Bool.true_and, Bool.true_and] at hk
    rw [neq_len (b := q)]; exact hk
theorem implSp_ok (hp : p.length ≤ 1048576) (h : Q (spOf s p round m q) (spIn s p round m q)) : impl_SumPresent s p round m q Q := by
  unfold impl_SumPresent
  refine jn_bool (!spIn s p round m q) ?_ fun c hk => areSeedRows_ok (br_nb (fun g => ?_) (fun g => arePresent_ok hp (br_nb (fun g1 => ?_) (fun g1 => isRound_ok (br_nb (fun g3 => ?_) (fun g3 => areShares_ok (br_nb (fun g4 => ?_) (fun g4 => ?_))))))))
  · refine br_nb (fun g => ?_) (fun g => ?_)
    · unfold spOf at h; rw [g] at h; simpa using h
    · obtain ⟨h1, h2⟩ := spIn_of g
      have hm := (shIn_of h2).1
      have hi := smOf_in h2
      have hN := (shIn_of h2).2.2.1
      have hr := rpGo_in (s := s) (p := p) (round := round) (n := ((smOf m q).length : Int)) hm.1 p.length
      refine sumOfShares_ok h2 (maskRepair_ok h1 hp (by unfold ln; omega) hm (combine_ok hm (.inr rfl) (by omega) ?_ hi.2 hr.2 ?_))
      · have := hr.1; unfold rpOf ln; omega
      · unfold spOf at h; rw [g] at h; simpa using h
  · unfold spIn presIn at hk; rw [g] at hk; exact hk
  · unfold spIn presIn at hk; rw [g1] at hk; simpa using hk
  · have := inb_f g3
    unfold spIn at hk; rw [decide_eq_false (by omega)] at hk; simpa using hk
  · unfold spIn at hk; rw [g4] at hk; simpa using hk
  · have := inb_iff.1 g3
    unfold spIn presIn at hk; rw [g, g1, g4, decide_eq_true (by omega), Bool.true_and, Bool.true_and, Bool.true_and, Bool.true_and] at hk
    rw [neq_len (b := q)]; exact hk
end
theorem spOf_length (s : List (List Int)) (p : List Int) (round m : Int) (q : List (List Int)) : (spOf s p round m q).length ≤ 600 := by
  unfold spOf
  split
  · rename_i g
    obtain ⟨h1, h2⟩ := spIn_of g
    have hm := (shIn_of h2).1
    have hi := smOf_in h2
    have hN := (shIn_of h2).2.2.1
    have hr := rpGo_in (s := s) (p := p) (round := round) (n := ((smOf m q).length : Int)) hm.1 p.length
    rw [cmb_length (by have := hr.1; unfold rpOf; omega)]; omega
  · simp
theorem lawSp_ok (s : List (List Int)) (p : List Int) (round m : Int) (q : List (List Int)) (hw : Wf.wf s) (_ : Wf.wf p) (_ : Wf.wf round) (_ : Wf.wf m) (hw2 : Wf.wf q) : laws_FnExactSumPresent s p round m q (fun r => r = true) := by
  have hO := spOf_length s p round m q
  unfold laws_FnExactSumPresent
  refine br_dec (fun _ => rfl) (fun hl => ?_)
  have hl : p.length ≤ 1048576 := by unfold ln at hl; omega
  refine szIntSS_ok hw (by omega) fun r hr hs => br_dec (fun _ => rfl) (fun g => ?_)
  have hs := hs (by omega)
  refine szIntSS_ok hw2 (by omega) fun r2 hr2 hq => br_dec (fun _ => rfl) (fun g2 => ?_)
  have hq := hq (by omega)
  refine toIntSS_ok hs (toIntS_ok hl (toIntSS_ok hq (specSp_ok hs hl hq.1 (toIntSS_ok hs (toIntS_ok hl (toIntSS_ok hq (implSp_ok hl (jn_of (eqIntS_same (by omega) ?_)))))))))
  refine br_false rfl (br_false (by simp) ?_)
  refine toIntSS_ok hs (eqIntSS_same hs (br_false rfl (toIntS_ok hl (eqIntS_same hl (br_false rfl (toIntSS_ok hq (eqIntSS_same hq (br_false rfl ?_))))))))
  refine markIntSS_ok hs (by omega) fun k' a' hk hk2 => markIntS_ok (by omega) (by omega) (by omega) (markIntSS_ok hq (by omega) fun k2 a2 hk3 hk4 => jn_of (br_no (by omega) (eqIntS_same (by omega) (br_false rfl (br_false (by simp) ?_)))))
  refine markIntS_ok (by omega) (by omega) (by omega) (heldIntS_ok (by omega) (by omega) (by omega) ?_)
  refine br_false (by simp; omega) (br_false (by simp) ?_)
  refine toIntSS_ok hs (toIntS_ok hl (toIntSS_ok hq (implSp_ok hl (jn_of (eqIntS_same (by omega) (br_false rfl (br_false (by simp) ?_)))))))
  refine heldIntS_ok (by omega) (by omega) (by omega) ?_
  exact br_false (by simp; omega) (br_false (by simp) rfl)
end Go.Proofs.Ytbegmfmabcpofaa
