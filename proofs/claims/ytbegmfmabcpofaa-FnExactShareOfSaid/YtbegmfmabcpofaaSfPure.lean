/- The plain law of 'FnExactShareOf': what the walk computes answers true, whatever the arguments. -/
import Derived.Test.YtbegmfmabcpofaaMoPure
set_option linter.unusedVariables false
set_option autoImplicit false
namespace Go.Proofs.Ytbegmfmabcpofaa
open Go Go.RowKit Go.Gv

def sfIn (s : List (List Int)) (i round m : Int) (l : List Int) : Bool := seedsIn s && (decide ((0 ≤ i ∧ i < s.length) ∧ (0 ≤ round ∧ round ≤ 1000000) ∧ (2 ≤ m ∧ m ≤ 1000000007)) && isRes m l)
def sfOf (s : List (List Int)) (i round m : Int) (l : List Int) : List Int := if sfIn s i round m l then cmb 1 m l (mkOf s i round l.length m) else []
theorem sfIn_of {s : List (List Int)} {i round m : Int} {l : List Int} (h : sfIn s i round m l = true) : (s.length ≤ 8 ∧ ∀ r ∈ s, r.length = s.length) ∧ (0 ≤ i ∧ i < s.length) ∧ (2 ≤ m ∧ m ≤ 1000000007) ∧ l.length ≤ 600 ∧ resL m l := by
  unfold sfIn isRes at h
  simp only [Bool.and_eq_true, decide_eq_true_eq] at h
  have := seedsIn_of h.1
  exact ⟨⟨this.1.2, this.2⟩, h.2.1.1, h.2.1.2.2, h.2.2.1, inb_all h.2.2.2⟩
theorem cmb_comm {m : Int} {a b : List Int} : cmb 1 m a b = cmb 1 m b a := by
  unfold cmb
  rw [List.zipWith_comm]
  congr 1
  funext x y
  rw [Int.one_mul, Int.one_mul, Int.add_comm]
theorem specSf_ok {s : List (List Int)} {i round m : Int} {l : List Int} {Q : List Int → Bool → Prop} (hs : small s) (h : Q (sfOf s i round m l) (sfIn s i round m l)) : spec_ShareOf s i round m l Q := by
  unfold spec_ShareOf
  refine jn_bool (!sfIn s i round m l) ?_ fun c hk => zeSeeds_ok hs (br_nb (fun g => ?_) (fun g => l1In_ok (br_nb (fun g1 => ?_) (fun g1 => zeRound_ok (br_nb (fun g2 => ?_) (fun g2 => ?_))))))
  · refine br_nb (fun g => ?_) (fun g => ?_)
    · unfold sfOf at h; rw [g] at h; simpa using h
    · obtain ⟨h1, h2, h3, h4, h5⟩ := sfIn_of g
      unfold spec_zeShare
      refine zeMaskOf_ok h1 h2 (by unfold ln; omega) h3 (zeAdd_ok h3 (.inl rfl) (by omega) (by rw [mkOf_length]; unfold ln; omega) h5 (mkOf_res h3.1) ?_)
      unfold sfOf at h; rw [g] at h; simpa using h
  · unfold sfIn at hk; rw [g] at hk; exact hk
  · have := inb_f g1
    have hl := hs.1
    rw [wr_in (by unfold ln; omega) (by unfold ln; omega)] at this
    unfold sfIn at hk; rw [decide_eq_false (by unfold ln at this; omega)] at hk; simpa using hk
  · rw [round_eq] at g2
    have := of_decide_eq_false g2
    unfold sfIn at hk; rw [decide_eq_false (by omega)] at hk; simpa using hk
  · rw [round_eq] at g2
    have e2 := of_decide_eq_true g2
    have e1 := inb_iff.1 g1
    have hl := hs.1
    rw [wr_in (by unfold ln; omega) (by unfold ln; omega)] at e1
    refine zeValues_ok (by omega) ?_
    unfold sfIn at hk; rw [g, Bool.true_and, decide_eq_true (by unfold ln at e1; omega), Bool.true_and] at hk
    exact hk
theorem implSf_ok {s : List (List Int)} {i round m : Int} {l : List Int} {Q : List Int → Bool → Prop} (h : Q (sfOf s i round m l) (sfIn s i round m l)) : impl_ShareOf s i round m l Q := by
  unfold impl_ShareOf
  refine jn_bool (!sfIn s i round m l) ?_ fun c hk => areSeedRows_ok (br_nb (fun g => ?_) (fun g => br_dec (fun g1 => ?_) (fun g1 => br_dec (fun g2 => ?_) (fun g2 => isRound_ok (br_nb (fun g3 => ?_) (fun g3 => isModulus_ok (br_nb (fun g4 => ?_) (fun g4 => areResidues_ok (inb_iff.1 g4) ?_))))))))
  · refine br_nb (fun g => ?_) (fun g => ?_)
    · unfold sfOf at h; rw [g] at h; simpa using h
    · obtain ⟨h1, h2, h3, h4, h5⟩ := sfIn_of g
      unfold impl_shareOf
      refine maskOf_ok h1 h2 (by unfold ln; omega) h3 (combine_ok h3 (.inl rfl) (by rw [mkOf_length]; unfold ln; omega) (by rw [mkOf_length]; unfold ln; omega) (mkOf_res h3.1) h5 ?_)
      unfold sfOf at h; rw [g, cmb_comm] at h; simpa using h
  · unfold sfIn at hk; rw [g] at hk; exact hk
  · unfold sfIn at hk; rw [decide_eq_false (by omega)] at hk; simpa using hk
  · unfold sfIn at hk; rw [decide_eq_false (by unfold ln at g2; omega)] at hk; simpa using hk
  · have := inb_f g3
    unfold sfIn at hk; rw [decide_eq_false (by omega)] at hk; simpa using hk
  · have := inb_f g4
    unfold sfIn at hk; rw [decide_eq_false (by omega)] at hk; simpa using hk
  · have e3 := inb_iff.1 g3
    have e4 := inb_iff.1 g4
    unfold sfIn at hk; rw [g, Bool.true_and, decide_eq_true (by unfold ln at g2; omega), Bool.true_and] at hk
    exact hk
theorem sfOf_length (s : List (List Int)) (i round m : Int) (l : List Int) : (sfOf s i round m l).length ≤ 600 := by
  unfold sfOf
  split
  · rename_i g
    have h1 := (sfIn_of g).2.2.2.1
    rw [cmb_length (by rw [mkOf_length]; omega)]; omega
  · simp
theorem lawSf_ok (s : List (List Int)) (i round m : Int) (l : List Int) (hw : Wf.wf s) (_ : Wf.wf i) (_ : Wf.wf round) (_ : Wf.wf m) (_ : Wf.wf l) : laws_FnExactShareOf s i round m l (fun r => r = true) := by
  have hO := sfOf_length s i round m l
  unfold laws_FnExactShareOf
  refine br_dec (fun _ => rfl) (fun hl => ?_)
  have hl : l.length ≤ 1048576 := by unfold ln at hl; omega
  refine szIntSS_ok hw (by omega) fun r hr hs => br_dec (fun _ => rfl) (fun g => ?_)
  have hs := hs (by omega)
  refine toIntSS_ok hs (toIntS_ok hl (specSf_ok hs (toIntSS_ok hs (toIntS_ok hl (implSf_ok (jn_of (eqIntS_same (by omega) ?_)))))))
  refine br_false rfl (br_false (by simp) ?_)
  refine toIntSS_ok hs (eqIntSS_same hs (br_false rfl (toIntS_ok hl (eqIntS_same hl (br_false rfl ?_)))))
  refine markIntSS_ok hs (by omega) fun k' a' hk hk2 => markIntS_ok (by omega) (by omega) (by omega) (jn_of (br_no (by omega) (eqIntS_same (by omega) (br_false rfl (br_false (by simp) ?_)))))
  refine markIntS_ok (by omega) (by omega) (by omega) (heldIntS_ok (by omega) (by omega) (by omega) ?_)
  refine br_false (by simp; omega) (br_false (by simp) ?_)
  refine toIntSS_ok hs (toIntS_ok hl (implSf_ok (jn_of (eqIntS_same (by omega) (br_false rfl (br_false (by simp) ?_))))))
  refine heldIntS_ok (by omega) (by omega) (by omega) ?_
  exact br_false (by simp; omega) (br_false (by simp) rfl)
end Go.Proofs.Ytbegmfmabcpofaa
