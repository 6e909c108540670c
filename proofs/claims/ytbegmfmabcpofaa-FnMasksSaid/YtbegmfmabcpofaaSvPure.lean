/- The plain law of 'FnExactSignedValues': what the walk computes answers true, whatever the arguments. -/
import Derived.Test.YtbegmfmabcpofaaPC
set_option linter.unusedVariables false
set_option autoImplicit false
namespace Go.Proofs.Ytbegmfmabcpofaa
open Go Go.RowKit Go.Gv

theorem zeModulus_ok {m : Int} {Q : Bool → Prop} (h : Q (inb 2 1000000007 m)) : spec_zeModulus m Q := l1In_ok h
theorem isModulus_ok {m : Int} {Q : Bool → Prop} (h : Q (inb 2 1000000007 m)) : impl_isModulus m Q := by
  unfold impl_isModulus
  refine jn_bool (inb 2 1000000007 m) h fun k hk => br_dec (fun g => ?_) (fun g => ?_)
  · unfold inb at hk; rw [decide_eq_true (by omega : 2 ≤ m)] at hk; exact hk
  · unfold inb at hk; rw [decide_eq_false (by omega : ¬ 2 ≤ m)] at hk; exact hk
def isRes (m : Int) (l : List Int) : Bool := decide (l.length ≤ 600) && l.all (inb 0 (m - 1))
theorem zeValues_ok {m : Int} {l : List Int} {Q : Bool → Prop} (hm : 2 ≤ m ∧ m ≤ 1000000007) (h : Q (isRes m l)) : spec_zeValues m l Q := by
  unfold spec_zeValues
  refine jn_bool (isRes m l) h fun k hk => br_dec (fun g => ?_) (fun g => ?_)
  · have g : l.length ≤ 600 := by unfold ln at g; omega
    rw [wr_in (by omega) (by omega)]
    unfold isRes at hk; rw [decide_eq_true g] at hk
    exact l1All_ok (by omega) hk
  · have g : ¬ l.length ≤ 600 := by unfold ln at g; omega
    unfold isRes at hk; rw [decide_eq_false g] at hk; exact hk
theorem areResidues_ok {m : Int} {l : List Int} {Q : Bool → Prop} (hm : 2 ≤ m ∧ m ≤ 1000000007) (h : Q (isRes m l)) : impl_areResidues l m Q := by
  unfold impl_areResidues
  refine jn_bool (isRes m l) h fun k hk => br_dec (fun g => ?_) (fun g => ?_)
  · have g : l.length ≤ 600 := by unfold ln at g; omega
    rw [wr_in (by omega) (by omega)]
    unfold isRes at hk; rw [decide_eq_true g] at hk
    exact areWithin_ok (by omega) hk
  · have g : ¬ l.length ≤ 600 := by unfold ln at g; omega
    unfold isRes at hk; rw [decide_eq_false g] at hk; exact hk
def svIn (m : Int) (l : List Int) : Bool := inb 2 1000000007 m && isRes m l
def sv1 (m x : Int) : Int := if 2 * x > m then x - m else x
def svOut (m : Int) (l : List Int) : List Int := if svIn m l then l.map (sv1 m) else []
theorem inb_iff {lo hi x : Int} : inb lo hi x = true ↔ lo ≤ x ∧ x ≤ hi := by simp [inb]
theorem inb_no {lo hi x : Int} : inb lo hi x = false ↔ ¬ (lo ≤ x ∧ x ≤ hi) := by rw [← inb_iff]; simp
theorem svIn_of {m : Int} {l : List Int} (h : svIn m l = true) : (2 ≤ m ∧ m ≤ 1000000007) ∧ l.length ≤ 600 ∧ ∀ x ∈ l, 0 ≤ x ∧ x ≤ m - 1 := by
  unfold svIn isRes at h
  simp only [Bool.and_eq_true, decide_eq_true_eq] at h
  exact ⟨inb_iff.1 h.1, h.2.1, inb_all h.2.2⟩
theorem sv1_ok {m x : Int} {K : Int → Prop} (hm : 2 ≤ m ∧ m ≤ 1000000007) (hx : 0 ≤ x ∧ x ≤ m - 1) (h : K (sv1 m x)) : br (decide (wr (2 * x) > m)) (K (wr (x - m))) (K x) := by
  rw [wr_in (x := 2 * x) (by omega) (by omega), wr_in (x := x - m) (by omega) (by omega)]
  unfold sv1 at h
  exact br_dec (fun g => by rw [if_pos g] at h; exact h) (fun g => by rw [if_neg g] at h; exact h)
theorem specSv_ok {m : Int} {l : List Int} {Q : List Int → Bool → Prop} (h : Q (svOut m l) (svIn m l)) : spec_SignedValues m l Q := by
  unfold spec_SignedValues
  refine jn_bool (!svIn m l) ?_ fun k hk => zeModulus_ok (br_nb (fun g => ?_) (fun g => zeValues_ok (inb_iff.1 g) ?_))
  · refine br_nb (fun g => ?_) (fun g => ?_)
    · unfold svOut at h; rw [g] at h; simpa using h
    · obtain ⟨hm, hl, hx⟩ := svIn_of g
      refine loop2_list (by omega) (fun out i => out = (l.take i).map (sv1 m)) (by simp) (fun out i nx hi ho hn => idx_at hi (jn_bool (sv1 m l[i]) ?_ fun k' hk' => sv1_ok hm (hx _ (List.getElem_mem hi)) hk')) (fun out ho => ?_)
      · have hlo : out.length ≤ 600 := by rw [ho]; simp; omega
        refine ⟨by unfold ln; simp; omega, hn _ ?_⟩
        rw [ho, List.take_succ_eq_append_getElem hi, List.map_append]; rfl
      · rw [List.take_length] at ho
        unfold svOut at h; rw [g] at h; rw [ho]; simpa using h
  · unfold svIn at hk; rw [g] at hk; exact hk
  · unfold svIn at hk; rw [g] at hk; exact hk
theorem implSv_ok {m : Int} {l : List Int} {Q : List Int → Bool → Prop} (h : Q (svOut m l) (svIn m l)) : impl_SignedValues m l Q := by
  unfold impl_SignedValues
  refine jn_bool (!svIn m l) ?_ fun k hk => isModulus_ok (br_nb (fun g => ?_) (fun g => areResidues_ok (inb_iff.1 g) ?_))
  · refine br_nb (fun g => ?_) (fun g => ?_)
    · unfold svOut at h; rw [g] at h; simpa using h
    · obtain ⟨hm, hl, hx⟩ := svIn_of g
      refine ⟨by unfold ln; omega, by unfold ln; omega, ?_⟩
      refine loop2_list (by omega) (fun out i => out.length = (l.map (sv1 m)).length ∧ out.take i = (l.map (sv1 m)).take i) (by simp) (fun out i nx hi ⟨h1, h2⟩ hn => idx_at hi (jn_bool (sv1 m l[i]) ?_ fun k' hk' => sv1_ok hm (hx _ (List.getElem_mem hi)) hk')) (fun out ⟨h1, h2⟩ => ?_)
      · have hlo : i < out.length := by rw [h1]; simpa using hi
        refine ⟨by omega, by simpa using hlo, hn _ ⟨by simpa using h1, ?_⟩⟩
        have := set_done h1 hlo h2
        simpa using this
      · have ho : out = l.map (sv1 m) := by
          rw [← List.take_length (l := out), h1]
          rw [List.length_map, h2, ← List.length_map (f := sv1 m), List.take_length]
        unfold svOut at h; rw [g] at h; rw [ho]; simpa using h
  · unfold svIn at hk; rw [g] at hk; exact hk
  · unfold svIn at hk; rw [g] at hk; exact hk
theorem svOut_length (m : Int) (l : List Int) : (svOut m l).length ≤ 600 := by
  unfold svOut
  split
  · rename_i g; have := (svIn_of g).2.1; simpa using this
  · simp
theorem lawSv_ok (m : Int) (l : List Int) (_ : Wf.wf m) (_ : Wf.wf l) : laws_FnExactSignedValues m l (fun r => r = true) := by
  have hO := svOut_length m l
  unfold laws_FnExactSignedValues
  refine br_dec (fun _ => rfl) (fun hl => ?_)
  have hl : l.length ≤ 1048576 := by unfold ln at hl; omega
  refine toIntS_ok hl (specSv_ok (toIntS_ok hl (implSv_ok (jn_of (eqIntS_ok (by omega) ?_)))))
  refine br_false (by simp) (br_false (by simp) ?_)
  refine toIntS_ok hl (eqIntS_ok (by omega) (br_false (by simp) ?_))
  refine markIntS_ok (by omega) (by omega) (by omega) (jn_of (br_false (by simp; omega) (eqIntS_ok (by omega) (br_false (by simp) (br_false (by simp) ?_)))))
  refine markIntS_ok (by omega) (by omega) (by omega) (heldIntS_ok (by omega) (by omega) (by omega) ?_)
  refine br_false (by simp; omega) (br_false (by simp) ?_)
  refine toIntS_ok hl (implSv_ok (jn_of (eqIntS_ok (by omega) (br_false (by simp) (br_false (by simp) ?_)))))
  refine heldIntS_ok (by omega) (by omega) (by omega) ?_
  exact br_false (by simp; omega) (br_false (by simp) rfl)
end Go.Proofs.Ytbegmfmabcpofaa
