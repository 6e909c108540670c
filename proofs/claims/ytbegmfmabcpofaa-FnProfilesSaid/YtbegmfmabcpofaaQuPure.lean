/- The plain law of 'FnExactQuotientOf': what the walk computes answers true, whatever the arguments. -/
import Derived.Test.YtbegmfmabcpofaaCn
set_option linter.unusedVariables false
set_option autoImplicit false
namespace Go.Proofs.Ytbegmfmabcpofaa
open Go Go.RowKit Go.Gv

def quIn0 (a b : List Int) (i : Int) : Bool := cntIn a && (cntIn b && decide (a.length = b.length ∧ 0 ≤ i ∧ i < a.length))
def quX (a : List Int) (i : Int) : Frac := frOf (a.getD i.toNat 0) a.sum
def quIn (a b : List Int) (i : Int) : Bool := if quIn0 a b i then dvIn (quX a i) (quX b i) else false
def quOf (a b : List Int) (i : Int) : Frac := if quIn0 a b i then dvOf (quX a i) (quX b i) else ⟨0, 0⟩
theorem getD_nat {l : List Int} {i : Int} (h : i.toNat < l.length) : l.getD i.toNat 0 = l[i.toNat] := by simp [List.getD_eq_getElem?_getD, h]
theorem frNum_zero (s : Int) : frNum 0 s = 0 := by unfold frNum; simp
theorem specQu_ok {a b : List Int} {i : Int} {Q : Frac → Bool → Prop} (ha : a.length ≤ 1048576) (hb : b.length ≤ 1048576) (h : Q (quOf a b i) (quIn a b i)) : spec_QuotientOf a b i Q := by
  unfold spec_QuotientOf
  refine jn_bool (!quIn0 a b i) ?_ fun k hk => oCounts_ok ha (br_nb (fun g => ?_) (fun g => oCounts_ok hb (br_nb (fun g1 => ?_) (fun g1 => br_ne (fun g2 => ?_) (fun g2 => l1In_ok ?_)))))
  · refine br_nb (fun g => ?_) (fun g => ?_)
    · unfold quOf quIn at h; rw [g] at h; simpa using h
    · have g' := g
      unfold quIn0 at g'
      simp only [Bool.and_eq_true, decide_eq_true_eq] at g'
      obtain ⟨ga, gb, ge, gi, gj⟩ := g'
      obtain ⟨a0, a1, ax, as⟩ := cntIn_of ga
      obtain ⟨b0, b1, bx, bs⟩ := cntIn_of gb
      have hi : i.toNat < a.length := by omega
      have hj : i.toNat < b.length := by omega
      have hv := ax _ (List.getElem_mem hi)
      have hw := bx _ (List.getElem_mem hj)
      refine idx_of gi hi (det1_of a.sum (tSum_ok a1 ax rfl) (det2_of (quX a i) true (fMake_ok (by unfold sml; omega) (by unfold sml; omega) ?_) (idx_of gi hj (det1_of b.sum (tSum_ok b1 bx rfl) (det2_of (quX b i) true (fMake_ok (by unfold sml; omega) (by unfold sml; omega) ?_) ?_)))))
      · rw [if_neg (by omega), if_neg (by omega), share_in hv as]; exact ⟨by unfold quX; rw [getD_nat hi], rfl⟩
      · rw [if_neg (by omega), if_neg (by omega), share_in hw bs]; exact ⟨by unfold quX; rw [getD_nat hj], rfl⟩
      · refine jn_of (br_false rfl (br_false rfl ?_))
        refine fDiv_ok ?_ ?_ ?_
        · show fOk (quX a i); unfold quX; rw [getD_nat hi]; exact share_ok hv as
        · show fOk (quX b i); unfold quX; rw [getD_nat hj]; exact share_ok hw bs
        · unfold quOf quIn at h; rw [g] at h; simpa using h
  · unfold quIn0 at hk; rw [g] at hk; exact hk
  · unfold quIn0 at hk; rw [g1] at hk; simpa using hk
  · unfold quIn0 at hk; rw [decide_eq_false (by unfold ln at g2; omega)] at hk; simpa using hk
  · obtain ⟨a0, a1, ax, as⟩ := cntIn_of g
    rw [wr_in (by unfold ln; omega) (by unfold ln; omega)]
    have : (decide (0 ≤ i) && decide (i ≤ ln a - 1)) = quIn0 a b i := by
      unfold quIn0; rw [g, g1, Bool.true_and, Bool.true_and, Bool.eq_iff_iff]
      simp only [Bool.and_eq_true, decide_eq_true_eq]; unfold ln at *; omega
    rw [this]; exact hk
theorem implQu_ok {a b : List Int} {i : Int} {Q : Frac → Bool → Prop} (ha : a.length ≤ 1048576) (hb : b.length ≤ 1048576) (h : Q (quOf a b i) (quIn a b i)) : impl_QuotientOf a b i Q := by
  unfold impl_QuotientOf
  refine jn_bool (if quIn0 a b i then b.getD i.toNat 0 == 0 else true) ?_ fun k hk => areCounts_ok ha (br_nb (fun g => ?_) (fun g => areCounts_ok hb (br_nb (fun g1 => ?_) (fun g1 => br_ne (fun g2 => ?_) (fun g2 => br_dec (fun g3 => ?_) (fun g3 => br_dec (fun g4 => ?_) (fun g4 => ?_)))))))
  · cases g : quIn0 a b i
    · refine br_true (by simp) ?_
      unfold quOf quIn at h; rw [g] at h; simpa using h
    · have g' := g
      unfold quIn0 at g'
      simp only [Bool.and_eq_true, decide_eq_true_eq] at g'
      obtain ⟨ga, gb, ge, gi, gj⟩ := g'
      obtain ⟨a0, a1, ax, as⟩ := cntIn_of ga
      obtain ⟨b0, b1, bx, bs⟩ := cntIn_of gb
      have hi : i.toNat < a.length := by omega
      have hj : i.toNat < b.length := by omega
      have hv := ax _ (List.getElem_mem hi)
      have hw := bx _ (List.getElem_mem hj)
      rw [if_pos rfl]
      unfold quOf quIn at h; rw [g, if_pos rfl, if_pos rfl] at h
      refine br_eq (fun z => ?_) (fun z => ?_)
      · unfold quX at h
        rw [z] at h
        have hn : (frOf 0 b.sum).Num = 0 := by
          unfold frOf
          have := share_in (v := 0) (by omega) bs
          rw [this]; exact frNum_zero _
        unfold dvOf dvIn at h
        rw [if_pos hn, if_pos hn] at h; exact h
      · refine idx_of gi hi (det1_of a.sum (total_ok a1 ax rfl) (det2_of (quX a i) true (reduced_ok (by unfold sml; omega) (by unfold sml; omega) (by omega) ?_) (br_false rfl (idx_of gi hj (det1_of b.sum (total_ok b1 bx rfl) (det2_of (quX b i) true (reduced_ok (by unfold sml; omega) (by unfold sml; omega) (by omega) ?_) (br_false rfl ?_)))))))
        · rw [share_in hv as]; exact ⟨by unfold quX; rw [getD_nat hi], rfl⟩
        · rw [share_in hw bs]; exact ⟨by unfold quX; rw [getD_nat hj], rfl⟩
        · refine divFrac_ok ?_ ?_ ?_
          · show fOk (quX a i); unfold quX; rw [getD_nat hi]; exact share_ok hv as
          · show fOk (quX b i); unfold quX; rw [getD_nat hj]; exact share_ok hw bs
          · exact h
  · have : quIn0 a b i = false := by unfold quIn0; rw [g]; rfl
    rw [this] at hk; simpa using hk
  · have : quIn0 a b i = false := by unfold quIn0; rw [g1]; simp
    rw [this] at hk; simpa using hk
  · have : quIn0 a b i = false := by unfold quIn0; rw [decide_eq_false (by unfold ln at g2; omega)]; simp
    rw [this] at hk; simpa using hk
  · have : quIn0 a b i = false := by unfold quIn0; rw [decide_eq_false (by omega)]; simp
    rw [this] at hk; simpa using hk
  · have : quIn0 a b i = false := by unfold quIn0; rw [decide_eq_false (by unfold ln at g4; omega)]; simp
    rw [this] at hk; simpa using hk
  · have hq : quIn0 a b i = true := by
      unfold quIn0; rw [g, g1, decide_eq_true (by unfold ln at *; omega)]; rfl
    have hj : i.toNat < b.length := by unfold ln at *; omega
    rw [hq, if_pos rfl, getD_nat hj] at hk
    exact idx_of (by omega) hj hk
theorem lawQu_ok (a b : List Int) (i : Int) (_ : Wf.wf a) (_ : Wf.wf b) (_ : Wf.wf i) : laws_FnExactQuotientOf a b i (fun r => r = true) := by
  unfold laws_FnExactQuotientOf
  refine br_dec (fun _ => rfl) (fun hl => br_dec (fun _ => rfl) (fun hm => ?_))
  have hl : a.length ≤ 1048576 := by unfold ln at hl; omega
  have hm : b.length ≤ 1048576 := by unfold ln at hm; omega
  refine toIntS_ok hl (toIntS_ok hm (specQu_ok hl hm (toIntS_ok hl (toIntS_ok hm (implQu_ok hl hm (jn_of (eqFrac_same ?_)))))))
  refine br_false rfl (br_false (by simp) ?_)
  refine toIntS_ok hl (eqIntS_ok (by omega) (br_false (by simp) ?_))
  exact toIntS_ok hm (eqIntS_ok (by omega) (br_false (by simp) rfl))
end Go.Proofs.Ytbegmfmabcpofaa
