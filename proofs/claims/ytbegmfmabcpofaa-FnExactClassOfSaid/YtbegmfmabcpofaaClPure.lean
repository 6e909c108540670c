/- The plain law of 'FnExactClassOf': what the walk computes answers true, whatever the arguments. -/
import Derived.Test.YtbegmfmabcpofaaCf
set_option linter.unusedVariables false
set_option autoImplicit false
namespace Go.Proofs.Ytbegmfmabcpofaa
open Go Go.RowKit Go.Gv

def fAt (l : List Frac) (i : Nat) : Frac := l.getD i ⟨0, 0⟩
theorem fAt_at {l : List Frac} {i : Nat} (h : i < l.length) : fAt l i = l[i] := by unfold fAt; simp [List.getD_eq_getElem?_getD, h]
def srtAt (l : List Frac) (i : Nat) : Bool := decide (i = 0) || !decide (cmpF (fAt l (i - 1)) (fAt l i) > 0)
def srt (l : List Frac) : Bool := (List.range l.length).all (srtAt l)
theorem rngAll_succ {p : Nat → Bool} {i : Nat} (h : (List.range i).all p = true) (hp : p i = true) : (List.range (i + 1)).all p = true := by
  rw [List.range_succ, List.all_append, h]; simp [hp]
theorem rngAll_no {p : Nat → Bool} {i n : Nat} (hi : i < n) (hp : p i = false) : (List.range n).all p = false := by
  rw [List.all_eq_false]; exact ⟨i, List.mem_range.2 hi, by simp [hp]⟩
def leF (v w : Frac) : Bool := decide (cmpF w v ≤ 0)
def clIn0 (l : List Frac) (v : Frac) : Bool := (allF l && decide ((l.length : Int) ≤ 7)) && decide (fOk v)
def clIn (l : List Frac) (v : Frac) : Bool := clIn0 l v && srt l
def clOf (l : List Frac) (v : Frac) : Int := if clIn l v then cntF (leF v) l l.length else 0
theorem clIn0_of {l : List Frac} {v : Frac} (h : clIn0 l v = true) : (∀ f ∈ l, fOk f) ∧ l.length ≤ 7 ∧ fOk v := by
  unfold clIn0 at h
  simp only [Bool.and_eq_true, decide_eq_true_eq] at h
  exact ⟨allF_of h.1.1, by omega, h.2⟩
theorem sorted_ok {l : List Frac} {Q : Bool → Prop} (hl : l.length ≤ 1048576) (hf : ∀ f ∈ l, fOk f) (h : Q (srt l)) : slices_IsSortedFunc_impl_Frac_impl_Frac_impl_cmpFrac l Q := by
  unfold slices_IsSortedFunc_impl_Frac_impl_Frac_impl_cmpFrac
  rw [wr_in (by unfold ln; omega) (by unfold ln; omega)]
  refine ⟨fun i => -1 ≤ i ∧ i < l.length ∧ ∀ k : Nat, i < k → k < l.length → srtAt l k = true, fun i => i.toNat, ⟨by unfold ln; omega, by unfold ln; omega, fun k h1 h2 => by unfold ln at h1; omega⟩, fun i ⟨h1, h2, h3⟩ => br_dec (fun g => ?_) (fun g => ?_)⟩
  · rw [wr_in (x := i - 1) (by omega) (by omega)]
    have a1 : i.toNat < l.length := by omega
    have a2 : (i - 1).toNat < l.length := by omega
    refine idx_of (by omega) a1 (idx_of (by omega) a2 (cmpFrac_ok (hf _ (List.getElem_mem a1)) (hf _ (List.getElem_mem a2)) ?_))
    have e : srtAt l i.toNat = !decide (cmpF l[i.toNat] l[(i - 1).toNat] < 0) := by
      unfold srtAt
      have e1 : i.toNat - 1 = (i - 1).toNat := by omega
      rw [decide_eq_false (by omega), Bool.false_or, fAt_at a1, e1, fAt_at a2, cmpF_swap]
      congr 2; rw [eq_iff_iff]; omega
    refine br_dec (fun c => ?_) (fun c => ⟨⟨by omega, by omega, fun k k1 k2 => ?_⟩, ?_⟩)
    · have : srt l = false := rngAll_no a1 (by rw [e, decide_eq_true c]; rfl)
      rw [this] at h; exact h
    · by_cases hk : k = i.toNat
      · subst hk; rw [e, decide_eq_false c]; rfl
      · exact h3 k (by omega) k2
    · show (i - 1).toNat < i.toNat
      omega
  · have : srt l = true := List.all_eq_true.2 fun k hk => by
      have hk := List.mem_range.1 hk
      by_cases h0 : k = 0
      · subst h0; rfl
      · exact h3 k (by omega) hk
    rw [this] at h; exact h
theorem specCl_ok {l : List Frac} {v : Frac} {Q : Int → Bool → Prop} (hl : l.length ≤ 1048576) (h : Q (clOf l v) (clIn l v)) : spec_ClassOf l v Q := by
  unfold spec_ClassOf
  refine jn_bool (!clIn0 l v) ?_ fun k hk => oFracs_ok hl (br_nb (fun g => ?_) (fun g => fGood_ok' ?_))
  · refine br_nb (fun g => ?_) (fun g => ?_)
    · have : clIn l v = false := by unfold clIn; rw [g]; rfl
      unfold clOf at h; rw [this] at h; simpa using h
    · obtain ⟨hf, hn, hv⟩ := clIn0_of g
      refine loop2_list (by omega) (fun n i => n = cntF (leF v) l i ∧ (List.range i).all (srtAt l) = true) ⟨by simp [cntF], rfl⟩ (fun n i nx hi ⟨h1, h2⟩ hx => ?_) (fun n ⟨h1, h2⟩ => ?_)
      · have hc := cntF_le (p := leF v) (l := l) (j := i)
        cases hs : srtAt l i with
        | false =>
          have hno : clIn l v = false := by unfold clIn srt; rw [rngAll_no hi hs, Bool.and_false]
          refine jn_of (idx_at hi (jn_bool true (br_true rfl ?_) fun k hk => br_dec (fun c => ?_) (fun c => ?_)))
          · unfold clOf at h; rw [hno] at h; simpa using h
          · have e : wr ((i : Int) - 1) = ((i - 1 : Nat) : Int) := by rw [wr_in (by omega) (by omega)]; omega
            rw [e]
            refine idx_at (by omega) (det1_of _ (fCmp_ok (hf _ (List.getElem_mem (show i - 1 < l.length by omega))) (hf _ (List.getElem_mem hi)) rfl) ?_)
            unfold srtAt at hs
            rw [decide_eq_false (show ¬ i = 0 by omega), Bool.false_or, fAt_at hi, fAt_at (show i - 1 < l.length by omega), Bool.not_eq_false'] at hs
            rw [hs]; exact hk
          · exfalso
            unfold srtAt at hs; rw [decide_eq_true (show i = 0 by omega)] at hs; simp at hs
        | true =>
          refine jn_bool (cntF (leF v) l (i + 1)) (hx _ ⟨rfl, rngAll_succ h2 hs⟩) fun k hk => idx_at hi (jn_bool false (br_false rfl (fCmp_ok (hf _ (List.getElem_mem hi)) hv (br_dec (fun c => ?_) (fun c => ?_)))) fun k2 hk2 => br_dec (fun c => ?_) (fun c => hk2))
          · rw [cntF_succ hi, show leF v l[i] = true from decide_eq_true c, if_pos rfl] at hk
            rw [wr_in (by omega) (by omega), h1]; exact hk
          · rw [cntF_succ hi, show leF v l[i] = false from decide_eq_false c] at hk
            rw [h1]; simpa using hk
          · have e : wr ((i : Int) - 1) = ((i - 1 : Nat) : Int) := by rw [wr_in (by omega) (by omega)]; omega
            rw [e]
            refine idx_at (by omega) (det1_of _ (fCmp_ok (hf _ (List.getElem_mem (show i - 1 < l.length by omega))) (hf _ (List.getElem_mem hi)) rfl) ?_)
            unfold srtAt at hs
            rw [decide_eq_false (show ¬ i = 0 by omega), Bool.false_or, fAt_at hi, fAt_at (show i - 1 < l.length by omega), Bool.not_eq_true'] at hs
            rw [hs]; exact hk2
      · have hyes : clIn l v = true := by unfold clIn srt; rw [g, h2]; rfl
        unfold clOf at h; rw [hyes, if_pos rfl] at h; rw [h1]; exact h
  · unfold clIn0 at hk; rw [g] at hk; exact hk
  · unfold clIn0 at hk; rw [g, Bool.true_and] at hk; exact hk
theorem implCl_ok {l : List Frac} {v : Frac} {Q : Int → Bool → Prop} (hl : l.length ≤ 1048576) (h : Q (clOf l v) (clIn l v)) : impl_ClassOf l v Q := by
  unfold impl_ClassOf
  refine jn_bool (!clIn l v) ?_ fun k hk => br_dec (fun g => ?_) (fun g => areFracs_ok hl (br_nb (fun g1 => ?_) (fun g1 => sorted_ok hl (allF_of g1) (br_nb (fun g2 => ?_) (fun g2 => isFrac_ok ?_)))))
  · refine br_nb (fun g => ?_) (fun g => ?_)
    · unfold clOf at h; rw [g] at h; simpa using h
    · have g0 : clIn0 l v = true := by unfold clIn at g; simp only [Bool.and_eq_true] at g; exact g.1
      obtain ⟨hf, hn, hv⟩ := clIn0_of g0
      refine loop2_list (by omega) (fun n i => n = cntF (leF v) l i) (by simp [cntF]) (fun n i nx hi h1 hx => ?_) (fun n h1 => ?_)
      · have hc := cntF_le (p := leF v) (l := l) (j := i)
        refine jn_bool (cntF (leF v) l (i + 1)) (hx _ rfl) fun k hk => idx_at hi (cmpFrac_ok (hf _ (List.getElem_mem hi)) hv (br_dec (fun c => ?_) (fun c => ?_)))
        · rw [cntF_succ hi, show leF v l[i] = true from decide_eq_true c, if_pos rfl] at hk
          rw [wr_in (by omega) (by omega), h1]; exact hk
        · rw [cntF_succ hi, show leF v l[i] = false from decide_eq_false c] at hk
          rw [h1]; simpa using hk
      · unfold clOf at h; rw [g, if_pos rfl] at h; rw [h1]; exact h
  · unfold clIn clIn0 at hk; rw [decide_eq_false (show ¬ ((l.length : Int) ≤ 7) by unfold ln at g; omega)] at hk; simpa using hk
  · unfold clIn clIn0 at hk; rw [g1] at hk; simpa using hk
  · unfold clIn at hk; rw [g2] at hk; simpa using hk
  · unfold clIn clIn0 at hk; rw [g1, g2, decide_eq_true (show (l.length : Int) ≤ 7 by unfold ln at g; omega)] at hk; simpa using hk
theorem lawCl_ok (l : List Frac) (v : Frac) (hw : Wf.wf l) (_ : Wf.wf v) : laws_FnExactClassOf l v (fun r => r = true) := by
  unfold laws_FnExactClassOf
  refine szFracS_ok hw.1 (by omega) fun r hr hs => br_dec (fun _ => rfl) (fun g => ?_)
  have hl := hs (by omega)
  refine det1_of v rfl (toFracS_ok hl (det2_of _ _ (specCl_ok hl ⟨rfl, rfl⟩) (toFracS_ok hl (toFrac_ok (implCl_ok hl (jn_of (br_false (by simp) ?_)))))))
  refine br_false (by simp) ?_
  exact toFracS_ok hl (eqFracS_same hl (br_false rfl rfl))
end Go.Proofs.Ytbegmfmabcpofaa
