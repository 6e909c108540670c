/- The plain law of 'FnExactRanksOf': what the walk computes answers true, whatever the arguments. -/
import Derived.Test.YtbegmfmabcpofaaCf
set_option linter.unusedVariables false
set_option autoImplicit false
namespace Go.Proofs.Ytbegmfmabcpofaa
open Go Go.RowKit Go.Gv

def gtF (v w : Frac) : Bool := decide (cmpF w v > 0)
def rk1 (l : List Frac) (v : Frac) : Int := 1 + cntF (gtF v) l l.length
def rkIn (l : List Frac) : Bool := allF l && decide ((l.length : Int) ≤ 100)
def rkOf (l : List Frac) : List Int := if rkIn l then l.map (rk1 l) else []
theorem rkIn_of {l : List Frac} (h : rkIn l = true) : (∀ f ∈ l, fOk f) ∧ l.length ≤ 100 := by
  unfold rkIn at h
  simp only [Bool.and_eq_true, decide_eq_true_eq] at h
  exact ⟨allF_of h.1, by omega⟩
theorem specRk_ok {l : List Frac} {Q : List Int → Bool → Prop} (hl : l.length ≤ 1048576) (h : Q (rkOf l) (rkIn l)) : spec_RanksOf l Q := by
  unfold spec_RanksOf
  refine oFracs_ok hl (br_nb (fun g => ?_) (fun g => ?_))
  · unfold rkOf at h; rw [show rkIn l = false from g] at h; simpa using h
  · obtain ⟨hf, hn⟩ := rkIn_of g
    refine loop2_list (by omega) (fun out i => out = (l.take i).map (rk1 l)) (by simp) (fun out i nx hi ho hx => idx_at hi ?_) (fun out ho => ?_)
    · have hv := hf _ (List.getElem_mem hi)
      refine loop2_list (by omega) (fun n j => n = 1 + cntF (gtF l[i]) l j) (by simp [cntF]) (fun n j nx2 hj hn2 hx2 => ?_) (fun n hn2 => ?_)
      · have hc := cntF_le (p := gtF l[i]) (l := l) (j := j)
        refine jn_bool (1 + cntF (gtF l[i]) l (j + 1)) (hx2 _ rfl) fun k hk => idx_at hj (fCmp_ok (hf _ (List.getElem_mem hj)) hv (br_dec (fun c => ?_) (fun c => ?_)))
        · rw [cntF_succ hj, show gtF l[i] l[j] = true from decide_eq_true c, if_pos rfl] at hk
          rw [wr_in (by omega) (by omega), hn2, Int.add_assoc]; exact hk
        · rw [cntF_succ hj, show gtF l[i] l[j] = false from decide_eq_false c] at hk
          rw [hn2]; simpa using hk
      · have hlo : out.length ≤ 100 := by rw [ho]; simp; omega
        refine ⟨by unfold ln; simp; omega, hx _ ?_⟩
        rw [ho, List.take_succ_eq_append_getElem hi, List.map_append, hn2]; rfl
    · rw [List.take_length] at ho
      unfold rkOf at h; rw [show rkIn l = true from g, if_pos rfl] at h; rw [ho]; exact h
theorem implRk_ok {l : List Frac} {Q : List Int → Bool → Prop} (hl : l.length ≤ 1048576) (h : Q (rkOf l) (rkIn l)) : impl_RanksOf l Q := by
  unfold impl_RanksOf
  refine jn_bool (!rkIn l) ?_ fun k hk => br_dec (fun g => ?_) (fun g => areFracs_ok hl ?_)
  · refine br_nb (fun g => ?_) (fun g => ?_)
    · unfold rkOf at h; rw [g] at h; simpa using h
    · obtain ⟨hf, hn⟩ := rkIn_of g
      have hlen : (l.map (rk1 l)).length = l.length := by simp
      refine ⟨by unfold ln; omega, by unfold ln; omega, ?_⟩
      refine loop2_list (by omega) (fun out i => out.length = (l.map (rk1 l)).length ∧ out.take i = (l.map (rk1 l)).take i) (by simp) (fun out i nx hi ⟨h1, h2⟩ hx => idx_at hi ⟨by omega, by rw [h1, hlen]; simpa using hi, ?_⟩) (fun out ⟨h1, h2⟩ => ?_)
      · have hv := hf _ (List.getElem_mem hi)
        have hio : i < out.length := by omega
        refine loop2_list (by omega) (fun o2 j => o2 = out.set i (1 + cntF (gtF l[i]) l j)) (by simp [cntF]) (fun o2 j nx2 hj ho2 hx2 => ?_) (fun o2 ho2 => ?_)
        · have hc := cntF_le (p := gtF l[i]) (l := l) (j := j)
          refine jn_bool (out.set i (1 + cntF (gtF l[i]) l (j + 1))) (hx2 _ rfl) fun k hk => idx_at hj (cmpFrac_ok (hf _ (List.getElem_mem hj)) hv (br_dec (fun c => ?_) (fun c => ?_)))
          · have hio2 : i < o2.length := by rw [ho2]; simpa using hio
            refine idx_at hio2 ⟨by omega, by simpa using hio2, ?_⟩
            have hget : o2[i] = 1 + cntF (gtF l[i]) l j := by simp [ho2]
            rw [hget, wr_in (by omega) (by omega), ho2, Int.toNat_natCast, List.set_set, Int.add_assoc]
            rw [cntF_succ hj, show gtF l[i] l[j] = true from decide_eq_true c, if_pos rfl] at hk; exact hk
          · rw [cntF_succ hj, show gtF l[i] l[j] = false from decide_eq_false c] at hk
            rw [ho2]; simpa using hk
        · refine hx _ ⟨by rw [ho2]; simpa using h1, ?_⟩
          rw [ho2]
          have := set_done h1 hio h2
          simpa [rk1] using this
      · rw [eq_of_take h2 (by omega) hlen]
        unfold rkOf at h; rw [g, if_pos rfl] at h; exact h
  · unfold rkIn at hk; rw [decide_eq_false (show ¬ ((l.length : Int) ≤ 100) by unfold ln at g; omega)] at hk; simpa using hk
  · unfold rkIn at hk; rw [decide_eq_true (show (l.length : Int) ≤ 100 by unfold ln at g; omega), Bool.and_true] at hk; exact hk
theorem rkOf_length (l : List Frac) : (rkOf l).length ≤ 100 := by
  unfold rkOf
  split
  · rename_i g; have := (rkIn_of g).2; simpa using this
  · simp
theorem lawRk_ok (l : List Frac) (hw : Wf.wf l) : laws_FnExactRanksOf l (fun r => r = true) := by
  have hO := rkOf_length l
  unfold laws_FnExactRanksOf
  refine szFracS_ok hw.1 (by omega) fun r hr hs => br_dec (fun _ => rfl) (fun g => ?_)
  have hl := hs (by omega)
  refine toFracS_ok hl (specRk_ok hl (toFracS_ok hl (implRk_ok hl (jn_of (eqIntS_ok (by omega) ?_)))))
  refine br_false (by simp) (br_false (by simp) ?_)
  refine toFracS_ok hl (eqFracS_same hl (br_false rfl ?_))
  refine markFracS_ok hl (by omega) (jn_of (br_false (by simp; omega) (eqIntS_ok (by omega) (br_false (by simp) (br_false (by simp) ?_)))))
  refine markIntS_ok (by omega) (by omega) (by omega) (heldIntS_ok (by omega) (by omega) (by omega) ?_)
  refine br_false (by simp; omega) (br_false (by simp) ?_)
  refine toFracS_ok hl (implRk_ok hl (jn_of (eqIntS_ok (by omega) (br_false (by simp) (br_false (by simp) ?_)))))
  refine heldIntS_ok (by omega) (by omega) (by omega) ?_
  exact br_false (by simp; omega) (br_false (by simp) rfl)
end Go.Proofs.Ytbegmfmabcpofaa
