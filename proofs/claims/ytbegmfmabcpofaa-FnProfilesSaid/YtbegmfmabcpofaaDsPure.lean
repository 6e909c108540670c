/- The plain law of 'FnExactDissimilarityOf': what the walk computes answers true, whatever the arguments. -/
import Derived.Test.YtbegmfmabcpofaaCoPure
set_option linter.unusedVariables false
set_option autoImplicit false
namespace Go.Proofs.Ytbegmfmabcpofaa
open Go Go.RowKit Go.Gv

def sbIn (a b : Frac) : Bool := frIn (a.Num * b.Den - b.Num * a.Den) (a.Den * b.Den)
def sbOf (a b : Frac) : Frac := frOf (a.Num * b.Den - b.Num * a.Den) (a.Den * b.Den)
def abF (a : Frac) : Frac := ⟨(a.Num.natAbs : Int), a.Den⟩
theorem sb_ok {a b : Frac} (ha : fOk a) (hb : fOk b) (h : sbIn a b = true) : fOk (sbOf a b) := fOk_of (by have := den_pos ha hb; omega) h
theorem ab_ok {a : Frac} (ha : fOk a) : fOk (abF a) := by
  obtain ⟨h1, h2, h3⟩ := ha
  refine ⟨h1, ?_, ?_⟩
  · show -1000000000 ≤ ((a.Num.natAbs : Nat) : Int) ∧ ((a.Num.natAbs : Nat) : Int) ≤ 1000000000
    omega
  · show Int.gcd ((a.Num.natAbs : Nat) : Int) a.Den = 1
    rw [← h3]; simp [Int.gcd]
def hdGo : List Frac → List Frac → Frac → Frac × Bool
  | x :: xs, y :: ys, s => if sbIn x y then (if adIn s (abF (sbOf x y)) then hdGo xs ys (adOf s (abF (sbOf x y))) else (⟨0, 0⟩, false)) else (⟨0, 0⟩, false)
  | _, _, s => (dvOf s ⟨2, 1⟩, dvIn s ⟨2, 1⟩)
theorem two_ok : fOk ⟨2, 1⟩ := by decide
def dsIn0 (a b : List Int) : Bool := cntIn a && (cntIn b && decide (a.length = b.length))
def dsAll (a b : List Int) : Frac × Bool := if dsIn0 a b then hdGo (sh a) (sh b) ⟨0, 1⟩ else (⟨0, 0⟩, false)
theorem frOf_sml (n d : Int) : sml (frOf n d).Num := by
  unfold frOf sml
  split
  · rename_i h; have := of_decide_eq_true h; show _ ≤ frNum n d ∧ frNum n d ≤ _; omega
  · show (_ : Int) ≤ 0 ∧ (0 : Int) ≤ _; omega
theorem halfDistance_ok {a b : List Frac} {Q : Frac → Bool → Prop} (hl : a.length ≤ 1048576) (he : a.length = b.length) (ha : ∀ f ∈ a, fOk f) (hb : ∀ f ∈ b, fOk f) (h : Q (hdGo a b ⟨0, 1⟩).1 (hdGo a b ⟨0, 1⟩).2) : impl_halfDistance a b Q := by
  unfold impl_halfDistance
  refine loop3_listF (by omega) (fun n d i => fOk ⟨n, d⟩ ∧ hdGo a b ⟨0, 1⟩ = hdGo (a.drop i) (b.drop i) ⟨n, d⟩) ⟨zero_ok, rfl⟩ (fun n d i nx hi ⟨h1, h2⟩ hn => idx_at hi (idx_at (by omega) ?_)) (fun n d ⟨h1, h2⟩ => ?_)
  · have hj : i < b.length := by omega
    have hx := ha _ (List.getElem_mem hi)
    have hy := hb _ (List.getElem_mem hj)
    rw [drop_at hi, drop_at hj] at h2
    refine det2_of (sbOf a[i] b[i]) (sbIn a[i] b[i]) (subFrac_ok hx hy ⟨rfl, rfl⟩) (br_nb (fun q => ?_) (fun q => ?_))
    · rw [h2] at h; simp only [hdGo] at h; rw [q] at h; exact h
    · have ho := sb_ok hx hy q
      have hm : mx (sbOf a[i] b[i]).Num (wr (0 - (sbOf a[i] b[i]).Num)) = (abF (sbOf a[i] b[i])).Num := by
        have := ho.2.1
        rw [wr_in (by omega) (by omega)]; show _ = (((sbOf a[i] b[i]).Num.natAbs : Nat) : Int); unfold mx; split <;> omega
      rw [hm]
      refine addFrac_ok h1 (ab_ok ho) (br_nb (fun q2 => ?_) (fun q2 => hn _ _ ⟨ad_ok h1 (ab_ok ho) q2, ?_⟩))
      · rw [h2] at h; simp only [hdGo] at h; rw [q, if_pos rfl, show adIn ⟨n, d⟩ (abF (sbOf a[i] b[i])) = false from q2] at h; exact h
      · rw [h2]; simp only [hdGo]; rw [q, if_pos rfl, show adIn ⟨n, d⟩ (abF (sbOf a[i] b[i])) = true from q2, if_pos rfl]; rfl
  · rw [List.drop_length, he, List.drop_length] at h2
    rw [h2] at h; simp only [hdGo] at h
    exact divFrac_ok h1 two_ok h
theorem specDs_ok {a b : List Int} {Q : Frac → Bool → Prop} (hla : a.length ≤ 1048576) (hlb : b.length ≤ 1048576) (h : Q (dsAll a b).1 (dsAll a b).2) : spec_DissimilarityOf a b Q := by
  unfold spec_DissimilarityOf
  refine jn_bool (!dsIn0 a b) ?_ fun k hk => oCounts_ok hla (br_nb (fun g => ?_) (fun g => oCounts_ok hlb (br_nb (fun g1 => ?_) (fun g1 => ?_))))
  · refine br_nb (fun g => ?_) (fun g => ?_)
    · unfold dsAll at h; rw [g] at h; simpa using h
    · unfold dsAll at h; rw [g, if_pos rfl] at h
      unfold dsIn0 at g
      simp only [Bool.and_eq_true, decide_eq_true_eq] at g
      obtain ⟨ga, gb, ge⟩ := g
      have ha := sh_ok ga
      have hb := sh_ok gb
      have hlen : (sh a).length = a.length := by simp [sh]
      have hlen2 : (sh b).length = b.length := by simp [sh]
      refine oShares_ok ga (oShares_ok gb (jn_of (br_false rfl (br_false rfl ?_))))
      unfold spec_fInt
      refine loop3_listF (by omega) (fun n d i => fOk ⟨n, d⟩ ∧ hdGo (sh a) (sh b) ⟨0, 1⟩ = hdGo ((sh a).drop i) ((sh b).drop i) ⟨n, d⟩) ⟨zero_ok, rfl⟩ (fun n d i nx hi ⟨h1, h2⟩ hn => idx_at hi (idx_at (by omega) ?_)) (fun n d ⟨h1, h2⟩ => ?_)
      · have hj : i < (sh b).length := by omega
        have hx := ha _ (List.getElem_mem hi)
        have hy := hb _ (List.getElem_mem hj)
        rw [drop_at hi, drop_at hj] at h2
        refine det2_of (sbOf (sh a)[i] (sh b)[i]) (sbIn (sh a)[i] (sh b)[i]) (fSub_ok hx hy ⟨rfl, rfl⟩) (l1Abs_ok (frOf_sml _ _) (br_nb (fun q => ?_) (fun q => ?_)))
        · rw [h2] at h; simp only [hdGo] at h; rw [q] at h; exact h
        · have ho := sb_ok hx hy q
          refine fAdd_ok h1 (ab_ok ho) (br_nb (fun q2 => ?_) (fun q2 => hn _ _ ⟨ad_ok h1 (ab_ok ho) q2, ?_⟩))
          · rw [h2] at h; simp only [hdGo] at h; rw [q, if_pos rfl, show adIn ⟨n, d⟩ (abF (sbOf (sh a)[i] (sh b)[i])) = false from q2] at h; exact h
          · rw [h2]; simp only [hdGo]; rw [q, if_pos rfl, show adIn ⟨n, d⟩ (abF (sbOf (sh a)[i] (sh b)[i])) = true from q2, if_pos rfl]; rfl
      · rw [List.drop_length, show (sh a).length = (sh b).length from by omega, List.drop_length] at h2
        rw [h2] at h; simp only [hdGo] at h
        exact det1_of ⟨2, 1⟩ rfl (det2_of _ _ (fDiv_ok h1 two_ok ⟨rfl, rfl⟩) h)
  · unfold dsIn0 at hk; rw [g] at hk; exact hk
  · unfold dsIn0 at hk; rw [g1] at hk; simpa using hk
  · unfold dsIn0 at hk; rw [g, g1] at hk
    rw [show (ln a != ln b) = !(true && (true && decide (a.length = b.length))) from by
      rw [Bool.true_and, Bool.true_and, bne]; congr 1; rw [Bool.eq_iff_iff, beq_iff_eq, decide_eq_true_iff]; unfold ln; omega]
    exact hk
theorem implDs_ok {a b : List Int} {Q : Frac → Bool → Prop} (hla : a.length ≤ 1048576) (hlb : b.length ≤ 1048576) (h : Q (dsAll a b).1 (dsAll a b).2) : impl_DissimilarityOf a b Q := by
  unfold impl_DissimilarityOf
  refine jn_bool (!dsIn0 a b) ?_ fun k hk => areCounts_ok hla (br_nb (fun g => ?_) (fun g => areCounts_ok hlb (br_nb (fun g1 => ?_) (fun g1 => ?_))))
  · refine br_nb (fun g => ?_) (fun g => ?_)
    · unfold dsAll at h; rw [g] at h; simpa using h
    · unfold dsAll at h; rw [g, if_pos rfl] at h
      unfold dsIn0 at g
      simp only [Bool.and_eq_true, decide_eq_true_eq] at g
      obtain ⟨ga, gb, ge⟩ := g
      have hlen : (sh a).length = a.length := by simp [sh]
      have hlen2 : (sh b).length = b.length := by simp [sh]
      exact sharesOf_ok ga (br_false rfl (sharesOf_ok gb (br_false rfl (halfDistance_ok (by omega) (by omega) (sh_ok ga) (sh_ok gb) h))))
  · unfold dsIn0 at hk; rw [g] at hk; exact hk
  · unfold dsIn0 at hk; rw [g1] at hk; simpa using hk
  · unfold dsIn0 at hk; rw [g, g1] at hk
    rw [show (ln a != ln b) = !(true && (true && decide (a.length = b.length))) from by
      rw [Bool.true_and, Bool.true_and, bne]; congr 1; rw [Bool.eq_iff_iff, beq_iff_eq, decide_eq_true_iff]; unfold ln; omega]
    exact hk
theorem lawDs_ok (a b : List Int) (_ : Wf.wf a) (_ : Wf.wf b) : laws_FnExactDissimilarityOf a b (fun r => r = true) := by
  unfold laws_FnExactDissimilarityOf
  refine br_dec (fun _ => rfl) (fun hl => br_dec (fun _ => rfl) (fun hm => ?_))
  have hl : a.length ≤ 1048576 := by unfold ln at hl; omega
  have hm : b.length ≤ 1048576 := by unfold ln at hm; omega
  refine toIntS_ok hl (toIntS_ok hm (specDs_ok hl hm (toIntS_ok hl (toIntS_ok hm (implDs_ok hl hm (jn_of (eqFrac_same ?_)))))))
  refine br_false rfl (br_false (by simp) ?_)
  refine toIntS_ok hl (eqIntS_ok (by omega) (br_false (by simp) ?_))
  exact toIntS_ok hm (eqIntS_ok (by omega) (br_false (by simp) rfl))
end Go.Proofs.Ytbegmfmabcpofaa
