/- The plain law of 'FnExactConcentrationOf': what the walk computes answers true, whatever the arguments. -/
import Derived.Test.YtbegmfmabcpofaaCn
set_option linter.unusedVariables false
set_option autoImplicit false
namespace Go.Proofs.Ytbegmfmabcpofaa
open Go Go.RowKit Go.Gv

def sqIn (x : Frac) : Bool := frIn (x.Num * x.Num) (x.Den * x.Den)
def sqOf (x : Frac) : Frac := frOf (x.Num * x.Num) (x.Den * x.Den)
def adIn (a b : Frac) : Bool := frIn (a.Num * b.Den + b.Num * a.Den) (a.Den * b.Den)
def adOf (a b : Frac) : Frac := frOf (a.Num * b.Den + b.Num * a.Den) (a.Den * b.Den)
theorem sq_ok {x : Frac} (hx : fOk x) (h : sqIn x = true) : fOk (sqOf x) := fOk_of (by have := den_pos hx hx; omega) h
theorem ad_ok {a b : Frac} (ha : fOk a) (hb : fOk b) (h : adIn a b = true) : fOk (adOf a b) := fOk_of (by have := den_pos ha hb; omega) h
def coGo : List Frac → Frac → Frac × Bool
  | [], s => (s, true)
  | x :: xs, s => if sqIn x then (if adIn s (sqOf x) then coGo xs (adOf s (sqOf x)) else (⟨0, 0⟩, false)) else (⟨0, 0⟩, false)
def coAll (l : List Int) : Frac × Bool := if cntIn l then coGo (sh l) ⟨0, 1⟩ else (⟨0, 0⟩, false)
theorem zero_ok : fOk ⟨0, 1⟩ := by decide
theorem drop_at {α : Type} {l : List α} {i : Nat} (h : i < l.length) : l.drop i = l[i] :: l.drop (i + 1) := List.drop_eq_getElem_cons h
theorem specCo_ok {l : List Int} {Q : Frac → Bool → Prop} (hl : l.length ≤ 1048576) (h : Q (coAll l).1 (coAll l).2) : spec_ConcentrationOf l Q := by
  unfold spec_ConcentrationOf
  refine oCounts_ok hl (br_nb (fun g => ?_) (fun g => oShares_ok g (br_false rfl ?_)))
  · unfold coAll at h; rw [g] at h; simpa using h
  · have hs := sh_ok g
    have hlen : (sh l).length ≤ 100 := by have := (cntIn_of g).2.1; simpa [sh] using this
    unfold coAll at h; rw [g, if_pos rfl] at h
    unfold spec_fInt
    refine loop3_listF (by omega) (fun n d i => fOk ⟨n, d⟩ ∧ coGo (sh l) ⟨0, 1⟩ = coGo ((sh l).drop i) ⟨n, d⟩) ⟨zero_ok, rfl⟩ (fun n d i nx hi ⟨h1, h2⟩ hn => idx_at hi ?_) (fun n d ⟨h1, h2⟩ => ?_)
    · have hx := hs _ (List.getElem_mem hi)
      rw [drop_at hi] at h2
      refine fMul_ok hx hx (br_nb (fun q => ?_) (fun q => ?_))
      · rw [h2] at h; simp only [coGo] at h; rw [show sqIn (sh l)[i] = false from q] at h; exact h
      · refine fAdd_ok h1 (sq_ok hx q) (br_nb (fun q2 => ?_) (fun q2 => hn _ _ ⟨ad_ok h1 (sq_ok hx q) q2, ?_⟩))
        · rw [h2] at h; simp only [coGo] at h; rw [show sqIn (sh l)[i] = true from q, if_pos rfl, show adIn ⟨n, d⟩ (sqOf (sh l)[i]) = false from q2] at h; exact h
        · rw [h2]; simp only [coGo]; rw [show sqIn (sh l)[i] = true from q, if_pos rfl, show adIn ⟨n, d⟩ (sqOf (sh l)[i]) = true from q2, if_pos rfl]; rfl
    · rw [List.drop_length] at h2; rw [h2] at h; exact h
theorem implCo_ok {l : List Int} {Q : Frac → Bool → Prop} (hl : l.length ≤ 1048576) (h : Q (coAll l).1 (coAll l).2) : impl_ConcentrationOf l Q := by
  unfold impl_ConcentrationOf
  refine areCounts_ok hl (br_nb (fun g => ?_) (fun g => sharesOf_ok g (br_false rfl ?_)))
  · unfold coAll at h; rw [g] at h; simpa using h
  · have hs := sh_ok g
    have hlen : (sh l).length ≤ 100 := by have := (cntIn_of g).2.1; simpa [sh] using this
    unfold coAll at h; rw [g, if_pos rfl] at h
    refine loop3_listF (by omega) (fun n d i => fOk ⟨n, d⟩ ∧ coGo (sh l) ⟨0, 1⟩ = coGo ((sh l).drop i) ⟨n, d⟩) ⟨zero_ok, rfl⟩ (fun n d i nx hi ⟨h1, h2⟩ hn => idx_at hi ?_) (fun n d ⟨h1, h2⟩ => ?_)
    · have hx := hs _ (List.getElem_mem hi)
      rw [drop_at hi] at h2
      refine mulFrac_ok hx hx (br_nb (fun q => ?_) (fun q => ?_))
      · rw [h2] at h; simp only [coGo] at h; rw [show sqIn (sh l)[i] = false from q] at h; exact h
      · refine addFrac_ok h1 (sq_ok hx q) (br_nb (fun q2 => ?_) (fun q2 => hn _ _ ⟨ad_ok h1 (sq_ok hx q) q2, ?_⟩))
        · rw [h2] at h; simp only [coGo] at h; rw [show sqIn (sh l)[i] = true from q, if_pos rfl, show adIn ⟨n, d⟩ (sqOf (sh l)[i]) = false from q2] at h; exact h
        · rw [h2]; simp only [coGo]; rw [show sqIn (sh l)[i] = true from q, if_pos rfl, show adIn ⟨n, d⟩ (sqOf (sh l)[i]) = true from q2, if_pos rfl]; rfl
    · rw [List.drop_length] at h2; rw [h2] at h; exact h
theorem lawCo_ok (l : List Int) (_ : Wf.wf l) : laws_FnExactConcentrationOf l (fun r => r = true) := by
  unfold laws_FnExactConcentrationOf
  refine br_dec (fun _ => rfl) (fun hl => ?_)
  have hl : l.length ≤ 1048576 := by unfold ln at hl; omega
  refine toIntS_ok hl (specCo_ok hl (toIntS_ok hl (implCo_ok hl (jn_of (eqFrac_same ?_)))))
  refine br_false rfl (br_false (by simp) ?_)
  exact toIntS_ok hl (eqIntS_ok (by omega) (br_false (by simp) rfl))
end Go.Proofs.Ytbegmfmabcpofaa
