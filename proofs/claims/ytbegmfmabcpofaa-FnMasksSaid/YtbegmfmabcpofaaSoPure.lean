/- The plain law of 'FnExactSumOfShares': what the walk computes answers true, whatever the arguments. -/
import Derived.Test.YtbegmfmabcpofaaPN
set_option linter.unusedVariables false
set_option autoImplicit false
namespace Go.Proofs.Ytbegmfmabcpofaa
open Go Go.RowKit Go.Gv

def soOf (m : Int) (s : List (List Int)) : List Int := if shIn m s then smOf m s else []
theorem specSo_ok {m : Int} {s : List (List Int)} {Q : List Int → Bool → Prop} (hl : s.length ≤ 1048576) (h : Q (soOf m s) (shIn m s)) : spec_SumOfShares m s Q := by
  unfold spec_SumOfShares
  refine zeShares_ok hl (br_nb (fun g => ?_) (fun g => zeSum_ok g ?_))
  · unfold soOf at h; rw [g] at h; simpa using h
  · unfold soOf at h; rw [g] at h; simpa using h
theorem implSo_ok {m : Int} {s : List (List Int)} {Q : List Int → Bool → Prop} (h : Q (soOf m s) (shIn m s)) : impl_SumOfShares m s Q := by
  unfold impl_SumOfShares
  refine areShares_ok (br_nb (fun g => ?_) (fun g => sumOfShares_ok g ?_))
  · unfold soOf at h; rw [g] at h; simpa using h
  · unfold soOf at h; rw [g] at h; simpa using h
theorem soOf_length (m : Int) (s : List (List Int)) : (soOf m s).length ≤ 600 := by
  unfold soOf
  split
  · rename_i g
    have h1 := smOf_in g
    have h2 := shIn_of g
    omega
  · simp
theorem lawSo_ok (m : Int) (s : List (List Int)) (_ : Wf.wf m) (hw : Wf.wf s) : laws_FnExactSumOfShares m s (fun r => r = true) := by
  have hO := soOf_length m s
  unfold laws_FnExactSumOfShares
  refine szIntSS_ok hw (by omega) fun r hr hs => br_dec (fun _ => rfl) (fun g => ?_)
  have hs := hs (by omega)
  refine toIntSS_ok hs (specSo_ok hs.1 (toIntSS_ok hs (implSo_ok (jn_of (eqIntS_same (by omega) ?_)))))
  refine br_false rfl (br_false (by simp) ?_)
  refine toIntSS_ok hs (eqIntSS_same hs (br_false rfl ?_))
  refine markIntSS_ok hs (by omega) fun k' a' hk hk2 => jn_of (br_no (by omega) (eqIntS_same (by omega) (br_false rfl (br_false (by simp) ?_))))
  refine markIntS_ok (by omega) (by omega) (by omega) (heldIntS_ok (by omega) (by omega) (by omega) ?_)
  refine br_false (by simp; omega) (br_false (by simp) ?_)
  refine toIntSS_ok hs (implSo_ok (jn_of (eqIntS_same (by omega) (br_false rfl (br_false (by simp) ?_)))))
  refine heldIntS_ok (by omega) (by omega) (by omega) ?_
  exact br_false (by simp; omega) (br_false (by simp) rfl)
end Go.Proofs.Ytbegmfmabcpofaa
