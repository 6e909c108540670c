/- The plain law of MaximalEdits. -/
import Derived.Test.YtdaojggigfnnpaaEvPure
set_option linter.unusedVariables false
set_option autoImplicit false
namespace Go.Proofs.Ytdaojggigfnnpaa
open Go Go.RowKit Go.Gv
def maxOk (sx : List Variable) (l : List Edit) : Bool := smOk sx && lOk sx l
def maxR (sx : List Variable) (l : List Edit) : List Edit := if maxOk sx l then maxE sx l (-1) else []
theorem maxOk_of {sx : List Variable} {l : List Edit} (g : maxOk sx l = true) : Lok sx ∧ cnt sx ≤ 100 ∧ Eok sx.length l := by
  unfold maxOk at g
  simp only [Bool.and_eq_true] at g
  have ⟨hL, hc, _⟩ := smOk_of g.1
  exact ⟨hL, hc, Eok_of hL g.2⟩
theorem sMax_ok {sx : List Variable} {l : List Edit} {Q : List Edit → Bool → Prop} (hw : Wide sx l) (hq : Q (maxR sx l) (maxOk sx l)) : spec_MaximalEdits sx l Q := by
  unfold spec_MaximalEdits
  refine eSmall_ok hw.1.1 hw.1.2 hw.2.1 hw.2.2 (br_nb (fun g => ?_) (fun g => ?_))
  · have g' : maxOk sx l = false := g
    unfold maxR at hq; rw [g'] at hq; exact hq
  · have g' : maxOk sx l = true := g
    unfold maxR at hq; rw [g', if_pos rfl] at hq
    have ⟨hL, hc, he⟩ := maxOk_of g'
    exact eMaximal_ok hL hc he hq
theorem iMax_ok {sx : List Variable} {l : List Edit} {Q : List Edit → Bool → Prop} (hw : Wide sx l) (hq : Q (maxR sx l) (maxOk sx l)) : impl_MaximalEdits sx l Q := by
  unfold impl_MaximalEdits
  refine jn_bool (!maxOk sx l) ?_ fun k hk => isSmall_ok hw.1.1 (br_nb (fun g => ?_) (fun g => areEdits_ok (smOk_of g).1 hw.2.2 ?_))
  · refine br_nb (fun g => ?_) (fun g => ?_)
    · unfold maxR at hq; rw [g] at hq; exact hq
    · unfold maxR at hq
      rw [g, if_pos rfl] at hq
      have ⟨hL, hc, he⟩ := maxOk_of g
      exact maximalEdits_ok hL hc he hq
  · unfold maxOk at hk; rw [g] at hk; exact hk
  · unfold maxOk at hk; rw [g, Bool.true_and] at hk; exact hk
theorem maxR_len {sx : List Variable} {l : List Edit} : (maxR sx l).length ≤ 1048576 ∧ ∀ e ∈ maxR sx l, e.Sets.length ≤ 1048576 := by
  unfold maxR
  split
  · rename_i g
    have ⟨hL, hc, _⟩ := maxOk_of g
    have ⟨h1, h2⟩ := maxE_len (l := l) (v := -1) hL hc
    exact ⟨by omega, fun e he => by have := h2 e he; omega⟩
  · exact ⟨by simp, fun e he => by simp at he⟩
end Go.Proofs.Ytdaojggigfnnpaa
