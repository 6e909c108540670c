/- The plain law of MaximalEdits. -/
import Derived.Test.YtbgnaamdlcggjaaGreatEvPure
set_option linter.unusedVariables false
set_option autoImplicit false
namespace Go.Proofs.YtbgnaamdlcggjaaGreat
open Go Go.RowKit Go.Gv
def maxOk (sx:List Variable) (l:List Edit):Bool:=smOk sx&&lOk sx l
theorem maxOk_of {sx:List Variable} {l:List Edit} (g:maxOk sx l=true):Lok sx∧cnt sx≤100∧Eok sx.length l:=by
  unfold maxOk at g
  simp only [Bool.and_eq_true] at g
  have ⟨hL,hc,_⟩:=smOk_of g.1
  exact ⟨hL,hc,Eok_of hL g.2⟩
end Go.Proofs.YtbgnaamdlcggjaaGreat
