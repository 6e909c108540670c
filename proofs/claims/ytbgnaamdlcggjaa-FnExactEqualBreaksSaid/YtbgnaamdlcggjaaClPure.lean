/- The plain law of 'FnExactClassOf': what the walk computes answers true, whatever the arguments. -/
import Derived.Test.YtbgnaamdlcggjaaCf
set_option linter.unusedVariables false
set_option autoImplicit false
namespace Go.Proofs.Ytbgnaamdlcggjaa
open Go Go.RowKit Go.Gv
def fAt (l:List Frac) (i:Nat):Frac:=l.getD i ⟨0,0⟩
theorem fAt_at {l:List Frac} {i:Nat} (h:i<l.length):fAt l i=l[i]:=by unfold fAt; simp [List.getD_eq_getElem?_getD,h]
end Go.Proofs.Ytbgnaamdlcggjaa
