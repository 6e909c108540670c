/- Plain facts: what is valid, how many lists of values there are, which they are, which edits they fail. -/
import Derived.Test.YtfnmhknnliahoaaDoorPS
set_option linter.unusedVariables false
set_option autoImplicit false
namespace Go.Proofs.YtfnmhknnliahoaaDoor
open Go Go.RowKit Go.Gv
def gi (l:List Int) (i:Nat):Int:=l.getD i 0
theorem gi_at {l:List Int} {i:Nat} (h:i<l.length):gi l i=l[i]:=by unfold gi; simp [List.getD_eq_getElem?_getD,h]
end Go.Proofs.YtfnmhknnliahoaaDoor
