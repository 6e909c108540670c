/- The laws' own functions over lists of lists and lists of records. -/
import Derived.Test.YtfnmhknnliahoaaGreatDoorSA
set_option linter.unusedVariables false
set_option autoImplicit false
namespace Go.Proofs.YtfnmhknnliahoaaGreatDoor
open Go Go.RowKit Go.Gv
end Go.Proofs.YtfnmhknnliahoaaGreatDoor
