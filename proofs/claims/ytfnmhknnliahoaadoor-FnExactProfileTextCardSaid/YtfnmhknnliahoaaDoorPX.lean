/- Plain facts about cells: both programs put a record into the same cell, with the same amount. -/
import Derived.Test.YtfnmhknnliahoaaDoorPW
set_option linter.unusedVariables false
set_option autoImplicit false
namespace Go.Proofs.YtfnmhknnliahoaaDoor
open Go Go.RowKit Go.Gv
end Go.Proofs.YtfnmhknnliahoaaDoor
