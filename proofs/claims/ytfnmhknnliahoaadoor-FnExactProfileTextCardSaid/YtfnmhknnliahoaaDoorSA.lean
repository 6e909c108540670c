/- Plain facts about surveys, and about the cells of tables. -/
import Derived.Test.YtfnmhknnliahoaaDoorPX
set_option linter.unusedVariables false
set_option autoImplicit false
namespace Go.Proofs.YtfnmhknnliahoaaDoor
open Go Go.RowKit Go.Gv
end Go.Proofs.YtfnmhknnliahoaaDoor
