/- Plain facts about cells: where a record of a survey counts, and how much. -/
import Derived.Test.YtfnmhknnliahoaaDoorPU
set_option linter.unusedVariables false
set_option autoImplicit false
namespace Go.Proofs.YtfnmhknnliahoaaDoor
open Go Go.RowKit Go.Gv
end Go.Proofs.YtfnmhknnliahoaaDoor
