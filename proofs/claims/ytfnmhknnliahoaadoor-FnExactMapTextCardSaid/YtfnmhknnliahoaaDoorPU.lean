/- Plain facts about tables: which are valid, how many cells they have. -/
import Derived.Test.YtfnmhknnliahoaaDoorPT
set_option linter.unusedVariables false
set_option autoImplicit false
namespace Go.Proofs.YtfnmhknnliahoaaDoor
open Go Go.RowKit Go.Gv
end Go.Proofs.YtfnmhknnliahoaaDoor
