/- Plain facts about published tables, marked. -/
import Derived.Test.YtdgfkenlkpmlgaaGreatQF
set_option linter.unusedVariables false
set_option autoImplicit false
namespace Go.Proofs.YtdgfkenlkpmlgaaGreat
open Go Go.RowKit Go.Gv
end Go.Proofs.YtdgfkenlkpmlgaaGreat
