/- The search, for the closure impl_solutions_1_impl_ranges_1_impl_TypeRanges_1. -/
import Derived.Test.YtdgfkenlkpmlgaaGreatRA
set_option linter.unusedVariables false
set_option autoImplicit false
namespace Go.Proofs.YtdgfkenlkpmlgaaGreat
open Go Go.RowKit Go.Gv
end Go.Proofs.YtdgfkenlkpmlgaaGreat
