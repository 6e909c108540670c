/- The search, for the closure impl_solutions_1_impl_ranges_1_impl_AnswerRange_1. -/
import Derived.Test.YtbgnaamdlcggjaaGreatQGPure
set_option linter.unusedVariables false
set_option autoImplicit false
namespace Go.Proofs.YtbgnaamdlcggjaaGreat
open Go Go.RowKit Go.Gv
end Go.Proofs.YtbgnaamdlcggjaaGreat
