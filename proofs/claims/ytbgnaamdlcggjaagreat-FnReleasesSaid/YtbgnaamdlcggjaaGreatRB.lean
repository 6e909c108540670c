import Derived.Test.YtbgnaamdlcggjaaGreatRA
set_option linter.unusedVariables false
set_option autoImplicit false
namespace Go.Proofs.YtbgnaamdlcggjaaGreat
open Go Go.RowKit Go.Gv
end Go.Proofs.YtbgnaamdlcggjaaGreat
