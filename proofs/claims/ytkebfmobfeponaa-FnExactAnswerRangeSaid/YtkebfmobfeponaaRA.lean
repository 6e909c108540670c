/- Plain facts about published tables, marked. -/
import Derived.Test.YtkebfmobfeponaaQF
set_option linter.unusedVariables false
set_option autoImplicit false
namespace Go.Proofs.Ytkebfmobfeponaa
open Go Go.RowKit Go.Gv

end Go.Proofs.Ytkebfmobfeponaa
