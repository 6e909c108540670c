/- The plain law of EditsOnly. -/
import Derived.Test.YtdaojggigfnnpaaMxPure
set_option linter.unusedVariables false
set_option autoImplicit false
namespace Go.Proofs.Ytdaojggigfnnpaa
open Go Go.RowKit Go.Gv

/-! ### lists of variables -/
/-! ### who is involved -/
/-! ### EditsOnly -/
end Go.Proofs.Ytdaojggigfnnpaa
