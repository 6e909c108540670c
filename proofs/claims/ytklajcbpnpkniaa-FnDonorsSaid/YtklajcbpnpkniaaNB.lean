/- Plain facts about implied edits and resolvents. -/
import Derived.Test.YtklajcbpnpkniaaIcPure
import Derived.Test.YtklajcbpnpkniaaNA
set_option linter.unusedVariables false
set_option autoImplicit false
namespace Go.Proofs.Ytklajcbpnpkniaa
open Go Go.RowKit Go.Gv

/-! ### what is implied -/
/-! ### maximal edits are implied, and imply the list -/
/-! ### resolvents -/
end Go.Proofs.Ytklajcbpnpkniaa
