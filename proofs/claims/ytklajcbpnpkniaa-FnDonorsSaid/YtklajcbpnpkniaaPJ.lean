/- Plain facts: the searches for maximal edits. -/
import Derived.Test.YtklajcbpnpkniaaPI
set_option linter.unusedVariables false
set_option autoImplicit false
namespace Go.Proofs.Ytklajcbpnpkniaa
open Go Go.RowKit Go.Gv

theorem jn_bool2 {A B : Type} {f : (A → B → Prop) → Prop} {k : A → B → Prop} (a : A) (b : B) (h : k a b) (hf : ∀ k' : A → B → Prop, k' a b → f k') : jn f k := hf k h
end Go.Proofs.Ytklajcbpnpkniaa
