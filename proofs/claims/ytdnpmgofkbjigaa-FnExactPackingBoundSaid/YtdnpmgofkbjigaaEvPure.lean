/- The plain law of EliminateVariable, at arguments as they come in. -/
import Derived.Test.YtdnpmgofkbjigaaPK
set_option linter.unusedVariables false
set_option autoImplicit false
namespace Go.Proofs.Ytdnpmgofkbjigaa
open Go Go.RowKit Go.Gv
theorem wfV {aS : List Variable} (w : Wf.wf aS) : aS.length ≤ maxLen ∧ ∀ x ∈ aS, x.Name.size ≤ maxLen := ⟨w.1, fun x hx => (w.2 x hx).1⟩
theorem wfE {aL : List Edit} (w : Wf.wf aL) : aL.length ≤ maxLen ∧ ∀ x ∈ aL, x.Sets.length ≤ maxLen := ⟨w.1, fun x hx => (w.2 x hx).1⟩
theorem lawElim (aS : List Variable) (aL : List Edit) (aV : Int) (w0 : Wf.wf aS) (w1 : Wf.wf aL) (w2 : Wf.wf aV) : laws_FnExactEliminateVariable aS aL aV (fun r => r = true) :=
  lawEliminateVariable_ok (wfV w0) (wfE w1) rfl
end Go.Proofs.Ytdnpmgofkbjigaa
