/- The plain law of FnMending. -/
import Derived.Test.YtklajcbpnpkniaaMC
set_option linter.unusedVariables false
set_option autoImplicit false
namespace Go.Proofs.Ytklajcbpnpkniaa
open Go Go.RowKit Go.Gv

theorem qInts_same {l : List Int} {Q : Bool → Prop} (hl : l.length ≤ 1048576) (hq : Q true) : laws_qInts l l Q := by
  unfold laws_qInts
  refine br_false (by simp) (loop1_list (by omega) (fun _ => True) trivial (fun i nx hi _ hx => idx_at hi (idx_at hi (br_false (by simp) (hx trivial)))) (fun _ => hq))
theorem pass_in {sx : List Variable} {l : List Edit} {x : List Int} (hL : Lok sx) (hx : x ∈ pass sx l) : fitOk sx x = true ∧ Vok x ∧ x.length = sx.length ∧ failsB l x = false := by
  obtain ⟨i, hi, rfl⟩ := List.mem_map.1 hx
  have h := (List.mem_filter.1 hi).2
  exact ⟨vals_fitOk hL i, vals_ok i hL.2, vals_length sx i, by simpa using h⟩
end Go.Proofs.Ytklajcbpnpkniaa
