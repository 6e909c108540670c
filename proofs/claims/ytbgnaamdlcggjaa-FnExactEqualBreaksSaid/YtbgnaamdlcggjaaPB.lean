/- Plain facts about the small functions that the laws use: equality of lists, marks, loops. -/
import Derived.Test.YtbgnaamdlcggjaaEDefs
import Derived.Test.YtbgnaamdlcggjaaPL
set_option linter.unusedVariables false
set_option autoImplicit false
namespace Go.Proofs.Ytbgnaamdlcggjaa
open Go Go.RowKit Go.Gv
theorem l1In_ok {n lo hi:Int} {Q:Bool→Prop} (h:Q (decide (lo≤n)&&decide (n≤hi))):spec_l1In n lo hi Q:=by
  unfold spec_l1In
  refine br_of ?_
  split
  · rename_i h1
    have h1:lo≤n:=of_decide_eq_true h1
    simpa [h1] using h
  · rename_i h1
    have h1:¬ lo≤n:=fun c=>h1 (decide_eq_true c)
    simpa [h1] using h
end Go.Proofs.Ytbgnaamdlcggjaa
