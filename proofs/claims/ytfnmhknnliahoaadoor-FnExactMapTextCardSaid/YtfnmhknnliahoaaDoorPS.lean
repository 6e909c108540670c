/- Plain facts about schemas, values and edits: which are valid, what is at an index, which fail. -/
import Derived.Test.YtfnmhknnliahoaaDoorPV
set_option linter.unusedVariables false
set_option autoImplicit false
namespace Go.Proofs.YtfnmhknnliahoaaDoor
open Go Go.RowKit Go.Gv
def low (c:Int):Bool:=decide (97≤c)&&decide (c≤122)
theorem range_all_succ {p:Nat→Bool} {i:Nat} (h:(List.range i).all p=true) (hp:p i=true):(List.range (i+1)).all p=true:=by
  rw [List.range_succ,List.all_append,h]; simp [hp]
theorem range_all_no {p:Nat→Bool} {i n:Nat} (hi:i<n) (hp:p i=false):(List.range n).all p=false:=by
  rw [List.all_eq_false]; exact ⟨i,List.mem_range.2 hi,by simp [hp]⟩
theorem range_all_at {p:Nat→Bool} {i n:Nat} (h:(List.range n).all p=true) (hi:i<n):p i=true:=List.all_eq_true.1 h i (List.mem_range.2 hi)
end Go.Proofs.YtfnmhknnliahoaaDoor
