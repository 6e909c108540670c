/- Plain facts about elimination, completions and smallest covers. -/
import Derived.Test.YtbgnaamdlcggjaaGreatPkPure
import Derived.Test.YtbgnaamdlcggjaaGreatNB
set_option linter.unusedVariables false
set_option autoImplicit false
namespace Go.Proofs.YtbgnaamdlcggjaaGreat
open Go Go.RowKit Go.Gv
theorem oth_len {sx:List Variable} {vars:List Int}:(oth sx vars).length≤sx.length:=by
  unfold oth
  rw [List.length_map]
  have:=List.length_filter_le (fun (i:Nat) => !hasB vars (i:Int)) (List.range sx.length)
  rwa [List.length_range] at this
theorem oth_at {sx:List Variable} {vars:List Int} {j:Nat} (hj:j<(oth sx vars).length):∃ i:Nat,(oth sx vars)[j]=(i:Int)∧i<sx.length:=by
  have:=List.getElem_mem hj
  unfold oth at this
  obtain ⟨i,hi,e⟩:=List.mem_map.1 this
  exact ⟨i,e.symm,List.mem_range.1 (List.mem_filter.1 hi).1⟩
end Go.Proofs.YtbgnaamdlcggjaaGreat
