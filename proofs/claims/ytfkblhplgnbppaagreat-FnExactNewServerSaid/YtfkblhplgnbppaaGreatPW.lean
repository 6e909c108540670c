/- Plain facts about cells: where a record of a survey counts, and how much. -/
import Derived.Test.YtfkblhplgnbppaaGreatPU
set_option linter.unusedVariables false
set_option autoImplicit false
namespace Go.Proofs.YtfkblhplgnbppaaGreat
open Go Go.RowKit Go.Gv
def fitV (sx:List Variable) (vs:List Int):Prop:=vs.length=sx.length∧∀ i,i<sx.length→0≤gi vs i∧gi vs i<(lv (vAt sx i):Int)
end Go.Proofs.YtfkblhplgnbppaaGreat
