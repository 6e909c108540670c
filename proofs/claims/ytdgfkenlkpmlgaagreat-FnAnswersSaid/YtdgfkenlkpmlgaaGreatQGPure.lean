/- The plain law of CountSurveys. -/
import Derived.Test.YtdgfkenlkpmlgaaGreatQF
set_option linter.unusedVariables false
set_option autoImplicit false
namespace Go.Proofs.YtdgfkenlkpmlgaaGreat
open Go Go.RowKit Go.Gv
def askB (p:List Int) (sx:List Variable) (l:List Published) (n:Int):Bool:=attOk p sx l&&inb 0 8 n
structure WD (p:List Int) (sx:List Variable) (l:List Published):Prop where
  p:p.length≤1048576
  s:sx.length≤1048576∧∀ x∈sx,x.Name.size≤1048576
  b:Wp l
end Go.Proofs.YtdgfkenlkpmlgaaGreat
