/- The plain law of AnswerRange. -/
import Derived.Test.YtbgnaamdlcggjaaGreatRH
import Derived.Test.YtbgnaamdlcggjaaGreatRFPure
set_option linter.unusedVariables false
set_option autoImplicit false
namespace Go.Proofs.YtbgnaamdlcggjaaGreat
open Go Go.RowKit Go.Gv
abbrev dstp (am:List Int) (s:Int×Int) (x:List Int):Int×Int:=(mn s.1 (dot am x),mx s.2 (dot am x))
def rd (am:List Int):List (List Int)→Int×Int
  | []=>(0,0)
  | t :: r=>(t :: r).foldl (dstp am) (dot am t,dot am t)
end Go.Proofs.YtbgnaamdlcggjaaGreat
