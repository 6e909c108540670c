import Derived.Test.YtbgnaamdlcggjaaGreatRH
import Derived.Test.YtbgnaamdlcggjaaGreatRFPure
set_option linter.unusedVariables false
set_option autoImplicit false
namespace Go.Proofs.YtbgnaamdlcggjaaGreat
open Go Go.RowKit Go.Gv
abbrev FC1(am:List Int)(s:Int×Int)(x:List Int):Int×Int:=(mn s.1 (dot am x),mx s.2 (dot am x))
def rd(am:List Int):List (List Int)->Int×Int
  | []=>(0,0)
  | t :: r=>(t :: r).foldl (FC1 am) (dot am t,dot am t)
end Go.Proofs.YtbgnaamdlcggjaaGreat
