/- The laws' own functions over lists of lists and lists of records. -/
import Derived.Test.YtbgnaamdlcggjaaGreatSA
set_option linter.unusedVariables false
set_option autoImplicit false
namespace Go.Proofs.YtbgnaamdlcggjaaGreat
open Go Go.RowKit Go.Gv
def smR (l:List Record):Prop:=l.length≤1048576∧∀ r∈l,r.Values.length≤1048576
def smRR (l:List (List Record)):Prop:=l.length≤1048576∧∀ x∈l,smR x
theorem setDone {α:Type} {a b:List α} {i:Nat} {x:α} (hl:a.length=b.length) (hi:i<b.length) (h:a.take i=b.take i) (hx:b[i]=x):(a.set i x).take (i+1)=b.take (i+1):=by
  rw [List.take_set,List.take_add_one,List.getElem?_eq_getElem (by omega:i<a.length),List.take_add_one,List.getElem?_eq_getElem hi,h]
  have e:(b.take i).length=i:=by rw [List.length_take]; omega
  rw [List.set_append_right _ _ (by omega),e,Nat.sub_self,hx]; rfl
end Go.Proofs.YtbgnaamdlcggjaaGreat
