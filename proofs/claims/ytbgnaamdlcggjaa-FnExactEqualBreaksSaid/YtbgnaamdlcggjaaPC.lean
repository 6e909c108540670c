/- Plain facts, further: copies, bounds, sums. -/
import Derived.Test.YtbgnaamdlcggjaaPB
set_option linter.unusedVariables false
set_option autoImplicit false
namespace Go.Proofs.Ytbgnaamdlcggjaa
open Go Go.RowKit Go.Gv
theorem jn_bool {A:Type} {f:(A→Prop)→Prop} {k:A→Prop} (b:A) (h:k b) (hf:∀ k':A→Prop,k' b→f k'):jn f k:=hf k h
theorem det1_of {A:Type} {f:(A→Prop)→Prop} {k:A→Prop} (a:A) (h:f (fun x=>x=a)) (hk:k a):det1 f k:=⟨a,h,hk⟩
/-- A list filled from the front: the first i are done. -/
theorem set_done {α:Type} {xs ys:List α} {i:Nat} (hl:xs.length=ys.length) (hi:i<xs.length) (h:xs.take i=ys.take i):(xs.set i (ys[i]'(hl ▸ hi))).take (i+1)=ys.take (i+1):=by
  have hy:i<ys.length:=hl ▸ hi
  rw [List.take_succ_eq_append_getElem (by simpa using hi),List.take_succ_eq_append_getElem hy]
  simp only [List.getElem_set_self]
  congr 1
  rw [List.take_set,List.set_eq_of_length_le (by rw [List.length_take]; omega),h]
theorem eq_of_take {α:Type} {a b:List α} {n:Nat} (h:a.take n=b.take n) (ha:a.length=n) (hb:b.length=n):a=b:=by
  rw [← List.take_length (l:=a),← List.take_length (l:=b),ha,hb]; exact h
def inb (lo hi x:Int):Bool:=decide (lo≤x)&&decide (x≤hi)
theorem inb_iff' {lo hi x:Int}:inb lo hi x=true↔lo≤x∧x≤hi:=by simp [inb]
end Go.Proofs.Ytbgnaamdlcggjaa
