/- Plain facts about the small functions that the laws use: equality of lists, marks, loops. -/
import Derived.Test.YtbgnaamdlcggjaaGreatPDefs
import Derived.Test.YtbgnaamdlcggjaaGreatPL
set_option linter.unusedVariables false
set_option autoImplicit false
namespace Go.Proofs.YtbgnaamdlcggjaaGreat
open Go Go.RowKit Go.Gv
theorem l1In_ok {n lo hi:Int} {Q:Bool→Prop} (h:Q (decide (lo≤n)&&decide (n≤hi))):spec_l1In n lo hi Q:=by
  unfold spec_l1In
  refine br_of ?_
  split
  · rename_i h1
    have h1:lo≤n:=of_decide_eq_true h1
    simpa [h1] using h
  · rename_i h1
    have h1:¬ lo≤n:=fun c=>h1 (decide_eq_true c)
    simpa [h1] using h
theorem jn_bool {A:Type} {f:(A→Prop)→Prop} {k:A→Prop} (b:A) (h:k b) (hf:∀ k':A→Prop,k' b→f k'):jn f k:=hf k h
theorem det1_of {A:Type} {f:(A→Prop)→Prop} {k:A→Prop} (a:A) (h:f (fun x=>x=a)) (hk:k a):det1 f k:=⟨a,h,hk⟩
/-- A list filled from the front: the first i are done. -/
theorem set_done {α:Type} {xs ys:List α} {i:Nat} (hl:xs.length=ys.length) (hi:i<xs.length) (h:xs.take i=ys.take i):(xs.set i (ys[i]'(hl ▸ hi))).take (i+1)=ys.take (i+1):=by
  have hy:i<ys.length:=hl ▸ hi
  rw [List.take_succ_eq_append_getElem (by simpa using hi),List.take_succ_eq_append_getElem hy]
  simp only [List.getElem_set_self]
  congr 1
  rw [List.take_set,List.set_eq_of_length_le (by rw [List.length_take]; omega),h]
theorem eq_of_take {α:Type} {a b:List α} {n:Nat} (h:a.take n=b.take n) (ha:a.length=n) (hb:b.length=n):a=b:=by
  rw [← List.take_length (l:=a),← List.take_length (l:=b),ha,hb]; exact h
def inb (lo hi x:Int):Bool:=decide (lo≤x)&&decide (x≤hi)
theorem inb_iff' {lo hi x:Int}:inb lo hi x=true↔lo≤x∧x≤hi:=by simp [inb]
end Go.Proofs.YtbgnaamdlcggjaaGreat
