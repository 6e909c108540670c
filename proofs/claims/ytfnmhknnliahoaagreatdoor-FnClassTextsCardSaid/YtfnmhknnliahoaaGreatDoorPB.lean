/- Plain facts about the small functions that the laws use: equality of lists, marks, loops. -/
import Derived.Test.YtfnmhknnliahoaaGreatDoorCDefs
import Derived.Test.YtfnmhknnliahoaaGreatDoorPL
set_option linter.unusedVariables false
set_option autoImplicit false
namespace Go.Proofs.YtfnmhknnliahoaaGreatDoor
open Go Go.RowKit Go.Gv
theorem l1In_ok {n lo hi:Int} {Q:Bool→Prop} (h:Q (decide (lo≤n)&&decide (n≤hi))):spec_l1In n lo hi Q:=by
  unfold spec_l1In
  refine br_of ?_
  split
  · rename_i h1
    have h1:lo≤n:=of_decide_eq_true h1
    simpa [h1] using h
  · rename_i h1
    have h1:¬ lo≤n:=fun c=>h1 (decide_eq_true c)
    simpa [h1] using h
theorem jn_bool {A:Type} {f:(A→Prop)→Prop} {k:A→Prop} (b:A) (h:k b) (hf:∀ k':A→Prop,k' b→f k'):jn f k:=hf k h
theorem det1_of {A:Type} {f:(A→Prop)→Prop} {k:A→Prop} (a:A) (h:f (fun x=>x=a)) (hk:k a):det1 f k:=⟨a,h,hk⟩
/-- A list filled from the front: the first i are done. -/
theorem set_done {α:Type} {xs ys:List α} {i:Nat} (hl:xs.length=ys.length) (hi:i<xs.length) (h:xs.take i=ys.take i):(xs.set i (ys[i]'(hl ▸ hi))).take (i+1)=ys.take (i+1):=by
  have hy:i<ys.length:=hl ▸ hi
  rw [List.take_succ_eq_append_getElem (by simpa using hi),List.take_succ_eq_append_getElem hy]
  simp only [List.getElem_set_self]
  congr 1
  rw [List.take_set,List.set_eq_of_length_le (by rw [List.length_take]; omega),h]
theorem eq_of_take {α:Type} {a b:List α} {n:Nat} (h:a.take n=b.take n) (ha:a.length=n) (hb:b.length=n):a=b:=by
  rw [← List.take_length (l:=a),← List.take_length (l:=b),ha,hb]; exact h
def inb (lo hi x:Int):Bool:=decide (lo≤x)&&decide (x≤hi)
theorem inb_iff' {lo hi x:Int}:inb lo hi x=true↔lo≤x∧x≤hi:=by simp [inb]
theorem all_take_succ {p:Int→Bool} {l:List Int} {i:Nat} (hi:i<l.length) (h:(l.take i).all p=true) (hp:p l[i]=true):(l.take (i+1)).all p=true:=by
  rw [List.take_succ_eq_append_getElem hi,List.all_append,h]; simp [hp]
theorem all_false {p:Int→Bool} {l:List Int} {i:Nat} (hi:i<l.length) (hp:p l[i]=false):l.all p=false:=by
  rw [List.all_eq_false]; exact ⟨l[i],List.getElem_mem hi,by simp [hp]⟩
theorem l1All_ok {l:List Int} {lo hi:Int} {Q:Bool→Prop} (hl:l.length≤1048576) (h:Q (l.all (inb lo hi))):spec_l1All l lo hi Q:=by
  unfold spec_l1All
  refine loop1_list (by omega) (fun i=>(l.take i).all (inb lo hi)=true) (by simp) (fun i nx hi' hj hx=>idx_at hi' (l1In_ok (br_nb (fun hb=>?_) (fun hb=>hx (all_take_succ hi' hj hb))))) (fun hj=>?_)
  · rw [all_false hi' hb] at h; exact h
  · rw [List.take_length] at hj; rw [hj] at h; exact h
theorem inb_all {l:List Int} {lo hi:Int} (h:l.all (inb lo hi)=true):∀ x∈l,lo≤x∧x≤hi:=fun x hx=>by
  have:=List.all_eq_true.1 h x hx
  simpa [inb] using this
end Go.Proofs.YtfnmhknnliahoaaGreatDoor
