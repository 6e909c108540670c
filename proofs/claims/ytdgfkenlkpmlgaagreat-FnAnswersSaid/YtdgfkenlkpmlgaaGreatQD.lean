/- Plain facts about attacks: the program's search. -/
import Derived.Test.YtdgfkenlkpmlgaaGreatQC
set_option linter.unusedVariables false
set_option autoImplicit false
namespace Go.Proofs.YtdgfkenlkpmlgaaGreat
open Go Go.RowKit Go.Gv
/-- The sums of what has been chosen. -/
def sumsOf (R:List (List Int×Int)) (pre:List Int):List Int:=R.map fun r=>dot r.1 pre
def cntOf (T:Nat) (pre:List Int):List Int:=pre++List.replicate (T-pre.length) 0
theorem cntOf_len {T:Nat} {pre:List Int} (h:pre.length≤T):(cntOf T pre).length=T:=by unfold cntOf; rw [List.length_append,List.length_replicate]; omega
theorem dot_snoc {am pre:List Int} {n:Int} (h:pre.length<am.length):dot am (pre++[n])=dot am pre+am[pre.length] * n:=by
  rw [dot_append (by omega),List.drop_eq_getElem_cons h]
  simp only [dot,dot_nil]; omega
theorem cntOf_set {T:Nat} {pre:List Int} {n:Int} (h:pre.length<T):(cntOf T pre).set pre.length n=cntOf T (pre++[n]):=by
  unfold cntOf
  obtain ⟨m,hm⟩:∃ m,T-pre.length=m+1:=⟨T-pre.length-1,by omega⟩
  rw [hm,List.replicate_succ,List.set_append_right _ _ (Nat.le_refl _),Nat.sub_self,List.set_cons_zero,List.append_assoc]
  congr 2
  simp; omega
theorem cntOf_back {T:Nat} {pre:List Int} {n:Int} (h:pre.length<T):(cntOf T (pre++[n])).set pre.length 0=cntOf T pre:=by
  rw [← cntOf_set h,List.set_set]
  unfold cntOf
  obtain ⟨m,hm⟩:∃ m,T-pre.length=m+1:=⟨T-pre.length-1,by omega⟩
  rw [hm,List.replicate_succ,List.set_append_right _ _ (Nat.le_refl _),Nat.sub_self,List.set_cons_zero]
theorem cntOf_at {T:Nat} {pre:List Int} (h:pre.length<T):(cntOf T pre)[pre.length]'(by rw [cntOf_len (by omega)]; exact h)=0:=by
  unfold cntOf
  rw [List.getElem_append_right (Nat.le_refl _)]
  simp
theorem cntOf_at' {T:Nat} {pre:List Int} {n:Int} (h:pre.length<T):(cntOf T (pre++[n]))[pre.length]'(by rw [cntOf_len (by simp; omega)]; exact h)=n:=by
  unfold cntOf
  rw [List.getElem_append_left (by simp)]
  simp
end Go.Proofs.YtdgfkenlkpmlgaaGreat
