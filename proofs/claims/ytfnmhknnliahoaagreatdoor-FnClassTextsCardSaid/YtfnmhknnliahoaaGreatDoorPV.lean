/- Plain facts about lists of variables and of edits, as the laws handle them. -/
import Derived.Test.YtfnmhknnliahoaaGreatDoorPB
set_option linter.unusedVariables false
set_option autoImplicit false
namespace Go.Proofs.YtfnmhknnliahoaaGreatDoor
open Go Go.RowKit Go.Gv
theorem jn_ok {κ:Type} {f:κ→Prop} {k:κ} (P:κ→Prop) (h:P k) (hf:∀ k',P k'→f k'):jn f k:=hf k h
theorem streq_eq {a b:ByteArray}:streq a b=decide (a=b):=by
  unfold streq
  by_cases h:a=b
  · subst h; simp
  · rw [decide_eq_false h,beq_eq_false_iff_ne]
    intro e; apply h
    have:=congrArg List.toArray e
    have h1:∀ c:ByteArray,c.toList=c.data.toList:=fun c=>by
      unfold ByteArray.toList
      have key:∀ (n i:Nat) (r:List UInt8),c.size-i=n→ByteArray.toList.loop c i r=r.reverse++c.data.toList.drop i:=by
        intro n
        induction n with
        | zero =>
          intro i r hn
          unfold ByteArray.toList.loop
          have:¬ i<c.size:=by omega
          rw [if_neg this,List.drop_eq_nil_of_le (by simpa using (by omega:c.size≤i)),List.append_nil]
        | succ n ih =>
          intro i r hn
          unfold ByteArray.toList.loop
          have hi:i<c.size:=by omega
          rw [if_pos hi,ih (i+1) _ (by omega)]
          have hi':i<c.data.toList.length:=by simpa using hi
          rw [List.drop_eq_getElem_cons hi',List.reverse_cons,List.append_assoc]
          congr 1
          simp only [List.singleton_append,List.cons.injEq,and_true]
          have hi2:i<c.data.size:=hi
          show c.get! i=_
          unfold ByteArray.get!
          simp
          exact getElem!_pos c.data i hi2
      have:=key (c.size-0) 0 [] rfl
      simpa using this
    rw [h1,h1] at e
    have:a.data=b.data:=Array.ext' e
    cases a; cases b; simp_all
instance:DecidableEq Variable:=fun a b=>if h:a.Name=b.Name∧a.Levels=b.Levels then .isTrue (by cases a; cases b; simp_all) else .isFalse (by rintro rfl; simp at h)
end Go.Proofs.YtfnmhknnliahoaaGreatDoor
