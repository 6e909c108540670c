/- Plain facts about lists of variables and of edits, as the laws handle them. -/
import Derived.Test.YtfnmhknnliahoaaDoorPB
set_option linter.unusedVariables false
set_option autoImplicit false
namespace Go.Proofs.YtfnmhknnliahoaaDoor
open Go Go.RowKit Go.Gv
theorem streq_eq {a b:ByteArray}:streq a b=decide (a=b):=by
  unfold streq
  by_cases h:a=b
  · subst h; simp
  · rw [decide_eq_false h,beq_eq_false_iff_ne]
    intro e; apply h
    have:=congrArg List.toArray e
    have h1:∀ c:ByteArray,c.toList=c.data.toList:=fun c=>by
      unfold ByteArray.toList
      have key:∀ (n i:Nat) (r:List UInt8),c.size-i=n→ByteArray.toList.loop c i r=r.reverse++c.data.toList.drop i:=by
        intro n
        induction n with
        | zero =>
          intro i r hn
          unfold ByteArray.toList.loop
          have:¬ i<c.size:=by omega
          rw [if_neg this,List.drop_eq_nil_of_le (by simpa using (by omega:c.size≤i)),List.append_nil]
        | succ n ih =>
          intro i r hn
          unfold ByteArray.toList.loop
          have hi:i<c.size:=by omega
          rw [if_pos hi,ih (i+1) _ (by omega)]
          have hi':i<c.data.toList.length:=by simpa using hi
          rw [List.drop_eq_getElem_cons hi',List.reverse_cons,List.append_assoc]
          congr 1
          simp only [List.singleton_append,List.cons.injEq,and_true]
          have hi2:i<c.data.size:=hi
          show c.get! i=_
          unfold ByteArray.get!
          simp
          exact getElem!_pos c.data i hi2
      have:=key (c.size-0) 0 [] rfl
      simpa using this
    rw [h1,h1] at e
    have:a.data=b.data:=Array.ext' e
    cases a; cases b; simp_all
instance:DecidableEq Variable:=fun a b=>if h:a.Name=b.Name∧a.Levels=b.Levels then .isTrue (by cases a; cases b; simp_all) else .isFalse (by rintro rfl; simp at h)
theorem szVariableS_ok {a:List Variable} {left:Int} {Q:Int→Prop} (hw:a.length≤maxLen∧∀ x∈a,x.Name.size≤maxLen) (hl:0≤left∧left≤1048576)
    (h:∀ r,r≤left→(0≤r→a.length≤1048576∧∀ x∈a,x.Name.size≤1048576)→Q r):laws_szVariableS a left Q:=by
  unfold laws_szVariableS
  have hw1:(a.length:Int)≤9223372036854775807:=by have:=hw.1; simp only [maxLen] at this; omega
  rw [wr_in (x:=left-ln a) (by unfold ln; omega) (by unfold ln; omega)]
  refine br_dec (fun g=>h _ (by omega) (fun c=>by omega)) (fun g=>?_)
  have hlen:a.length≤1048576:=by unfold ln at g; omega
  refine ⟨fun l i=>l≤left∧0≤l∧0≤i∧i≤a.length∧∀ j,(hj:j<a.length)→j<i.toNat→a[j].Name.size≤1048576,fun _ i=>((a.length:Int)-i).toNat,⟨by unfold ln; omega,by omega,by omega,by omega,fun j hj h=>by simp at h⟩,fun l i ⟨h1,h2,h3,h4,h5⟩=>br_dec (fun g2=>?_) (fun g2=>h l h1 fun _=>⟨hlen,fun x hx=>?_⟩)⟩
  · have hi:i.toNat<a.length:=by unfold ln at g2; omega
    refine idx_of h3 hi ?_
    unfold laws_szVariable
    have hs:(a[i.toNat].Name.size:Int)≤9223372036854775807:=by have:=hw.2 _ (List.getElem_mem hi); simp only [maxLen] at this; omega
    rw [wr_in (x:=l-sln a[i.toNat].Name) (by unfold sln; omega) (by unfold sln; omega)]
    refine br_dec (fun g3=>br_yes (by omega) (h _ (by omega) (fun c=>by omega))) (fun g3=>br_no g3 ?_)
    rw [wr_in (x:=i+1) (by omega) (by omega)]
    refine ⟨⟨by unfold sln; omega,by omega,by omega,by omega,fun j hj hji=>?_⟩,?_⟩
    · by_cases e:j=i.toNat
      · subst e; unfold sln at g3; omega
      · exact h5 j hj (by omega)
    · show ((a.length:Int)-(i+1)).toNat<((a.length:Int)-i).toNat
      omega
  · obtain ⟨j,hj,rfl⟩:=List.mem_iff_getElem.1 hx
    exact h5 j hj (by unfold ln at g2; omega)
theorem toVariableS_ok {a:List Variable} {Q:List Variable→Prop} (hl:a.length≤1048576) (h:Q a):laws_toVariableS a Q:=by
  unfold laws_toVariableS
  refine ⟨by unfold ln; omega,by unfold ln; omega,?_⟩
  refine loop2_list (by omega) (fun out i=>out.length=a.length∧out.take i=a.take i) ⟨by simp,by simp⟩ (fun out i nx hi ⟨h1,h2⟩ hx=>idx_at hi ?_) (fun out ⟨h1,h2⟩=>?_)
  · unfold laws_toVariable
    refine ⟨by omega,by omega,?_⟩
    exact hx _ ⟨by simpa using h1,set_done h1 (by omega) h2⟩
  · have:out=a:=by rw [← List.take_length (l:=out),h1,h2,List.take_length]
    rw [this]; exact h
theorem eqIntS_same {a:List Int} {Q:Bool→Prop} (hl:a.length≤1048576) (h:Q true):laws_eqIntS a a Q:=eqIntS_ok (by omega) (by simpa using h)
theorem eqVariableS_same {a:List Variable} {Q:Bool→Prop} (hl:a.length≤1048576) (h:Q true):laws_eqVariableS a a Q:=by
  unfold laws_eqVariableS
  refine br_false (by simp) (loop1_list (by omega) (fun _=>True) trivial (fun i nx hi _ hx=>idx_at hi (idx_at hi ?_)) fun _=>h)
  refine ⟨true,?_,br_false rfl (hx trivial)⟩
  unfold laws_eqVariable
  exact br_false (by simp [streq_eq]) (br_false (by simp) rfl)
end Go.Proofs.YtfnmhknnliahoaaDoor
