/- Plain facts about lists of fractions: validity, comparison, copies. -/
import Derived.Test.YtbgnaamdlcggjaaCsPure
set_option linter.unusedVariables false
set_option autoImplicit false
namespace Go.Proofs.Ytbgnaamdlcggjaa
open Go Go.RowKit Go.Gv
theorem szFracS_ok {a:List Frac} {left:Int} {Q:Int→Prop} (hw:a.length≤maxLen) (hl:0≤left∧left≤1048576) (h:∀ r,r≤left→(0≤r→a.length≤1048576)→Q r):laws_szFracS a left Q:=by
  unfold laws_szFracS
  have hm:a.length≤9223372036854775807:=hw
  rw [wr_in (by unfold ln; omega) (by unfold ln; omega)]
  refine br_dec (fun g=>h _ (by omega) (fun c=>by omega)) (fun g=>h _ (by unfold ln; omega) (fun _=>by unfold ln at g; omega))
theorem toFrac_ok {a:Frac} {Q:Frac→Prop} (h:Q a):laws_toFrac a Q:=h
theorem toFracS_ok {a:List Frac} {Q:List Frac→Prop} (hl:a.length≤1048576) (h:Q a):laws_toFracS a Q:=by
  unfold laws_toFracS
  refine ⟨by unfold ln; omega,by unfold ln; omega,?_⟩
  refine loop2_list (by omega) (fun out i=>out.length=a.length∧out.take i=a.take i) ⟨by simp,by simp⟩ (fun out i nx hi ⟨h1,h2⟩ hx=>idx_at hi (toFrac_ok ⟨by omega,by omega,?_⟩)) (fun out ⟨h1,h2⟩=>?_)
  · refine hx _ ⟨by simpa using h1,?_⟩
    exact set_done h1 (by omega) h2
  · rw [eq_of_take h2 h1 rfl]; exact h
def allF (l:List Frac):Bool:=l.all fun f=>decide (fOk f)
theorem allF_of {l:List Frac} (h:allF l=true):∀ f∈l,fOk f:=fun f hf=>of_decide_eq_true (List.all_eq_true.1 h f hf)
theorem allF_succ {l:List Frac} {i:Nat} (hi:i<l.length) (h:allF (l.take i)=true) (hp:decide (fOk l[i])=true):allF (l.take (i+1))=true:=by
  unfold allF at *
  rw [List.take_succ_eq_append_getElem hi,List.all_append,h]; simpa using hp
theorem allF_no {l:List Frac} {i:Nat} (hi:i<l.length) (hp:decide (fOk l[i])=false):allF l=false:=by
  unfold allF
  rw [List.all_eq_false]; exact ⟨l[i],List.getElem_mem hi,by simpa using hp⟩
theorem oFracs_ok {l:List Frac} {most:Int} {Q:Bool→Prop} (hl:l.length≤1048576) (h:Q (allF l&&decide ((l.length:Int)≤most))):spec_oFracs l most Q:=by
  unfold spec_oFracs
  refine loop1_list (by omega) (fun i=>allF (l.take i)=true) (by simp [allF]) (fun i nx hi hj hx=>idx_at hi (fGood_ok' (br_nb (fun g=>?_) (fun g=>hx (allF_succ hi hj g))))) (fun hj=>?_)
  · rw [allF_no hi g] at h; exact h
  · rw [List.take_length] at hj; rw [hj,Bool.true_and] at h; exact h
theorem areFracs_ok {l:List Frac} {Q:Bool→Prop} (hl:l.length≤1048576) (h:Q (allF l)):impl_areFracs l Q:=by
  unfold impl_areFracs
  refine loop1_list (by omega) (fun i=>allF (l.take i)=true) (by simp [allF]) (fun i nx hi hj hx=>idx_at hi (isFrac_ok (br_nb (fun g=>?_) (fun g=>hx (allF_succ hi hj g))))) (fun hj=>?_)
  · rw [allF_no hi g] at h; exact h
  · rw [List.take_length] at hj; rw [hj] at h; exact h
def cmpF (a b:Frac):Int:=if a.Num * b.Den<b.Num * a.Den then -1 else if a.Num * b.Den>b.Num * a.Den then 1 else 0
theorem cmpFrac_ok {a b:Frac} {Q:Int→Prop} (ha:fOk a) (hb:fOk b) (h:Q (cmpF a b)):impl_cmpFrac a b Q:=by
  obtain ⟨n1,n2,n3,n4,n5⟩:=nums ha hb
  unfold impl_cmpFrac
  rw [wr_in (x:=a.Num * b.Den) (by omega) (by omega),wr_in (x:=b.Num * a.Den) (by omega) (by omega)]
  unfold cmpF at h
  refine br_dec (fun g=>?_) (fun g=>br_dec (fun g2=>?_) (fun g2=>?_))
  · rw [if_pos g] at h; exact h
  · rw [if_neg g,if_pos g2] at h; exact h
  · rw [if_neg g,if_neg g2] at h; exact h
theorem fCmp_ok {a b:Frac} {Q:Int→Prop} (ha:fOk a) (hb:fOk b) (h:Q (cmpF a b)):spec_fCmp a b Q:=by
  obtain ⟨n1,n2,n3,n4,n5⟩:=nums ha hb
  unfold spec_fCmp spec_l1Sign
  rw [wr_in (x:=a.Num * b.Den) (by omega) (by omega),wr_in (x:=b.Num * a.Den) (by omega) (by omega),wr_in (x:=_-_) (by omega) (by omega)]
  unfold cmpF at h
  refine br_dec (fun g=>?_) (fun g=>br_dec (fun g2=>?_) (fun g2=>?_))
  · rw [if_pos (by omega)] at h; exact h
  · rw [if_neg (by omega),if_pos (by omega)] at h; exact h
  · rw [if_neg (by omega),if_neg (by omega)] at h; exact h
theorem cmpF_swap (a b:Frac):cmpF a b = -cmpF b a:=by unfold cmpF; split <;> split <;> (try split) <;> omega
end Go.Proofs.Ytbgnaamdlcggjaa
