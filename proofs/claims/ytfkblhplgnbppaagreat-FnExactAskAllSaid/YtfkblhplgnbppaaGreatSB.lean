/- The laws' own functions over lists of lists and lists of records. -/
import Derived.Test.YtfkblhplgnbppaaGreatSA
set_option linter.unusedVariables false
set_option autoImplicit false
namespace Go.Proofs.YtfkblhplgnbppaaGreat
open Go Go.RowKit Go.Gv
def smR (l:List Record):Prop:=l.length≤1048576∧∀ r∈l,r.Values.length≤1048576
theorem szI_ok {a:List Int} {left:Int} {Q:Int→Prop} (hw:a.length≤maxLen) (hl:0≤left∧left≤1048576) (h:∀ r,r≤left→(0≤r→a.length≤1048576)→Q r):laws_szIntS a left Q:=by
  unfold laws_szIntS
  have hw1:(a.length:Int)≤9223372036854775807:=by simp only [maxLen] at hw; omega
  rw [wr_in (x:=left-ln a) (by unfold ln; omega) (by unfold ln; omega)]
  refine br_dec (fun g=>h _ (by omega) (fun c=>by omega)) (fun g=>h _ (by unfold ln; omega) (fun c=>by unfold ln at g; omega))
theorem szG_ok {a:Geo} {left:Int} {Q:Int→Prop} (hw:a.Parents.length≤maxLen) (hl:0≤left∧left≤1048576) (h:∀ r,r≤left→(0≤r→a.Parents.length≤1048576)→Q r):laws_szGeo a left Q:=by
  unfold laws_szGeo
  exact szI_ok hw hl fun r h1 h2=>br_dec (fun g=>h _ (by omega) (fun c=>by omega)) (fun g=>h _ h1 h2)
theorem toG_ok {a:Geo} {Q:Geo→Prop} (hl:a.Parents.length≤1048576) (h:Q a):laws_toGeo a Q:=toIntS_ok hl h
theorem eqG_same {a:Geo} {Q:Bool→Prop} (hl:a.Parents.length≤1048576) (h:Q true):laws_eqGeo a a Q:=by
  unfold laws_eqGeo
  exact eqIntS_same hl (br_false rfl h)
theorem szT_ok {t:Table} {left:Int} {Q:Int→Prop} (h1:t.Vars.length≤maxLen) (h2:t.Where.length≤maxLen) (hl:0≤left∧left≤1048576) (h:∀ r,r≤left→(0≤r→t.Vars.length≤1048576∧t.Where.length≤1048576)→Q r):laws_szTable t left Q:=by
  unfold laws_szTable
  refine szI_ok h1 hl fun r1 a1 b1=>br_dec (fun g=>h _ (by omega) (fun c=>by omega)) (fun g=>?_)
  refine szI_ok h2 (by omega) fun r2 a2 b2=>br_dec (fun g2=>h _ (by omega) (fun c=>by omega)) (fun g2=>h _ (by omega) fun _=>⟨b1 (by omega),b2 (by omega)⟩)
theorem toT_ok {t:Table} {Q:Table→Prop} (h1:t.Vars.length≤1048576) (h2:t.Where.length≤1048576) (h:Q t):laws_toTable t Q:=toIntS_ok h1 (toIntS_ok h2 h)
theorem eqT_same {t:Table} {Q:Bool→Prop} (h1:t.Vars.length≤1048576) (h2:t.Where.length≤1048576) (h:Q true):laws_eqTable t t Q:=by
  unfold laws_eqTable
  exact br_false (by simp) (eqIntS_same h1 (br_false rfl (eqIntS_same h2 (br_false rfl (br_false (by simp) h)))))
theorem szR_ok {r:Record} {left:Int} {Q:Int→Prop} (hw:r.Values.length≤maxLen) (hl:0≤left∧left≤1048576) (h:∀ n,n≤left→(0≤n→r.Values.length≤1048576)→Q n):laws_szRecord r left Q:=by
  unfold laws_szRecord
  refine szI_ok hw hl fun r1 a1 b1=>br_dec (fun g=>h _ (by omega) (fun c=>by omega)) (fun g=>h _ a1 b1)
/-- The loop over a list that is counted. -/
theorem szL_ok {α:Type} {a:List α} {C:α→Int→(Int→Prop)→Prop} {W S:α→Prop} (hC:∀ x,W x→∀ left (Q:Int→Prop),0≤left∧left≤1048576→(∀ n,n≤left→(0≤n→S x)→Q n)→C x left Q)
    {left:Int} {Q:Int→Prop} (hw:a.length≤maxLen∧∀ x∈a,W x) (hl:0≤left∧left≤1048576) (h:∀ n,n≤left→(0≤n→a.length≤1048576∧∀ x∈a,S x)→Q n) :
    br (decide ((wr (left-(ln a)))<0)) (Q ((-1)))<|Loop2 (fun (left2:Int) (i:Int) nx=>br (decide (i<(ln a))) (idx a i fun x=>C x left2 fun r14=>br (decide (r14<0)) (Q ((-1)))<|nx r14 (wr (i+1)))<|Q left2) (wr (left-(ln a))) 0:=by
  have hw1:(a.length:Int)≤9223372036854775807:=by have:=hw.1; simp only [maxLen] at this; omega
  rw [wr_in (x:=left-ln a) (by unfold ln; omega) (by unfold ln; omega)]
  refine br_dec (fun g=>h _ (by omega) (fun c=>by omega)) (fun g=>?_)
  have hlen:a.length≤1048576:=by unfold ln at g; omega
  refine ⟨fun l i=>l≤left∧0≤l∧0≤i∧i≤a.length∧∀ j,(hj:j<a.length)→j<i.toNat→S a[j],fun _ i=>((a.length:Int)-i).toNat,⟨by unfold ln; omega,by omega,by omega,by omega,fun j hj h=>by simp at h⟩,fun l i ⟨h1,h2,h3,h4,h5⟩=>br_dec (fun g2=>?_) (fun g2=>h l h1 fun _=>⟨hlen,fun x hx=>?_⟩)⟩
  · have hi:i.toNat<a.length:=by unfold ln at g2; omega
    refine idx_of h3 hi (hC _ (hw.2 _ (List.getElem_mem hi)) l _ (by omega) fun r a1 b1=>br_dec (fun g3=>h _ (by omega) (fun c=>by omega)) (fun g3=>?_))
    rw [wr_in (x:=i+1) (by omega) (by omega)]
    refine ⟨⟨by omega,by omega,by omega,by omega,fun j hj hji=>?_⟩,?_⟩
    · by_cases e:j=i.toNat
      · subst e; exact b1 (by omega)
      · exact h5 j hj (by omega)
    · show ((a.length:Int)-(i+1)).toNat<((a.length:Int)-i).toNat
      omega
  · obtain ⟨j,hj,rfl⟩:=List.mem_iff_getElem.1 hx
    exact h5 j hj (by unfold ln at g2; omega)
theorem szRecordS_ok {a:List Record} {left:Int} {Q:Int→Prop} (hw:a.length≤maxLen∧∀ r∈a,r.Values.length≤maxLen) (hl:0≤left∧left≤1048576) (h:∀ n,n≤left→(0≤n→smR a)→Q n):laws_szRecordS a left Q :=
  szL_ok (C:=laws_szRecord) (fun x hx l Q h1 h2=>szR_ok hx h1 h2) hw hl h
theorem setDone {α:Type} {a b:List α} {i:Nat} {x:α} (hl:a.length=b.length) (hi:i<b.length) (h:a.take i=b.take i) (hx:b[i]=x):(a.set i x).take (i+1)=b.take (i+1):=by
  rw [List.take_set,List.take_add_one,List.getElem?_eq_getElem (by omega:i<a.length),List.take_add_one,List.getElem?_eq_getElem hi,h]
  have e:(b.take i).length=i:=by rw [List.length_take]; omega
  rw [List.set_append_right _ _ (by omega),e,Nat.sub_self,hx]; rfl
/-- The loop that copies a list. -/
theorem toL_ok {α:Type} {a:List α} {z:α} {C:α→(α→Prop)→Prop} {S:α→Prop} {b:Int} (hC:∀ x,S x→∀ Q:α→Prop,Q x→C x Q) {Q:List α→Prop} (hb:0≤b∧b≤1000) (hl:a.length≤1048576∧∀ x∈a,S x) (h:Q a) :
    (0:Int)≤(ln a)∧b * (ln a)≤140737488355328∧(Loop2 (fun (out:List α) (i:Int) nx=>br (decide (i<(ln a))) (idx a i fun x=>C x fun r=>(0:Int)≤i∧Int.toNat i<List.length out∧(nx (List.set out (Int.toNat i) r) (wr (i+1))))<|Q out) (List.replicate (Int.toNat (ln a)) z) 0):=by
  have hl1:=hl.1
  have hm:b * (ln a)≤1000 * (ln a):=Int.mul_le_mul_of_nonneg_right hb.2 (by unfold ln; omega)
  refine ⟨by unfold ln; omega,by unfold ln at hm ⊢; omega,?_⟩
  refine loop2_list (by omega) (fun out i=>out.length=a.length∧out.take i=a.take i) ⟨by simp,by simp⟩ (fun out i nx hi ⟨h1,h2⟩ hx=>idx_at hi (hC _ (hl.2 _ (List.getElem_mem hi)) _ ?_)) (fun out ⟨h1,h2⟩=>?_)
  · refine ⟨by omega,by omega,?_⟩
    exact hx _ ⟨by simpa using h1,setDone h1 hi h2 rfl⟩
  · have:out=a:=by rw [← List.take_length (l:=out),h1,h2,List.take_length]
    rw [this]; exact h
theorem toRecord_ok {r:Record} {Q:Record→Prop} (hl:r.Values.length≤1048576) (h:Q r):laws_toRecord r Q:=by
  unfold laws_toRecord
  exact toIntS_ok hl h
theorem toRecordS_ok {a:List Record} {Q:List Record→Prop} (hl:smR a) (h:Q a):laws_toRecordS a Q :=
  toL_ok (C:=laws_toRecord) (fun x hx Q h=>toRecord_ok hx h) (by omega) hl h
theorem eqRecordS_same {a:List Record} {Q:Bool→Prop} (hl:smR a) (h:Q true):laws_eqRecordS a a Q:=by
  have h1:=hl.1
  unfold laws_eqRecordS
  refine br_false (by simp) (loop1_list (by omega) (fun _=>True) trivial (fun i nx hi _ hx=>idx_at hi (idx_at hi ?_)) fun _=>h)
  refine ⟨true,?_,br_false rfl (hx trivial)⟩
  unfold laws_eqRecord
  exact br_false (by simp) (br_false (by simp) (eqIntS_same (hl.2 _ (List.getElem_mem hi)) (br_false rfl rfl)))
theorem idxSet {α:Type} {xs:List α} {i:Int} {y:α} {K:α→Prop} (h0:0≤i) (hi:i.toNat<xs.length) (h:K y):idx (xs.set i.toNat y) i K :=
  ⟨y,h0,by rw [List.getElem?_set_self hi],h⟩
end Go.Proofs.YtfkblhplgnbppaaGreat
