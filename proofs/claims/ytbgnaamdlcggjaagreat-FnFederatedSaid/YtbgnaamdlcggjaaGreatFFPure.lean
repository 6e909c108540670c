/- The plain law of 'FnFederated': what the walk computes answers true, whatever the bytes. -/
import Derived.Test.YtbgnaamdlcggjaaGreatFE
set_option linter.unusedVariables false
set_option autoImplicit false
namespace Go.Proofs.YtbgnaamdlcggjaaGreat
open Go Go.RowKit Go.Gv
theorem jn_prop {f:Prop→Prop} {k:Prop} (h:k) (hf:∀ K:Prop,K→f K):jn f k:=hf k h
theorem drawFed_ok {code:List B8} {Q:Geo→List Variable→Table→List (List Record)→List (List Int)→Int→Int→Prop} (hc:bytesOk code) (h:∀ p sx t l s r m,WS p sx t l→small s→Q ⟨p⟩ sx t l s r m):spec_DrawFederatedCells code Q:=by
  unfold spec_DrawFederatedCells
  refine drawSites_ok hc fun p sx t l w hl=>?_
  dsimp only
  refine jn_ok3 (fun n a' s'=>(1≤n∧n≤10)∧0≤a'∧a'≤10) (fun n a' s' ⟨⟨h1,h2⟩,h3,h4⟩=>?_) fun k hk=>?_
  · exact pairSeeds_ok hc ⟨h1,h2⟩ (by omega) fun o a2 s2 o1 o2 b0 b1=>pick_ok hc (by unfold atOk; omega) fun i a3 s3 _ _ _ c0 c1=>modulus_ok hc (by unfold atOk; omega) fun m a6 s6 m0 m1 _ _=>h _ _ _ _ _ _ _ w ⟨by omega,fun r hr=>by have:=o2 r hr; omega⟩
  · refine one_ok hc (by unfold atOk; omega) fun b a' s' u0 u1=>br_bo (fun _=>hk _ _ _ ⟨?_,u0,by omega⟩) (fun _=>hk _ _ _ ⟨by unfold ln; omega,u0,by omega⟩)
    rw [wr_in (by unfold ln; omega) (by unfold ln; omega)]; unfold ln; omega
theorem drawShare_ok {code:List B8} {Q:List (List Int)→Int→Int→Int→List Int→Prop} (hc:bytesOk code) (h:∀ s i round m l,small s→l.length≤5→Q s i round m l):spec_DrawShareOf code Q:=by
  unfold spec_DrawShareOf
  refine drawMaskOf_ok hc fun s i round n m hs n0 n1 m0 m1=>valuesBelow_ok hc ⟨n0,n1⟩ (by omega) fun out a' s' ho a0 a1=>jn_ok1 (fun o=>o.length≤5) (fun o ho=>h _ _ _ _ _ hs.small ho) fun k hk=>?_
  exact one_ok hc (by unfold atOk; omega) fun b a2 s2 u0 u1=>br_bo (fun _=>among_ok hc (by unfold atOk; omega) (by simp) fun v hv a3 s3 _ _=>⟨by unfold ln; simp only [List.length_singleton]; omega,hk _ (by simp; omega)⟩) (fun _=>hk _ (by omega))
theorem drawSigned_ok {code:List B8} {Q:Int→List Int→Prop} (hc:bytesOk code) (h:∀ m l,l.length≤5→Q m l):spec_DrawSignedValues code Q:=by
  unfold spec_DrawSignedValues
  refine modulus_ok hc (by unfold atOk; omega) fun m a1 s1 m0 m1 p0 p1=>pick_ok hc (by unfold atOk; omega) fun n a2 s2 n0 n1 n2 q0 q1=>valuesBelow_ok hc ⟨n0,by omega⟩ (by omega) fun out a' s' ho a0 a1=>jn_ok1 (fun o=>o.length≤5) (fun o ho=>h _ _ ho) fun k hk=>?_
  exact one_ok hc (by unfold atOk; omega) fun b a3 s3 u0 u1=>br_bo (fun _=>among_ok hc (by unfold atOk; omega) (by simp) fun v hv a4 s4 _ _=>⟨by unfold ln; simp only [List.length_singleton]; omega,hk _ (by simp; omega)⟩) (fun _=>hk _ (by omega))
theorem sameLists_same {a:List (List Int)} {Q:Bool→Prop} (hl:a.length≤1048576) (hr:∀ r∈a,r.length≤1048576) (h:Q true):laws_sameLists a a Q:=by
  unfold laws_sameLists
  refine br_false (by simp) ?_
  exact loop1_list (by omega) (fun _=>True) trivial (fun i nx hi _ hn=>idx_at hi (idx_at hi ⟨true,sameInts_same (hr _ (List.getElem_mem hi)) rfl,br_false rfl (hn trivial)⟩)) (fun _=>h)
theorem sumN_le {f:Nat→Int} {b:Int}:∀ {n:Nat},(∀ i,i<n→0≤f i∧f i≤b)→0≤sumN f n∧sumN f n≤n * b
  | 0,_=>by simp [sumN]
  | n+1,h=>by
    have h1:=sumN_le (f:=f) (b:=b) (n:=n) fun i hi=>h i (by omega)
    have h2:=h n (by omega)
    rw [sumN,Int.natCast_add,Int.add_mul]
    omega
/-- A share's one present site gives the values back. -/
theorem back_ok {s:List (List Int)} {i round m:Int} {l:List Int} {Q:List Int→Bool→Prop} (hin:sfIn s i round m l=true) (h:Q l true):impl_SumPresent s [i] round m [sfOf s i round m l] Q:=by
  have hI:=hin
  obtain ⟨h1,h2,h3,h4,h5⟩:=sfIn_of hin
  unfold sfIn at hI
  simp only [Bool.and_eq_true,decide_eq_true_eq] at hI
  obtain ⟨hq,⟨_,hr,_⟩,_⟩:=hI
  have hsf:sfOf s i round m l=cmb 1 m l (mkOf s i round l.length m):=by unfold sfOf; rw [hin,if_pos rfl]
  have hml:(mkOf s i round (l.length:Int) m).length=l.length:=by rw [mkOf_length]; omega
  have hsl:(sfOf s i round m l).length=l.length:=by rw [hsf,cmb_length (by omega)]
  have hsr:resL m (sfOf s i round m l):=by rw [hsf]; exact cmb_res h3.1
  have hsh:shIn m [sfOf s i round m l]=true:=by
    unfold shIn shRow isRes shN
    rw [show inbM 2 1000000007 m=true from inb_iff.2 h3]
    simp only [List.length_singleton,List.all_cons,List.all_nil,List.getD_cons_zero,Bool.and_true,Bool.true_and,decide_true,Bool.and_eq_true,decide_eq_true_eq]
    exact ⟨by omega,by omega,List.all_eq_true.2 fun x hx=>inb_iff.2 (hsr x hx)⟩
  have hrise:rise [i] s.length=true:=by
    unfold rise riseAt lastOf
    simp; omega
  have hpres:presIn s [i]=true:=by unfold presIn; rw [hq,hrise]; rfl
  have hsm:=smOf_in hsh
  have hN:shN [sfOf s i round m l]=l.length:=by unfold shN; simpa using hsl
  rw [hN] at hsm
  unfold impl_SumPresent
  refine jn_bool false ?_ fun k hk=>areSeedRows_ok (br_false (by rw [hq]; rfl) (arePresent_ok (by simp) (br_false (by rw [hrise]; rfl) (isRound_ok (br_false (by rw [show inbM 0 1000000 round=true from inb_iff.2 hr]; rfl) (areShares_ok (br_false (by rw [hsh]; rfl) (by rw [show (ln [sfOf s i round m l]!=ln [i])=false from rfl]; exact hk))))))))
  have hg:=rpGo_in (s:=s) (p:=[i]) (round:=round) (n:=(ln (smOf m [sfOf s i round m l]))) h3.1 1
  refine br_false rfl (sumOfShares_ok hsh (maskRepair_ok hpres (by simp) (by unfold ln; omega) h3 (combine_ok h3 (.inr rfl) (by omega) (by unfold rpOf; simp only [List.length_singleton]; rw [hg.1]; unfold ln; omega) hsm.2 hg.2 ?_)))
  rw [show cmb (-1) m (smOf m [sfOf s i round m l]) (rpOf s [i] round (ln (smOf m [sfOf s i round m l])) m)=l from ?_]
  · exact h
  have hln:ln (smOf m [sfOf s i round m l])=(l.length:Int):=by unfold ln; rw [hsm.1]
  rw [hln] at hg ⊢
  have hrl:(rpOf s [i] round (l.length:Int) m).length=l.length:=by
    show (rpGo s [i] round (l.length:Int) m 1).length=_
    rw [hg.1]; omega
  have hcl:(cmb (-1) m (smOf m [sfOf s i round m l]) (rpOf s [i] round (l.length:Int) m)).length=l.length:=by rw [cmb_length (by omega)]; exact hsm.1
  refine List.ext_getElem hcl fun t ht ht2=>?_
  have e1:el (smOf m [sfOf s i round m l]) t=(el l t+el (mkOf s i round (l.length:Int) m) t) % m:=by
    show el (cmb 1 m (List.replicate (shN [sfOf s i round m l]) 0) (sfOf s i round m l)) t=_
    rw [el_cmb (by simp [hN]; exact ht2) (by omega),hN,hsf,el_cmb (by omega) (by omega)]
    have:el (List.replicate l.length (0:Int)) t=0:=by simp [el,List.getD_eq_getElem?_getD,ht2]
    rw [this,Int.zero_add,Int.one_mul,Int.one_mul,Int.emod_emod_of_dvd _ (Int.dvd_refl _)]
  have e2:el (rpOf s [i] round (l.length:Int) m) t=el (mkOf s i round (l.length:Int) m) t:=by
    show el (cmb 1 m (List.replicate (l.length:Int).toNat 0) (mkOf s i round (l.length:Int) m)) t=_
    rw [el_cmb (by simp; exact ht2) (by omega)]
    have:el (List.replicate (l.length:Int).toNat (0:Int)) t=0:=by simp [el,List.getD_eq_getElem?_getD,ht2]
    rw [this,Int.zero_add,Int.one_mul]
    have:=mkOf_res (s:=s) (i:=i) (round:=round) (n:=(l.length:Int)) h3.1 _ (List.getElem_mem (show t<(mkOf s i round (l.length:Int) m).length by omega))
    rw [el_at (by omega)]
    exact Int.emod_eq_of_lt this.1 (by omega)
  rw [← el_at ht,← el_at ht2,el_cmb (by omega) (by omega),e1,e2,emod_step,show el l t+el (mkOf s i round (l.length:Int) m) t + -1 * el (mkOf s i round (l.length:Int) m) t=el l t by omega]
  have:=h5 _ (List.getElem_mem ht2)
  rw [el_at ht2]
  exact Int.emod_eq_of_lt this.1 (by omega)
theorem lawFederated (code more:List B8) (w0:Wf.wf code) (w1:Wf.wf more):laws_FnFederated code more (fun r=>r=true):=by
  unfold laws_FnFederated
  refine big_ok fun b hb=>br_bo (fun _=>rfl) (fun hbf=>?_)
  have c1:bytesOk code:=w0.2
  have c2:bytesOk more:=w1.2
  refine drawFed_ok c1 fun p sx t l s r m w hs=>?_
  dsimp only
  have hv:=fV_len (p:=p) (sx:=sx) (t:=t) (l:=l) (s:=s) (r:=r) (m:=m)
  refine iFed_ok (p:=p) (t:=t) w (sFed_ok (p:=p) (t:=t) w hs ?_)
  refine jn_bool false ?_ fun k hk=>br_false (by simp) (sameInts_same (by omega) (by simpa using hk))
  refine br_false rfl (iSites_ok (p:=p) (t:=t) w (sSites_ok (p:=p) (t:=t) w ?_))
  have hst:(stV p sx t l).length≤1048576∧∀ x∈stV p sx t l,x.length≤1048576:=by
    unfold stV
    split
    · rename_i g
      have ⟨a,b,c,d,e⟩:=stIn_of g
      refine ⟨by rw [List.length_map]; omega,fun x hx=>?_⟩
      obtain ⟨y,hy,rfl⟩:=List.mem_map.1 hx
      have:=(tabF_in a b c (e y hy)).1
      have:=(tOk_b c).2
      omega
    · exact ⟨by simp,fun x hx=>by cases hx⟩
  refine jn_bool false ?_ fun k hk=>br_false (by simp) (sameLists_same hst.1 hst.2 (by simpa using hk))
  refine br_false rfl (jn_prop ?_ fun K hK=>br_bo (fun g=>?_) (fun _=>hK))
  · refine drawShare_ok c2 fun s2 i r2 m2 l2 hs2 hl2=>implSf_ok (specSf_ok hs2 ?_)
    refine jn_bool false ?_ fun k hk=>br_false (by simp) (sameInts_same (by have:=sfOf_length s2 i r2 m2 l2; omega) (by simpa using hk))
    refine br_false rfl (jn_prop ?_ fun K hK=>br_bo (fun g=>back_ok g ?_) (fun _=>hK))
    · refine drawSigned_ok c2 fun m3 l3 hl3=>implSv_ok (specSv_ok ?_)
      exact jn_bool true rfl fun k hk=>br_bo (fun _=>sameInts_same (by unfold svOut; split <;> simp; omega) hk) (fun g=>by simp at g)
    · refine jn_bool false ?_ fun k hk=>br_false (by simp) (sameInts_same (by omega) (by simpa using hk))
      exact br_false rfl hK
  · have gg:=g
    unfold fIn at gg
    simp only [Bool.and_eq_true] at gg
    have f:=fA_of gg.1
    have hq:seedsIn s=true:=by
      have:=gg.1; unfold fA at this; simp only [Bool.and_eq_true] at this; exact this.1.2.1
    have hall:=List.all_eq_true.1 gg.2
    have hV:fV p sx t l s r m=smOf m (shs (stV p sx t l) s r m):=by unfold fV; rw [g,if_pos rfl]
    have hN:(fV p sx t l s r m).length=cellN p sx t:=by
      rw [hV,(smOf_in (shs_in f)).1]
      have h0:0<(stV p sx t l).length:=by have:=f.c; have:=f.hs.1; omega
      unfold shN shs
      rw [getD_get (by simpa using h0)]
      simp only [List.getElem_map,List.getElem_range]
      exact (shr1_ok f h0).1
    generalize stV p sx t l=C at *
    generalize cellN p sx t=n at *
    have hC8:C.length≤8:=by have:=f.c; have:=f.hs.1; omega
    refine loop1_list (by omega) (fun _=>True) trivial (fun j nx hj _ hx=>?_) (fun _=>hK)
    have hjn:j<n:=by omega
    have hrow:∀ i,i<C.length→0≤el (C.getD i []) j∧el (C.getD i []) j≤1000000007:=fun i hi=>by
      have he:=f.e _ (List.getElem_mem hi)
      have:=isRes_of (hall _ (List.getElem_mem hi)) _ (List.getElem_mem (show j<C[i].length by omega))
      rw [getD_get hi,el_at (by omega)]
      have:=f.hm
      omega
    refine loop2_list (by omega) (fun sum i=>sum=sumN (fun i=>el (C.getD i []) j) i) rfl (fun sum i nx2 hi hsum hn=>?_) (fun sum hsum=>?_)
    · have he:=f.e _ (List.getElem_mem hi)
      refine idx_at hi (idx_at (by omega) (hn _ ?_))
      have hb:=sumN_le (f:=fun i=>el (C.getD i []) j) (b:=1000000007) (n:=i) fun k hk=>hrow k (by omega)
      have hi2:=hrow i hi
      rw [getD_get hi,el_at (by omega)] at hi2
      have hi8:(i:Int) * 1000000007≤8 * 1000000007:=Int.mul_le_mul_of_nonneg_right (by omega) (by omega)
      rw [wr_in (by omega) (by omega),sumN,hsum,getD_get hi,el_at (by omega)]
    · have hb:=sumN_le (f:=fun i=>el (C.getD i []) j) (b:=1000000007) (n:=C.length) fun k hk=>hrow k (by omega)
      have hm:=f.hm
      refine idx_at (by omega) ⟨by omega,br_ne (fun c=>absurd ?_ c) (fun _=>hx trivial)⟩
      rw [hsum,Int.tmod_eq_emod_of_nonneg hb.1,← fed_sum f hq hjn,← hV,el_at (by omega)]
end Go.Proofs.YtbgnaamdlcggjaaGreat
