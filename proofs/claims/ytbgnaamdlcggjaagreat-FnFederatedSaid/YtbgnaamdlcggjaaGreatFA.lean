/- Masks of sites, and their sums. -/
import Derived.Test.YtbgnaamdlcggjaaGreatSCPure
set_option linter.unusedVariables false
set_option autoImplicit false
namespace Go.Proofs.YtbgnaamdlcggjaaGreat
open Go Go.RowKit Go.Gv
theorem jn_boolM {A:Type} {f:(A→Prop)→Prop} {k:A→Prop} (b:A) (h:k b) (hf:∀ k':A→Prop,k' b→f k'):jn f k:=hf k h
theorem det1_ofM {A:Type} {f:(A→Prop)→Prop} {k:A→Prop} (a:A) (h:f (fun x=>x=a)) (hk:k a):det1 f k:=⟨a,h,hk⟩
/-- A list filled from the front: the first i are done. -/
theorem set_doneM {α:Type} {xs ys:List α} {i:Nat} (hl:xs.length=ys.length) (hi:i<xs.length) (h:xs.take i=ys.take i):(xs.set i (ys[i]'(hl ▸ hi))).take (i+1)=ys.take (i+1):=by
  have hy:i<ys.length:=hl ▸ hi
  rw [List.take_succ_eq_append_getElem (by simpa using hi),List.take_succ_eq_append_getElem hy]
  simp only [List.getElem_set_self]
  congr 1
  rw [List.take_set,List.set_eq_of_length_le (by rw [List.length_take]; omega),h]
theorem eq_of_takeM {α:Type} {a b:List α} {n:Nat} (h:a.take n=b.take n) (ha:a.length=n) (hb:b.length=n):a=b:=by
  rw [← List.take_length (l:=a),← List.take_length (l:=b),ha,hb]; exact h
def inbM (lo hi x:Int):Bool:=decide (lo≤x)&&decide (x≤hi)
theorem all_take_succM {p:Int→Bool} {l:List Int} {i:Nat} (hi:i<l.length) (h:(l.take i).all p=true) (hp:p l[i]=true):(l.take (i+1)).all p=true:=by
  rw [List.take_succ_eq_append_getElem hi,List.all_append,h]; simp [hp]
theorem all_falseM {p:Int→Bool} {l:List Int} {i:Nat} (hi:i<l.length) (hp:p l[i]=false):l.all p=false:=by
  rw [List.all_eq_false]; exact ⟨l[i],List.getElem_mem hi,by simp [hp]⟩
theorem l1All_okM {l:List Int} {lo hi:Int} {Q:Bool→Prop} (hl:l.length≤1048576) (h:Q (l.all (inbM lo hi))):spec_l1All l lo hi Q:=by
  unfold spec_l1All
  refine loop1_list (by omega) (fun i=>(l.take i).all (inbM lo hi)=true) (by simp) (fun i nx hi' hj hx=>idx_at hi' (l1In_ok (br_nb (fun hb=>?_) (fun hb=>hx (all_take_succM hi' hj hb))))) (fun hj=>?_)
  · rw [all_falseM hi' hb] at h; exact h
  · rw [List.take_length] at hj; rw [hj] at h; exact h
theorem areWithin_ok {l:List Int} {lo hi:Int} {Q:Bool→Prop} (hl:l.length≤1048576) (h:Q (l.all (inbM lo hi))):impl_areWithin l lo hi Q:=by
  unfold impl_areWithin
  refine loop1_list (by omega) (fun i=>(l.take i).all (inbM lo hi)=true) (by simp) (fun i nx hi' hj hx=>idx_at hi' (jn_boolM (!(inbM lo hi l[i])) ?_ fun k hk=>br_dec (fun g=>?_) (fun g=>?_))) (fun hj=>?_)
  · refine br_nb (fun hb=>?_) (fun hb=>hx (all_take_succM hi' hj hb))
    rw [all_falseM hi' hb] at h; exact h
  · have:inbM lo hi l[i]=false:=by unfold inbM; rw [decide_eq_false (by omega)]; rfl
    rw [this] at hk; exact hk
  · have:(!inbM lo hi l[i])=decide (l[i]>hi):=by
      unfold inbM; rw [decide_eq_true (by omega:lo≤l[i]),Bool.true_and,← decide_not]; congr 1; simp
    rw [this] at hk; exact hk
  · rw [List.take_length] at hj; rw [hj] at h; exact h
theorem inb_allM {l:List Int} {lo hi:Int} (h:l.all (inbM lo hi)=true):∀ x∈l,lo≤x∧x≤hi:=fun x hx=>by
  have:=List.all_eq_true.1 h x hx
  simpa [inbM] using this
theorem zeModulus_ok {m:Int} {Q:Bool→Prop} (h:Q (inbM 2 1000000007 m)):spec_zeModulus m Q:=l1In_ok h
theorem isModulus_ok {m:Int} {Q:Bool→Prop} (h:Q (inbM 2 1000000007 m)):impl_isModulus m Q:=by
  unfold impl_isModulus
  refine jn_boolM (inbM 2 1000000007 m) h fun k hk=>br_dec (fun g=>?_) (fun g=>?_)
  · unfold inbM at hk; rw [decide_eq_true (by omega:2≤m)] at hk; exact hk
  · unfold inbM at hk; rw [decide_eq_false (by omega:¬ 2≤m)] at hk; exact hk
def isRes (m:Int) (l:List Int):Bool:=decide (l.length≤600)&&l.all (inbM 0 (m-1))
theorem zeValues_ok {m:Int} {l:List Int} {Q:Bool→Prop} (hm:2≤m∧m≤1000000007) (h:Q (isRes m l)):spec_zeValues m l Q:=by
  unfold spec_zeValues
  refine jn_boolM (isRes m l) h fun k hk=>br_dec (fun g=>?_) (fun g=>?_)
  · have g:l.length≤600:=by unfold ln at g; omega
    rw [wr_in (by omega) (by omega)]
    unfold isRes at hk; rw [decide_eq_true g] at hk
    exact l1All_okM (by omega) hk
  · have g:¬ l.length≤600:=by unfold ln at g; omega
    unfold isRes at hk; rw [decide_eq_false g] at hk; exact hk
theorem areResidues_ok {m:Int} {l:List Int} {Q:Bool→Prop} (hm:2≤m∧m≤1000000007) (h:Q (isRes m l)):impl_areResidues l m Q:=by
  unfold impl_areResidues
  refine jn_boolM (isRes m l) h fun k hk=>br_dec (fun g=>?_) (fun g=>?_)
  · have g:l.length≤600:=by unfold ln at g; omega
    rw [wr_in (by omega) (by omega)]
    unfold isRes at hk; rw [decide_eq_true g] at hk
    exact areWithin_ok (by omega) hk
  · have g:¬ l.length≤600:=by unfold ln at g; omega
    unfold isRes at hk; rw [decide_eq_false g] at hk; exact hk
def svIn (m:Int) (l:List Int):Bool:=inbM 2 1000000007 m&&isRes m l
def sv1 (m x:Int):Int:=if 2 * x>m then x-m else x
def svOut (m:Int) (l:List Int):List Int:=if svIn m l then l.map (sv1 m) else []
theorem inb_iff {lo hi x:Int}:inbM lo hi x=true↔lo≤x∧x≤hi:=by simp [inbM]
theorem inb_no {lo hi x:Int}:inbM lo hi x=false↔¬ (lo≤x∧x≤hi):=by rw [← inb_iff]; simp
theorem svIn_of {m:Int} {l:List Int} (h:svIn m l=true):(2≤m∧m≤1000000007)∧l.length≤600∧∀ x∈l,0≤x∧x≤m-1:=by
  unfold svIn isRes at h
  simp only [Bool.and_eq_true,decide_eq_true_eq] at h
  exact ⟨inb_iff.1 h.1,h.2.1,inb_allM h.2.2⟩
theorem sv1_ok {m x:Int} {K:Int→Prop} (hm:2≤m∧m≤1000000007) (hx:0≤x∧x≤m-1) (h:K (sv1 m x)):br (decide (wr (2 * x)>m)) (K (wr (x-m))) (K x):=by
  rw [wr_in (x:=2 * x) (by omega) (by omega),wr_in (x:=x-m) (by omega) (by omega)]
  unfold sv1 at h
  exact br_dec (fun g=>by rw [if_pos g] at h; exact h) (fun g=>by rw [if_neg g] at h; exact h)
theorem specSv_ok {m:Int} {l:List Int} {Q:List Int→Bool→Prop} (h:Q (svOut m l) (svIn m l)):spec_SignedValues m l Q:=by
  unfold spec_SignedValues
  refine jn_boolM (!svIn m l) ?_ fun k hk=>zeModulus_ok (br_nb (fun g=>?_) (fun g=>zeValues_ok (inb_iff.1 g) ?_))
  · refine br_nb (fun g=>?_) (fun g=>?_)
    · unfold svOut at h; rw [g] at h; simpa using h
    · obtain ⟨hm,hl,hx⟩:=svIn_of g
      refine loop2_list (by omega) (fun out i=>out=(l.take i).map (sv1 m)) (by simp) (fun out i nx hi ho hn=>idx_at hi (jn_boolM (sv1 m l[i]) ?_ fun k' hk'=>sv1_ok hm (hx _ (List.getElem_mem hi)) hk')) (fun out ho=>?_)
      · have hlo:out.length≤600:=by rw [ho]; simp; omega
        refine ⟨by unfold ln; simp; omega,hn _ ?_⟩
        rw [ho,List.take_succ_eq_append_getElem hi,List.map_append]; rfl
      · rw [List.take_length] at ho
        unfold svOut at h; rw [g] at h; rw [ho]; simpa using h
  · unfold svIn at hk; rw [g] at hk; exact hk
  · unfold svIn at hk; rw [g] at hk; exact hk
theorem implSv_ok {m:Int} {l:List Int} {Q:List Int→Bool→Prop} (h:Q (svOut m l) (svIn m l)):impl_SignedValues m l Q:=by
  unfold impl_SignedValues
  refine jn_boolM (!svIn m l) ?_ fun k hk=>isModulus_ok (br_nb (fun g=>?_) (fun g=>areResidues_ok (inb_iff.1 g) ?_))
  · refine br_nb (fun g=>?_) (fun g=>?_)
    · unfold svOut at h; rw [g] at h; simpa using h
    · obtain ⟨hm,hl,hx⟩:=svIn_of g
      refine ⟨by unfold ln; omega,by unfold ln; omega,?_⟩
      refine loop2_list (by omega) (fun out i=>out.length=(l.map (sv1 m)).length∧out.take i=(l.map (sv1 m)).take i) (by simp) (fun out i nx hi ⟨h1,h2⟩ hn=>idx_at hi (jn_boolM (sv1 m l[i]) ?_ fun k' hk'=>sv1_ok hm (hx _ (List.getElem_mem hi)) hk')) (fun out ⟨h1,h2⟩=>?_)
      · have hlo:i<out.length:=by rw [h1]; simpa using hi
        refine ⟨by omega,by simpa using hlo,hn _ ⟨by simpa using h1,?_⟩⟩
        have:=set_doneM h1 hlo h2
        simpa using this
      · have ho:out=l.map (sv1 m):=by
          rw [← List.take_length (l:=out),h1]
          rw [List.length_map,h2,← List.length_map (f:=sv1 m),List.take_length]
        unfold svOut at h; rw [g] at h; rw [ho]; simpa using h
  · unfold svIn at hk; rw [g] at hk; exact hk
  · unfold svIn at hk; rw [g] at hk; exact hk
theorem hMod_ok {x m:Int} {Q:Int→Prop} (h0:0<m) (h1:m≤4294967296) (h:Q (x % m)):spec_hMod x m Q:=by
  unfold spec_hMod
  have hlt:=Int.tmod_lt_of_pos x h0
  have hgt : -m<x.tmod m:=by
    have:=Int.tmod_lt_of_pos (-x) h0; rw [Int.neg_tmod] at this; omega
  refine ⟨by omega,by omega,?_⟩
  rw [wr_in (by omega) (by omega),Int.tmod_eq_emod_of_nonneg (by omega),Int.add_emod_right]
  have:x.tmod m % m=x % m:=by
    rw [Int.tmod_def,Int.sub_emod,Int.mul_emod_right]; simp
  rw [this]; exact h
theorem tmod_fix {x m:Int} (h0:0<m):(x.tmod m<0→x % m=x.tmod m+m)∧(¬ x.tmod m<0→x % m=x.tmod m):=by
  have hlt:=Int.tmod_lt_of_pos x h0
  have hgt : -m<x.tmod m:=by
    have:=Int.tmod_lt_of_pos (-x) h0; rw [Int.neg_tmod] at this; omega
  have e:x.tmod m % m=x % m:=by
    rw [Int.tmod_def,Int.sub_emod,Int.mul_emod_right]; simp
  constructor
  · intro h
    rw [← e,← Int.add_emod_right]; exact Int.emod_eq_of_lt (by omega) (by omega)
  · intro h
    rw [← e]; exact Int.emod_eq_of_lt (by omega) (by omega)
def dgA (a x:Int):Int:=(48271 * a+x % 2147483647+1) % 2147483647
def dgB (b x a:Int):Int:=(69621 * b+x % 2147483629+a) % 2147483629
def dg (l:List Int):Nat→Int×Int
  | 0=>(l.length,1)
  | i+1=>(dgA (dg l i).1 (l.getD i 0),dgB (dg l i).2 (l.getD i 0) (dgA (dg l i).1 (l.getD i 0)))
theorem dg_bounds {l:List Int} (hl:l.length≤1000000):∀ i,0≤(dg l i).1∧(dg l i).1≤2147483647∧0≤(dg l i).2∧(dg l i).2≤2147483647
  | 0=>by simp only [dg]; omega
  | i+1=>by
    simp only [dg,dgA,dgB]
    refine ⟨Int.emod_nonneg _ (by omega),?_,Int.emod_nonneg _ (by omega),?_⟩
    · have:=Int.emod_lt_of_pos (48271 * (dg l i).1+l.getD i 0 % 2147483647+1) (show (0:Int)<2147483647 by omega); omega
    · have:=Int.emod_lt_of_pos (69621 * (dg l i).2+l.getD i 0 % 2147483629+(48271 * (dg l i).1+l.getD i 0 % 2147483647+1) % 2147483647) (show (0:Int)<2147483629 by omega); omega
def dgOf (l:List Int):Int:=wr (wr ((dg l (l.length+4)).1 * 2 ^ 31)+(dg l (l.length+4)).2)
theorem getD_at {l:List Int} {i:Nat} (h:i<l.length):l.getD i 0=l[i]:=by simp [List.getD_eq_getElem?_getD,h]
theorem getD_out {l:List Int} {i:Nat} (h:¬ i<l.length):l.getD i 0=0:=by simp [List.getD_eq_getElem?_getD,List.getElem?_eq_none (show l.length≤i by omega)]
theorem hInts_ok {l:List Int} {Q:Int→Prop} (hl:l.length≤1000) (h:Q (dgOf l)):spec_hInts l Q:=by
  unfold spec_hInts
  have hw:wr (ln l+4)=ln l+4:=wr_in (by unfold ln; omega) (by unfold ln; omega)
  rw [hw]
  refine loop3_to (by unfold ln; omega) (fun a b i=>a=(dg l i).1∧b=(dg l i).2) ⟨rfl,rfl⟩ (fun a b i nx hi ⟨ha,hb⟩ hx=>?_) (fun a b i hi ⟨ha,hb⟩=>?_)
  · have bd:=dg_bounds (show l.length≤1000000 by omega) i
    rw [← ha,← hb] at bd
    refine jn_boolM (l.getD i 0) ?_ fun k hk=>br_dec (fun g=>?_) (fun g=>?_)
    · refine hMod_ok (by omega) (by omega) (hMod_ok (by omega) (by omega) ?_)
      have e1:=Int.emod_nonneg (l.getD i 0) (show (2147483647:Int)≠0 by omega)
      have e2:=Int.emod_lt_of_pos (l.getD i 0) (show (0:Int)<2147483647 by omega)
      have e3:=Int.emod_nonneg (l.getD i 0) (show (2147483629:Int)≠0 by omega)
      have e4:=Int.emod_lt_of_pos (l.getD i 0) (show (0:Int)<2147483629 by omega)
      rw [wr_in (x:=48271 * a) (by omega) (by omega),wr_in (x:=48271 * a+_) (by omega) (by omega),wr_in (x:=48271 * a+_+1) (by omega) (by omega)]
      rw [Int.tmod_eq_emod_of_nonneg (a:=48271 * a+_+1) (by omega)]
      have f1:=Int.emod_nonneg (48271 * a+l.getD i 0 % 2147483647+1) (show (2147483647:Int)≠0 by omega)
      have f2:=Int.emod_lt_of_pos (48271 * a+l.getD i 0 % 2147483647+1) (show (0:Int)<2147483647 by omega)
      rw [wr_in (x:=69621 * b) (by omega) (by omega),wr_in (x:=69621 * b+_) (by omega) (by omega),wr_in (x:=69621 * b+_+_) (by omega) (by omega)]
      rw [Int.tmod_eq_emod_of_nonneg (a:=69621 * b+_+_) (by omega)]
      exact hx _ _ ⟨by rw [dg,ha]; rfl,by rw [dg,hb,ha]; rfl⟩
    · have g:=ln_nat.1 g
      refine idx_at g ?_; rw [getD_at g] at hk; exact hk
    · rw [getD_out (fun c=>g (ln_nat.2 c))] at hk; exact hk
  · have:i=l.length+4:=by unfold ln at hi; omega
    subst this; rw [ha,hb]; exact h
theorem step_ok {f n x more p:Int} {Q:Int→Prop} (hp:0<p) (hp':p≤4294967296) (hf:0≤f * n∧f * n≤1000000000000000) (hm:0≤more∧more≤4294967296) (h:Q ((f * n+x % p+more) % p)):impl_step f n x more p Q:=by
  unfold impl_step
  have e1:=Int.emod_nonneg x (show p≠0 by omega)
  have e2:=Int.emod_lt_of_pos x hp
  have fx:=tmod_fix (x:=x) hp
  refine ⟨by omega,jn_boolM (x % p) ?_ fun k hk=>br_dec (fun g=>?_) (fun g=>?_)⟩
  · refine ⟨by omega,?_⟩
    rw [wr_in (x:=f * n) (by omega) (by omega),wr_in (x:=f * n+_) (by omega) (by omega),wr_in (x:=f * n+_+more) (by omega) (by omega)]
    rw [Int.tmod_eq_emod_of_nonneg (by omega)]; exact h
  · rw [wr_in (by have:=fx.1 g; omega) (by have:=fx.1 g; omega),← fx.1 g]; exact hk
  · rw [← fx.2 g]; exact hk
theorem digest_ok {l:List Int} {Q:Int→Prop} (hl:l.length≤1000) (h:Q (dgOf l)):impl_digest l Q:=by
  unfold impl_digest
  have hw:wr (ln l+4)=ln l+4:=wr_in (by unfold ln; omega) (by unfold ln; omega)
  have h0:(ln l).tmod 2147483647=ln l:=by
    rw [Int.tmod_eq_emod_of_nonneg (by unfold ln; omega)]; exact Int.emod_eq_of_lt (by unfold ln; omega) (by unfold ln; omega)
  rw [hw,h0]
  refine loop3_to (by unfold ln; omega) (fun a b i=>a=(dg l i).1∧b=(dg l i).2) ⟨rfl,rfl⟩ (fun a b i nx hi ⟨ha,hb⟩ hx=>?_) (fun a b i hi ⟨ha,hb⟩=>?_)
  · have bd:=dg_bounds (show l.length≤1000000 by omega) i
    rw [← ha,← hb] at bd
    refine jn_boolM (l.getD i 0) ?_ fun k hk=>br_dec (fun g=>?_) (fun g=>?_)
    · refine step_ok (by omega) (by omega) (by omega) (by omega) ?_
      have f1:=Int.emod_nonneg (48271 * a+l.getD i 0 % 2147483647+1) (show (2147483647:Int)≠0 by omega)
      have f2:=Int.emod_lt_of_pos (48271 * a+l.getD i 0 % 2147483647+1) (show (0:Int)<2147483647 by omega)
      rw [Int.tmod_eq_emod_of_nonneg (a:=(48271 * a+l.getD i 0 % 2147483647+1) % 2147483647) f1]
      have g1:=Int.emod_nonneg ((48271 * a+l.getD i 0 % 2147483647+1) % 2147483647) (show (2147483629:Int)≠0 by omega)
      have g2:=Int.emod_lt_of_pos ((48271 * a+l.getD i 0 % 2147483647+1) % 2147483647) (show (0:Int)<2147483629 by omega)
      refine step_ok (by omega) (by omega) (by omega) (by omega) ?_
      refine hx _ _ ⟨by rw [dg,ha]; rfl,?_⟩
      rw [Int.add_emod,Int.emod_emod_of_dvd _ (Int.dvd_refl _),← Int.add_emod]
      rw [dg,hb,ha]; rfl
    · have g:=ln_nat.1 g
      refine idx_at g ?_; rw [getD_at g] at hk; exact hk
    · rw [getD_out (fun c=>g (ln_nat.2 c))] at hk; exact hk
  · have:i=l.length+4:=by unfold ln at hi; omega
    subst this; rw [ha,hb]; exact h
def pm1 (seed i k round m:Int) (j:Nat):Int:=(dgOf [5,seed,i,k,round,(j:Int)]).tmod m
def pmOf (seed i k round n m:Int):List Int:=(List.range n.toNat).map (pm1 seed i k round m)
theorem zeMask_ok {seed i k round n m:Int} {Q:List Int→Prop} (hm:m≠0) (hn:n≤600) (h:Q (pmOf seed i k round n m)):spec_zeMask seed i k round n m Q:=by
  unfold spec_zeMask
  refine loop2_to (by omega) (fun out j=>out=(List.range j).map (pm1 seed i k round m)) rfl (fun out j nx hj ho hx=>hInts_ok (by simp) ⟨hm,?_,hx _ ?_⟩) (fun out j hj ho=>?_)
  · unfold ln; rw [ho]; simp; omega
  · rw [ho,List.range_succ,List.map_append]; rfl
  · rw [ho,hj]; exact h
theorem pairMask_ok {seed i k round n m:Int} {Q:List Int→Prop} (hm:m≠0) (hn0:0≤n) (hn:n≤600) (h:Q (pmOf seed i k round n m)):impl_pairMask seed i k round n m Q:=by
  unfold impl_pairMask
  refine ⟨hn0,by omega,?_⟩
  have hlen:(pmOf seed i k round n m).length=n.toNat:=by simp [pmOf]
  refine loop2_list (by simp; omega) (fun out j=>out.length=(pmOf seed i k round n m).length∧out.take j=(pmOf seed i k round n m).take j) (by simp [hlen]) (fun out j nx hj ⟨h1,h2⟩ hx=>digest_ok (by simp) ⟨hm,?_⟩) (fun out ⟨h1,h2⟩=>?_)
  · have hj':j<out.length:=by rw [h1,hlen]; simpa using hj
    refine ⟨by omega,by simpa using hj',hx _ ⟨by simpa using h1,?_⟩⟩
    have:=set_doneM h1 hj' h2
    simpa [pmOf,pm1] using this
  · have:out=pmOf seed i k round n m:=by
      rw [List.length_replicate,← hlen,List.take_length,← h1,List.take_length] at h2; exact h2
    rw [this]; exact h
theorem inb_f {lo hi x:Int} (h:inbM lo hi x=false):¬ (lo≤x∧x≤hi):=inb_no.1 h
theorem hDigest_ok {l:List Int} {Q:Bool→Prop} (hl:l.length≤1048576) (h:Q (l.all (inbM 0 4611686016279904236))):spec_hDigest l Q:=l1All_okM hl h
theorem zeRound_ok {round n m:Int} {Q:Bool→Prop} (h:Q (inbM 0 1000000 round&&(inbM 0 600 n&&inbM 2 1000000007 m))):spec_zeRound round n m Q:=by
  unfold spec_zeRound
  refine jn_boolM _ h fun k hk=>l1In_ok (br_bo (fun g=>l1In_ok (br_bo (fun g2=>zeModulus_ok ?_) (fun g2=>?_))) (fun g=>?_))
  · rw [show inbM 0 1000000 round=true from g,show inbM 0 600 n=true from g2] at hk; exact hk
  · rw [show inbM 0 600 n=false from g2] at hk; simpa using hk
  · rw [show inbM 0 1000000 round=false from g] at hk; exact hk
theorem isSeed_ok {n:Int} {Q:Bool→Prop} (h:Q (inbM 0 4611686016279904236 n)):impl_isSeed n Q:=by
  unfold impl_isSeed
  refine jn_boolM _ h fun k hk=>br_dec (fun g=>?_) (fun g=>?_)
  · unfold inbM at hk; rw [decide_eq_true (by omega:0≤n)] at hk; exact hk
  · unfold inbM at hk; rw [decide_eq_false (by omega:¬ 0≤n)] at hk; exact hk
theorem isRound_ok {n:Int} {Q:Bool→Prop} (h:Q (inbM 0 1000000 n)):impl_isRound n Q:=by
  unfold impl_isRound
  refine jn_boolM _ h fun k hk=>br_dec (fun g=>?_) (fun g=>?_)
  · unfold inbM at hk; rw [decide_eq_true (by omega:0≤n)] at hk; exact hk
  · unfold inbM at hk; rw [decide_eq_false (by omega:¬ 0≤n)] at hk; exact hk
def small (a:List (List Int)):Prop:=a.length≤1048576∧∀ r∈a,r.length≤1048576
def resL (m:Int) (l:List Int):Prop:=∀ x∈l,0≤x∧x≤m-1
def cmb (s m:Int) (a b:List Int):List Int:=List.zipWith (fun x y=>(x+s * y) % m) a b
theorem cmb_length {s m:Int} {a b:List Int} (h:a.length=b.length):(cmb s m a b).length=a.length:=by simp [cmb]; omega
theorem cmb_get {s m:Int} {a b:List Int} {i:Nat} (hi:i<(cmb s m a b).length) (ha:i<a.length) (hb:i<b.length):(cmb s m a b)[i]=(a[i]+s * b[i]) % m:=by simp [cmb]
theorem cmb_res {s m:Int} {a b:List Int} (hm:2≤m):resL m (cmb s m a b):=fun x hx=>by
  obtain ⟨i,hi,rfl⟩:=List.mem_iff_getElem.1 hx
  have:i<a.length∧i<b.length:=by simp [cmb] at hi; omega
  rw [cmb_get hi this.1 this.2]
  have h1:=Int.emod_nonneg (a[i]+s * b[i]) (show m≠0 by omega)
  have h2:=Int.emod_lt_of_pos (a[i]+s * b[i]) (show 0<m by omega)
  omega
theorem sgn_mul {s y m:Int} (hs:s=1∨s = -1) (hy:0≤y∧y≤m-1) : -(m-1)≤s * y∧s * y≤m-1:=by
  rcases hs with rfl | rfl <;> omega
theorem zeAdd_ok {a b:List Int} {s m:Int} {Q:List Int→Prop} (hm:2≤m∧m≤1000000007) (hs:s=1∨s = -1) (hl:a.length≤1048576) (he:a.length=b.length) (ha:resL m a) (hb:resL m b)
    (h:Q (cmb s m a b)):spec_zeAdd a b s m Q:=by
  unfold spec_zeAdd
  have hc:=cmb_length (s:=s) (m:=m) he
  refine ⟨by unfold ln; omega,by unfold ln; omega,?_⟩
  refine loop2_list (by omega) (fun out i=>out.length=(cmb s m a b).length∧out.take i=(cmb s m a b).take i) ⟨by simp [hc],by simp⟩ (fun out i nx hi ⟨h1,h2⟩ hn=>idx_at hi (idx_at (by omega) ?_)) (fun out ⟨h1,h2⟩=>?_)
  · have hj:i<b.length:=by omega
    have e1:=ha _ (List.getElem_mem hi)
    have e2:=hb _ (List.getElem_mem hj)
    have e3:=sgn_mul hs e2
    rw [wr_in (x:=s * b[i]) (by omega) (by omega),wr_in (x:=a[i]+s * b[i]) (by omega) (by omega)]
    refine det1_ofM _ (hMod_ok (by omega) (by omega) rfl) ⟨by omega,by omega,hn _ ⟨by simpa using h1,?_⟩⟩
    have:=set_doneM h1 (by omega) h2
    rw [cmb_get (by omega) hi hj] at this
    simpa using this
  · rw [eq_of_takeM h2 (by omega) hc]; exact h
theorem set_mid {α:Type} {ys a:List α} {i:Nat} (hy:i<ys.length) (ha:i<a.length):(ys.take i++a.drop i).set i ys[i]=ys.take (i+1)++a.drop (i+1):=by
  have hl:(ys.take i).length=i:=by rw [List.length_take]; omega
  rw [List.take_succ_eq_append_getElem hy]
  generalize ys[i]=v
  rw [List.set_append_right _ _ (by omega),hl,Nat.sub_self,List.drop_eq_getElem_cons ha,List.set_cons_zero]
  simp
theorem combine_ok {a b:List Int} {s m:Int} {Q:List Int→Prop} (hm:2≤m∧m≤1000000007) (hs:s=1∨s = -1) (hl:a.length≤1048576) (he:a.length=b.length) (ha:resL m a) (hb:resL m b)
    (h:Q (cmb s m a b)):impl_combine a b s m Q:=by
  unfold impl_combine
  have hc:=cmb_length (s:=s) (m:=m) he
  refine loop2_list (by omega) (fun out i=>out=(cmb s m a b).take i++a.drop i) (by simp) (fun out i nx hj h1 hn=>?_) (fun out h1=>?_)
  · have hi:i<a.length:=by omega
    have hlen:((cmb s m a b).take i).length=i:=by rw [List.length_take]; omega
    have hol:i<out.length:=by rw [h1,List.length_append,hlen,List.length_drop]; omega
    have hget:out[i]=a[i]:=by
      simp only [h1]
      rw [List.getElem_append_right (by omega)]
      simp [hlen]
    have e1:=ha _ (List.getElem_mem hi)
    have e2:=hb _ (List.getElem_mem hj)
    have e3:=sgn_mul hs e2
    refine idx_at hj (idx_at hol ⟨by omega,by omega,by simpa using hol,?_⟩)
    rw [hget,wr_in (x:=s * b[i]) (by omega) (by omega),wr_in (x:=a[i]+s * b[i]) (by omega) (by omega),wr_in (x:=a[i]+s * b[i]+m) (by omega) (by omega)]
    rw [Int.tmod_eq_emod_of_nonneg (by omega),Int.add_emod_right,← cmb_get (by omega) hi hj]
    refine hn _ ?_
    subst h1
    rw [Int.toNat_natCast]
    exact set_mid (by omega) hi
  · rw [← he,List.drop_length,List.append_nil,← hc,List.take_length] at h1
    rw [h1]; exact h
theorem dgOf_nonneg {l:List Int} (hl:l.length≤1000):0≤dgOf l:=by
  have h:=dg_bounds (show l.length≤1000000 by omega) (l.length+4)
  have e:(dg l (l.length+4)).1 * 2 ^ 31=(dg l (l.length+4)).1 * 2147483648:=rfl
  unfold dgOf
  rw [e,wr_in (x:=_ * _) (by omega) (by omega),wr_in (by omega) (by omega)]
  omega
theorem pmOf_length (seed i k round n m:Int):(pmOf seed i k round n m).length=n.toNat:=by simp [pmOf]
theorem pmOf_res {seed i k round n m:Int} (hm:2≤m):resL m (pmOf seed i k round n m):=fun x hx=>by
  obtain ⟨j,hj,rfl⟩:=List.mem_map.1 hx
  unfold pm1
  have h0:=dgOf_nonneg (l:=[5,seed,i,k,round,(j:Int)]) (by simp)
  rw [Int.tmod_eq_emod_of_nonneg h0]
  have h1:=Int.emod_nonneg (dgOf [5,seed,i,k,round,(j:Int)]) (show m≠0 by omega)
  have h2:=Int.emod_lt_of_pos (dgOf [5,seed,i,k,round,(j:Int)]) (show 0<m by omega)
  omega
def sg (s:List (List Int)) (i k:Nat):Int:=(s.getD i []).getD k 0
def mkGo (s:List (List Int)) (i round n m:Int):Nat→List Int
  | 0=>List.replicate n.toNat 0
  | k+1=>if (k:Int)>i then cmb 1 m (mkGo s i round n m k) (pmOf (sg s i.toNat k) i k round n m)
    else if (k:Int)<i then cmb (-1) m (mkGo s i round n m k) (pmOf (sg s i.toNat k) k i round n m)
    else mkGo s i round n m k
def mkOf (s:List (List Int)) (i round n m:Int):List Int:=mkGo s i round n m s.length
theorem mkGo_length {s:List (List Int)} {i round n m:Int}:∀ k,(mkGo s i round n m k).length=n.toNat
  | 0=>by simp [mkGo]
  | k+1=>by
    have ih:=mkGo_length (s:=s) (i:=i) (round:=round) (n:=n) (m:=m) k
    unfold mkGo
    split
    · rw [cmb_length (by rw [ih,pmOf_length]),ih]
    · split
      · rw [cmb_length (by rw [ih,pmOf_length]),ih]
      · exact ih
theorem mkGo_res {s:List (List Int)} {i round n m:Int} (hm:2≤m):∀ k,resL m (mkGo s i round n m k)
  | 0=>fun x hx=>by have:=List.eq_of_mem_replicate hx; omega
  | k+1=>by
    unfold mkGo
    split
    · exact cmb_res hm
    · split
      · exact cmb_res hm
      · exact mkGo_res hm k
theorem mkOf_length {s:List (List Int)} {i round n m:Int}:(mkOf s i round n m).length=n.toNat:=mkGo_length _
theorem mkOf_res {s:List (List Int)} {i round n m:Int} (hm:2≤m):resL m (mkOf s i round n m):=mkGo_res hm _
theorem sg_at {s:List (List Int)} {i k:Nat} (hi:i<s.length) (hk:k<s[i].length):sg s i k=s[i][k]:=by
  unfold sg; simp [List.getD_eq_getElem?_getD,hi,hk]
section
variable {s:List (List Int)} {i round n m:Int} {Q:List Int→Prop} (hs:s.length≤8∧∀ r∈s,r.length=s.length) (hi:0≤i∧i<s.length) (hn:0≤n∧n≤600) (hm:2≤m∧m≤1000000007)
include hs hi hn hm
theorem zeMaskOf_ok (h:Q (mkOf s i round n m)):spec_zeMaskOf s i round n m Q:=by
  unfold spec_zeMaskOf
  refine ⟨hn.1,by omega,?_⟩
  refine loop2_list (by omega) (fun out k=>out=mkGo s i round n m k) rfl (fun out k nx hk ho hx=>?_) (fun out ho=>by rw [ho]; exact h)
  have hit:i.toNat<s.length:=by omega
  have hr:=hs.2 _ (List.getElem_mem hit)
  have hl:=mkGo_length (s:=s) (i:=i) (round:=round) (n:=n) (m:=m) k
  have hres:=mkGo_res (s:=s) (i:=i) (round:=round) (n:=n) hm.1 k
  refine jn_boolM (mkGo s i round n m (k+1)) (hx _ rfl) fun c hc=>br_dec (fun g=>idx_of hi.1 hit (idx_at (by omega) ?_)) (fun g=>br_dec (fun g2=>idx_of hi.1 hit (idx_at (by omega) ?_)) (fun g2=>?_))
  · rw [← sg_at hit (by omega)]
    refine zeMask_ok (by omega) (by omega) (zeAdd_ok hm (.inl rfl) (by rw [ho]; omega) (by rw [ho,hl,pmOf_length]) (by rw [ho]; exact hres) (pmOf_res hm.1) ?_)
    rw [mkGo,if_pos g] at hc; rw [ho]; exact hc
  · rw [← sg_at hit (by omega)]
    refine zeMask_ok (by omega) (by omega) (zeAdd_ok hm (.inr rfl) (by rw [ho]; omega) (by rw [ho,hl,pmOf_length]) (by rw [ho]; exact hres) (pmOf_res hm.1) ?_)
    rw [mkGo,if_neg g,if_pos g2] at hc; rw [ho]; exact hc
  · rw [mkGo,if_neg g,if_neg g2] at hc; rw [ho]; exact hc
theorem maskOf_ok (h:Q (mkOf s i round n m)):impl_maskOf s i round n m Q:=by
  unfold impl_maskOf
  refine ⟨hn.1,by omega,?_⟩
  refine loop2_list (by omega) (fun out k=>out=mkGo s i round n m k) rfl (fun out k nx hk ho hx=>?_) (fun out ho=>by rw [ho]; exact h)
  have hit:i.toNat<s.length:=by omega
  have hr:=hs.2 _ (List.getElem_mem hit)
  have hl:=mkGo_length (s:=s) (i:=i) (round:=round) (n:=n) (m:=m) k
  have hres:=mkGo_res (s:=s) (i:=i) (round:=round) (n:=n) hm.1 k
  refine jn_boolM (mkGo s i round n m (k+1)) (hx _ rfl) fun c hc=>br_dec (fun g=>idx_of hi.1 hit (idx_at (by omega) ?_)) (fun g=>br_dec (fun g2=>idx_of hi.1 hit (idx_at (by omega) ?_)) (fun g2=>?_))
  · rw [← sg_at hit (by omega)]
    refine pairMask_ok (by omega) (by omega) (by omega) (combine_ok hm (.inl rfl) (by rw [ho]; omega) (by rw [ho,hl,pmOf_length]) (by rw [ho]; exact hres) (pmOf_res hm.1) ?_)
    rw [mkGo,if_pos g] at hc; rw [ho]; exact hc
  · rw [← sg_at hit (by omega)]
    refine pairMask_ok (by omega) (by omega) (by omega) (combine_ok hm (.inr rfl) (by rw [ho]; omega) (by rw [ho,hl,pmOf_length]) (by rw [ho]; exact hres) (pmOf_res hm.1) ?_)
    rw [mkGo,if_neg g,if_pos g2] at hc; rw [ho]; exact hc
  · rw [mkGo,if_neg g,if_neg g2] at hc; rw [ho]; exact hc
end
theorem range_succ_all {p:Nat→Bool} {i:Nat} (h:(List.range i).all p=true) (hp:p i=true):(List.range (i+1)).all p=true:=by
  rw [List.range_succ,List.all_append,h]; simp [hp]
theorem range_all_noM {p:Nat→Bool} {i n:Nat} (hi:i<n) (hp:p i=false):(List.range n).all p=false:=by
  rw [List.all_eq_false]; exact ⟨i,List.mem_range.2 hi,by simp [hp]⟩
theorem range_all_of {p:Nat→Bool} {n:Nat} (h:(List.range n).all p=true) {i:Nat} (hi:i<n):p i=true:=List.all_eq_true.1 h i (List.mem_range.2 hi)
def rowIn (s:List (List Int)) (i:Nat):Bool:=(decide ((s.getD i []).length=s.length)&&(s.getD i []).all (inbM 0 4611686016279904236))&&(List.range i).all fun k=>sg s i k==sg s k i
def seedsIn (s:List (List Int)):Bool:=decide (2≤s.length∧s.length≤8)&&(List.range s.length).all (rowIn s)
theorem getD_row {s:List (List Int)} {i:Nat} (h:i<s.length):s.getD i []=s[i]:=by simp [List.getD_eq_getElem?_getD,h]
theorem rowIn_len {s:List (List Int)} {i:Nat} (hi:i<s.length) (h:rowIn s i=true):s[i].length=s.length:=by
  unfold rowIn at h
  simp only [Bool.and_eq_true,decide_eq_true_eq] at h
  rw [← getD_row hi]; exact h.1.1
theorem seedsIn_of {s:List (List Int)} (h:seedsIn s=true):(2≤s.length∧s.length≤8)∧∀ r∈s,r.length=s.length:=by
  unfold seedsIn at h
  simp only [Bool.and_eq_true,decide_eq_true_eq] at h
  refine ⟨h.1,fun r hr=>?_⟩
  obtain ⟨i,hi,rfl⟩:=List.mem_iff_getElem.1 hr
  exact rowIn_len hi (range_all_of h.2 hi)
theorem sym_loop {s:List (List Int)} {i:Nat} {no yes:Prop} (hn:s.length≤1048576) (hi:i<s.length) (hp:∀ j,(hj:j<s.length)→j≤i→s[j].length=s.length)
    (hyes:((List.range i).all fun k=>sg s i k==sg s k i)=true→yes) (hno:((List.range i).all fun k=>sg s i k==sg s k i)=false→no) :
    Loop1 (fun (x:Int) nx=>br (decide (x<(i:Int))) (idx s[i] x fun a=>idx s x fun b=>idx b (i:Int) fun c=>br (a != c) no (nx (wr (x+1)))) yes) 0:=by
  refine loop1_to (by omega) (fun k=>((List.range k).all fun k=>sg s i k==sg s k i)=true) rfl (fun k nx hk hj hx=>?_) (fun k hk hj=>?_)
  · have hki:k<i:=by omega
    have l1:=hp i hi (Nat.le_refl _)
    have l2:=hp k (by omega) (by omega)
    refine idx_at (by omega) (idx_at (by omega) (idx_at (by omega) (br_ne (fun g=>hno (range_all_noM hki ?_)) (fun g=>hx (range_succ_all hj ?_)))))
    · rw [sg_at hi (by omega),sg_at (by omega) (by omega)]; simpa using g
    · rw [sg_at hi (by omega),sg_at (by omega) (by omega)]; simpa using g
  · have:k=i:=by omega
    subst this; exact hyes hj
theorem zeSeeds_ok {s:List (List Int)} {Q:Bool→Prop} (hsm:small s) (h:Q (seedsIn s)):spec_zeSeeds s Q:=by
  unfold spec_zeSeeds
  refine l1In_ok (br_nb (fun g=>?_) (fun g=>?_))
  · have:¬ (2≤s.length∧s.length≤8):=by have:=inb_f g; unfold ln at this; omega
    unfold seedsIn at h; rw [decide_eq_false this] at h; exact h
  · have gl:2≤s.length∧s.length≤8:=by have:=inb_iff.1 g; unfold ln at this; omega
    unfold seedsIn at h; rw [decide_eq_true gl,Bool.true_and] at h
    refine loop1_list (by omega) (fun i=>(List.range i).all (rowIn s)=true) rfl (fun i nx hi hj hx=>idx_at hi ?_) (fun hj=>by rw [hj] at h; exact h)
    have hb:=hsm.2 _ (List.getElem_mem hi)
    refine jn_boolM (!(decide (s[i].length=s.length)&&s[i].all (inbM 0 4611686016279904236))) ?_ fun k hk=>br_ne (fun g2=>?_) (fun g2=>hDigest_ok hb ?_)
    · refine br_nb (fun g2=>?_) (fun g2=>?_)
      · rw [range_all_noM hi (by unfold rowIn; rw [getD_row hi,g2]; rfl)] at h; exact h
      · have g3:=g2
        simp only [Bool.and_eq_true,decide_eq_true_eq] at g3
        refine sym_loop (by omega) hi (fun j hj' hji=>?_) (fun gy=>hx (range_succ_all hj ?_)) (fun gn=>?_)
        · by_cases e:j=i
          · subst e; exact g3.1
          · exact rowIn_len hj' (range_all_of hj (show j<i by omega))
        · unfold rowIn; rw [getD_row hi,g2,gy]; rfl
        · rw [range_all_noM hi (by unfold rowIn; rw [getD_row hi,g2,gn]; rfl)] at h; exact h
    · rw [decide_eq_false (by unfold ln at g2; omega)] at hk; exact hk
    · rw [decide_eq_true (by unfold ln at g2; omega),Bool.true_and] at hk; exact hk
theorem areSeeds_ok {l:List Int} {Q:Bool→Prop} (hl:l.length≤392) (h:Q (l.all (inbM 0 4611686016279904236))):impl_areSeeds l Q:=by
  unfold impl_areSeeds
  refine br_no (by unfold ln; omega) ?_
  refine loop1_list (by omega) (fun i=>(l.take i).all (inbM 0 4611686016279904236)=true) (by simp) (fun i nx hi' hj hx=>idx_at hi' (isSeed_ok (br_nb (fun hb=>?_) (fun hb=>hx (all_take_succM hi' hj hb))))) (fun hj=>?_)
  · rw [all_falseM hi' hb] at h; exact h
  · rw [List.take_length] at hj; rw [hj] at h; exact h
theorem areSeedRows_ok {s:List (List Int)} {Q:Bool→Prop} (h:Q (seedsIn s)):impl_areSeedRows s Q:=by
  unfold impl_areSeedRows
  refine jn_boolM (!decide (2≤s.length∧s.length≤8)) ?_ fun k hk=>br_dec (fun g=>?_) (fun g=>?_)
  · refine br_nb (fun g=>?_) (fun g=>?_)
    · unfold seedsIn at h; rw [g] at h; exact h
    · have gl:=of_decide_eq_true g
      unfold seedsIn at h; rw [g,Bool.true_and] at h
      refine loop1_list (by omega) (fun i=>(List.range i).all (rowIn s)=true) rfl (fun i nx hi hj hx=>idx_at hi ?_) (fun hj=>by rw [hj] at h; exact h)
      refine jn_boolM (!(decide (s[i].length=s.length)&&s[i].all (inbM 0 4611686016279904236))) ?_ fun k hk=>br_ne (fun g2=>?_) (fun g2=>areSeeds_ok (by unfold ln at g2; omega) ?_)
      · refine br_nb (fun g2=>?_) (fun g2=>?_)
        · rw [range_all_noM hi (by unfold rowIn; rw [getD_row hi,g2]; rfl)] at h; exact h
        · have g3:=g2
          simp only [Bool.and_eq_true,decide_eq_true_eq] at g3
          refine sym_loop (by omega) hi (fun j hj' hji=>?_) (fun gy=>hx (range_succ_all hj ?_)) (fun gn=>?_)
          · by_cases e:j=i
            · subst e; exact g3.1
            · exact rowIn_len hj' (range_all_of hj (show j<i by omega))
          · unfold rowIn; rw [getD_row hi,g2,gy]; rfl
          · rw [range_all_noM hi (by unfold rowIn; rw [getD_row hi,g2,gn]; rfl)] at h; exact h
      · rw [decide_eq_false (by unfold ln at g2; omega)] at hk; exact hk
      · rw [decide_eq_true (by unfold ln at g2; omega),Bool.true_and] at hk; exact hk
  · rw [decide_eq_false (by unfold ln at g; omega)] at hk; exact hk
  · rw [show (!decide (2≤s.length∧s.length≤8))=decide (ln s>8) from by
      rw [← decide_not]; congr 1; unfold ln at *; rw [eq_iff_iff]; omega] at hk
    exact hk
theorem allG_succ {α:Type} {p:α→Bool} {l:List α} {i:Nat} (hi:i<l.length) (h:(l.take i).all p=true) (hp:p l[i]=true):(l.take (i+1)).all p=true:=by
  rw [List.take_succ_eq_append_getElem hi,List.all_append,h]; simp [hp]
theorem allG_no {α:Type} {p:α→Bool} {l:List α} {i:Nat} (hi:i<l.length) (hp:p l[i]=false):l.all p=false:=by
  rw [List.all_eq_false]; exact ⟨l[i],List.getElem_mem hi,by simp [hp]⟩
def shRow (m:Int) (n:Nat) (r:List Int):Bool:=decide (r.length=n)&&isRes m r
def shN (s:List (List Int)):Nat:=(s.getD 0 []).length
def shIn (m:Int) (s:List (List Int)):Bool:=inbM 2 1000000007 m&&(decide (1≤s.length∧s.length≤8)&&s.all (shRow m (shN s)))
theorem shIn_of {m:Int} {s:List (List Int)} (h:shIn m s=true):(2≤m∧m≤1000000007)∧(1≤s.length∧s.length≤8)∧shN s≤600∧∀ r∈s,r.length=shN s∧resL m r:=by
  unfold shIn at h
  simp only [Bool.and_eq_true,decide_eq_true_eq] at h
  obtain ⟨h1,h2,h3⟩:=h
  have hr:∀ r∈s,r.length=shN s∧r.length≤600∧resL m r:=fun r hr=>by
    have:=List.all_eq_true.1 h3 r hr
    unfold shRow isRes at this
    simp only [Bool.and_eq_true,decide_eq_true_eq] at this
    exact ⟨this.1,this.2.1,inb_allM this.2.2⟩
  refine ⟨inb_iff.1 h1,h2,?_,fun r q=>⟨(hr r q).1,(hr r q).2.2⟩⟩
  have:=hr s[0] (List.getElem_mem (by omega))
  omega
theorem shN_at {s:List (List Int)} (h:0<s.length):s[0].length=shN s:=by unfold shN; rw [getD_row h]
theorem areShares_ok {m:Int} {s:List (List Int)} {Q:Bool→Prop} (h:Q (shIn m s)):impl_areShares m s Q:=by
  unfold impl_areShares
  refine jn_boolM (!(inbM 2 1000000007 m&&decide (1≤s.length∧s.length≤8))) ?_ fun k hk=>isModulus_ok (br_nb (fun g=>?_) (fun g=>br_dec (fun g1=>?_) (fun g1=>?_)))
  · refine br_nb (fun g=>?_) (fun g=>?_)
    · have:shIn m s=false:=by unfold shIn; rw [← Bool.and_assoc,g]; rfl
      rw [this] at h; exact h
    · have g':=g
      simp only [Bool.and_eq_true,decide_eq_true_eq] at g'
      have hm:=inb_iff.1 g'.1
      have e0:shIn m s=s.all (shRow m (shN s)):=by unfold shIn; rw [← Bool.and_assoc,g]; rfl
      rw [e0] at h
      refine loop1_list (by omega) (fun i=>(s.take i).all (shRow m (shN s))=true) (by simp) (fun i nx hi hj hx=>idx_at hi ?_) (fun hj=>by rw [List.take_length] at hj; rw [hj] at h; exact h)
      refine jn_boolM (!shRow m (shN s) s[i]) (br_nb (fun g=>?_) (fun g=>hx (allG_succ hi hj g))) fun k hk=>?_
      · rw [allG_no hi g] at h; exact h
      · refine idx_of (by omega) (by omega) (br_ne (fun g=>?_) (fun g=>areResidues_ok hm ?_))
        · have:=shN_at (s:=s) (by omega)
          unfold shRow at hk; rw [decide_eq_false (by unfold ln at g; simp at g; omega)] at hk; exact hk
        · have:=shN_at (s:=s) (by omega)
          unfold shRow at hk; rw [decide_eq_true (by unfold ln at g; simp at g; omega),Bool.true_and] at hk; exact hk
  · rw [show inbM 2 1000000007 m=false from g] at hk; exact hk
  · rw [decide_eq_false (by unfold ln at g1; omega)] at hk; simpa using hk
  · rw [show inbM 2 1000000007 m=true from g,Bool.true_and,show (!decide (1≤s.length∧s.length≤8))=decide (ln s>8) from by
      rw [← decide_not]; congr 1; unfold ln at *; rw [eq_iff_iff]; omega] at hk
    exact hk
def smGo (m:Int) (s:List (List Int)):Nat→List Int
  | 0=>List.replicate (shN s) 0
  | i+1=>cmb 1 m (smGo m s i) (s.getD i [])
def smOf (m:Int) (s:List (List Int)):List Int:=smGo m s s.length
theorem smGo_in {m:Int} {s:List (List Int)} (h:shIn m s=true):∀ i,i≤s.length→(smGo m s i).length=shN s∧resL m (smGo m s i)
  | 0,_=>⟨by simp [smGo],fun x hx=>by have:=List.eq_of_mem_replicate hx; have:=(shIn_of h).1; omega⟩
  | i+1,hi=>by
    have ih:=smGo_in h i (by omega)
    obtain ⟨hm,hl,hn,hr⟩:=shIn_of h
    have:=hr s[i] (List.getElem_mem (by omega))
    unfold smGo
    rw [getD_row (by omega)]
    exact ⟨by rw [cmb_length (by omega)]; exact ih.1,cmb_res hm.1⟩
theorem smOf_in {m:Int} {s:List (List Int)} (h:shIn m s=true):(smOf m s).length=shN s∧resL m (smOf m s):=smGo_in h _ (Nat.le_refl _)
theorem zeSum_ok {m:Int} {s:List (List Int)} {Q:List Int→Prop} (hs:shIn m s=true) (h:Q (smOf m s)):spec_zeSum m s Q:=by
  obtain ⟨hm,hl,hn,hr⟩:=shIn_of hs
  have h0:=shN_at (s:=s) (by omega)
  unfold spec_zeSum
  refine idx_of (by omega) (by omega) ⟨by unfold ln; omega,by unfold ln; simp; omega,?_⟩
  refine loop2_list (by omega) (fun out i=>out=smGo m s i) (by unfold ln; simp [smGo,h0]) (fun out i nx hi ho hx=>idx_at hi ?_) (fun out ho=>by rw [ho]; exact h)
  have hg:=smGo_in hs i (by omega)
  have hri:=hr s[i] (List.getElem_mem hi)
  refine zeAdd_ok hm (.inl rfl) (by rw [ho]; omega) (by rw [ho]; omega) (by rw [ho]; exact hg.2) hri.2 (hx _ ?_)
  rw [smGo,getD_row hi,ho]
theorem sumOfShares_ok {m:Int} {s:List (List Int)} {Q:List Int→Prop} (hs:shIn m s=true) (h:Q (smOf m s)):impl_sumOfShares m s Q:=by
  obtain ⟨hm,hl,hn,hr⟩:=shIn_of hs
  have h0:=shN_at (s:=s) (by omega)
  unfold impl_sumOfShares
  refine idx_of (by omega) (by omega) ⟨by unfold ln; omega,by unfold ln; simp; omega,?_⟩
  refine loop2_list (by omega) (fun out i=>out=smGo m s i) (by unfold ln; simp [smGo,h0]) (fun out i nx hi ho hx=>idx_at hi ?_) (fun out ho=>by rw [ho]; exact h)
  have hg:=smGo_in hs i (by omega)
  have hri:=hr s[i] (List.getElem_mem hi)
  refine combine_ok hm (.inl rfl) (by rw [ho]; omega) (by rw [ho]; omega) (by rw [ho]; exact hg.2) hri.2 (hx _ ?_)
  rw [smGo,getD_row hi,ho]
def lastOf (l:List Int) (i:Nat):Int:=if i=0 then -1 else l.getD (i-1) 0
def riseAt (l:List Int) (n:Int) (i:Nat):Bool:=decide (lastOf l i<l.getD i 0∧l.getD i 0<n)
def rise (l:List Int) (n:Int):Bool:=(List.range l.length).all (riseAt l n)
theorem rise_pos {l:List Int} {n:Int} {k:Nat} (hk:k≤l.length) (h:(List.range k).all (riseAt l n)=true):∀ i,i<k→0≤l.getD i 0∧l.getD i 0<n
  | 0,hi=>by
    have:=of_decide_eq_true (range_all_of h hi)
    unfold lastOf at this; rw [if_pos rfl] at this; omega
  | i+1,hi=>by
    have ih:=rise_pos hk h i (by omega)
    have:=of_decide_eq_true (range_all_of h hi)
    unfold lastOf at this; rw [if_neg (by omega),Nat.add_sub_cancel] at this; omega
theorem rise_all {l:List Int} {n:Int} (h:rise l n=true):∀ x∈l,0≤x∧x<n:=fun x hx=>by
  obtain ⟨i,hi,rfl⟩:=List.mem_iff_getElem.1 hx
  have:=rise_pos (Nat.le_refl _) h i hi
  rw [getD_at hi] at this; exact this
theorem areIndices_ok {l:List Int} {n:Int} {Q:Bool→Prop} (hl:l.length≤1048576) (h:Q (rise l n)):impl_areIndices l n Q:=by
  unfold impl_areIndices
  refine loop2_list (by omega) (fun last i=>last=lastOf l i∧(List.range i).all (riseAt l n)=true) ⟨rfl,rfl⟩ (fun last i nx hi ⟨h1,h2⟩ hx=>idx_at hi ?_) (fun last ⟨h1,h2⟩=>by unfold rise at h; rw [h2] at h; exact h)
  refine jn_boolM (!riseAt l n i) (br_nb (fun g=>?_) (fun g=>hx _ ⟨?_,range_succ_all h2 g⟩)) fun k hk=>br_dec (fun g=>?_) (fun g=>?_)
  · unfold rise at h; rw [range_all_noM hi g] at h; exact h
  · unfold lastOf; rw [if_neg (by omega),Nat.add_sub_cancel,getD_at hi]
  · unfold riseAt at hk; rw [getD_at hi,decide_eq_false (by omega)] at hk; exact hk
  · rw [show (!riseAt l n i)=decide (l[i]≥n) from by unfold riseAt; rw [getD_at hi,← decide_not]; congr 1; rw [eq_iff_iff]; omega] at hk
    exact hk
def presIn (s:List (List Int)) (p:List Int):Bool:=seedsIn s&&(decide (0<p.length)&&rise p s.length)
theorem arePresent_ok {s:List (List Int)} {p:List Int} {Q:Bool→Prop} (hp:p.length≤1048576) (h:Q (decide (0<p.length)&&rise p s.length)):impl_arePresent s p Q:=by
  unfold impl_arePresent
  refine jn_boolM _ h fun k hk=>br_dec (fun g1=>areIndices_ok hp ?_) (fun g1=>?_)
  · rw [decide_eq_true (by unfold ln at g1; omega)] at hk; exact hk
  · rw [decide_eq_false (by unfold ln at g1; omega)] at hk; exact hk
def rpGo (s:List (List Int)) (p:List Int) (round n m:Int):Nat→List Int
  | 0=>List.replicate n.toNat 0
  | j+1=>cmb 1 m (rpGo s p round n m j) (mkOf s (p.getD j 0) round n m)
def rpOf (s:List (List Int)) (p:List Int) (round n m:Int):List Int:=rpGo s p round n m p.length
theorem rpGo_in {s:List (List Int)} {p:List Int} {round n m:Int} (hm:2≤m):∀ j,(rpGo s p round n m j).length=n.toNat∧resL m (rpGo s p round n m j)
  | 0=>⟨by simp [rpGo],fun x hx=>by have:=List.eq_of_mem_replicate hx; omega⟩
  | j+1=>by
    have ih:=rpGo_in (s:=s) (p:=p) (round:=round) (n:=n) hm j
    unfold rpGo
    exact ⟨by rw [cmb_length (by rw [ih.1,mkOf_length])]; exact ih.1,cmb_res hm⟩
theorem pres_at {s:List (List Int)} {p:List Int} (hp:presIn s p=true):(s.length≤8∧∀ r∈s,r.length=s.length)∧∀ x∈p,0≤x∧x<s.length:=by
  unfold presIn at hp
  simp only [Bool.and_eq_true] at hp
  have:=seedsIn_of hp.1
  exact ⟨⟨this.1.2,this.2⟩,rise_all hp.2.2⟩
section
variable {s:List (List Int)} {p:List Int} {round n m:Int} {Q:List Int→Prop} (hp:presIn s p=true) (hpl:p.length≤1048576) (hn:0≤n∧n≤600) (hm:2≤m∧m≤1000000007)
include hp hpl hn hm
theorem maskRepair_ok (h:Q (rpOf s p round n m)):impl_maskRepair s p round n m Q:=by
  obtain ⟨h1,h2⟩:=pres_at hp
  unfold impl_maskRepair
  refine ⟨hn.1,by omega,?_⟩
  refine loop2_list (by omega) (fun out j=>out=rpGo s p round n m j) rfl (fun out j nx hj ho hx=>idx_at hj ?_) (fun out ho=>by rw [ho]; exact h)
  have hg:=rpGo_in (s:=s) (p:=p) (round:=round) (n:=n) hm.1 j
  refine maskOf_ok h1 (h2 _ (List.getElem_mem hj)) hn hm (combine_ok hm (.inl rfl) (by rw [ho]; omega) (by rw [ho,mkOf_length]; exact hg.1) (by rw [ho]; exact hg.2) (mkOf_res hm.1) (hx _ ?_))
  rw [rpGo,getD_at hj,ho]
end
def sfIn (s:List (List Int)) (i round m:Int) (l:List Int):Bool:=seedsIn s&&(decide ((0≤i∧i<s.length)∧(0≤round∧round≤1000000)∧(2≤m∧m≤1000000007))&&isRes m l)
def sfOf (s:List (List Int)) (i round m:Int) (l:List Int):List Int:=if sfIn s i round m l then cmb 1 m l (mkOf s i round l.length m) else []
theorem sfIn_of {s:List (List Int)} {i round m:Int} {l:List Int} (h:sfIn s i round m l=true):(s.length≤8∧∀ r∈s,r.length=s.length)∧(0≤i∧i<s.length)∧(2≤m∧m≤1000000007)∧l.length≤600∧resL m l:=by
  unfold sfIn isRes at h
  simp only [Bool.and_eq_true,decide_eq_true_eq] at h
  have:=seedsIn_of h.1
  exact ⟨⟨this.1.2,this.2⟩,h.2.1.1,h.2.1.2.2,h.2.2.1,inb_allM h.2.2.2⟩
theorem cmb_comm {m:Int} {a b:List Int}:cmb 1 m a b=cmb 1 m b a:=by
  unfold cmb
  rw [List.zipWith_comm]
  congr 1
  funext x y
  rw [Int.one_mul,Int.one_mul,Int.add_comm]
theorem round_eq {round n m:Int}:(inbM 0 1000000 round&&(inbM 0 600 n&&inbM 2 1000000007 m))=decide ((0≤round∧round≤1000000)∧(0≤n∧n≤600)∧(2≤m∧m≤1000000007)):=by
  unfold inbM; rw [Bool.eq_iff_iff]; simp only [Bool.and_eq_true,decide_eq_true_eq]
theorem specSf_ok {s:List (List Int)} {i round m:Int} {l:List Int} {Q:List Int→Bool→Prop} (hs:small s) (h:Q (sfOf s i round m l) (sfIn s i round m l)):spec_ShareOf s i round m l Q:=by
  unfold spec_ShareOf
  refine jn_boolM (!sfIn s i round m l) ?_ fun c hk=>zeSeeds_ok hs (br_nb (fun g=>?_) (fun g=>l1In_ok (br_nb (fun g1=>?_) (fun g1=>zeRound_ok (br_nb (fun g2=>?_) (fun g2=>?_))))))
  · refine br_nb (fun g=>?_) (fun g=>?_)
    · unfold sfOf at h; rw [g] at h; simpa using h
    · obtain ⟨h1,h2,h3,h4,h5⟩:=sfIn_of g
      unfold spec_zeShare
      refine zeMaskOf_ok h1 h2 (by unfold ln; omega) h3 (zeAdd_ok h3 (.inl rfl) (by omega) (by rw [mkOf_length]; unfold ln; omega) h5 (mkOf_res h3.1) ?_)
      unfold sfOf at h; rw [g] at h; simpa using h
  · unfold sfIn at hk; rw [g] at hk; exact hk
  · have:=inb_f g1
    have hl:=hs.1
    rw [wr_in (by unfold ln; omega) (by unfold ln; omega)] at this
    unfold sfIn at hk; rw [decide_eq_false (by unfold ln at this; omega)] at hk; simpa using hk
  · rw [round_eq] at g2
    have:=of_decide_eq_false g2
    unfold sfIn at hk; rw [decide_eq_false (by omega)] at hk; simpa using hk
  · rw [round_eq] at g2
    have e2:=of_decide_eq_true g2
    have e1:=inb_iff.1 g1
    have hl:=hs.1
    rw [wr_in (by unfold ln; omega) (by unfold ln; omega)] at e1
    refine zeValues_ok (by omega) ?_
    unfold sfIn at hk; rw [g,Bool.true_and,decide_eq_true (by unfold ln at e1; omega),Bool.true_and] at hk
    exact hk
theorem implSf_ok {s:List (List Int)} {i round m:Int} {l:List Int} {Q:List Int→Bool→Prop} (h:Q (sfOf s i round m l) (sfIn s i round m l)):impl_ShareOf s i round m l Q:=by
  unfold impl_ShareOf
  refine jn_boolM (!sfIn s i round m l) ?_ fun c hk=>areSeedRows_ok (br_nb (fun g=>?_) (fun g=>br_dec (fun g1=>?_) (fun g1=>br_dec (fun g2=>?_) (fun g2=>isRound_ok (br_nb (fun g3=>?_) (fun g3=>isModulus_ok (br_nb (fun g4=>?_) (fun g4=>areResidues_ok (inb_iff.1 g4) ?_))))))))
  · refine br_nb (fun g=>?_) (fun g=>?_)
    · unfold sfOf at h; rw [g] at h; simpa using h
    · obtain ⟨h1,h2,h3,h4,h5⟩:=sfIn_of g
      unfold impl_shareOf
      refine maskOf_ok h1 h2 (by unfold ln; omega) h3 (combine_ok h3 (.inl rfl) (by rw [mkOf_length]; unfold ln; omega) (by rw [mkOf_length]; unfold ln; omega) (mkOf_res h3.1) h5 ?_)
      unfold sfOf at h; rw [g,cmb_comm] at h; simpa using h
  · unfold sfIn at hk; rw [g] at hk; exact hk
  · unfold sfIn at hk; rw [decide_eq_false (by omega)] at hk; simpa using hk
  · unfold sfIn at hk; rw [decide_eq_false (by unfold ln at g2; omega)] at hk; simpa using hk
  · have:=inb_f g3
    unfold sfIn at hk; rw [decide_eq_false (by omega)] at hk; simpa using hk
  · have:=inb_f g4
    unfold sfIn at hk; rw [decide_eq_false (by omega)] at hk; simpa using hk
  · have e3:=inb_iff.1 g3
    have e4:=inb_iff.1 g4
    unfold sfIn at hk; rw [g,Bool.true_and,decide_eq_true (by unfold ln at g2; omega),Bool.true_and] at hk
    exact hk
theorem sfOf_length (s:List (List Int)) (i round m:Int) (l:List Int):(sfOf s i round m l).length≤600:=by
  unfold sfOf
  split
  · rename_i g
    have h1:=(sfIn_of g).2.2.2.1
    rw [cmb_length (by rw [mkOf_length]; omega)]; omega
  · simp
end Go.Proofs.YtbgnaamdlcggjaaGreat
