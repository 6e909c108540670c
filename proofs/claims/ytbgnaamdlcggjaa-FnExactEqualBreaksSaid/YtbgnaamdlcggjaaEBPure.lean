/- The plain law of EqualBreaks: both sort, and of reduced fractions there is one sorted list. -/
import Derived.Test.YtbgnaamdlcggjaaClPure
set_option linter.unusedVariables false
set_option autoImplicit false
namespace Go.Proofs.Ytbgnaamdlcggjaa
open Go Go.RowKit Go.Gv
def fle (a b:Frac):Prop:=¬ cmpF b a<0
theorem fle_iff {a b:Frac}:fle a b↔a.Num * b.Den≤b.Num * a.Den:=by
  unfold fle cmpF
  split
  · simp only [Int.reduceNeg,Int.reduceLT,not_true,false_iff]; omega
  · split
    · simp only [Int.reduceLT,not_false_iff,true_iff]; omega
    · simp only [Int.reduceLT,not_false_iff,true_iff]; omega
theorem cross_trans {a b c x y z:Int} (hx:1≤x) (hy:1≤y) (hz:1≤z) (h1:a * y≤b * x) (h2:b * z≤c * y):a * z≤c * x:=by
  have e1:a * y * z≤b * x * z:=Int.mul_le_mul_of_nonneg_right h1 (by omega)
  have e2:b * z * x≤c * y * x:=Int.mul_le_mul_of_nonneg_right h2 (by omega)
  have e3:b * x * z=b * z * x:=Int.mul_right_comm b x z
  have e4:(a * z) * y≤(c * x) * y:=by
    rw [Int.mul_right_comm a z y,Int.mul_right_comm c x y]; omega
  exact Int.le_of_mul_le_mul_right e4 (by omega)
theorem fle_trans {a b c:Frac} (ha:fOk a) (hb:fOk b) (hc:fOk c) (h1:fle a b) (h2:fle b c):fle a c :=
  fle_iff.2 (cross_trans ha.1.1 hb.1.1 hc.1.1 (fle_iff.1 h1) (fle_iff.1 h2))
theorem dvd_of_gcd {a b c:Int} (h:Int.gcd a b=1) (d:b ∣ a * c):b ∣ c:=by
  rw [← Int.natAbs_dvd_natAbs] at d ⊢
  rw [Int.natAbs_mul] at d
  exact Nat.Coprime.dvd_of_dvd_mul_left (by rw [Nat.Coprime,Nat.gcd_comm]; exact h) d
theorem fle_anti {a b:Frac} (ha:fOk a) (hb:fOk b) (h1:fle a b) (h2:fle b a):a=b:=by
  have e:a.Num * b.Den=b.Num * a.Den:=Int.le_antisymm (fle_iff.1 h1) (fle_iff.1 h2)
  have d1:a.Den ∣ b.Den:=by
    have:a.Den ∣ a.Num * b.Den:=by rw [e]; exact Int.dvd_mul_left _ _
    exact dvd_of_gcd ha.2.2 this
  have d2:b.Den ∣ a.Den:=by
    have:b.Den ∣ b.Num * a.Den:=by rw [← e]; exact Int.dvd_mul_left _ _
    exact dvd_of_gcd hb.2.2 this
  have hd:a.Den=b.Den:=Int.dvd_antisymm (by have:=ha.1.1; omega) (by have:=hb.1.1; omega) d1 d2
  have hn:a.Num=b.Num:=by rw [hd] at e; exact Int.eq_of_mul_eq_mul_right (by have:=hb.1.1; omega) e
  cases a; cases b; simp_all
theorem swap_adj {α:Type}:∀ {l:List α} {k:Nat} (h:k+1<l.length),((l.set (k+1) l[k]).set k l[k+1]).Perm l
  | a :: b :: t,0,_=>by simpa using List.Perm.swap a b t
  | a :: t,k+1,h=>by
    have ih:=swap_adj (l:=t) (k:=k) (by simpa using h)
    simpa using ih.cons a
/-- Up to i, all but the place k stand in order. -/
def sIn (l out:List Frac) (i k:Nat):Prop:=out.Perm l∧∀ p q,p<q→q≤i→q≠k→fle (fAt out p) (fAt out q)
def sOut (l out:List Frac) (i:Nat):Prop:=out.Perm l∧∀ p q,p<q→q<i→fle (fAt out p) (fAt out q)
theorem oSorted_ok {l:List Frac} {Q:List Frac→Prop} (hl:l.length≤100) (hf:∀ f∈l,fOk f) (h:∀ o,o.Perm l→o.Pairwise fle→Q o):spec_oSorted l Q:=by
  unfold spec_oSorted
  refine ⟨by unfold ln; simp; omega,?_⟩
  rw [List.nil_append]
  refine loop2_list (by omega) (fun out i=>sOut l out i) ⟨List.Perm.refl _,fun p q h1 h2=>by omega⟩ (fun out i nx hi ⟨hp,hs⟩ hx=>?_) (fun out ⟨hp,hs⟩=>h out hp ?_)
  · refine ⟨fun out2 k=>∃ j:Nat,k=(j:Int)∧j≤i∧sIn l out2 i j,fun _ k=>k.toNat,⟨i,rfl,Nat.le_refl _,hp,fun p q h1 h2 h3=>hs p q h1 (by omega)⟩,?_⟩
    rintro o2 k ⟨j,rfl,hj,hp2,hs2⟩
    have hlen:=hp2.length_eq
    have hj2:j<o2.length:=by omega
    have ok:∀ p,p<o2.length→fOk (fAt o2 p):=fun p h2=>by rw [fAt_at h2]; exact hf _ (hp2.subset (List.getElem_mem h2))
    have hbr:∀ (b:Bool),(b=true→0<j∧cmpF (fAt o2 (j-1)) (fAt o2 j)>0)→(b=false→j=0∨0<j∧fle (fAt o2 (j-1)) (fAt o2 j)) →
        br b (idx o2 (j:Int) fun x73=>idx o2 (wr ((j:Int)-1)) fun x90=>(0:Int)≤(j:Int)∧Int.toNat (j:Int)<List.length o2∧((0:Int)≤(wr ((j:Int)-1))∧Int.toNat (wr ((j:Int)-1))<List.length (List.set o2 (Int.toNat (j:Int)) x90) ∧
          ((∃ j':Nat,wr ((j:Int)-1)=(j':Int)∧j'≤i∧sIn l (List.set (List.set o2 (Int.toNat (j:Int)) x90) (Int.toNat (wr ((j:Int)-1))) ((Frac.mk x73.Num x73.Den))) i j')∧(wr ((j:Int)-1)).toNat<(j:Int).toNat)))
          (nx o2 (wr ((i:Int)+1))):=by
      intro b ht hff
      refine br_bo (fun g=>?_) (fun g=>hx _ ⟨hp2,fun p q h1 h2=>?_⟩)
      · obtain ⟨h0,hc⟩:=ht g
        obtain ⟨t,rfl⟩:∃ t,j=t+1:=⟨j-1,by omega⟩
        have hw:wr (((t+1:Nat):Int)-1)=(t:Int):=by rw [wr_in (by omega) (by omega)]; omega
        rw [hw]
        refine idx_at hj2 (idx_at (show t<o2.length by omega) ⟨by omega,by simpa using hj2,by omega,by simp; omega,⟨t,rfl,by omega,?_⟩,by omega⟩)
        simp only [Int.toNat_natCast]
        rw [show (Frac.mk o2[t+1].Num o2[t+1].Den)=o2[t+1] from rfl]
        have hsw:=swap_adj (l:=o2) (k:=t) hj2
        refine ⟨hsw.trans hp2,fun p q h1 h2 h3=>?_⟩
        have at_:∀ p,p<o2.length→fAt ((o2.set (t+1) o2[t]).set t o2[t+1]) p=if p=t then fAt o2 (t+1) else if p=t+1 then fAt o2 t else fAt o2 p:=fun p hp'=>by
          rw [fAt_at (by simpa using hp'),List.getElem_set,List.getElem_set]
          by_cases e:p=t
          · subst e; rw [if_pos rfl,if_pos rfl,fAt_at hj2]
          · rw [if_neg (by omega),if_neg e]
            by_cases e2:p=t+1
            · subst e2; rw [if_pos rfl,if_pos rfl,fAt_at (by omega)]
            · rw [if_neg (by omega),if_neg e2,fAt_at hp']
        have hlt:fle (fAt o2 (t+1)) (fAt o2 t):=by
          unfold fle
          simp only [Nat.add_sub_cancel] at hc
          omega
        rw [at_ p (by omega),at_ q (by omega),if_neg h3]
        by_cases e1:q=t+1
        · rw [if_pos e1]
          by_cases e2:p=t
          · rw [if_pos e2]; exact hlt
          · rw [if_neg e2,if_neg (by omega)]; exact hs2 p t (by omega) (by omega) (by omega)
        · rw [if_neg e1]
          by_cases e2:p=t
          · rw [if_pos e2]; exact hs2 (t+1) q (by omega) h2 e1
          · rw [if_neg e2]
            by_cases e3:p=t+1
            · rw [if_pos e3]; exact hs2 t q (by omega) h2 e1
            · rw [if_neg e3]; exact hs2 p q h1 h2 e1
      · rcases hff g with h0 | ⟨h0,hc⟩
        · exact hs2 p q h1 (by omega) (by omega)
        · by_cases e:q=j
          · subst e
            by_cases e2:p=q-1
            · rw [e2]; exact hc
            · exact fle_trans (ok p (by omega)) (ok (q-1) (by omega)) (ok q hj2) (hs2 p (q-1) (by omega) (by omega) (by omega)) hc
          · exact hs2 p q h1 (by omega) e
    refine br_dec (fun g=>?_) (fun g=>?_)
    · have h0:0<j:=by omega
      have hw:wr ((j:Int)-1)=((j-1:Nat):Int):=by rw [wr_in (by omega) (by omega)]; omega
      rw [hw] at hbr ⊢
      refine idx_at (show j-1<o2.length by omega) (idx_at hj2 ⟨_,fCmp_ok (hf _ (hp2.subset (List.getElem_mem _))) (hf _ (hp2.subset (List.getElem_mem _))) rfl,hbr _ (fun c=>⟨h0,?_⟩) (fun c => .inr ⟨h0,?_⟩)⟩)
      · rw [fAt_at hj2,fAt_at (show j-1<o2.length by omega)]; exact of_decide_eq_true c
      · have:=of_decide_eq_false c
        rw [fAt_at hj2,fAt_at (show j-1<o2.length by omega)]
        unfold fle
        rw [cmpF_swap]; omega
    · exact hbr _ (fun c=>by cases c) (fun _ => .inl (by omega))
  · rw [List.pairwise_iff_getElem]
    intro p q hp1 hq1 hpq
    have:=hs p q hpq (by rw [← hp.length_eq]; exact hq1)
    rw [fAt_at hp1,fAt_at hq1] at this
    exact this
theorem sort_uniq {l o:List Frac} (hf:∀ f∈l,fOk f) (hp:o.Perm l) (hs:o.Pairwise fle) {o':List Frac} (hp':o'.Perm l) (hs':o'.Pairwise fle):o'=o :=
  List.Perm.eq_of_pairwise (le:=fle) (fun a b ha hb h1 h2=>fle_anti (hf _ (hp'.subset ha)) (hf _ (hp.subset hb)) h1 h2) hs' hs (hp'.trans hp.symm)
theorem isort_ok {l:List Frac} {Q:List Frac→Prop} (hl:l.length≤100) (hf:∀ f∈l,fOk f) (h:∀ o,o.Perm l→o.Pairwise fle→Q o):sortq (fun x y K=>impl_cmpFrac x y K) l Q:=by
  refine ⟨fOk,cmpF,hf,fun x y hx hy=>cmpFrac_ok hx hy rfl,⟨fun x _=>?_,fun x y z hx hy hz h1 h2=>?_,fun x y z hx hy hz h1 h2=>?_⟩,by omega,h⟩
  · unfold cmpF; split
    · omega
    · first | omega | (split <;> omega)
  · have e1:¬ fle y x:=fun c=>c h1
    have e2:¬ fle z y:=fun c=>c h2
    have a1:fle x y:=by rw [fle_iff] at e1 ⊢; omega
    have a2:fle y z:=by rw [fle_iff] at e2 ⊢; omega
    have:¬ fle z x:=fun c=>e1 (fle_trans hy hz hx a2 c)
    unfold fle at this
    omega
  · exact fle_trans hz hy hx h2 h1
def ebIn (l:List Frac) (k:Int):Bool:=(allF l&&decide (l.length≤100))&&(decide (0<l.length)&&decide (2≤k∧k≤8))
def ebAt (o:List Frac) (k:Int) (j:Nat):Frac:=fAt o (((j:Int)+1) * o.length / k).toNat
def ebOf (o:List Frac) (k:Int):List Frac:=(List.range (k.toNat-1)).map (ebAt o k)
theorem eb_ix {n:Nat} {k:Int} {i:Int} (hn:n≤100) (hk:2≤k∧k≤8) (h0:0≤i) (hi:i<k) (hp:0<n):wr (Int.tdiv (wr (i * (n:Int))) k)=i * n / k∧(i * n / k).toNat<n∧0≤i * n / k:=by
  have b1:i * (n:Int)≤8 * 100:=Int.mul_le_mul (by omega) (by omega) (by omega) (by omega)
  have b0:0≤i * (n:Int):=Int.mul_nonneg h0 (by omega)
  rw [wr_in (x:=i * (n:Int)) (by omega) (by omega),Int.tdiv_eq_ediv_of_nonneg b0]
  have c0:0≤i * (n:Int) / k:=Int.ediv_nonneg b0 (by omega)
  have c1:i * (n:Int) / k<n:=Int.ediv_lt_of_lt_mul (by omega) (by rw [Int.mul_comm]; exact Int.mul_lt_mul_of_pos_left hi (by omega))
  exact ⟨wr_in (by omega) (by omega),by omega,c0⟩
theorem sEb_ok {l:List Frac} {k:Int} {Q:List Frac→Bool→Prop} (hl:l.length≤1048576) (h:∀ o,(ebIn l k=true→o.Perm l∧o.Pairwise fle)→Q (if ebIn l k then ebOf o k else []) (ebIn l k)):spec_EqualBreaks l k Q:=by
  unfold spec_EqualBreaks
  refine jn_bool (!ebIn l k) (br_nb (fun g=>?_) (fun g=>?_)) fun c hk=>oFracs_ok hl (br_nb (fun g=>?_) (fun g=>br_eq (fun g1=>?_) (fun g1=>l1In_ok ?_)))
  · have:=h [] (by rw [g]; intro c; cases c); rw [g] at this; exact this
  · have gg:=g
    unfold ebIn at gg
    simp only [Bool.and_eq_true,decide_eq_true_eq] at gg
    have hf:=allF_of gg.1.1
    refine oSorted_ok gg.1.2 hf fun o hp hs=>?_
    have hq:=h o fun _=>⟨hp,hs⟩
    rw [g,if_pos rfl] at hq
    have hn:=hp.length_eq
    have hn':ln o=(o.length:Int):=rfl
    refine ⟨fun out i=>∃ j:Nat,i=(j:Int)+1∧(j:Int)+1≤k∧out=(List.range j).map (ebAt o k),fun _ i=>k.toNat-i.toNat,⟨0,rfl,by omega,rfl⟩,?_⟩
    rintro out i ⟨j,rfl,hj,rfl⟩
    refine br_dec (fun g2=>⟨by omega,?_⟩) (fun g2=>?_)
    · obtain ⟨e1,e2,e3⟩:=eb_ix (n:=o.length) (k:=k) (i:=(j:Int)+1) (by omega) gg.2.2 (by omega) g2 (by omega)
      rw [hn',e1]
      refine idx_of e3 e2 ⟨by unfold ln; simp; omega,?_⟩
      rw [wr_in (by omega) (by omega)]
      refine ⟨⟨j+1,by omega,by omega,?_⟩,by show k.toNat-((j:Int)+1+1).toNat<k.toNat-((j:Int)+1).toNat; omega⟩
      rw [List.range_succ,List.map_append,List.map_singleton]
      congr 2
      unfold ebAt
      rw [fAt_at e2]
    · have:j=k.toNat-1:=by omega
      subst this
      exact hq
  · unfold ebIn at hk
    have:(allF l&&decide (l.length≤100))=false:=by rw [← g]; congr 1; rw [Bool.eq_iff_iff]; simp only [decide_eq_true_eq]; omega
    rw [this,Bool.false_and] at hk; exact hk
  · unfold ebIn at hk
    rw [show decide (0<l.length)=false from decide_eq_false (by unfold ln at g1; omega),Bool.false_and,Bool.and_false] at hk; exact hk
  · unfold ebIn at hk
    have e1:(allF l&&decide (l.length≤100))=true:=by rw [← g]; congr 1; rw [Bool.eq_iff_iff]; simp only [decide_eq_true_eq]; omega
    rw [e1,decide_eq_true (by unfold ln at g1; omega:0<l.length),Bool.true_and,Bool.true_and] at hk
    rw [show (decide (2≤k)&&decide (k≤8))=decide (2≤k∧k≤8) from by rw [Bool.eq_iff_iff]; simp]
    exact hk
theorem clone_ok {l:List Frac} {Q:List Frac→Prop} (hl:l.length≤1048576) (h:Q l):slices_Clone_impl_Frac_impl_Frac l Q:=by
  intro z hz
  refine br_bo (fun g=>?_) (fun _=>⟨by unfold ln; simp; omega,by simpa using h⟩)
  rw [hz g] at h; exact h
theorem iEb_ok {l:List Frac} {k:Int} {Q:List Frac→Bool→Prop} (hl:l.length≤1048576) (h:∀ o,(ebIn l k=true→o.Perm l∧o.Pairwise fle)→Q (if ebIn l k then ebOf o k else []) (ebIn l k)):impl_EqualBreaks l k Q:=by
  unfold impl_EqualBreaks
  refine jn_bool (!ebIn l k) (br_nb (fun g=>?_) (fun g=>clone_ok hl ?_)) fun c hk=>br_dec (fun g=>?_) (fun g=>br_dec (fun g1=>?_) (fun g1=>areFracs_ok hl (br_nb (fun g2=>?_) (fun g2=>br_dec (fun g3=>?_) (fun g3=>?_)))))
  · have:=h [] (by rw [g]; intro c; cases c); rw [g] at this; exact this
  · have gg:=g
    unfold ebIn at gg
    simp only [Bool.and_eq_true,decide_eq_true_eq] at gg
    have hf:=allF_of gg.1.1
    refine isort_ok gg.1.2 hf fun o hp hs=>?_
    have hq:=h o fun _=>⟨hp,hs⟩
    rw [g,if_pos rfl] at hq
    have hn:=hp.length_eq
    have hn':ln l=(o.length:Int):=by unfold ln; omega
    rw [wr_in (x:=k-1) (by omega) (by omega)]
    refine ⟨by omega,by omega,?_⟩
    refine loop2_list (xs:=List.replicate (k-1).toNat (Frac.mk 0 0)) (by simp; omega) (fun out j=>out.length=(k-1).toNat∧out.take j=(List.range j).map (ebAt o k)) ⟨by simp,by simp⟩ (fun out j nx hj ⟨h1,h2⟩ hx=>⟨by omega,?_⟩) (fun out ⟨h1,h2⟩=>?_)
    · rw [List.length_replicate] at hj
      have hw:wr ((j:Int)+1)=(j:Int)+1:=wr_in (by omega) (by omega)
      rw [hw]
      obtain ⟨e1,e2,e3⟩:=eb_ix (n:=o.length) (k:=k) (i:=(j:Int)+1) (by omega) gg.2.2 (by omega) (by omega) (by omega)
      rw [hn',e1]
      refine idx_of e3 e2 ⟨by omega,by simpa [h1] using hj,?_⟩
      have hfin:=hx (out.set (j:Int).toNat o[(((j:Int)+1) * (o.length:Int) / k).toNat]) ⟨by simpa using h1,?_⟩
      · rw [hw] at hfin; exact hfin
      rw [Int.toNat_natCast,List.range_succ,List.map_append,List.map_singleton,List.take_add_one,List.take_set_of_le (Nat.le_refl _),h2,List.getElem?_set_self (by omega)]
      simp only [Option.toList_some]
      congr 2
      unfold ebAt
      rw [fAt_at e2]
    · rw [List.length_replicate,← h1,List.take_length,h1] at h2
      rw [h2]
      have:(k-1).toNat=k.toNat-1:=by omega
      rw [this]
      exact hq
  · unfold ebIn at hk
    rw [show decide (0<l.length)=false from decide_eq_false (by unfold ln at g; omega),Bool.false_and,Bool.and_false] at hk; exact hk
  · unfold ebIn at hk
    rw [show decide (l.length≤100)=false from decide_eq_false (by unfold ln at g1; omega),Bool.and_false,Bool.false_and] at hk; exact hk
  · unfold ebIn at hk
    rw [g2,Bool.false_and,Bool.false_and] at hk; exact hk
  · unfold ebIn at hk
    rw [show decide (2≤k∧k≤8)=false from decide_eq_false (by omega),Bool.and_false,Bool.and_false] at hk; exact hk
  · unfold ebIn at hk
    rw [g2,decide_eq_true (by unfold ln at g1; omega:l.length≤100),decide_eq_true (by unfold ln at g; omega:0<l.length),Bool.true_and,Bool.true_and,Bool.true_and] at hk
    rw [show decide (k>8)=!decide (2≤k∧k≤8) from by rw [Bool.eq_iff_iff]; simp; omega]
    exact hk
theorem eb_same {l o o':List Frac} {k:Int} (h:ebIn l k=true→o.Perm l∧o.Pairwise fle) (h':ebIn l k=true→o'.Perm l∧o'.Pairwise fle):(if ebIn l k then ebOf o' k else [])=if ebIn l k then ebOf o k else []:=by
  by_cases g:ebIn l k=true
  · have gg:=g
    unfold ebIn at gg
    simp only [Bool.and_eq_true] at gg
    rw [sort_uniq (allF_of gg.1.1) (h g).1 (h g).2 (h' g).1 (h' g).2]
  · rw [if_neg g,if_neg g]
theorem lawEb (l:List Frac) (k:Int) (w0:Wf.wf l) (_:Wf.wf k):laws_FnExactEqualBreaks l k (fun r=>r=true):=by
  unfold laws_FnExactEqualBreaks
  refine szFracS_ok w0.1 (by omega) fun r hr hs=>br_dec (fun _=>rfl) (fun g=>?_)
  have hl:=hs (by omega)
  refine toFracS_ok hl (sEb_ok hl fun o ho=>toFracS_ok hl (iEb_ok hl fun o1 ho1=>?_))
  rw [eb_same ho ho1]
  have hlen:(if ebIn l k then ebOf o k else []).length≤100:=by
    split
    · rename_i c
      unfold ebIn at c
      simp only [Bool.and_eq_true,decide_eq_true_eq] at c
      unfold ebOf; simp; omega
    · simp
  have fin:∀ o2,(ebIn l k=true→o2.Perm l∧o2.Pairwise fle)→(if ebIn l k then ebOf o2 k else [])=if ebIn l k then ebOf o k else []:=fun o2 h2=>eb_same ho h2
  generalize (if ebIn l k then ebOf o k else [])=E at *
  refine jn_bool false ?_ fun c hk=>eqFracS_same (by omega) (br_false rfl (by simpa using hk))
  refine br_false rfl (toFracS_ok hl (eqFracS_same hl (br_false rfl (markFracS_ok hl (by omega) ?_))))
  refine jn_bool false ?_ fun c hk=>br_false (by simp; omega) (eqFracS_same (by omega) (br_false rfl (by simpa using hk)))
  refine br_false rfl (markFracS_ok (by omega) (by omega) (heldFracS_ok (by omega) (by omega) (br_false (by simp; omega) (br_false (by simp) ?_))))
  refine toFracS_ok hl (iEb_ok hl fun o2 ho2=>?_)
  rw [fin o2 ho2]
  refine jn_bool false ?_ fun c hk=>eqFracS_same (by omega) (br_false rfl (by simpa using hk))
  exact br_false rfl (heldFracS_ok (by omega) (by omega) (br_false (by simp; omega) (br_false (by simp) rfl)))
end Go.Proofs.Ytbgnaamdlcggjaa
