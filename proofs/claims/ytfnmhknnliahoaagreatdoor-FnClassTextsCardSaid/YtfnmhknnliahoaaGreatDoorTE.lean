/- Plain facts about lists of fractions: which are valid, classes, ranks, breaks (from wip/pure, wip/pureE). -/
import Derived.Test.YtfnmhknnliahoaaGreatDoorTD
set_option linter.unusedVariables false
set_option autoImplicit false
namespace Go.Proofs.YtfnmhknnliahoaaGreatDoor
open Go Go.RowKit Go.Gv
def allF (l:List Frac):Bool:=l.all fun f=>decide (fOk f)
theorem allF_of {l:List Frac} (h:allF l=true):∀ f∈l,fOk f:=fun f hf=>of_decide_eq_true (List.all_eq_true.1 h f hf)
theorem allF_succ {l:List Frac} {i:Nat} (hi:i<l.length) (h:allF (l.take i)=true) (hp:decide (fOk l[i])=true):allF (l.take (i+1))=true:=by
  unfold allF at *
  rw [List.take_succ_eq_append_getElem hi,List.all_append,h]; simpa using hp
theorem allF_no {l:List Frac} {i:Nat} (hi:i<l.length) (hp:decide (fOk l[i])=false):allF l=false:=by
  unfold allF
  rw [List.all_eq_false]; exact ⟨l[i],List.getElem_mem hi,by simpa using hp⟩
theorem oFracs_ok {l:List Frac} {most:Int} {Q:Bool→Prop} (hl:l.length≤1048576) (h:Q (allF l&&decide ((l.length:Int)≤most))):spec_oFracs l most Q:=by
  unfold spec_oFracs
  refine loop1_list (by omega) (fun i=>allF (l.take i)=true) (by simp [allF]) (fun i nx hi hj hx=>idx_at hi (fGood_ok' (br_nb (fun g=>?_) (fun g=>hx (allF_succ hi hj g))))) (fun hj=>?_)
  · rw [allF_no hi g] at h; exact h
  · rw [List.take_length] at hj; rw [hj,Bool.true_and] at h; exact h
theorem areFracs_ok {l:List Frac} {Q:Bool→Prop} (hl:l.length≤1048576) (h:Q (allF l)):impl_areFracs l Q:=by
  unfold impl_areFracs
  refine loop1_list (by omega) (fun i=>allF (l.take i)=true) (by simp [allF]) (fun i nx hi hj hx=>idx_at hi (isFrac_ok (br_nb (fun g=>?_) (fun g=>hx (allF_succ hi hj g))))) (fun hj=>?_)
  · rw [allF_no hi g] at h; exact h
  · rw [List.take_length] at hj; rw [hj] at h; exact h
theorem cmpF_swap (a b:Frac):cmpF a b = -cmpF b a:=by unfold cmpF; split <;> split <;> (try split) <;> omega
def cntF (p:Frac→Bool) (l:List Frac) (j:Nat):Int:=((l.take j).countP p:Nat)
theorem cntF_succ {p:Frac→Bool} {l:List Frac} {j:Nat} (hj:j<l.length):cntF p l (j+1)=cntF p l j+if p l[j] then 1 else 0:=by
  unfold cntF
  rw [List.take_succ_eq_append_getElem hj,List.countP_append]
  cases h:p l[j] <;> simp [h]
theorem cntF_le {p:Frac→Bool} {l:List Frac} {j:Nat}:0≤cntF p l j∧cntF p l j≤j:=by
  unfold cntF
  have h1:=List.countP_le_length (p:=p) (l:=l.take j)
  rw [List.length_take] at h1; omega
def fAt (l:List Frac) (i:Nat):Frac:=l.getD i ⟨0,0⟩
theorem fAt_at {l:List Frac} {i:Nat} (h:i<l.length):fAt l i=l[i]:=by unfold fAt; simp [List.getD_eq_getElem?_getD,h]
def srtAt (l:List Frac) (i:Nat):Bool:=decide (i=0) || !decide (cmpF (fAt l (i-1)) (fAt l i)>0)
def srt (l:List Frac):Bool:=(List.range l.length).all (srtAt l)
theorem rngAll_succ {p:Nat→Bool} {i:Nat} (h:(List.range i).all p=true) (hp:p i=true):(List.range (i+1)).all p=true:=by
  rw [List.range_succ,List.all_append,h]; simp [hp]
theorem rngAll_no {p:Nat→Bool} {i n:Nat} (hi:i<n) (hp:p i=false):(List.range n).all p=false:=by
  rw [List.all_eq_false]; exact ⟨i,List.mem_range.2 hi,by simp [hp]⟩
def leF (v w:Frac):Bool:=decide (cmpF w v≤0)
def clIn0 (l:List Frac) (v:Frac):Bool:=(allF l&&decide ((l.length:Int)≤7))&&decide (fOk v)
def clIn (l:List Frac) (v:Frac):Bool:=clIn0 l v&&srt l
def clOf (l:List Frac) (v:Frac):Int:=if clIn l v then cntF (leF v) l l.length else 0
theorem clIn0_of {l:List Frac} {v:Frac} (h:clIn0 l v=true):(∀ f∈l,fOk f)∧l.length≤7∧fOk v:=by
  unfold clIn0 at h
  simp only [Bool.and_eq_true,decide_eq_true_eq] at h
  exact ⟨allF_of h.1.1,by omega,h.2⟩
theorem sorted_ok {l:List Frac} {Q:Bool→Prop} (hl:l.length≤1048576) (hf:∀ f∈l,fOk f) (h:Q (srt l)):slices_IsSortedFunc_impl_Frac_impl_Frac_impl_cmpFrac l Q:=by
  unfold slices_IsSortedFunc_impl_Frac_impl_Frac_impl_cmpFrac
  rw [wr_in (by unfold ln; omega) (by unfold ln; omega)]
  refine ⟨fun i => -1≤i∧i<l.length∧∀ k:Nat,i<k→k<l.length→srtAt l k=true,fun i=>i.toNat,⟨by unfold ln; omega,by unfold ln; omega,fun k h1 h2=>by unfold ln at h1; omega⟩,fun i ⟨h1,h2,h3⟩=>br_dec (fun g=>?_) (fun g=>?_)⟩
  · rw [wr_in (x:=i-1) (by omega) (by omega)]
    have a1:i.toNat<l.length:=by omega
    have a2:(i-1).toNat<l.length:=by omega
    refine idx_of (by omega) a1 (idx_of (by omega) a2 (cmpFrac_ok (hf _ (List.getElem_mem a1)) (hf _ (List.getElem_mem a2)) ?_))
    have e:srtAt l i.toNat=!decide (cmpF l[i.toNat] l[(i-1).toNat]<0):=by
      unfold srtAt
      have e1:i.toNat-1=(i-1).toNat:=by omega
      rw [decide_eq_false (by omega),Bool.false_or,fAt_at a1,e1,fAt_at a2,cmpF_swap]
      congr 2; rw [eq_iff_iff]; omega
    refine br_dec (fun c=>?_) (fun c=>⟨⟨by omega,by omega,fun k k1 k2=>?_⟩,?_⟩)
    · have:srt l=false:=rngAll_no a1 (by rw [e,decide_eq_true c]; rfl)
      rw [this] at h; exact h
    · by_cases hk:k=i.toNat
      · subst hk; rw [e,decide_eq_false c]; rfl
      · exact h3 k (by omega) k2
    · show (i-1).toNat<i.toNat
      omega
  · have:srt l=true:=List.all_eq_true.2 fun k hk=>by
      have hk:=List.mem_range.1 hk
      by_cases h0:k=0
      · subst h0; rfl
      · exact h3 k (by omega) hk
    rw [this] at h; exact h
theorem specCl_ok {l:List Frac} {v:Frac} {Q:Int→Bool→Prop} (hl:l.length≤1048576) (h:Q (clOf l v) (clIn l v)):spec_ClassOf l v Q:=by
  unfold spec_ClassOf
  refine jn_bool (!clIn0 l v) ?_ fun k hk=>oFracs_ok hl (br_nb (fun g=>?_) (fun g=>fGood_ok' ?_))
  · refine br_nb (fun g=>?_) (fun g=>?_)
    · have:clIn l v=false:=by unfold clIn; rw [g]; rfl
      unfold clOf at h; rw [this] at h; simpa using h
    · obtain ⟨hf,hn,hv⟩:=clIn0_of g
      refine loop2_list (by omega) (fun n i=>n=cntF (leF v) l i∧(List.range i).all (srtAt l)=true) ⟨by simp [cntF],rfl⟩ (fun n i nx hi ⟨h1,h2⟩ hx=>?_) (fun n ⟨h1,h2⟩=>?_)
      · have hc:=cntF_le (p:=leF v) (l:=l) (j:=i)
        cases hs:srtAt l i with
        | false =>
          have hno:clIn l v=false:=by unfold clIn srt; rw [rngAll_no hi hs,Bool.and_false]
          refine jn_of (idx_at hi (jn_bool true (br_true rfl ?_) fun k hk=>br_dec (fun c=>?_) (fun c=>?_)))
          · unfold clOf at h; rw [hno] at h; simpa using h
          · have e:wr ((i:Int)-1)=((i-1:Nat):Int):=by rw [wr_in (by omega) (by omega)]; omega
            rw [e]
            refine idx_at (by omega) (det1_of _ (fCmp_ok (hf _ (List.getElem_mem (show i-1<l.length by omega))) (hf _ (List.getElem_mem hi)) rfl) ?_)
            unfold srtAt at hs
            rw [decide_eq_false (show ¬ i=0 by omega),Bool.false_or,fAt_at hi,fAt_at (show i-1<l.length by omega),Bool.not_eq_false'] at hs
            rw [hs]; exact hk
          · exfalso
            unfold srtAt at hs; rw [decide_eq_true (show i=0 by omega)] at hs; simp at hs
        | true =>
          refine jn_bool (cntF (leF v) l (i+1)) (hx _ ⟨rfl,rngAll_succ h2 hs⟩) fun k hk=>idx_at hi (jn_bool false (br_false rfl (fCmp_ok (hf _ (List.getElem_mem hi)) hv (br_dec (fun c=>?_) (fun c=>?_)))) fun k2 hk2=>br_dec (fun c=>?_) (fun c=>hk2))
          · rw [cntF_succ hi,show leF v l[i]=true from decide_eq_true c,if_pos rfl] at hk
            rw [wr_in (by omega) (by omega),h1]; exact hk
          · rw [cntF_succ hi,show leF v l[i]=false from decide_eq_false c] at hk
            rw [h1]; simpa using hk
          · have e:wr ((i:Int)-1)=((i-1:Nat):Int):=by rw [wr_in (by omega) (by omega)]; omega
            rw [e]
            refine idx_at (by omega) (det1_of _ (fCmp_ok (hf _ (List.getElem_mem (show i-1<l.length by omega))) (hf _ (List.getElem_mem hi)) rfl) ?_)
            unfold srtAt at hs
            rw [decide_eq_false (show ¬ i=0 by omega),Bool.false_or,fAt_at hi,fAt_at (show i-1<l.length by omega),Bool.not_eq_true'] at hs
            rw [hs]; exact hk2
      · have hyes:clIn l v=true:=by unfold clIn srt; rw [g,h2]; rfl
        unfold clOf at h; rw [hyes,if_pos rfl] at h; rw [h1]; exact h
  · unfold clIn0 at hk; rw [g] at hk; exact hk
  · unfold clIn0 at hk; rw [g,Bool.true_and] at hk; exact hk
theorem implCl_ok {l:List Frac} {v:Frac} {Q:Int→Bool→Prop} (hl:l.length≤1048576) (h:Q (clOf l v) (clIn l v)):impl_ClassOf l v Q:=by
  unfold impl_ClassOf
  refine jn_bool (!clIn l v) ?_ fun k hk=>br_dec (fun g=>?_) (fun g=>areFracs_ok hl (br_nb (fun g1=>?_) (fun g1=>sorted_ok hl (allF_of g1) (br_nb (fun g2=>?_) (fun g2=>isFrac_ok ?_)))))
  · refine br_nb (fun g=>?_) (fun g=>?_)
    · unfold clOf at h; rw [g] at h; simpa using h
    · have g0:clIn0 l v=true:=by unfold clIn at g; simp only [Bool.and_eq_true] at g; exact g.1
      obtain ⟨hf,hn,hv⟩:=clIn0_of g0
      refine loop2_list (by omega) (fun n i=>n=cntF (leF v) l i) (by simp [cntF]) (fun n i nx hi h1 hx=>?_) (fun n h1=>?_)
      · have hc:=cntF_le (p:=leF v) (l:=l) (j:=i)
        refine jn_bool (cntF (leF v) l (i+1)) (hx _ rfl) fun k hk=>idx_at hi (cmpFrac_ok (hf _ (List.getElem_mem hi)) hv (br_dec (fun c=>?_) (fun c=>?_)))
        · rw [cntF_succ hi,show leF v l[i]=true from decide_eq_true c,if_pos rfl] at hk
          rw [wr_in (by omega) (by omega),h1]; exact hk
        · rw [cntF_succ hi,show leF v l[i]=false from decide_eq_false c] at hk
          rw [h1]; simpa using hk
      · unfold clOf at h; rw [g,if_pos rfl] at h; rw [h1]; exact h
  · unfold clIn clIn0 at hk; rw [decide_eq_false (show ¬ ((l.length:Int)≤7) by unfold ln at g; omega)] at hk; simpa using hk
  · unfold clIn clIn0 at hk; rw [g1] at hk; simpa using hk
  · unfold clIn at hk; rw [g2] at hk; simpa using hk
  · unfold clIn clIn0 at hk; rw [g1,g2,decide_eq_true (show (l.length:Int)≤7 by unfold ln at g; omega)] at hk; simpa using hk
def gtF (v w:Frac):Bool:=decide (cmpF w v>0)
def rk1 (l:List Frac) (v:Frac):Int:=1+cntF (gtF v) l l.length
def rkIn (l:List Frac):Bool:=allF l&&decide ((l.length:Int)≤100)
def rkOf (l:List Frac):List Int:=if rkIn l then l.map (rk1 l) else []
theorem rkIn_of {l:List Frac} (h:rkIn l=true):(∀ f∈l,fOk f)∧l.length≤100:=by
  unfold rkIn at h
  simp only [Bool.and_eq_true,decide_eq_true_eq] at h
  exact ⟨allF_of h.1,by omega⟩
theorem specRk_ok {l:List Frac} {Q:List Int→Bool→Prop} (hl:l.length≤1048576) (h:Q (rkOf l) (rkIn l)):spec_RanksOf l Q:=by
  unfold spec_RanksOf
  refine oFracs_ok hl (br_nb (fun g=>?_) (fun g=>?_))
  · unfold rkOf at h; rw [show rkIn l=false from g] at h; simpa using h
  · obtain ⟨hf,hn⟩:=rkIn_of g
    refine loop2_list (by omega) (fun out i=>out=(l.take i).map (rk1 l)) (by simp) (fun out i nx hi ho hx=>idx_at hi ?_) (fun out ho=>?_)
    · have hv:=hf _ (List.getElem_mem hi)
      refine loop2_list (by omega) (fun n j=>n=1+cntF (gtF l[i]) l j) (by simp [cntF]) (fun n j nx2 hj hn2 hx2=>?_) (fun n hn2=>?_)
      · have hc:=cntF_le (p:=gtF l[i]) (l:=l) (j:=j)
        refine jn_bool (1+cntF (gtF l[i]) l (j+1)) (hx2 _ rfl) fun k hk=>idx_at hj (fCmp_ok (hf _ (List.getElem_mem hj)) hv (br_dec (fun c=>?_) (fun c=>?_)))
        · rw [cntF_succ hj,show gtF l[i] l[j]=true from decide_eq_true c,if_pos rfl] at hk
          rw [wr_in (by omega) (by omega),hn2,Int.add_assoc]; exact hk
        · rw [cntF_succ hj,show gtF l[i] l[j]=false from decide_eq_false c] at hk
          rw [hn2]; simpa using hk
      · have hlo:out.length≤100:=by rw [ho]; simp; omega
        refine ⟨by unfold ln; simp; omega,hx _ ?_⟩
        rw [ho,List.take_succ_eq_append_getElem hi,List.map_append,hn2]; rfl
    · rw [List.take_length] at ho
      unfold rkOf at h; rw [show rkIn l=true from g,if_pos rfl] at h; rw [ho]; exact h
theorem implRk_ok {l:List Frac} {Q:List Int→Bool→Prop} (hl:l.length≤1048576) (h:Q (rkOf l) (rkIn l)):impl_RanksOf l Q:=by
  unfold impl_RanksOf
  refine jn_bool (!rkIn l) ?_ fun k hk=>br_dec (fun g=>?_) (fun g=>areFracs_ok hl ?_)
  · refine br_nb (fun g=>?_) (fun g=>?_)
    · unfold rkOf at h; rw [g] at h; simpa using h
    · obtain ⟨hf,hn⟩:=rkIn_of g
      have hlen:(l.map (rk1 l)).length=l.length:=by simp
      refine ⟨by unfold ln; omega,by unfold ln; omega,?_⟩
      refine loop2_list (by omega) (fun out i=>out.length=(l.map (rk1 l)).length∧out.take i=(l.map (rk1 l)).take i) (by simp) (fun out i nx hi ⟨h1,h2⟩ hx=>idx_at hi ⟨by omega,by rw [h1,hlen]; simpa using hi,?_⟩) (fun out ⟨h1,h2⟩=>?_)
      · have hv:=hf _ (List.getElem_mem hi)
        have hio:i<out.length:=by omega
        refine loop2_list (by omega) (fun o2 j=>o2=out.set i (1+cntF (gtF l[i]) l j)) (by simp [cntF]) (fun o2 j nx2 hj ho2 hx2=>?_) (fun o2 ho2=>?_)
        · have hc:=cntF_le (p:=gtF l[i]) (l:=l) (j:=j)
          refine jn_bool (out.set i (1+cntF (gtF l[i]) l (j+1))) (hx2 _ rfl) fun k hk=>idx_at hj (cmpFrac_ok (hf _ (List.getElem_mem hj)) hv (br_dec (fun c=>?_) (fun c=>?_)))
          · have hio2:i<o2.length:=by rw [ho2]; simpa using hio
            refine idx_at hio2 ⟨by omega,by simpa using hio2,?_⟩
            have hget:o2[i]=1+cntF (gtF l[i]) l j:=by simp [ho2]
            rw [hget,wr_in (by omega) (by omega),ho2,Int.toNat_natCast,List.set_set,Int.add_assoc]
            rw [cntF_succ hj,show gtF l[i] l[j]=true from decide_eq_true c,if_pos rfl] at hk; exact hk
          · rw [cntF_succ hj,show gtF l[i] l[j]=false from decide_eq_false c] at hk
            rw [ho2]; simpa using hk
        · refine hx _ ⟨by rw [ho2]; simpa using h1,?_⟩
          rw [ho2]
          have:=set_done h1 hio h2
          simpa [rk1] using this
      · rw [eq_of_take h2 (by omega) hlen]
        unfold rkOf at h; rw [g,if_pos rfl] at h; exact h
  · unfold rkIn at hk; rw [decide_eq_false (show ¬ ((l.length:Int)≤100) by unfold ln at g; omega)] at hk; simpa using hk
  · unfold rkIn at hk; rw [decide_eq_true (show (l.length:Int)≤100 by unfold ln at g; omega),Bool.and_true] at hk; exact hk
theorem rkOf_length (l:List Frac):(rkOf l).length≤100:=by
  unfold rkOf
  split
  · rename_i g; have:=(rkIn_of g).2; simpa using this
  · simp
def fle (a b:Frac):Prop:=¬ cmpF b a<0
theorem fle_iff {a b:Frac}:fle a b↔a.Num * b.Den≤b.Num * a.Den:=by
  unfold fle cmpF
  split
  · simp only [Int.reduceNeg,Int.reduceLT,not_true,false_iff]; omega
  · split
    · simp only [Int.reduceLT,not_false_iff,true_iff]; omega
    · simp only [Int.reduceLT,not_false_iff,true_iff]; omega
theorem cross_trans {a b c x y z:Int} (hx:1≤x) (hy:1≤y) (hz:1≤z) (h1:a * y≤b * x) (h2:b * z≤c * y):a * z≤c * x:=by
  have e1:a * y * z≤b * x * z:=Int.mul_le_mul_of_nonneg_right h1 (by omega)
  have e2:b * z * x≤c * y * x:=Int.mul_le_mul_of_nonneg_right h2 (by omega)
  have e3:b * x * z=b * z * x:=Int.mul_right_comm b x z
  have e4:(a * z) * y≤(c * x) * y:=by
    rw [Int.mul_right_comm a z y,Int.mul_right_comm c x y]; omega
  exact Int.le_of_mul_le_mul_right e4 (by omega)
theorem fle_trans {a b c:Frac} (ha:fOk a) (hb:fOk b) (hc:fOk c) (h1:fle a b) (h2:fle b c):fle a c :=
  fle_iff.2 (cross_trans ha.1.1 hb.1.1 hc.1.1 (fle_iff.1 h1) (fle_iff.1 h2))
theorem dvd_of_gcd {a b c:Int} (h:Int.gcd a b=1) (d:b ∣ a * c):b ∣ c:=by
  rw [← Int.natAbs_dvd_natAbs] at d ⊢
  rw [Int.natAbs_mul] at d
  exact Nat.Coprime.dvd_of_dvd_mul_left (by rw [Nat.Coprime,Nat.gcd_comm]; exact h) d
theorem fle_anti {a b:Frac} (ha:fOk a) (hb:fOk b) (h1:fle a b) (h2:fle b a):a=b:=by
  have e:a.Num * b.Den=b.Num * a.Den:=Int.le_antisymm (fle_iff.1 h1) (fle_iff.1 h2)
  have d1:a.Den ∣ b.Den:=by
    have:a.Den ∣ a.Num * b.Den:=by rw [e]; exact Int.dvd_mul_left _ _
    exact dvd_of_gcd ha.2.2 this
  have d2:b.Den ∣ a.Den:=by
    have:b.Den ∣ b.Num * a.Den:=by rw [← e]; exact Int.dvd_mul_left _ _
    exact dvd_of_gcd hb.2.2 this
  have hd:a.Den=b.Den:=Int.dvd_antisymm (by have:=ha.1.1; omega) (by have:=hb.1.1; omega) d1 d2
  have hn:a.Num=b.Num:=by rw [hd] at e; exact Int.eq_of_mul_eq_mul_right (by have:=hb.1.1; omega) e
  cases a; cases b; simp_all
theorem swap_adj {α:Type}:∀ {l:List α} {k:Nat} (h:k+1<l.length),((l.set (k+1) l[k]).set k l[k+1]).Perm l
  | a :: b :: t,0,_=>by simpa using List.Perm.swap a b t
  | a :: t,k+1,h=>by
    have ih:=swap_adj (l:=t) (k:=k) (by simpa using h)
    simpa using ih.cons a
/-- Up to i, all but the place k stand in order. -/
def sIn (l out:List Frac) (i k:Nat):Prop:=out.Perm l∧∀ p q,p<q→q≤i→q≠k→fle (fAt out p) (fAt out q)
def sOut (l out:List Frac) (i:Nat):Prop:=out.Perm l∧∀ p q,p<q→q<i→fle (fAt out p) (fAt out q)
theorem oSorted_ok {l:List Frac} {Q:List Frac→Prop} (hl:l.length≤1000) (hf:∀ f∈l,fOk f) (h:∀ o,o.Perm l→o.Pairwise fle→Q o):spec_oSorted l Q:=by
  unfold spec_oSorted
  refine ⟨by unfold ln; simp; omega,?_⟩
  rw [List.nil_append]
  refine loop2_list (by omega) (fun out i=>sOut l out i) ⟨List.Perm.refl _,fun p q h1 h2=>by omega⟩ (fun out i nx hi ⟨hp,hs⟩ hx=>?_) (fun out ⟨hp,hs⟩=>h out hp ?_)
  · refine ⟨fun out2 k=>∃ j:Nat,k=(j:Int)∧j≤i∧sIn l out2 i j,fun _ k=>k.toNat,⟨i,rfl,Nat.le_refl _,hp,fun p q h1 h2 h3=>hs p q h1 (by omega)⟩,?_⟩
    rintro o2 k ⟨j,rfl,hj,hp2,hs2⟩
    have hlen:=hp2.length_eq
    have hj2:j<o2.length:=by omega
    have ok:∀ p,p<o2.length→fOk (fAt o2 p):=fun p h2=>by rw [fAt_at h2]; exact hf _ (hp2.subset (List.getElem_mem h2))
    have hbr:∀ (b:Bool),(b=true→0<j∧cmpF (fAt o2 (j-1)) (fAt o2 j)>0)→(b=false→j=0∨0<j∧fle (fAt o2 (j-1)) (fAt o2 j)) →
        br b (idx o2 (j:Int) fun x73=>idx o2 (wr ((j:Int)-1)) fun x90=>(0:Int)≤(j:Int)∧Int.toNat (j:Int)<List.length o2∧((0:Int)≤(wr ((j:Int)-1))∧Int.toNat (wr ((j:Int)-1))<List.length (List.set o2 (Int.toNat (j:Int)) x90) ∧
          ((∃ j':Nat,wr ((j:Int)-1)=(j':Int)∧j'≤i∧sIn l (List.set (List.set o2 (Int.toNat (j:Int)) x90) (Int.toNat (wr ((j:Int)-1))) ((Frac.mk x73.Num x73.Den))) i j')∧(wr ((j:Int)-1)).toNat<(j:Int).toNat)))
          (nx o2 (wr ((i:Int)+1))):=by
      intro b ht hff
      refine br_bo (fun g=>?_) (fun g=>hx _ ⟨hp2,fun p q h1 h2=>?_⟩)
      · obtain ⟨h0,hc⟩:=ht g
        obtain ⟨t,rfl⟩:∃ t,j=t+1:=⟨j-1,by omega⟩
        have hw:wr (((t+1:Nat):Int)-1)=(t:Int):=by rw [wr_in (by omega) (by omega)]; omega
        rw [hw]
        refine idx_at hj2 (idx_at (show t<o2.length by omega) ⟨by omega,by simpa using hj2,by omega,by simp; omega,⟨t,rfl,by omega,?_⟩,by omega⟩)
        simp only [Int.toNat_natCast]
        rw [show (Frac.mk o2[t+1].Num o2[t+1].Den)=o2[t+1] from rfl]
        have hsw:=swap_adj (l:=o2) (k:=t) hj2
        refine ⟨hsw.trans hp2,fun p q h1 h2 h3=>?_⟩
        have at_:∀ p,p<o2.length→fAt ((o2.set (t+1) o2[t]).set t o2[t+1]) p=if p=t then fAt o2 (t+1) else if p=t+1 then fAt o2 t else fAt o2 p:=fun p hp'=>by
          rw [fAt_at (by simpa using hp'),List.getElem_set,List.getElem_set]
          by_cases e:p=t
          · subst e; rw [if_pos rfl,if_pos rfl,fAt_at hj2]
          · rw [if_neg (by omega),if_neg e]
            by_cases e2:p=t+1
            · subst e2; rw [if_pos rfl,if_pos rfl,fAt_at (by omega)]
            · rw [if_neg (by omega),if_neg e2,fAt_at hp']
        have hlt:fle (fAt o2 (t+1)) (fAt o2 t):=by
          unfold fle
          simp only [Nat.add_sub_cancel] at hc
          omega
        rw [at_ p (by omega),at_ q (by omega),if_neg h3]
        by_cases e1:q=t+1
        · rw [if_pos e1]
          by_cases e2:p=t
          · rw [if_pos e2]; exact hlt
          · rw [if_neg e2,if_neg (by omega)]; exact hs2 p t (by omega) (by omega) (by omega)
        · rw [if_neg e1]
          by_cases e2:p=t
          · rw [if_pos e2]; exact hs2 (t+1) q (by omega) h2 e1
          · rw [if_neg e2]
            by_cases e3:p=t+1
            · rw [if_pos e3]; exact hs2 t q (by omega) h2 e1
            · rw [if_neg e3]; exact hs2 p q h1 h2 e1
      · rcases hff g with h0 | ⟨h0,hc⟩
        · exact hs2 p q h1 (by omega) (by omega)
        · by_cases e:q=j
          · subst e
            by_cases e2:p=q-1
            · rw [e2]; exact hc
            · exact fle_trans (ok p (by omega)) (ok (q-1) (by omega)) (ok q hj2) (hs2 p (q-1) (by omega) (by omega) (by omega)) hc
          · exact hs2 p q h1 (by omega) e
    refine br_dec (fun g=>?_) (fun g=>?_)
    · have h0:0<j:=by omega
      have hw:wr ((j:Int)-1)=((j-1:Nat):Int):=by rw [wr_in (by omega) (by omega)]; omega
      rw [hw] at hbr ⊢
      refine idx_at (show j-1<o2.length by omega) (idx_at hj2 ⟨_,fCmp_ok (hf _ (hp2.subset (List.getElem_mem _))) (hf _ (hp2.subset (List.getElem_mem _))) rfl,hbr _ (fun c=>⟨h0,?_⟩) (fun c => .inr ⟨h0,?_⟩)⟩)
      · rw [fAt_at hj2,fAt_at (show j-1<o2.length by omega)]; exact of_decide_eq_true c
      · have:=of_decide_eq_false c
        rw [fAt_at hj2,fAt_at (show j-1<o2.length by omega)]
        unfold fle
        rw [cmpF_swap]; omega
    · exact hbr _ (fun c=>by cases c) (fun _ => .inl (by omega))
  · rw [List.pairwise_iff_getElem]
    intro p q hp1 hq1 hpq
    have:=hs p q hpq (by rw [← hp.length_eq]; exact hq1)
    rw [fAt_at hp1,fAt_at hq1] at this
    exact this
theorem sort_uniq {l o:List Frac} (hf:∀ f∈l,fOk f) (hp:o.Perm l) (hs:o.Pairwise fle) {o':List Frac} (hp':o'.Perm l) (hs':o'.Pairwise fle):o'=o :=
  List.Perm.eq_of_pairwise (le:=fle) (fun a b ha hb h1 h2=>fle_anti (hf _ (hp'.subset ha)) (hf _ (hp.subset hb)) h1 h2) hs' hs (hp'.trans hp.symm)
theorem isort_ok {l:List Frac} {Q:List Frac→Prop} (hl:l.length≤100) (hf:∀ f∈l,fOk f) (h:∀ o,o.Perm l→o.Pairwise fle→Q o):sortq (fun x y K=>impl_cmpFrac x y K) l Q:=by
  refine ⟨fOk,cmpF,hf,fun x y hx hy=>cmpFrac_ok hx hy rfl,⟨fun x _=>?_,fun x y z hx hy hz h1 h2=>?_,fun x y z hx hy hz h1 h2=>?_⟩,by omega,h⟩
  · unfold cmpF; split
    · omega
    · first | omega | (split <;> omega)
  · have e1:¬ fle y x:=fun c=>c h1
    have e2:¬ fle z y:=fun c=>c h2
    have a1:fle x y:=by rw [fle_iff] at e1 ⊢; omega
    have a2:fle y z:=by rw [fle_iff] at e2 ⊢; omega
    have:¬ fle z x:=fun c=>e1 (fle_trans hy hz hx a2 c)
    unfold fle at this
    omega
  · exact fle_trans hz hy hx h2 h1
def ebIn (l:List Frac) (k:Int):Bool:=(allF l&&decide (l.length≤100))&&(decide (0<l.length)&&decide (2≤k∧k≤8))
def ebAt (o:List Frac) (k:Int) (j:Nat):Frac:=fAt o (((j:Int)+1) * o.length / k).toNat
def ebOf (o:List Frac) (k:Int):List Frac:=(List.range (k.toNat-1)).map (ebAt o k)
theorem eb_ix {n:Nat} {k:Int} {i:Int} (hn:n≤100) (hk:2≤k∧k≤8) (h0:0≤i) (hi:i<k) (hp:0<n):wr (Int.tdiv (wr (i * (n:Int))) k)=i * n / k∧(i * n / k).toNat<n∧0≤i * n / k:=by
  have b1:i * (n:Int)≤8 * 100:=Int.mul_le_mul (by omega) (by omega) (by omega) (by omega)
  have b0:0≤i * (n:Int):=Int.mul_nonneg h0 (by omega)
  rw [wr_in (x:=i * (n:Int)) (by omega) (by omega),Int.tdiv_eq_ediv_of_nonneg b0]
  have c0:0≤i * (n:Int) / k:=Int.ediv_nonneg b0 (by omega)
  have c1:i * (n:Int) / k<n:=Int.ediv_lt_of_lt_mul (by omega) (by rw [Int.mul_comm]; exact Int.mul_lt_mul_of_pos_left hi (by omega))
  exact ⟨wr_in (by omega) (by omega),by omega,c0⟩
theorem sEb_ok {l:List Frac} {k:Int} {Q:List Frac→Bool→Prop} (hl:l.length≤1048576) (h:∀ o,(ebIn l k=true→o.Perm l∧o.Pairwise fle)→Q (if ebIn l k then ebOf o k else []) (ebIn l k)):spec_EqualBreaks l k Q:=by
  unfold spec_EqualBreaks
  refine jn_bool (!ebIn l k) (br_nb (fun g=>?_) (fun g=>?_)) fun c hk=>oFracs_ok hl (br_nb (fun g=>?_) (fun g=>br_eq (fun g1=>?_) (fun g1=>l1In_ok ?_)))
  · have:=h [] (by rw [g]; intro c; cases c); rw [g] at this; exact this
  · have gg:=g
    unfold ebIn at gg
    simp only [Bool.and_eq_true,decide_eq_true_eq] at gg
    have hf:=allF_of gg.1.1
    refine oSorted_ok (by omega) hf fun o hp hs=>?_
    have hq:=h o fun _=>⟨hp,hs⟩
    rw [g,if_pos rfl] at hq
    have hn:=hp.length_eq
    have hn':ln o=(o.length:Int):=rfl
    refine ⟨fun out i=>∃ j:Nat,i=(j:Int)+1∧(j:Int)+1≤k∧out=(List.range j).map (ebAt o k),fun _ i=>k.toNat-i.toNat,⟨0,rfl,by omega,rfl⟩,?_⟩
    rintro out i ⟨j,rfl,hj,rfl⟩
    refine br_dec (fun g2=>⟨by omega,?_⟩) (fun g2=>?_)
    · obtain ⟨e1,e2,e3⟩:=eb_ix (n:=o.length) (k:=k) (i:=(j:Int)+1) (by omega) gg.2.2 (by omega) g2 (by omega)
      rw [hn',e1]
      refine idx_of e3 e2 ⟨by unfold ln; simp; omega,?_⟩
      rw [wr_in (by omega) (by omega)]
      refine ⟨⟨j+1,by omega,by omega,?_⟩,by show k.toNat-((j:Int)+1+1).toNat<k.toNat-((j:Int)+1).toNat; omega⟩
      rw [List.range_succ,List.map_append,List.map_singleton]
      congr 2
      unfold ebAt
      rw [fAt_at e2]
    · have:j=k.toNat-1:=by omega
      subst this
      exact hq
  · unfold ebIn at hk
    have:(allF l&&decide (l.length≤100))=false:=by rw [← g]; congr 1; rw [Bool.eq_iff_iff]; simp only [decide_eq_true_eq]; omega
    rw [this,Bool.false_and] at hk; exact hk
  · unfold ebIn at hk
    rw [show decide (0<l.length)=false from decide_eq_false (by unfold ln at g1; omega),Bool.false_and,Bool.and_false] at hk; exact hk
  · unfold ebIn at hk
    have e1:(allF l&&decide (l.length≤100))=true:=by rw [← g]; congr 1; rw [Bool.eq_iff_iff]; simp only [decide_eq_true_eq]; omega
    rw [e1,decide_eq_true (by unfold ln at g1; omega:0<l.length),Bool.true_and,Bool.true_and] at hk
    rw [show (decide (2≤k)&&decide (k≤8))=decide (2≤k∧k≤8) from by rw [Bool.eq_iff_iff]; simp]
    exact hk
theorem clone_ok {l:List Frac} {Q:List Frac→Prop} (hl:l.length≤1048576) (h:Q l):slices_Clone_impl_Frac_impl_Frac l Q:=by
  intro z hz
  refine br_bo (fun g=>?_) (fun _=>⟨by unfold ln; simp; omega,by simpa using h⟩)
  rw [hz g] at h; exact h
theorem iEb_ok {l:List Frac} {k:Int} {Q:List Frac→Bool→Prop} (hl:l.length≤1048576) (h:∀ o,(ebIn l k=true→o.Perm l∧o.Pairwise fle)→Q (if ebIn l k then ebOf o k else []) (ebIn l k)):impl_EqualBreaks l k Q:=by
  unfold impl_EqualBreaks
  refine jn_bool (!ebIn l k) (br_nb (fun g=>?_) (fun g=>clone_ok hl ?_)) fun c hk=>br_dec (fun g=>?_) (fun g=>br_dec (fun g1=>?_) (fun g1=>areFracs_ok hl (br_nb (fun g2=>?_) (fun g2=>br_dec (fun g3=>?_) (fun g3=>?_)))))
  · have:=h [] (by rw [g]; intro c; cases c); rw [g] at this; exact this
  · have gg:=g
    unfold ebIn at gg
    simp only [Bool.and_eq_true,decide_eq_true_eq] at gg
    have hf:=allF_of gg.1.1
    refine isort_ok gg.1.2 hf fun o hp hs=>?_
    have hq:=h o fun _=>⟨hp,hs⟩
    rw [g,if_pos rfl] at hq
    have hn:=hp.length_eq
    have hn':ln l=(o.length:Int):=by unfold ln; omega
    rw [wr_in (x:=k-1) (by omega) (by omega)]
    refine ⟨by omega,by omega,?_⟩
    refine loop2_list (xs:=List.replicate (k-1).toNat (Frac.mk 0 0)) (by simp; omega) (fun out j=>out.length=(k-1).toNat∧out.take j=(List.range j).map (ebAt o k)) ⟨by simp,by simp⟩ (fun out j nx hj ⟨h1,h2⟩ hx=>⟨by omega,?_⟩) (fun out ⟨h1,h2⟩=>?_)
    · rw [List.length_replicate] at hj
      have hw:wr ((j:Int)+1)=(j:Int)+1:=wr_in (by omega) (by omega)
      rw [hw]
      obtain ⟨e1,e2,e3⟩:=eb_ix (n:=o.length) (k:=k) (i:=(j:Int)+1) (by omega) gg.2.2 (by omega) (by omega) (by omega)
      rw [hn',e1]
      refine idx_of e3 e2 ⟨by omega,by simpa [h1] using hj,?_⟩
      have hfin:=hx (out.set (j:Int).toNat o[(((j:Int)+1) * (o.length:Int) / k).toNat]) ⟨by simpa using h1,?_⟩
      · rw [hw] at hfin; exact hfin
      rw [Int.toNat_natCast,List.range_succ,List.map_append,List.map_singleton,List.take_add_one,List.take_set_of_le (Nat.le_refl _),h2,List.getElem?_set_self (by omega)]
      simp only [Option.toList_some]
      congr 2
      unfold ebAt
      rw [fAt_at e2]
    · rw [List.length_replicate,← h1,List.take_length,h1] at h2
      rw [h2]
      have:(k-1).toNat=k.toNat-1:=by omega
      rw [this]
      exact hq
  · unfold ebIn at hk
    rw [show decide (0<l.length)=false from decide_eq_false (by unfold ln at g; omega),Bool.false_and,Bool.and_false] at hk; exact hk
  · unfold ebIn at hk
    rw [show decide (l.length≤100)=false from decide_eq_false (by unfold ln at g1; omega),Bool.and_false,Bool.false_and] at hk; exact hk
  · unfold ebIn at hk
    rw [g2,Bool.false_and,Bool.false_and] at hk; exact hk
  · unfold ebIn at hk
    rw [show decide (2≤k∧k≤8)=false from decide_eq_false (by omega),Bool.and_false,Bool.and_false] at hk; exact hk
  · unfold ebIn at hk
    rw [g2,decide_eq_true (by unfold ln at g1; omega:l.length≤100),decide_eq_true (by unfold ln at g; omega:0<l.length),Bool.true_and,Bool.true_and,Bool.true_and] at hk
    rw [show decide (k>8)=!decide (2≤k∧k≤8) from by rw [Bool.eq_iff_iff]; simp; omega]
    exact hk
theorem eb_same {l o o':List Frac} {k:Int} (h:ebIn l k=true→o.Perm l∧o.Pairwise fle) (h':ebIn l k=true→o'.Perm l∧o'.Pairwise fle):(if ebIn l k then ebOf o' k else [])=if ebIn l k then ebOf o k else []:=by
  by_cases g:ebIn l k=true
  · have gg:=g
    unfold ebIn at gg
    simp only [Bool.and_eq_true] at gg
    rw [sort_uniq (allF_of gg.1.1) (h g).1 (h g).2 (h' g).1 (h' g).2]
  · rw [if_neg g,if_neg g]
end Go.Proofs.YtfnmhknnliahoaaGreatDoor
