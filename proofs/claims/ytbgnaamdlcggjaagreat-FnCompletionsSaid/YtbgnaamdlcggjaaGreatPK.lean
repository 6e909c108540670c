/- Plain facts: maximal edits; the laws of EliminateVariable and MaximalEdits. -/
import Derived.Test.YtbgnaamdlcggjaaGreatPJ
set_option linter.unusedVariables false
set_option autoImplicit false
namespace Go.Proofs.YtbgnaamdlcggjaaGreat
open Go Go.RowKit Go.Gv
theorem sOr_ge {s:Int} {y:Nat} (h:0≤s):s≤sOr s (y:Int):=by
  unfold sOr
  have:s.toNat≤s.toNat ||| 2 ^ (y:Int).toNat:=Nat.left_le_or
  omega
theorem sOr_full {x:Variable} {r:List Variable} (hr:Rok (x :: r)) {s:Int} {y:Nat} (h:0≤s∧s≤full x) (hy:y<lv x):sOr s (y:Int)≤full x:=by
  have ⟨_,_,_,h5⟩:=hr.head
  have e:((2 ^ lv x:Nat):Int)=2 ^ lv x:=by simp
  have:=(sOr_lt (s:=s) (x:=(y:Int)) (L:=lv x) h.1 (by omega) (by omega) (by omega)).2
  omega
theorem inE_set {v:Int}:∀ {r:List Variable} {n:Nat} {t:List Int} {k y:Nat},Rok r→inE v n r t→(hk:k<r.length)→y<lv (vAt r k)→inE v n r (t.set k (sOr (gi t k) (y:Int)))
  | x :: r,n,s :: t,0,y,hr,h,_,hy=>by
    have ⟨_,h3,_,_⟩:=hr.head
    have hf:=frs_at (v:=v) (n:=n) h3
    have h1:=h.1
    have hy':y<lv x:=by simpa [vAt] using hy
    refine ⟨?_,h.2⟩
    have e:gi (s :: t) 0=s:=rfl
    rw [e]
    have:=sOr_ge (s:=s) (y:=y) (by omega)
    have:=sOr_full hr (s:=s) (y:=y) (by omega) hy'
    omega
  | x :: r,n,s :: t,k+1,y,hr,h,hk,hy=>by
    refine ⟨h.1,?_⟩
    have:=inE_set (v:=v) (r:=r) (n:=n+1) (t:=t) (k:=k) (y:=y) hr.tail h.2 (by simpa using hk) (by simpa [vAt] using hy)
    simpa [gi] using this
theorem inB_set {r:List Variable} {t:List Int} {k y:Nat} (hr:Rok r) (h:inB r t) (hk:k<r.length) (hy:y<lv (vAt r k)):inB r (t.set k (sOr (gi t k) (y:Int))):=by
  induction r generalizing t k with
  | nil=>simp at hk
  | cons x r ih =>
    cases t with
    | nil=>exact h.elim
    | cons s t =>
      cases k with
      | zero =>
        have hy':y<lv x:=by simpa [vAt] using hy
        refine ⟨?_,h.2⟩
        have e:gi (s :: t) 0=s:=rfl
        rw [e]
        have:=sOr_ge (s:=s) (y:=y) h.1.1
        have:=sOr_full hr (s:=s) (y:=y) h.1 hy'
        have:=h.1
        omega
      | succ k =>
        refine ⟨h.1,?_⟩
        have:=ih (t:=t) (k:=k) hr.tail h.2 (by simpa using hk) (by simpa [vAt] using hy)
        simpa [gi] using this
theorem canGrow_ok {sx:List Variable} {mp:List (Int×Bool)} {M:List Int→Bool} {e:Edit} {Q:Bool→Prop} (hL:Lok sx) (hM:∀ t,inB sx t→mget mp (keyI sx t) false=M t)
    (he:inB sx e.Sets) (hq:Q (grw sx M e.Sets)):impl_canGrow sx mp e Q:=by
  have h0:=hL.1
  have hl:=inB_length he
  have hs:=inB_Sb hL he
  unfold impl_canGrow
  refine Clone_ok (by omega) ?_
  refine loop2_list (by omega) (fun o i=>o=e.Sets∧(List.range i).any (fun k=>(List.range (lv (vAt sx k))).any fun (y:Nat) => !tb (gi e.Sets k) (y:Int)&&M (e.Sets.set k (sOr (gi e.Sets k) (y:Int))))=false) ⟨rfl,by simp⟩ ?_ ?_
  · rintro _ i nx hi ⟨rfl,hj⟩ hx
    have hi':i<sx.length:=by omega
    have ⟨eL,h1,h2⟩:=lv_at hL hi'
    have hb:=hs _ (List.getElem_mem hi)
    refine idx_at hi' ?_
    rw [← eL]
    refine loop2_to (n:=(lv sx[i]:Int)) (by omega) (fun o m=>o=e.Sets∧(List.range m).any (fun (y:Nat) => !tb (gi e.Sets i) (y:Int)&&M (e.Sets.set i (sOr (gi e.Sets i) (y:Int))))=false) ⟨rfl,by simp⟩ ?_ ?_
    · rintro _ y nx2 hy ⟨rfl,hj2⟩ hx2
      have hy':y<lv sx[i]:=by omega
      refine jn_of (idx_at hi ?_)
      rw [bit1 hb.1 (by omega) (by omega) (by omega)]
      refine ⟨by omega,br_bo (fun g1=>hx2 _ ⟨rfl,?_⟩) (fun g1=>idx_at hi ⟨by omega,by omega,by simpa using hi,?_⟩)⟩
      · rw [range_any_succ,hj2,gi_at hi,g1]; rfl
      · rw [or_ok hb.1 (by omega) (by omega) (by omega),Int.toNat_natCast]
        have hin:=inB_set (k:=i) (y:=y) hL.2 he hi' (by rw [vAt_at hi']; exact hy')
        have hmm:=hM _ hin
        rw [gi_at hi] at hin hmm
        refine editKey_ok hL hin (idx_at (by simpa using hi) ⟨by omega,by omega,by simpa using hi,?_⟩)
        rw [hmm,List.getElem_set_self]
        refine br_bo (fun g2=>?_) (fun g2=>?_)
        · have:grw sx M e.Sets=true:=range_any_yes hi (range_any_yes (i:=y) (by rw [vAt_at hi']; exact hy') (by rw [gi_at hi,g1]; exact g2))
          rw [this] at hq; exact hq
        · rw [clr_ok hb.1 (by omega) (by omega) (by omega) g1,List.set_set,List.set_getElem_self]
          exact hx2 _ ⟨rfl,by rw [range_any_succ,hj2,gi_at hi,g1,Bool.false_or,Bool.not_false,Bool.true_and]; exact g2⟩
    · rintro _ y hy ⟨rfl,hj2⟩
      have:y=lv sx[i]:=by omega
      subst this
      exact hx _ ⟨rfl,by rw [range_any_succ,hj,vAt_at hi',hj2]; rfl⟩
  · rintro _ ⟨rfl,hj⟩
    have:grw sx M e.Sets=false:=hj
    rw [this] at hq; exact hq
def pass (sx:List Variable) (l:List Edit):List (List Int):=((List.range (cnt sx)).filter fun i => !failsB l (vals sx i)).map (vals sx)
def maxE (sx:List Variable) (l:List Edit) (v:Int):List Edit:=res v (keep sx (freeP (pass sx l))) 0 sx []
theorem enum_small {sx:List Variable} {v:Int} (hL:Lok sx) (hc:cnt sx≤100):(enum v 0 sx).length≤1000000:=by
  have h1:=enum_length (v:=v) 0 hL.2
  have h2:cnt sx * cnt sx * cnt sx≤100 * 100 * 100:=Nat.mul_le_mul (Nat.mul_le_mul hc hc) hc
  omega
theorem pass_ok {sx:List Variable} {l:List Edit} (hL:Lok sx):Pok sx.length (pass sx l):=by
  have:=cnt_small' hL
  refine ⟨?_,fun vs hvs=>?_⟩
  · unfold pass; rw [List.length_map]
    have:=List.length_filter_le (fun i => !failsB l (vals sx i)) (List.range (cnt sx))
    rw [List.length_range] at this; omega
  · obtain ⟨i,_,rfl⟩:=List.mem_map.1 hvs
    exact ⟨vals_ok i hL.2,vals_length ..⟩
theorem eMaximal_ok {sx:List Variable} {l:List Edit} {v:Int} {Q:List Edit→Prop} (hL:Lok sx) (hc:cnt sx≤100) (he:Eok sx.length l) (hq:Q (maxE sx l v)):spec_eMaximal sx l v Q:=by
  have h0:=hL.1
  unfold spec_eMaximal
  refine ⟨fun i p=>∃ n:Nat,i=(n:Int)∧n≤cnt sx∧p=((List.range n).filter fun i => !failsB l (vals sx i)).map (vals sx),fun i _=>((cnt sx:Int)-i).toNat,⟨0,rfl,Nat.zero_le _,rfl⟩,?_⟩
  rintro i p ⟨n,rfl,hn,rfl⟩
  refine sCount_ok hL (br_dec (fun g=>?_) (fun g=>?_))
  · refine jn_bool (((List.range (n+1)).filter fun i => !failsB l (vals sx i)).map (vals sx)) ?_ fun k hk=>sAt_ok hL (by omega) (eFailed_ok (by rw [vals_length]; exact he) (vals_ok n hL.2) (by rw [vals_length]; omega) fun o ho=>?_)
    · rw [wr_in (by omega) (by omega)]
      refine ⟨⟨n+1,by omega,by omega,rfl⟩,?_⟩
      show ((cnt sx:Int)-((n:Int)+1)).toNat<((cnt sx:Int)-(n:Int)).toNat
      omega
    · rw [List.range_succ,List.filter_append,List.map_append,List.filter_cons,List.filter_nil] at hk
      refine br_eq (fun g2=>?_) (fun g2=>?_)
      · rw [ho.1 (by unfold ln at g2; omega)] at hk
        refine ⟨?_,hk⟩
        have:=List.length_filter_le (fun i => !failsB l (vals sx i)) (List.range n)
        rw [List.length_range] at this
        unfold ln; rw [List.length_map]; simp only [List.length_singleton]; omega
      · have:failsB l (vals sx n)=true:=by
          cases hb:failsB l (vals sx n) with
          | true=>rfl
          | false=>exact absurd (ho.2 hb) (by unfold ln at g2; omega)
        rw [this] at hk
        simpa using hk
  · have:n=cnt sx:=by omega
    subst this
    exact run_ok (P:=pass sx l) (v:=v) (n:=0) hL (pass_ok hL) ⟨rfl,rfl,rfl⟩ (Nat.zero_le _) rfl (fun s hs=>by simp at hs) (by have:=enum_small (v:=v) hL hc; simpa using this) hq
theorem freeP_eq {sx:List Variable} {l:List Edit} {v:Int} {t:List Int} (hL:Lok sx) (ht:inE v 0 sx t):fs sx (in0 sx l) t=freeP (pass sx l) t:=by
  rw [fs_eq hL.2 (by simp [in0]) ht]
  unfold freeP pass
  rw [List.all_map,List.all_filter,Bool.eq_iff_iff,List.all_eq_true,List.all_eq_true]
  constructor
  · intro h i hi
    have:=h i hi
    unfold in0 at this
    rw [getD_range (List.mem_range.1 hi)] at this
    simp only [Function.comp_def]
    cases h1:failsB l (vals sx i) <;> cases h2:boxIn t (vals sx i) <;> simp_all
  · intro h i hi
    have:=h i hi
    unfold in0
    rw [getD_range (List.mem_range.1 hi)]
    simp only [Function.comp_def] at this
    cases h1:failsB l (vals sx i) <;> cases h2:boxIn t (vals sx i) <;> simp_all
theorem any_congr_mem {α:Type} {p q:α→Bool}:∀ {l:List α},(∀ x∈l,p x=q x)→l.any p=l.any q
  | [],_=>rfl
  | x :: l,h=>by rw [List.any_cons,List.any_cons,h x (List.mem_cons_self ..),any_congr_mem fun y hy=>h y (List.mem_cons_of_mem _ hy)]
theorem maximalEdits_ok {sx:List Variable} {l:List Edit} {v:Int} {Q:List Edit→Prop} (hL:Lok sx) (hc:cnt sx≤100) (he:Eok sx.length l) (hq:Q (maxE sx l v)):impl_maximalEdits sx l v Q:=by
  have h0:=hL.1
  have hen:=enum_small (v:=v) hL hc
  unfold impl_maximalEdits
  refine failing_ok hL he (impliedIn_ok (sets:=[]) hL (Nat.zero_le _) trivial (by simp [in0]) (by simpa using hen) ?_)
  show Loop2 _ _ _
  simp only [List.length_nil,List.drop_zero,List.nil_append]
  have eA:resI v 0 sx (in0 sx l) []=(enum v 0 sx).filter (fs sx (in0 sx l)):=by unfold resI; simp
  rw [eA]
  generalize hAe:(enum v 0 sx).filter (fs sx (in0 sx l))=A
  have hA:∀ t,t∈A↔inE v 0 sx t∧freeP (pass sx l) t=true:=fun t=>by
    rw [← hAe,List.mem_filter,mem_enum]
    constructor
    · intro ⟨a,b⟩; rw [freeP_eq hL a] at b; exact ⟨a,b⟩
    · intro ⟨a,b⟩; rw [freeP_eq hL a]; exact ⟨a,b⟩
  have hlA:A.length≤1000000:=by
    rw [← hAe]; exact Nat.le_trans (List.length_filter_le ..) hen
  have hM:∀ t,inB sx t→mget (addM sx [] A) (keyI sx t) false=A.any (fun t'=>decide (t=t')):=fun t ht=>by
    rw [mget_addM,show mget ([]:List (Int×Bool)) (keyI sx t) false=false from rfl,Bool.or_false]
    refine any_congr_mem fun t' ht'=>?_
    by_cases e:t=t'
    · subst e; simp
    · rw [decide_eq_false e,decide_eq_false (fun c=>e (keyI_inj hL ht (inE_B hL.2 ((hA t').1 ht').1) c))]
  have hmap:(A.map Edit.mk).length=A.length:=by simp
  refine loop2_list (by omega) (fun o i=>o=((A.take i).filter fun t => !grw sx (fun t=>A.any (fun t'=>decide (t=t'))) t).map Edit.mk) rfl ?_ ?_
  · rintro _ i nx hi rfl hx
    have hi':i<A.length:=by omega
    refine jn_bool (((A.take (i+1)).filter fun t => !grw sx (fun t=>A.any (fun t'=>decide (t=t'))) t).map Edit.mk) (hx _ rfl) fun k hk=>idx_at hi ?_
    have eg:(A.map Edit.mk)[i]=⟨A[i]⟩:=by simp
    rw [eg]
    have hB:=inE_B hL.2 ((hA _).1 (List.getElem_mem hi')).1
    refine canGrow_ok hL hM hB ?_
    rw [List.take_succ_eq_append_getElem hi',List.filter_append,List.map_append,List.filter_cons,List.filter_nil] at hk
    refine br_bo (fun g=>⟨?_,?_⟩) (fun g=>?_)
    · have h1:=List.length_filter_le (fun t => !grw sx (fun t=>A.any (fun t'=>decide (t=t'))) t) (A.take i)
      rw [List.length_take] at h1
      unfold ln; rw [List.length_map]; simp only [List.length_singleton]; omega
    · have g':(!grw sx (fun t=>A.any (fun t'=>decide (t=t'))) A[i])=true:=g
      rw [g'] at hk; exact hk
    · have g':(!grw sx (fun t=>A.any (fun t'=>decide (t=t'))) A[i])=false:=g
      rw [g'] at hk; simpa using hk
  · rintro _ rfl
    rw [hmap,List.take_length]
    have:(A.filter fun t => !grw sx (fun t=>A.any (fun t'=>decide (t=t'))) t).map Edit.mk=maxE sx l v:=by
      unfold maxE res
      simp only [List.nil_append]
      congr 1
      rw [← hAe,List.filter_filter]
      refine List.filter_congr fun t ht=>?_
      have ht:=mem_enum.1 ht
      have htl:=inB_length (inE_B hL.2 ht)
      rw [freeP_eq hL ht]
      unfold keep
      rw [Bool.and_comm]
      congr 2
      unfold grw
      refine any_congr_mem fun k hk=>any_congr_mem fun y hy=>?_
      have hk:=List.mem_range.1 hk
      have hy:=List.mem_range.1 hy
      congr 1
      have hin:=inE_set (k:=k) (y:=y) hL.2 ht (by omega) hy
      rw [hAe,Bool.eq_iff_iff,List.any_eq_true]
      constructor
      · rintro ⟨t',h1,h2⟩
        have:=of_decide_eq_true h2
        rw [this]; exact ((hA t').1 h1).2
      · intro h; exact ⟨_,(hA _).2 ⟨hin,h⟩,decide_eq_true rfl⟩
    rw [this]; exact hq
def Wide (sx:List Variable) (l:List Edit):Prop:=(sx.length≤1048576∧∀ x∈sx,x.Name.size≤1048576)∧(l.length≤1048576∧∀ e∈l,e.Sets.length≤1048576)
theorem smOk_of {sx:List Variable} (h:smOk sx=true):Lok sx∧cnt sx≤100∧1≤sx.length:=by
  unfold smOk at h
  simp only [Bool.and_eq_true,decide_eq_true_eq] at h
  exact ⟨Lok_of h.1,h.2,(schOk_of h.1).1.1⟩
theorem maxE_len {sx:List Variable} {l:List Edit} {v:Int} (hL:Lok sx) (hc:cnt sx≤100):(maxE sx l v).length≤1000000∧∀ e∈maxE sx l v,e.Sets.length≤6:=by
  have hen:=enum_small (v:=v) hL hc
  refine ⟨Nat.le_trans res_length hen,fun e he=>?_⟩
  unfold maxE res at he
  obtain ⟨t,ht,rfl⟩:=List.mem_map.1 he
  have:=inB_length (inE_B hL.2 (mem_enum.1 (List.mem_filter.1 ht).1))
  have:=hL.1
  simp; omega
end Go.Proofs.YtbgnaamdlcggjaaGreat
