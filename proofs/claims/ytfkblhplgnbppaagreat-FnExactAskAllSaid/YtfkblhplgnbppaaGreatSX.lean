/- Plain facts about servers: what answers cost, the codes of tables, valid servers. -/
import Derived.Test.YtfkblhplgnbppaaGreatSWPure
set_option linter.unusedVariables false
set_option autoImplicit false
namespace Go.Proofs.YtfkblhplgnbppaaGreat
open Go Go.RowKit Go.Gv
def lsI (x:Loss):Prop:=fOk x.Ratio∧fOk x.Rho
theorem lsI_of {x:Loss} (h:lsOk x=true):lsI x:=by
  unfold lsOk at h
  simp only [Bool.and_eq_true,decide_eq_true_eq] at h
  exact h.1
def zL:Loss:=⟨⟨0,0⟩,⟨0,0⟩⟩
def cmpV (a b:Loss):Bool:=frIn (a.Ratio.Num * b.Ratio.Num) (a.Ratio.Den * b.Ratio.Den)&&frIn (a.Rho.Num * b.Rho.Den+b.Rho.Num * a.Rho.Den) (a.Rho.Den * b.Rho.Den)
def cmpL (a b:Loss):Loss:=⟨frOf (a.Ratio.Num * b.Ratio.Num) (a.Ratio.Den * b.Ratio.Den),frOf (a.Rho.Num * b.Rho.Den+b.Rho.Num * a.Rho.Den) (a.Rho.Den * b.Rho.Den)⟩
theorem cmpIn {a b:Loss} (ha:lsI a) (hb:lsI b) (h:cmpV a b=true):lsI (cmpL a b):=by
  unfold cmpV at h
  simp only [Bool.and_eq_true] at h
  have h1:=ha.1.1; have h2:=hb.1.1; have h3:=ha.2.1; have h4:=hb.2.1
  exact ⟨fOk_of (Int.mul_ne_zero (by omega) (by omega)) h.1,fOk_of (Int.mul_ne_zero (by omega) (by omega)) h.2⟩
theorem composed_ok {a b:Loss} {Q:Loss→Bool→Prop} (ha:lsI a) (hb:lsI b) (h1:cmpV a b=true→Q (cmpL a b) true) (h0:cmpV a b=false→Q zL false):impl_composed a b Q:=by
  unfold impl_composed
  unfold cmpV at h1 h0
  refine mulFrac_ok (a:=a.Ratio) (b:=b.Ratio) ha.1 hb.1 (br_nb (fun g=>h0 (by rw [g]; rfl)) (fun g=>addFrac_ok (a:=a.Rho) (b:=b.Rho) ha.2 hb.2 (br_nb (fun g1=>h0 (by rw [g,g1]; rfl)) (fun g1=>h1 (by rw [g,g1]; rfl)))))
theorem pTwo_ok {a b:Loss} {Q:Loss→Bool→Prop} (ha:lsI a) (hb:lsI b) (h1:cmpV a b=true→Q (cmpL a b) true) (h0:cmpV a b=false→Q zL false):spec_pTwo a b Q:=by
  unfold spec_pTwo
  unfold cmpV at h1 h0
  refine fMul_ok (a:=a.Ratio) (b:=b.Ratio) ha.1 hb.1 (fAdd_ok (a:=a.Rho) (b:=b.Rho) ha.2 hb.2 ?_)
  refine jn_bool (!(frIn (a.Ratio.Num * b.Ratio.Num) (a.Ratio.Den * b.Ratio.Den)&&frIn (a.Rho.Num * b.Rho.Den+b.Rho.Num * a.Rho.Den) (a.Rho.Den * b.Rho.Den))) (br_nb h0 h1) fun k hk=>br_nb (fun g=>?_) (fun g=>?_)
  · rw [g] at hk; exact hk
  · rw [g,Bool.true_and] at hk; exact hk
def cstF (co:Loss):Nat→Loss→Option Loss
  | 0,s=>some s
  | n+1,s=>if cmpV s co=true then cstF co n (cmpL s co) else none
def cst (co:Loss) (n:Nat):Option Loss:=cstF co n ⟨⟨1,1⟩,⟨0,1⟩⟩
theorem lsI_none:lsI ⟨⟨1,1⟩,⟨0,1⟩⟩:=by constructor <;> decide
theorem costOf_ok {co:Loss} {n:Nat} {Q:Loss→Bool→Prop} (hn:n≤4000000) (hc:lsI co) (h1:∀ s,cst co n=some s→lsI s→Q s true) (h0:cst co n=none→Q zL false):impl_costOf co (n:Int) Q:=by
  unfold impl_costOf impl_NoLoss
  refine ⟨fun x a b c d=>∃ i:Nat,x=(i:Int)∧i≤n∧lsI ⟨⟨a,b⟩,⟨c,d⟩⟩∧cstF co (n-i) ⟨⟨a,b⟩,⟨c,d⟩⟩=cst co n,fun x _ _ _ _=>n-x.toNat,⟨0,rfl,Nat.zero_le _,lsI_none,rfl⟩,?_⟩
  rintro _ a b c d ⟨i,rfl,hi,hl,he⟩
  refine br_dec (fun g=>?_) (fun g=>?_)
  · have e:n-i=(n-(i+1))+1:=by omega
    rw [e] at he
    unfold cstF at he
    refine composed_ok (a:=⟨⟨a,b⟩,⟨c,d⟩⟩) (b:=co) hl hc (fun h=>br_false rfl ?_) (fun h=>br_nb (fun _=>?_) (fun c=>by cases c))
    · rw [wr_in (by omega) (by omega)]
      rw [if_pos h] at he
      refine ⟨⟨i+1,by omega,by omega,cmpIn hl hc h,he⟩,?_⟩
      show n-((i:Int)+1).toNat<n-(i:Int).toNat
      omega
    · rw [if_neg (by rw [h]; simp)] at he
      exact h0 he.symm
  · have e:n-i=0:=by omega
    rw [e] at he
    exact h1 _ he.symm hl
theorem jSpent_ok {x:Server} {n:Nat} {Q:Loss→Bool→Prop} (hn:n≤4000000) (hc:lsI x.Cost) (h1:∀ s,cst x.Cost n=some s→lsI s→Q s true) (h0:cst x.Cost n=none→Q zL false):spec_jSpent x (n:Int) Q:=by
  unfold spec_jSpent spec_pNone spec_fInt
  refine ⟨fun y a b c d=>∃ i:Nat,y=(i:Int)∧i≤n∧lsI ⟨⟨a,b⟩,⟨c,d⟩⟩∧cstF x.Cost i ⟨⟨a,b⟩,⟨c,d⟩⟩=cst x.Cost n,fun y _ _ _ _=>y.toNat,⟨n,rfl,Nat.le_refl _,lsI_none,rfl⟩,?_⟩
  rintro _ a b c d ⟨i,rfl,hi,hl,he⟩
  refine br_dec (fun g=>?_) (fun g=>?_)
  · obtain ⟨m,rfl⟩:∃ m,i=m+1:=⟨i-1,by omega⟩
    unfold cstF at he
    refine pTwo_ok (a:=⟨⟨a,b⟩,⟨c,d⟩⟩) (b:=x.Cost) hl hc (fun h=>br_false rfl ?_) (fun h=>br_nb (fun _=>?_) (fun c=>by cases c))
    · rw [wr_in (by omega) (by omega)]
      rw [if_pos h] at he
      refine ⟨⟨m,by omega,by omega,cmpIn hl hc h,he⟩,?_⟩
      show (((m+1:Nat):Int)-1).toNat<((m+1:Nat):Int).toNat
      omega
    · rw [if_neg (by rw [h]; simp)] at he
      exact h0 he.symm
  · have e:i=0:=by omega
    subst e
    exact h1 _ he.symm hl
def wth (bu x:Loss):Bool:=decide (cmpF x.Ratio bu.Ratio≤0)&&decide (cmpF x.Rho bu.Rho≤0)
theorem isWithin_ok {bu x:Loss} {Q:Bool→Prop} (hb:lsI bu) (hx:lsI x) (hq:Q (wth bu x)):impl_isWithin bu x Q:=by
  unfold impl_isWithin
  refine jn_bool _ hq fun k hk=>cmpFrac_ok (a:=x.Ratio) (b:=bu.Ratio) hx.1 hb.1 (br_bo (fun g=>cmpFrac_ok (a:=x.Rho) (b:=bu.Rho) hx.2 hb.2 ?_) (fun g=>?_))
  · unfold wth at hk; rw [g,Bool.true_and] at hk; exact hk
  · unfold wth at hk; rw [g] at hk; exact hk
theorem pWithin_ok {bu x:Loss} {Q:Bool→Prop} (hb:lsI bu) (hx:lsI x) (hq:Q (wth bu x)):spec_pWithin bu x Q:=by
  unfold spec_pWithin
  refine jn_bool _ hq fun k hk=>fCmp_ok (a:=x.Ratio) (b:=bu.Ratio) hx.1 hb.1 (br_bo (fun g=>fCmp_ok (a:=x.Rho) (b:=bu.Rho) hx.2 hb.2 ?_) (fun g=>?_))
  · unfold wth at hk; rw [g,Bool.true_and] at hk; exact hk
  · unfold wth at hk; rw [g] at hk; exact hk
def fitF (bu co:Loss) (n:Nat):Bool:=match cst co n with
  | some s=>wth bu s
  | none=>false
theorem jFits_ok {x:Server} {n:Nat} {Q:Bool→Prop} (hn:n≤4000000) (hc:lsI x.Cost) (hb:lsI x.Budget) (hq:Q (fitF x.Budget x.Cost n)):spec_jFits x (n:Int) Q:=by
  unfold spec_jFits
  refine jSpent_ok (x:=x) hn hc (fun s e hs=>?_) (fun e=>?_)
  · unfold fitF at hq; rw [e] at hq
    exact jn_bool _ hq fun k hk=>br_bo (fun _=>pWithin_ok (bu:=x.Budget) (x:=s) hb hs hk) (fun c=>by cases c)
  · unfold fitF at hq; rw [e] at hq
    exact jn_bool _ hq fun k hk=>br_bo (fun c=>by cases c) (fun _=>hk)
def mnS (b v:Int):Int:=if 0<v∧(b=0∨v<b) then v else b
theorem mn_body {b v:Int} {k:Int→Prop} (h:k (mnS b v)):jn (fun (k11:Bool→Prop)=>br (decide (v>0)) (br (b==0) (k11 true)<|k11 (decide (v<b)))<|k11 false) fun (x9:Bool)=>br (x9) (k v)<|k b:=by
  refine jn_bool (decide (0<v∧(b=0∨v<b))) (br_dec (fun g=>?_) (fun g=>?_)) fun k' hk=>br_dec (fun g=>br_eq (fun g1=>?_) (fun g1=>?_)) (fun g=>?_)
  · unfold mnS at h; rw [if_pos g] at h; exact h
  · unfold mnS at h; rw [if_neg g] at h; exact h
  · rw [decide_eq_true (⟨by omega,.inl g1⟩:0<v∧(b=0∨v<b))] at hk; exact hk
  · rw [show decide (v<b)=decide (0<v∧(b=0∨v<b)) from by rw [Bool.eq_iff_iff]; simp only [decide_eq_true_eq]; omega]; exact hk
  · rw [decide_eq_false (by omega:¬ (0<v∧(b=0∨v<b)))] at hk; exact hk
theorem foldl_succ {α β:Type} {f:β→α→β} {b:β} {l:List α} {i:Nat} (hi:i<l.length):(l.take (i+1)).foldl f b=f ((l.take i).foldl f b) l[i]:=by
  rw [List.take_succ_eq_append_getElem hi,List.foldl_append]; rfl
def few (l:List Int):Int:=l.foldl mnS 0
theorem jFewest_ok {l:List Int} {Q:Int→Prop} (hl:l.length≤1048576) (hq:Q (few l)):spec_jFewest l Q:=by
  unfold spec_jFewest
  refine loop2_list (by omega) (fun b i=>b=(l.take i).foldl mnS 0) rfl ?_ ?_
  · rintro b i nx hi rfl hx
    exact jn_of (idx_at hi (mn_body (k:=fun b'=>nx b' (wr ((i:Int)+1))) (hx _ (foldl_succ hi).symm)))
  · rintro b rfl
    rw [List.take_length]; exact hq
theorem fewest_ok {l:List Int} {Q:Int→Prop} (hl:l.length≤1048576) (hq:Q (few l)):impl_fewest l Q:=jFewest_ok hl hq
def gapT (own cells:List Int) (b:Int):Int:=(cells.zip own).foldl (fun b p=>mnS b ((p.1-p.2).natAbs:Int)) b
open Classical in
noncomputable def gapF (p:List Int) (sx:List Variable) (d:List Record) (t:Table) (asked:List Table):Int :=
  asked.foldl (fun b a=>if a.Level=t.Level∧a.Vars=t.Vars∧a.Sum=t.Sum then gapT (tabF p sx t d) (tabF p sx a d) b else b) 0
theorem gapF_succ {p:List Int} {sx:List Variable} {d:List Record} {t:Table} {l:List Table} {i:Nat} (hi:i<l.length):gapF p sx d t (l.take (i+1))=if l[i].Level=t.Level∧l[i].Vars=t.Vars∧l[i].Sum=t.Sum then gapT (tabF p sx t d) (tabF p sx l[i] d) (gapF p sx d t (l.take i)) else gapF p sx d t (l.take i):=by
  unfold gapF
  rw [foldl_succ hi]
theorem zip_at {a b:List Int} {i:Nat} (ha:i<a.length) (hb:i<b.length):(a.zip b)[i]?=some (a[i],b[i]):=by
  rw [List.getElem?_zip_eq_some]
  exact ⟨List.getElem?_eq_getElem ha,List.getElem?_eq_getElem hb⟩
theorem gap_succ {a b:List Int} {i:Nat} (c:Int) (ha:i<a.length) (hb:i<b.length):((a.zip b).take (i+1)).foldl (fun b p=>mnS b ((p.1-p.2).natAbs:Int)) c=mnS (((a.zip b).take i).foldl (fun b p=>mnS b ((p.1-p.2).natAbs:Int)) c) ((a[i]-b[i]).natAbs:Int):=by
  rw [List.take_add_one,zip_at ha hb,List.foldl_append]; rfl
theorem cellN_same {p:List Int} {sx:List Variable} {a t:Table} (h1:a.Level=t.Level) (h2:a.Vars=t.Vars):cellN p sx a=cellN p sx t:=by
  unfold cellN; rw [h1,h2]
theorem jGap_ok {x:Server} {asked:List Table} {t:Table} {Q:Int→Prop} (hg:gOk x.G.Parents=true) (hL:Lok x.S) (ht:tOk x.G.Parents x.S t=true) (hs:svOk x.G.Parents x.S x.Data=true) (hl:smT asked) (ha:∀ a∈asked,tOk x.G.Parents x.S a=true)
    (hq:Q (gapF x.G.Parents x.S x.Data t asked)):spec_jGap x asked t Q:=by
  have h0:=hl.1
  unfold spec_jGap
  refine uTable_ok (p:=x.G.Parents) (t:=t) hg hL ht hs ?_
  have o:=tabF_in hg hL ht hs
  have o6:=(tOk_b ht).2
  refine loop2_list (by omega) (fun b i=>b=gapF x.G.Parents x.S x.Data t (asked.take i)) rfl ?_ ?_
  · rintro b i nx hi rfl hx
    have hx:=hx _ rfl
    rw [gapF_succ hi] at hx
    have hai:=ha _ (List.getElem_mem hi)
    have hbi:=hl.2 _ (List.getElem_mem hi)
    refine jn_of (idx_at hi ?_)
    generalize asked[i]=a at hx hai hbi
    refine jn_bool (!decide (a.Level=t.Level∧a.Vars=t.Vars∧a.Sum=t.Sum)) (br_nb (fun g=>?_) (fun g=>?_)) fun k hk=>br_ne (fun g=>?_) (fun g=>sameB_ok hbi.1 (br_nb (fun g1=>?_) (fun g1=>?_)))
    · rw [if_neg (of_decide_eq_false g)] at hx; exact hx
    · have g':=of_decide_eq_true g
      rw [if_pos g'] at hx
      have ob:=tabF_in hg hL hai hs
      rw [cellN_same g'.1 g'.2.1] at ob
      refine uTable_ok (p:=x.G.Parents) (t:=a) hg hL hai hs ?_
      generalize tabF x.G.Parents x.S a x.Data=cells at ob hx
      generalize tabF x.G.Parents x.S t x.Data=own at o hx
      generalize gapF x.G.Parents x.S x.Data t (asked.take i)=b0 at hx
      have e1:=ob.1; have e2:=o.1
      refine loop2_list (by omega) (fun b j=>b=((cells.zip own).take j).foldl (fun b p=>mnS b ((p.1-p.2).natAbs:Int)) b0) rfl ?_ ?_
      · rintro b j nx hj rfl hx
        have hj2:j<own.length:=by omega
        have c1:=ob.2 _ (List.getElem_mem hj)
        have c2:=o.2 _ (List.getElem_mem hj2)
        refine jn_of (idx_at hj (idx_at hj2 ?_))
        rw [wr_in (x:=cells[j]-own[j]) (by omega) (by omega)]
        exact l1Abs_ok (by unfold sml; omega) (mn_body (k:=fun b'=>nx b' (wr ((j:Int)+1))) (hx _ (gap_succ _ hj hj2).symm))
      · rintro b rfl
        rw [List.take_of_length_le (by rw [List.length_zip]; omega)]; exact hx
    · rw [decide_eq_false (fun c=>g c.1)] at hk; exact hk
    · rw [decide_eq_false (fun c=>of_decide_eq_false g1 c.2.1)] at hk; exact hk
    · have g1':=of_decide_eq_true g1
      rw [show (a.Sum != t.Sum)=!decide (a.Level=t.Level∧a.Vars=t.Vars∧a.Sum=t.Sum) from by rw [Bool.eq_iff_iff]; simp [g,g1']]; exact hk
  · rintro b rfl
    rw [List.take_length]; exact hq
theorem leastGap_ok {x:Server} {t:Table} {Q:Int→Prop} (hg:gOk x.G.Parents=true) (hL:Lok x.S) (ht:tOk x.G.Parents x.S t=true) (hs:svOk x.G.Parents x.S x.Data=true) (hl:smT x.Asked) (ha:∀ a∈x.Asked,tOk x.G.Parents x.S a=true)
    (hq:Q (gapF x.G.Parents x.S x.Data t x.Asked)):impl_leastGap x t Q:=by
  have h0:=hl.1
  unfold impl_leastGap
  refine tableOf_ok (p:=x.G.Parents) (t:=t) hg hL ht hs ?_
  have o:=tabF_in hg hL ht hs
  have o6:=(tOk_b ht).2
  refine loop2_list (by omega) (fun b i=>b=gapF x.G.Parents x.S x.Data t (x.Asked.take i)) rfl ?_ ?_
  · rintro b i nx hi rfl hx
    have hx:=hx _ rfl
    rw [gapF_succ hi] at hx
    have hai:=ha _ (List.getElem_mem hi)
    have hbi:=hl.2 _ (List.getElem_mem hi)
    refine jn_of (idx_at hi ?_)
    generalize x.Asked[i]=a at hx hai hbi
    refine jn_bool (!decide (a.Level=t.Level∧a.Vars=t.Vars∧a.Sum=t.Sum)) (br_nb (fun g=>?_) (fun g=>?_)) fun k hk=>br_ne (fun g=>?_) (fun g=>br_ne (fun g2=>?_) (fun g2=>Equal_ok hbi.1 ?_))
    · rw [if_neg (of_decide_eq_false g)] at hx; exact hx
    · have g':=of_decide_eq_true g
      rw [if_pos g'] at hx
      have ob:=tabF_in hg hL hai hs
      rw [cellN_same g'.1 g'.2.1] at ob
      refine tableOf_ok (p:=x.G.Parents) (t:=a) hg hL hai hs ?_
      generalize tabF x.G.Parents x.S a x.Data=cells at ob hx
      generalize tabF x.G.Parents x.S t x.Data=own at o hx
      generalize gapF x.G.Parents x.S x.Data t (x.Asked.take i)=b0 at hx
      have e1:=ob.1; have e2:=o.1
      refine loop2_list (by omega) (fun b j=>b=((cells.zip own).take j).foldl (fun b p=>mnS b ((p.1-p.2).natAbs:Int)) b0) rfl ?_ ?_
      · rintro b j nx hj rfl hx
        have hj2:j<own.length:=by omega
        have c1:=ob.2 _ (List.getElem_mem hj)
        have c2:=o.2 _ (List.getElem_mem hj2)
        refine jn_of (idx_at hj (idx_at hj2 (idx_at hj2 ?_)))
        rw [wr_in (x:=cells[j]-own[j]) (by omega) (by omega),wr_in (x:=own[j]-cells[j]) (by omega) (by omega)]
        have em:mx (cells[j]-own[j]) (own[j]-cells[j])=((cells[j]-own[j]).natAbs:Int):=by unfold mx; split <;> omega
        rw [em]
        exact mn_body (k:=fun b'=>nx b' (wr ((j:Int)+1))) (hx _ (gap_succ _ hj hj2).symm)
      · rintro b rfl
        rw [List.take_of_length_le (by rw [List.length_zip]; omega)]; exact hx
    · rw [decide_eq_false (fun c=>g c.1)] at hk; exact hk
    · rw [decide_eq_false (fun c=>g2 c.2.2)] at hk; exact hk
    · rw [show decide (a.Level=t.Level∧a.Vars=t.Vars∧a.Sum=t.Sum)=decide (a.Vars=t.Vars) from by rw [Bool.eq_iff_iff]; simp [g,g2]] at hk; exact hk
  · rintro b rfl
    rw [List.take_length]; exact hq
def ffew (n fl:Int):Bool:=decide (0<n)&&decide (n<fl)
noncomputable def cod (x:Server) (asked:List Table) (t:Table):Int :=
  if tOk x.G.Parents x.S t=true then
    if fT t x.Plan<0 then 2 else if 0≤fT t asked then 0 else if fitF x.Budget x.Cost (asked.length+1)=true then
      if 0≤t.Sum then 0 else if ffew (few (tabF x.G.Parents x.S t x.Data)) x.Floor=true then 4 else if ffew (gapF x.G.Parents x.S x.Data t asked) x.Floor=true then 5 else 0
    else 3
  else 1
theorem cod_zero {x:Server} {asked:List Table} {t:Table} (h:cod x asked t=0):tOk x.G.Parents x.S t=true∧0≤fT t x.Plan:=by
  unfold cod at h
  split at h
  · rename_i g
    refine ⟨g,?_⟩
    split at h
    · cases h
    · omega
  · cases h
structure VS (x:Server) (asked:List Table):Prop where
  p:x.G.Parents.length≤1048576
  s:x.S.length≤1048576
  n:∀ v∈x.S,v.Name.size≤1048576
  g:gOk x.G.Parents=true
  sc:schOk x.S=true
  d:svOk x.G.Parents x.S x.Data=true
  c:lsI x.Cost
  b:lsI x.Budget
  pl:smT x.Plan
  l:smT asked
  a:∀ a∈asked,tOk x.G.Parents x.S a=true
theorem tOk_sum {p:List Int} {sx:List Variable} {t:Table} (h:tOk p sx t=true) : -1≤t.Sum:=by
  unfold tOk at h
  simp only [Bool.and_eq_true] at h
  exact (inb_iff'.1 h.1.2).1
theorem jCode_ok {x:Server} {asked:List Table} {t:Table} {Q:Int→Prop} (v:VS x asked) (ht:t.Vars.length≤1048576∧t.Where.length≤1048576) (hq:Q (cod x asked t)):spec_jCode x asked t Q:=by
  have hL:=Lok_of v.sc
  have hl:=v.l.1
  unfold spec_jCode
  unfold cod at hq
  refine uGood_ok (p:=x.G.Parents) (t:=t) v.p v.s v.n ht.1 ?_
  rw [v.g,v.sc,Bool.true_and,Bool.true_and]
  refine br_nb (fun g=>?_) (fun g=>?_)
  · rw [if_neg (by rw [g]; simp)] at hq; exact hq
  rw [if_pos g] at hq
  refine jFind_ok (t:=t) v.pl (br_dec (fun g1=>?_) (fun g1=>?_))
  · rw [if_pos g1] at hq; exact hq
  rw [if_neg g1] at hq
  refine jFind_ok (t:=t) v.l (br_dec (fun g2=>?_) (fun g2=>?_))
  · rw [if_pos g2] at hq; exact hq
  rw [if_neg g2] at hq
  rw [wr_in (x:=ln asked+1) (by unfold ln; omega) (by unfold ln; omega),show ln asked+1=((asked.length+1:Nat):Int) by unfold ln; omega]
  refine jFits_ok (x:=x) (by omega) v.c v.b (br_nb (fun g3=>?_) (fun g3=>?_))
  · rw [if_neg (by rw [g3]; simp)] at hq; exact hq
  rw [if_pos g3] at hq
  refine br_dec (fun g4=>?_) (fun g4=>?_)
  · rw [if_pos g4] at hq; exact hq
  rw [if_neg g4] at hq
  have o:=tabF_in v.g hL g v.d
  have o7:=o.1
  have o6:=(tOk_b g).2
  refine uTable_ok (p:=x.G.Parents) (t:=t) v.g hL g v.d (jFewest_ok (by omega) ?_)
  refine jn_bool (ffew (few (tabF x.G.Parents x.S t x.Data)) x.Floor) (br_bo (fun g5=>?_) (fun g5=>?_)) fun k hk=>br_dec (fun g5=>?_) (fun g5=>?_)
  · rw [if_pos g5] at hq; exact hq
  · rw [if_neg (by rw [g5]; simp)] at hq
    refine jGap_ok (x:=x) (t:=t) v.g hL g v.d v.l v.a ?_
    refine jn_bool (ffew (gapF x.G.Parents x.S x.Data t asked) x.Floor) (br_bo (fun g6=>?_) (fun g6=>?_)) fun k hk=>br_dec (fun g6=>?_) (fun g6=>?_)
    · rw [if_pos g6] at hq; exact hq
    · rw [if_neg (by rw [g6]; simp)] at hq; exact hq
    · unfold ffew at hk; rw [decide_eq_true (by omega:0<gapF x.G.Parents x.S x.Data t asked),Bool.true_and] at hk; exact hk
    · unfold ffew at hk; rw [decide_eq_false (by omega:¬ 0<gapF x.G.Parents x.S x.Data t asked),Bool.false_and] at hk; exact hk
  · unfold ffew at hk; rw [decide_eq_true (by omega:0<few (tabF x.G.Parents x.S t x.Data)),Bool.true_and] at hk; exact hk
  · unfold ffew at hk; rw [decide_eq_false (by omega:¬ 0<few (tabF x.G.Parents x.S t x.Data)),Bool.false_and] at hk; exact hk
theorem isFew_ok {n fl:Int} {Q:Bool→Prop} (hq:Q (ffew n fl)):impl_isFew n fl Q:=by
  unfold impl_isFew
  refine jn_bool _ hq fun k hk=>br_dec (fun g=>?_) (fun g=>?_)
  · unfold ffew at hk; rw [decide_eq_true (by omega:0<n),Bool.true_and] at hk; exact hk
  · unfold ffew at hk; rw [decide_eq_false (by omega:¬ 0<n),Bool.false_and] at hk; exact hk
theorem queryCode_ok {x:Server} {t:Table} {Q:Int→Prop} (v:VS x x.Asked) (ht:t.Vars.length≤1048576∧t.Where.length≤1048576) (hq:Q (cod x x.Asked t)):impl_queryCode x t Q:=by
  have hL:=Lok_of v.sc
  have hl:=v.l.1
  unfold impl_queryCode
  unfold cod at hq
  refine isTable_ok (p:=x.G.Parents) (t:=t) v.g hL ht.1 (br_nb (fun g=>?_) (fun g=>?_))
  · rw [if_neg (by rw [g]; simp)] at hq; exact hq
  rw [if_pos g] at hq
  refine indexOf_ok (t:=t) v.pl ht (br_dec (fun g1=>?_) (fun g1=>?_))
  · rw [if_pos g1] at hq; exact hq
  rw [if_neg g1] at hq
  refine indexOf_ok (t:=t) v.l ht (br_dec (fun g2=>?_) (fun g2=>?_))
  · rw [if_pos g2] at hq; exact hq
  rw [if_neg g2] at hq
  rw [wr_in (x:=ln x.Asked+1) (by unfold ln; omega) (by unfold ln; omega),show ln x.Asked+1=((x.Asked.length+1:Nat):Int) by unfold ln; omega]
  have key:∀ (s:Loss) (b:Bool),(b=true→lsI s)→(fitF x.Budget x.Cost (x.Asked.length+1)=(b&&wth x.Budget s))→jn (fun (k:Bool→Prop)=>br (!b) (k true) <|
      impl_isWithin ((Loss.mk ((Frac.mk x.Budget.Ratio.Num x.Budget.Ratio.Den)) ((Frac.mk x.Budget.Rho.Num x.Budget.Rho.Den)))) ((Loss.mk ((Frac.mk s.Ratio.Num s.Ratio.Den)) ((Frac.mk s.Rho.Num s.Rho.Den)))) fun r135=>k (!r135)) fun (x131:Bool)=>br (x131) (Q 3)<|jn (fun (k153:Bool→Prop)=>br (t.Sum==((-1))) (impl_tableOf ((Geo.mk x.G.Parents)) x.S ((Table.mk t.Level t.Vars t.Where t.Sum)) x.Data fun r165 =>
      det1 (impl_fewest r165) fun r182 =>
      det1 (impl_isFew r182 x.Floor) fun r183 =>
      k153 r183) <|
      k153 false) <|
      fun (x150:Bool) =>
      br (x150) (Q 4) <|
      jn (fun (k204:Bool→Prop)=>br (t.Sum==((-1))) (det1 (impl_leastGap x ((Table.mk t.Level t.Vars t.Where t.Sum))) fun r207 =>
      det1 (impl_isFew r207 x.Floor) fun r211 =>
      k204 r211) <|
      k204 false) <|
      fun (x201:Bool) =>
      br (x201) (Q 5) <|
      Q 0:=by
    intro s b hs he
    refine jn_bool (!(fitF x.Budget x.Cost (x.Asked.length+1))) (br_nb (fun g3=>?_) (fun g3=>?_)) fun k hk=>br_nb (fun g3=>?_) (fun g3=>isWithin_ok (bu:=x.Budget) (x:=s) v.b (hs g3) ?_)
    · rw [if_neg (by rw [g3]; simp)] at hq; exact hq
    · rw [if_pos g3] at hq
      have ts:=tOk_sum g
      have o:=tabF_in v.g hL g v.d
      have o7:=o.1
      have o6:=(tOk_b g).2
      refine jn_bool (!decide (0≤t.Sum)&&ffew (few (tabF x.G.Parents x.S t x.Data)) x.Floor) (br_bo (fun g5=>?_) (fun g5=>?_)) fun k hk=>br_eq (fun g4=>?_) (fun g4=>?_)
      · simp only [Bool.and_eq_true,Bool.not_eq_true',decide_eq_false_iff_not] at g5
        rw [if_neg g5.1,if_pos g5.2] at hq; exact hq
      · refine jn_bool (!decide (0≤t.Sum)&&ffew (gapF x.G.Parents x.S x.Data t x.Asked) x.Floor) (br_bo (fun g6=>?_) (fun g6=>?_)) fun k hk=>br_eq (fun g4=>?_) (fun g4=>?_)
        · simp only [Bool.and_eq_true,Bool.not_eq_true',decide_eq_false_iff_not] at g6
          rw [decide_eq_false g6.1,Bool.not_false,Bool.true_and] at g5
          rw [if_neg g6.1,if_neg (by rw [g5]; simp),if_pos g6.2] at hq; exact hq
        · by_cases g7:0≤t.Sum
          · rw [if_pos g7] at hq; exact hq
          · rw [decide_eq_false g7,Bool.not_false,Bool.true_and] at g5 g6
            rw [if_neg g7,if_neg (by rw [g5]; simp),if_neg (by rw [g6]; simp)] at hq; exact hq
        · rw [decide_eq_false (by omega:¬ 0≤t.Sum),Bool.not_false,Bool.true_and] at hk
          exact det1_of _ (leastGap_ok (x:=x) (t:=t) v.g hL g v.d v.l v.a rfl) (det1_of _ (isFew_ok rfl) hk)
        · rw [decide_eq_true (by omega:0≤t.Sum)] at hk; exact hk
      · rw [decide_eq_false (by omega:¬ 0≤t.Sum),Bool.not_false,Bool.true_and] at hk
        exact tableOf_ok (p:=x.G.Parents) (t:=t) v.g hL g v.d (det1_of _ (fewest_ok (by omega) rfl) (det1_of _ (isFew_ok rfl) hk))
      · rw [decide_eq_true (by omega:0≤t.Sum)] at hk; exact hk
    · rw [he,g3] at hk; exact hk
    · rw [he,g3,Bool.true_and] at hk; exact hk
  refine costOf_ok (co:=x.Cost) (by omega) v.c (fun s e hs=>?_) (fun e=>?_)
  · exact key s true (fun _=>hs) (by unfold fitF; rw [e]; rfl)
  · exact key zL false (fun c=>by cases c) (by unfold fitF; rw [e]; rfl)
def jRest (x:Server) (Q:Bool→Prop):Prop :=
  Loop1 (fun (x141:Int) nx147 =>
  br (decide (x141<(ln x.Asked))) (idx x.Asked x141 fun x149 =>
  jn (fun (k210:Bool→Prop)=>(0:Int)≤0∧0≤x141∧x141≤ln x.Asked∧(
  det1 (spec_jFind (List.take (Int.toNat x141-Int.toNat 0) (List.drop (Int.toNat 0) x.Asked)) x149) fun r219 =>
  br (decide (r219≥0)) (k210 true) <|
  (0:Int)≤0∧0≤x141∧x141≤ln x.Asked∧(
  det1 (spec_jCode x (List.take (Int.toNat x141-Int.toNat 0) (List.drop (Int.toNat 0) x.Asked)) x149) fun r233 =>
  k210 (r233 != 0)))) <|
  fun (x207:Bool) =>
  br (x207) (Q false) <|
  nx147 (wr (x141+1))) <|
  Q true) 0
def iRest (x:Server) (Q:Bool→Prop):Prop :=
  Loop1 (fun (x112:Int) nx =>
  br (decide (x112<(ln x.Asked))) (idx x.Asked x112 fun x116 =>
  impl_indexOfTable x.Plan x116 fun r150 =>
  br (decide (r150<0)) (Q false) <|
  (0:Int)≤0∧0≤x112∧x112≤ln x.Asked∧(
  impl_queryCode {x with Asked:=List.take (Int.toNat x112-Int.toNat 0) (List.drop (Int.toNat 0) x.Asked)} x116 fun r186 =>
  br (r186 != 0) (Q false) <|
  nx (wr (x112+1)))) <|
  Q true) 0
theorem jGood_gen {x:Server} {Q:Bool→Prop} (w:Sm x) (hn:∀ v∈x.S,v.Name.size≤1048576) (h0':srvOk x=false→Q false) (h1':srvOk x=true→jRest x Q):spec_jGood x Q:=by
  have h0:=w.l.1
  unfold spec_jGood
  refine jn_bool (!((((((gOk x.G.Parents&&schOk x.S)&&svOk x.G.Parents x.S x.Data)&&decide (x.Plan.length≤20))&&lsOk x.Cost)&&lsOk x.Budget)&&inb 0 40 x.Floor)) ?_ fun k hk=>uSurvey_ok (p:=x.G.Parents) w.p w.s hn w.d.1 (br_nb (fun g=>?_) (fun g=>br_dec (fun g1=>?_) (fun g1=>pGood_ok (x:=x.Cost) (br_nb (fun g2=>?_) (fun g2=>pGood_ok (x:=x.Budget) (br_nb (fun g3=>?_) (fun g3=>l1In_ok ?_)))))))
  · refine br_nb (fun g=>?_) (fun g=>?_)
    · exact h0' (srvOk_no fun c=>by rw [c.1.1.1,c.1.1.2,c.1.2,decide_eq_true c.2.1,c.2.2.1.1,c.2.2.1.2,c.2.2.2.1] at g; cases g)
    · simp only [Bool.and_eq_true,decide_eq_true_eq] at g
      have ⟨⟨⟨⟨⟨⟨a1,a2⟩,a3⟩,a4⟩,a5⟩,a6⟩,a7⟩:=g
      refine loop1_list (by omega) (fun i=>(x.Plan.take i).all (tOk x.G.Parents x.S)=true∧(x.Plan.take i).Nodup) (by simp) (fun i nx hi hj hx=>idx_at hi ?_) (fun hj=>?_)
      · have ht:=w.l.2 _ (List.getElem_mem hi)
        refine jn_bool (!(tOk x.G.Parents x.S x.Plan[i]&&!decide (fT x.Plan[i] (x.Plan.take i)≥0))) ?_ fun k hk=>det1_of _ (uGood_ok (p:=x.G.Parents) (t:=x.Plan[i]) w.p w.s hn ht.1 rfl) ?_
        · refine br_nb (fun g2=>?_) (fun g2=>?_)
          · have:srvOk x=false:=srvOk_no fun c=>by
              have b1:=List.all_eq_true.1 c.2.2.2.2.1 _ (List.getElem_mem hi)
              have b2:=difT_t.1 c.2.2.2.2.2
              rw [b1,Bool.true_and,Bool.not_eq_false'] at g2
              have b3:=of_decide_eq_true g2
              exact nd_no hi (Classical.byContradiction fun c2=>by have:=fT_neg.2 c2; omega) b2
            exact h0' this
          · simp only [Bool.and_eq_true,Bool.not_eq_true',decide_eq_false_iff_not] at g2
            exact hx ⟨lallS hi hj.1 g2.1,nd_succ hi hj.2 (fT_neg.1 (by omega))⟩
        · rw [a1,a2,Bool.true_and,Bool.true_and]
          refine br_nb (fun g2=>?_) (fun g2=>⟨by omega,by omega,by unfold ln; omega,?_⟩)
          · rw [g2] at hk; exact hk
          · simp only [Int.toNat_natCast,Int.toNat_zero,Nat.sub_zero,List.drop_zero]
            refine det1_of (fT x.Plan[i] (x.Plan.take i)) (jFind_ok (t:=x.Plan[i]) ⟨by rw [List.length_take]; omega,fun t ht=>w.l.2 t (List.mem_of_mem_take ht)⟩ rfl) ?_
            rw [g2,Bool.true_and,Bool.not_not] at hk; exact hk
      · rw [List.take_length] at hj
        have:srvOk x=true:=by
          unfold srvOk
          rw [a1,a2,a3,decide_eq_true a4,a5,a6,a7,hj.1,difT_t.2 hj.2]; rfl
        exact h1' this
  · rw [g] at hk; exact hk
  · rw [g,decide_eq_false (by unfold ln at g1; omega)] at hk; exact hk
  · rw [g,g2,decide_eq_true (by unfold ln at g1; omega:x.Plan.length≤20)] at hk; exact hk
  · rw [g,g2,g3,decide_eq_true (by unfold ln at g1; omega:x.Plan.length≤20)] at hk; exact hk
  · rw [g,g2,g3,decide_eq_true (by unfold ln at g1; omega:x.Plan.length≤20)] at hk; exact hk
theorem IsServer_gen {x:Server} {Q:Bool→Prop} (w:Sm x) (h0':srvOk x=false→Q false) (h2':difT x.Asked=false→Q false) (h1':srvOk x=true→difT x.Asked=true→iRest x Q):impl_IsServer x Q:=by
  have h0:=w.l.1
  unfold impl_IsServer
  refine jn_bool (!(((((gOk x.G.Parents&&schOk x.S)&&svOk x.G.Parents x.S x.Data)&&decide (x.Plan.length≤20))&&x.Plan.all (tOk x.G.Parents x.S))&&difT x.Plan)) ?_ fun k hk=>IsGeo_ok (p:=x.G.Parents) w.p (br_nb (fun g=>?_) (fun g=>IsSchema_ok w.s (br_nb (fun g1=>?_) (fun g1=>isSurvey_ok (p:=x.G.Parents) g (Lok_of g1) w.d.1 (br_nb (fun g2=>?_) (fun g2=>br_dec (fun g3=>?_) (fun g3=>isPlan_ok (p:=x.G.Parents) w.p w.s g g1 (by unfold ln at g3; omega) w.l (br_nb (fun g4=>?_) (fun g4=>areDifferent_ok w.l ?_)))))))))
  · refine br_nb (fun g=>?_) (fun g=>?_)
    · exact h0' (srvOk_no fun c=>by rw [c.1.1.1,c.1.1.2,c.1.2,decide_eq_true c.2.1,c.2.2.2.2.1,c.2.2.2.2.2] at g; cases g)
    · simp only [Bool.and_eq_true,decide_eq_true_eq] at g
      have ⟨⟨⟨⟨⟨a1,a2⟩,a3⟩,a4⟩,a5⟩,a6⟩:=g
      refine jn_bool (!(((lsOk x.Cost&&lsOk x.Budget)&&inb 0 40 x.Floor)&&difT x.Asked)) ?_ fun k hk=>IsLoss_ok (x:=x.Cost) (br_nb (fun g=>?_) (fun g=>IsLoss_ok (x:=x.Budget) (br_nb (fun g1=>?_) (fun g1=>br_dec (fun g2=>?_) (fun g2=>br_dec (fun g3=>?_) (fun g3=>areDifferent_ok w.a ?_))))))
      · refine br_nb (fun g=>?_) (fun g=>?_)
        · cases hd:difT x.Asked with
          | false=>exact h2' hd
          | true=>exact h0' (srvOk_no fun c=>by rw [c.2.2.1.1,c.2.2.1.2,c.2.2.2.1,hd] at g; cases g)
        · simp only [Bool.and_eq_true] at g
          have:srvOk x=true:=by
            unfold srvOk
            rw [a1,a2,a3,decide_eq_true a4,a5,a6,g.1.1.1,g.1.1.2,g.1.2]; rfl
          exact h1' this g.2
      · rw [g] at hk; exact hk
      · rw [g,g1] at hk; exact hk
      · rw [g,g1,show inb 0 40 x.Floor=false by unfold inb; rw [decide_eq_false (by omega)]; rfl] at hk; exact hk
      · rw [g,g1,show inb 0 40 x.Floor=false by unfold inb; rw [decide_eq_false (by omega:¬ x.Floor≤40),Bool.and_false]] at hk; exact hk
      · rw [g,g1,inb_iff'.2 ⟨by omega,by omega⟩] at hk
        exact hk
  · rw [g] at hk; exact hk
  · rw [g,g1] at hk; exact hk
  · rw [g,g1,g2] at hk; exact hk
  · rw [g,g1,g2,decide_eq_false (by unfold ln at g3; omega)] at hk; exact hk
  · rw [g,g1,g2,decide_eq_true (by unfold ln at g3; omega:x.Plan.length≤20),g4] at hk; exact hk
  · rw [g,g1,g2,decide_eq_true (by unfold ln at g3; omega:x.Plan.length≤20),g4] at hk; exact hk
def aOkP (x:Server):Prop:=x.Asked.Nodup∧∀ i (hi:i<x.Asked.length),cod x (x.Asked.take i) x.Asked[i]=0
noncomputable def svrOk (x:Server):Bool:=srvOk x && @decide (aOkP x) (Classical.propDecidable _)
theorem svrOk_iff {x:Server}:svrOk x=true↔srvOk x=true∧aOkP x:=by
  unfold svrOk
  rw [Bool.and_eq_true,@decide_eq_true_iff _ (Classical.propDecidable _)]
theorem svrOk_no {x:Server} (h:srvOk x=true→¬ aOkP x):svrOk x=false:=by
  rw [Bool.eq_false_iff,ne_eq,svrOk_iff]; exact fun c=>h c.1 c.2
theorem VS_of {x:Server} {asked:List Table} (w:Sm x) (hn:∀ v∈x.S,v.Name.size≤1048576) (h:srvOk x=true) (hl:smT asked) (ha:∀ a∈asked,tOk x.G.Parents x.S a=true):VS x asked:=by
  obtain ⟨⟨⟨h1,h2⟩,h3⟩,_,⟨h4,h5⟩,_⟩:=srvOk_of h
  exact ⟨w.p,w.s,hn,h1,h2,h3,lsI_of h4,lsI_of h5,w.l,hl,ha⟩
theorem smT_take {l:List Table} (h:smT l) (i:Nat):smT (l.take i):=⟨by have:=h.1; rw [List.length_take]; omega,fun t ht=>h.2 t (List.mem_of_mem_take ht)⟩
theorem all_take {x:Server} {l:List Table} {i:Nat} (h:∀ j (hj:j<l.length),j<i→cod x (l.take j) l[j]=0):∀ a∈l.take i,tOk x.G.Parents x.S a=true:=fun a ha=>by
  rw [List.mem_take_iff_getElem] at ha
  obtain ⟨j,hj,rfl⟩:=ha
  exact (cod_zero (h j (by omega) (by omega))).1
theorem jRest_ok {x:Server} {Q:Bool→Prop} (w:Sm x) (hn:∀ v∈x.S,v.Name.size≤1048576) (h:srvOk x=true) (hq:Q (svrOk x)):jRest x Q:=by
  have h0:=w.a.1
  unfold jRest
  refine loop1_list (by omega) (fun i=>(x.Asked.take i).Nodup∧∀ j (hj:j<x.Asked.length),j<i→cod x (x.Asked.take j) x.Asked[j]=0) ⟨by simp,fun j hj c=>by omega⟩ (fun i nx hi ⟨j1,j2⟩ hx=>idx_at hi ?_) (fun ⟨j1,j2⟩=>?_)
  · have hv:=VS_of w hn h (smT_take w.a i) (all_take j2)
    have ht:=w.a.2 _ (List.getElem_mem hi)
    refine jn_bool (!(!decide (fT x.Asked[i] (x.Asked.take i)≥0)&&(cod x (x.Asked.take i) x.Asked[i]==0))) (br_nb (fun g=>?_) (fun g=>?_)) fun k hk=>⟨by omega,by omega,by unfold ln; omega,?_⟩
    · have:svrOk x=false:=svrOk_no fun _ c=>by
        have b1:decide (fT x.Asked[i] (x.Asked.take i)≥0)=false:=decide_eq_false fun c2=>nd_no hi (Classical.byContradiction fun c3=>by have:=fT_neg.2 c3; omega) c.1
        rw [b1,c.2 i hi] at g; cases g
      rw [this] at hq; exact hq
    · simp only [Bool.and_eq_true,Bool.not_eq_true',decide_eq_false_iff_not,beq_iff_eq] at g
      refine hx ⟨nd_succ hi j1 (fT_neg.1 (by omega)),fun j hj hji=>?_⟩
      by_cases e:j=i
      · subst e; exact g.2
      · exact j2 j hj (by omega)
    · simp only [Int.toNat_natCast,Int.toNat_zero,Nat.sub_zero,List.drop_zero]
      refine det1_of _ (jFind_ok (t:=x.Asked[i]) hv.l rfl) (br_bo (fun g=>?_) (fun g=>⟨by omega,by omega,by unfold ln; omega,det1_of _ (jCode_ok hv ht rfl) ?_⟩))
      · rw [g] at hk; exact hk
      · rw [g,Bool.not_false,Bool.true_and] at hk; exact hk
  · rw [List.take_length] at j1
    rw [svrOk_iff.2 ⟨h,j1,fun i hi=>j2 i hi hi⟩] at hq; exact hq
theorem iRest_ok {x:Server} {Q:Bool→Prop} (w:Sm x) (hn:∀ v∈x.S,v.Name.size≤1048576) (h:srvOk x=true) (hd:difT x.Asked=true) (hq:Q (svrOk x)):iRest x Q:=by
  have h0:=w.a.1
  unfold iRest
  refine loop1_list (by omega) (fun i=>∀ j (hj:j<x.Asked.length),j<i→cod x (x.Asked.take j) x.Asked[j]=0) (fun j hj c=>by omega) (fun i nx hi j2 hx=>idx_at hi ?_) (fun j2=>?_)
  · have hv:=VS_of w hn h (smT_take w.a i) (all_take j2)
    have ht:=w.a.2 _ (List.getElem_mem hi)
    have no:¬ cod x (x.Asked.take i) x.Asked[i]=0→svrOk x=false:=fun c=>svrOk_no fun _ c2=>c (c2.2 i hi)
    refine indexOf_ok (t:=x.Asked[i]) w.l ht (br_dec (fun g=>?_) (fun g=>⟨by omega,by omega,by unfold ln; omega,?_⟩))
    · rw [no fun c=>by have:=(cod_zero c).2; omega] at hq; exact hq
    · simp only [Int.toNat_natCast,Int.toNat_zero,Nat.sub_zero,List.drop_zero]
      have hv2:VS {x with Asked:=x.Asked.take i} (x.Asked.take i):=⟨hv.p,hv.s,hv.n,hv.g,hv.sc,hv.d,hv.c,hv.b,hv.pl,hv.l,hv.a⟩
      refine queryCode_ok (x:={x with Asked:=x.Asked.take i}) hv2 ht ?_
      show br (cod x (x.Asked.take i) x.Asked[i]!=0) _ _
      refine br_ne (fun g=>?_) (fun g=>hx fun j hj hji=>?_)
      · rw [no g] at hq; exact hq
      · by_cases e:j=i
        · subst e; exact g
        · exact j2 j hj (by omega)
  · rw [svrOk_iff.2 ⟨h,difT_t.1 hd,fun i hi=>j2 i hi hi⟩] at hq; exact hq
theorem jGoodA_ok {x:Server} {Q:Bool→Prop} (w:Sm x) (hn:∀ v∈x.S,v.Name.size≤1048576) (hq:Q (svrOk x)):spec_jGood x Q :=
  jGood_gen w hn (fun h=>by rw [svrOk_no fun c=>by rw [h] at c; cases c] at hq; exact hq) (fun h=>jRest_ok w hn h hq)
theorem IsServerA_ok {x:Server} {Q:Bool→Prop} (w:Sm x) (hn:∀ v∈x.S,v.Name.size≤1048576) (hq:Q (svrOk x)):impl_IsServer x Q :=
  IsServer_gen w (fun h=>by rw [svrOk_no fun c=>by rw [h] at c; cases c] at hq; exact hq) (fun h=>by rw [svrOk_no fun _ c=>by rw [difT_t.2 c.1] at h; cases h] at hq; exact hq) (fun h h2=>iRest_ok w hn h h2 hq)
theorem nd_le {α:Type}:∀ {l m:List α},l.Nodup→(∀ x∈l,x∈m)→l.length≤m.length
  | [],m,_,_=>Nat.zero_le _
  | x :: l,m,h,hs=>by
    obtain ⟨a,b,rfl⟩:=List.append_of_mem (hs x (List.mem_cons_self ..))
    have hx:=List.nodup_cons.1 h
    have:=nd_le (l:=l) (m:=a++b) hx.2 fun y hy=>by
      have:=hs y (List.mem_cons_of_mem _ hy)
      simp only [List.mem_append,List.mem_cons] at this ⊢
      rcases this with e | e | e
      · exact .inl e
      · subst e; exact absurd hy hx.1
      · exact .inr e
    simp only [List.length_append,List.length_cons] at this ⊢
    omega
theorem askLen {x:Server} (h:svrOk x=true):x.Asked.length≤20:=by
  have ⟨h1,h2,h3⟩:=svrOk_iff.1 h
  have:=(srvOk_of h1).2.1
  have:=nd_le (m:=x.Plan) h2 fun t ht=>by
    obtain ⟨i,hi,rfl⟩:=List.mem_iff_getElem.1 ht
    have:=(cod_zero (h3 i hi)).2
    exact Classical.byContradiction fun c=>by have:=fT_neg.2 c; omega
  omega
theorem VS_ok {x:Server} (w:Sm x) (hn:∀ v∈x.S,v.Name.size≤1048576) (h:svrOk x=true):VS x x.Asked:=by
  have ⟨h1,h2,h3⟩:=svrOk_iff.1 h
  refine VS_of w hn h1 w.a fun a ha=>?_
  obtain ⟨i,hi,rfl⟩:=List.mem_iff_getElem.1 ha
  exact (cod_zero (h3 i hi)).1
noncomputable def asS (x:Server) (t:Table):Server:=if cod x x.Asked t=0 then {x with Asked:=if fT t x.Asked<0 then x.Asked++[t] else x.Asked} else x
noncomputable def asC (x:Server) (t:Table):List Int:=if cod x x.Asked t=0 then tabF x.G.Parents x.S t x.Data else []
theorem smT_snoc {l:List Table} {t:Table} (h:smT l) (h1:l.length≤1000) (ht:t.Vars.length≤1048576∧t.Where.length≤1048576):smT (l++[t]):=by
  refine ⟨by simp; omega,fun a ha=>?_⟩
  rcases List.mem_append.1 ha with e | e
  · exact h.2 a e
  · simp at e; subst e; exact ht
theorem jAsk_ok {x:Server} {t:Table} {Q:Server→List Int→Int→Prop} (v:VS x x.Asked) (hA:x.Asked.length≤1000) (ht:t.Vars.length≤1048576∧t.Where.length≤1048576) (hq:Q (asS x t) (asC x t) (cod x x.Asked t)):spec_jAsk x t Q:=by
  unfold spec_jAsk
  unfold asS asC at hq
  refine jCode_ok (x:=x) (t:=t) v ht (br_ne (fun g=>?_) (fun g=>?_))
  · rw [if_neg g,if_neg g] at hq; exact hq
  · rw [if_pos g,if_pos g] at hq
    refine jn_bool (if fT t x.Asked<0 then x.Asked++[t] else x.Asked) (uTable_ok (p:=x.G.Parents) (t:=t) v.g (Lok_of v.sc) (cod_zero g).1 v.d hq) fun k hk=>jFind_ok (t:=t) v.l (br_dec (fun g1=>jTables_ok v.l (own_ok (l:=t.Vars) ht.1 (own_ok (l:=t.Where) ht.2 ⟨by unfold ln; simp; omega,?_⟩))) (fun g1=>?_))
    · rw [if_pos g1] at hk; exact hk
    · rw [if_neg g1] at hk; exact hk
theorem askTable_ok {x:Server} {t:Table} {Q:Server→List Int→Int→Prop} (v:VS x x.Asked) (hA:x.Asked.length≤1000) (ht:t.Vars.length≤1048576∧t.Where.length≤1048576) (hq:Q (asS x t) (asC x t) (cod x x.Asked t)):impl_askTable x t Q:=by
  unfold impl_askTable
  unfold asS asC at hq
  refine queryCode_ok (x:=x) (t:=t) v ht (br_ne (fun g=>?_) (fun g=>?_))
  · rw [if_neg g,if_neg g] at hq; exact hq
  · rw [if_pos g,if_pos g] at hq
    refine jn_bool (if fT t x.Asked<0 then x.Asked++[t] else x.Asked) (tableOf_ok (p:=x.G.Parents) (t:=t) v.g (Lok_of v.sc) (cod_zero g).1 v.d hq) fun k hk=>indexOf_ok (t:=t) v.l ht (br_dec (fun g1=>copyTables_ok v.l (cloneI_ok (l:=t.Vars) ht.1 (cloneI_ok (l:=t.Where) ht.2 ⟨by unfold ln; simp; omega,?_⟩))) (fun g1=>?_))
    · rw [if_pos g1] at hk; exact hk
    · rw [if_neg g1] at hk; exact hk
theorem asS_sm {x:Server} {t:Table} (w:Sm x) (hA:x.Asked.length≤1000) (ht:t.Vars.length≤1048576∧t.Where.length≤1048576):Sm (asS x t)∧(asS x t).Asked.length≤x.Asked.length+1:=by
  unfold asS
  split
  · split
    · exact ⟨⟨w.p,w.s,w.d,w.l,smT_snoc w.a hA ht⟩,by simp⟩
    · exact ⟨⟨w.p,w.s,w.d,w.l,w.a⟩,by simp⟩
  · exact ⟨w,by omega⟩
theorem asS_VS {x:Server} {t:Table} (v:VS x x.Asked) (hA:x.Asked.length≤1000) (ht:t.Vars.length≤1048576∧t.Where.length≤1048576):VS (asS x t) (asS x t).Asked:=by
  unfold asS
  split
  · rename_i g
    split
    · refine ⟨v.p,v.s,v.n,v.g,v.sc,v.d,v.c,v.b,v.pl,smT_snoc v.l hA ht,fun a ha=>?_⟩
      rcases List.mem_append.1 ha with e | e
      · exact v.a a e
      · simp at e; subst e; exact (cod_zero g).1
    · exact ⟨v.p,v.s,v.n,v.g,v.sc,v.d,v.c,v.b,v.pl,v.l,v.a⟩
  · exact v
theorem szServer_ok {x:Server} {left:Int} {Q:Int→Prop} (w:Wf.wf x) (hl:0≤left∧left≤1048576) (h:∀ n,n≤left→(0≤n→Sm x∧∀ v∈x.S,v.Name.size≤1048576)→Q n):laws_szServer x left Q:=by
  obtain ⟨w0,w1,w2,w3,w4,w5,w6,w7⟩:=w
  have hG:x.G.Parents.length≤maxLen:=w0.1
  have hS:x.S.length≤maxLen∧∀ v∈x.S,v.Name.size≤maxLen:=⟨w1.1,fun v hv=>(w1.2 v hv).1⟩
  have hR:x.Data.length≤maxLen∧∀ r∈x.Data,r.Values.length≤maxLen:=⟨w2.1,fun r hr=>(w2.2 r hr).2.2.1⟩
  have hT:x.Plan.length≤maxLen∧∀ t∈x.Plan,t.Vars.length≤maxLen∧t.Where.length≤maxLen:=⟨w3.1,fun t ht=>⟨(w3.2 t ht).2.1.1,(w3.2 t ht).2.2.1.1⟩⟩
  have hA:x.Asked.length≤maxLen∧∀ t∈x.Asked,t.Vars.length≤maxLen∧t.Where.length≤maxLen:=⟨w7.1,fun t ht=>⟨(w7.2 t ht).2.1.1,(w7.2 t ht).2.2.1.1⟩⟩
  unfold laws_szServer
  refine szG_ok (a:=x.G) hG (by omega) fun r1 a1 b1=>br_dec (fun g=>h _ (by omega) (fun c=>by omega)) (fun g1=>szVariableS_ok hS (by omega) fun r2 a2 b2=>br_dec (fun g=>h _ (by omega) (fun c=>by omega)) (fun g2=>szRecordS_ok hR (by omega) fun r3 a3 b3=>br_dec (fun g=>h _ (by omega) (fun c=>by omega)) (fun g3=>szTableS_ok hT (by omega) fun r4 a4 b4=>br_dec (fun g=>h _ (by omega) (fun c=>by omega)) (fun g4=>szTableS_ok hA (by omega) fun r5 a5 b5=>br_dec (fun g=>h _ (by omega) (fun c=>by omega)) (fun g5=>?_)))))
  have hs:=b2 (by omega)
  exact h _ (by omega) fun _=>⟨⟨b1 (by omega),hs.1,b3 (by omega),b4 (by omega),b5 (by omega)⟩,hs.2⟩
theorem toServer_ok {x:Server} {Q:Server→Prop} (w:Sm x) (h:Q x):laws_toServer x Q:=by
  unfold laws_toServer
  exact toG_ok (a:=x.G) w.p (toVariableS_ok w.s (toRecordS_ok w.d (toTableS_ok w.l (toLoss_ok (a:=x.Cost) (toLoss_ok (a:=x.Budget) (toTableS_ok w.a h))))))
end Go.Proofs.YtfkblhplgnbppaaGreat
