/- The plain law of NewServer. -/
import Derived.Test.YtfkblhplgnbppaaGreatSV
set_option linter.unusedVariables false
set_option autoImplicit false
namespace Go.Proofs.YtfkblhplgnbppaaGreat
open Go Go.RowKit Go.Gv
def lsOk (x:Loss):Bool:=(decide (fOk x.Ratio)&&decide (fOk x.Rho))&&(decide (x.Ratio.Num≥x.Ratio.Den)&&decide (x.Rho.Num≥0))
theorem pGood_ok {x:Loss} {Q:Bool→Prop} (hq:Q (lsOk x)):spec_pGood x Q:=by
  unfold spec_pGood
  refine jn_bool _ hq fun k hk=>fGood_ok' (f:=x.Ratio) (br_bo (fun g=>fGood_ok' (f:=x.Rho) (br_bo (fun g1=>br_bo (fun g2=>?_) (fun g2=>?_)) (fun g1=>?_))) (fun g=>?_))
  · unfold lsOk at hk; rw [g,g1,g2] at hk; exact hk
  · unfold lsOk at hk; rw [g,g1,g2] at hk; exact hk
  · unfold lsOk at hk; rw [g,g1] at hk; exact hk
  · unfold lsOk at hk; rw [g] at hk; exact hk
theorem IsLoss_ok {x:Loss} {Q:Bool→Prop} (hq:Q (lsOk x)):impl_IsLoss x Q:=by
  unfold impl_IsLoss
  refine jn_bool _ hq fun k hk=>isFrac_ok (f:=x.Ratio) (br_bo (fun g=>isFrac_ok (f:=x.Rho) (br_bo (fun g1=>br_bo (fun g2=>?_) (fun g2=>?_)) (fun g1=>?_))) (fun g=>?_))
  · unfold lsOk at hk; rw [g,g1,g2] at hk; exact hk
  · unfold lsOk at hk; rw [g,g1,g2] at hk; exact hk
  · unfold lsOk at hk; rw [g,g1] at hk; exact hk
  · unfold lsOk at hk; rw [g] at hk; exact hk
theorem sameB_ok {a b:List Int} {Q:Bool→Prop} (h1:a.length≤1048576) (hq:Q (decide (a=b))):spec_l1Same a b Q:=by
  unfold spec_l1Same
  refine br_ne (fun g=>?_) (fun g=>?_)
  · rw [decide_eq_false (fun e=>g (by rw [e]))] at hq; exact hq
  · have gl:a.length=b.length:=by unfold ln at g; omega
    refine loop1_list (by omega) (fun i=>a.take i=b.take i) (by simp) (fun i nx hi hj hx=>idx_at hi (idx_at (by omega) (br_ne (fun g1=>?_) (fun g1=>hx ?_)))) (fun hj=>?_)
    · rw [decide_eq_false (fun e=>g1 (by simp [e]))] at hq; exact hq
    · rw [List.take_succ_eq_append_getElem hi,List.take_succ_eq_append_getElem (by omega),hj,g1]
    · rw [List.take_length,gl,List.take_length] at hj
      rw [decide_eq_true hj] at hq; exact hq
theorem Equal_ok {a b:List Int} {Q:Bool→Prop} (h1:a.length≤1048576) (hq:Q (decide (a=b))):slices_Equal_int_int a b Q:=sameB_ok h1 hq
noncomputable def tq (a b:Table):Bool:=@decide (a=b) (Classical.propDecidable _)
theorem tq_t {a b:Table}:tq a b=true↔a=b:=by unfold tq; exact @decide_eq_true_iff _ (Classical.propDecidable _)
theorem tq_of {a b:Table} {B:Bool} (h:B=true↔a=b):B=tq a b:=by rw [Bool.eq_iff_iff,tq_t]; exact h
theorem tab_ext {a b:Table}:a=b↔a.Level=b.Level∧a.Vars=b.Vars∧a.Where=b.Where∧a.Sum=b.Sum:=by
  cases a; cases b; simp
theorem jSame_ok {a b:Table} {Q:Bool→Prop} (ha:a.Vars.length≤1048576∧a.Where.length≤1048576) (hq:Q (tq a b)):spec_jSame a b Q:=by
  unfold spec_jSame
  have no:(¬ a=b)→tq a b=false:=fun h=>by rw [Bool.eq_false_iff,ne_eq,tq_t]; exact h
  refine jn_bool _ hq fun k hk=>br_eq (fun g=>sameB_ok ha.1 (br_dec (fun g1=>sameB_ok ha.2 (br_dec (fun g2=>?_) (fun g2=>?_))) (fun g1=>?_))) (fun g=>?_)
  · rw [show (a.Sum==b.Sum)=tq a b from tq_of (by rw [tab_ext]; simp [g,g1,g2])]; exact hk
  · rw [no fun e=>g2 (by rw [e])] at hk; exact hk
  · rw [no fun e=>g1 (by rw [e])] at hk; exact hk
  · rw [no fun e=>g (by rw [e])] at hk; exact hk
theorem equalTables_ok {a b:Table} {Q:Bool→Prop} (ha:a.Vars.length≤1048576∧a.Where.length≤1048576) (hq:Q (tq a b)):impl_equalTables a b Q:=by
  unfold impl_equalTables
  have no:(¬ a=b)→tq a b=false:=fun h=>by rw [Bool.eq_false_iff,ne_eq,tq_t]; exact h
  refine jn_bool _ hq fun k hk=>br_eq (fun g=>br_eq (fun g1=>Equal_ok ha.1 (br_dec (fun g2=>Equal_ok ha.2 ?_) (fun g2=>?_))) (fun g1=>?_)) (fun g=>?_)
  · rw [show decide (a.Where=b.Where)=tq a b from tq_of (by rw [tab_ext]; simp [g,g1,g2])]; exact hk
  · rw [no fun e=>g2 (by rw [e])] at hk; exact hk
  · rw [no fun e=>g1 (by rw [e])] at hk; exact hk
  · rw [no fun e=>g (by rw [e])] at hk; exact hk
open Classical in
/-- The first index of a table in a list, -1 if it is not there. -/
noncomputable def fT (t:Table):List Table→Int
  | [] => -1
  | x :: l=>if x=t then 0 else if fT t l<0 then -1 else fT t l+1
theorem fT_none {t:Table}:∀ {l:List Table},(∀ x∈l,x≠t)→fT t l = -1
  | [],_=>rfl
  | x :: l,h=>by
    unfold fT
    rw [if_neg (h x (List.mem_cons_self ..)),fT_none fun y hy=>h y (List.mem_cons_of_mem _ hy)]; rfl
theorem fT_hit {t:Table}:∀ {l:List Table} {i:Nat} (hi:i<l.length),l[i]=t→(∀ j (hj:j<i),l[j]≠t)→fT t l=(i:Int)
  | x :: l,0,hi,h,_=>by unfold fT; rw [if_pos (show x=t from h)]; rfl
  | x :: l,i+1,hi,h,hn=>by
    have:=fT_hit (t:=t) (l:=l) (i:=i) (by simpa using hi) (by simpa using h) fun j hj=>by have:=hn (j+1) (by omega); simpa using this
    unfold fT
    rw [if_neg (show ¬ x=t from hn 0 (by omega)),this,if_neg (by omega)]; omega
theorem fT_in {t:Table}:∀ {l:List Table} {i:Nat},t∈l.take i→0≤fT t l∧fT t l<(i:Int)
  | [],i,h=>by simp at h
  | x :: l,0,h=>by simp at h
  | x :: l,i+1,h=>by
    unfold fT
    by_cases e:x=t
    · rw [if_pos e]; omega
    · rw [if_neg e]
      rw [List.take_succ_cons,List.mem_cons] at h
      have:=fT_in (t:=t) (l:=l) (i:=i) (h.resolve_left fun c=>e c.symm)
      rw [if_neg (by omega)]; omega
theorem fT_neg {t:Table} {l:List Table}:fT t l<0↔t ∉ l:=by
  constructor
  · intro h c
    have:=fT_in (t:=t) (l:=l) (i:=l.length) (by rw [List.take_length]; exact c)
    omega
  · intro h; rw [fT_none fun x hx e=>by subst e; exact h hx]; omega
theorem fT_self {l:List Table} {i:Nat} (hi:i<l.length):fT l[i] l=(i:Int)↔l[i] ∉ l.take i:=by
  constructor
  · intro h c; have:=fT_in c; omega
  · intro h
    refine fT_hit hi rfl fun j hj e=>h ?_
    rw [← e,List.mem_take_iff_getElem]
    exact ⟨j,by omega,rfl⟩
theorem tn_step {t:Table} {l:List Table} {i:Nat} (hi:i<l.length) (h:∀ j (hj:j<l.length),j<i→l[j]≠t) (h2:tq l[i] t=false):∀ j (hj:j<l.length),j<i+1→l[j]≠t:=fun j hj hji=>by
  by_cases e:j=i
  · subst e; intro c; rw [tq_t.2 c] at h2; cases h2
  · exact h j hj (by omega)
theorem jFind_ok {l:List Table} {t:Table} {Q:Int→Prop} (hl:smT l) (hq:Q (fT t l)):spec_jFind l t Q:=by
  have h0:=hl.1
  unfold spec_jFind
  refine loop1_list (by omega) (fun i=>∀ j (hj:j<l.length),j<i→l[j]≠t) (fun j hj c=>by omega) (fun i nx hi hj hx=>idx_at hi (jSame_ok (a:=l[i]) (b:=t) (hl.2 _ (List.getElem_mem hi)) (br_bo (fun g=>?_) (fun g=>hx (tn_step hi hj g))))) (fun hj=>?_)
  · rw [fT_hit hi (tq_t.1 g) fun j hji=>hj j (by omega) hji] at hq; exact hq
  · rw [fT_none fun x hx=>by obtain ⟨j,hj',rfl⟩:=List.mem_iff_getElem.1 hx; exact hj j hj' hj'] at hq; exact hq
theorem indexOf_ok {l:List Table} {t:Table} {Q:Int→Prop} (hl:smT l) (ht:t.Vars.length≤1048576∧t.Where.length≤1048576) (hq:Q (fT t l)):impl_indexOfTable l t Q:=by
  have h0:=hl.1
  unfold impl_indexOfTable slices_IndexFunc_impl_Table_impl_Table_impl_indexOfTable_1
  have cm:∀ {a b:Table},tq a b=tq b a:=fun {a b}=>tq_of (by rw [tq_t]; exact eq_comm)
  refine loop1_list (by omega) (fun i=>∀ j (hj:j<l.length),j<i→l[j]≠t) (fun j hj c=>by omega) (fun i nx hi hj hx=>idx_at hi ?_) (fun hj=>?_)
  · unfold impl_indexOfTable_1
    refine equalTables_ok (a:=t) (b:=l[i]) ht (br_bo (fun g=>?_) (fun g=>hx (tn_step hi hj (by rw [cm]; exact g))))
    rw [fT_hit hi (tq_t.1 g).symm fun j hji=>hj j (by omega) hji] at hq; exact hq
  · rw [fT_none fun x hx=>by obtain ⟨j,hj',rfl⟩:=List.mem_iff_getElem.1 hx; exact hj j hj' hj'] at hq; exact hq
noncomputable def difT (l:List Table):Bool:=@decide l.Nodup (Classical.propDecidable _)
theorem difT_t {l:List Table}:difT l=true↔l.Nodup:=by unfold difT; exact @decide_eq_true_iff _ (Classical.propDecidable _)
theorem difT_no {l:List Table} (h:¬ l.Nodup):difT l=false:=by rw [Bool.eq_false_iff,ne_eq,difT_t]; exact h
theorem nd_succ {l:List Table} {i:Nat} (hi:i<l.length) (h:(l.take i).Nodup) (hx:l[i] ∉ l.take i):(l.take (i+1)).Nodup:=by
  rw [List.take_succ_eq_append_getElem hi,List.nodup_append]
  exact ⟨h,by simp,fun a ha b hb e=>by simp at hb; subst hb; subst e; exact hx ha⟩
theorem nd_no {l:List Table} {i:Nat} (hi:i<l.length) (hx:l[i]∈l.take i):¬ l.Nodup:=fun h=>by
  have:=h.sublist (List.take_sublist (i+1) l)
  rw [List.take_succ_eq_append_getElem hi,List.nodup_append] at this
  exact this.2.2 _ hx _ (by simp) rfl
theorem areDifferent_ok {l:List Table} {Q:Bool→Prop} (hl:smT l) (hq:Q (difT l)):impl_areDifferent l Q:=by
  have h0:=hl.1
  unfold impl_areDifferent
  refine loop1_list (by omega) (fun i=>(l.take i).Nodup) (by simp) (fun i nx hi hj hx=>idx_at hi (indexOf_ok (t:=l[i]) hl (hl.2 _ (List.getElem_mem hi)) (br_ne (fun g=>?_) (fun g=>hx (nd_succ hi hj ((fT_self hi).1 g)))))) (fun hj=>?_)
  · rw [difT_no (nd_no hi (Classical.byContradiction fun c=>g ((fT_self hi).2 c)))] at hq; exact hq
  · rw [List.take_length] at hj
    rw [difT_t.2 hj] at hq; exact hq
theorem isPlan_ok {p:List Int} {sx:List Variable} {l:List Table} {Q:Bool→Prop} (hp:p.length≤1048576) (hs:sx.length≤1048576) (hg:gOk p=true) (h:schOk sx=true) (h20:l.length≤20) (hl:smT l) (hq:Q (l.all (tOk p sx))):impl_isPlan ⟨p⟩ sx l Q:=by
  unfold impl_isPlan
  refine jn_bool false ?_ fun k hk=>IsGeo_ok (p:=p) hp (br_false (by rw [hg]; rfl) (IsSchema_ok hs (br_false (by rw [h]; rfl) ?_)))
  · refine br_false rfl (loop1_list (by omega) (fun i=>(l.take i).all (tOk p sx)=true) (by simp) (fun i nx hi hj hx=>idx_at hi (isTable_ok (p:=p) (t:=l[i]) hg (Lok_of h) (hl.2 _ (List.getElem_mem hi)).1 (br_nb (fun g=>?_) (fun g=>hx (lallS hi hj g))))) (fun hj=>?_))
    · rw [all_no hi g] at hq; exact hq
    · rw [List.take_length] at hj; rw [hj] at hq; exact hq
  · rw [decide_eq_false (by unfold ln; omega)]; exact hk
noncomputable def srvOk (x:Server):Bool:=(((((gOk x.G.Parents&&schOk x.S)&&svOk x.G.Parents x.S x.Data)&&decide (x.Plan.length≤20))&&(lsOk x.Cost&&lsOk x.Budget))&&inb 0 40 x.Floor)&&(x.Plan.all (tOk x.G.Parents x.S)&&difT x.Plan)
theorem srvOk_of {x:Server} (h:srvOk x=true):((gOk x.G.Parents=true∧schOk x.S=true)∧svOk x.G.Parents x.S x.Data=true)∧x.Plan.length≤20∧(lsOk x.Cost=true∧lsOk x.Budget=true)∧inb 0 40 x.Floor=true∧x.Plan.all (tOk x.G.Parents x.S)=true∧difT x.Plan=true:=by
  unfold srvOk at h
  simp only [Bool.and_eq_true,decide_eq_true_eq] at h
  exact ⟨h.1.1.1.1,h.1.1.1.2,h.1.1.2,h.1.2,h.2⟩
theorem srvOk_no {x:Server} (h:¬ (((gOk x.G.Parents=true∧schOk x.S=true)∧svOk x.G.Parents x.S x.Data=true)∧x.Plan.length≤20∧(lsOk x.Cost=true∧lsOk x.Budget=true)∧inb 0 40 x.Floor=true∧x.Plan.all (tOk x.G.Parents x.S)=true∧difT x.Plan=true)):srvOk x=false:=by
  rw [Bool.eq_false_iff]; exact fun c=>h (srvOk_of c)
theorem cloneI_ok {l:List Int} {Q:List Int→Prop} (hl:l.length≤1048576) (hq:Q l):slices_Clone_int_int l Q:=by
  unfold slices_Clone_int_int
  intro b hb
  refine br_bo (fun g=>?_) (fun g=>⟨by unfold ln; simp; omega,hq⟩)
  rw [hb g] at hq; exact hq
theorem cloneV_ok {l:List Variable} {Q:List Variable→Prop} (hl:l.length≤1048576) (hq:Q l):slices_Clone_impl_Variable_impl_Variable l Q:=by
  unfold slices_Clone_impl_Variable_impl_Variable
  intro b hb
  refine br_bo (fun g=>?_) (fun g=>⟨by unfold ln; simp; omega,hq⟩)
  rw [hb g] at hq; exact hq
theorem own_ok {l:List Int} {Q:List Int→Prop} (hl:l.length≤1048576) (hq:Q l):spec_l1Own l Q:=⟨by unfold ln; simp; omega,by simpa using hq⟩
theorem copyTables_ok {l:List Table} {Q:List Table→Prop} (hl:smT l) (hq:Q l):impl_copyTables l Q :=
  toL_ok (C:=impl_copyTable) (S:=fun t=>t.Vars.length≤1048576∧t.Where.length≤1048576) (fun x hx Q h=>cloneI_ok hx.1 (cloneI_ok hx.2 h)) (by omega) hl hq
theorem copyRecs_ok {l:List Record} {Q:List Record→Prop} (hl:smR l) (hq:Q l):impl_copyRecords l Q :=
  toL_ok (C:=impl_copyRecord) (S:=fun r=>r.Values.length≤1048576) (fun x hx Q h=>cloneI_ok hx h) (by omega) hl hq
theorem jTables_ok {l:List Table} {Q:List Table→Prop} (hl:smT l) (hq:Q l):spec_jTables l Q:=by
  have h0:=hl.1
  unfold spec_jTables
  refine loop2_list (by omega) (fun out i=>out=l.take i) (by simp) ?_ ?_
  · rintro out i nx hi rfl hx
    have ⟨a,b⟩:=hl.2 _ (List.getElem_mem hi)
    refine idx_at hi (own_ok (l:=l[i].Vars) a (own_ok (l:=l[i].Where) b ⟨by unfold ln; simp; omega,hx _ ?_⟩))
    rw [List.take_succ_eq_append_getElem hi]
  · rintro out rfl
    rw [List.take_length]; exact hq
theorem jOwn_ok {x:Server} {Q:Server→Prop} (w:Sm x) (hq:Q x):spec_jOwn x Q:=by
  have h0:=w.d.1
  have h1:=w.s
  have body:∀ (pa:List Int) (sx:List Variable) (pl al:List Table),pa=x.G.Parents→sx=x.S→pl=x.Plan→al=x.Asked→Loop2 (fun (x669:Int) (data:List Record) nx =>
      br (decide (x669<(ln x.Data))) (idx x.Data x669 fun x681 =>
      spec_rOwn ((Record.mk x681.Area x681.House x681.Values)) fun r713 =>
      (ln data+ln ([((Record.mk r713.Area r713.House r713.Values):Record)])) * 40≤140737488355328∧(
      nx (wr (x669+1)) (data++([((Record.mk r713.Area r713.House r713.Values):Record)])))) <|
      Q ((Server.mk ((Geo.mk pa)) sx data pl ((Loss.mk ((Frac.mk x.Cost.Ratio.Num x.Cost.Ratio.Den)) ((Frac.mk x.Cost.Rho.Num x.Cost.Rho.Den)))) ((Loss.mk ((Frac.mk x.Budget.Ratio.Num x.Budget.Ratio.Den)) ((Frac.mk x.Budget.Rho.Num x.Budget.Rho.Den)))) x.Floor al))) 0 ([]):=by
    rintro _ _ _ _ rfl rfl rfl rfl
    refine loop2_listF (by omega) (fun out i=>out=x.Data.take i) (by simp) ?_ ?_
    · rintro out i nx hi rfl hx
      refine idx_at hi (own_ok (l:=x.Data[i].Values) (w.d.2 _ (List.getElem_mem hi)) ⟨by unfold ln; simp; omega,hx _ ?_⟩)
      rw [List.take_succ_eq_append_getElem hi]
    · rintro out rfl
      rw [List.take_length]; exact hq
  unfold spec_jOwn
  refine jn_of ⟨?_,?_⟩
  · exact own_ok w.p ⟨by unfold ln; simp; omega,jTables_ok w.l (jTables_ok w.a (body _ _ _ _ rfl rfl rfl rfl))⟩
  · exact own_ok w.p ⟨by unfold ln; simp; omega,jTables_ok w.l (jTables_ok w.a (body _ _ _ _ rfl rfl rfl rfl))⟩
theorem copyServer_ok {x:Server} {Q:Server→Prop} (w:Sm x) (hq:Q x):impl_copyServer x Q:=by
  unfold impl_copyServer
  exact cloneI_ok w.p (cloneV_ok w.s (copyRecs_ok w.d (copyTables_ok w.l (copyTables_ok w.a hq))))
def zSrv:Server:=⟨⟨[]⟩,[],[],[],⟨⟨0,0⟩,⟨0,0⟩⟩,⟨⟨0,0⟩,⟨0,0⟩⟩,0,[]⟩
theorem zSm:Sm zSrv:=⟨by simp [zSrv],by simp [zSrv],⟨by simp [zSrv],by simp [zSrv]⟩,⟨by simp [zSrv],by simp [zSrv]⟩,⟨by simp [zSrv],by simp [zSrv]⟩⟩
end Go.Proofs.YtfkblhplgnbppaaGreat
