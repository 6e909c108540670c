/- The plain law of AskAll. -/
import Derived.Test.YtfkblhplgnbppaaGreatSX
set_option linter.unusedVariables false
set_option autoImplicit false
namespace Go.Proofs.YtfkblhplgnbppaaGreat
open Go Go.RowKit Go.Gv
theorem heldServerK_ok {x:Server} {y:Server} {k:Int} {Q:Int→Prop} (w:Sm x) (hk:0≤k∧k≤1000000) (h1:y.G.Parents=marks k x.G.Parents.length) (h2:y.S=mS mV cV (k+(x.G.Parents.length:Int)) x.S) (h3:y.Data=mS mR cR (k+(x.G.Parents.length:Int)+cS cV x.S) x.Data)
    (h4:y.Plan=mS mT cT (k+(x.G.Parents.length:Int)+cS cV x.S+cS cR x.Data) x.Plan) (h5:y.Asked=mS mT cT (k+(x.G.Parents.length:Int)+cS cV x.S+cS cR x.Data+cS cT x.Plan) x.Asked) (h:Q (k+cSv x)):laws_heldServer y k Q:=by
  have p:=w.p; have s:=w.s; have d:=cR_le w.d; have l:=cT_le w.l; have a:=cT_le w.a; have v:=cV_le x.S
  have v0:=cS_nonneg cV_nn x.S; have d0:=cS_nonneg cR_nn x.Data; have l0:=cS_nonneg cT_nn x.Plan; have a0:=cS_nonneg cT_nn x.Asked
  unfold laws_heldServer laws_heldGeo
  rw [h1,h2,h3,h4,h5]
  refine heldIntS_ok (n:=x.G.Parents.length) (by omega) (by omega) (by omega) (br_dec (fun g=>by omega) (fun g=>br_dec (fun g=>by omega) (fun g=>?_)))
  refine heldVs_ok w.s (by omega) (br_dec (fun g=>by omega) (fun g=>heldRs_ok w.d (by omega) (br_dec (fun g=>by omega) (fun g=>heldTs_ok w.l (by omega) (br_dec (fun g=>by omega) (fun g=>heldTs_ok w.a (by omega) (br_dec (fun g=>by omega) (fun g=>?_))))))))
  rw [show k+cSv x=k+(x.G.Parents.length:Int)+cS cV x.S+cS cR x.Data+cS cT x.Plan+cS cT x.Asked by unfold cSv; omega] at h
  exact h
/-- A server marked and looked at again. -/
theorem markServerK_ok {x:Server} {k:Int} {Q:Int→List Int→List Variable→List Record→List Table→List Table→Prop} (w:Sm x) (hk:0≤k∧k≤1000000)
    (h:∀ a b c d e,(∀ {y:Server} {R:Int→Prop},y.G.Parents=a→y.S=b→y.Data=c→y.Plan=d→y.Asked=e→R (k+cSv x)→laws_heldServer y k R)→Q (k+cSv x) a b c d e):laws_markServer x k Q:=by
  have p:=w.p; have s:=w.s; have d:=cR_le w.d; have l:=cT_le w.l; have a:=cT_le w.a; have v:=cV_le x.S
  have v0:=cS_nonneg cV_nn x.S; have d0:=cS_nonneg cR_nn x.Data; have l0:=cS_nonneg cT_nn x.Plan; have a0:=cS_nonneg cT_nn x.Asked
  unfold laws_markServer laws_markGeo
  refine markIntS_ok (a:=x.G.Parents) (by omega) (by omega) (by omega) (markVs_ok w.s (by omega) (markRs_ok w.d (by omega) (markTs_ok w.l (by omega) (markTs_ok w.a (by omega) ?_))))
  rw [show k+(x.G.Parents.length:Int)+cS cV x.S+cS cR x.Data+cS cT x.Plan+cS cT x.Asked=k+cSv x by unfold cSv; omega]
  exact h _ _ _ _ _ fun {y R} e1 e2 e3 e4 e5 hr=>heldServerK_ok w hk e1 e2 e3 e4 e5 hr
theorem cSv_b2 {x:Server} (w:Sm x):0≤cSv x∧cSv x≤40000000000000:=by
  have p:=w.p; have s:=w.s; have d:=cR_le w.d; have l:=cT_le w.l; have a:=cT_le w.a; have v:=cV_le x.S
  have v0:=cS_nonneg cV_nn x.S; have d0:=cS_nonneg cR_nn x.Data; have l0:=cS_nonneg cT_nn x.Plan; have a0:=cS_nonneg cT_nn x.Asked
  unfold cSv; omega
noncomputable def sv (x:Server) (l:List Table):Server:=l.foldl asS x
noncomputable def cds:Server→List Table→List Int
  | _,[]=>[]
  | x,t :: l=>cod x x.Asked t :: cds (asS x t) l
theorem cds_snoc:∀ (x:Server) (l:List Table) (t:Table),cds x (l++[t])=cds x l++[cod (sv x l) (sv x l).Asked t]
  | x,[],t=>rfl
  | x,a :: l,t=>by
    have:=cds_snoc (asS x a) l t
    simp only [List.cons_append,cds,this]; rfl
theorem cds_length:∀ (x:Server) (l:List Table),(cds x l).length=l.length
  | _,[]=>rfl
  | x,t :: l=>by simp only [cds,List.length_cons,cds_length]
theorem sv_ok:∀ {l:List Table} {x:Server},(∀ t∈l,t.Vars.length≤1048576∧t.Where.length≤1048576)→VS x x.Asked→Sm x→x.Asked.length+l.length≤1000→VS (sv x l) (sv x l).Asked∧Sm (sv x l)∧(sv x l).Asked.length≤x.Asked.length+l.length
  | [],x,_,v,w,_=>⟨v,w,by show x.Asked.length≤_; omega⟩
  | t :: l,x,h,v,w,hA=>by
    rw [List.length_cons] at hA
    have ht:=h t (List.mem_cons_self ..)
    have ⟨w2,h2⟩:=asS_sm w (by omega) ht
    have ⟨a,b,c⟩:=sv_ok (l:=l) (x:=asS x t) (fun y hy=>h y (List.mem_cons_of_mem _ hy)) (asS_VS v (by omega) ht) w2 (by omega)
    refine ⟨a,b,?_⟩
    rw [List.length_cons]
    have e:(sv x (t :: l)).Asked.length=(sv (asS x t) l).Asked.length:=rfl
    omega
theorem ask_loop {l:List Table} {x0:Server} {c0:List Int} (B:List Int→Int→Server→(List Int→Int→Server→Prop)→Prop) (E:List Int→Server→Prop) (J:List Int→Server→Nat→Prop) (hl:l.length≤1048576) (h0:J c0 x0 0)
    (hs:∀ codes y (i:Nat) (nx:List Int→Int→Server→Prop) (hi:i<l.length),J codes y i→(∀ codes' y',J codes' y' (i+1)→nx codes' (wr ((i:Int)+1)) y')→B codes (i:Int) y nx) (he:∀ codes y,J codes y l.length→E codes y) :
    Loop16 (fun codes i pa sx d pl n1 d1 n2 d2 n3 d3 n4 d4 fl ak nx=>br (decide (i<ln l)) (B codes i ⟨⟨pa⟩,sx,d,pl,⟨⟨n1,d1⟩,⟨n2,d2⟩⟩,⟨⟨n3,d3⟩,⟨n4,d4⟩⟩,fl,ak⟩ (fun c j y=>nx c j y.G.Parents y.S y.Data y.Plan y.Cost.Ratio.Num y.Cost.Ratio.Den y.Cost.Rho.Num y.Cost.Rho.Den y.Budget.Ratio.Num y.Budget.Ratio.Den y.Budget.Rho.Num y.Budget.Rho.Den y.Floor y.Asked)) (E codes ⟨⟨pa⟩,sx,d,pl,⟨⟨n1,d1⟩,⟨n2,d2⟩⟩,⟨⟨n3,d3⟩,⟨n4,d4⟩⟩,fl,ak⟩))
      c0 0 x0.G.Parents x0.S x0.Data x0.Plan x0.Cost.Ratio.Num x0.Cost.Ratio.Den x0.Cost.Rho.Num x0.Cost.Rho.Den x0.Budget.Ratio.Num x0.Budget.Ratio.Den x0.Budget.Rho.Num x0.Budget.Rho.Den x0.Floor x0.Asked:=by
  refine ⟨fun codes x pa sx d pl n1 d1 n2 d2 n3 d3 n4 d4 fl ak=>∃ i:Nat,x=(i:Int)∧i≤l.length∧J codes ⟨⟨pa⟩,sx,d,pl,⟨⟨n1,d1⟩,⟨n2,d2⟩⟩,⟨⟨n3,d3⟩,⟨n4,d4⟩⟩,fl,ak⟩ i,fun _ x _ _ _ _ _ _ _ _ _ _ _ _ _ _=>l.length-x.toNat,⟨0,rfl,Nat.zero_le _,h0⟩,?_⟩
  rintro codes _ pa sx d pl n1 d1 n2 d2 n3 d3 n4 d4 fl ak ⟨i,rfl,hi,hj⟩
  refine br_dec (fun h=>?_) (fun h=>?_)
  · have h1:=ln_nat.1 h
    have h2:wr ((i:Int)+1)=i+1:=wr_in (by omega) (by omega)
    refine hs codes _ i _ h1 hj fun codes' y' hj'=>⟨⟨i+1,by rw [h2]; rfl,by omega,hj'⟩,?_⟩
    show l.length-(wr ((i:Int)+1)).toNat<l.length-(i:Int).toNat
    rw [h2]; omega
  · have:i=l.length:=by
      have:¬ i<l.length:=fun c=>h (ln_nat.2 c)
      omega
    subst this; exact he _ _ hj
noncomputable def aaK (x:Server) (l:List Table):Bool:=svrOk x&&decide (l.length≤20)
noncomputable def aaC (x:Server) (l:List Table):List Int:=if aaK x l=true then cds x l else []
noncomputable def aaS (x:Server) (l:List Table):Server:=if aaK x l=true then sv x l else zSrv
theorem aaK_of {x:Server} {l:List Table} (h:aaK x l=true):svrOk x=true∧l.length≤20:=by
  unfold aaK at h
  simp only [Bool.and_eq_true,decide_eq_true_eq] at h
  exact h
theorem sAskAll_ok {x:Server} {l:List Table} {Q:List Int→Server→Bool→Prop} (w:Sm x) (hn:∀ v∈x.S,v.Name.size≤1048576) (hl:smT l) (hq:Q (aaC x l) (aaS x l) (aaK x l)):spec_AskAll x l Q:=by
  have h0:=hl.1
  unfold spec_AskAll
  unfold aaC aaS at hq
  refine jn_bool (!aaK x l) (br_nb (fun g=>?_) (fun g=>?_)) fun k hk=>jGoodA_ok (x:=x) w hn (br_nb (fun g=>?_) (fun g=>?_))
  · rw [g] at hq; exact hq
  · rw [g,if_pos rfl,if_pos rfl] at hq
    have ⟨g1,g2⟩:=aaK_of g
    have hA:=askLen g1
    refine jOwn_ok (x:=x) w ?_
    refine ask_loop (l:=l) (x0:=x) (fun codes i y nx=>idx l i fun t=>spec_jAsk y t fun r _ c=>(ln codes+ln [c]) * 8≤140737488355328∧nx (codes++[c]) (wr (i+1)) r) (fun codes y=>Q codes y true)
      (fun codes y i=>codes=cds x (l.take i)∧y=sv x (l.take i)) h0 ⟨rfl,rfl⟩ ?_ ?_
    · rintro codes y i nx hi ⟨rfl,rfl⟩ hx
      have ⟨v,_,c⟩:=sv_ok (l:=l.take i) (x:=x) (fun t ht=>hl.2 t (List.mem_of_mem_take ht)) (VS_ok w hn g1) w (by rw [List.length_take]; omega)
      rw [List.length_take] at c
      refine idx_at hi (jAsk_ok (t:=l[i]) v (by omega) (hl.2 _ (List.getElem_mem hi)) ⟨by unfold ln; rw [cds_length]; simp; omega,hx _ _ ⟨?_,?_⟩⟩)
      · rw [List.take_succ_eq_append_getElem hi,cds_snoc]
      · unfold sv; rw [foldl_succ hi]
    · rintro codes y ⟨rfl,rfl⟩
      rw [List.take_length]; exact hq
  · unfold aaK at hk; rw [g] at hk; exact hk
  · unfold aaK at hk; rw [g,Bool.true_and,← decide_not] at hk
    rw [show decide (ln l>20)=decide (¬ l.length≤20) from by rw [Bool.eq_iff_iff]; unfold ln; simp only [decide_eq_true_eq]; omega]; exact hk
theorem iAskAll_ok {x:Server} {l:List Table} {Q:List Int→Server→Bool→Prop} (w:Sm x) (hn:∀ v∈x.S,v.Name.size≤1048576) (hl:smT l) (hq:Q (aaC x l) (aaS x l) (aaK x l)):impl_AskAll x l Q:=by
  have h0:=hl.1
  unfold impl_AskAll
  unfold aaC aaS at hq
  refine jn_bool (!aaK x l) (br_nb (fun g=>?_) (fun g=>?_)) fun k hk=>IsServerA_ok (x:=x) w hn (br_nb (fun g=>?_) (fun g=>?_))
  · rw [g] at hq; exact hq
  · rw [g,if_pos rfl,if_pos rfl] at hq
    have ⟨g1,g2⟩:=aaK_of g
    have hA:=askLen g1
    refine copyServer_ok (x:=x) w ⟨by unfold ln; omega,by unfold ln; omega,?_⟩
    refine ask_loop (l:=l) (x0:=x) (fun codes i y nx=>idx l i fun t=>impl_askTable y t fun r _ c=>(0:Int)≤i∧Int.toNat i<List.length codes∧nx (List.set codes (Int.toNat i) c) (wr (i+1)) r) (fun codes y=>Q codes y true)
      (fun codes y i=>codes.length=l.length∧codes.take i=cds x (l.take i)∧y=sv x (l.take i)) h0 ⟨by unfold ln; simp,rfl,rfl⟩ ?_ ?_
    · rintro codes y i nx hi ⟨n1,n2,rfl⟩ hx
      have ⟨v,_,c⟩:=sv_ok (l:=l.take i) (x:=x) (fun t ht=>hl.2 t (List.mem_of_mem_take ht)) (VS_ok w hn g1) w (by rw [List.length_take]; omega)
      rw [List.length_take] at c
      refine idx_at hi (askTable_ok (t:=l[i]) v (by omega) (hl.2 _ (List.getElem_mem hi)) ⟨by omega,by omega,hx _ _ ⟨by simpa using n1,?_,?_⟩⟩)
      · rw [List.take_succ_eq_append_getElem hi,cds_snoc,Int.toNat_natCast,List.take_add_one,List.take_set_of_le (Nat.le_refl _),n2,List.getElem?_set_self (by omega)]; rfl
      · unfold sv; rw [foldl_succ hi]
    · rintro codes y ⟨n1,n2,rfl⟩
      rw [List.take_length] at n2
      rw [List.take_of_length_le (by omega)] at n2
      rw [List.take_length,n2]; exact hq
  · unfold aaK at hk; rw [g] at hk; exact hk
  · unfold aaK at hk; rw [g,Bool.true_and,← decide_not] at hk
    rw [show decide (ln l>20)=decide (¬ l.length≤20) from by rw [Bool.eq_iff_iff]; unfold ln; simp only [decide_eq_true_eq]; omega]; exact hk
theorem aa_sm {x:Server} {l:List Table} (w:Sm x) (hn:∀ v∈x.S,v.Name.size≤1048576) (hl:smT l):Sm (aaS x l)∧(aaC x l).length≤20:=by
  unfold aaS aaC
  split
  · rename_i g
    have ⟨g1,g2⟩:=aaK_of g
    have hA:=askLen g1
    exact ⟨(sv_ok (l:=l) (x:=x) hl.2 (VS_ok w hn g1) w (by omega)).2.1,by rw [cds_length]; exact g2⟩
  · exact ⟨zSm,by simp⟩
theorem lawAskAll (aX:Server) (aL:List Table) (w0:Wf.wf aX) (w1:Wf.wf aL):laws_FnExactAskAll aX aL (fun r=>r=true):=by
  have hT:aL.length≤maxLen∧∀ t∈aL,t.Vars.length≤maxLen∧t.Where.length≤maxLen:=⟨w1.1,fun t ht=>⟨(w1.2 t ht).2.1.1,(w1.2 t ht).2.2.1.1⟩⟩
  unfold laws_FnExactAskAll
  refine szServer_ok (x:=aX) w0 (by omega) fun r1 a1 b1=>br_dec (fun g=>rfl) (fun g1=>szTableS_ok hT (by omega) fun r2 a2 b2=>br_dec (fun g=>rfl) (fun g2=>?_))
  have ⟨w,hn⟩:=b1 (by omega)
  have hl:=b2 (by omega)
  have ⟨hv,hc⟩:=aa_sm w hn hl
  have cb:=cSv_b2 hv
  have cx:=cSv_b2 w
  have l0:=cS_nonneg cT_nn aL
  have l1:=cT_le hl
  refine toServer_ok (x:=aX) w (toTableS_ok hl (sAskAll_ok (x:=aX) w hn hl ?_))
  refine toServer_ok (x:=aX) w (toTableS_ok hl (iAskAll_ok (x:=aX) w hn hl ?_))
  refine jn_bool false ?_ fun k hk=>eqIntS_same (by omega) (br_false rfl (eqServer_same (x:=aaS aX aL) hv (br_false rfl (by simpa using hk))))
  refine br_false rfl (toServer_ok (x:=aX) w (eqServer_same (x:=aX) w (br_false rfl (toTableS_ok hl (eqTableS_same hl (br_false rfl ?_))))))
  refine markServerK_ok (x:=aX) w (by omega) fun a b c d e _=>markTs_ok hl (by omega) ?_
  refine jn_bool false ?_ fun k hk=>br_dec (fun g=>by omega) (fun g=>eqIntS_same (by omega) (br_false rfl (eqServer_same (x:=aaS aX aL) hv (br_false rfl (by simpa using hk)))))
  refine br_false rfl (markIntS_ok (by omega) (by omega) (by omega) (markServerK_ok (x:=aaS aX aL) hv (by omega) fun a b c d e hh=>?_))
  refine heldIntS_ok (by omega) (by omega) (by omega) (br_dec (fun g=>by omega) (fun g=>hh rfl rfl rfl rfl rfl (br_dec (fun g=>by omega) (fun g=>br_ne (fun g=>absurd rfl g) (fun _=>?_)))))
  refine toServer_ok (x:=aX) w (toTableS_ok hl (iAskAll_ok (x:=aX) w hn hl ?_))
  refine jn_bool false ?_ fun k hk=>eqIntS_same (by omega) (br_false rfl (eqServer_same (x:=aaS aX aL) hv (br_false rfl (by simpa using hk))))
  exact br_false rfl (heldIntS_ok (by omega) (by omega) (by omega) (br_dec (fun g=>by omega) (fun g=>hh rfl rfl rfl rfl rfl (br_dec (fun g=>by omega) (fun g=>br_ne (fun g=>absurd rfl g) (fun _=>rfl))))))
end Go.Proofs.YtfkblhplgnbppaaGreat
