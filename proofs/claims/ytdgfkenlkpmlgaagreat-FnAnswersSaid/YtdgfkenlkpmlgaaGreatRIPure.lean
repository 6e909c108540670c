/- The plain law of AnswerRange. -/
import Derived.Test.YtdgfkenlkpmlgaaGreatRH
import Derived.Test.YtdgfkenlkpmlgaaGreatRFPure
set_option linter.unusedVariables false
set_option autoImplicit false
namespace Go.Proofs.YtdgfkenlkpmlgaaGreat
open Go Go.RowKit Go.Gv
def amT (p:List Int) (sx:List Variable) (t:Table) (i:Int) (x:Nat):List Int:=mv (fB p sx ⟨t,[]⟩ i.toNat) (gB p sx ⟨t,[]⟩) (nT p sx) x
theorem amT_ab {p:List Int} {sx:List Variable} {t:Table} {i:Int} {x:Nat} (hg:gOk p=true) (hL:Lok sx) (ht:tOk p sx t=true):Ab (amT p sx t i x):=mv_ab fun k hk _=>by
  have ⟨ci,_⟩:=cin (b:=⟨t,[]⟩) hg hL ht hk
  unfold gB cl cell
  split
  · exact ⟨Int.le_refl _,by omega⟩
  · show 0≤amt _ _∧amt _ _≤60
    unfold amt
    split
    · omega
    · rename_i h2
      have t3:=ci.tf.2.2.1
      have hlen:t.Sum.toNat<(recAt p sx k).Values.length:=by have t3 : -1≤t.Sum∧t.Sum<(sx.length:Int):=t3; have h2:¬ t.Sum<0:=h2; rw [ci.v.1]; omega
      show 0≤gi _ t.Sum.toNat∧gi _ t.Sum.toNat≤60
      rw [gi_at hlen]
      exact fitV_ok hL ci.v _ (List.getElem_mem hlen)
theorem tOk_ris {p:List Int} {sx:List Variable} {t:Table} (h:tOk p sx t=true):risOk sx.length t.Vars=true:=by
  unfold tOk at h
  simp only [Bool.and_eq_true] at h
  exact h.1.1.1
abbrev dstp (am:List Int) (s:Int×Int) (x:List Int):Int×Int:=(mn s.1 (dot am x),mx s.2 (dot am x))
def rd (am:List Int):List (List Int)→Int×Int
  | []=>(0,0)
  | t :: r=>(t :: r).foldl (dstp am) (dot am t,dot am t)
theorem rg_rd_fold {am:List Int}:∀ (L:List (List Int)) (s:Int×Int),(L.map fun t=>[dot am t]).foldl stp2 ([s.1],[s.2])=([(L.foldl (dstp am) s).1],[(L.foldl (dstp am) s).2])
  | [],s=>rfl
  | t :: L,s=>rg_rd_fold L (dstp am s t)
theorem rg_rd {am:List Int} {L:List (List Int)} (h:L≠[]):rg (L.map fun t=>[dot am t])=([(rd am L).1],[(rd am L).2]):=by
  cases L with
  | nil=>exact absurd rfl h
  | cons t L=>exact rg_rd_fold (t :: L) (dot am t,dot am t)
theorem num_ok {am cs:List Int} {Q:List Int→Prop} (hl:cs.length≤am.length) (h12:cs.length≤100) (ha:Ab am) (hc:Cb cs) (hq:Q [dot am cs]):impl_AnswerRange_1 cs am Q:=by
  unfold impl_AnswerRange_1
  refine loop2_list (by omega) (fun n i=>(0≤n∧n≤480 * (i:Int))∧n+dot (am.drop i) (cs.drop i)=dot am cs) ⟨by omega,by simp⟩ (fun n i nx hi ⟨hb,hs⟩ hx=>?_) (fun n ⟨_,hs⟩=>?_)
  · have hi':i<am.length:=by omega
    refine idx_at hi (idx_at hi' ?_)
    have h1:=mul_b (ha _ (List.getElem_mem hi')) (hc _ (List.getElem_mem hi))
    rw [List.drop_eq_getElem_cons hi,List.drop_eq_getElem_cons hi'] at hs
    simp only [dot] at hs
    rw [Int.mul_comm cs[i] am[i]]
    generalize am[i] * cs[i]=q at h1 hs
    rw [wr_in (x:=q) (by omega) (by omega),wr_in (by omega) (by omega)]
    exact hx _ ⟨by omega,by omega⟩
  · rw [List.drop_eq_nil_of_le (Nat.le_refl cs.length),dot_nil] at hs
    have:n=dot am cs:=by omega
    rw [this]; exact hq
theorem rangesA_ok {p:List Int} {sx:List Variable} {l:List Published} {n:Int} {am:List Int} {Q:List Int→List Int→Bool→Prop} (g:askB p sx l n=true) (ha:Ab am) (hl:am.length=nT p sx)
    (hf:trO p sx l n=false→Q [] [] false) (ht:trO p sx l n=true→Q [(rd am (surv p sx l n.toNat)).1] [(rd am (surv p sx l n.toNat)).2] true):impl_ranges_impl_AnswerRange_1 ⟨p⟩ sx l n am Q:=by
  have ⟨h1,hT,hT2,h4,en⟩:=askB_of g
  unfold impl_ranges_impl_AnswerRange_1
  have goal:impl_solutions_impl_ranges_1_impl_AnswerRange_1 ⟨p⟩ sx l ((n.toNat:Nat):Int) ((20001:Nat):Int) am [] [] (fun r37 r38 r39=>jn (fun (k:Bool→Prop)=>br (r37==0) (k true)<|k (decide (r37>20000)))<|fun (x65:Bool)=>br (x65) (Q [] [] false)<|Q r38 r39 true):=by
    refine solutions_ar (p:=p) (M:=20001) (x1:=am) (s:=([],[])) h1 h4 (by omega) (by omega) (fun s cs=>stp s [dot am cs]) (fun found s=>(found=0∧s.1=[])∨(0<found∧s.1.length=1∧s.2.length=1)) (fun found s cs Q2 f1 f2 f3 f4 f5=>?_) (.inl ⟨rfl,rfl⟩) fun s' e1 e2=>?_
    · have hl2:=stp_len (s:=s) (v:=[dot am cs]) (T:=1) rfl (f2.imp (·.2) (·.2))
      have f5:=f5 (.inr ⟨by omega,hl2⟩)
      unfold impl_solutions_1_impl_ranges_1_impl_AnswerRange_1 impl_ranges_1_impl_AnswerRange_1
      refine num_ok (by omega) (by omega) ha f4 ?_
      rw [wr_in (by omega) (by omega)]
      unfold stp at f5
      refine jn_of (br_eq (fun c=>?_) (fun c=>?_))
      · have c:s.1=[]:=List.eq_nil_of_length_eq_zero (by unfold ln at c; omega)
        rw [if_pos c] at f5
        refine ⟨by unfold ln; simp,by unfold ln; simp,by unfold ln; simp,?_⟩
        rw [List.nil_append]
        exact takeIn_ok (v:=[dot am cs]) rfl rfl (by simp) f5
      · have c':s.1≠[]:=fun e=>by rw [e] at c; exact c rfl
        rw [if_neg c'] at f5
        rcases f2 with f2 | f2
        · exact absurd f2.2 c'
        · exact takeIn_ok (v:=[dot am cs]) f2.2.1 f2.2.2 (by simp) f5
    · refine jn_bool (!trO p sx l n) ?_ fun k hk=>br_eq (fun c=>?_) (fun c=>?_)
      · cases ho:trO p sx l n with
        | false=>exact br_true rfl (hf ho)
        | true =>
          have ⟨_,a1,a2⟩:=trO_of ho
          have e3:(surv p sx l n.toNat).foldl (fun s cs=>stp s [dot am cs]) ([],[])=((surv p sx l n.toNat).map fun t=>[dot am t]).foldl stp ([],[]):=by rw [List.foldl_map]
          rw [List.take_of_length_le (by omega),e3,(rg_fold (T:=1) (by omega) (fun t ht=>by obtain ⟨u,_,rfl⟩:=List.mem_map.1 ht; rfl)).1,rg_rd (fun e=>by rw [e] at a1; simp at a1)] at e1
          subst e1
          exact br_false rfl (ht ho)
      · have e:trO p sx l n=false:=by
          rw [Bool.eq_false_iff]; intro ho
          have ⟨_,a1,a2⟩:=trO_of ho
          omega
        rw [e] at hk; exact hk
      · have e:decide (((min 20001 (surv p sx l n.toNat).length:Nat):Int)>20000)=!trO p sx l n:=by
          unfold trO
          rw [g,Bool.true_and,Bool.eq_iff_iff]
          simp only [decide_eq_true_eq,Bool.not_eq_true',Bool.and_eq_false_iff,decide_eq_false_iff_not]
          omega
        rw [e]; exact hk
  rw [en] at goal
  exact goal
def arI (p:List Int) (sx:List Variable) (t:Table) (i:Int):Bool:=tOk p sx t&&(decide (0≤i)&&decide (i<(cellN p sx t:Int)))
def arO (p:List Int) (sx:List Variable) (l:List Published) (n:Int) (t:Table) (i:Int):Bool:=trO p sx l n&&arI p sx t i
def arV (p:List Int) (sx:List Variable) (l:List Published) (n:Int) (t:Table) (i:Int):Int×Int:=if arO p sx l n t i=true then rd (amT p sx t i (nT p sx)) (surv p sx l n.toNat) else (0,0)
theorem surv_cb {p:List Int} {sx:List Variable} {l:List Published} {n:Nat} {t:List Int} (hn:n≤8) (ht:t∈surv p sx l n):Cb t:=fun c hc=>by have:=(surv_mem ht).2 c hc; omega
theorem sAnswer_ok {p:List Int} {sx:List Variable} {l:List Published} {n i:Int} {t:Table} {Q:Int→Int→Bool→Prop} (w:WD p sx l) (hv:t.Vars.length≤1048576) (hq:Q (arV p sx l n t i).1 (arV p sx l n t i).2 (arO p sx l n t i)):spec_AnswerRange ⟨p⟩ sx l n t i Q:=by
  unfold spec_AnswerRange
  have no:arO p sx l n t i=false→Q 0 0 false:=fun e=>by unfold arV at hq; rw [e,if_neg (by decide)] at hq; exact hq
  refine aAll_ok (p:=p) w (fun h x=>?_) (fun h=>?_)
  · exact jn_of (br_true rfl (br_true rfl (no (by unfold arO; rw [h,Bool.false_and]))))
  · have ⟨g,h1,h2⟩:=trO_of h
    have ⟨hat,hT,hT2,h8,_⟩:=askB_of g
    have ⟨a,b,c,d,e⟩:=att_of hat
    have hsch:schOk sx=true:=by
      unfold attOk tyOk at hat
      simp only [Bool.and_eq_true] at hat
      exact hat.1.1.2
    refine jn_bool (!arI p sx t i) ?_ fun k hk=>br_false rfl (uGood_ok (p:=p) w.p w.s.1 w.s.2 hv (br_nb (fun g1=>?_) (fun g1=>?_)))
    · refine br_nb (fun g1=>no (by unfold arO; rw [g1,Bool.and_false])) (fun g1=>?_)
      have ho:arO p sx l n t i=true:=by unfold arO; rw [h,g1]; rfl
      unfold arV at hq
      rw [if_pos ho,ho] at hq
      unfold arI at g1
      simp only [Bool.and_eq_true,decide_eq_true_eq] at g1
      obtain ⟨ht,hi1,hi2⟩:=g1
      refine aTypes_ok (p:=p) a b ⟨by omega,by omega,?_⟩
      rw [Int.toNat_natCast]
      have eln:ln (List.replicate (nT p sx) (0:Int))=((nT p sx:Nat):Int):=by unfold ln; simp
      rw [eln]
      refine loop2_to (n:=((nT p sx:Nat):Int)) (by omega) (fun am x=>am=amT p sx t i x) (by unfold amT; rw [mv_zero]) ?_ ?_
      · rintro am x nx hx rfl hnx
        have hx':x<nT p sx:=by omega
        have ⟨ci,ea⟩:=cin (b:=⟨t,[]⟩) a b ht hx'
        have hlen:(amT p sx t i x).length=nT p sx:=mv_len
        refine jn_of (aRecord_ok (p:=p) a b hx' ⟨_,_,uCell_ok (p:=p) ci ea ⟨rfl,rfl⟩,br_eq (fun g2=>⟨by omega,by omega,?_⟩) (fun g2=>?_)⟩)
        · rw [Int.toNat_natCast]
          refine hnx _ ?_
          have hf:fB p sx ⟨t,[]⟩ i.toNat x=true:=by unfold fB; refine decide_eq_true ?_; show (cell p sx t _ _).1=_; rw [g2]; omega
          exact mv_set hf
        · refine hnx _ ?_
          have hf:fB p sx ⟨t,[]⟩ i.toNat x=false:=by unfold fB; refine decide_eq_false fun c=>g2 ?_; have c:(cell p sx t _ _).1=((i.toNat:Nat):Int):=c; rw [c]; omega
          exact mv_skip hf
      · rintro am x hx rfl
        have hx:x=nT p sx:=by omega
        subst hx
        have hab:=amT_ab (i:=i) (x:=nT p sx) a b ht
        have hal:(amT p sx t i (nT p sx)).length=nT p sx:=mv_len
        have hall:∀ u∈surv p sx l n.toNat,u.length=nT p sx∧Cb u:=fun u hu=>⟨(surv_mem hu).1,surv_cb h8 hu⟩
        generalize amT p sx t i (nT p sx)=am at hq hab hal
        generalize surv p sx l n.toNat=L at h1 h2 hall hq
        match L,h1 with
        | u :: r,_ =>
          have hu:=hall u (List.mem_cons_self ..)
          refine idx_at (by simp) (aSum_ok (by show u.length≤_; omega) (by show u.length≤_; omega) hab hu.2 ?_)
          refine loop3_list (xs:=u :: r) (by omega) (fun lo hi i=>(lo,hi)=((u :: r).take i).foldl (dstp am) (dot am u,dot am u)) rfl ?_ ?_
          · intro lo hi i nx hi' e hx
            have hv:=hall _ (List.getElem_mem hi')
            have e2:(mn lo (dot am (u :: r)[i]),mx hi (dot am (u :: r)[i]))=((u :: r).take (i+1)).foldl (dstp am) (dot am u,dot am u):=by
              rw [List.take_add_one,List.getElem?_eq_getElem hi',List.foldl_append,← e]; rfl
            refine idx_at hi' ?_
            generalize (u :: r)[i]=y at hv e2
            exact aSum_ok (by omega) (by omega) hab hv.2 (l1Least_ok (aSum_ok (by omega) (by omega) hab hv.2 (l1Most_ok (hx _ _ e2))))
          · intro lo hi e
            rw [List.take_of_length_le (Nat.le_refl _)] at e
            have e3:rd am (u :: r)=(lo,hi):=e.symm
            rw [e3] at hq
            exact hq
    · rw [a,hsch,Bool.true_and,Bool.true_and] at g1
      unfold arI at hk; rw [g1,Bool.false_and] at hk; exact hk
    · rw [a,hsch,Bool.true_and,Bool.true_and] at g1
      have ht5:Vin sx.length t.Vars:=Vin_of (tOk_ris g1)
      refine uCount_ok (p:=p) a b ht5 (l1In_ok ?_)
      have hb:=cellN_b a b ht5 (t:=t)
      rw [wr_in (x:=(cellN p sx t:Int)-1) (by omega) (by omega)]
      have e:(!(decide (0≤i)&&decide (i≤(cellN p sx t:Int)-1)))=!arI p sx t i:=by
        unfold arI; rw [g1,Bool.true_and]; congr 2; rw [Bool.eq_iff_iff]; simp only [decide_eq_true_eq]; omega
      rw [e]; exact hk
theorem iAnswer_ok {p:List Int} {sx:List Variable} {l:List Published} {n i:Int} {t:Table} {Q:Int→Int→Bool→Prop} (w:WD p sx l) (hv:t.Vars.length≤1048576) (hq:Q (arV p sx l n t i).1 (arV p sx l n t i).2 (arO p sx l n t i)):impl_AnswerRange ⟨p⟩ sx l n t i Q:=by
  unfold impl_AnswerRange
  have no:arO p sx l n t i=false→Q 0 0 false:=fun e=>by unfold arV at hq; rw [e,if_neg (by decide)] at hq; exact hq
  refine jn_bool (!(askB p sx l n&&arI p sx t i)) ?_ fun k hk=>areAttacked_ok (p:=p) w.p w.s.1 w.b (br_nb (fun g=>?_) (fun g=>isPersons_ok (br_nb (fun g2=>?_) (fun g2=>?_))))
  · refine br_nb (fun g=>no ?_) (fun g=>?_)
    · unfold arO trO
      cases h:askB p sx l n with
      | false=>rfl
      | true=>rw [h,Bool.true_and] at g; rw [g,Bool.and_false]
    · simp only [Bool.and_eq_true] at g
      have ⟨hat,hT,hT2,h8,_⟩:=askB_of g.1
      have ⟨a,b,c,d,e⟩:=att_of hat
      have g1:=g.2
      unfold arI at g1
      simp only [Bool.and_eq_true,decide_eq_true_eq] at g1
      obtain ⟨ht,hi1,hi2⟩:=g1
      refine typeCount_ok (p:=p) a b ⟨by omega,by omega,?_⟩
      rw [Int.toNat_natCast]
      refine loop2_listF (xs:=List.replicate (nT p sx) (0:Int)) (by simp; omega) (fun am x=>am=amT p sx t i x) (by unfold amT; rw [mv_zero]) ?_ ?_
      · rintro am x nx hx rfl hnx
        have hx':x<nT p sx:=by simpa using hx
        have ⟨ci,ea⟩:=cin (b:=⟨t,[]⟩) a b ht hx'
        have hlen:(amT p sx t i x).length=nT p sx:=mv_len
        refine jn_of (typeAt_ok (p:=p) a b hx' ⟨_,_,contribution_ok (p:=p) ci ea ⟨rfl,rfl⟩,br_eq (fun g2=>⟨by omega,by omega,?_⟩) (fun g2=>?_)⟩)
        · rw [Int.toNat_natCast]
          refine hnx _ ?_
          have hf:fB p sx ⟨t,[]⟩ i.toNat x=true:=by unfold fB; refine decide_eq_true ?_; show (cell p sx t _ _).1=_; rw [g2]; omega
          exact mv_set hf
        · refine hnx _ ?_
          have hf:fB p sx ⟨t,[]⟩ i.toNat x=false:=by unfold fB; refine decide_eq_false fun c=>g2 ?_; have c:(cell p sx t _ _).1=((i.toNat:Nat):Int):=c; rw [c]; omega
          exact mv_skip hf
      · rintro am rfl
        rw [List.length_replicate]
        have hab:=amT_ab (i:=i) (x:=nT p sx) a b ht
        have hal:(amT p sx t i (nT p sx)).length=nT p sx:=mv_len
        refine rangesA_ok (p:=p) g.1 hab hal (fun h=>br_true rfl (no (by unfold arO; rw [h,Bool.false_and]))) (fun h=>?_)
        have ho:arO p sx l n t i=true:=by unfold arO; rw [h,g.2]; rfl
        unfold arV at hq
        rw [if_pos ho,ho] at hq
        exact br_false rfl (idx_at (by simp) (idx_at (by simp) hq))
  · unfold askB at hk; rw [g] at hk; exact hk
  · unfold askB at hk; rw [g,g2] at hk; exact hk
  · have hg:askB p sx l n=true:=by unfold askB; rw [g,g2]; rfl
    have ⟨hat,hT,hT2,h8,_⟩:=askB_of hg
    have ⟨a,b,c,d,e⟩:=att_of hat
    rw [hg,Bool.true_and] at hk
    refine isTable_ok (p:=p) a b hv (br_nb (fun g3=>?_) (fun g3=>br_dec (fun g4=>?_) (fun g4=>?_)))
    · unfold arI at hk; rw [g3] at hk; exact hk
    · unfold arI at hk; rw [decide_eq_false (by omega:¬ 0≤i),Bool.false_and,Bool.and_false] at hk; exact hk
    · have ht5:Vin sx.length t.Vars:=Vin_of (tOk_ris g3)
      refine cellCount_ok (p:=p) a b ht5 ?_
      have e:decide (i≥(cellN p sx t:Int))=!arI p sx t i:=by
        unfold arI; rw [g3,decide_eq_true (by omega:0≤i),Bool.true_and,Bool.true_and,Bool.eq_iff_iff]; simp only [decide_eq_true_eq,Bool.not_eq_true',decide_eq_false_iff_not]; omega
      rw [e]; exact hk
end Go.Proofs.YtdgfkenlkpmlgaaGreat
