/- The plain laws of TypeRanges and CertainTypes. -/
import Derived.Test.YtbgnaamdlcggjaaGreatRC
import Derived.Test.YtbgnaamdlcggjaaGreatRE
set_option linter.unusedVariables false
set_option autoImplicit false
namespace Go.Proofs.YtbgnaamdlcggjaaGreat
open Go Go.RowKit Go.Gv
def trO (p:List Int) (sx:List Variable) (l:List Published) (n:Int):Bool:=askB p sx l n&&(decide (1≤(surv p sx l n.toNat).length)&&decide ((surv p sx l n.toNat).length≤20000))
def trV (p:List Int) (sx:List Variable) (l:List Published) (n:Int):St:=if trO p sx l n=true then rg (surv p sx l n.toNat) else ([],[])
theorem askB_of {p:List Int} {sx:List Variable} {l:List Published} {n:Int} (g:askB p sx l n=true):attOk p sx l=true∧0<nT p sx∧nT p sx≤12∧n.toNat≤8∧((n.toNat:Nat):Int)=n:=by
  unfold askB at g
  simp only [Bool.and_eq_true] at g
  have hn:=inb_iff'.1 g.2
  have ⟨a,b,c,d,e⟩:=att_of g.1
  exact ⟨g.1,nT_pos a b,c,by omega,by omega⟩
theorem aAll_ok {p:List Int} {sx:List Variable} {l:List Published} {n:Int} {Q:List (List Int)→Bool→Prop} (w:WD p sx l) (hf:trO p sx l n=false→∀ x,Q x false) (ht:trO p sx l n=true→Q (surv p sx l n.toNat) true):spec_aAll ⟨p⟩ sx l n Q:=by
  unfold spec_aAll
  refine aAsked_ok (p:=p) w.p w.s.1 w.s.2 w.b (br_nb (fun g=>?_) (fun g=>?_))
  · have g':askB p sx l n=false:=g
    exact hf (by unfold trO; rw [g',Bool.false_and]) _
  · have g':askB p sx l n=true:=g
    have ⟨h1,h2,h3,h4,en⟩:=askB_of g'
    have goal:spec_aSolve ⟨p⟩ sx l ((n.toNat:Nat):Int) ((20000:Nat):Int) (fun r22=>spec_l1In (ln r22) 1 20000 fun r34=>Q r22 r34):=by
      refine aSolve_ok (p:=p) (M:=20000) h1 (by omega) (by omega) (l1In_ok ?_)
      have e:(decide (1≤ln ((surv p sx l n.toNat).take (20000+1)))&&decide (ln ((surv p sx l n.toNat).take (20000+1))≤20000))=trO p sx l n:=by
        unfold trO
        rw [g',Bool.true_and,Bool.eq_iff_iff]
        unfold ln
        rw [List.length_take]
        simp only [Bool.and_eq_true,decide_eq_true_eq]
        omega
      rw [e]
      cases ho:trO p sx l n with
      | false=>exact hf ho _
      | true =>
        have ho2:=ho
        unfold trO at ho2
        simp only [Bool.and_eq_true,decide_eq_true_eq] at ho2
        rw [List.take_of_length_le (by omega)]
        exact ht ho
    rw [en] at goal
    exact goal
theorem trO_of {p:List Int} {sx:List Variable} {l:List Published} {n:Int} (h:trO p sx l n=true):askB p sx l n=true∧1≤(surv p sx l n.toNat).length∧(surv p sx l n.toNat).length≤20000:=by
  unfold trO at h
  simp only [Bool.and_eq_true,decide_eq_true_eq] at h
  exact ⟨h.1,h.2.1,h.2.2⟩
theorem sRanges_ok {p:List Int} {sx:List Variable} {l:List Published} {n:Int} {Q:List Int→List Int→Bool→Prop} (w:WD p sx l) (hq:Q (trV p sx l n).1 (trV p sx l n).2 (trO p sx l n)):spec_TypeRanges ⟨p⟩ sx l n Q:=by
  unfold spec_TypeRanges
  refine aAll_ok (p:=p) w (fun h x=>br_true rfl ?_) (fun h=>br_false rfl ?_)
  · unfold trV at hq; rw [h] at hq; simpa using hq
  · have ⟨g,h1,h2⟩:=trO_of h
    have ⟨_,hT,hT2,_,_⟩:=askB_of g
    unfold trV at hq
    rw [if_pos h,h] at hq
    have hall:∀ t∈surv p sx l n.toNat,t.length=nT p sx:=fun t ht=>(surv_mem ht).1
    generalize surv p sx l n.toNat=L at h1 h2 hall hq
    match L,h1 with
    | t :: r,_ =>
      have ht:=hall t (List.mem_cons_self ..)
      refine idx_at (by simp) (idx_at (by simp) (l1Own_ok (by show t.length≤_; omega) (l1Own_ok (by show t.length≤_; omega) ?_)))
      refine loop3_list (xs:=t :: r) (by omega) (fun lo hi i=>(lo,hi)=((t :: r).take i).foldl stp2 (t,t)∧lo.length=nT p sx∧hi.length=nT p sx) ⟨rfl,ht,ht⟩ ?_ ?_
      · rintro lo hi i nx hi' ⟨e,n1,n2⟩ hx
        have hv:=hall _ (List.getElem_mem hi')
        refine idx_at hi' ?_
        have e2:(zmn lo (t :: r)[i],zmx hi (t :: r)[i])=((t :: r).take (i+1)).foldl stp2 (t,t):=by
          rw [List.take_add_one,List.getElem?_eq_getElem hi',List.foldl_append,← e]; rfl
        have hx:=hx _ _ ⟨e2,by rw [zmn_len (by omega),hv],by rw [zmx_len (by omega),hv]⟩
        generalize (t :: r)[i]=v at hv hx
        have l1:=zmn_len (lo:=lo) (v:=v) (by omega)
        have l2:=zmx_len (lo:=hi) (v:=v) (by omega)
        refine loop3_list (xs:=v) (by omega) (fun a b j=>a=upTo (zmn lo v) lo j∧b=upTo (zmx hi v) hi j) ⟨upTo_zero.symm,upTo_zero.symm⟩ ?_ ?_
        · rintro a b j nx2 hj ⟨rfl,rfl⟩ hx2
          have m1:(upTo (zmn lo v) lo j).length=lo.length:=upTo_len (by omega) (by omega)
          have m2:(upTo (zmx hi v) hi j).length=hi.length:=upTo_len (by omega) (by omega)
          refine idx_at hj (idx_at (by omega) (l1Least_ok ⟨by omega,by omega,idx_at (by omega) (l1Most_ok ⟨by omega,by omega,?_⟩)⟩))
          rw [upTo_at (by omega) (by omega) (by omega),upTo_at (by omega) (by omega) (by omega),Int.toNat_natCast]
          refine hx2 _ _ ⟨?_,?_⟩
          · rw [← upTo_set (by omega) (by omega)]; congr 1; unfold zmn; rw [List.getElem_zipWith]
          · rw [← upTo_set (by omega) (by omega)]; congr 1; unfold zmx; rw [List.getElem_zipWith]
        · rintro a b ⟨rfl,rfl⟩
          rw [upTo_all (by omega) (by omega),upTo_all (by omega) (by omega)]; exact hx
      · rintro lo hi ⟨e,_,_⟩
        rw [List.take_of_length_le (Nat.le_refl _)] at e
        have e3:rg (t :: r)=(lo,hi):=e.symm
        rw [e3] at hq
        exact hq
theorem rangesT_ok {p:List Int} {sx:List Variable} {l:List Published} {n:Int} {Q:List Int→List Int→Bool→Prop} (g:askB p sx l n=true) (hq:Q (trV p sx l n).1 (trV p sx l n).2 (trO p sx l n)):impl_ranges_impl_TypeRanges_1 ⟨p⟩ sx l n Q:=by
  have ⟨h1,hT,hT2,h4,en⟩:=askB_of g
  unfold impl_ranges_impl_TypeRanges_1
  have goal:impl_solutions_impl_ranges_1_impl_TypeRanges_1 ⟨p⟩ sx l ((n.toNat:Nat):Int) ((20001:Nat):Int) [] [] (fun r37 r38 r39=>jn (fun (k:Bool→Prop)=>br (r37==0) (k true)<|k (decide (r37>20000)))<|fun (x65:Bool)=>br (x65) (Q [] [] false)<|Q r38 r39 true):=by
    refine solutions_tr (p:=p) (M:=20001) (s:=([],[])) h1 h4 (by omega) (by omega) stp (fun found s=>(found=0∧s.1=[])∨(0<found∧s.1.length=nT p sx∧s.2.length=nT p sx)) (fun found s cs Q2 f1 f2 f3 f4 f5=>?_) (.inl ⟨rfl,rfl⟩) fun s' e1 e2=>?_
    · have hl:=stp_len (s:=s) (v:=cs) f3 (f2.imp (·.2) (·.2))
      have f5:=f5 (.inr ⟨by omega,hl⟩)
      unfold impl_solutions_1_impl_ranges_1_impl_TypeRanges_1 impl_ranges_1_impl_TypeRanges_1 impl_TypeRanges_1
      rw [wr_in (by omega) (by omega)]
      unfold stp at f5
      refine jn_of (br_eq (fun c=>?_) (fun c=>?_))
      · have c:s.1=[]:=List.eq_nil_of_length_eq_zero (by unfold ln at c; omega)
        rw [if_pos c] at f5
        refine ⟨by unfold ln; simp; omega,by unfold ln; simp; omega,by unfold ln; simp; omega,?_⟩
        rw [List.nil_append]
        exact takeIn_ok rfl rfl (by omega) f5
      · have c':s.1≠[]:=fun e=>by rw [e] at c; exact c rfl
        rw [if_neg c'] at f5
        rcases f2 with f2 | f2
        · exact absurd f2.2 c'
        · exact takeIn_ok (by omega) (by omega) (by omega) f5
    · have hall:∀ t∈surv p sx l n.toNat,t.length=nT p sx:=fun t ht=>(surv_mem ht).1
      refine jn_bool (!trO p sx l n) ?_ fun k hk=>br_eq (fun c=>?_) (fun c=>?_)
      · cases ho:trO p sx l n with
        | false =>
          unfold trV at hq; rw [ho] at hq
          exact br_true rfl (by simpa using hq)
        | true =>
          have ⟨_,a1,a2⟩:=trO_of ho
          unfold trV at hq; rw [ho,if_pos rfl] at hq
          rw [List.take_of_length_le (by omega),(rg_fold hT hall).1] at e1
          rw [← e1] at hq
          exact br_false rfl hq
      · have e:trO p sx l n=false:=by
          rw [Bool.eq_false_iff]; intro ho
          have ⟨_,a1,a2⟩:=trO_of ho
          omega
        rw [e] at hk; exact hk
      · have e:decide (((min 20001 (surv p sx l n.toNat).length:Nat):Int)>20000)=!trO p sx l n:=by
          unfold trO
          rw [g,Bool.true_and,Bool.eq_iff_iff]
          simp only [decide_eq_true_eq,Bool.not_eq_true',Bool.and_eq_false_iff,decide_eq_false_iff_not]
          omega
        rw [e]; exact hk
  rw [en] at goal
  exact goal
theorem iRanges_ok {p:List Int} {sx:List Variable} {l:List Published} {n:Int} {Q:List Int→List Int→Bool→Prop} (w:WD p sx l) (hq:Q (trV p sx l n).1 (trV p sx l n).2 (trO p sx l n)):impl_TypeRanges ⟨p⟩ sx l n Q:=by
  unfold impl_TypeRanges
  refine jn_bool (!askB p sx l n) ?_ fun k hk=>areAttacked_ok (p:=p) w.p w.s.1 w.b (br_nb (fun g=>?_) (fun g=>isPersons_ok ?_))
  · refine br_nb (fun g=>?_) (fun g=>rangesT_ok g hq)
    have e:trO p sx l n=false:=by unfold trO; rw [g,Bool.false_and]
    unfold trV at hq; rw [e] at hq; simpa using hq
  · unfold askB at hk; rw [g] at hk; exact hk
  · unfold askB at hk; rw [g,Bool.true_and] at hk; exact hk
theorem trV_len {p:List Int} {sx:List Variable} {l:List Published} {n:Int}:(trV p sx l n).1.length≤12∧(trV p sx l n).2.length=(trV p sx l n).1.length:=by
  unfold trV
  split
  · rename_i h
    have ⟨g,h1,h2⟩:=trO_of h
    have ⟨_,hT,hT2,_,_⟩:=askB_of g
    have:=(rg_fold hT (fun t ht=>(surv_mem (p:=p) (sx:=sx) (l:=l) (n:=n.toNat) (t:=t) ht).1)).2 (fun e=>by rw [e] at h1; simp at h1)
    omega
  · simp
end Go.Proofs.YtbgnaamdlcggjaaGreat
