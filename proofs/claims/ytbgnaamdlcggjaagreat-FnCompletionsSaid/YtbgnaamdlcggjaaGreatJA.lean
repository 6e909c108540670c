/- The first completion: what CompletionOf and CanComplete come to. -/
import Derived.Test.YtbgnaamdlcggjaaGreatNE
set_option linter.unusedVariables false
set_option autoImplicit false
namespace Go.Proofs.YtbgnaamdlcggjaaGreat
open Go Go.RowKit Go.Gv
/-- The first values that fail no edit and agree with others outside of some variables. -/
def fc (sx:List Variable) (l:List Edit) (vs vars:List Int):List Int :=
  match (List.range (cnt sx)).find? (fun i => !failsB l (vals sx i)&&agree sx vars vs (vals sx i)) with
  | some i=>vals sx i
  | none=>[]
theorem fc_some {sx:List Variable} {l:List Edit} {vs vars:List Int} {n:Nat} (hn:n<cnt sx) (hj:(List.range n).all (fun i=>failsB l (vals sx i) || !agree sx vars vs (vals sx i))=true) (h1:failsB l (vals sx n)=false) (h2:agree sx vars vs (vals sx n)=true):fc sx l vs vars=vals sx n:=by
  unfold fc
  have:(List.range (cnt sx)).find? (fun i => !failsB l (vals sx i)&&agree sx vars vs (vals sx i))=some n:=by
    rw [List.find?_range_eq_some]
    refine ⟨by rw [h1,h2]; rfl,List.mem_range.2 hn,fun j hj2=>?_⟩
    have:=List.all_eq_true.1 hj j (List.mem_range.2 hj2)
    cases ha:failsB l (vals sx j) with
    | true=>rfl
    | false=>rw [ha,Bool.false_or] at this; simpa using this
  rw [this]
theorem fc_none {sx:List Variable} {l:List Edit} {vs vars:List Int} (hj:(List.range (cnt sx)).all (fun i=>failsB l (vals sx i) || !agree sx vars vs (vals sx i))=true):fc sx l vs vars=[]:=by
  unfold fc
  have:(List.range (cnt sx)).find? (fun i => !failsB l (vals sx i)&&agree sx vars vs (vals sx i))=none:=by
    rw [List.find?_eq_none]
    intro j hj2 h
    have:=List.all_eq_true.1 hj j hj2
    simp only [Bool.and_eq_true,Bool.not_eq_true'] at h
    rw [h.1,h.2] at this; cases this
  rw [this]
theorem fc_in {sx:List Variable} {l:List Edit} {vs vars:List Int} (h:compl sx l vs vars=true):fc sx l vs vars∈pass sx l∧agree sx vars vs (fc sx l vs vars)=true:=by
  unfold fc
  cases e:(List.range (cnt sx)).find? (fun i => !failsB l (vals sx i)&&agree sx vars vs (vals sx i)) with
  | some i =>
    have h1:=List.find?_some e
    have h2:=List.mem_of_find?_eq_some e
    simp only [Bool.and_eq_true,Bool.not_eq_true'] at h1
    exact ⟨List.mem_map.2 ⟨i,List.mem_filter.2 ⟨h2,by rw [h1.1]; rfl⟩,rfl⟩,h1.2⟩
  | none =>
    exfalso
    obtain ⟨c,hc,ha⟩:=List.any_eq_true.1 h
    obtain ⟨i,hi,rfl⟩:=List.mem_map.1 hc
    have h1:=List.mem_filter.1 hi
    exact List.find?_eq_none.1 e i h1.1 (by rw [ha,Bool.and_true]; exact h1.2)
theorem completionOf_eq {sx:List Variable} {l:List Edit} {vs vars:List Int} {Q:List Int→Prop} (hL:Lok sx) (h1:1≤sx.length) (he:Eok sx.length l) (hvs:vs.length=sx.length)
    (hq:Q (fc sx l vs vars)):impl_completionOf sx l (oth sx vars) vs Q:=by
  have h0:=hL.1
  have hcs:=cnt_small' hL
  have ho:(oth sx vars).length≤sx.length:=by
    unfold oth
    rw [List.length_map]
    have:=List.length_filter_le (fun (i:Nat) => !hasB vars (i:Int)) (List.range sx.length)
    rwa [List.length_range] at this
  have hov:∀ j (hj:j<(oth sx vars).length),∃ i:Nat,(oth sx vars)[j]=(i:Int)∧i<sx.length:=fun j hj=>by
    have:=List.getElem_mem hj
    unfold oth at this
    obtain ⟨i,hi,e⟩:=List.mem_map.1 this
    exact ⟨i,e.symm,List.mem_range.1 (List.mem_filter.1 hi).1⟩
  unfold impl_completionOf impl_passing_impl_completionOf_1
  refine combinations_ok hL ?_
  refine ⟨fun x f=>∃ n:Nat,x=(n:Int)∧n≤cnt sx∧f=[]∧(List.range n).all (fun i=>failsB l (vals sx i) || !agree sx vars vs (vals sx i))=true,fun x _=>((cnt sx:Int)-x).toNat,⟨0,rfl,Nat.zero_le _,rfl,by simp⟩,?_⟩
  rintro x f ⟨n,rfl,hn,rfl,hj⟩
  refine br_dec (fun g=>valuesAt_ok hL (by omega) ?_) (fun g=>?_)
  · have hn':n<cnt sx:=by omega
    have hvl:=vals_length sx n
    refine jn_bool2 (!(failsB l (vals sx n) || !agree sx vars vs (vals sx n))) (if !(failsB l (vals sx n) || !agree sx vars vs (vals sx n)) then vals sx n else []) ?_ fun k hk=>failsOne_ok (by rw [hvl]; exact he) (vals_ok n hL.2) (by omega) ?_
    · refine br_nb (fun g1=>?_) (fun g1=>?_)
      · rw [g1,Bool.not_false,if_pos rfl]
        simp only [Bool.or_eq_false_iff,Bool.not_eq_false'] at g1
        rw [fc_some hn' hj g1.1 g1.2] at hq; exact hq
      · rw [g1,Bool.not_true,if_neg (by decide),wr_in (by omega) (by omega)]
        refine ⟨⟨n+1,by omega,hn',rfl,range_all_succ hj g1⟩,?_⟩
        show ((cnt sx:Int)-((n:Int)+1)).toNat<((cnt sx:Int)-(n:Int)).toNat
        omega
    · refine br_nb (fun g1=>?_) (fun g1=>?_)
      · have g1':failsB l (vals sx n)=false:=g1
        rw [g1',Bool.false_or,Bool.not_not] at hk
        unfold impl_completionOf_1
        refine loop1_list (by omega) (fun i=>((oth sx vars).take i).all (fun v=>gi (vals sx n) v.toNat==gi vs v.toNat)=true) (by simp) (fun i nx hi hji hx=>?_) (fun hji=>⟨by unfold ln; omega,?_⟩)
        · obtain ⟨m,em,hm⟩:=hov i hi
          refine idx_at hi ?_
          rw [em]
          refine idx_at (by omega) (idx_at (by omega) (br_ne (fun g2=>?_) (fun g2=>hx (lall_succ hi hji ?_))))
          · have:agree sx vars vs (vals sx n)=false:=by
              refine lall_no hi ?_
              rw [em,Int.toNat_natCast,gi_at (by omega),gi_at (by omega)]
              simpa using g2
            rw [this] at hk; simpa using hk
          · rw [em,Int.toNat_natCast,gi_at (by omega),gi_at (by omega)]
            simpa using g2
        · rw [List.take_length] at hji
          have:agree sx vars vs (vals sx n)=true:=hji
          rw [this] at hk; simpa using hk
      · have g1':failsB l (vals sx n)=true:=g1
        rw [g1',Bool.true_or] at hk
        simpa using hk
  · have e1:n=cnt sx:=by omega
    subst e1
    rw [fc_none hj] at hq; exact hq
theorem eComplete_eq {sx:List Variable} {l:List Edit} {vs vars:List Int} {Q:List Int→Bool→Prop} (hL:Lok sx) (he:Eok sx.length l) (hvs:vs.length=sx.length)
    (hq:Q (fc sx l vs vars) (compl sx l vs vars)):spec_eComplete sx l (oth sx vars) vs Q:=by
  have h0:=hL.1
  have hcs:=cnt_small' hL
  have ho:=oth_len (sx:=sx) (vars:=vars)
  unfold spec_eComplete
  refine ⟨fun x=>∃ n:Nat,x=(n:Int)∧n≤cnt sx∧(List.range n).all (fun i=>failsB l (vals sx i) || !agree sx vars vs (vals sx i))=true,fun x=>((cnt sx:Int)-x).toNat,⟨0,rfl,Nat.zero_le _,by simp⟩,?_⟩
  rintro x ⟨n,rfl,hn,hj⟩
  refine sCount_ok hL (br_dec (fun g=>sAt_ok hL (by omega) ?_) (fun g=>?_))
  · have hvl:=vals_length sx n
    refine eFailed_ok (by rw [hvl]; exact he) (vals_ok n hL.2) (by omega) fun o hoo=>?_
    have e0:((ln o)==0)=!failsB l (vals sx n):=by
      unfold ln
      cases hfb:failsB l (vals sx n) with
      | false=>have:=hoo.2 hfb; simp; exact List.eq_nil_of_length_eq_zero this
      | true =>
        have:¬ o.length=0:=fun c=>by rw [hoo.1 c] at hfb; cases hfb
        simp; intro c; exact this (by rw [c]; rfl)
    rw [e0]
    refine loop2_list (xs:=oth sx vars) (by omega) (fun f i=>f=(!failsB l (vals sx n)&&((oth sx vars).take i).all (fun v=>gi (vals sx n) v.toNat==gi vs v.toNat))) (by simp) ?_ ?_
    · rintro f i nx hi rfl hx
      obtain ⟨m,em,hm⟩:=oth_at hi
      refine jn_bool _ (hx _ rfl) fun k hk=>idx_at hi ?_
      rw [List.take_succ_eq_append_getElem hi,List.all_append] at hk
      simp only [List.all_cons,List.all_nil,Bool.and_true] at hk
      rw [← Bool.and_assoc] at hk
      rw [em] at hk ⊢
      refine br_bo (fun g1=>idx_at (by omega) (idx_at (by omega) ?_)) (fun g1=>?_)
      · rw [g1,Bool.true_and,Int.toNat_natCast,gi_at (show m<(vals sx n).length by omega),gi_at (show m<vs.length by omega)] at hk; exact hk
      · rw [g1,Bool.false_and] at hk; exact hk
    · rintro f rfl
      rw [List.take_length]
      have ea:((oth sx vars).all fun v=>gi (vals sx n) v.toNat==gi vs v.toNat)=agree sx vars vs (vals sx n):=rfl
      rw [ea]
      refine br_bo (fun g1=>?_) (fun g1=>?_)
      · simp only [Bool.and_eq_true,Bool.not_eq_true'] at g1
        have:compl sx l vs vars=true:=List.any_eq_true.2 ⟨vals sx n,List.mem_map.2 ⟨n,List.mem_filter.2 ⟨List.mem_range.2 (by omega),by rw [g1.1]; rfl⟩,rfl⟩,g1.2⟩
        rw [fc_some (by omega) hj g1.1 g1.2,this] at hq; exact hq
      · rw [wr_in (by omega) (by omega)]
        refine ⟨⟨n+1,by omega,by omega,range_all_succ hj ?_⟩,by dsimp only; omega⟩
        cases hfb:failsB l (vals sx n) with
        | true=>rfl
        | false=>rw [hfb,Bool.not_false,Bool.true_and] at g1; rw [g1]; rfl
  · have e1:n=cnt sx:=by omega
    subst e1
    have:compl sx l vs vars=false:=by
      unfold compl pass
      rw [List.any_map,List.any_eq_false]
      intro i hi
      have hf:=List.mem_filter.1 hi
      have:=List.all_eq_true.1 hj i hf.1
      have h2:failsB l (vals sx i)=false:=by simpa using hf.2
      rw [h2,Bool.false_or] at this
      simpa using this
    rw [fc_none hj,this] at hq; exact hq
end Go.Proofs.YtbgnaamdlcggjaaGreat
