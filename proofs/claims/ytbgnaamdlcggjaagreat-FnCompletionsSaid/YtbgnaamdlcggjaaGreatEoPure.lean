/- The plain law of EditsOnly. -/
import Derived.Test.YtbgnaamdlcggjaaGreatMxPure
set_option linter.unusedVariables false
set_option autoImplicit false
namespace Go.Proofs.YtbgnaamdlcggjaaGreat
open Go Go.RowKit Go.Gv
def risOk (n:Nat) (l:List Int):Bool:=(List.range l.length).all fun i=>inb 0 ((n:Int)-1) (gi l i)&&(decide (i=0) || decide (gi l (i-1)<gi l i))
theorem rising_ok {n:Nat} {l:List Int} {Q:Bool→Prop} (hl:l.length≤1048576) (hn:n≤1048576) (hq:Q (risOk n l)):spec_l1Rising l 0 (wr ((n:Int)-1)) Q:=by
  unfold spec_l1Rising
  rw [wr_in (by omega) (by omega)]
  refine loop1_list (by omega) (fun i=>(List.range i).all (fun i=>inb 0 ((n:Int)-1) (gi l i)&&(decide (i=0) || decide (gi l (i-1)<gi l i)))=true) (by simp) (fun i nx hi hj hx=>idx_at hi ?_) (fun hj=>?_)
  · refine jn_bool (!(inb 0 ((n:Int)-1) (gi l i)&&(decide (i=0) || decide (gi l (i-1)<gi l i)))) ?_ fun k hk=>l1In_ok (br_nb (fun g=>?_) (fun g=>br_dec (fun g2=>?_) (fun g2=>?_)))
    · refine br_nb (fun g=>?_) (fun g=>hx (range_all_succ hj g))
      have:risOk n l=false:=range_all_no hi g
      rw [this] at hq; exact hq
    · have:inb 0 ((n:Int)-1) (gi l i)=false:=by rw [gi_at hi]; exact g
      rw [this] at hk; exact hk
    · have:inb 0 ((n:Int)-1) (gi l i)=true:=by rw [gi_at hi]; exact g
      rw [this,decide_eq_false (by omega:¬ i=0),Bool.true_and,Bool.false_or] at hk
      rw [wr_in (by omega) (by omega),show (i:Int)-1=((i-1:Nat):Int) by omega]
      refine idx_at (by omega) ?_
      rw [gi_at hi,gi_at (show i-1<l.length by omega),← decide_not] at hk
      have e:decide (l[i-1]≥l[i])=decide (¬ l[i-1]<l[i]):=by congr 1; simp
      rw [e]; exact hk
    · have:inb 0 ((n:Int)-1) (gi l i)=true:=by rw [gi_at hi]; exact g
      have e:i=0:=by omega
      rw [this,decide_eq_true e] at hk; exact hk
  · have:risOk n l=true:=hj
    rw [this] at hq; exact hq
theorem areVars_ok {sx:List Variable} {l:List Int} {Q:Bool→Prop} (hl:l.length≤1048576) (hn:sx.length≤1048576) (hq:Q (risOk sx.length l)):impl_areVars sx l Q:=by
  unfold impl_areVars
  refine loop2_list (by omega) (fun last i=>(List.range i).all (fun i=>inb 0 ((sx.length:Int)-1) (gi l i)&&(decide (i=0) || decide (gi l (i-1)<gi l i)))=true∧last=if i=0 then -1 else gi l (i-1)) ⟨by simp,by simp⟩ (fun last i nx hi ⟨hj,hj2⟩ hx=>idx_at hi ?_) (fun last ⟨hj,_⟩=>?_)
  · refine jn_bool (!(inb 0 ((sx.length:Int)-1) (gi l i)&&(decide (i=0) || decide (gi l (i-1)<gi l i)))) ?_ fun k hk=>?_
    · refine br_nb (fun g=>?_) (fun g=>hx _ ⟨range_all_succ hj g,by rw [if_neg (by omega),Nat.add_sub_cancel,gi_at hi]⟩)
      have:risOk sx.length l=false:=range_all_no hi g
      rw [this] at hq; exact hq
    · have key:(inb 0 ((sx.length:Int)-1) (gi l i)&&(decide (i=0) || decide (gi l (i-1)<gi l i)))=(!decide (l[i]≤last)&&!decide (l[i]≥ln sx)):=by
        rw [gi_at hi,hj2]
        by_cases e:i=0
        · subst e
          rw [if_pos rfl]; unfold inb ln
          rw [Bool.eq_iff_iff]; simp; omega
        · rw [if_neg e,decide_eq_false e]
          have hb:=range_all_at hj (show i-1<i by omega)
          rw [gi_at (show i-1<l.length by omega)] at hb ⊢
          simp only [Bool.and_eq_true,inb_iff'] at hb
          unfold inb ln
          rw [Bool.eq_iff_iff]; simp; omega
      rw [key] at hk
      refine br_dec (fun g=>?_) (fun g=>?_)
      · rw [decide_eq_true g] at hk; exact hk
      · rw [decide_eq_false g,Bool.not_false,Bool.true_and,Bool.not_not] at hk; exact hk
  · have:risOk sx.length l=true:=hj
    rw [this] at hq; exact hq
def invl (sx:List Variable) (t:List Int):List Int:=((List.range t.length).filter fun i=>decide (gi t i≠full (vAt sx i))).map fun (i:Nat)=>(i:Int)
theorem invl_len {sx:List Variable} {t:List Int}:(invl sx t).length≤t.length:=by
  unfold invl
  rw [List.length_map]
  have:=List.length_filter_le (fun i=>decide (gi t i≠full (vAt sx i))) (List.range t.length)
  rwa [List.length_range] at this
theorem invl_step {sx:List Variable} {t:List Int} {i:Nat}:((List.range (i+1)).filter fun i=>decide (gi t i≠full (vAt sx i))).map (fun (i:Nat)=>(i:Int)) =
    ((List.range i).filter fun i=>decide (gi t i≠full (vAt sx i))).map (fun (i:Nat)=>(i:Int))++if decide (gi t i≠full (vAt sx i)) then [(i:Int)] else []:=by
  rw [List.range_succ,List.filter_append,List.map_append,List.filter_cons,List.filter_nil]
  split <;> rfl
theorem invl_pre {sx:List Variable} {t:List Int} {i:Nat}:(((List.range i).filter fun i=>decide (gi t i≠full (vAt sx i))).map (fun (i:Nat)=>(i:Int))).length≤i:=by
  rw [List.length_map]
  have:=List.length_filter_le (fun i=>decide (gi t i≠full (vAt sx i))) (List.range i)
  rwa [List.length_range] at this
theorem eInvolved_ok {sx:List Variable} {e:Edit} {Q:List Int→Prop} (hL:Lok sx) (hl:e.Sets.length=sx.length) (hq:Q (invl sx e.Sets)):spec_eInvolved sx e Q:=by
  have h0:=hL.1
  unfold spec_eInvolved
  refine loop2_list (by omega) (fun o i=>o=((List.range i).filter fun i=>decide (gi e.Sets i≠full (vAt sx i))).map fun (i:Nat)=>(i:Int)) rfl ?_ ?_
  · rintro _ i nx hi rfl hx
    have hp:=invl_pre (sx:=sx) (t:=e.Sets) (i:=i)
    refine jn_bool _ (hx _ invl_step.symm) fun k hk=>idx_at hi (eFull_ok hL (by omega) ?_)
    rw [gi_at hi,vAt_at (by omega)] at hk
    refine br_ne (fun g=>⟨by unfold ln; simp only [List.length_singleton]; omega,?_⟩) (fun g=>?_)
    · rw [decide_eq_true g,if_pos rfl] at hk; exact hk
    · rw [decide_eq_false (by simpa using g)] at hk; simpa using hk
  · rintro _ rfl; exact hq
theorem involvedIn_ok {sx:List Variable} {e:Edit} {Q:List Int→Prop} (hL:Lok sx) (hl:e.Sets.length=sx.length) (hq:Q (invl sx e.Sets)):impl_involvedIn sx e Q:=by
  have h0:=hL.1
  unfold impl_involvedIn
  refine loop2_list (by omega) (fun o i=>o=((List.range i).filter fun i=>decide (gi e.Sets i≠full (vAt sx i))).map fun (i:Nat)=>(i:Int)) rfl ?_ ?_
  · rintro _ i nx hi rfl hx
    have hp:=invl_pre (sx:=sx) (t:=e.Sets) (i:=i)
    refine jn_bool _ (hx _ invl_step.symm) fun k hk=>idx_at hi (idx_at (by omega) (fullSet_ok hL (by omega) ?_))
    rw [gi_at hi,vAt_at (by omega)] at hk
    refine br_ne (fun g=>⟨by unfold ln; simp only [List.length_singleton]; omega,?_⟩) (fun g=>?_)
    · rw [decide_eq_true g,if_pos rfl] at hk; exact hk
    · rw [decide_eq_false (by simpa using g)] at hk; simpa using hk
  · rintro _ rfl; exact hq
def hasB (l:List Int) (n:Int):Bool:=l.any fun x=>x==n
theorem lany_no {α:Type} {p:α→Bool} {l:List α} {i:Nat} (hi:i<l.length) (h:(l.take i).any p=false) (hp:p l[i]=false):(l.take (i+1)).any p=false:=by rw [lany_succ hi,h,hp]; rfl
theorem l1Has_ok {l:List Int} {n:Int} {Q:Bool→Prop} (hl:l.length≤1048576) (hq:Q (hasB l n)):spec_l1Has l n Q:=by
  unfold spec_l1Has
  refine loop1_list (by omega) (fun i=>(l.take i).any (fun x=>x==n)=false) (by simp) (fun i nx hi hj hx=>idx_at hi (br_bo (fun g=>?_) (fun g=>hx (lany_no hi hj g)))) (fun hj=>?_)
  · have:hasB l n=true:=lany_yes hi g
    rw [this] at hq; exact hq
  · rw [List.take_length] at hj
    have:hasB l n=false:=hj
    rw [this] at hq; exact hq
theorem Contains_ok {l:List Int} {n:Int} {Q:Bool→Prop} (hl:l.length≤1048576) (hq:Q (hasB l n)):slices_Contains_int_int l n Q:=by
  unfold slices_Contains_int_int slices_Index_int_int
  refine loop1_list (by omega) (fun i=>(l.take i).any (fun x=>x==n)=false) (by simp) (fun i nx hi hj hx=>idx_at hi (br_eq (fun g=>?_) (fun g=>hx (lany_no hi hj (by simp; omega))))) (fun hj=>?_)
  · have:hasB l n=true:=lany_yes hi (by simp; omega)
    rw [this] at hq
    have e:decide ((i:Int)≥0)=true:=decide_eq_true (by omega)
    show Q (decide ((i:Int)≥0))
    rw [e]; exact hq
  · rw [List.take_length] at hj
    have:hasB l n=false:=hj
    rw [this] at hq; exact hq
def onlyIn (sx:List Variable) (vars:List Int) (e:Edit):Bool:=(invl sx e.Sets).all fun v=>hasB vars v
def eoOk (sx:List Variable) (l:List Edit) (vars:List Int):Bool:=maxOk sx l&&risOk sx.length vars
def eoR (sx:List Variable) (l:List Edit) (vars:List Int):List Edit:=if eoOk sx l vars then (maxE sx l (-1)).filter (onlyIn sx vars) else []
theorem maxE_sets {sx:List Variable} {l:List Edit} {v:Int} (hL:Lok sx):∀ e∈maxE sx l v,inE v 0 sx e.Sets:=fun e he=>by
  unfold maxE res at he
  obtain ⟨t,ht,rfl⟩:=List.mem_map.1 he
  exact mem_enum.1 (List.mem_filter.1 ht).1
theorem filter_step {p:Edit→Bool} {L:List Edit} {i:Nat} (hi:i<L.length):(L.take (i+1)).filter p=(L.take i).filter p++if p L[i] then [L[i]] else []:=by
  rw [List.take_succ_eq_append_getElem hi,List.filter_append,List.filter_cons,List.filter_nil]
theorem filter_pre {p:Edit→Bool} {L:List Edit} {i:Nat}:((L.take i).filter p).length≤L.length:=by
  have h1:=List.length_filter_le p (L.take i)
  rw [List.length_take] at h1; omega
theorem sOnly_ok {sx:List Variable} {l:List Edit} {vars:List Int} {Q:List Edit→Bool→Prop} (hw:Wide sx l) (hv:vars.length≤1048576) (hq:Q (eoR sx l vars) (eoOk sx l vars)):spec_EditsOnly sx l vars Q:=by
  unfold spec_EditsOnly
  refine jn_bool (!eoOk sx l vars) ?_ fun k hk=>eSmall_ok hw.1.1 hw.1.2 hw.2.1 hw.2.2 (br_nb (fun g=>?_) (fun g=>rising_ok hv hw.1.1 ?_))
  · refine br_nb (fun g=>?_) (fun g=>?_)
    · unfold eoR at hq; rw [g] at hq; exact hq
    · unfold eoR at hq; rw [g,if_pos rfl] at hq
      have g1:maxOk sx l=true:=by unfold eoOk at g; simp only [Bool.and_eq_true] at g; exact g.1
      have ⟨hL,hc,he⟩:=maxOk_of g1
      have hen:=(maxE_len (l:=l) (v := -1) hL hc).1
      refine eMaximal_ok hL hc he ?_
      refine loop2_list (by omega) (fun o i=>o=((maxE sx l (-1)).take i).filter (onlyIn sx vars)) rfl ?_ ?_
      · rintro _ i nx hi rfl hx
        have hin:=inB_length (inE_B hL.2 (maxE_sets hL _ (List.getElem_mem hi)))
        have hil:=invl_len (sx:=sx) (t:=(maxE sx l (-1))[i].Sets)
        have hfp:=filter_pre (p:=onlyIn sx vars) (L:=maxE sx l (-1)) (i:=i)
        have h0:=hL.1
        refine jn_bool _ (hx _ (filter_step hi).symm) fun k hk=>idx_at hi (eInvolved_ok hL hin ?_)
        refine loop2_list (by show (invl sx (maxE sx l (-1))[i].Sets).length≤_; omega) (fun b j=>b=((invl sx (maxE sx l (-1))[i].Sets).take j).all fun v=>hasB vars v) (by simp) ?_ ?_
        · rintro _ j nx2 hj rfl hx2
          refine jn_bool _ (hx2 _ rfl) fun k2 hk2=>idx_at hj ?_
          rw [List.take_succ_eq_append_getElem hj,List.all_append] at hk2
          simp only [List.all_cons,List.all_nil,Bool.and_true] at hk2
          refine br_bo (fun g2=>l1Has_ok hv ?_) (fun g2=>?_)
          · rw [g2,Bool.true_and] at hk2; exact hk2
          · rw [g2,Bool.false_and] at hk2; exact hk2
        · rintro _ rfl
          rw [List.take_length]
          have e:onlyIn sx vars (maxE sx l (-1))[i]=(invl sx (maxE sx l (-1))[i].Sets).all fun v=>hasB vars v:=rfl
          rw [e] at hk
          refine br_bo (fun g2=>⟨by unfold ln; simp only [List.length_singleton]; omega,?_⟩) (fun g2=>?_)
          · have g3:((invl sx (maxE sx l (-1))[i].Sets).all fun v=>hasB vars v)=true:=g2
            rw [g3,if_pos rfl] at hk; exact hk
          · have g3:((invl sx (maxE sx l (-1))[i].Sets).all fun v=>hasB vars v)=false:=g2
            rw [g3] at hk; simpa using hk
      · rintro _ rfl
        rw [List.take_length]; exact hq
  · have:eoOk sx l vars=false:=by unfold eoOk maxOk; rw [g]; rfl
    rw [this] at hk; exact hk
  · have:eoOk sx l vars=risOk sx.length vars:=by unfold eoOk maxOk; rw [g]; rfl
    rw [this] at hk; exact hk
theorem iOnly_ok {sx:List Variable} {l:List Edit} {vars:List Int} {Q:List Edit→Bool→Prop} (hw:Wide sx l) (hv:vars.length≤1048576) (hq:Q (eoR sx l vars) (eoOk sx l vars)):impl_EditsOnly sx l vars Q:=by
  unfold impl_EditsOnly
  refine jn_bool (!eoOk sx l vars) ?_ fun k hk=>isSmall_ok hw.1.1 (br_nb (fun g=>?_) (fun g=>areEdits_ok (smOk_of g).1 hw.2.2 (br_nb (fun g1=>?_) (fun g1=>areVars_ok hv hw.1.1 ?_))))
  · refine br_nb (fun g=>?_) (fun g=>?_)
    · unfold eoR at hq; rw [g] at hq; exact hq
    · unfold eoR at hq; rw [g,if_pos rfl] at hq
      have g1:maxOk sx l=true:=by unfold eoOk at g; simp only [Bool.and_eq_true] at g; exact g.1
      have ⟨hL,hc,he⟩:=maxOk_of g1
      have hen:=(maxE_len (l:=l) (v := -1) hL hc).1
      refine maximalEdits_ok hL hc he ?_
      refine loop2_list (by omega) (fun o i=>o=((maxE sx l (-1)).take i).filter (onlyIn sx vars)) rfl ?_ ?_
      · rintro _ i nx hi rfl hx
        have hin:=inB_length (inE_B hL.2 (maxE_sets hL _ (List.getElem_mem hi)))
        have hil:=invl_len (sx:=sx) (t:=(maxE sx l (-1))[i].Sets)
        have hfp:=filter_pre (p:=onlyIn sx vars) (L:=maxE sx l (-1)) (i:=i)
        have h0:=hL.1
        refine jn_bool _ (hx _ (filter_step hi).symm) fun k hk=>idx_at hi (involvedIn_ok hL hin ?_)
        refine loop2_list (by show (invl sx (maxE sx l (-1))[i].Sets).length≤_; omega) (fun b j=>b=((invl sx (maxE sx l (-1))[i].Sets).take j).all fun v=>hasB vars v) (by simp) ?_ ?_
        · rintro _ j nx2 hj rfl hx2
          refine jn_bool _ (hx2 _ rfl) fun k2 hk2=>idx_at hj ?_
          rw [List.take_succ_eq_append_getElem hj,List.all_append] at hk2
          simp only [List.all_cons,List.all_nil,Bool.and_true] at hk2
          refine br_bo (fun g2=>Contains_ok hv ?_) (fun g2=>?_)
          · rw [g2,Bool.true_and] at hk2; exact hk2
          · rw [g2,Bool.false_and] at hk2; exact hk2
        · rintro _ rfl
          rw [List.take_length]
          have e:onlyIn sx vars (maxE sx l (-1))[i]=(invl sx (maxE sx l (-1))[i].Sets).all fun v=>hasB vars v:=rfl
          rw [e] at hk
          refine br_bo (fun g2=>⟨by unfold ln; simp only [List.length_singleton]; omega,?_⟩) (fun g2=>?_)
          · have g3:((invl sx (maxE sx l (-1))[i].Sets).all fun v=>hasB vars v)=true:=g2
            rw [g3,if_pos rfl] at hk; exact hk
          · have g3:((invl sx (maxE sx l (-1))[i].Sets).all fun v=>hasB vars v)=false:=g2
            rw [g3] at hk; simpa using hk
      · rintro _ rfl
        rw [List.take_length]; exact hq
  · have:eoOk sx l vars=false:=by unfold eoOk maxOk; rw [g]; rfl
    rw [this] at hk; exact hk
  · have:eoOk sx l vars=false:=by unfold eoOk maxOk; rw [g,g1]; rfl
    rw [this] at hk; exact hk
  · have:eoOk sx l vars=risOk sx.length vars:=by unfold eoOk maxOk; rw [g,g1]; rfl
    rw [this] at hk; exact hk
theorem eoR_len {sx:List Variable} {l:List Edit} {vars:List Int}:(eoR sx l vars).length≤1048576∧∀ e∈eoR sx l vars,e.Sets.length≤1048576:=by
  unfold eoR
  split
  · rename_i g
    have g1:maxOk sx l=true:=by unfold eoOk at g; simp only [Bool.and_eq_true] at g; exact g.1
    have ⟨hL,hc,_⟩:=maxOk_of g1
    have ⟨h1,h2⟩:=maxE_len (l:=l) (v := -1) hL hc
    have h3:=List.length_filter_le (onlyIn sx vars) (maxE sx l (-1))
    exact ⟨by omega,fun e he=>by have:=h2 e (List.mem_filter.1 he).1; omega⟩
  · exact ⟨by simp,fun e he=>by simp at he⟩
end Go.Proofs.YtbgnaamdlcggjaaGreat
