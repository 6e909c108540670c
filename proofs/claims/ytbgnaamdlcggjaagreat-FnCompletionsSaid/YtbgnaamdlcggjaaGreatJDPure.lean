/- The plain law of 'FnCompletions': what the walk computes answers true, whatever the bytes. -/
import Derived.Test.YtbgnaamdlcggjaaGreatJC
set_option linter.unusedVariables false
set_option autoImplicit false
namespace Go.Proofs.YtbgnaamdlcggjaaGreat
open Go Go.RowKit Go.Gv
theorem fixed_ok {code:List B8} {sx:List Variable} {a s:Int} {Q:List Int→Int→Int→Prop} (hc:bytesOk code) (hl:sx.length≤7) (ha:0≤a∧a≤800000000000) (h:∀ l a' s',l.length≤8→0≤a'→a'≤a+16→Q l a' s'):spec_l1Cur_fixed ⟨code,a,s⟩ sx Q:=by
  unfold spec_l1Cur_fixed
  dsimp only
  refine ⟨fun o x at1 _=>∃ n:Nat,x=(n:Int)∧n≤sx.length∧o.length≤n∧0≤at1∧at1≤a+2 * (n:Int),fun _ x _ _=>((sx.length:Int)-x).toNat,⟨0,rfl,Nat.zero_le _,by simp,ha.1,by omega⟩,?_⟩
  rintro o _ at1 s1 ⟨n,rfl,hn,hlo,h0,h1⟩
  refine br_dec (fun g=>?_) (fun g=>?_)
  · unfold ln at g
    refine jn_ok (fun k:List Int→Int→Int→Prop=>∀ o' a' s',o'.length≤n+1→0≤a'→a'≤a+2 * ((n:Int)+1)→k o' a' s') (fun o' a' s' p1 p2 p3=>?_) fun k hk=>?_
    · rw [wr_in (by omega) (by omega)]
      exact ⟨⟨n+1,by omega,by omega,p1,p2,by omega⟩,by dsimp only; omega⟩
    · exact one_ok hc (by unfold atOk; omega) fun b a2 s2 q0 q1=>br_bo (fun _=>⟨by unfold ln; simp only [List.length_singleton]; omega,hk _ _ _ (by simp; omega) q0 (by omega)⟩) (fun _=>hk _ _ _ (by omega) q0 (by omega))
  · unfold ln at g
    refine jn_ok (fun k:List Int→Int→Int→Prop=>∀ o' a' s',o'.length≤8→0≤a'→a'≤a+16→k o' a' s') (fun o' a' s' p1 p2 p3=>h _ _ _ p1 p2 p3) fun k hk=>?_
    exact one_ok hc (by unfold atOk; omega) fun b a2 s2 q0 q1=>br_bo (fun _=>⟨by unfold ln; simp only [List.length_singleton]; omega,hk _ _ _ (by simp; omega) q0 (by omega)⟩) (fun _=>hk _ _ _ (by omega) q0 (by omega))
theorem drawCan_ok {code:List B8} {Q:List Variable→List Edit→List Int→List Int→Prop} (hc:bytesOk code) (h:∀ sx l f vs,sdOk sx→edOk l→f.length≤8→Q sx l f vs):spec_DrawCanComplete code Q:=by
  unfold spec_DrawCanComplete
  exact anySchema_ok hc (by omega) fun sx a1 s1 hs h0 h1=>edits_ok hc hs (by omega) fun l a2 s2 hl g0 g1=>fixed_ok hc hs.1 (by omega) fun f a3 s3 hf p0 p1=>anyValues_ok hc hs.1 (by omega) fun vs a4 s4 _=>h _ _ _ _ hs hl hf
theorem drawOnly_ok {code:List B8} {Q:List Variable→List Edit→List Int→Prop} (hc:bytesOk code) (h:∀ sx l f,sdOk sx→edOk l→f.length≤8→Q sx l f):spec_DrawEditsOnly code Q:=by
  unfold spec_DrawEditsOnly
  exact anySchema_ok hc (by omega) fun sx a1 s1 hs h0 h1=>edits_ok hc hs (by omega) fun l a2 s2 hl g0 g1=>fixed_ok hc hs.1 (by omega) fun f a3 s3 hf p0 p1=>h _ _ _ hs hl hf
theorem hasB_iff' {l:List Int} {v:Int}:hasB l v=true↔v∈l:=by
  unfold hasB
  rw [List.any_eq_true]
  constructor
  · rintro ⟨x,hx,e⟩
    have:x=v:=by simpa using e
    rw [← this]; exact hx
  · intro h; exact ⟨v,h,by simp⟩
theorem inb_of {lo hi x:Int} (h:inb lo hi x=true):lo≤x∧x≤hi:=by
  unfold inb at h; simpa using h
theorem ris_of {n:Nat} {l:List Int} (h:risOk n l=true):(∀ x∈l,0≤x∧x<n)∧l.Pairwise (· < ·):=by
  unfold risOk at h
  have h:=List.all_eq_true.1 h
  have key:∀ i (hi:i<l.length),(0≤l[i]∧l[i]≤(n:Int)-1)∧(i=0∨gi l (i-1)<gi l i):=fun i hi=>by
    have:=h i (List.mem_range.2 hi)
    simp only [Bool.and_eq_true,Bool.or_eq_true,decide_eq_true_eq] at this
    have h1:=inb_of this.1
    rw [gi_at hi] at h1
    exact ⟨h1,this.2⟩
  refine ⟨fun x hx=>?_,?_⟩
  · obtain ⟨i,hi,rfl⟩:=List.mem_iff_getElem.1 hx
    have:=(key i hi).1; omega
  · rw [List.pairwise_iff_getElem]
    intro i j hi hj hij
    have step:∀ m,(hm:i+m+1<l.length)→l[i]<l[i+m+1]:=fun m=>by
      induction m with
      | zero =>
        intro hm
        have:=(key (i+0+1) hm).2.resolve_left (by omega)
        rw [gi_at hm,gi_at (show i+0+1-1<l.length by omega)] at this
        exact this
      | succ m ih =>
        intro hm
        have h1:=ih (by omega)
        have:=(key (i+(m+1)+1) hm).2.resolve_left (by omega)
        rw [gi_at hm,gi_at (show i+(m+1)+1-1<l.length by omega)] at this
        have e:l[i+(m+1)+1-1]'(by omega)=l[i+m+1]'(by omega):=by congr 1
        omega
    have:=step (j-i-1) (by omega)
    have e:l[i+(j-i-1)+1]'(by omega)=l[j]:=by congr 1; omega
    omega
theorem oth_oth {sx:List Variable} {f:List Int} (h:risOk sx.length f=true):oth sx (oth sx f)=f:=by
  have ⟨h1,h2⟩:=ris_of h
  have hp:(oth sx (oth sx f)).Pairwise (· < ·):=by
    unfold oth
    refine List.Pairwise.map _ ?_ (List.Pairwise.filter _ List.pairwise_lt_range)
    intro a b h; omega
  have hm:∀ x,x∈oth sx (oth sx f)↔x∈f:=fun x=>by
    have one:∀ (g:List Int) (x:Int),x∈oth sx g↔(∃ i:Nat,i<sx.length∧x=(i:Int))∧x ∉ g:=fun g x=>by
      unfold oth
      rw [List.mem_map]
      constructor
      · rintro ⟨i,hi,rfl⟩
        have:=List.mem_filter.1 hi
        refine ⟨⟨i,List.mem_range.1 this.1,rfl⟩,fun c=>?_⟩
        have h2:=this.2
        rw [hasB_iff'.2 c] at h2; cases h2
      · rintro ⟨⟨i,hi,rfl⟩,hn⟩
        refine ⟨i,List.mem_filter.2 ⟨List.mem_range.2 hi,?_⟩,rfl⟩
        cases e:hasB g (i:Int) with
        | false=>rfl
        | true=>exact absurd (hasB_iff'.1 e) hn
    rw [one,one]
    constructor
    · rintro ⟨⟨i,hi,rfl⟩,hn⟩
      exact Classical.byContradiction fun c=>hn ⟨⟨i,hi,rfl⟩,c⟩
    · intro hx
      have:=h1 x hx
      exact ⟨⟨x.toNat,by omega,by omega⟩,fun c=>c.2 hx⟩
  have n1:(oth sx (oth sx f)).Nodup:=hp.imp fun h=>by omega
  have n2:f.Nodup:=h2.imp fun h=>by omega
  exact List.Perm.eq_of_pairwise (le:=(· < ·)) (fun x y _ _ a b=>by omega) hp h2 ((List.perm_ext_iff_of_nodup n1 n2).2 hm)
def cOk (sx:List Variable) (l:List Edit) (f vs:List Int):Bool:=(maxOk sx l&&risOk sx.length f)&&fitOk sx vs
def cB (sx:List Variable) (l:List Edit) (f vs:List Int):Bool:=cOk sx l f vs&&compl sx l vs (oth sx f)
def cR (sx:List Variable) (l:List Edit) (f vs:List Int):List Int:=if cOk sx l f vs then fc sx l vs (oth sx f) else []
section
variable {sx:List Variable} {l:List Edit} {f vs:List Int}
theorem cOk_of (h:cOk sx l f vs=true):maxOk sx l=true∧risOk sx.length f=true∧fitOk sx vs=true:=by
  unfold cOk at h; simp only [Bool.and_eq_true] at h; exact ⟨h.1.1,h.1.2,h.2⟩
theorem len1 (h:maxOk sx l=true):1≤sx.length:=by
  unfold maxOk at h; simp only [Bool.and_eq_true] at h; exact (smOk_of h.1).2.2
theorem fc_ne (h:maxOk sx l=true):(!(ln (fc sx l vs (oth sx f))==0))=compl sx l vs (oth sx f):=by
  have ⟨hL,_,_⟩:=maxOk_of h
  cases e:compl sx l vs (oth sx f) with
  | true =>
    have:=(pass_in hL (fc_in e).1).2.2.1
    have h1:=len1 h
    unfold ln; simp only [Bool.not_eq_true',beq_eq_false_iff_ne]; omega
  | false =>
    have:fc sx l vs (oth sx f)=[]:=by
      unfold fc
      cases e2:(List.range (cnt sx)).find? (fun i => !failsB l (vals sx i)&&agree sx (oth sx f) vs (vals sx i)) with
      | none=>rfl
      | some i =>
        exfalso
        have h1:=List.find?_some e2
        have h2:=List.mem_of_find?_eq_some e2
        simp only [Bool.and_eq_true] at h1
        have:compl sx l vs (oth sx f)=true:=List.any_eq_true.2 ⟨vals sx i,List.mem_map.2 ⟨i,List.mem_filter.2 ⟨h2,h1.1⟩,rfl⟩,h1.2⟩
        rw [this] at e; cases e
    rw [this]; rfl
theorem iGuard {A B:Prop} {f:List Int} (hW:Wide sx l) (hf:f.length≤1048576) {k:Bool→Prop} (hk:k (!cOk sx l f vs)):impl_isSmall sx fun r20=>br (!r20) (k true)<|impl_areEdits sx l fun r23=>br (!r23) (k true)<|impl_areVars sx f fun r29=>br (!r29) (k true)<|impl_areValues sx vs fun r37=>k (!r37):=by
  refine isSmall_ok hW.1.1 (br_nb (fun g=>?_) (fun g=>areEdits_ok (smOk_of g).1 hW.2.2 (br_nb (fun g1=>?_) (fun g1=>areVars_ok hf hW.1.1 (br_nb (fun g2=>?_) (fun g2=>areValues_ok (smOk_of g).1 ?_))))))
  · unfold cOk maxOk at hk; rw [g] at hk; simpa using hk
  · unfold cOk maxOk at hk; rw [g1] at hk; simpa using hk
  · unfold cOk at hk; rw [g2] at hk; simpa using hk
  · unfold cOk maxOk at hk; rw [g,g1,g2] at hk; simpa using hk
theorem iCompletion_ok {Q:List Int→Bool→Prop} (hW:Wide sx l) (hf:f.length≤1048576) (hq:Q (cR sx l f vs) (cB sx l f vs)):impl_CompletionOf sx l f vs Q:=by
  unfold impl_CompletionOf
  refine jn_bool (!cOk sx l f vs) (br_nb (fun g=>?_) (fun g=>?_)) fun k hk=>iGuard (A:=True) (B:=True) hW hf hk
  · unfold cR cB at hq; rw [g] at hq; exact hq
  · have ⟨g1,g2,g3⟩:=cOk_of g
    have ⟨hL,_,he⟩:=maxOk_of g1
    have key:impl_completionOf sx l (oth sx (oth sx f)) vs fun r46=>Q r46 (!(ln r46==0)):=completionOf_eq hL (len1 g1) he (fit_len g3) (by
      rw [fc_ne g1]; unfold cR cB at hq; rw [g,if_pos rfl,Bool.true_and] at hq; exact hq)
    rw [oth_oth g2] at key
    exact key
theorem iCan_ok {Q:Bool→Bool→Prop} (hW:Wide sx l) (hf:f.length≤1048576) (hq:Q (cB sx l f vs) (cOk sx l f vs)):impl_CanComplete sx l f vs Q:=by
  unfold impl_CanComplete
  refine jn_bool (!cOk sx l f vs) (br_nb (fun g=>?_) (fun g=>?_)) fun k hk=>iGuard (A:=True) (B:=True) hW hf hk
  · unfold cB at hq; rw [g] at hq; exact hq
  · have ⟨g1,g2,g3⟩:=cOk_of g
    have ⟨hL,_,he⟩:=maxOk_of g1
    have key:impl_completionOf sx l (oth sx (oth sx f)) vs fun r46=>Q (!(ln r46==0)) true:=completionOf_eq hL (len1 g1) he (fit_len g3) (by
      rw [fc_ne g1]; unfold cB at hq; rw [g,Bool.true_and] at hq; exact hq)
    rw [oth_oth g2] at key
    exact key
theorem sCompletion_ok {Q:List Int→Bool→Prop} (hW:Wide sx l) (hf:f.length≤1048576) (hq:Q (cR sx l f vs) (cB sx l f vs)):spec_CompletionOf sx l f vs Q:=by
  unfold spec_CompletionOf spec_eAsked
  refine jn_bool (cOk sx l f vs) (br_nb (fun g=>?_) (fun g=>?_)) fun k hk=>eSmall_ok hW.1.1 hW.1.2 hW.2.1 hW.2.2 (br_bo (fun g=>rising_ok hf hW.1.1 (br_bo (fun g2=>sFits_ok (maxOk_of g).1 ?_) (fun g2=>?_))) (fun g=>?_))
  · unfold cR cB at hq; rw [g] at hq; exact hq
  · have ⟨g1,g2,g3⟩:=cOk_of g
    have ⟨hL,_,he⟩:=maxOk_of g1
    have key:spec_eComplete sx l (oth sx (oth sx f)) vs Q:=eComplete_eq hL he (fit_len g3) (by
      unfold cR cB at hq; rw [g,if_pos rfl,Bool.true_and] at hq; exact hq)
    rw [oth_oth g2] at key
    exact key
  · unfold cOk at hk; rw [show maxOk sx l=true from g,g2,Bool.true_and,Bool.true_and] at hk; exact hk
  · unfold cOk at hk; rw [g2,Bool.and_false,Bool.false_and] at hk; exact hk
  · unfold cOk at hk; rw [show maxOk sx l=false from g,Bool.false_and,Bool.false_and] at hk; exact hk
theorem containsB_ok {l:List Bool} {v:Bool} {Q:Bool→Prop} (hl:l.length≤1048576) (hm:v∈l) (hq:Q true):slices_Contains_bool_bool l v Q:=by
  unfold slices_Contains_bool_bool slices_Index_bool_bool
  refine loop1_list (by omega) (fun i=>(l.take i).any (fun x=>x==v)=false) (by simp) (fun i nx hi hj hx=>idx_at hi ?_) (fun hj=>?_)
  · by_cases g:v=l[i]
    · exact br_true (by simpa using g) (by show Q (decide ((i:Int)≥0)); rw [decide_eq_true (by omega)]; exact hq)
    · exact br_false (by simpa using g) (hx (lany_no hi hj (by simpa using Ne.symm g)))
  · rw [List.take_length,List.any_eq_false] at hj
    exact absurd (by simp) (hj v hm)
theorem iContra_ok {Q:Bool→Bool→Prop} {c:List Int} (hW:Wide sx l) (hm:maxOk sx l=true) (hc:c∈pass sx l) (hq:Q false true):impl_IsContradictory sx l Q:=by
  unfold impl_IsContradictory
  have ⟨hL,hcn,he⟩:=maxOk_of hm
  have hm':=hm
  unfold maxOk at hm'
  simp only [Bool.and_eq_true] at hm'
  refine jn_bool false (br_false rfl (failing_ok hL he (containsB_ok (by unfold in0; simp; omega) ?_ hq))) fun k hk=>isSmall_ok hW.1.1 ?_
  · obtain ⟨i,hi,rfl⟩:=List.mem_map.1 hc
    have:=List.mem_filter.1 hi
    exact List.mem_map.2 ⟨i,this.1,by simpa using this.2⟩
  · rw [hm'.1]
    refine br_false rfl (areEdits_ok hL hW.2.2 ?_)
    rw [hm'.2]; exact hk
end
theorem jn_prop {f:Prop→Prop} {k:Prop} (h:k) (hf:∀ K:Prop,K→f K):jn f k:=hf k h
theorem lawCompletions (code more:List B8) (w0:Wf.wf code) (w1:Wf.wf more):laws_FnCompletions code more (fun r=>r=true):=by
  unfold laws_FnCompletions
  refine big_ok fun b=>br_bo (fun _=>rfl) (fun _=>?_)
  unfold spec_DrawCompletionOf
  refine drawCan_ok w0.2 fun sx l f vs hs hl hf=>?_
  have hW:=wide_of hs hl
  refine iCompletion_ok hW (by omega) (sCompletion_ok hW (by omega) (iCan_ok hW (by omega) ?_))
  have hlen:(cR sx l f vs).length≤1048576:=by
    unfold cR
    split
    · rename_i g
      have ⟨g1,_,_⟩:=cOk_of g
      have ⟨hL,_,_⟩:=maxOk_of g1
      have h6:=hL.1
      unfold fc
      split
      · rw [vals_length]; omega
      · simp
    · simp
  refine jn_bool false ?_ fun k hk=>br_false (by simp) (sameInts_same hlen (br_false rfl (br_bo (fun g=>?_) (fun _=>hk))))
  · refine br_false rfl (jn_prop ?_ fun K hK=>br_bo (fun g=>?_) (fun _=>hK))
    · unfold spec_DrawWithoutContained
      refine countPassing_ok w1.2 fun sx2 l2 hs2 hl2=>?_
      have hW2:=wide_of hs2 hl2
      have fin:spec_DrawEditsOnly more fun r263 r264 r265=>impl_EditsOnly r263 r264 r265 fun r293 r294=>spec_EditsOnly r263 r264 r265 fun r304 r305 =>
          jn (fun (k329:Bool→Prop)=>br (r294==r305) (laws_pSameEdits r293 r304 fun r332=>k329 r332)<|k329 false)<|fun (x326:Bool)=>x326=true:=by
        refine drawOnly_ok w1.2 fun sx3 l3 f3 hs3 hl3 hf3=>?_
        have hW3:=wide_of hs3 hl3
        refine iOnly_ok hW3 (by omega) (sOnly_ok hW3 (by omega) ?_)
        refine jn_bool true rfl fun k hk=>br_true (by simp) (pSameEdits_same ?_ hk)
        exact eoR_len
      refine iWithout_ok hW2 (fun g=>sWithout_ok hW2 (fun _=>?_) (fun g2=>absurd g2 (by rw [g]; decide))) (fun g o ho=>sWithout_ok hW2 (fun g2=>absurd g (by rw [g2]; decide)) (fun _ o2 ho2=>?_))
      · exact jn_bool false (br_false rfl fin) fun k hk=>br_false (by simp) (pSameEdits_same ⟨by simp,fun e he=>by cases he⟩ (by simpa using hk))
      · have:o=o2:=srt_uniq ho.srt ho2.srt fun x=>by rw [ho.mem,ho2.mem]
        subst this
        refine jn_bool false (br_false rfl fin) fun k hk=>br_false (by simp) (pSameEdits_same ⟨by have:=ho.len; have:=hl2.1; omega,fun e he=>?_⟩ (by simpa using hk))
        have:=hl2.2 e ((ho.mem e).1 he).1
        omega
    · have gg:=g
      unfold cB at gg
      simp only [Bool.and_eq_true] at gg
      have ⟨g1,g2,g3⟩:=cOk_of gg.1
      have ⟨hL,_,_⟩:=maxOk_of g1
      have hR:cR sx l f vs=fc sx l vs (oth sx f):=by unfold cR; rw [gg.1,if_pos rfl]
      have ⟨p1,p2⟩:=fc_in gg.2
      have ⟨q1,q2,q3,q4⟩:=pass_in hL p1
      rw [hR]
      have hris:=ris_of g2
      have hvl:=fit_len g3
      unfold agree at p2
      rw [oth_oth g2] at p2
      have hag:=List.all_eq_true.1 p2
      refine loop1_list (by omega) (fun _=>True) trivial (fun i nx hi _ hx=>idx_at hi ?_) (fun _=>?_)
      · have h1:=hris.1 _ (List.getElem_mem hi)
        have h2:=hag _ (List.getElem_mem hi)
        simp only [beq_iff_eq] at h2
        rw [gi_at (show f[i].toNat<(fc sx l vs (oth sx f)).length by omega),gi_at (show f[i].toNat<vs.length by omega)] at h2
        exact idx_of h1.1 (by omega) (idx_of h1.1 (by omega) (br_ne (fun c=>absurd h2 c) (fun _=>hx trivial)))
      · refine failedEdits_ok hW g1 q1 q4 fun o ho=>iContra_ok hW g1 p1 ?_
        exact jn_bool false (br_false rfl hK) fun k hk=>br_false rfl (br_false (by simp [ho]) (br_false rfl hk))
  · simpa using hk
end Go.Proofs.YtbgnaamdlcggjaaGreat
