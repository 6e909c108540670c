/- What is left out of lists of edits: both programs; completions at any rising list. -/
import Derived.Test.YtbgnaamdlcggjaaGreatJB
set_option linter.unusedVariables false
set_option autoImplicit false
namespace Go.Proofs.YtbgnaamdlcggjaaGreat
open Go Go.RowKit Go.Gv
def insP (e f:Edit):Bool := !decide (e.Sets=f.Sets)&&ctn f e
def insB (l:List Edit) (e:Edit):Bool:=l.any (insP e)
/-- What is left. -/
structure Left (l o:List Edit):Prop where
  srt:o.Pairwise elt
  mem:∀ x,x∈o↔x∈l∧insB l x=false
  len:o.length≤l.length
theorem take_mem {l:List Edit} {i:Nat} (hi:i<l.length) (x:Edit):x∈l.take (i+1)↔x∈l.take i∨x=l[i]:=by
  rw [List.take_add_one,List.getElem?_eq_getElem hi,List.mem_append]; simp
theorem eWithout_ok {l:List Edit} {n:Nat} {Q:List Edit→Prop} (hl:l.length≤40) (hn:n≤100) (he:∀ f∈l,f.Sets.length=n) (hq:∀ o,Left l o→Q o):spec_eWithout l Q:=by
  unfold spec_eWithout
  refine loop2_list (by omega) (fun o i=>o.Pairwise elt∧(∀ x,x∈o↔x∈l.take i∧insB l x=false)∧o.length≤i) ⟨List.Pairwise.nil,by simp,by simp⟩ (fun o i nx hi ⟨h1,h2,h3⟩ hx=>?_) (fun o ⟨h1,h2,h3⟩=>hq o ⟨h1,by simpa using h2,h3⟩)
  refine jn_ok (fun k=>∀ o',(o'.Pairwise elt∧(∀ x,x∈o'↔x∈l.take (i+1)∧insB l x=false)∧o'.length≤i+1)→k o') (fun o' ho=>hx o' ho) fun k hk=>idx_at hi ?_
  have hei:=he _ (List.getElem_mem hi)
  refine loop2_list (by omega) (fun b j=>b=(l.take j).any (insP l[i])) (by simp) (fun b j nx2 hj hb hx2=>?_) (fun b hb=>?_)
  · have hej:=he _ (List.getElem_mem hj)
    refine jn_bool ((l.take (j+1)).any (insP l[i])) (hx2 _ rfl) fun K hK=>idx_at hj ?_
    rw [lany_succ hj,← hb] at hK
    refine br_bo (fun g=>?_) (fun g=>l1Same_ok (by omega) (br_nb (fun g2=>sContains_ok (f:=l[j]) (e:=l[i]) (by omega) (by omega) ?_) (fun g2=>?_)))
    · rw [g,Bool.true_or] at hK; exact hK
    · rw [g,Bool.false_or] at hK; unfold insP at hK; rw [g2] at hK; exact hK
    · rw [g,Bool.false_or] at hK; unfold insP at hK; rw [g2] at hK; exact hK
  · rw [List.take_length] at hb
    have hb':insB l l[i]=b:=hb.symm
    refine br_nb (fun g=>?_) (fun g=>?_)
    · have hsl:∀ f∈o,f.Sets.length≤1048576:=fun f hf=>by have:=he _ (((h2 f).1 hf).1 |> List.mem_of_mem_take); omega
      refine eAdd_ok (e:=l[i]) (by omega) hsl (by omega) h1 fun o' p1 p2 p3=>hk o' ⟨p1,fun x=>?_,by omega⟩
      rw [p2,h2,take_mem hi]
      constructor
      · rintro (rfl | ⟨h,h'⟩)
        · exact ⟨.inr rfl,by rw [hb',g]⟩
        · exact ⟨.inl h,h'⟩
      · rintro ⟨h | h,h'⟩
        · exact .inr ⟨h,h'⟩
        · exact .inl h
    · refine hk o ⟨h1,fun x=>?_,by omega⟩
      rw [h2,take_mem hi]
      constructor
      · rintro ⟨h,h'⟩; exact ⟨.inl h,h'⟩
      · rintro ⟨h | rfl,h'⟩
        · exact ⟨h,h'⟩
        · rw [hb',g] at h'; cases h'
theorem compareEdits_ok {e f:Edit} {Q:Int→Prop} (he:e.Sets.length≤1048576) (hq:Q (cmpL e.Sets f.Sets)):impl_compareEdits e f Q:=by
  unfold impl_compareEdits
  exact sCompare_ok he hq
theorem srtE_ok {o:List Edit} {Q:List Edit→Prop} (hl:o.length≤1048576) (hs:∀ f∈o,f.Sets.length≤1048576) (hn:o.Nodup) (hq:∀ ys:List Edit,ys.Pairwise elt→ys.Perm o→Q ys):sortq (fun x y K=>impl_compareEdits x y K) o Q:=by
  refine ⟨fun e=>e.Sets.length≤1048576,fun e f=>cmpL e.Sets f.Sets,hs,fun x y hx _=>compareEdits_ok hx rfl,⟨fun x _=>?_,fun x y z _ _ _ h1 h2=>cmpL_trans h1 h2,fun x y z _ _ _ h1 h2 h3=>?_⟩,by omega,fun ys hp hsrt=>?_⟩
  · rw [cmpL_self]; omega
  · by_cases e:x=y
    · subst e; exact h2 h3
    · exact h2 (cmpL_trans (elt_tri h1 e) h3)
  · have hn2:ys.Nodup:=(hp.nodup_iff).2 hn
    refine hq ys ((hsrt.and hn2).imp fun ⟨h1,h2⟩=>elt_tri h1 (Ne.symm h2)) hp
def dupB (l:List Edit) (i:Nat) (e:Edit):Bool:=(l.take i).any fun f=>decide (e.Sets=f.Sets)
theorem iWithoutLoop {l:List Edit} {n:Nat} {Q:List Edit→Prop} (hl:l.length≤40) (hn:n≤100) (he:∀ f∈l,f.Sets.length=n∧Sok f.Sets) (hq:∀ o,o.Nodup→(∀ x,x∈o↔x∈l∧insB l x=false)→o.length≤l.length→Q o) :
    Loop2 (fun (out:List Edit) (x21:Int) nx =>
  br (decide (x21<(ln l))) (jn (fun (k42:(List Edit)→Prop)=>idx l x21 fun x44 =>
  Loop2 (fun (kept:Bool) (x64:Int) nx70 =>
  br (decide (x64<(ln l))) (jn (fun (k81:Bool→Prop)=>idx l x64 fun x83 =>
  impl_compareEdits ((Edit.mk x44.Sets)) ((Edit.mk x83.Sets)) fun r111 =>
  jn (fun (k126:Bool→Prop)=>br (r111==0) (br (decide (x64<x21)) (k126 true) <|
  br (!(r111==0)) (impl_contains ((Edit.mk x83.Sets)) ((Edit.mk x44.Sets)) fun r131 =>
  k126 r131) <|
  k126 false) <|
  br (!(r111==0)) (impl_contains ((Edit.mk x83.Sets)) ((Edit.mk x44.Sets)) fun r135 =>
  k126 r135) <|
  k126 false) <|
  fun (x123:Bool) =>
  br (x123) (k81 false) <|
  k81 kept) <|
  fun (kept78:Bool) =>
  nx70 kept78 (wr (x64+1))) <|
  br (kept) (slices_Clone_int_int x44.Sets fun r147 =>
  (ln out+ln ([((Edit.mk r147):Edit)])) * 24≤140737488355328∧(
  k42 (out++([((Edit.mk r147):Edit)])))) <|
  k42 out) true 0) <|
  fun (out32:List Edit) =>
  nx out32 (wr (x21+1)))<|Q out) ([]) 0:=by
  refine loop2_list (by omega) (fun o i=>o.Nodup∧(∀ x,x∈o↔x∈l.take i∧insB l x=false)∧o.length≤i) ⟨List.nodup_nil,by simp,by simp⟩ (fun o i nx hi ⟨h1,h2,h3⟩ hx=>?_) (fun o ⟨h1,h2,h3⟩=>hq o h1 (by simpa using h2) h3)
  refine jn_ok (fun k=>∀ o':List Edit,(o'.Nodup∧(∀ x,x∈o'↔x∈l.take (i+1)∧insB l x=false)∧o'.length≤i+1)→k o') (fun o' ho=>hx o' ho) fun k hk=>idx_at hi ?_
  have hei:=he _ (List.getElem_mem hi)
  refine loop2_list (by omega) (fun b j=>b=!((l.take j).any (insP l[i]) || dupB l (min j i) l[i])) (by simp [dupB]) (fun b j nx2 hj hb hx2=>?_) (fun b hb=>?_)
  · have hej:=he _ (List.getElem_mem hj)
    refine jn_bool (!((l.take (j+1)).any (insP l[i]) || dupB l (min (j+1) i) l[i])) (hx2 _ rfl) fun K hK=>idx_at hj (compareEdits_ok (e:=l[i]) (by show l[i].Sets.length≤_; omega) ?_)
    rw [lany_succ hj] at hK
    have hs:(cmpL (Edit.mk l[i].Sets).Sets (Edit.mk l[j].Sets).Sets==0)=decide (l[i].Sets=l[j].Sets):=by
      rw [Bool.eq_iff_iff]; simp only [beq_iff_eq,decide_eq_true_eq]
      exact ⟨cmpL_zero,fun h=>by rw [h,cmpL_self]⟩
    rw [hs]
    have hd:dupB l (min (j+1) i) l[i]=(dupB l (min j i) l[i] || (decide (l[i].Sets=l[j].Sets)&&decide (j<i))):=by
      by_cases g:j<i
      · rw [Nat.min_eq_left (by omega),Nat.min_eq_left (by omega),decide_eq_true g,Bool.and_true]; unfold dupB; rw [lany_succ hj]
      · rw [Nat.min_eq_right (by omega),Nat.min_eq_right (by omega),decide_eq_false g,Bool.and_false,Bool.or_false]
    rw [hd] at hK
    have hins:insP l[i] l[j]=(!decide (l[i].Sets=l[j].Sets)&&ctn l[j] l[i]):=rfl
    refine jn_bool ((decide (l[i].Sets=l[j].Sets)&&decide (j<i)) || insP l[i] l[j]) (br_bo (fun g=>?_) (fun g=>?_)) fun k2 hk2=>br_bo (fun g=>?_) (fun g=>?_)
    · rw [hb] at *
      have:(!((List.take j l).any (insP l[i]) || insP l[i] l[j] || (dupB l (min j i) l[i] || decide (l[i].Sets=l[j].Sets)&&decide (j<i))))=false:=by
        cases e1:(decide (l[i].Sets=l[j].Sets)&&decide (j<i)) <;> cases e2:insP l[i] l[j] <;> rw [e1,e2] at g <;> simp at g ⊢
      rw [this] at hK; exact hK
    · rw [Bool.or_eq_false_iff] at g
      rw [g.1,g.2,Bool.or_false,Bool.or_false,← hb] at hK; exact hK
    · rw [hins,g,Bool.true_and,Bool.not_true,Bool.false_and,Bool.or_false] at hk2
      refine br_dec (fun g2=>?_) (fun g2=>br_false (by rw [g]; rfl) ?_)
      · rw [decide_eq_true (by omega)] at hk2; exact hk2
      · rw [decide_eq_false (by omega)] at hk2; exact hk2
    · rw [hins,g,Bool.false_and,Bool.not_false,Bool.false_or,Bool.true_and] at hk2
      exact br_true (by rw [g]; rfl) (iContains_ok (f:=l[j]) (e:=l[i]) hej.2 hei.2 (by omega) (by omega) hk2)
  · rw [List.take_length,Nat.min_eq_right (by omega)] at hb
    have hb':b=!(insB l l[i] || dupB l i l[i]):=hb
    refine br_bo (fun g=>Clone_ok (by omega) ⟨by unfold ln; simp; omega,hk _ ?_⟩) (fun g=>hk o ⟨h1,fun x=>?_,by omega⟩)
    · rw [show (Edit.mk l[i].Sets)=l[i] from rfl]
      rw [hb',Bool.not_eq_true',Bool.or_eq_false_iff] at g
      have hnot:l[i] ∉ l.take i:=fun h=>by
        have:=List.any_eq_false.1 g.2 _ h
        simp at this
      refine ⟨?_,fun x=>?_,by simp; omega⟩
      · rw [List.nodup_append]
        refine ⟨h1,by simp,fun a ha c hc=>?_⟩
        rw [List.mem_singleton.1 hc]
        rintro rfl
        exact hnot ((h2 _).1 ha).1
      · rw [List.mem_append,List.mem_singleton,h2,take_mem hi]
        constructor
        · rintro (⟨h,h'⟩ | rfl)
          · exact ⟨.inl h,h'⟩
          · exact ⟨.inr rfl,g.1⟩
        · rintro ⟨h | h,h'⟩
          · exact .inl ⟨h,h'⟩
          · exact .inr h
    · rw [h2,take_mem hi]
      rw [hb',Bool.not_eq_false',Bool.or_eq_true] at g
      constructor
      · rintro ⟨h,h'⟩; exact ⟨.inl h,h'⟩
      · rintro ⟨h | rfl,h'⟩
        · exact ⟨h,h'⟩
        · rcases g with g | g
          · rw [g] at h'; cases h'
          · obtain ⟨f,hf,e⟩:=List.any_eq_true.1 g
            have:l[i]=f:=by
              have:=of_decide_eq_true e
              exact ed_eq (by rw [this,cmpL_self])
            exact ⟨this ▸ hf,h'⟩
theorem eok_len {sx:List Variable} {l:List Edit} (h:maxOk sx l=true):l.length≤40∧∀ f∈l,f.Sets.length=sx.length∧Sok f.Sets:=by
  have ⟨hL,_,he⟩:=maxOk_of h
  unfold maxOk lOk at h
  simp only [Bool.and_eq_true,decide_eq_true_eq] at h
  exact ⟨h.2.1,fun f hf=>⟨(eOk_of (List.all_eq_true.1 h.2.2 f hf)).1,(he.2 f hf).1⟩⟩
theorem sWithout_ok {sx:List Variable} {l:List Edit} {Q:List Edit→Bool→Prop} (hW:Wide sx l) (hno:maxOk sx l=false→Q [] false) (hq:maxOk sx l=true→∀ o,Left l o→Q o true):spec_WithoutContained sx l Q:=by
  unfold spec_WithoutContained
  refine eSmall_ok hW.1.1 hW.1.2 hW.2.1 hW.2.2 (br_nb (fun g=>hno g) (fun g=>?_))
  have ⟨h40,he⟩:=eok_len g
  have ⟨hL,_,_⟩:=maxOk_of g
  have h6:=hL.1
  exact eWithout_ok (n:=sx.length) h40 (by omega) (fun f hf=>(he f hf).1) fun o ho=>hq g o ho
theorem iWithout_ok {sx:List Variable} {l:List Edit} {Q:List Edit→Bool→Prop} (hW:Wide sx l) (hno:maxOk sx l=false→Q [] false) (hq:maxOk sx l=true→∀ o,Left l o→Q o true):impl_WithoutContained sx l Q:=by
  unfold impl_WithoutContained
  refine jn_bool (!maxOk sx l) (br_nb (fun g=>hno g) (fun g=>?_)) fun k hk=>isSmall_ok hW.1.1 (br_nb (fun g=>?_) (fun g=>areEdits_ok (smOk_of g).1 hW.2.2 ?_))
  · have ⟨h40,he⟩:=eok_len g
    have ⟨hL,_,_⟩:=maxOk_of g
    have h6:=hL.1
    refine iWithoutLoop (n:=sx.length) h40 (by omega) he fun o h1 h2 h3=>?_
    refine srtE_ok (by omega) (fun f hf=>by have:=(he f ((h2 f).1 hf).1).1; omega) h1 fun ys p1 p2=>hq g ys ⟨p1,fun x=>by rw [p2.mem_iff,h2],by rw [p2.length_eq]; exact h3⟩
  · unfold maxOk at hk; rw [g,Bool.false_and] at hk; exact hk
  · unfold maxOk at hk; rw [g,Bool.true_and] at hk; exact hk
end Go.Proofs.YtbgnaamdlcggjaaGreat
