/- What contains what; lists in order; what is left out. -/
import Derived.Test.YtbgnaamdlcggjaaGreatJA
set_option linter.unusedVariables false
set_option autoImplicit false
namespace Go.Proofs.YtbgnaamdlcggjaaGreat
open Go Go.RowKit Go.Gv
theorem values_ok {code:List B8} {sx:List Variable} {a s:Int} {Q:List Int→Int→Int→Prop} (hc:bytesOk code) (hl:sx.length≤7) (ha:0≤a∧a≤900000000000) (h:∀ l a' s',l.length=sx.length→0≤a'→a'≤a+14→Q l a' s'):spec_l1Cur_values ⟨code,a,s⟩ sx Q:=by
  unfold spec_l1Cur_values
  dsimp only
  refine ⟨fun o x at1 _=>∃ n:Nat,x=(n:Int)∧n≤sx.length∧o.length=n∧0≤at1∧at1≤a+2 * (n:Int),fun _ x _ _=>((sx.length:Int)-x).toNat,⟨0,rfl,Nat.zero_le _,rfl,ha.1,by omega⟩,?_⟩
  rintro o _ at1 s1 ⟨n,rfl,hn,hlo,h0,h1⟩
  refine br_dec (fun g=>?_) (fun g=>h _ _ _ (by unfold ln at g; omega) h0 (by omega))
  unfold ln at g
  refine idx_at (by omega) (pick_ok hc (by unfold atOk; omega) fun r a1 s2 _ _ _ k2 k3=>⟨by unfold ln; simp only [List.length_singleton]; omega,?_⟩)
  rw [wr_in (by omega) (by omega)]
  exact ⟨⟨n+1,by omega,by omega,by simp; omega,k2,by omega⟩,by dsimp only; omega⟩
theorem anyValues_ok {code:List B8} {sx:List Variable} {a s:Int} {Q:List Int→Int→Int→Prop} (hc:bytesOk code) (hl:sx.length≤7) (ha:0≤a∧a≤800000000000) (h:∀ l a' s',l.length≤8→Q l a' s'):spec_l1Cur_anyValues ⟨code,a,s⟩ sx Q:=by
  unfold spec_l1Cur_anyValues
  dsimp only
  refine values_ok hc hl (by omega) fun l a1 s1 hll h0 h1=>?_
  refine jn_of (jn_ok (fun k=>(0<l.length→∀ a' s',0≤a'→a'≤a1+2→k true a' s')∧∀ a' s',0≤a'→a'≤a1+2→k false a' s') ⟨fun hp a' s' g0 g1=>br_true rfl ?_,fun a' s' g0 g1=>br_false rfl ?_⟩ fun k hk=>?_)
  · refine pick_ok hc (by unfold atOk; omega) fun r a2 s2 q0 q1 _ q2 q3=>among_ok hc (by unfold atOk; omega) (by simp) fun v hv a3 s3 _ _=>⟨q0,by unfold ln at q1; omega,h _ _ _ (by rw [List.length_set]; omega)⟩
  · refine one_ok hc (by unfold atOk; omega) fun b a2 s2 _ _=>br_bo (fun _=>⟨by unfold ln; simp only [List.length_singleton]; omega,h _ _ _ (by simp; omega)⟩) (fun _=>h _ _ _ (by omega))
  · refine br_dec (fun g=>one_ok hc (by unfold atOk; omega) fun b a2 s2 j0 j1=>?_) (fun g=>hk.2 _ _ h0 (by omega))
    cases b with
    | true=>exact hk.1 (by unfold ln at g; omega) _ _ j0 j1
    | false=>exact hk.2 _ _ j0 j1
theorem wide_of {sx:List Variable} {l:List Edit} (hs:sdOk sx) (hl:edOk l):Wide sx l:=⟨hs.wide,⟨by have:=hl.1; omega,fun e he=>by have:=hl.2 e he; omega⟩⟩
theorem vals_fitOk {sx:List Variable} (hL:Lok sx) (i:Nat):fitOk sx (vals sx i)=true:=by
  unfold fitOk
  simp only [Bool.and_eq_true,decide_eq_true_eq]
  refine ⟨vals_length sx i,List.all_eq_true.2 fun j hj=>?_⟩
  have hj:=List.mem_range.1 hj
  have h1:=vals_fit hL i j hj
  have h2:=(lv_at hL hj).1
  rw [vAt_at hj] at h1 ⊢
  rw [inb_iff']; omega
theorem pass_in {sx:List Variable} {l:List Edit} {x:List Int} (hL:Lok sx) (hx:x∈pass sx l):fitOk sx x=true∧Vok x∧x.length=sx.length∧failsB l x=false:=by
  obtain ⟨i,hi,rfl⟩:=List.mem_map.1 hx
  have h:=(List.mem_filter.1 hi).2
  exact ⟨vals_fitOk hL i,vals_ok i hL.2,vals_length sx i,by simpa using h⟩
theorem fit_vok {sx:List Variable} {vs:List Int} (hL:Lok sx) (hf:fitOk sx vs=true):Vok vs:=fun x hx=>by
  unfold fitOk at hf; simp only [Bool.and_eq_true,decide_eq_true_eq] at hf
  obtain ⟨i,hi,rfl⟩:=List.mem_iff_getElem.1 hx
  have h1:=inb_iff'.1 (range_all_at hf.2 (show i<sx.length by omega))
  rw [gi_at hi,vAt_at (by omega)] at h1
  have:=lv_at hL (show i<sx.length by omega)
  omega
theorem failedEdits_ok {sx:List Variable} {l:List Edit} {y:List Int} {Q:List Int→Bool→Prop} (hW:Wide sx l) (hm:maxOk sx l=true) (hf:fitOk sx y=true) (hx:failsB l y=false) (hq:∀ o:List Int,o.length=0→Q o true):impl_FailedEdits sx l y Q:=by
  have ⟨hL,_,he⟩:=maxOk_of hm
  have h6:=hL.1
  have hyl:=fit_len hf
  have hyo:=fit_vok hL hf
  have hm':=hm
  unfold maxOk smOk at hm'
  simp only [Bool.and_eq_true] at hm'
  have hE:=he.1
  unfold impl_FailedEdits
  refine jn_bool false ?_ fun k hk=>IsSchema_ok hW.1.1 ?_
  · refine br_false rfl (loop2_list (by omega) (fun o i=>o.length=0) rfl ?_ ?_)
    · intro o i nx hi ho hx2
      refine jn_bool o (hx2 _ ho) fun k hk=>idx_at hi (fails_ok (he.2 _ (List.getElem_mem hi)).1 hyo (by have:=(he.2 _ (List.getElem_mem hi)).2; show y.length≤l[i].Sets.length; omega) (by omega) ?_)
      have:boxIn l[i].Sets y=false:=by
        cases e:boxIn l[i].Sets y with
        | false=>rfl
        | true=>have:=lany_yes (p:=fun e=>boxIn e.Sets y) hi e; unfold failsB at hx; rw [hx] at this; cases this
      have this':boxIn (Edit.mk l[i].Sets).Sets y=false:=this
      rw [this']
      exact br_false rfl hk
    · intro o ho; exact hq o ho
  · rw [hm'.1.1]
    refine br_false rfl (areEdits_ok hL hW.2.2 ?_)
    rw [hm'.2]
    refine br_false rfl (areValues_ok hL ?_)
    rw [hf]; exact hk
theorem sg_zero {x y:Int}:sg x y=0↔x=y:=by unfold sg; split <;> (try split) <;> omega
theorem sg_neg (x y:Int):sg x y = -sg y x:=by unfold sg; split <;> split <;> (try split) <;> omega
theorem cmpL_swap:∀ a b:List Int,cmpL a b = -cmpL b a
  | [],[]=>rfl
  | [],_ :: _=>rfl
  | _ :: _,[]=>rfl
  | a :: l,b :: m=>by
    unfold cmpL
    rw [sg_neg a b,cmpL_swap l m]
    by_cases h:sg b a=0
    · rw [if_neg (by omega),if_neg (by omega)]
    · rw [if_pos (by omega),if_pos (by omega)]
theorem cmpL_zero:∀ {a b:List Int},cmpL a b=0→a=b
  | [],[],_=>rfl
  | [],_ :: _,h=>by simp [cmpL] at h
  | _ :: _,[],h=>by simp [cmpL] at h
  | a :: l,b :: m,h=>by
    unfold cmpL at h
    by_cases g:sg a b=0
    · rw [if_neg (by omega)] at h
      rw [sg_zero.1 g,cmpL_zero h]
    · rw [if_pos g] at h; omega
theorem cmpL_self:∀ a:List Int,cmpL a a=0
  | []=>rfl
  | a :: l=>by unfold cmpL; rw [if_neg (by rw [sg_zero.2 rfl]; omega)]; exact cmpL_self l
theorem cmpL_trans:∀ {a b c:List Int},cmpL a b<0→cmpL b c<0→cmpL a c<0
  | [],[],_,h,_=>by simp [cmpL] at h
  | [],_ :: _,[],_,h=>by simp [cmpL] at h
  | [],_ :: _,_ :: _,_,_=>by simp [cmpL]
  | _ :: _,[],_,h,_=>by simp [cmpL] at h
  | _ :: _,_ :: _,[],_,h=>by simp [cmpL] at h
  | a :: l,b :: m,c :: n,h1,h2=>by
    unfold cmpL at h1 h2 ⊢
    unfold sg at *
    by_cases e1:a<b
    · by_cases e2:b<c
      · rw [if_pos (show a<c by omega)]; simp
      · by_cases e3:c<b
        · rw [if_neg e2,if_pos e3] at h2; simp at h2
        · have:b=c:=by omega
          subst this; rw [if_pos e1]; simp
    · by_cases e2:b<a
      · rw [if_neg e1,if_pos e2] at h1; simp at h1
      · have:a=b:=by omega
        subst this
        rw [if_neg e1,if_neg e1] at h1
        simp only [ne_eq,not_true,if_false] at h1
        by_cases e3:a<c
        · rw [if_pos e3]; simp
        · by_cases e4:c<a
          · rw [if_neg e3,if_pos e4] at h2; simp at h2
          · rw [if_neg e3,if_neg e4] at h2 ⊢
            simp only [ne_eq,not_true,if_false] at h2 ⊢
            exact cmpL_trans h1 h2
def elt (e f:Edit):Prop:=cmpL e.Sets f.Sets<0
theorem ed_eq {e f:Edit} (h:cmpL e.Sets f.Sets=0):e=f:=by cases e; cases f; congr 1; exact cmpL_zero h
theorem elt_tri {e f:Edit} (h:¬ elt e f) (hne:e≠f):elt f e:=by
  unfold elt at *
  have h1:=cmpL_swap e.Sets f.Sets
  have:cmpL e.Sets f.Sets≠0:=fun c=>hne (ed_eq c)
  omega
theorem elt_ne {e f:Edit} (h:elt e f):e≠f:=by rintro rfl; unfold elt at h; rw [cmpL_self] at h; omega
theorem elt_as {e f:Edit} (h:elt e f):¬ elt f e:=by unfold elt at *; rw [cmpL_swap]; omega
/-- Two lists in strict order that hold the same are one. -/
theorem srt_uniq {a b:List Edit} (ha:a.Pairwise elt) (hb:b.Pairwise elt) (h:∀ x,x∈a↔x∈b):a=b:=by
  have n1:a.Nodup:=ha.imp fun h=>elt_ne h
  have n2:b.Nodup:=hb.imp fun h=>elt_ne h
  exact List.Perm.eq_of_pairwise (le:=elt) (fun x y _ _ h1 h2=>absurd h2 (elt_as h1)) ha hb ((List.perm_ext_iff_of_nodup n1 n2).2 h)
def ctn (f e:Edit):Bool:=(List.range e.Sets.length).all fun i=>bits .and .i64 (gi e.Sets i) (gi f.Sets i)==gi e.Sets i
theorem andNot_zero {a b:Int} (ha:0≤a∧a<4611686018427387904) (hb:0≤b∧b<4611686018427387904):(bits .andNot .i64 a b != 0)=(bits .and .i64 a b != a):=by
  obtain ⟨x,rfl⟩:=Int.eq_ofNat_of_zero_le ha.1
  obtain ⟨y,rfl⟩:=Int.eq_ofNat_of_zero_le hb.1
  rw [andNot_nat (by omega),and_nat (by omega)]
  have key:x &&& (x ^^^ (x &&& y))=0↔x &&& y=x:=by
    constructor
    · intro h
      refine Nat.eq_of_testBit_eq fun i=>?_
      have:=congrArg (fun n=>n.testBit i) h
      simp only [Nat.testBit_and,Nat.testBit_xor,Nat.zero_testBit] at this ⊢
      cases e1:x.testBit i <;> cases e2:y.testBit i <;> simp_all
    · intro h
      rw [h,Nat.xor_self,Nat.and_zero]
  rw [Bool.eq_iff_iff]
  simp only [bne_iff_ne,ne_eq,Int.natCast_eq_zero,Int.natCast_inj,key]
theorem iContains_ok {f e:Edit} {Q:Bool→Prop} (hf:Sok f.Sets) (he:Sok e.Sets) (hl:e.Sets.length≤f.Sets.length) (hl2:e.Sets.length≤1048576) (hq:Q (ctn f e)):impl_contains f e Q:=by
  unfold impl_contains
  refine loop1_list (by omega) (fun i=>(List.range i).all (fun i=>bits .and .i64 (gi e.Sets i) (gi f.Sets i)==gi e.Sets i)=true) (by simp) (fun i nx hi hj hx=>idx_at hi (idx_at (by omega) ?_)) (fun hj=>?_)
  · rw [andNot_zero (he _ (List.getElem_mem hi)) (hf _ (List.getElem_mem _)),← gi_at hi,← gi_at (show i<f.Sets.length by omega)]
    refine br_ne (fun g=>?_) (fun g=>hx ?_)
    · have:ctn f e=false:=by
        unfold ctn; rw [List.all_eq_false]; exact ⟨i,List.mem_range.2 hi,by simpa using g⟩
      rw [this] at hq; exact hq
    · rw [List.range_succ,List.all_append,hj]; simp; exact g
  · have:ctn f e=true:=hj
    rw [this] at hq; exact hq
theorem sContains_ok {f e:Edit} {Q:Bool→Prop} (hl:e.Sets.length≤f.Sets.length) (hl2:e.Sets.length≤1048576) (hq:Q (ctn f e)):spec_eContains f e Q:=by
  unfold spec_eContains
  refine loop1_list (by omega) (fun i=>(List.range i).all (fun i=>bits .and .i64 (gi e.Sets i) (gi f.Sets i)==gi e.Sets i)=true) (by simp) (fun i nx hi hj hx=>idx_at hi (idx_at (by omega) ?_)) (fun hj=>?_)
  · rw [← gi_at hi,← gi_at (show i<f.Sets.length by omega)]
    refine br_ne (fun g=>?_) (fun g=>hx ?_)
    · have:ctn f e=false:=by
        unfold ctn; rw [List.all_eq_false]; exact ⟨i,List.mem_range.2 hi,by simpa using g⟩
      rw [this] at hq; exact hq
    · rw [List.range_succ,List.all_append,hj]; simp; exact g
  · have:ctn f e=true:=hj
    rw [this] at hq; exact hq
theorem l1Same_ok {a b:List Int} {Q:Bool→Prop} (hl:a.length≤1048576) (hq:Q (decide (a=b))):spec_l1Same a b Q:=by
  unfold spec_l1Same
  refine br_ne (fun g=>?_) (fun g=>?_)
  · rw [decide_eq_false (by rintro rfl; exact g rfl)] at hq; exact hq
  · have hln:a.length=b.length:=by unfold ln at g; omega
    refine loop1_list (by omega) (fun i=>a.take i=b.take i) (by simp) (fun i nx hi hj hx=>idx_at hi (idx_at (by omega) (br_ne (fun g2=>?_) (fun g2=>hx ?_)))) (fun hj=>?_)
    · rw [decide_eq_false (by rintro rfl; exact g2 rfl)] at hq; exact hq
    · rw [List.take_add_one,List.take_add_one,hj,List.getElem?_eq_getElem hi,List.getElem?_eq_getElem (by omega),g2]
    · rw [List.take_length,hln,List.take_length] at hj
      rw [decide_eq_true hj] at hq; exact hq
theorem eAdd_ok {l:List Edit} {e:Edit} {Q:List Edit→Prop} (hl:l.length≤1048576) (hs:∀ f∈l,f.Sets.length≤1048576) (he:e.Sets.length≤1048576) (hp:l.Pairwise elt)
    (hq:∀ o:List Edit,o.Pairwise elt→(∀ x,x∈o↔x=e∨x∈l)→o.length≤l.length+1→Q o):spec_eAdd l e Q:=by
  unfold spec_eAdd
  refine ⟨fun k=>∃ j:Nat,k=(j:Int)∧j≤l.length∧∀ f∈l.take j,elt f e,fun k=>l.length-k.toNat,⟨0,rfl,Nat.zero_le _,by simp⟩,?_⟩
  rintro k ⟨j,rfl,hj,hlt⟩
  have fin:∀ b:Bool,(b=true→∃ h:j<l.length,l[j]=e)→(b=false→j=l.length∨∃ h:j<l.length,elt e l[j]) →
      br b (Q l) ((0:Int)≤0∧0≤(j:Int)∧(j:Int)≤ln l∧((ln (([]:List Edit))+ln (List.take (Int.toNat (j:Int)-Int.toNat 0) (List.drop (Int.toNat 0) l))) * 24≤140737488355328∧(
        spec_l1Own e.Sets fun r94=>(ln ((([]:List Edit))++(List.take (Int.toNat (j:Int)-Int.toNat 0) (List.drop (Int.toNat 0) l)))+ln ([((Edit.mk r94):Edit)])) * 24≤140737488355328∧(
        (0:Int)≤(j:Int)∧(j:Int)≤((List.length l:Int))∧((List.length l:Int))≤ln l∧(
        (ln (((([]:List Edit))++(List.take (Int.toNat (j:Int)-Int.toNat 0) (List.drop (Int.toNat 0) l)))++([((Edit.mk r94):Edit)]))+ln (List.take (Int.toNat ((List.length l:Int))-Int.toNat (j:Int)) (List.drop (Int.toNat (j:Int)) l))) * 24≤140737488355328∧(
        Q ((((([]:List Edit))++(List.take (Int.toNat (j:Int)-Int.toNat 0) (List.drop (Int.toNat 0) l)))++([((Edit.mk r94):Edit)]))++(List.take (Int.toNat ((List.length l:Int))-Int.toNat (j:Int)) (List.drop (Int.toNat (j:Int)) l))))))))):=by
    intro b ht hff
    refine br_bo (fun g=>?_) (fun g=>?_)
    · obtain ⟨h,e1⟩:=ht g
      exact hq l hp (fun x=>⟨.inr,fun c=>c.elim (fun c=>by rw [c,← e1]; exact List.getElem_mem h) id⟩) (by omega)
    · simp only [Int.toNat_natCast,Int.toNat_zero,Nat.sub_zero,List.drop_zero,List.nil_append]
      have e2:List.take (l.length-j) (List.drop j l)=List.drop j l:=by rw [List.take_of_length_le (by simp)]
      rw [e2]
      refine ⟨by omega,by omega,by unfold ln; omega,by unfold ln; simp; omega,l1Own_ok he ⟨by unfold ln; simp; omega,by omega,by omega,by unfold ln; omega,by unfold ln; simp; omega,?_⟩⟩
      rw [show (Edit.mk e.Sets)=e from rfl]
      have hsplit:l.take j++l.drop j=l:=List.take_append_drop j l
      have hpp:=hp
      rw [← hsplit,List.pairwise_append] at hpp
      have hgt:∀ f∈l.drop j,elt e f:=by
        rcases hff g with h | ⟨h,h2⟩
        · intro f hf; rw [h,List.drop_length] at hf; cases hf
        · intro f hf
          rw [List.drop_eq_getElem_cons h] at hf hpp
          rcases List.mem_cons.1 hf with rfl | hf
          · exact h2
          · exact cmpL_trans h2 ((List.pairwise_cons.1 hpp.2.1).1 f hf)
      refine hq _ ?_ (fun x=>?_) (by simp; omega)
      · rw [List.append_assoc,List.pairwise_append]
        refine ⟨hpp.1,List.pairwise_cons.2 ⟨hgt,hpp.2.1⟩,fun a ha c hc=>?_⟩
        rcases List.mem_cons.1 hc with rfl | hc
        · exact hlt a ha
        · exact hpp.2.2 a ha c hc
      · have hm:x∈l↔x∈l.take j∨x∈l.drop j:=by rw [← List.mem_append,hsplit]
        rw [List.mem_append,List.mem_append,List.mem_singleton,hm]
        constructor
        · rintro ((h | h) | h)
          · exact .inr (.inl h)
          · exact .inl h
          · exact .inr (.inr h)
        · rintro (h | h | h)
          · exact .inl (.inr h)
          · exact .inl (.inl h)
          · exact .inr h
  by_cases hjl:j<l.length
  · have hjm:=hs _ (List.getElem_mem hjl)
    refine jn_bool (decide (cmpL l[j].Sets e.Sets<0)) (br_bo (fun g=>?_) (fun g=>?_)) fun k hk=>br_true (by simp; omega) (idx_at hjl ⟨_,l1Less_ok hjm he rfl,hk⟩)
    · have g:=of_decide_eq_true g
      rw [wr_in (by omega) (by omega)]
      refine ⟨⟨j+1,by omega,by omega,fun f hf=>?_⟩,by show l.length-((j:Int)+1).toNat<l.length-(j:Int).toNat; omega⟩
      rw [List.take_add_one,List.getElem?_eq_getElem hjl] at hf
      rcases List.mem_append.1 hf with hf | hf
      · exact hlt f hf
      · have:f=l[j]:=by simpa using hf
        rw [this]; exact g
    · have g:=of_decide_eq_false g
      refine jn_bool (decide (l[j].Sets=e.Sets)) (fin _ (fun c=>⟨hjl,?_⟩) (fun c => .inr ⟨hjl,?_⟩)) fun k hk=>br_true (by simp; omega) (idx_at hjl ⟨_,l1Same_ok hjm rfl,hk⟩)
      · have c:=of_decide_eq_true c
        exact ed_eq (by rw [c,cmpL_self])
      · have c:=of_decide_eq_false c
        exact elt_tri g (fun h=>c (by rw [h]))
  · refine jn_bool false (br_false rfl ?_) fun k hk=>br_false (by simp; omega) hk
    exact jn_bool false (fin _ (fun c=>by cases c) (fun _ => .inl (by omega))) fun k hk=>br_false (by simp; omega) hk
end Go.Proofs.YtbgnaamdlcggjaaGreat
