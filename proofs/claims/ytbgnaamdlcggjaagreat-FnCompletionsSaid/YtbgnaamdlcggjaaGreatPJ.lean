/- Plain facts: the searches for maximal edits. -/
import Derived.Test.YtbgnaamdlcggjaaGreatPI
set_option linter.unusedVariables false
set_option autoImplicit false
namespace Go.Proofs.YtbgnaamdlcggjaaGreat
open Go Go.RowKit Go.Gv
theorem jn_bool2 {A B:Type} {f:(A→B→Prop)→Prop} {k:A→B→Prop} (a:A) (b:B) (h:k a b) (hf:∀ k':A→B→Prop,k' a b→f k'):jn f k:=hf k h
theorem inB_snoc:∀ {r:List Variable} {t:List Int} {x:Variable} {s:Int},inB r t→(0≤s∧s≤full x)→inB (r++[x]) (t++[s])
  | [],[],_,_,_,h=>⟨h,trivial⟩
  | y :: r,u :: t,_,_,h,hs=>⟨h.1,inB_snoc h.2 hs⟩
theorem range_all_snoc {p:Nat→Bool} {i:Nat}:(List.range (i+1)).all p=((List.range i).all p&&p i):=by
  rw [List.range_succ,List.all_append]; simp
theorem take_any_succ {l:List Bool} {i:Nat} (hi:i<l.length):(l.take (i+1)).any id=((l.take i).any id || l[i]):=by
  rw [List.take_succ_eq_append_getElem hi,List.any_append]; simp
theorem stp_get {x:Variable} {inx:List Bool} {s:Int} {i p:Nat} (hp:inx.length / lv x=p) (h:i<(stp x inx s).length):(stp x inx s)[i]=(List.range (lv x)).all fun (y:Nat) => !tb s (y:Int) || inx.getD (y * p+i) false:=by subst hp; simp only [stp,List.getElem_map,List.getElem_range]
theorem stp_length {x:Variable} {inx:List Bool} {s:Int}:(stp x inx s).length=inx.length / lv x:=by simp [stp]
theorem impliedIn_ok {sx:List Variable} {v:Int} (hL:Lok sx) {inx:List Bool} {sets:List Int} {mp:List (Int×Bool)} {all:List Edit} {Q:List (Int×Bool)→List Edit→Prop}
    (hn:sets.length≤sx.length) (hB:inB (sx.take sets.length) sets) (hin:inx.length=cnt (sx.drop sets.length)) (hc:all.length+(enum v sets.length (sx.drop sets.length)).length≤1000000)
    (hq:Q (addM sx mp (resI v sets.length (sx.drop sets.length) inx sets)) (all++(resI v sets.length (sx.drop sets.length) inx sets).map Edit.mk)) :
    impl_impliedIn_impl_maximalEdits_1 sx inx v sets mp sx all Q:=by
  have h0:=hL.1
  have hcs:=cnt_small' hL
  unfold impl_impliedIn_impl_maximalEdits_1
  refine ⟨fun sx' inx v' sets mp c all Q=>sx'=sx∧c=sx∧v'=v∧sets.length≤sx.length∧inB (sx.take sets.length) sets∧inx.length=cnt (sx.drop sets.length)∧all.length+(enum v sets.length (sx.drop sets.length)).length≤1000000∧Q (addM sx mp (resI v sets.length (sx.drop sets.length) inx sets)) (all++(resI v sets.length (sx.drop sets.length) inx sets).map Edit.mk),fun _ _ _ sets _ _ _=>sx.length-sets.length,⟨rfl,rfl,rfl,hn,hB,hin,hc,hq⟩,?_⟩
  clear hn hB hin hc hq
  rintro sx' inx v' sets mp c all Q ⟨rfl,rfl,rfl,hn,hB,hin,hc,hq⟩
  refine br_eq (fun g=>?_) (fun g=>?_)
  · have hn':sets.length=c.length:=by unfold ln at g; omega
    have hd:c.drop sets.length=[]:=List.drop_eq_nil_of_le (by omega)
    rw [hd] at hin hq
    rw [resI_nil] at hq
    refine jn_bool2 _ _ hq fun k hk=>?_
    show idx inx ((0:Nat):Int) _
    have h1:0<inx.length:=by rw [hin]; exact Nat.one_pos
    refine idx_at h1 ?_
    have e1:inx.getD 0 false=inx[0]:=getD_at h1
    rw [e1] at hk
    refine br_bo (fun g1=>?_) (fun g1=>?_)
    · rw [g1,if_pos rfl] at hk
      have hB':inB c sets:=by rw [hn',List.take_length] at hB; exact hB
      refine ⟨keyI c sets,editKey_ok hL hB' rfl,Clone_ok (by omega) ⟨by unfold ln; simp; omega,hk⟩⟩
    · rw [g1,if_neg (by decide)] at hk
      simpa [addM] using hk
  · have hn':sets.length<c.length:=by unfold ln at g; omega
    have ⟨eL,h1,h2⟩:=lv_at hL hn'
    have hf:=full_at hL hn'
    have hr:=Rok_drop hL sets.length
    rw [drop_at hn'] at hq hc hin hr
    have ⟨_,_,_,hp2⟩:=hr.head
    have hfr:=frs_at (v:=v') (n:=sets.length) hf.1
    have hcl:=chs_length (v:=v') (n:=sets.length) (x:=c[sets.length])
    have hcr:=cnt_le hr.tail
    have hin2:inx.length=lv c[sets.length] * cnt (c.drop (sets.length+1)):=hin
    have hpart:inx.length / lv c[sets.length]=cnt (c.drop (sets.length+1)):=by rw [hin2]; exact Nat.mul_div_cancel_left _ (by omega)
    have hcb:inx.length≤262144:=by
      have e1:=cnt_append (c.take sets.length) (c.drop sets.length)
      rw [List.take_append_drop,drop_at hn'] at e1
      have e2:=(cnt_small hL sets.length).1
      have e3:1 * cnt (c[sets.length] :: c.drop (sets.length+1))≤cnt (c.take sets.length) * cnt (c[sets.length] :: c.drop (sets.length+1)):=Nat.mul_le_mul_right _ e2
      rw [hin]; omega
    have hpl:cnt (c.drop (sets.length+1))≤inx.length:=by rw [← hpart]; exact Nat.div_le_self _ _
    have epart:wr (Int.tdiv (ln inx) c[sets.length].Levels)=(cnt (c.drop (sets.length+1)):Int):=by
      rw [← eL,← hpart]
      have e1:Int.tdiv (ln inx) (lv c[sets.length]:Int)=((inx.length / lv c[sets.length]:Nat):Int):=by rw [Int.ofNat_tdiv]
      rw [e1]
      have:inx.length / lv c[sets.length]≤262144:=by omega
      generalize inx.length / lv c[sets.length]=q at this
      exact wr_in (by omega) (by omega)
    refine idx_at hn' ⟨by omega,?_⟩
    refine jn_bool (frs v' sets.length c[sets.length]) ?_ fun k hk=>br_eq (fun g1=>idx_at hn' (fullSet_ok hL hn' ?_)) (fun g1=>?_)
    · refine ⟨fun s mp2 all2=>∃ m:Nat,s=frs v' sets.length c[sets.length]+(m:Int)∧m≤(chs v' sets.length c[sets.length]).length ∧
          mp2=addM c mp (((chs v' sets.length c[sets.length]).take m).flatMap (fun s=>resI v' (sets.length+1) (c.drop (sets.length+1)) (stp c[sets.length] inx s) (sets++[s]))) ∧
          all2=all++(((chs v' sets.length c[sets.length]).take m).flatMap (fun s=>resI v' (sets.length+1) (c.drop (sets.length+1)) (stp c[sets.length] inx s) (sets++[s]))).map Edit.mk,
          fun s _ _=>(full c[sets.length]+1-s).toNat,⟨0,by omega,Nat.zero_le _,by simp [addM],by simp⟩,?_⟩
      rintro s mp2 all2 ⟨m,rfl,hm,rfl,rfl⟩
      refine idx_at hn' (fullSet_ok hL hn' (br_dec (fun g2=>?_) (fun g2=>?_)))
      · have hm':m<(chs v' sets.length c[sets.length]).length:=by omega
        have hlenA:(((chs v' sets.length c[sets.length]).take m).flatMap (fun s=>resI v' (sets.length+1) (c.drop (sets.length+1)) (stp c[sets.length] inx s) (sets++[s]))).length+(enum v' (sets.length+1) (c.drop (sets.length+1))).length≤(enum v' sets.length (c[sets.length] :: c.drop (sets.length+1))).length:=by
          have h1:=flat_len (f:=fun s=>resI v' (sets.length+1) (c.drop (sets.length+1)) (stp c[sets.length] inx s) (sets++[s])) (c:=(enum v' (sets.length+1) (c.drop (sets.length+1))).length) ((chs v' sets.length c[sets.length]).take m) (fun s _=>resI_length)
          have h2:(enum v' sets.length (c[sets.length] :: c.drop (sets.length+1))).length=(chs v' sets.length c[sets.length]).length * (enum v' (sets.length+1) (c.drop (sets.length+1))).length:=by
            simp only [enum]
            induction chs v' sets.length c[sets.length] with
            | nil=>simp
            | cons a l ih=>rw [List.flatMap_cons,List.length_append,ih,List.length_map,List.length_cons,Nat.add_mul,Nat.one_mul,Nat.add_comm]
          have h3:(m+1) * (enum v' (sets.length+1) (c.drop (sets.length+1))).length≤(chs v' sets.length c[sets.length]).length * (enum v' (sets.length+1) (c.drop (sets.length+1))).length:=Nat.mul_le_mul_right _ hm'
          rw [List.length_take,Nat.min_eq_left hm] at h1
          rw [Nat.add_mul,Nat.one_mul] at h3
          omega
        have hstep:=chs_take (f:=fun s=>resI v' (sets.length+1) (c.drop (sets.length+1)) (stp c[sets.length] inx s) (sets++[s])) hm'
        generalize hA:((chs v' sets.length c[sets.length]).take m).flatMap (fun s=>resI v' (sets.length+1) (c.drop (sets.length+1)) (stp c[sets.length] inx s) (sets++[s]))=A at hlenA hstep ⊢
        generalize hs:frs v' sets.length c[sets.length]+(m:Int)=s at g2 hstep ⊢
        have hs1:1≤s∧s≤full c[sets.length]:=by omega
        refine jn_bool2 (addM c mp (A++resI v' (sets.length+1) (c.drop (sets.length+1)) (stp c[sets.length] inx s) (sets++[s]))) (all++(A++resI v' (sets.length+1) (c.drop (sets.length+1)) (stp c[sets.length] inx s) (sets++[s])).map Edit.mk) ?_ fun k hk=>?_
        · rw [wr_in (x:=s+1) (by omega) (by omega)]
          refine ⟨⟨m+1,by omega,hm',by rw [hstep],by rw [hstep]⟩,?_⟩
          show (full c[sets.length]+1-(s+1)).toNat<(full c[sets.length]+1-s).toNat
          omega
        · rw [epart]
          refine ⟨by omega,by omega,?_⟩
          have hrep:(List.replicate (Int.toNat (cnt (c.drop (sets.length+1)):Int)) false).length=cnt (c.drop (sets.length+1)):=by simp
          have hsl:(stp c[sets.length] inx s).length=cnt (c.drop (sets.length+1)):=by rw [stp_length,hpart]
          refine loop3_list (by omega) (fun rest any i=>rest.length=cnt (c.drop (sets.length+1))∧rest.take i=(stp c[sets.length] inx s).take i∧any=((stp c[sets.length] inx s).take i).any id) ⟨by simp,by simp,by simp⟩ ?_ ?_
          · rintro rest any i nx hi ⟨r1,r2,rfl⟩ hx
            have hi':i<cnt (c.drop (sets.length+1)):=by omega
            have eget:=stp_get (x:=c[sets.length]) (inx:=inx) (s:=s) (i:=i) hpart (by omega)
            refine jn_bool2 (rest.set i ((stp c[sets.length] inx s)[i]'(by omega))) (((stp c[sets.length] inx s).take (i+1)).any id) (hx _ _ ⟨by simpa using r1,set_done (by omega) (by omega) r2,rfl⟩) fun k2 hk2=>?_
            refine ⟨by omega,by omega,idx_at hn' ?_⟩
            rw [Int.toNat_natCast]
            rw [← eL]
            refine loop2_to (n:=(lv c[sets.length]:Int)) (by omega) (fun rr y=>rr=rest.set i ((List.range y).all fun (y:Nat) => !tb s (y:Int) || inx.getD (y * cnt (c.drop (sets.length+1))+i) false)) rfl ?_ ?_
            · rintro _ y nx2 hy rfl hx2
              have hy':y<lv c[sets.length]:=by omega
              have hset:∀ b,i<(rest.set i b).length:=fun b=>by simp; omega
              have hlt:y * cnt (c.drop (sets.length+1))+i<inx.length:=by
                have:(y+1) * cnt (c.drop (sets.length+1))≤lv c[sets.length] * cnt (c.drop (sets.length+1)):=Nat.mul_le_mul_right _ hy'
                rw [Nat.add_mul,Nat.one_mul] at this; omega
              have ew:wr (wr ((y:Int) * (cnt (c.drop (sets.length+1)):Int))+(i:Int))=((y * cnt (c.drop (sets.length+1))+i:Nat):Int):=by
                have e1:(y:Int) * (cnt (c.drop (sets.length+1)):Int)=((y * cnt (c.drop (sets.length+1)):Nat):Int):=by rw [Int.natCast_mul]
                rw [e1]
                generalize y * cnt (c.drop (sets.length+1))=q at hlt
                rw [wr_in (x:=(q:Int)) (by omega) (by omega),wr_in (by omega) (by omega)]; omega
              refine jn_bool (rest.set i ((List.range (y+1)).all fun (y:Nat) => !tb s (y:Int) || inx.getD (y * cnt (c.drop (sets.length+1))+i) false)) (hx2 _ rfl) fun k3 hk3=>?_
              rw [range_all_snoc] at hk3
              refine idx_at (hset _) ?_
              rw [List.getElem_set_self]
              refine br_bo (fun g3=>⟨by omega,?_⟩) (fun g3=>⟨by omega,by simp; omega,?_⟩)
              · rw [g3,Bool.true_and] at hk3
                rw [bit0 (by omega) (by omega) (by omega) (by omega)]
                refine br_nb (fun g4=>⟨by omega,by simp; omega,?_⟩) (fun g4=>?_)
                · rw [g4] at hk3
                  rw [List.set_set]; exact hk3
                · rw [g4,Bool.not_true,Bool.false_or] at hk3
                  rw [ew]
                  refine idx_at hlt ⟨by omega,by simp; omega,?_⟩
                  rw [getD_at hlt] at hk3
                  rw [List.set_set]; exact hk3
              · rw [g3,Bool.false_and] at hk3
                rw [List.set_set]; exact hk3
            · rintro _ y hy rfl
              have:y=lv c[sets.length]:=by omega
              subst this
              rw [← eget]
              rw [take_any_succ (by omega)] at hk2
              refine br_bo (fun g3=>?_) (fun g3=>idx_at (by simp; omega) ?_)
              · rw [g3] at hk2; exact hk2
              · rw [List.getElem_set_self]
                rw [g3,Bool.false_or] at hk2; exact hk2
          · rintro rest any ⟨r1,r2,rfl⟩
            rw [hrep] at r2
            have erest:rest=stp c[sets.length] inx s:=eq_of_take r2 r1 hsl
            rw [hrep,← hsl,List.take_length]
            subst erest
            refine br_bo (fun g3=>⟨by unfold ln; simp; omega,?_⟩) (fun g3=>?_)
            · refine ⟨⟨rfl,rfl,rfl,by simp; omega,?_,?_,?_,?_⟩,?_⟩
              · rw [List.length_append,List.length_singleton,List.take_succ_eq_append_getElem hn']
                exact inB_snoc hB (by omega)
              · rw [hsl,List.length_append,List.length_singleton]
              · have e9:(sets++[s]).length=sets.length+1:=by simp
                rw [e9,List.length_append,List.length_map]; omega
              · rw [List.length_append,List.length_singleton,addM_append,List.append_assoc,← List.map_append]
                exact hk
              · show c.length-(sets++[s]).length<c.length-sets.length
                rw [List.length_append,List.length_singleton]; omega
            · have hnil:resI v' (sets.length+1) (c.drop (sets.length+1)) (stp c[sets.length] inx s) (sets++[s])=[]:=by
                unfold resI
                rw [List.map_eq_nil_iff,List.filter_eq_nil_iff]
                intro t ht
                rw [fs_none hr.tail (fun b hb=>?_) (mem_enum.1 ht)]
                · decide
                · have:=List.any_eq_false.1 g3 b hb
                  simpa using this
              rw [hnil,List.append_nil] at hk
              exact hk
      · have:m=(chs v' sets.length c[sets.length]).length:=by omega
        subst this
        rw [List.take_length,← resI_cons]; exact hq
    · have:frs v' sets.length c[sets.length]=full c[sets.length]:=by unfold frs; rw [if_pos g1]
      rw [this] at hk; exact hk
    · have:frs v' sets.length c[sets.length]=1:=by unfold frs; rw [if_neg g1]
      rw [this] at hk; exact hk
end Go.Proofs.YtbgnaamdlcggjaaGreat
