import Derived.Test.YtbgnaamdlcggjaaGreatQB
set_option linter.unusedVariables false
set_option autoImplicit false
namespace Go.Proofs.YtbgnaamdlcggjaaGreat
open Go Go.RowKit Go.Gv
theorem BR2{α:Type}{A B:List α}{n:Nat}:(A.take n++B).take n=(A++B).take n:=by
  rw [List.take_append,List.take_append,List.take_take,Nat.min_self,List.length_take]
  congr 2
  omega
theorem EK0{R:List (List Int×Int)}{T M:Nat}(hR:∀ r∈R,Ab r.1/\r.1.length=T)(hT:T<=12)(hM:M<=20000)(hRl:R.length<=12000)
    {x:AL1} {pre:List Int} {l:Nat} {Q:List (List Int)->Int->Int->Prop} (hx:x.Rules=R.map mkR/\x.Types=(T:Int)/\x.Most=(M:Int)) (hp:pre.length<=T) (hc:Cb pre) (hl:l<=8) (ho:x.Out.length<=M+1)
    (hq:Q ((x.Out++L8 R pre (T-pre.length) l).take (M+1)) T M):AC3 x pre (l:Int) Q:=by
  unfold AC3
  refine ⟨fun x pre left Q=>∃ l:Nat,left=(l:Int)/\(x.Rules=R.map mkR/\x.Types=(T:Int)/\x.Most=(M:Int))/\pre.length<=T/\Cb pre/\l<=8/\x.Out.length<=M+1/\Q ((x.Out++L8 R pre (T-pre.length) l).take (M+1)) T M,fun _ pre _=>T-pre.length,⟨l,rfl,hx,hp,hc,hl,ho,hq⟩,?_⟩
  clear hx hp hc hl ho hq
  rintro ⟨RL,TY,MO,Out⟩ pre left Q ⟨l,rfl,⟨h1,h2,h3⟩,hp,hc,hl,ho,hq⟩
  dsimp only at h1 h2 h3 ho hq ⊢
  subst h1 h2 h3
  have none_:L8 R pre (T-pre.length) l=[]->Out.length<=M->Q Out T M:=fun e hlt=>by
    rw [e,List.append_nil,List.take_of_length_le (by omega)] at hq; exact hq
  refine E1 (fun g=>?_) (fun g=>?_)
  · have e:Out.length=M+1:=by unfold ln at g; omega
    rw [List.take_append_of_le_length (by omega),List.take_of_length_le (by omega)] at hq
    exact hq
  · have hlt:Out.length<=M:=by unfold ln at g; omega
    have hml:(R.map mkR).length=R.length:=by simp
    refine F2 (by omega) (fun i=>∀ j (hj:j<R.length),j<i->¬ (R[j].2<dot R[j].1 pre)/\(pre.length=T->dot R[j].1 pre=R[j].2)) (fun j hj h=>by omega) (fun i nx hi hj hx=>C4 hi ?_) (fun hj=>?_)
    · have hi':i<R.length:=by omega
      have ⟨r1,r2⟩:=hR _ (List.getElem_mem hi')
      have em:(R.map mkR)[i]=mkR R[i]:=by simp
      rw [em]
      refine EJ5 (am:=R[i].1) (by omega) (by omega) r1 hc (D3 (decide (dot R[i].1 pre>R[i].2) || (decide (pre.length=T)&&decide (dot R[i].1 pre<R[i].2))) ?_ fun k hk=>E1 (fun g1=>?_) (fun g1=>P8 (fun g2=>?_) (fun g2=>?_)))
      · refine K0 (fun g1=>none_ ?_ hlt) (fun g1=>hx fun j hj2 hji=>?_)
        · simp only [Bool.or_eq_true,Bool.and_eq_true,decide_eq_true_eq] at g1
          rcases g1 with g1 | ⟨g1,g2⟩
          · exact BP6 (fun r hr=>⟨(hR r hr).1,by rw [(hR r hr).2]; exact hp⟩) hl ⟨_,List.getElem_mem hi',g1⟩
          · rw [show T-pre.length=0 by omega,AB7,if_neg]
            rintro ⟨_,hok⟩
            have:=of_decide_eq_true (List.all_eq_true.1 hok _ (List.getElem_mem hi'))
            omega
        · by_cases e:j=i
          · subst e
            simp only [Bool.or_eq_false_iff,Bool.and_eq_false_iff,decide_eq_false_iff_not] at g1
            refine ⟨g1.1,fun hT'=>?_⟩
            rcases g1.2 with x | x
            · exact absurd hT' x
            · have:=g1.1; omega
          · exact hj j hj2 (by omega)
      · rw [decide_eq_true (show dot R[i].1 pre>R[i].2 from g1)] at hk; exact hk
      · rw [decide_eq_false (show ¬ dot R[i].1 pre>R[i].2 from g1),decide_eq_true (by unfold ln at g2; omega:pre.length=T)] at hk; exact hk
      · rw [decide_eq_false (show ¬ dot R[i].1 pre>R[i].2 from g1),decide_eq_false (by unfold ln at g2; omega:¬ pre.length=T)] at hk; exact hk
    · rw [hml] at hj
      refine P8 (fun g1=>?_) (fun g1=>?_)
      · have eT:pre.length=T:=by unfold ln at g1; omega
        have hok:okR R pre=true:=List.all_eq_true.2 fun r hr=>by
          obtain ⟨j,hj2,rfl⟩:=List.mem_iff_getElem.1 hr
          exact decide_eq_true ((hj j hj2 hj2).2 eT)
        rw [show T-pre.length=0 by omega,AB7] at hq
        refine D3 (Out++if l=0/\okR R pre=true then [pre] else []) ?_ fun k hk=>P8 (fun g2=>?_) (fun g2=>?_)
        · rw [List.take_of_length_le] at hq
          · exact hq
          · rw [List.length_append]; split
            · simp only [List.length_singleton]; omega
            · simp only [List.length_nil]; omega
        · rw [if_pos ⟨by omega,hok⟩] at hk
          exact ⟨by unfold ln; simp; omega,by unfold ln; simp only [List.length_append,List.length_nil,List.length_singleton]; omega,by simpa using hk⟩
        · rw [if_neg (fun c=>g2 (by omega)),List.append_nil] at hk
          exact hk
      · have hpT:pre.length<T:=by unfold ln at g1; omega
        obtain ⟨m,hm⟩:∃ m,T-pre.length=m+1:=⟨T-pre.length-1,by omega⟩
        rw [hm,BS5] at hq
        rw [E9 (x:=(T:Int)-1) (by omega) (by omega)]
        refine D3 (if m=0 then (l:Int) else 0) ?_ fun k hk=>P8 (fun g2=>?_) (fun g2=>?_)
        · refine ⟨fun k ty mo out=>ty=(T:Int)/\mo=(M:Int)/\∃ c:Nat,k=(c:Int)/\c<=l+1/\out=(Out++(List.range c).flatMap fun (c:Nat)=>L8 R (pre++[(c:Int)]) m (l-c)).take (M+1),fun k _ _ _=>(20-k).toNat,⟨rfl,rfl,if m=0 then l else 0,by split <;> rfl,by split <;> omega,?_⟩,?_⟩
          · have e:((List.range (if m=0 then l else 0)).flatMap fun (c:Nat)=>L8 R (pre++[(c:Int)]) m (l-c))=[]:=by
              split
              · rename_i e0; subst e0
                rw [List.flatMap_eq_nil_iff]
                intro c hc2
                have:=List.mem_range.1 hc2
                rw [AB7,if_neg (by omega)]
              · rfl
            rw [e,List.append_nil,List.take_of_length_le (by omega)]
          · rintro _ _ _ _ ⟨rfl,rfl,c,rfl,hcl,rfl⟩
            refine E1 (fun g3=>⟨by unfold ln; simp; omega,?_⟩) (fun g3=>?_)
            · have hcl':c<=l:=by omega
              rw [E9 (x:=(l:Int)-(c:Int)) (by omega) (by omega),E9 (by omega) (by omega)]
              refine ⟨by unfold ln; simp only [List.nil_append,List.length_singleton]; omega,⟨l-c,by omega,⟨rfl,rfl,rfl⟩,by simp; omega,?_,by omega,by show (List.take _ _).length<=_; rw [List.length_take]; omega,?_⟩,?_⟩
              · intro y hy
                rw [List.nil_append] at hy
                rcases List.mem_append.1 hy with hy | hy
                · exact hc y hy
                · rw [List.mem_singleton.1 hy]; omega
              · refine ⟨⟨rfl,rfl,c+1,by omega,by omega,?_⟩,?_⟩
                · show List.take (M+1) (List.take (M+1) _++L8 R (([]++pre)++[(c:Int)]) (T-(([]++pre)++[(c:Int)]).length) (l-c))=_
                  rw [BR2,List.nil_append]
                  have e:T-(pre++[(c:Int)]).length=m:=by simp; omega
                  rw [e,List.range_succ,List.flatMap_append,List.append_assoc]
                  simp
                · show (20-((c:Int)+1)).toNat<(20-(c:Int)).toNat
                  omega
              · show T-(([]++pre)++[(c:Int)]).length<T-pre.length
                simp; omega
            · have:c=l+1:=by omega
              subst this; exact hq
        · rw [if_pos (by unfold ln at g2; omega)] at hk; exact hk
        · rw [if_neg (by unfold ln at g2; omega)] at hk; exact hk
end Go.Proofs.YtbgnaamdlcggjaaGreat
