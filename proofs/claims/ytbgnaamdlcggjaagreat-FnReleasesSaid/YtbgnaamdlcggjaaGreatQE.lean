import Derived.Test.YtbgnaamdlcggjaaGreatQD
set_option linter.unusedVariables false
set_option autoImplicit false
namespace Go.Proofs.YtbgnaamdlcggjaaGreat
open Go Go.RowKit Go.Gv
theorem R7{R:List (List Int×Int)}{pre:List Int}:(L6 R pre).length=R.length:=by simp [L6]
theorem P5{R:List (List Int×Int)}{pre:List Int}{j:Nat}(h:j<(L6 R pre).length):(L6 R pre)[j]=dot (R[j]'(by rw [R7] at h; exact h)).1 pre:=by simp [L6]
theorem EC9{R:List (List Int×Int)}{T M:Nat}(hR:∀ r∈R,Ab r.1/\r.1.length=T)(hT:T<=12)(hM:M<=20001)(hRl:R.length<=12000)
    {pre:List Int} {l found:Nat} {Q:Bool->List Int->List Int->Int->Prop} (hp:pre.length<=T) (hc:Cb pre) (hl:l<=8) (hf:found<M)
    (hq:Q (decide (found+(L8 R pre (T-pre.length) l).length<M)) (P6 T pre) (L6 R pre) ((min M (found+(L8 R pre (T-pre.length) l).length):Nat):Int)) :
    E3 ⟨R.map mkC,P6 T pre,L6 R pre⟩ (found:Int) (M:Int) (pre.length:Int) (l:Int) Q:=by
  unfold E3
  refine ⟨fun x c13 c17 k left Q=>∃ (pre:List Int) (l found:Nat),x=⟨R.map mkC,P6 T pre,L6 R pre⟩/\c13=(found:Int)/\c17=(M:Int)/\k=(pre.length:Int)/\left=(l:Int)/\pre.length<=T/\Cb pre/\l<=8/\found<M /\
      Q (decide (found+(L8 R pre (T-pre.length) l).length<M)) (P6 T pre) (L6 R pre) ((min M (found+(L8 R pre (T-pre.length) l).length):Nat):Int),fun _ _ _ k _=>T-k.toNat,⟨pre,l,found,rfl,rfl,rfl,rfl,rfl,hp,hc,hl,hf,hq⟩,?_⟩
  clear hp hc hl hf hq
  rintro x c13 c17 k left Q ⟨pre,l,found,rfl,rfl,rfl,rfl,rfl,hp,hc,hl,hf,hq⟩
  dsimp only
  have hcl:=AQ2 hp
  have hsl:=R7 (R:=R) (pre:=pre)
  have hml:(R.map mkC).length=R.length:=by simp
  have none_:L8 R pre (T-pre.length) l=[]->Q true (P6 T pre) (L6 R pre) (found:Int):=fun e=>by
    rw [e] at hq
    simp only [List.length_nil,Nat.add_zero] at hq
    rw [decide_eq_true hf,Nat.min_eq_right (by omega)] at hq; exact hq
  refine P8 (fun g=>?_) (fun g=>?_)
  · have eT:pre.length=T:=by unfold ln at g; omega
    refine E1 (fun g1=>none_ ?_) (fun g1=>?_)
    · rw [show T-pre.length=0 by omega,AB7,if_neg (by omega)]
    · refine F2 (by omega) (fun i=>∀ j (hj:j<R.length),j<i->dot R[j].1 pre=R[j].2) (fun j hj h=>by omega) (fun i nx hi hj hx=>C4 hi (C4 (by omega) ?_)) (fun hj=>?_)
      · have em:(R.map mkC)[i]=mkC R[i]:=by simp
        rw [em,P5]
        refine AT1 (fun g2=>none_ ?_) (fun g2=>hx fun j hj2 hji=>?_)
        · rw [show T-pre.length=0 by omega,AB7,if_neg]
          rintro ⟨_,hok⟩
          exact g2 (of_decide_eq_true (List.all_eq_true.1 hok _ (List.getElem_mem (show i<R.length by omega))))
        · by_cases e:j=i
          · subst e; exact g2
          · exact hj j hj2 (by omega)
      · rw [hml] at hj
        have hok:okR R pre=true:=List.all_eq_true.2 fun r hr=>by
          obtain ⟨j,hj2,rfl⟩:=List.mem_iff_getElem.1 hr
          exact decide_eq_true (hj j hj2 hj2)
        unfold K5 AC8
        rw [show T-pre.length=0 by omega,AB7,if_pos ⟨by omega,hok⟩] at hq
        simp only [List.length_singleton] at hq
        rw [E9 (by omega) (by omega)]
        rw [Nat.min_eq_right (by omega)] at hq
        have e:decide ((found:Int)+1<(M:Int))=decide (found+1<M):=by rw [Bool.eq_iff_iff]; simp; omega
        rw [e]
        exact hq
  · have hpT:pre.length<T:=by unfold ln at g; omega
    obtain ⟨m,hm⟩:∃ m,T-pre.length=m+1:=⟨T-pre.length-1,by omega⟩
    rw [hm,BS5] at hq
    have hdb:∀ (cs:List Int),Cb cs->cs.length<=T->∀ s∈L6 R cs,0<=s/\s<=100000:=fun cs h1 h2 s hs=>by
      obtain ⟨r,hr,rfl⟩:=List.mem_map.1 hs
      have:=DG0 (am:=r.1) (cs:=cs) (hR r hr).1 h1
      omega
    refine AW6 ⟨fun n f cs ss=>cs=P6 T pre/\ss=L6 R pre/\∃ c:Nat,n=(c:Int)/\c<=l+1/\f=((found+((List.range c).flatMap fun (c:Nat)=>L8 R (pre++[(c:Int)]) m (l-c)).length:Nat):Int)/\found+((List.range c).flatMap fun (c:Nat)=>L8 R (pre++[(c:Int)]) m (l-c)).length<M,
      fun n _ _ _=>(20-n).toNat,⟨rfl,rfl,0,rfl,by omega,by simp,by simpa using hf⟩,?_⟩
    rintro _ _ _ _ ⟨rfl,rfl,c,rfl,hcl',rfl,hlt⟩
    refine E1 (fun g1=>?_) (fun g1=>?_)
    · have hcle:c<=l:=by omega
      have hpc:Cb (pre++[(c:Int)]):=fun y hy=>by
        rcases List.mem_append.1 hy with hy | hy
        · exact hc y hy
        · rw [List.mem_singleton.1 hy]; omega
      have hlen1:(pre++[(c:Int)]).length=pre.length+1:=by simp
      refine F4 (xs:=R.map mkC) (by omega) (fun fits i=>(fits=true->∀ j (hj:j<R.length),j<i->dot R[j].1 (pre++[(c:Int)])<=R[j].2)/\(fits=false->∃ r∈R,r.2<dot r.1 (pre++[(c:Int)]))) ⟨fun _ j hj h=>by omega,fun h=>by cases h⟩ ?_ ?_
      · rintro fits i nx hi ⟨hj1,hj2⟩ hx
        have hi':i<R.length:=by omega
        have ⟨r1,r2⟩:=hR _ (List.getElem_mem hi')
        have em:(R.map mkC)[i]=mkC R[i]:=by simp
        have h4:pre.length<R[i].1.length:=by omega
        refine D3 (fits&&decide (dot R[i].1 (pre++[(c:Int)])<=R[i].2)) (hx _ ⟨fun h j hj hji=>?_,fun h=>?_⟩) fun k hk=>C4 hi ?_
        · simp only [Bool.and_eq_true,decide_eq_true_eq] at h
          by_cases e:j=i
          · subst e; exact h.2
          · exact hj1 h.1 j hj (by omega)
        · simp only [Bool.and_eq_false_iff,decide_eq_false_iff_not] at h
          rcases h with h | h
          · exact hj2 h
          · exact ⟨_,List.getElem_mem hi',by omega⟩
        · rw [em]
          refine K0 (fun g2=>C4 (by omega) (C4 (xs:=R[i].1) h4 ?_)) (fun g2=>?_)
          · have hs:=hdb pre hc hp _ (List.getElem_mem (show i<(L6 R pre).length by omega))
            rw [P5] at hs ⊢
            have ha:=BT1 (r1 _ (List.getElem_mem h4)) (c:=(c:Int)) (by omega)
            rw [g2,AH7 h4,Bool.true_and,Int.mul_comm] at hk
            rw [Int.mul_comm] at ha
            generalize hqq:(c:Int) * R[i].1[pre.length]=q at hk ha ⊢
            rw [E9 (x:=q) (by omega) (by omega),E9 (by omega) (by omega)]
            exact hk
          · rw [g2,Bool.false_and] at hk; exact hk
      · rintro fits ⟨hj1,hj2⟩
        have e1':T-(pre++[(c:Int)]).length=m:=by rw [hlen1]; omega
        refine F8 (fun g2=>?_) (fun g2=>?_)
        · obtain ⟨r,hr,hr2⟩:=hj2 g2
          have hz:∀ c':Nat,c<=c'->c'<=l->L8 R (pre++[(c':Int)]) m (l-c')=[]:=fun c' h1 h2=>by
            refine BP6 (fun r hr=>⟨(hR r hr).1,by rw [(hR r hr).2]; simp; omega⟩) (by omega) ⟨r,hr,?_⟩
            have h4:pre.length<r.1.length:=by rw [(hR r hr).2]; exact hpT
            rw [AH7 h4] at hr2 ⊢
            have ha:=(hR r hr).1 _ (List.getElem_mem h4)
            have:=Int.mul_le_mul_of_nonneg_left (show (c:Int)<=(c':Int) by omega) ha.1
            omega
          have hrest:∀ d,c+d<=l+1->((List.range (c+d)).flatMap fun (c:Nat)=>L8 R (pre++[(c:Int)]) m (l-c))=(List.range c).flatMap fun (c:Nat)=>L8 R (pre++[(c:Int)]) m (l-c):=by
            intro d
            induction d with
            | zero=>intro _; rfl
            | succ d ih =>
              intro hd
              have hz2:=hz (c+d) (by omega) (by omega)
              rw [← Nat.add_assoc,List.range_succ,List.flatMap_append,ih (by omega)]
              show _++(L8 R (pre++[((c+d:Nat):Int)]) m (l-(c+d))++[])=_
              rw [hz2,List.append_nil,List.append_nil]
          have:=hrest (l+1-c) (by omega)
          rw [show c+(l+1-c)=l+1 by omega] at this
          rw [this,decide_eq_true hlt,Nat.min_eq_right (by omega)] at hq
          exact hq
        · refine DW8 hR hRl hpT hcl (by omega) (fun h=>by rw [BK8 hpT]; omega) hsl (hdb pre hc hp) fun ss1 n1 n2 h1=>?_
          have es:ss1=L6 R (pre++[(c:Int)]):=List.ext_getElem (by rw [n1,R7]) fun j g3 g4=>by
            have hj:j<R.length:=by omega
            have h4:pre.length<R[j].1.length:=by rw [(hR _ (List.getElem_mem hj)).2]; exact hpT
            rw [n2 j hj g3 (by omega) h4,P5,P5,AH7 h4,Int.mul_comm]
          subst es
          rw [BK8 hpT,Int.zero_add,BR4 hpT,E9 (x:=(pre.length:Int)+1) (by omega) (by omega),E9 (x:=(l:Int)-(c:Int)) (by omega) (by omega)]
          refine ⟨⟨pre++[(c:Int)],l-c,_,rfl,rfl,rfl,by simp,by omega,by simp; omega,hpc,by omega,hlt,?_⟩,?_⟩
          · rw [e1']
            have hcl1:(P6 T (pre++[(c:Int)])).length=T:=AQ2 (by simp; omega)
            rw [show wr (0-(c:Int)) = -(c:Int) by rw [E9 (by omega) (by omega)]; omega]
            refine DW8 hR hRl hpT hcl1 (by omega) (fun h=>by rw [BF9 hpT]; omega) R7 (hdb _ hpc (by simp; omega)) fun ss2 n3 n4 h2=>?_
            have es2:ss2=L6 R pre:=List.ext_getElem (by rw [n3,R7]) fun j g3 g4=>by
              have hj:j<R.length:=by omega
              have h4:pre.length<R[j].1.length:=by rw [(hR _ (List.getElem_mem hj)).2]; exact hpT
              rw [n4 j hj g3 (by rw [R7]; exact hj) h4,P5,P5,AH7 h4,Int.neg_mul,Int.mul_comm]
              omega
            subst es2
            rw [BF9 hpT,show (c:Int) + -(c:Int)=0 by omega,CC4 hpT]
            have hnext:((List.range (c+1)).flatMap fun (c:Nat)=>L8 R (pre++[(c:Int)]) m (l-c)).length=((List.range c).flatMap fun (c:Nat)=>L8 R (pre++[(c:Int)]) m (l-c)).length+(L8 R (pre++[(c:Int)]) m (l-c)).length:=by
              rw [List.range_succ,List.flatMap_append,List.length_append]; simp
            refine F8 (fun g3=>?_) (fun g3=>?_)
            · have g3:=of_decide_eq_false g3
              have hge:((List.range (c+1)).flatMap fun (c:Nat)=>L8 R (pre++[(c:Int)]) m (l-c)).length<=((List.range (l+1)).flatMap fun (c:Nat)=>L8 R (pre++[(c:Int)]) m (l-c)).length:=by
                have e3:List.range (l+1)=List.range (c+1)++(List.range (l-c)).map (fun x=>c+1+x):=by
                  have e:l+1=(c+1)+(l-c):=by omega
                  rw [e]; exact List.range_add
                rw [e3,List.flatMap_append,List.length_append]; omega
              rw [decide_eq_false (by omega),Nat.min_eq_left (by omega)] at hq
              rw [Nat.min_eq_left (by omega)]
              exact hq
            · have g3:=of_decide_eq_true g3
              rw [E9 (x:=(c:Int)+1) (by omega) (by omega),Nat.min_eq_right (by omega)]
              refine ⟨⟨rfl,rfl,c+1,by omega,by omega,by rw [hnext]; omega,by rw [hnext]; omega⟩,?_⟩
              show (20-((c:Int)+1)).toNat<(20-(c:Int)).toNat
              omega
          · show T-((pre.length:Int)+1).toNat<T-(pre.length:Int).toNat
            omega
    · have e:c=l+1:=by omega
      subst e
      rw [decide_eq_true hlt,Nat.min_eq_right (by omega)] at hq
      exact hq
end Go.Proofs.YtbgnaamdlcggjaaGreat
