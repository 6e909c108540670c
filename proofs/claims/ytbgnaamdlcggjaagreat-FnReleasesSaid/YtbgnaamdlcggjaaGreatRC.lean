import Derived.Test.YtbgnaamdlcggjaaGreatRA
set_option linter.unusedVariables false
set_option autoImplicit false
namespace Go.Proofs.YtbgnaamdlcggjaaGreat
open Go Go.RowKit Go.Gv
theorem DU3{R:List (List Int×Int)}{T:Nat}{cs ss:List Int}{n:Int}{vf:Int}{vs1:List Int}{vs2:List Int}{vm:Int}{k:Nat}{Q:List Int->List Int->Prop}(hR:∀ r∈R,Ab r.1/\r.1.length=T)(hRl:R.length<=12000)(hk:k<T)(hcl:cs.length=T)(hn : -8<=n/\n<=8)
    (hcb:∀ h:k<cs.length,0<=cs[k]/\cs[k]<=8) (hss:ss.length=R.length) (hsb:∀ s∈ss,0<=s/\s<=100000)
    (hq:∀ ss':List Int,ss'.length=R.length->(∀ j (h1:j<R.length) (h2:j<ss'.length) (h3:j<ss.length) (h4:k<R[j].1.length),ss'[j]=ss[j]+n * R[j].1[k])->∀ h:k<cs.length,Q (cs.set k (cs[k]+n)) ss') :
    D6 ⟨R.map mkC,cs,ss⟩ vf vs1 vs2 vm (k:Int) n Q:=by
  have hk':k<cs.length:=by omega
  have hc:=hcb hk'
  have hml:(R.map mkC).length=R.length:=by simp
  unfold D6
  dsimp only
  refine C4 hk' ⟨by omega,by omega,?_⟩
  rw [E9 (x:=cs[k]+n) (by omega) (by omega)]
  refine AM3 (by omega) (fun s i=>s.length=R.length/\∀ j (h1:j<R.length) (h2:j<s.length) (h3:j<ss.length) (h4:k<R[j].1.length),s[j]=if j<i then ss[j]+n * R[j].1[k] else ss[j]) ⟨hss,fun j h1 h2 h3 h4=>by simp⟩ ?_ ?_
  · rintro s i nx hi ⟨h1,h2⟩ hx
    have hi':i<R.length:=by omega
    have ⟨r1,r2⟩:=hR _ (List.getElem_mem hi')
    have em:(R.map mkC)[i]=mkC R[i]:=by simp
    refine C4 hi (C4 (by omega) ?_)
    rw [em]
    have h4:k<R[i].1.length:=by omega
    refine C4 (xs:=R[i].1) h4 ⟨by omega,by omega,?_⟩
    have hs:=h2 i hi' (by omega) (by omega) h4
    rw [if_neg (by omega)] at hs
    have hb:=hsb _ (List.getElem_mem (show i<ss.length by omega))
    have ha:=r1 _ (List.getElem_mem h4)
    have hm : -480<=n * R[i].1[k]/\n * R[i].1[k]<=480:=by
      by_cases c:0<=n
      · have:=BT1 ha ⟨c,hn.2⟩; rw [Int.mul_comm]; omega
      · have:=BT1 ha (c := -n) (by omega)
        have e:R[i].1[k] * -n = -(n * R[i].1[k]):=by rw [Int.mul_neg,Int.mul_comm]
        rw [e] at this; omega
    rw [hs]
    generalize hqq:n * R[i].1[k]=q at hm
    rw [E9 (x:=q) (by omega) (by omega),E9 (x:=ss[i]+q) (by omega) (by omega)]
    refine hx _ ⟨by simpa using h1,fun j g1 g2 g3 g4=>?_⟩
    rw [List.getElem_set]
    split
    · rename_i e
      have e:i=j:=by omega
      subst e; rw [if_pos (by omega),hqq]
    · rename_i e
      have:=h2 j g1 (by simpa using g2) g3 g4
      rw [this]
      by_cases c:j<i
      · rw [if_pos c,if_pos (by omega)]
      · rw [if_neg c,if_neg (by omega)]
  · rintro s ⟨h1,h2⟩
    rw [Int.toNat_natCast]
    refine hq s h1 (fun j g1 g2 g3 g4=>?_) hk'
    rw [h2 j g1 g2 g3 g4,if_pos (by omega)]
theorem EG0{R:List (List Int×Int)}{T M:Nat}(hR:∀ r∈R,Ab r.1/\r.1.length=T)(hT:T<=12)(hM:M<=20001)(hRl:R.length<=12000)
    (step:List Int×List Int->List Int->List Int×List Int) (Inv:Nat->List Int×List Int->Prop)
    (hY:∀ (found:Nat) (s:List Int×List Int) (cs:List Int) (Q:Bool->Int->List Int->List Int->Prop),found<M->Inv found s->cs.length=T->Cb cs->(Inv (found+1) (step s cs)->Q (decide ((found:Int)+1<(M:Int))) ((found:Int)+1) (step s cs).1 (step s cs).2)->E7 cs ((found:Int)) s.1 s.2 (M:Int) Q)
    {pre:List Int} {l found:Nat} {s:List Int×List Int} {Q:Bool->List Int->List Int->Int->List Int->List Int->Prop} (hp:pre.length<=T) (hc:Cb pre) (hl:l<=8) (hf:found<M) (hi:Inv found s)
    (hq:(∀ s':List Int×List Int,s'=((L8 R pre (T-pre.length) l).take (M-found)).foldl step s->Inv (min M (found+(L8 R pre (T-pre.length) l).length)) s'->Q (decide (found+(L8 R pre (T-pre.length) l).length<M)) (P6 T pre) (L6 R pre) ((min M (found+(L8 R pre (T-pre.length) l).length):Nat):Int) s'.1 s'.2)) :
    D4 ⟨R.map mkC,P6 T pre,L6 R pre⟩ (found:Int) s.1 s.2 (M:Int) (pre.length:Int) (l:Int) Q:=by
  unfold D4
  refine ⟨fun x vf vs1 vs2 vm k left Q=>∃ (pre:List Int) (l found:Nat) (s:List Int×List Int),x=⟨R.map mkC,P6 T pre,L6 R pre⟩/\vf=(found:Int)/\vs1=s.1/\vs2=s.2/\vm=(M:Int)/\k=(pre.length:Int)/\left=(l:Int)/\pre.length<=T/\Cb pre/\l<=8/\found<M/\Inv found s /\
      (∀ s':List Int×List Int,s'=((L8 R pre (T-pre.length) l).take (M-found)).foldl step s->Inv (min M (found+(L8 R pre (T-pre.length) l).length)) s'->Q (decide (found+(L8 R pre (T-pre.length) l).length<M)) (P6 T pre) (L6 R pre) ((min M (found+(L8 R pre (T-pre.length) l).length):Nat):Int) s'.1 s'.2),fun _ _ _ _ _ k _=>T-k.toNat,⟨pre,l,found,s,rfl,rfl,rfl,rfl,rfl,rfl,rfl,hp,hc,hl,hf,hi,hq⟩,?_⟩
  clear hp hc hl hf hi hq
  rintro x vf vs1 vs2 vm k left Q ⟨pre,l,found,s,rfl,rfl,rfl,rfl,rfl,rfl,rfl,hp,hc,hl,hf,hi,hq⟩
  dsimp only
  have hcl:=AQ2 hp
  have hsl:=R7 (R:=R) (pre:=pre)
  have hml:(R.map mkC).length=R.length:=by simp
  have none_:L8 R pre (T-pre.length) l=[]->Q true (P6 T pre) (L6 R pre) (found:Int) s.1 s.2:=fun e=>by
    have:=hq s (by rw [e]; simp)
    rw [e] at this
    simp only [List.length_nil,Nat.add_zero] at this
    rw [decide_eq_true hf,Nat.min_eq_right (by omega)] at this; exact this hi
  refine P8 (fun g=>?_) (fun g=>?_)
  · have eT:pre.length=T:=by unfold ln at g; omega
    refine E1 (fun g1=>none_ ?_) (fun g1=>?_)
    · rw [show T-pre.length=0 by omega,AB7,if_neg (by omega)]
    · refine F2 (by omega) (fun i=>∀ j (hj:j<R.length),j<i->dot R[j].1 pre=R[j].2) (fun j hj h=>by omega) (fun i nx hi hj hx=>C4 hi (C4 (by omega) ?_)) (fun hj=>?_)
      · have em:(R.map mkC)[i]=mkC R[i]:=by simp
        rw [em,P5]
        refine AT1 (fun g2=>none_ ?_) (fun g2=>hx fun j hj2 hji=>?_)
        · rw [show T-pre.length=0 by omega,AB7,if_neg]
          rintro ⟨_,hok⟩
          exact g2 (of_decide_eq_true (List.all_eq_true.1 hok _ (List.getElem_mem (show i<R.length by omega))))
        · by_cases e:j=i
          · subst e; exact g2
          · exact hj j hj2 (by omega)
      · rw [hml] at hj
        have hok:okR R pre=true:=List.all_eq_true.2 fun r hr=>by
          obtain ⟨j,hj2,rfl⟩:=List.mem_iff_getElem.1 hr
          exact decide_eq_true (hj j hj2 hj2)
        have ec:P6 T pre=pre:=by unfold P6; rw [show T-pre.length=0 by omega]; simp
        have es:L8 R pre (T-pre.length) l=[pre]:=by rw [show T-pre.length=0 by omega,AB7,if_pos ⟨by omega,hok⟩]
        have hq2:=hq (step s pre) (by rw [es,List.take_of_length_le (by simp only [List.length_singleton]; omega)]; rfl)
        rw [es] at hq2
        simp only [List.length_singleton] at hq2
        rw [Nat.min_eq_right (by omega)] at hq2
        have e:decide ((found:Int)+1<(M:Int))=decide (found+1<M):=by rw [Bool.eq_iff_iff]; simp; omega
        rw [ec] at hq2 ⊢
        refine hY found s pre _ hf hi eT hc fun hinv=>?_
        rw [e]
        exact hq2 hinv
  · have hpT:pre.length<T:=by unfold ln at g; omega
    obtain ⟨m,hm⟩:∃ m,T-pre.length=m+1:=⟨T-pre.length-1,by omega⟩
    rw [hm,BS5] at hq
    have hdb:∀ (cs:List Int),Cb cs->cs.length<=T->∀ s∈L6 R cs,0<=s/\s<=100000:=fun cs h1 h2 s hs=>by
      obtain ⟨r,hr,rfl⟩:=List.mem_map.1 hs
      have:=DG0 (am:=r.1) (cs:=cs) (hR r hr).1 h1
      omega
    refine AW6 ⟨fun n vf vs1 vs2 cs ss=>cs=P6 T pre/\ss=L6 R pre/\∃ (c:Nat) (u:List Int×List Int),n=(c:Int)/\c<=l+1/\vf=((found+((List.range c).flatMap fun (c:Nat)=>L8 R (pre++[(c:Int)]) m (l-c)).length:Nat):Int)/\vs1=u.1/\vs2=u.2/\u=((List.range c).flatMap fun (c:Nat)=>L8 R (pre++[(c:Int)]) m (l-c)).foldl step s/\found+((List.range c).flatMap fun (c:Nat)=>L8 R (pre++[(c:Int)]) m (l-c)).length<M/\Inv (found+((List.range c).flatMap fun (c:Nat)=>L8 R (pre++[(c:Int)]) m (l-c)).length) u,
      fun n _ _ _ _ _=>(20-n).toNat,⟨rfl,rfl,0,s,rfl,by omega,by simp,rfl,rfl,by simp,by simpa using hf,by simpa using hi⟩,?_⟩
    rintro _ _ _ _ _ _ ⟨rfl,rfl,c,u,rfl,hcl',rfl,rfl,rfl,hu,hlt,hinv⟩
    refine E1 (fun g1=>?_) (fun g1=>?_)
    · have hcle:c<=l:=by omega
      have hpc:Cb (pre++[(c:Int)]):=fun y hy=>by
        rcases List.mem_append.1 hy with hy | hy
        · exact hc y hy
        · rw [List.mem_singleton.1 hy]; omega
      have hlen1:(pre++[(c:Int)]).length=pre.length+1:=by simp
      refine F4 (xs:=R.map mkC) (by omega) (fun fits i=>(fits=true->∀ j (hj:j<R.length),j<i->dot R[j].1 (pre++[(c:Int)])<=R[j].2)/\(fits=false->∃ r∈R,r.2<dot r.1 (pre++[(c:Int)]))) ⟨fun _ j hj h=>by omega,fun h=>by cases h⟩ ?_ ?_
      · rintro fits i nx hi ⟨hj1,hj2⟩ hx
        have hi':i<R.length:=by omega
        have ⟨r1,r2⟩:=hR _ (List.getElem_mem hi')
        have em:(R.map mkC)[i]=mkC R[i]:=by simp
        have h4:pre.length<R[i].1.length:=by omega
        refine D3 (fits&&decide (dot R[i].1 (pre++[(c:Int)])<=R[i].2)) (hx _ ⟨fun h j hj hji=>?_,fun h=>?_⟩) fun k hk=>C4 hi ?_
        · simp only [Bool.and_eq_true,decide_eq_true_eq] at h
          by_cases e:j=i
          · subst e; exact h.2
          · exact hj1 h.1 j hj (by omega)
        · simp only [Bool.and_eq_false_iff,decide_eq_false_iff_not] at h
          rcases h with h | h
          · exact hj2 h
          · exact ⟨_,List.getElem_mem hi',by omega⟩
        · rw [em]
          refine K0 (fun g2=>C4 (by omega) (C4 (xs:=R[i].1) h4 ?_)) (fun g2=>?_)
          · have hs:=hdb pre hc hp _ (List.getElem_mem (show i<(L6 R pre).length by omega))
            rw [P5] at hs ⊢
            have ha:=BT1 (r1 _ (List.getElem_mem h4)) (c:=(c:Int)) (by omega)
            rw [g2,AH7 h4,Bool.true_and,Int.mul_comm] at hk
            rw [Int.mul_comm] at ha
            generalize hqq:(c:Int) * R[i].1[pre.length]=q at hk ha ⊢
            rw [E9 (x:=q) (by omega) (by omega),E9 (by omega) (by omega)]
            exact hk
          · rw [g2,Bool.false_and] at hk; exact hk
      · rintro fits ⟨hj1,hj2⟩
        have e1':T-(pre++[(c:Int)]).length=m:=by rw [hlen1]; omega
        refine F8 (fun g2=>?_) (fun g2=>?_)
        · obtain ⟨r,hr,hr2⟩:=hj2 g2
          have hz:∀ c':Nat,c<=c'->c'<=l->L8 R (pre++[(c':Int)]) m (l-c')=[]:=fun c' h1 h2=>by
            refine BP6 (fun r hr=>⟨(hR r hr).1,by rw [(hR r hr).2]; simp; omega⟩) (by omega) ⟨r,hr,?_⟩
            have h4:pre.length<r.1.length:=by rw [(hR r hr).2]; exact hpT
            rw [AH7 h4] at hr2 ⊢
            have ha:=(hR r hr).1 _ (List.getElem_mem h4)
            have:=Int.mul_le_mul_of_nonneg_left (show (c:Int)<=(c':Int) by omega) ha.1
            omega
          have hrest:∀ d,c+d<=l+1->((List.range (c+d)).flatMap fun (c:Nat)=>L8 R (pre++[(c:Int)]) m (l-c))=(List.range c).flatMap fun (c:Nat)=>L8 R (pre++[(c:Int)]) m (l-c):=by
            intro d
            induction d with
            | zero=>intro _; rfl
            | succ d ih =>
              intro hd
              have hz2:=hz (c+d) (by omega) (by omega)
              rw [← Nat.add_assoc,List.range_succ,List.flatMap_append,ih (by omega)]
              show _++(L8 R (pre++[((c+d:Nat):Int)]) m (l-(c+d))++[])=_
              rw [hz2,List.append_nil,List.append_nil]
          have:=hrest (l+1-c) (by omega)
          rw [show c+(l+1-c)=l+1 by omega] at this
          have hq3:=hq u (by rw [this,List.take_of_length_le (by omega)]; exact hu)
          rw [this,decide_eq_true hlt,Nat.min_eq_right (by omega)] at hq3
          exact hq3 hinv
        · refine DU3 hR hRl hpT hcl (by omega) (fun h=>by rw [BK8 hpT]; omega) hsl (hdb pre hc hp) fun ss1 n1 n2 h1=>?_
          have es:ss1=L6 R (pre++[(c:Int)]):=List.ext_getElem (by rw [n1,R7]) fun j g3 g4=>by
            have hj:j<R.length:=by omega
            have h4:pre.length<R[j].1.length:=by rw [(hR _ (List.getElem_mem hj)).2]; exact hpT
            rw [n2 j hj g3 (by omega) h4,P5,P5,AH7 h4,Int.mul_comm]
          subst es
          rw [BK8 hpT,Int.zero_add,BR4 hpT,E9 (x:=(pre.length:Int)+1) (by omega) (by omega),E9 (x:=(l:Int)-(c:Int)) (by omega) (by omega)]
          refine ⟨⟨pre++[(c:Int)],l-c,_,u,rfl,rfl,rfl,rfl,rfl,by simp,by omega,by simp; omega,hpc,by omega,hlt,hinv,fun u2 hu2 hinv2=>?_⟩,?_⟩
          · rw [e1'] at hu2 hinv2 ⊢
            have hcl1:(P6 T (pre++[(c:Int)])).length=T:=AQ2 (by simp; omega)
            rw [show wr (0-(c:Int)) = -(c:Int) by rw [E9 (by omega) (by omega)]; omega]
            refine DU3 hR hRl hpT hcl1 (by omega) (fun h=>by rw [BF9 hpT]; omega) R7 (hdb _ hpc (by simp; omega)) fun ss2 n3 n4 h2=>?_
            have es2:ss2=L6 R pre:=List.ext_getElem (by rw [n3,R7]) fun j g3 g4=>by
              have hj:j<R.length:=by omega
              have h4:pre.length<R[j].1.length:=by rw [(hR _ (List.getElem_mem hj)).2]; exact hpT
              rw [n4 j hj g3 (by rw [R7]; exact hj) h4,P5,P5,AH7 h4,Int.neg_mul,Int.mul_comm]
              omega
            subst es2
            rw [BF9 hpT,show (c:Int) + -(c:Int)=0 by omega,CC4 hpT]
            have happ:((List.range (c+1)).flatMap fun (c:Nat)=>L8 R (pre++[(c:Int)]) m (l-c))=((List.range c).flatMap fun (c:Nat)=>L8 R (pre++[(c:Int)]) m (l-c))++L8 R (pre++[(c:Int)]) m (l-c):=by
              rw [List.range_succ,List.flatMap_append]; simp
            have hnext:((List.range (c+1)).flatMap fun (c:Nat)=>L8 R (pre++[(c:Int)]) m (l-c)).length=((List.range c).flatMap fun (c:Nat)=>L8 R (pre++[(c:Int)]) m (l-c)).length+(L8 R (pre++[(c:Int)]) m (l-c)).length:=by rw [happ,List.length_append]
            refine F8 (fun g3=>?_) (fun g3=>?_)
            · have g3:=of_decide_eq_false g3
              have hall:((List.range (l+1)).flatMap fun (c:Nat)=>L8 R (pre++[(c:Int)]) m (l-c))=((List.range (c+1)).flatMap fun (c:Nat)=>L8 R (pre++[(c:Int)]) m (l-c))++((List.range (l-c)).map (fun x=>c+1+x)).flatMap fun (c:Nat)=>L8 R (pre++[(c:Int)]) m (l-c):=by
                have e3:List.range (l+1)=List.range (c+1)++(List.range (l-c)).map (fun x=>c+1+x):=by
                  have e:l+1=(c+1)+(l-c):=by omega
                  rw [e]; exact List.range_add
                rw [e3,List.flatMap_append]
              have hge:((List.range (c+1)).flatMap fun (c:Nat)=>L8 R (pre++[(c:Int)]) m (l-c)).length<=((List.range (l+1)).flatMap fun (c:Nat)=>L8 R (pre++[(c:Int)]) m (l-c)).length:=by rw [hall,List.length_append]; omega
              have hq3:=hq u2 (by
                rw [hu2,hu,hall,happ,List.append_assoc,List.take_append,List.foldl_append,List.take_of_length_le (show ((List.range c).flatMap fun (c:Nat)=>L8 R (pre++[(c:Int)]) m (l-c)).length<=M-found by omega)]
                congr 1
                rw [List.take_append_of_le_length (by omega)]
                congr 1; omega)
              rw [decide_eq_false (by omega),Nat.min_eq_left (by omega)] at hq3
              rw [Nat.min_eq_left (by omega)] at hinv2 ⊢
              exact hq3 hinv2
            · have g3:=of_decide_eq_true g3
              rw [Nat.min_eq_right (by omega)] at hinv2
              rw [E9 (x:=(c:Int)+1) (by omega) (by omega),Nat.min_eq_right (by omega)]
              refine ⟨⟨rfl,rfl,c+1,u2,by omega,by omega,by rw [hnext]; omega,rfl,rfl,?_,by rw [hnext]; omega,by rw [hnext,← Nat.add_assoc]; exact hinv2⟩,?_⟩
              · rw [happ,List.foldl_append,← hu,hu2,List.take_of_length_le (by omega)]
              · show (20-((c:Int)+1)).toNat<(20-(c:Int)).toNat
                omega
          · show T-((pre.length:Int)+1).toNat<T-(pre.length:Int).toNat
            omega
    · have e:c=l+1:=by omega
      subst e
      have hq3:=hq u (by rw [List.take_of_length_le (by omega)]; exact hu)
      rw [decide_eq_true hlt,Nat.min_eq_right (by omega)] at hq3
      exact hq3 hinv
theorem CK7{p:List Int}{sx:List A0}{l:List B0}{n M:Nat}{s:List Int×List Int}{Q:Int->List Int->List Int->Prop}(h:AN3 p sx l=true)(hn:n<=8)(hM:M<=20001)(h0:0<M)
    (step:List Int×List Int->List Int->List Int×List Int) (Inv:Nat->List Int×List Int->Prop)
    (hY:∀ (found:Nat) (s:List Int×List Int) (cs:List Int) (Q:Bool->Int->List Int->List Int->Prop),found<M->Inv found s->cs.length=nT p sx->Cb cs->(Inv (found+1) (step s cs)->Q (decide ((found:Int)+1<(M:Int))) ((found:Int)+1) (step s cs).1 (step s cs).2)->E7 cs ((found:Int)) s.1 s.2 (M:Int) Q)
    (hi:Inv 0 s) (hq:∀ s',s'=(((AA9 p sx l n).take M).foldl step s)->Inv (min M (AA9 p sx l n).length) s'->Q ((min M (AA9 p sx l n).length:Nat):Int) s'.1 s'.2):E8 ⟨p⟩ sx l (n:Int) (M:Int) s.1 s.2 Q:=by
  have ⟨a,b,c,d,e⟩:=CA4 h
  have key:∀ (Q2:Bool->List Int->List Int->Int->List Int->List Int->Prop),(∀ x y z s',s'=(((AA9 p sx l n).take M).foldl step s)->Inv (min M (AA9 p sx l n).length) s'->Q2 x y z ((min M (AA9 p sx l n).length:Nat):Int) s'.1 s'.2) ->
      D4 ⟨(L1 p sx l).map mkC,List.replicate (Int.toNat (nT p sx:Int)) 0,List.replicate (Int.toNat (ln ((L1 p sx l).map mkC))) 0⟩ 0 s.1 s.2 (M:Int) 0 (n:Int) Q2:=fun Q2 h2=>by
    have e1:List.replicate (Int.toNat (nT p sx:Int)) (0:Int)=P6 (nT p sx) []:=by unfold P6; simp
    have e2:List.replicate (Int.toNat (ln ((L1 p sx l).map mkC))) (0:Int)=L6 (L1 p sx l) []:=by
      refine List.ext_getElem (by unfold L6 ln; simp) fun j h1 h2=>?_
      rw [P5,BF0]; simp
    rw [e1,e2]
    refine EG0 (R:=L1 p sx l) (T:=nT p sx) (M:=M) (pre:=[]) (found:=0) (s:=s) (BL6 a b d) c hM e step Inv hY (Nat.zero_le _) (fun x hx=>by cases hx) hn h0 hi fun s' e3 e4=>?_
    have:=h2 (decide (0+(AA9 p sx l n).length<M)) (P6 (nT p sx) []) (L6 (L1 p sx l) []) s'
    simp only [Nat.zero_add,Nat.sub_zero,List.length_nil] at this e3 e4 ⊢
    exact this e3 e4
  have hb:=DP6 a b
  have hml:ln ((L1 p sx l).map mkC)=((L1 p sx l).length:Int):=by unfold ln; simp
  unfold E8
  refine AM8 (p:=p) a b c d ⟨(nT p sx:Int),AC2 (p:=p) a b rfl,?_⟩
  have k2:=key (fun _ _ _ r s1 s2=>Q r s1 s2) fun _ _ _=>hq
  first | exact ⟨by omega,by omega,by omega,by omega,k2⟩ | exact ⟨⟨by omega,by omega,by omega,by omega,k2⟩,⟨by omega,by omega,by omega,by omega,k2⟩,⟨by omega,by omega,by omega,by omega,k2⟩,⟨by omega,by omega,by omega,by omega,k2⟩⟩
end Go.Proofs.YtbgnaamdlcggjaaGreat
