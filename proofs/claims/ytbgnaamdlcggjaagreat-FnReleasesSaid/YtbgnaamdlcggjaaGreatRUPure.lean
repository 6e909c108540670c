import Derived.Test.YtbgnaamdlcggjaaGreatRT
set_option linter.unusedVariables false
set_option autoImplicit false
namespace Go.Proofs.YtbgnaamdlcggjaaGreat
open Go Go.RowKit Go.Gv
theorem DM7{p:List Int}{sx:List A0}{l:List Record}{i:Nat}(hi:i<l.length):CC0 p sx (l.take (i+1))=BP1 p sx (CC0 p sx (l.take i)) l[i]:=by
  unfold CC0
  rw [List.take_succ_eq_append_getElem hi,List.foldl_append]; rfl
theorem CE0{p:List Int}{sx:List A0}{l:List Record}{Q:List Int->Bool->Prop}(hp:p.length<=1048576)(hs:sx.length<=1048576)(hl:l.length<=1048576)(h0:(AP1 p sx&&AD2 p sx l)=false->Q [] false)
    (h1:(AP1 p sx&&AD2 p sx l)=true->Q (CC0 p sx l) true):AE0 ⟨p⟩ sx l Q:=by
  unfold AE0
  refine D3 (!(AP1 p sx&&AD2 p sx l)) (F8 (fun g=>h0 g) fun g=>?_) fun k hk=>BS9 (p:=p) hp hs (F8 (fun g=>?_) fun g=>?_)
  · have hq:=h1 g
    simp only [Bool.and_eq_true] at g
    have ⟨a,_,hL,hT⟩:=BF3 g.1
    have hsv:=g.2
    have hpl:=BW5 a
    have hc:=AB0 hL
    have hin:=CK6 hsv
    refine AC2 (p:=p) a hL ⟨by omega,by omega,W7 hL ?_⟩
    rw [Int.toNat_natCast]
    refine F4 (by omega) (fun cs i=>cs=CC0 p sx (l.take i)) rfl (fun cs i nx hi e hn=>?_) (fun cs e=>by rw [e,List.take_length]; exact hq)
    have hr:=hin _ (List.getElem_mem hi)
    have cb:=CZ6 (p:=p) hL (l:=l.take i) fun r hr=>hin r (List.mem_of_mem_take hr)
    have hn:=hn _ (DM7 hi).symm
    rw [← e] at cb hn
    have l40:=(BN6 hsv).1
    rw [List.length_take] at cb
    refine C4 hi (BD4 (p:=p) a ?_)
    generalize l[i]=r at hr hn
    have hk:=CL2 hL hr
    have ⟨ha1,ha2⟩:=BG7 hL hk.1
    have area:(lvs p)[tyK p sx r / cnt sx]=r.Area:=by rw [← hk.2.1,H9 ha1]
    refine F4 (xs:=lvs p) (by omega) (fun c2 j=>c2=if j<=tyK p sx r / cnt sx then cs else BP1 p sx cs r) (by rw [if_pos (Nat.zero_le _)]) (fun c2 j nx2 hj e2 hn2=>?_) (fun c2 e2=>by rw [e2,if_neg (by omega)]; exact hn)
    refine Z5 (fun K=>K (if j+1<=tyK p sx r / cnt sx then cs else BP1 p sx cs r)) (hn2 _ rfl) fun K hK=>C4 hj (P8 (fun c=>?_) (fun c=>?_))
    · have srt:Srt (lvs p):=BM2 _
      have c':(lvs p)[j]=r.Area:=c
      have ej:j=tyK p sx r / cnt sx:=srt.uniq hj ha1 (c'.trans area.symm)
      rw [if_pos (by omega)] at e2
      rw [if_neg (by omega)] at hK
      subst e2
      refine AW3 (vs:=r.Values) hL (CM6 hL hr) ?_
      rw [← hk.2.2,ej]
      have hkk:tyK p sx r / cnt sx * cnt sx+tyK p sx r % cnt sx=tyK p sx r:=by rw [Nat.mul_comm]; exact Nat.div_add_mod _ (cnt sx)
      have ew:=CW5 (a:=tyK p sx r / cnt sx) (b:=cnt sx) (c:=tyK p sx r % cnt sx) (n:=nT p sx) (by rw [hkk]; exact hk.1) (by omega)
      rw [ew,hkk]
      have hlt:tyK p sx r<c2.length:=by rw [cb.1]; exact hk.1
      refine C4 hlt ⟨by omega,by rw [Int.toNat_natCast]; exact hlt,?_⟩
      have hb:=cb.2 _ (List.getElem_mem hlt)
      rw [Int.toNat_natCast,E9 (x:=c2[tyK p sx r]+1) (by omega) (by omega)]
      unfold BP1 at hK
      rw [H9 hlt] at hK
      exact hK
    · have ne:j≠tyK p sx r / cnt sx:=fun e=>by subst e; exact c area
      rw [e2]
      by_cases hlt:j<=tyK p sx r / cnt sx
      · rw [if_pos hlt]; rw [if_pos (by omega)] at hK; exact hK
      · rw [if_neg hlt]; rw [if_neg (by omega)] at hK; exact hK
  · rw [g] at hk; exact hk
  · have ⟨a,_,hL,hT⟩:=BF3 g
    refine BT4 (p:=p) a hL hl ?_
    rw [g,Bool.true_and] at hk; exact hk
theorem DR4{a c:Int}(ha:0<=a/\a<=60)(hc:0<=c/\c<=40):0<=a * c/\a * c<=2400:=by
  refine ⟨Int.mul_nonneg ha.1 hc.1,?_⟩
  have h1:a * c<=60 * c:=Int.mul_le_mul_of_nonneg_right ha.2 hc.1
  omega
theorem DT6:∀ {am cs:List Int},Ab am->(∀ c∈cs,0<=c/\c<=40)->0<=dot am cs/\dot am cs<=2400 * (cs.length:Int)
  | [],[],_,_=>⟨Int.le_refl _,by simp [dot]⟩
  | [],_ :: cs,_,_=>⟨Int.le_refl _,by simp only [dot,List.length_cons]; omega⟩
  | _ :: _,[],_,_=>⟨Int.le_refl _,by simp [dot]⟩
  | a :: as,c :: cs,ha,hc=>by
    have h1:=DR4 (ha a (List.mem_cons_self ..)) (hc c (List.mem_cons_self ..))
    have h2:=DT6 (am:=as) (cs:=cs) (fun x hx=>ha x (List.mem_cons_of_mem _ hx)) (fun x hx=>hc x (List.mem_cons_of_mem _ hx))
    simp only [dot,List.length_cons]
    generalize a * c=q at h1
    omega
theorem DP0{R:List (List Int×Int)}{cs:List Int}{Q:Bool->Prop}(hR:∀ r∈R,Ab r.1/\r.1.length=cs.length)(hl:R.length<=12000)(hc:∀ c∈cs,0<=c/\c<=40)(hcl:cs.length<=12)(hok:okR R cs=true)(hq:Q true):BA8 (R.map mkC) cs Q:=by
  unfold BA8
  refine F2 (by rw [List.length_map]; omega) (fun _=>True) trivial (fun i nx hi _ hx=>C4 hi ?_) (fun _=>hq)
  have hi':i<R.length:=by rw [List.length_map] at hi; exact hi
  have mem:=List.getElem_mem hi'
  have eR:(R.map mkC)[i]=mkC R[i]:=by rw [List.getElem_map]
  have ⟨ab,al⟩:=hR _ mem
  have od:=of_decide_eq_true (List.all_eq_true.1 hok _ mem)
  rw [eR]
  generalize R[i]=r at ab al od
  refine F4 (by omega) (fun s j=>s=dot r.1 (cs.take j)) (by rw [List.take_zero,BF0]) (fun s j nx2 hj e hx2=>C4 hj (C4 (by show j<r.1.length; omega) ?_)) (fun s e=>?_)
  · have hj2:j<r.1.length:=by omega
    have et:(cs.take j).length=j:=by rw [List.length_take]; omega
    have ed:=AH7 (am:=r.1) (pre:=cs.take j) (n:=cs[j]) (by omega)
    have ec:cs.take (j+1)=cs.take j++[cs[j]]:=by rw [List.take_add_one,List.getElem?_eq_getElem hj]; rfl
    have b1:=DT6 (am:=r.1) (cs:=cs.take j) ab fun x hx=>hc x (List.mem_of_mem_take hx)
    have b2:=DR4 (ab _ (List.getElem_mem hj2)) (hc _ (List.getElem_mem hj))
    have e3:r.1[(cs.take j).length]'(by omega)=r.1[j]:=by congr 1
    rw [e3,← ec] at ed
    show nx2 (wr (s+wr (cs[j] * r.1[j]))) _
    rw [Int.mul_comm cs[j],E9 (x:=r.1[j] * cs[j]) (by omega) (by omega),E9 (by omega) (by omega)]
    exact hx2 _ (by rw [ed,e])
  · rw [List.take_length] at e
    exact AT1 (fun c=>absurd (e.trans od) c) fun _=>hx trivial
theorem EH7{p:List Int}{sx:List A0}{l:List Record}{ts:List Table}(hT:AP1 p sx=true)(h:BH8 p sx l ts=true):AN3 p sx (ts.map (CT9 p sx l))=true:=by
  have ⟨g1,g2,g3,g4,g5⟩:=BF7 h
  unfold AN3 S2
  simp only [Bool.and_eq_true,decide_eq_true_eq,List.length_map]
  refine ⟨hT,List.all_eq_true.2 fun b hb=>?_,g4⟩
  obtain ⟨t,ht,rfl⟩:=List.mem_map.1 hb
  have htk:=List.all_eq_true.1 g5 t ht
  have o:=BU8 g1 (AE2 g2) htk g3
  unfold AR2
  simp only [Bool.and_eq_true,decide_eq_true_eq]
  exact ⟨⟨htk,o.1⟩,List.all_eq_true.2 fun x hx=>U2.2 (by have:=o.2 x hx; omega)⟩
theorem DU9{p:List Int}{sx:List A0}{l:List Record}{ts:List Table}(w:WP2 p sx l ts):Wp (ptV p sx l ts):=by
  have h0:=w.t
  unfold ptV
  split
  · rename_i h
    have ⟨g1,g2,g3,g4,g5⟩:=BF7 h
    refine ⟨by rw [List.length_map]; omega,fun b hb=>?_⟩
    obtain ⟨t,ht,rfl⟩:=List.mem_map.1 hb
    have htk:=List.all_eq_true.1 g5 t ht
    have o:=(BU8 g1 (AE2 g2) htk g3).1
    have o6:=(DG6 htk).2
    exact ⟨w.tt t ht,by show (BU1 p sx t l).length<=_; omega⟩
  · exact ⟨by simp,fun b hb=>by cases hb⟩
theorem DC3{p:List Int}{sx:List A0}{l:List Record}{ts:List Table}{Q:Bool->Bool->Prop}(w:WP2 p sx l ts)(hT:AP1 p sx=true)(h:BH8 p sx l ts=true)(hq:Q true true):AT0 ⟨p⟩ sx (ts.map (CT9 p sx l)) (CC0 p sx l) Q:=by
  have ⟨g1,g2,g3,g4,g5⟩:=BF7 h
  have hat:=EH7 hT h
  have ⟨a,b,c,d,e⟩:=CA4 hat
  have hin:=CK6 g3
  have cb:=CZ6 (p:=p) b hin
  have l40:=(BN6 g3).1
  have wp:=DU9 w
  unfold ptV at wp; rw [if_pos h] at wp
  have hcb:∀ x∈CC0 p sx l,0<=x/\x<=40:=fun x hx=>by have:=cb.2 x hx; omega
  have hcl:=cb.1
  unfold AT0
  refine D3 false (G9 rfl ?_) fun k hk=>AQ4 (p:=p) w.p w.s wp (G9 (by rw [hat]; rfl) (AC2 (p:=p) a b (G9 (by unfold ln; rw [hcl]; simp) (BC0 (by omega) ?_))))
  · exact AM8 (p:=p) a b c d (DP0 (fun r hr=>by have ⟨x,y⟩:=BL6 a b d r hr; exact ⟨x,by omega⟩) e hcb (by omega) (EL5 a b g3 fun t ht=>List.all_eq_true.1 g5 t ht) hq)
  · rw [List.all_eq_true.2 fun x hx=>U2.2 (hcb x hx)]; exact hk
theorem CB5{a:List Int}{Q:Bool->Prop}(hl:a.length<=1048576)(h:Q true):AB1 a a Q:=by
  unfold AB1
  refine AT1 (fun c=>(c rfl).elim) fun _=>F2 (by omega) (fun _=>True) trivial (fun i nx hi _ hn=>?_) (fun _=>h)
  exact C4 hi (C4 hi (AT1 (fun c=>(c rfl).elim) fun _=>hn trivial))
theorem DF9{t:Table}{Q:Bool->Prop}(h1:t.Vars.length<=1048576)(h2:t.Where.length<=1048576)(h:Q true):AL7 t t Q:=by
  unfold AL7
  exact D3 true h fun k hk=>S1 (by simp) (CB5 h1 (S1 rfl (CB5 h2 (S1 rfl (by simpa using hk)))))
theorem EW3{a:List B0}{Q:Bool->Prop}(w:Wp a)(h:Q true):BB1 a a Q:=by
  have h0:=w.1
  unfold BB1
  refine AT1 (fun c=>(c rfl).elim) fun _=>F2 (by omega) (fun _=>True) trivial (fun i nx hi _ hn=>?_) (fun _=>h)
  have ⟨⟨a1,a2⟩,a3⟩:=w.2 _ (List.getElem_mem hi)
  exact D3 false (G9 rfl (hn trivial)) fun k hk=>C4 hi (C4 hi (DD9 true (DF9 a1 a2 rfl) (G9 rfl (C4 hi (C4 hi (DD9 true (CB5 a3 rfl) hk))))))
theorem EW9{l:List Int}{Q:Int->Prop}(hb:∀ x∈l,0<=x/\x<=40)(hl:l.length<=1000)(h:Q l.sum):BG1 l Q:=by
  unfold BG1
  have sb:∀ m:List Int,(∀ x∈m,0<=x/\x<=40)->0<=m.sum/\m.sum<=40 * (m.length:Int):=by
    intro m
    induction m with
    | nil=>intro _; simp
    | cons a m ih =>
      intro hm
      have:=ih fun x hx=>hm x (List.mem_cons_of_mem _ hx)
      have:=hm a (List.mem_cons_self ..)
      simp only [List.sum_cons,List.length_cons]; omega
  refine F4 (by omega) (fun s i=>s=(l.take i).sum) rfl (fun s i nx hi e hx=>C4 hi ?_) (fun s e=>by rw [e,List.take_length]; exact h)
  have e2:(l.take (i+1)).sum=(l.take i).sum+l[i]:=by
    rw [List.take_add_one,List.getElem?_eq_getElem hi,List.sum_append]; simp
  have:=sb (l.take i) fun x hx=>hb x (List.mem_of_mem_take hx)
  have hlen:(l.take i).length<=1000:=by rw [List.length_take]; omega
  have:=hb _ (List.getElem_mem hi)
  rw [e,E9 (by omega) (by omega)]
  exact hx _ e2.symm
theorem DN9{code:List B8}{Q:Geo->List A0->List Record->List Table->Prop}(hc:L0 code)(h:∀ p sx l ts,p.length<=40->AU4 sx->EP4 l->ts.length<=4->(∀ t∈ts,BH7 t)->Q ⟨p⟩ sx l ts):Q4 code Q:=by
  unfold Q4
  refine CL6 hc (by omega) fun p sx l a1 s1 hp hs hl p0 p1=>H8 hc (by unfold N0; omega) fun r a2 s2 q0 q1 _ q2 q3=>?_
  refine ⟨fun out k at1 _=>∃ n:Nat,k=(n:Int)/\n<=3/\out.length+n<=3/\(∀ x∈out,BH7 x)/\0<=at1/\at1+80 * (n:Int)<=a2+240,fun _ k _ _=>k.toNat,⟨r.toNat,by omega,by omega,by simp; omega,(fun x hx=>by cases hx),q2,by omega⟩,?_⟩
  rintro out k at1 s3 ⟨n,rfl,hn,hol,hob,g0,g1⟩
  refine E1 (fun c=>?_) (fun c=>?_)
  · refine CJ6 (p:=p) hc (by omega) hs (by omega) fun t a3 s4 t1 t2 u0 u1=>⟨by unfold ln; simp; omega,?_⟩
    rw [E9 (by omega) (by omega)]
    exact ⟨⟨n-1,by omega,by omega,by simp; omega,AR9 hob (⟨by omega,by omega⟩:BH7 t),u0,by omega⟩,by show ((n:Int)-1).toNat<(n:Int).toNat; omega⟩
  · refine Z5 (fun k=>∀ ts:List Table,ts.length<=4->(∀ t∈ts,BH7 t)->k ts) (fun ts t1 t2=>h _ _ _ _ hp hs hl t1 t2) fun k hk=>AR8 hc (by unfold N0; omega) fun b a3 s4 u0 u1=>K0 (fun _=>?_) (fun _=>hk _ (by omega) hob)
    exact CP1 (p:=p) hc (by omega) hs (by omega) fun t a4 s5 ht v0 v1=>⟨by unfold ln; simp; omega,hk _ (by simp; omega) (AR9 hob ht)⟩
theorem DM1{code:List B8}{Q:B0->Int->Prop}(hc:L0 code)(h:∀ b t,BH7 b.Table->b.Cells.length<=701->Q b t):W2 code Q:=by
  unfold W2
  refine BT7 hc (by omega) fun p sx l a1 s1 hp hs hl p0 p1=>BL1 hc hp hs hl (by omega) fun b a2 s2 b1 b2 q0 q1=>AA6 hc (by unfold N0; omega) (by simp) fun v hv a3 s3 u0 u1=>E1 (fun c=>?_) (fun c=>?_)
  · have hb:0<b.length:=by unfold ln at c; omega
    have:=b2 _ (List.getElem_mem hb)
    exact AE3 (i:=0) (by omega) hb (h _ _ this.1 this.2)
  · exact H8 hc (by unfold N0; omega) fun r a4 s4 v0 v1 _ v2 v3=>H8 hc (by unfold N0; omega) fun r2 a5 s5 w0 w1 _ w2 w3=>h _ _ ⟨by simp,by simp⟩ (by simp)
theorem DP4{code:List B8}{Q:Geo->List A0->List B0->Int->Prop}(hc:L0 code)(h:∀ p sx l n,WD p sx l->Q ⟨p⟩ sx l n):S0 code Q:=by
  unfold S0 Z3
  exact DN5 hc (by omega) fun p sx l n a1 s1 hp w hs p0 p1=>h _ _ _ _ w
theorem CU7(code more:List B8)(w0:Wf.wf code)(w1:Wf.wf more):AM9 code more (fun r=>r=true):=by
  have hc:L0 code:=w0.2
  have hm:L0 more:=w1.2
  unfold AM9
  refine K0 (fun _=>rfl) fun _=>DN9 hc fun p sx l ts hp hs hl t1 t2=>?_
  have ⟨s1,s2⟩:=hs.wide
  have hl0:=hl.1
  have w:WP2 p sx l ts:=⟨by omega,s1,s2,by omega,by omega,fun t ht=>by have:=t2 t ht; exact ⟨by have:=this.1; omega,by have:=this.2; omega⟩⟩
  refine CU3 (p:=p) w (CR7 (p:=p) w (DP4 hm fun p2 sx2 l2 n2 w2=>CW0 (p:=p2) w2 (CQ8 (p:=p2) w2 (DM1 hm fun b t b1 b2=>?_))))
  have c1:b.Table.Vars.length<=1048576:=by have:=b1.1; omega
  have c2:b.Table.Where.length<=1048576:=by have:=b1.2; omega
  refine DR8 (b:=b) c1 c2 (by omega) (DQ0 (b:=b) c1 c2 (by omega) ?_)
  have wv:=DU9 w
  have crl:=EC6 (p:=p2) (sx:=sx2) (l:=l2) (n:=n2)
  have hdl:(hdV b t).Cells.length<=1048576/\(hdV b t).Table.Vars.length<=1048576/\(hdV b t).Table.Where.length<=1048576:=by
    unfold hdV
    split
    · exact ⟨by simp; omega,c1,c2⟩
    · exact ⟨by simp,by simp,by simp⟩
  refine D3 false ?_ fun k hk=>G9 (by simp) (EW3 wv (G9 rfl (G9 (by simp) (CB5 (by omega) (G9 rfl (G9 (by simp) (CB5 hdl.1 (G9 rfl (DF9 (t:=(hdV b t).Table) hdl.2.1 hdl.2.2 hk)))))))))
  refine G9 rfl (Z5 (fun K=>K) ?_ fun K hK=>?_)
  · refine F8 (fun _=>rfl) fun g=>CE0 (p:=p) w.p w.s w.l (fun _=>S1 rfl rfl) fun g2=>G9 rfl ?_
    simp only [Bool.and_eq_true] at g2
    have ⟨g3,g4,g5,g6,g7⟩:=BF7 g
    have e:ptV p sx l ts=ts.map (CT9 p sx l):=by unfold ptV; rw [if_pos g]
    rw [e]
    have hin:=CK6 g5
    have hL:=AE2 g4
    have cb:=CZ6 (p:=p) hL hin
    have ⟨_,_,_,hT⟩:=BF3 g2.1
    refine DC3 (p:=p) w g2.1 g (D3 true rfl fun k hk=>S1 rfl (S1 rfl (EW9 (fun x hx=>by have:=cb.2 x hx; omega) (by have:=cb.1; omega) ?_)))
    rw [DR9 hL hin]
    have e2:((l.length:Int)==ln l)=true:=by unfold ln; simp
    rw [e2]; exact hk
  · cases hl2:l2 with
    | nil =>
      refine D3 false (G9 rfl hK) fun k hk=>K0 (fun _=>?_) (fun _=>hk)
      rw [show decide (ln ([]:List B0)>0)=false from rfl]; exact hk
    | cons b2 l3 =>
      refine D3 (trO p2 sx2 (b2 :: l3) n2) (K0 (fun g=>?_) (fun _=>hK)) fun k hk=>K0 (fun g=>?_) (fun g=>?_)
      · rw [hl2] at w2
        have wt:WD p2 sx2 l3:=⟨w2.p,w2.s,by have:=w2.b.1; rw [List.length_cons] at this; omega,fun x hx=>w2.b.2 x (List.mem_cons_of_mem _ hx)⟩
        have ⟨ga,_,gl⟩:=BZ8 g
        have e1:csB p2 sx2 (b2 :: l3) n2=true:=by unfold csB; rw [ga,decide_eq_true gl]; rfl
        have e2:csN p2 sx2 (b2 :: l3) n2=(AA9 p2 sx2 (b2 :: l3) n2.toNat).length:=by unfold csN; rw [if_pos ⟨ga,gl⟩]
        refine CC2 (p:=p2) w2 ⟨by omega,by rw [List.length_cons]; omega,by unfold ln; omega,?_⟩
        have e3:List.take (Int.toNat ((List.length (b2 :: l3):Int))-Int.toNat 1) (List.drop (Int.toNat 1) (b2 :: l3))=l3:=by
          show List.take (Int.toNat (((b2 :: l3).length:Nat):Int)-1) l3=l3
          rw [Int.toNat_natCast,List.length_cons,Nat.add_sub_cancel,List.take_length]
        rw [e3]
        refine ⟨(csN p2 sx2 l3 n2:Int),csB p2 sx2 l3 n2,CC2 (p:=p2) wt ⟨rfl,rfl⟩,?_⟩
        refine D3 false (G9 rfl hK) fun k hk=>G9 (by rw [e1]; rfl) (K0 (fun g3=>?_) (fun _=>hk))
        have g3':=g3
        unfold csB at g3'
        simp only [Bool.and_eq_true,decide_eq_true_eq] at g3'
        have e4:csN p2 sx2 l3 n2=(AA9 p2 sx2 l3 n2.toNat).length:=by unfold csN; rw [if_pos g3']
        have:=DN1 (p:=p2) (sx:=sx2) (b:=b2) (l:=l3) (n:=n2.toNat)
        rw [decide_eq_false (by omega)]; exact hk
      · rw [g] at hk
        rw [decide_eq_true (by unfold ln; rw [List.length_cons]; omega)]; exact hk
      · rw [g] at hk; exact hk
end Go.Proofs.YtbgnaamdlcggjaaGreat
