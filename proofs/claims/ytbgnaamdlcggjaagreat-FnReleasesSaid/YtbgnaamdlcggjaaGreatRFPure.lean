import Derived.Test.YtbgnaamdlcggjaaGreatRC
import Derived.Test.YtbgnaamdlcggjaaGreatRE
set_option linter.unusedVariables false
set_option autoImplicit false
namespace Go.Proofs.YtbgnaamdlcggjaaGreat
open Go Go.RowKit Go.Gv
def trO(p:List Int)(sx:List A0)(l:List B0)(n:Int):Bool:=BG8 p sx l n&&(decide (1<=(AA9 p sx l n.toNat).length)&&decide ((AA9 p sx l n.toNat).length<=20000))
def trV(p:List Int)(sx:List A0)(l:List B0)(n:Int):St:=if trO p sx l n=true then rg (AA9 p sx l n.toNat) else ([],[])
theorem BU6{p:List Int}{sx:List A0}{l:List B0}{n:Int}(g:BG8 p sx l n=true):AN3 p sx l=true/\0<nT p sx/\nT p sx<=12/\n.toNat<=8/\((n.toNat:Nat):Int)=n:=by
  unfold BG8 at g
  simp only [Bool.and_eq_true] at g
  have hn:=U2.1 g.2
  have ⟨a,b,c,d,e⟩:=CA4 g.1
  exact ⟨g.1,EW6 a b,c,by omega,by omega⟩
theorem EJ4{p:List Int}{sx:List A0}{l:List B0}{n:Int}{Q:List (List Int)->Bool->Prop}(w:WD p sx l)(hf:trO p sx l n=false->∀ x,Q x false)(ht:trO p sx l n=true->Q (AA9 p sx l n.toNat) true):BG0 ⟨p⟩ sx l n Q:=by
  unfold BG0
  refine DL1 (p:=p) w.p w.s.1 w.s.2 w.b (F8 (fun g=>?_) (fun g=>?_))
  · have g':BG8 p sx l n=false:=g
    exact hf (by unfold trO; rw [g',Bool.false_and]) _
  · have g':BG8 p sx l n=true:=g
    have ⟨h1,h2,h3,h4,en⟩:=BU6 g'
    have goal:AM6 ⟨p⟩ sx l ((n.toNat:Nat):Int) ((20000:Nat):Int) (fun r22=>K2 (ln r22) 1 20000 fun r34=>Q r22 r34):=by
      refine DP8 (p:=p) (M:=20000) h1 (by omega) (by omega) (T6 ?_)
      have e:(decide (1<=ln ((AA9 p sx l n.toNat).take (20000+1)))&&decide (ln ((AA9 p sx l n.toNat).take (20000+1))<=20000))=trO p sx l n:=by
        unfold trO
        rw [g',Bool.true_and,Bool.eq_iff_iff]
        unfold ln
        rw [List.length_take]
        simp only [Bool.and_eq_true,decide_eq_true_eq]
        omega
      rw [e]
      cases ho:trO p sx l n with
      | false=>exact hf ho _
      | true =>
        have ho2:=ho
        unfold trO at ho2
        simp only [Bool.and_eq_true,decide_eq_true_eq] at ho2
        rw [List.take_of_length_le (by omega)]
        exact ht ho
    rw [en] at goal
    exact goal
theorem BZ8{p:List Int}{sx:List A0}{l:List B0}{n:Int}(h:trO p sx l n=true):BG8 p sx l n=true/\1<=(AA9 p sx l n.toNat).length/\(AA9 p sx l n.toNat).length<=20000:=by
  unfold trO at h
  simp only [Bool.and_eq_true,decide_eq_true_eq] at h
  exact ⟨h.1,h.2.1,h.2.2⟩
theorem DA8{p:List Int}{sx:List A0}{l:List B0}{n:Int}{Q:List Int->List Int->Bool->Prop}(w:WD p sx l)(hq:Q (trV p sx l n).1 (trV p sx l n).2 (trO p sx l n)):AD4 ⟨p⟩ sx l n Q:=by
  unfold AD4
  refine EJ4 (p:=p) w (fun h x=>S1 rfl ?_) (fun h=>G9 rfl ?_)
  · unfold trV at hq; rw [h] at hq; simpa using hq
  · have ⟨g,h1,h2⟩:=BZ8 h
    have ⟨_,hT,hT2,_,_⟩:=BU6 g
    unfold trV at hq
    rw [if_pos h,h] at hq
    have hall:∀ t∈AA9 p sx l n.toNat,t.length=nT p sx:=fun t ht=>(CA0 ht).1
    generalize AA9 p sx l n.toNat=L at h1 h2 hall hq
    match L,h1 with
    | t :: r,_ =>
      have ht:=hall t (List.mem_cons_self ..)
      refine C4 (by simp) (C4 (by simp) (AL9 (by show t.length<=_; omega) (AL9 (by show t.length<=_; omega) ?_)))
      refine BK3 (xs:=t :: r) (by omega) (fun lo hi i=>(lo,hi)=((t :: r).take i).foldl BR8 (t,t)/\lo.length=nT p sx/\hi.length=nT p sx) ⟨rfl,ht,ht⟩ ?_ ?_
      · rintro lo hi i nx hi' ⟨e,n1,n2⟩ hx
        have hv:=hall _ (List.getElem_mem hi')
        refine C4 hi' ?_
        have e2:(zmn lo (t :: r)[i],zmx hi (t :: r)[i])=((t :: r).take (i+1)).foldl BR8 (t,t):=by
          rw [List.take_add_one,List.getElem?_eq_getElem hi',List.foldl_append,← e]; rfl
        have hx:=hx _ _ ⟨e2,by rw [BA1 (by omega),hv],by rw [BC1 (by omega),hv]⟩
        generalize (t :: r)[i]=v at hv hx
        have l1:=BA1 (lo:=lo) (v:=v) (by omega)
        have l2:=BC1 (lo:=hi) (v:=v) (by omega)
        refine BK3 (xs:=v) (by omega) (fun a b j=>a=AZ0 (zmn lo v) lo j/\b=AZ0 (zmx hi v) hi j) ⟨BG6.symm,BG6.symm⟩ ?_ ?_
        · rintro a b j nx2 hj ⟨rfl,rfl⟩ hx2
          have m1:(AZ0 (zmn lo v) lo j).length=lo.length:=BN9 (by omega) (by omega)
          have m2:(AZ0 (zmx hi v) hi j).length=hi.length:=BN9 (by omega) (by omega)
          refine C4 hj (C4 (by omega) (CZ4 ⟨by omega,by omega,C4 (by omega) (DP1 ⟨by omega,by omega,?_⟩)⟩))
          rw [BW1 (by omega) (by omega) (by omega),BW1 (by omega) (by omega) (by omega),Int.toNat_natCast]
          refine hx2 _ _ ⟨?_,?_⟩
          · rw [← BN1 (by omega) (by omega)]; congr 1; unfold zmn; rw [List.getElem_zipWith]
          · rw [← BN1 (by omega) (by omega)]; congr 1; unfold zmx; rw [List.getElem_zipWith]
        · rintro a b ⟨rfl,rfl⟩
          rw [BN2 (by omega) (by omega),BN2 (by omega) (by omega)]; exact hx
      · rintro lo hi ⟨e,_,_⟩
        rw [List.take_of_length_le (Nat.le_refl _)] at e
        have e3:rg (t :: r)=(lo,hi):=e.symm
        rw [e3] at hq
        exact hq
theorem DA6{p:List Int}{sx:List A0}{l:List B0}{n:Int}{Q:List Int->List Int->Bool->Prop}(g:BG8 p sx l n=true)(hq:Q (trV p sx l n).1 (trV p sx l n).2 (trO p sx l n)):K8 ⟨p⟩ sx l n Q:=by
  have ⟨h1,hT,hT2,h4,en⟩:=BU6 g
  unfold K8
  have goal:E8 ⟨p⟩ sx l ((n.toNat:Nat):Int) ((20001:Nat):Int) [] [] (fun r37 r38 r39=>jn (fun (k:Bool->Prop)=>br (r37==0) (k true)<|k (decide (r37>20000)))<|fun (x65:Bool)=>br (x65) (Q [] [] false)<|Q r38 r39 true):=by
    refine CK7 (p:=p) (M:=20001) (s:=([],[])) h1 h4 (by omega) (by omega) stp (fun found s=>(found=0/\s.1=[])∨(0<found/\s.1.length=nT p sx/\s.2.length=nT p sx)) (fun found s cs Q2 f1 f2 f3 f4 f5=>?_) (.inl ⟨rfl,rfl⟩) fun s' e1 e2=>?_
    · have hl:=EL3 (s:=s) (v:=cs) f3 (f2.imp (·.2) (·.2))
      have f5:=f5 (.inr ⟨by omega,hl⟩)
      unfold E7 N1 AH4
      rw [E9 (by omega) (by omega)]
      unfold stp at f5
      refine AW6 (P8 (fun c=>?_) (fun c=>?_))
      · have c:s.1=[]:=List.eq_nil_of_length_eq_zero (by unfold ln at c; omega)
        rw [if_pos c] at f5
        refine ⟨by unfold ln; simp; omega,by unfold ln; simp; omega,by unfold ln; simp; omega,?_⟩
        rw [List.nil_append]
        exact CJ9 rfl rfl (by omega) f5
      · have c':s.1≠[]:=fun e=>by rw [e] at c; exact c rfl
        rw [if_neg c'] at f5
        rcases f2 with f2 | f2
        · exact absurd f2.2 c'
        · exact CJ9 (by omega) (by omega) (by omega) f5
    · have hall:∀ t∈AA9 p sx l n.toNat,t.length=nT p sx:=fun t ht=>(CA0 ht).1
      refine D3 (!trO p sx l n) ?_ fun k hk=>P8 (fun c=>?_) (fun c=>?_)
      · cases ho:trO p sx l n with
        | false =>
          unfold trV at hq; rw [ho] at hq
          exact S1 rfl (by simpa using hq)
        | true =>
          have ⟨_,a1,a2⟩:=BZ8 ho
          unfold trV at hq; rw [ho,if_pos rfl] at hq
          rw [List.take_of_length_le (by omega),(DD1 hT hall).1] at e1
          rw [← e1] at hq
          exact G9 rfl hq
      · have e:trO p sx l n=false:=by
          rw [Bool.eq_false_iff]; intro ho
          have ⟨_,a1,a2⟩:=BZ8 ho
          omega
        rw [e] at hk; exact hk
      · have e:decide (((min 20001 (AA9 p sx l n.toNat).length:Nat):Int)>20000)=!trO p sx l n:=by
          unfold trO
          rw [g,Bool.true_and,Bool.eq_iff_iff]
          simp only [decide_eq_true_eq,Bool.not_eq_true',Bool.and_eq_false_iff,decide_eq_false_iff_not]
          omega
        rw [e]; exact hk
  rw [en] at goal
  exact goal
theorem DC7{p:List Int}{sx:List A0}{l:List B0}{n:Int}{Q:List Int->List Int->Bool->Prop}(w:WD p sx l)(hq:Q (trV p sx l n).1 (trV p sx l n).2 (trO p sx l n)):AD5 ⟨p⟩ sx l n Q:=by
  unfold AD5
  refine D3 (!BG8 p sx l n) ?_ fun k hk=>AQ4 (p:=p) w.p w.s.1 w.b (F8 (fun g=>?_) (fun g=>BM1 ?_))
  · refine F8 (fun g=>?_) (fun g=>DA6 g hq)
    have e:trO p sx l n=false:=by unfold trO; rw [g,Bool.false_and]
    unfold trV at hq; rw [e] at hq; simpa using hq
  · unfold BG8 at hk; rw [g] at hk; exact hk
  · unfold BG8 at hk; rw [g,Bool.true_and] at hk; exact hk
theorem BP4{p:List Int}{sx:List A0}{l:List B0}{n:Int}:(trV p sx l n).1.length<=12/\(trV p sx l n).2.length=(trV p sx l n).1.length:=by
  unfold trV
  split
  · rename_i h
    have ⟨g,h1,h2⟩:=BZ8 h
    have ⟨_,hT,hT2,_,_⟩:=BU6 g
    have:=(DD1 hT (fun t ht=>(CA0 (p:=p) (sx:=sx) (l:=l) (n:=n.toNat) (t:=t) ht).1)).2 (fun e=>by rw [e] at h1; simp at h1)
    omega
  · simp
def ctV(s:St):List Int:=((List.range s.1.length).filter fun i=>decide (0<s.1.getD i 0)&&decide (s.1.getD i 0=s.2.getD i 0)).map fun (i:Nat)=>(i:Int)
theorem CA8{s:St}{Q:List Int->Prop}{E:Int->Int->Bool}(hE:∀ a b,E a b=decide (a=b))(h1:s.1.length<=12)(h2:s.2.length=s.1.length)(hq:Q (ctV s)) :
    J6 (fun (out:List Int) (x41:Int) nx=>br (decide (x41<(ln s.1))) (jn (fun (k:(List Int)->Prop)=>idx s.1 x41 fun x66 =>
      jn (fun (k75:Bool->Prop)=>br (decide (x66>0)) (idx s.2 x41 fun x78=>k75 (E x66 x78))<|k75 false) <|
      fun (x73:Bool)=>br (x73) ((ln out+ln ([x41])) * 8<=140737488355328/\(k (out++([x41]))))<|k out) <|
      fun (out52:List Int)=>nx out52 (wr (x41+1)))<|Q out) ([]) 0:=by
  refine F4 (by omega) (fun out i=>out=((List.range i).filter fun i=>decide (0<s.1.getD i 0)&&decide (s.1.getD i 0=s.2.getD i 0)).map fun (i:Nat)=>(i:Int)) rfl ?_ ?_
  · rintro out i nx hi rfl hx
    have g1:s.1.getD i 0=s.1[i]:=by simp [hi]
    have g2:s.2.getD i 0=s.2[i]'(by omega):=by simp [show i<s.2.length by omega]
    have hlen:((List.range i).filter fun i=>decide (0<s.1.getD i 0)&&decide (s.1.getD i 0=s.2.getD i 0)).length<=12:=by
      have:=List.length_filter_le (fun i=>decide (0<s.1.getD i 0)&&decide (s.1.getD i 0=s.2.getD i 0)) (List.range i)
      rw [List.length_range] at this; omega
    have hx:=hx _ rfl
    refine AW6 (C4 hi ?_)
    refine D3 (decide (0<s.1.getD i 0)&&decide (s.1.getD i 0=s.2.getD i 0)) ?_ fun k hk=>E1 (fun g=>C4 (by omega) ?_) (fun g=>?_)
    · cases hb:(decide (0<s.1.getD i 0)&&decide (s.1.getD i 0=s.2.getD i 0)) with
      | true =>
        refine S1 rfl ⟨by unfold ln; simp only [List.length_map,List.length_cons,List.length_nil]; omega,?_⟩
        simp only [List.range_succ,List.filter_append,List.map_append,List.filter_cons,List.filter_nil,hb,if_true,List.map_cons,List.map_nil] at hx
        exact hx
      | false =>
        simp only [List.range_succ,List.filter_append,List.map_append,List.filter_cons,List.filter_nil,hb,Bool.false_eq_true,if_false,List.map_nil,List.append_nil] at hx
        exact G9 rfl hx
    · rw [g1,g2,decide_eq_true (by omega),Bool.true_and] at hk
      rw [hE]; exact hk
    · rw [g1,decide_eq_false (by omega),Bool.false_and] at hk; exact hk
  · rintro out rfl; exact hq
def crV(p:List Int)(sx:List A0)(l:List B0)(n:Int):List Int:=if trO p sx l n=true then ctV (trV p sx l n) else []
theorem EC6{p:List Int}{sx:List A0}{l:List B0}{n:Int}:(crV p sx l n).length<=12:=by
  unfold crV
  split
  · unfold ctV
    rw [List.length_map]
    have:=List.length_filter_le (fun i=>decide (0<(trV p sx l n).1.getD i 0)&&decide ((trV p sx l n).1.getD i 0=(trV p sx l n).2.getD i 0)) (List.range (trV p sx l n).1.length)
    rw [List.length_range] at this
    have:=(BP4 (p:=p) (sx:=sx) (l:=l) (n:=n)).1
    omega
  · simp
theorem CQ8{p:List Int}{sx:List A0}{l:List B0}{n:Int}{Q:List Int->Bool->Prop}(w:WD p sx l)(hq:Q (crV p sx l n) (trO p sx l n)):Z8 ⟨p⟩ sx l n Q:=by
  unfold Z8
  refine DA8 (p:=p) w (F8 (fun g=>?_) (fun g=>?_))
  · unfold crV at hq; rw [g,if_neg (by decide)] at hq; exact hq
  · unfold crV at hq; rw [g,if_pos rfl] at hq
    exact CA8 (Q:=fun out=>Q out true) (E:=fun a b=>b==a) (fun a b=>by rw [Bool.eq_iff_iff]; simp only [beq_iff_eq,decide_eq_true_eq]; exact ⟨Eq.symm,Eq.symm⟩) BP4.1 BP4.2 hq
theorem CW0{p:List Int}{sx:List A0}{l:List B0}{n:Int}{Q:List Int->Bool->Prop}(w:WD p sx l)(hq:Q (crV p sx l n) (trO p sx l n)):Z6 ⟨p⟩ sx l n Q:=by
  unfold Z6
  refine DC7 (p:=p) w (F8 (fun g=>?_) (fun g=>?_))
  · unfold crV at hq; rw [g,if_neg (by decide)] at hq; exact hq
  · unfold crV at hq; rw [g,if_pos rfl] at hq
    exact CA8 (Q:=fun out=>Q out true) (E:=fun a b=>a==b) (fun a b=>by rw [Bool.eq_iff_iff]; simp only [beq_iff_eq,decide_eq_true_eq]) BP4.1 BP4.2 hq
end Go.Proofs.YtbgnaamdlcggjaaGreat
