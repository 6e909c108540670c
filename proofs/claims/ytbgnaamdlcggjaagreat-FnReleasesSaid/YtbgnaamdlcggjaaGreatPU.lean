import Derived.Test.YtbgnaamdlcggjaaGreatPT
set_option linter.unusedVariables false
set_option autoImplicit false
namespace Go.Proofs.YtbgnaamdlcggjaaGreat
open Go Go.RowKit Go.Gv
def AQ7(n:Nat)(l:List Int):Bool:=(List.range l.length).all fun i=>inb 0 ((n:Int)-1) (gi l i)&&(decide (i=0) || decide (gi l (i-1)<gi l i))
theorem DK8{n:Nat}{l:List Int}{Q:Bool->Prop}(hl:l.length<=1048576)(hn:n<=1048576)(hq:Q (AQ7 n l)):AK9 l 0 (wr ((n:Int)-1)) Q:=by
  unfold AK9
  rw [E9 (by omega) (by omega)]
  refine F2 (by omega) (fun i=>(List.range i).all (fun i=>inb 0 ((n:Int)-1) (gi l i)&&(decide (i=0) || decide (gi l (i-1)<gi l i)))=true) (by simp) (fun i nx hi hj hx=>C4 hi ?_) (fun hj=>?_)
  · refine D3 (!(inb 0 ((n:Int)-1) (gi l i)&&(decide (i=0) || decide (gi l (i-1)<gi l i)))) ?_ fun k hk=>T6 (F8 (fun g=>?_) (fun g=>E1 (fun g2=>?_) (fun g2=>?_)))
    · refine F8 (fun g=>?_) (fun g=>hx (H2 hj g))
      have:AQ7 n l=false:=H3 hi g
      rw [this] at hq; exact hq
    · have:inb 0 ((n:Int)-1) (gi l i)=false:=by rw [H9 hi]; exact g
      rw [this] at hk; exact hk
    · have:inb 0 ((n:Int)-1) (gi l i)=true:=by rw [H9 hi]; exact g
      rw [this,decide_eq_false (by omega:¬ i=0),Bool.true_and,Bool.false_or] at hk
      rw [E9 (by omega) (by omega),show (i:Int)-1=((i-1:Nat):Int) by omega]
      refine C4 (by omega) ?_
      rw [H9 hi,H9 (show i-1<l.length by omega),← decide_not] at hk
      have e:decide (l[i-1]>=l[i])=decide (¬ l[i-1]<l[i]):=by congr 1; simp
      rw [e]; exact hk
    · have:inb 0 ((n:Int)-1) (gi l i)=true:=by rw [H9 hi]; exact g
      have e:i=0:=by omega
      rw [this,decide_eq_true e] at hk; exact hk
  · have:AQ7 n l=true:=hj
    rw [this] at hq; exact hq
theorem CW6{sx:List A0}{l:List Int}{Q:Bool->Prop}(hl:l.length<=1048576)(hn:sx.length<=1048576)(hq:Q (AQ7 sx.length l)):AN8 sx l Q:=by
  unfold AN8
  refine F4 (by omega) (fun last i=>(List.range i).all (fun i=>inb 0 ((sx.length:Int)-1) (gi l i)&&(decide (i=0) || decide (gi l (i-1)<gi l i)))=true/\last=if i=0 then -1 else gi l (i-1)) ⟨by simp,by simp⟩ (fun last i nx hi ⟨hj,hj2⟩ hx=>C4 hi ?_) (fun last ⟨hj,_⟩=>?_)
  · refine D3 (!(inb 0 ((sx.length:Int)-1) (gi l i)&&(decide (i=0) || decide (gi l (i-1)<gi l i)))) ?_ fun k hk=>?_
    · refine F8 (fun g=>?_) (fun g=>hx _ ⟨H2 hj g,by rw [if_neg (by omega),Nat.add_sub_cancel,H9 hi]⟩)
      have:AQ7 sx.length l=false:=H3 hi g
      rw [this] at hq; exact hq
    · have key:(inb 0 ((sx.length:Int)-1) (gi l i)&&(decide (i=0) || decide (gi l (i-1)<gi l i)))=(!decide (l[i]<=last)&&!decide (l[i]>=ln sx)):=by
        rw [H9 hi,hj2]
        by_cases e:i=0
        · subst e
          rw [if_pos rfl]; unfold inb ln
          rw [Bool.eq_iff_iff]; simp; omega
        · rw [if_neg e,decide_eq_false e]
          have hb:=AC1 hj (show i-1<i by omega)
          rw [H9 (show i-1<l.length by omega)] at hb ⊢
          simp only [Bool.and_eq_true,U2] at hb
          unfold inb ln
          rw [Bool.eq_iff_iff]; simp; omega
      rw [key] at hk
      refine E1 (fun g=>?_) (fun g=>?_)
      · rw [decide_eq_true g] at hk; exact hk
      · rw [decide_eq_false g,Bool.not_false,Bool.true_and,Bool.not_not] at hk; exact hk
  · have:AQ7 sx.length l=true:=hj
    rw [this] at hq; exact hq
def AU7(sx:List A0)(w:List Int):Bool:=decide (w.length=sx.length)&&(List.range sx.length).all fun i=>inb 0 (BH5 (vAt sx i)) (gi w i)
theorem DL3{sx:List A0}{w:List Int}{Q:Bool->Prop}(h:Lok sx)(hq:Q (AU7 sx w)):AU2 sx w Q:=by
  have h0:=h.1
  unfold AU2
  refine AT1 (fun g=>?_) (fun g=>?_)
  · have:AU7 sx w=false:=by unfold AU7; rw [decide_eq_false (by unfold ln at g; omega)]; rfl
    rw [this] at hq; exact hq
  · have g':w.length=sx.length:=by unfold ln at g; omega
    refine F2 (by omega) (fun i=>(List.range i).all (fun i=>inb 0 (BH5 (vAt sx i)) (gi w i))=true) (by simp) (fun i nx hi hj hx=>C4 hi (C4 (by omega) ?_)) (fun hj=>?_)
    · have ⟨e,h1,h2⟩:=BD5 h hi
      rw [CC8 (by omega) (by omega),DH0 h hi]
      have e1:inb 0 (BH5 (vAt sx i)) (gi w i)=inb 0 (BH5 sx[i]) (w[i]'(by omega)):=by rw [H9 (by omega),R2 hi]
      refine ⟨by omega,inb 0 (BH5 sx[i]) (w[i]'(by omega)),T6 rfl,?_⟩
      rw [← e1]
      refine F8 (fun g1=>?_) (fun g1=>hx (H2 hj g1))
      have:AU7 sx w=false:=by unfold AU7; rw [H3 hi g1,Bool.and_false]
      rw [this] at hq; exact hq
    · have:AU7 sx w=true:=by unfold AU7; rw [hj,decide_eq_true g']; rfl
      rw [this] at hq; exact hq
theorem DC0{sx:List A0}{w:List Int}{Q:Bool->Prop}(h:Lok sx)(hq:Q (AU7 sx w)):AN9 sx w Q:=by
  have h0:=h.1
  unfold AN9
  refine AT1 (fun g=>?_) (fun g=>?_)
  · have:AU7 sx w=false:=by unfold AU7; rw [decide_eq_false (by unfold ln at g; omega)]; rfl
    rw [this] at hq; exact hq
  · have g':w.length=sx.length:=by unfold ln at g; omega
    refine F2 (by omega) (fun i=>(List.range i).all (fun i=>inb 0 (BH5 (vAt sx i)) (gi w i))=true) (by simp) (fun i nx hi hj hx=>C4 hi ?_) (fun hj=>?_)
    · have hi':i<sx.length:=by omega
      have e1:inb 0 (BH5 (vAt sx i)) (gi w i)=(!decide (w[i]<0)&&!decide (w[i]>BH5 sx[i])):=by
        rw [H9 hi,R2 hi']; unfold inb; rw [Bool.eq_iff_iff]; simp
      refine D3 (!inb 0 (BH5 (vAt sx i)) (gi w i)) ?_ fun k hk=>E1 (fun g1=>?_) (fun g1=>C4 hi' (CW8 h hi' ?_))
      · refine F8 (fun g1=>?_) (fun g1=>hx (H2 hj g1))
        have:AU7 sx w=false:=by unfold AU7; rw [H3 hi' g1,Bool.and_false]
        rw [this] at hq; exact hq
      · rw [e1,decide_eq_true g1] at hk; exact hk
      · rw [e1,decide_eq_false g1,Bool.not_false,Bool.true_and,Bool.not_not] at hk; exact hk
    · have:AU7 sx w=true:=by unfold AU7; rw [← g',hj,decide_eq_true (by omega)]; rfl
      rw [this] at hq; exact hq
def AE4(sx:List A0)(vars:List Int):List A0:=vars.map fun v=>vAt sx v.toNat
def Vin(n:Nat)(vars:List Int):Prop:=vars.length<=n/\∀ v∈vars,0<=v/\v<n
theorem CZ8{n:Nat}{l:List Int}(h:AQ7 n l=true):∀ v∈l,0<=v/\v<n:=fun v hv=>by
  obtain ⟨i,hi,rfl⟩:=List.mem_iff_getElem.1 hv
  have:=AC1 h hi
  simp only [Bool.and_eq_true] at this
  have:=U2.1 this.1
  rw [H9 hi] at this; omega
theorem ES3{n:Nat}{l:List Int}(h:AQ7 n l=true):∀ i (hi:i<l.length),(i:Int)<=l[i]:=by
  intro i
  induction i with
  | zero=>intro hi; exact (CZ8 h _ (List.getElem_mem hi)).1
  | succ i ih =>
    intro hi
    have h1:=ih (by omega)
    have:=AC1 h hi
    simp only [Bool.and_eq_true,Bool.or_eq_true,decide_eq_true_eq] at this
    rcases this.2 with e | e
    · omega
    · rw [H9 hi,H9 (show i+1-1<l.length by omega)] at e
      have e2:l[i+1-1]'(by omega)=l[i]:=rfl
      rw [e2] at e; omega
theorem BD3{n:Nat}{l:List Int}(h:AQ7 n l=true):Vin n l:=by
  refine ⟨?_,CZ8 h⟩
  cases hl:l.length with
  | zero=>omega
  | succ m =>
    have h1:=ES3 h m (by omega)
    have h2:=CZ8 h _ (List.getElem_mem (show m<l.length by omega))
    omega
theorem AL4{sx:List A0}{vars:List Int}(h:Lok sx)(hv:Vin sx.length vars):Lok (AE4 sx vars):=by
  refine ⟨by unfold AE4; rw [List.length_map]; have:=h.1; have:=hv.1; omega,fun x hx=>?_⟩
  obtain ⟨v,hv',rfl⟩:=List.mem_map.1 hx
  have:=hv.2 v hv'
  rw [R2 (show v.toNat<sx.length by omega)]
  exact h.2 _ (List.getElem_mem _)
theorem CR2{sx:List A0}{vars:List Int}{Q:List A0->Prop}(h:Lok sx)(hv:Vin sx.length vars)(hq:Q (AE4 sx vars)):AR5 sx vars Q:=by
  have h0:=h.1; have h1:=hv.1
  unfold AR5
  refine F4 (by omega) (fun o i=>o=(vars.take i).map fun v=>vAt sx v.toNat) rfl (fun o i nx hi ho hx=>?_) (fun o ho=>by rw [List.take_length] at ho; rw [ho]; exact hq)
  subst ho
  have hv':=hv.2 _ (List.getElem_mem hi)
  refine C4 hi (AE3 hv'.1 (by omega) ⟨?_,hx _ ?_⟩)
  · unfold ln; rw [List.length_map,List.length_take]; simp only [List.length_singleton]; omega
  · rw [List.take_succ_eq_append_getElem hi,List.map_append]
    simp only [List.map_cons,List.map_nil]
    rw [R2 (show (vars[i]).toNat<sx.length by omega)]
theorem CC1{sx:List A0}{t:Table}{Q:List A0->Prop}(h:Lok sx)(hv:Vin sx.length t.Vars)(hq:Q (AE4 sx t.Vars)):AG2 sx t Q:=by
  have h0:=h.1; have h1:=hv.1
  unfold AG2
  refine ⟨by unfold ln; omega,by unfold ln; omega,?_⟩
  have hpl:(AE4 sx t.Vars).length=t.Vars.length:=by simp [AE4]
  refine F4 (by omega) (fun o i=>o.length=t.Vars.length/\o.take i=(AE4 sx t.Vars).take i) ⟨by simp,by simp⟩ (fun o i nx hi ⟨h2,h3⟩ hx=>?_) (fun o ⟨h2,h3⟩=>?_)
  · have hv':=hv.2 _ (List.getElem_mem hi)
    refine C4 hi (AE3 hv'.1 (by omega) ⟨by omega,by omega,hx _ ⟨by simpa using h2,?_⟩⟩)
    have:=CU6 (xs:=o) (ys:=AE4 sx t.Vars) (i:=i) (by omega) (by omega) h3
    have e:(AE4 sx t.Vars)[i]'(by omega)=sx[(t.Vars[i]).toNat]'(by omega):=by simp only [AE4,List.getElem_map]; exact R2 _
    rw [e] at this
    rw [Int.toNat_natCast]; exact this
  · have:o=AE4 sx t.Vars:=CB6 (n:=t.Vars.length) h3 h2 hpl
    rw [this]; exact hq
def L3(p:List Int)(sx:List A0)(t:Table):Nat:=(lev p t.Level).length * cnt (AE4 sx t.Vars)
theorem DG4{p:List Int}{sx:List A0}{t:Table}(hg:gOk p=true)(h:Lok sx)(hv:Vin sx.length t.Vars):L3 p sx t<=30 * 262144:=by
  have h1:=AM2 (f:=fun i=>decide ((dep p i:Int)=t.Level)) (n:=p.length)
  have h2:=(Z2 hg).1
  have h3:=AB0 (AL4 h hv)
  exact Nat.mul_le_mul (show (lev p t.Level).length<=30 by unfold lev; omega) h3.2
theorem BP8{p:List Int}{sx:List A0}{t:Table}{Q:Int->Prop}(hg:gOk p=true)(h:Lok sx)(hv:Vin sx.length t.Vars)(hq:Q (L3 p sx t:Int)):AF5 ⟨p⟩ sx t Q:=by
  unfold AF5
  refine BG2 hg (CR2 h hv ⟨(cnt (AE4 sx t.Vars):Int),BF8 (AL4 h hv) rfl,?_⟩)
  have e:ln (lev p t.Level) * (cnt (AE4 sx t.Vars):Int)=(L3 p sx t:Int):=by unfold ln L3; rw [Int.natCast_mul]
  have:=DG4 hg h hv (t:=t)
  show Q (wr (ln (lev p t.Level) * (cnt (AE4 sx t.Vars):Int)))
  rw [e,E9 (by omega) (by omega)]; exact hq
theorem BA4{p:List Int}{sx:List A0}{t:Table}{Q:Int->Prop}(hg:gOk p=true)(h:Lok sx)(hv:Vin sx.length t.Vars)(hq:Q (L3 p sx t:Int)):U4 ⟨p⟩ sx t Q:=by
  unfold U4
  refine CB9 hg (CC1 h hv ⟨(cnt (AE4 sx t.Vars):Int),W7 (AL4 h hv) rfl,?_⟩)
  have e:ln (lev p t.Level) * (cnt (AE4 sx t.Vars):Int)=(L3 p sx t:Int):=by unfold ln L3; rw [Int.natCast_mul]
  have:=DG4 hg h hv (t:=t)
  show Q (wr (ln (lev p t.Level) * (cnt (AE4 sx t.Vars):Int)))
  rw [e,E9 (by omega) (by omega)]; exact hq
def tOk(p:List Int)(sx:List A0)(t:Table):Bool:=((AQ7 sx.length t.Vars&&AU7 sx t.Where)&&inb (-1) ((sx.length:Int)-1) t.Sum)&&(decide (0<L3 p sx t)&&decide (L3 p sx t<=600))
theorem CD2{p:List Int}{sx:List A0}{t:Table}{Q:Bool->Prop}(hg:gOk p=true)(h:Lok sx)(hv:t.Vars.length<=1048576)(hq:Q (tOk p sx t)):AH1 ⟨p⟩ sx t Q:=by
  have h0:=h.1
  unfold AH1
  refine D3 (!((AQ7 sx.length t.Vars&&AU7 sx t.Where)&&inb (-1) ((sx.length:Int)-1) t.Sum)) ?_ fun k hk=>CW6 hv (by omega) (F8 (fun g=>?_) (fun g=>DC0 h (F8 (fun g1=>?_) (fun g1=>E1 (fun g2=>?_) (fun g2=>?_)))))
  · refine F8 (fun g=>?_) (fun g=>?_)
    · have:tOk p sx t=false:=by unfold tOk; rw [g]; rfl
      rw [this] at hq; exact hq
    · have g':=g
      simp only [Bool.and_eq_true] at g'
      refine BA4 (p:=p) (t:=t) hg h (BD3 g'.1.1) (D3 (tOk p sx t) hq fun k hk=>E1 (fun g1=>?_) (fun g1=>?_))
      · have e:tOk p sx t=decide ((L3 p sx t:Int)<=600):=by unfold tOk; rw [g,decide_eq_true (by omega:0<L3 p sx t),Bool.true_and,Bool.true_and]; congr 1; simp; omega
        rw [e] at hk; exact hk
      · have e:tOk p sx t=false:=by unfold tOk; rw [decide_eq_false (by omega:¬ 0<L3 p sx t)]; simp
        rw [e] at hk; exact hk
  · rw [g] at hk; simpa using hk
  · rw [g1] at hk; simpa using hk
  · have:inb (-1) ((sx.length:Int)-1) t.Sum=false:=by unfold inb; rw [decide_eq_false (by omega)]; rfl
    rw [this] at hk; simpa using hk
  · have:(!((AQ7 sx.length t.Vars&&AU7 sx t.Where)&&inb (-1) ((sx.length:Int)-1) t.Sum))=decide (t.Sum>=ln sx):=by
      rw [g,g1,Bool.true_and,Bool.true_and]; unfold inb ln; rw [Bool.eq_iff_iff]; simp; omega
    rw [this] at hk; exact hk
theorem CC3{p:List Int}{sx:List A0}{t:Table}{Q:Bool->Prop}(hp:p.length<=1048576)(hl:sx.length<=1048576)(hs:∀ x∈sx,x.Name.size<=1048576)(hv:t.Vars.length<=1048576)
    (hq:Q ((gOk p&&L7 sx)&&tOk p sx t)):AR6 ⟨p⟩ sx t Q:=by
  unfold AR6
  refine D3 (!((gOk p&&L7 sx)&&(!decide ((lev p t.Level).length=0)&&((AQ7 sx.length t.Vars&&AU7 sx t.Where)&&inb (-1) ((sx.length:Int)-1) t.Sum)))) ?_ fun k hk =>
    BE5 hp (F8 (fun g=>?_) (fun g=>CD5 hl hs (F8 (fun g1=>?_) (fun g1=>BG2 (p:=p) g (P8 (fun g2=>?_) (fun g2=>DK8 hv hl (F8 (fun g3=>?_) (fun g3=>DL3 (AE2 g1) (F8 (fun g4=>?_) (fun g4=>T6 ?_))))))))))
  · have zero:(lev p t.Level).length=0->decide (0<L3 p sx t)=false:=fun e=>decide_eq_false (by unfold L3; rw [e]; simp)
    refine F8 (fun g=>?_) (fun g=>?_)
    · have:((gOk p&&L7 sx)&&tOk p sx t)=false:=by
        unfold tOk
        cases hz:decide ((lev p t.Level).length=0) with
        | true=>rw [zero (of_decide_eq_true hz)]; simp
        | false =>
          rw [hz,Bool.not_false,Bool.true_and] at g
          rw [← Bool.and_assoc,g]; rfl
      rw [this] at hq; exact hq
    · have g':=g
      simp only [Bool.and_eq_true,Bool.not_eq_true',decide_eq_false_iff_not] at g'
      have hL:=AE2 g'.1.2
      have hV:=BD3 g'.2.2.1.1
      refine BP8 (p:=p) (t:=t) g'.1.1 hL hV ?_
      have hpos:0<L3 p sx t:=Nat.mul_pos (by omega) (AB0 (AL4 hL hV)).1
      have e:((gOk p&&L7 sx)&&tOk p sx t)=decide ((L3 p sx t:Int)<=600):=by
        unfold tOk
        rw [g'.1.1,g'.1.2,g'.2.2.1.1,g'.2.2.1.2,g'.2.2.2,decide_eq_true hpos]
        simp only [Bool.true_and]
        congr 1; simp; omega
      rw [e] at hq; exact hq
  · rw [g] at hk; exact hk
  · rw [g,g1] at hk; exact hk
  · rw [g,g1,decide_eq_true (by unfold ln at g2; omega:(lev p t.Level).length=0)] at hk; exact hk
  · rw [g3] at hk; simpa using hk
  · rw [g4] at hk; simpa using hk
  · have e:(lev p t.Level).length≠0:=by unfold ln at g2; omega
    rw [g,g1,g3,g4,decide_eq_false e] at hk
    rw [E9 (by unfold ln; omega) (by unfold ln; omega)]
    simpa [inb] using hk
end Go.Proofs.YtbgnaamdlcggjaaGreat
