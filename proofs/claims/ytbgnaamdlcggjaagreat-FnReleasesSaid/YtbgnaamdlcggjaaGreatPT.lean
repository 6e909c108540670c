import Derived.Test.YtbgnaamdlcggjaaGreatPE
set_option linter.unusedVariables false
set_option autoImplicit false
namespace Go.Proofs.YtbgnaamdlcggjaaGreat
open Go Go.RowKit Go.Gv
def gOk(p:List Int):Bool:=((decide (1<=p.length)&&decide (p.length<=30))&&decide (gi p 0 = -1))&&(List.range p.length).all fun (i:Nat)=>decide (i=0) || inb 0 ((i:Int)-1) (gi p i)
theorem Z2{p:List Int}(h:gOk p=true):(1<=p.length/\p.length<=30)/\gi p 0 = -1/\∀ i,0<i->i<p.length->0<=gi p i/\gi p i<i:=by
  unfold gOk at h
  simp only [Bool.and_eq_true,decide_eq_true_eq] at h
  refine ⟨h.1.1,h.1.2,fun i h0 hi=>?_⟩
  have:=AC1 h.2 hi
  simp only [Bool.or_eq_true,decide_eq_true_eq] at this
  rcases this with e | e
  · omega
  · have:=U2.1 e; omega
theorem BE5{p:List Int}{Q:Bool->Prop}(hl:p.length<=1048576)(hq:Q (gOk p)):AE1 ⟨p⟩ Q:=by
  unfold AE1
  dsimp only
  refine D3 (!((decide (1<=p.length)&&decide (p.length<=30))&&decide (gi p 0 = -1))) ?_ fun k hk=>T6 (F8 (fun g=>?_) (fun g=>?_))
  · refine F8 (fun g=>?_) (fun g=>?_)
    · have:gOk p=false:=by unfold gOk; rw [g]; rfl
      rw [this] at hq; exact hq
    · refine F2 (by omega) (fun i=>(List.range i).all (fun (i:Nat)=>decide (i=0) || inb 0 ((i:Int)-1) (gi p i))=true) (by simp) (fun i nx hi hj hx=>C4 hi ?_) (fun hj=>?_)
      · refine D3 (!(decide (i=0) || inb 0 ((i:Int)-1) (gi p i))) ?_ fun k hk=>E1 (fun g2=>?_) (fun g2=>?_)
        · refine F8 (fun g2=>?_) (fun g2=>hx (H2 hj g2))
          have:gOk p=false:=by unfold gOk; rw [H3 hi g2,Bool.and_false]
          rw [this] at hq; exact hq
        · rw [decide_eq_false (by omega:¬ i=0),Bool.false_or] at hk
          rw [E9 (by omega) (by omega)]
          refine T6 ?_
          rw [H9 hi] at hk; exact hk
        · rw [decide_eq_true (by omega:i=0)] at hk; exact hk
      · have:gOk p=true:=by unfold gOk; rw [g,hj]; rfl
        rw [this] at hq; exact hq
  · have:(decide (1<=p.length)&&decide (p.length<=30))=false:=by
      rw [← g]; congr 1 <;> (unfold ln; rw [Bool.eq_iff_iff]; simp; try omega)
    rw [this] at hk; exact hk
  · simp only [Bool.and_eq_true,decide_eq_true_eq] at g
    have h1:1<=p.length/\p.length<=30:=by unfold ln at g; omega
    refine C4 (i:=0) (by omega) ?_
    rw [decide_eq_true h1.1,decide_eq_true h1.2,H9 (by omega)] at hk
    have e:(p[0] != -1)=!decide (p[0] = -1):=by rw [Bool.eq_iff_iff]; simp
    rw [e]; simpa using hk
theorem CU0{p:List Int}{Q:Bool->Prop}(hl:p.length<=1048576)(hq:Q (gOk p)):AR4 ⟨p⟩ Q:=by
  unfold AR4
  dsimp only
  refine D3 (!((decide (1<=p.length)&&decide (p.length<=30))&&decide (gi p 0 = -1))) ?_ fun k hk=>E1 (fun g=>?_) (fun g=>E1 (fun g2=>?_) (fun g2=>?_))
  · refine F8 (fun g=>?_) (fun g=>?_)
    · have:gOk p=false:=by unfold gOk; rw [g]; rfl
      rw [this] at hq; exact hq
    · have hg:=g
      simp only [Bool.and_eq_true,decide_eq_true_eq] at hg
      refine ⟨fun x=>∃ i:Nat,x=(i:Int)/\1<=i/\i<=p.length/\(List.range i).all (fun (i:Nat)=>decide (i=0) || inb 0 ((i:Int)-1) (gi p i))=true,fun x=>((p.length:Int)-x).toNat,⟨1,rfl,Nat.le_refl _,hg.1.1,by simp⟩,?_⟩
      rintro x ⟨i,rfl,h1,h2,hj⟩
      refine E1 (fun g3=>?_) (fun g3=>?_)
      · have hi:i<p.length:=by unfold ln at g3; omega
        have e:(decide (i=0) || inb 0 ((i:Int)-1) (gi p i))=(!decide (p[i]<0)&&!decide (p[i]>=(i:Int))):=by
          rw [H9 hi,decide_eq_false (by omega:¬ i=0),Bool.false_or]; unfold inb; rw [Bool.eq_iff_iff]; simp; omega
        refine D3 (!(decide (i=0) || inb 0 ((i:Int)-1) (gi p i))) ?_ fun k hk=>C4 hi (E1 (fun g4=>?_) (fun g4=>C4 hi ?_))
        · refine F8 (fun g4=>?_) (fun g4=>?_)
          · have:gOk p=false:=by unfold gOk; rw [H3 hi g4,Bool.and_false]
            rw [this] at hq; exact hq
          · rw [E9 (by omega) (by omega)]
            refine ⟨⟨i+1,by omega,by omega,hi,H2 hj g4⟩,?_⟩
            show ((p.length:Int)-((i:Int)+1)).toNat<((p.length:Int)-(i:Int)).toNat
            omega
        · rw [e,decide_eq_true g4] at hk; exact hk
        · rw [e,decide_eq_false g4,Bool.not_false,Bool.true_and,Bool.not_not] at hk; exact hk
      · have e:i=p.length:=by unfold ln at g3; omega
        subst e
        have:gOk p=true:=by unfold gOk; rw [g,hj]; rfl
        rw [this] at hq; exact hq
  · rw [decide_eq_false (by unfold ln at g; omega:¬ 1<=p.length)] at hk; simpa using hk
  · rw [decide_eq_false (by unfold ln at g2; omega:¬ p.length<=30)] at hk; simpa using hk
  · have h1:1<=p.length/\p.length<=30:=by unfold ln at g g2; omega
    refine C4 (i:=0) (by omega) ?_
    rw [decide_eq_true h1.1,decide_eq_true h1.2,H9 (by omega)] at hk
    have e:(p[0] != -1)=!decide (p[0] = -1):=by rw [Bool.eq_iff_iff]; simp
    rw [e]; simpa using hk
def pa(p:List Int)(i:Nat):Nat:=(gi p i).toNat
def CW9(p:List Int):Nat->Nat->Nat
  | 0,_=>0
  | n+1,i=>if i=0 then 0 else CW9 p n (pa p i)+1
def dep(p:List Int)(i:Nat):Nat:=CW9 p i i
theorem BT5{p:List Int}(h:gOk p=true){i:Nat}(h0:0<i)(hi:i<p.length):pa p i<i:=by
  have:=(Z2 h).2.2 i h0 hi
  unfold pa; omega
theorem EH0{p:List Int}(h:gOk p=true):∀ i n,i<=n->i<p.length->CW9 p n i=dep p i:=by
  intro i
  induction i using Nat.strongRecOn with
  | _ i ih =>
    intro n hn hi
    cases i with
    | zero=>cases n <;> simp [CW9,dep]
    | succ j =>
      cases n with
      | zero=>omega
      | succ m =>
        have hp:=BT5 h (Nat.succ_pos j) hi
        have e:j+1≠0:=by omega
        unfold dep
        simp only [CW9,if_neg e]
        rw [ih _ hp m (by omega) (by omega),ih _ hp j (by omega) (by omega)]
theorem AW1{p:List Int}:dep p 0=0:=rfl
theorem AW0{p:List Int}(h:gOk p=true){i:Nat}(h0:0<i)(hi:i<p.length):dep p i=dep p (pa p i)+1:=by
  have hp:=BT5 h h0 hi
  cases i with
  | zero=>omega
  | succ j =>
    have e:j+1≠0:=by omega
    show CW9 p (j+1) (j+1)=_
    simp only [CW9,if_neg e]
    rw [EH0 h _ j (by omega) (by omega)]
theorem CL8{p:List Int}(h:gOk p=true):∀ i,i<p.length->dep p i<=i:=by
  intro i
  induction i using Nat.strongRecOn with
  | _ i ih =>
    intro hi
    by_cases e:i=0
    · subst e; rw [AW1]; exact Nat.le_refl _
    · have hp:=BT5 h (Nat.pos_of_ne_zero e) hi
      rw [AW0 h (Nat.pos_of_ne_zero e) hi]
      have:=ih _ hp (by omega); omega
theorem DD2{p:List Int}(h:gOk p=true){i:Nat}(h0:0<i)(hi:i<p.length):p[i]=(pa p i:Int):=by
  have:=(Z2 h).2.2 i h0 hi
  unfold pa; rw [← H9 hi]; omega
theorem CH8{p:List Int}{i:Nat}{Q:Int->Prop}(h:gOk p=true)(hi:i<p.length)(hq:Q (dep p i:Int)):AM1 ⟨p⟩ (i:Int) Q:=by
  have hlen:=(Z2 h).1
  have hd:=CL8 h i hi
  unfold AM1
  dsimp only
  refine ⟨fun x n=>∃ k m:Nat,x=(k:Int)/\n=(m:Int)/\k<p.length/\m+dep p k=dep p i,fun x _=>x.toNat,⟨i,0,rfl,rfl,hi,by omega⟩,?_⟩
  rintro _ _ ⟨k,m,rfl,rfl,hk,hm⟩
  refine C4 hk (E1 (fun g=>C4 hk ?_) (fun g=>?_))
  · have h0:0<k:=by
      apply Nat.pos_of_ne_zero; rintro rfl
      have:=(Z2 h).2.1
      rw [H9 hk] at this; omega
    have hp:=BT5 h h0 hk
    rw [DD2 h h0 hk,E9 (by omega) (by omega)]
    have:=AW0 h h0 hk
    refine ⟨⟨pa p k,m+1,rfl,by omega,by omega,by omega⟩,?_⟩
    show ((pa p k:Nat):Int).toNat<((k:Nat):Int).toNat
    omega
  · have h0:k=0:=Classical.byContradiction fun c=>by
      have:=(Z2 h).2.2 k (by omega) hk
      rw [H9 hk] at this; omega
    subst h0
    rw [AW1] at hm
    have:m=dep p i:=by omega
    subst this; exact hq
theorem CD7{p:List Int}{i:Nat}{Q:Int->Prop}(h:gOk p=true)(hi:i<p.length)(hq:Q (dep p i:Int)):AF7 ⟨p⟩ (i:Int) Q:=by
  have hlen:=(Z2 h).1
  have hd:=CL8 h i hi
  unfold AF7
  dsimp only
  refine ⟨fun x n=>∃ k m:Nat,x=(k:Int)/\n=(m:Int)/\k<p.length/\m+dep p k=dep p i,fun x _=>x.toNat,⟨i,0,rfl,rfl,hi,by omega⟩,?_⟩
  rintro _ _ ⟨k,m,rfl,rfl,hk,hm⟩
  refine E1 (fun g=>C4 hk ?_) (fun g=>?_)
  · have h0:0<k:=by omega
    have hp:=BT5 h h0 hk
    rw [DD2 h h0 hk,E9 (by omega) (by omega)]
    have:=AW0 h h0 hk
    refine ⟨⟨pa p k,m+1,rfl,by omega,by omega,by omega⟩,?_⟩
    show ((pa p k:Nat):Int).toNat<((k:Nat):Int).toNat
    omega
  · have h0:k=0:=by omega
    subst h0
    rw [AW1] at hm
    have:m=dep p i:=by omega
    subst this; exact hq
def pick(f:Nat->Bool)(n:Nat):List Int:=((List.range n).filter f).map fun (i:Nat)=>(i:Int)
theorem AW4{f:Nat->Bool}{n:Nat}:pick f (n+1)=pick f n++if f n then [(n:Int)] else []:=by
  unfold pick
  rw [List.range_succ,List.filter_append,List.map_append,List.filter_cons,List.filter_nil]
  split <;> rfl
theorem AM2{f:Nat->Bool}{n:Nat}:(pick f n).length<=n:=by
  unfold pick; rw [List.length_map]
  have:=List.length_filter_le f (List.range n)
  rwa [List.length_range] at this
theorem BP2{f:Nat->Bool}{n:Nat}{v:Int}:v∈pick f n↔∃ i:Nat,v=(i:Int)/\i<n/\f i=true:=by
  unfold pick
  rw [List.mem_map]
  constructor
  · rintro ⟨i,hi,rfl⟩; have ⟨a,b⟩:=List.mem_filter.1 hi; exact ⟨i,rfl,List.mem_range.1 a,b⟩
  · rintro ⟨i,rfl,a,b⟩; exact ⟨i,List.mem_filter.2 ⟨List.mem_range.2 a,b⟩,rfl⟩
def lev(p:List Int)(l:Int):List Int:=pick (fun i=>decide ((dep p i:Int)=l)) p.length
def AE8(l:List Int)(n:Int):Bool:=l.any fun x=>x==n
def lvs(p:List Int):List Int:=pick (fun i => !AE8 p (i:Int)) p.length
theorem BG2{p:List Int}{l:Int}{Q:List Int->Prop}(h:gOk p=true)(hq:Q (lev p l)):U8 ⟨p⟩ l Q:=by
  have hlen:=(Z2 h).1
  unfold U8
  dsimp only
  refine F4 (by omega) (fun o i=>o=pick (fun i=>decide ((dep p i:Int)=l)) i) rfl (fun o i nx hi ho hx=>?_) (fun o ho=>by rw [ho]; exact hq)
  subst ho
  have hp:=AM2 (f:=fun i=>decide ((dep p i:Int)=l)) (n:=i)
  refine D3 _ (hx _ AW4.symm) fun k hk=>CH8 h hi (P8 (fun g=>⟨by unfold ln; simp only [List.length_singleton]; omega,?_⟩) (fun g=>?_))
  · rw [decide_eq_true g,if_pos rfl] at hk; exact hk
  · rw [decide_eq_false g] at hk; simpa using hk
theorem CB9{p:List Int}{l:Int}{Q:List Int->Prop}(h:gOk p=true)(hq:Q (lev p l)):AH6 ⟨p⟩ l Q:=by
  have hlen:=(Z2 h).1
  unfold AH6
  dsimp only
  refine F4 (by omega) (fun o i=>o=pick (fun i=>decide ((dep p i:Int)=l)) i) rfl (fun o i nx hi ho hx=>?_) (fun o ho=>by rw [ho]; exact hq)
  subst ho
  have hp:=AM2 (f:=fun i=>decide ((dep p i:Int)=l)) (n:=i)
  refine D3 _ (hx _ AW4.symm) fun k hk=>CD7 h hi (P8 (fun g=>⟨by unfold ln; simp only [List.length_singleton]; omega,?_⟩) (fun g=>?_))
  · rw [decide_eq_true g,if_pos rfl] at hk; exact hk
  · rw [decide_eq_false g] at hk; simpa using hk
theorem CE1{α:Type}{p:α->Bool}{l:List α}{i:Nat}(hi:i<l.length):(l.take (i+1)).any p=((l.take i).any p || p l[i]):=by
  rw [List.take_succ_eq_append_getElem hi,List.any_append]; simp
theorem DK9{α:Type}{p:α->Bool}{l:List α}{i:Nat}(hi:i<l.length)(hp:p l[i]=true):l.any p=true:=List.any_eq_true.2 ⟨l[i],List.getElem_mem hi,hp⟩
theorem CK5{p:List Int}{n:Int}{Q:List Int->Prop}(hl:p.length<=1048576)(hq:∀ o:List Int,(o.length=0↔AE8 p n=false)->Q o):AG6 ⟨p⟩ n Q:=by
  unfold AG6
  dsimp only
  refine F4 (by omega) (fun o i=>o.length<=i/\(o.length=0↔(p.take i).any (fun x=>x==n)=false)) ⟨by simp,by simp⟩ (fun o i nx hi ⟨hj1,hj2⟩ hx=>?_) (fun o ⟨_,hj⟩=>hq o (by rw [List.take_length] at hj; exact hj))
  refine D3 (if p[i]==n then o++[(i:Int)] else o) (hx _ ⟨?_,?_⟩) fun k hk=>C4 hi (K0 (fun g=>?_) (fun g=>?_))
  · split
    · simp; omega
    · omega
  · rw [CE1 hi]
    cases hb:p[i]==n with
    | true=>simp
    | false=>simpa using hj2
  · rw [g] at hk; exact ⟨by unfold ln; simp; omega,hk⟩
  · rw [g] at hk; exact hk
theorem BT2{l:List Int}{n:Int}{Q:Bool->Prop}(hl:l.length<=1048576)(hq:Q (AE8 l n)):P9 l n Q:=by
  unfold P9 AB4
  refine F2 (by omega) (fun i=>(l.take i).any (fun x=>x==n)=false) (by simp) (fun i nx hi hj hx=>C4 hi (P8 (fun g=>?_) (fun g=>hx ?_))) (fun hj=>?_)
  · have:AE8 l n=true:=DK9 hi (by simp; omega)
    rw [this] at hq
    have e:decide ((i:Int)>=0)=true:=decide_eq_true (by omega)
    show Q (decide ((i:Int)>=0))
    rw [e]; exact hq
  · rw [CE1 hi,hj,Bool.false_or]; simp; omega
  · rw [List.take_length] at hj
    have:AE8 l n=false:=hj
    rw [this] at hq; exact hq
theorem AF0{p:List Int}{Q:List Int->Prop}(h:gOk p=true)(hq:Q (lvs p)):Q6 ⟨p⟩ Q:=by
  have hlen:=(Z2 h).1
  unfold Q6
  dsimp only
  refine F4 (by omega) (fun o i=>o=pick (fun i => !AE8 p (i:Int)) i) rfl (fun o i nx hi ho hx=>?_) (fun o ho=>by rw [ho]; exact hq)
  subst ho
  have hp:=AM2 (f:=fun i => !AE8 p (i:Int)) (n:=i)
  refine D3 _ (hx _ AW4.symm) fun k hk=>CK5 (by omega) fun o ho=>P8 (fun g=>⟨by unfold ln; simp only [List.length_singleton]; omega,?_⟩) (fun g=>?_)
  · have e:=ho.1 (by unfold ln at g; omega)
    rw [e] at hk; exact hk
  · have e:AE8 p (i:Int)=true:=by
      cases hb:AE8 p (i:Int) with
      | true=>rfl
      | false=>exact absurd (ho.2 hb) (by unfold ln at g; omega)
    rw [e] at hk; simpa using hk
theorem BD4{p:List Int}{Q:List Int->Prop}(h:gOk p=true)(hq:Q (lvs p)):Z0 ⟨p⟩ Q:=by
  have hlen:=(Z2 h).1
  unfold Z0 AM5
  dsimp only
  refine F4 (by omega) (fun o i=>o=pick (fun i => !AE8 p (i:Int)) i) rfl (fun o i nx hi ho hx=>?_) (fun o ho=>by rw [ho]; exact hq)
  subst ho
  have hp:=AM2 (f:=fun i => !AE8 p (i:Int)) (n:=i)
  refine D3 _ (hx _ AW4.symm) fun k hk=>BT2 (by omega) (F8 (fun g=>⟨by unfold ln; simp only [List.length_singleton]; omega,?_⟩) (fun g=>?_))
  · rw [g] at hk; exact hk
  · rw [g] at hk; simpa using hk
def upN(p:List Int):Nat->Nat->Nat
  | 0,i=>i
  | n+1,i=>upN p n (pa p i)
def up(p:List Int)(i:Nat)(l:Int):Int:=if l<0∨(dep p i:Int)<l then -1 else (upN p (dep p i-l.toNat) i:Int)
theorem EN5{p:List Int}(h:gOk p=true):∀ n i,i<p.length->n<=dep p i->upN p n i<p.length/\dep p (upN p n i)=dep p i-n:=by
  intro n
  induction n with
  | zero=>intro i hi _; exact ⟨hi,rfl⟩
  | succ n ih =>
    intro i hi hn
    have h0:0<i:=by
      apply Nat.pos_of_ne_zero; rintro rfl; rw [AW1] at hn; omega
    have hp:=BT5 h h0 hi
    have hs:=AW0 h h0 hi
    have ⟨a,b⟩:=ih (pa p i) (by omega) (by omega)
    exact ⟨a,by show dep p (upN p n (pa p i))=_; rw [b]; omega⟩
theorem EN6{p:List Int}{i:Nat}{l:Int}{Q:Int->Prop}(h:gOk p=true)(hi:i<p.length)(hq:Q (up p i l)):BM6 ⟨p⟩ (i:Int) l Q:=by
  have hlen:=(Z2 h).1
  have hd:=CL8 h i hi
  unfold BM6
  dsimp only
  refine CH8 h hi (E1 (fun g=>?_) (fun g=>?_))
  · unfold up at hq; rw [if_pos (.inl g)] at hq; exact hq
  · refine ⟨fun x d=>∃ k m:Nat,x=(k:Int)/\d=(m:Int)/\k<p.length/\dep p k=m/\m<=dep p i/\((dep p i:Int)<l->m=dep p i)/\(l<=(dep p i:Int)->l<=(m:Int))/\upN p (m-l.toNat) k=upN p (dep p i-l.toNat) i,fun x _=>x.toNat,⟨i,dep p i,rfl,rfl,hi,rfl,Nat.le_refl _,fun _=>rfl,fun c=>c,rfl⟩,?_⟩
    rintro _ _ ⟨k,m,rfl,rfl,hk,hkm,hm,hlt,hge,hup⟩
    refine E1 (fun g2=>C4 hk ?_) (fun g2=>E1 (fun g3=>?_) (fun g3=>?_))
    · have h0:0<k:=by
        apply Nat.pos_of_ne_zero; rintro rfl; rw [AW1] at hkm; omega
      have hp:=BT5 h h0 hk
      have hs:=AW0 h h0 hk
      rw [DD2 h h0 hk,E9 (by omega) (by omega)]
      have e:m-l.toNat=(m-1-l.toNat)+1:=by omega
      refine ⟨⟨pa p k,m-1,rfl,by omega,by omega,by omega,by omega,fun c=>by omega,fun c=>by omega,?_⟩,?_⟩
      · rw [← hup,e]; rfl
      · show ((pa p k:Nat):Int).toNat<((k:Nat):Int).toNat
        omega
    · unfold up at hq; rw [if_pos (.inr (by omega))] at hq; exact hq
    · unfold up at hq; rw [if_neg (by omega)] at hq
      have e:m-l.toNat=0:=by omega
      rw [e] at hup
      have hup:k=upN p (dep p i-l.toNat) i:=hup
      rw [← hup] at hq; exact hq
theorem CG9{p:List Int}{i:Nat}{l:Int}{Q:Int->Prop}(h:gOk p=true)(hi:i<p.length)(hq:Q (up p i l)):AD7 ⟨p⟩ (i:Int) l Q:=by
  have hlen:=(Z2 h).1
  have hd:=CL8 h i hi
  unfold AD7
  dsimp only
  refine CD7 h hi (D3 (decide (l<0∨(dep p i:Int)<l)) ?_ fun k hk=>E1 (fun g=>?_) (fun g=>?_))
  · refine E1 (fun g=>?_) (fun g=>?_)
    · unfold up at hq; rw [if_pos g] at hq; exact hq
    · refine ⟨fun x d=>∃ k m:Nat,x=(k:Int)/\d=(m:Int)/\k<p.length/\dep p k=m/\m<=dep p i/\l<=(m:Int)/\upN p (m-l.toNat) k=upN p (dep p i-l.toNat) i,fun x _=>x.toNat,⟨i,dep p i,rfl,rfl,hi,rfl,Nat.le_refl _,by omega,rfl⟩,?_⟩
      rintro _ _ ⟨k,m,rfl,rfl,hk,hkm,hm,hge,hup⟩
      refine E1 (fun g2=>C4 hk ?_) (fun g2=>?_)
      · have h0:0<k:=by
          apply Nat.pos_of_ne_zero; rintro rfl; rw [AW1] at hkm; omega
        have hp:=BT5 h h0 hk
        have hs:=AW0 h h0 hk
        rw [DD2 h h0 hk,E9 (by omega) (by omega)]
        have e:m-l.toNat=(m-1-l.toNat)+1:=by omega
        refine ⟨⟨pa p k,m-1,rfl,by omega,by omega,by omega,by omega,by omega,?_⟩,?_⟩
        · rw [← hup,e]; rfl
        · show ((pa p k:Nat):Int).toNat<((k:Nat):Int).toNat
          omega
      · unfold up at hq; rw [if_neg g] at hq
        have e:m-l.toNat=0:=by omega
        rw [e] at hup
        have hup:k=upN p (dep p i-l.toNat) i:=hup
        rw [← hup] at hq; exact hq
  · rw [decide_eq_true (.inl g)] at hk; exact hk
  · have e:decide (l<0∨(dep p i:Int)<l)=decide ((dep p i:Int)<l):=by congr 1; simp; omega
    rw [e] at hk; exact hk
end Go.Proofs.YtbgnaamdlcggjaaGreat
