import Derived.Test.YtbgnaamdlcggjaaGreatPX
set_option linter.unusedVariables false
set_option autoImplicit false
namespace Go.Proofs.YtbgnaamdlcggjaaGreat
open Go Go.RowKit Go.Gv
theorem ES4{α:Type}{p:α->Bool}{l:List α}{i:Nat}(hi:i<l.length)(h:(l.take i).any p=false)(hp:p l[i]=false):(l.take (i+1)).any p=false:=by
  rw [List.take_add_one,List.getElem?_eq_getElem hi,List.any_append,h]; simpa using hp
theorem CD4{α:Type}{p:α->Bool}{l:List α}{i:Nat}(hi:i<l.length)(h:(l.take i).all p=true)(hp:p l[i]=true):(l.take (i+1)).all p=true:=by
  rw [List.take_add_one,List.getElem?_eq_getElem hi,List.all_append,h]; simpa using hp
theorem ET0{p:List Int}(h:gOk p=true):(lvs p).length<=30:=by
  have h1:=AM2 (f:=fun i => !AE8 p (i:Int)) (n:=p.length)
  have h2:=(Z2 h).1
  unfold lvs; omega
def AL8(sx:List A0)(vs:List Int):Bool:=decide (vs.length=sx.length)&&(List.range sx.length).all fun i=>inb 0 ((vAt sx i).Levels-1) (gi vs i)
theorem DH9{sx:List A0}{vs:List Int}(hL:Lok sx)(h:AL8 sx vs=true):BN5 sx vs:=by
  unfold AL8 at h
  simp only [Bool.and_eq_true,decide_eq_true_eq] at h
  refine ⟨h.1,fun i hi=>?_⟩
  have h1:=U2.1 (List.all_eq_true.1 h.2 i (List.mem_range.2 hi))
  have ⟨e,h2,h3⟩:=BD5 hL hi
  rw [R2 hi] at h1 ⊢
  omega
theorem DU7{sx:List A0}{vs:List Int}{Q:Bool->Prop}(hL:Lok sx)(hq:Q (AL8 sx vs)):BA0 sx vs Q:=by
  have h0:=hL.1
  unfold BA0
  refine AT1 (fun g=>?_) (fun g=>?_)
  · have:AL8 sx vs=false:=by unfold AL8; rw [decide_eq_false (by unfold ln at g; omega)]; rfl
    rw [this] at hq; exact hq
  · have g':vs.length=sx.length:=by unfold ln at g; omega
    refine F2 (by omega) (fun i=>(List.range i).all (fun i=>inb 0 ((vAt sx i).Levels-1) (gi vs i))=true) (by simp) (fun i nx hi hj hx=>C4 hi (C4 (by omega) ?_)) (fun hj=>?_)
    · have ⟨e,h1,h2⟩:=BD5 hL hi
      refine ⟨inb 0 (sx[i].Levels-1) (vs[i]'(by omega)),T6 (by rw [E9 (by omega) (by omega)]; rfl),?_⟩
      have e1:inb 0 ((vAt sx i).Levels-1) (gi vs i)=inb 0 (sx[i].Levels-1) (vs[i]'(by omega)):=by rw [H9 (by omega),R2 hi]
      rw [← e1]
      refine F8 (fun g1=>?_) (fun g1=>hx (H2 hj g1))
      have:AL8 sx vs=false:=by unfold AL8; rw [H3 hi g1,Bool.and_false]
      rw [this] at hq; exact hq
    · have:AL8 sx vs=true:=by unfold AL8; rw [hj,decide_eq_true g']; rfl
      rw [this] at hq; exact hq
theorem CN1{sx:List A0}{vs:List Int}{Q:Bool->Prop}(hL:Lok sx)(hq:Q (AL8 sx vs)):AF8 sx vs Q:=by
  have h0:=hL.1
  unfold AF8
  refine AT1 (fun g=>?_) (fun g=>?_)
  · have:AL8 sx vs=false:=by unfold AL8; rw [decide_eq_false (by unfold ln at g; omega)]; rfl
    rw [this] at hq; exact hq
  · have g':vs.length=sx.length:=by unfold ln at g; omega
    refine F2 (by omega) (fun i=>(List.range i).all (fun i=>inb 0 ((vAt sx i).Levels-1) (gi vs i))=true) (by simp) (fun i nx hi hj hx=>C4 hi ?_) (fun hj=>?_)
    · have hi':i<sx.length:=by omega
      have ⟨e,h1,h2⟩:=BD5 hL hi'
      have e1:inb 0 ((vAt sx i).Levels-1) (gi vs i)=(!(decide (vs[i]<0))&&!decide (vs[i]>=sx[i].Levels)):=by
        rw [H9 hi,R2 hi']; unfold inb; rw [Bool.eq_iff_iff]; simp; omega
      refine D3 (!inb 0 ((vAt sx i).Levels-1) (gi vs i)) ?_ fun k hk=>E1 (fun g1=>?_) (fun g1=>C4 hi' ?_)
      · refine F8 (fun g1=>?_) (fun g1=>hx (H2 hj g1))
        have:AL8 sx vs=false:=by unfold AL8; rw [H3 hi' g1,Bool.and_false]
        rw [this] at hq; exact hq
      · rw [e1,decide_eq_true g1] at hk; exact hk
      · rw [e1,decide_eq_false g1,Bool.not_false,Bool.true_and,Bool.not_not] at hk; exact hk
    · have:AL8 sx vs=true:=by unfold AL8; rw [← g',hj,decide_eq_true (by omega)]; rfl
      rw [this] at hq; exact hq
theorem EA4{l:List Int}{n:Int}{Q:Bool->Prop}(hl:l.length<=1048576)(hq:Q (AE8 l n)):BA5 l n Q:=by
  unfold BA5
  refine F2 (by omega) (fun i=>(l.take i).any (fun x=>x==n)=false) (by simp) (fun i nx hi hj hx=>C4 hi (K0 (fun g=>?_) (fun g=>hx (ES4 hi hj g)))) (fun hj=>?_)
  · have:AE8 l n=true:=DQ8 hi g
    rw [this] at hq; exact hq
  · rw [List.take_length] at hj
    have:AE8 l n=false:=hj
    rw [this] at hq; exact hq
def AR7(sx:List A0)(r:Record):Bool:=inb 0 29 r.Area&&(inb 0 999 r.House&&AL8 sx r.Values)
def dOk(sx:List A0)(l:List Record):Bool:=l.all (AR7 sx)&&decide (l.length<=40)
def AD2(p:List Int)(sx:List A0)(l:List Record):Bool:=dOk sx l&&l.all fun r=>AE8 (lvs p) r.Area
theorem BK4{α:Type}{p:α->Bool}{l:List α}{i:Nat}(hi:i<l.length)(h:p l[i]=false):l.all p=false:=by
  rw [Bool.eq_false_iff]; intro c
  have:=List.all_eq_true.1 c _ (List.getElem_mem hi)
  rw [h] at this; cases this
theorem DT7{sx:List A0}{r:Record}{Q:Bool->Prop}(hL:Lok sx)(hq:Q (AR7 sx r)):BB6 sx r Q:=by
  unfold BB6
  refine D3 _ hq fun k hk=>T6 (K0 (fun g=>T6 (K0 (fun g1=>DU7 hL ?_) (fun g1=>?_))) (fun g=>?_))
  · unfold AR7 at hk; rw [show inb 0 29 r.Area=true from g,show inb 0 999 r.House=true from g1] at hk; exact hk
  · unfold AR7 at hk; rw [show inb 0 29 r.Area=true from g,show inb 0 999 r.House=false from g1] at hk; exact hk
  · unfold AR7 at hk; rw [show inb 0 29 r.Area=false from g] at hk; exact hk
theorem CT8{sx:List A0}{r:Record}{Q:Bool->Prop}(hL:Lok sx)(hq:Q (AR7 sx r)):AL2 sx r Q:=by
  unfold AL2
  refine D3 _ hq fun k hk=>?_
  have e1:inb 0 29 r.Area=(decide (r.Area>=0)&&decide (r.Area<=29)):=rfl
  have e2:inb 0 999 r.House=(decide (r.House>=0)&&decide (r.House<=999)):=rfl
  unfold AR7 at hk
  rw [e1,e2] at hk
  refine K0 (fun g=>K0 (fun g1=>K0 (fun g2=>K0 (fun g3=>CN1 hL ?_) (fun g3=>?_)) (fun g2=>?_)) (fun g1=>?_)) (fun g=>?_)
  · rw [g,g1,g2,g3] at hk; exact hk
  · rw [g,g1,g2,g3] at hk; exact hk
  · rw [g,g1,g2] at hk; exact hk
  · rw [g,g1] at hk; exact hk
  · rw [g] at hk; exact hk
theorem DU8{sx:List A0}{l:List Record}{Q:Bool->Prop}(hL:Lok sx)(hl:l.length<=1048576)(hq:Q (dOk sx l)):BB4 sx l Q:=by
  unfold BB4
  refine F2 (by omega) (fun i=>(l.take i).all (AR7 sx)=true) (by simp) (fun i nx hi hj hx=>C4 hi (DT7 hL (F8 (fun g=>?_) (fun g=>hx (CD4 hi hj g))))) (fun hj=>?_)
  · have:dOk sx l=false:=by unfold dOk; rw [BK4 hi g,Bool.false_and]
    rw [this] at hq; exact hq
  · rw [List.take_length] at hj
    have e:decide (ln l<=40)=decide (l.length<=40):=by rw [Bool.eq_iff_iff]; unfold ln; simp only [decide_eq_true_eq]; omega
    unfold dOk at hq; rw [hj,Bool.true_and] at hq
    rw [e]; exact hq
theorem DL0{sx:List A0}{l:List Record}{Q:Bool->Prop}(hL:Lok sx)(hl:l.length<=1048576)(hq:Q (dOk sx l)):AT4 sx l Q:=by
  unfold AT4
  refine E1 (fun g=>?_) (fun g=>?_)
  · have:dOk sx l=false:=by unfold dOk; rw [decide_eq_false (by unfold ln at g; omega),Bool.and_false]
    rw [this] at hq; exact hq
  · refine F2 (by omega) (fun i=>(l.take i).all (AR7 sx)=true) (by simp) (fun i nx hi hj hx=>C4 hi (CT8 hL (F8 (fun g=>?_) (fun g=>hx (CD4 hi hj g))))) (fun hj=>?_)
    · have:dOk sx l=false:=by unfold dOk; rw [BK4 hi g,Bool.false_and]
      rw [this] at hq; exact hq
    · rw [List.take_length] at hj
      have:dOk sx l=true:=by unfold dOk; rw [hj,decide_eq_true (by unfold ln at g; omega)]; rfl
      rw [this] at hq; exact hq
theorem DM6{sx:List A0}{l:List Record}{Q:Bool->Prop}(hs:sx.length<=1048576)(hn:∀ x∈sx,x.Name.size<=1048576)(hl:l.length<=1048576)(hq:Q (L7 sx&&dOk sx l)):AS9 sx l Q:=by
  unfold AS9
  refine D3 _ hq fun k hk=>CD5 hs hn (K0 (fun g=>DU8 (AE2 g) hl ?_) (fun g=>?_))
  · rw [g,Bool.true_and] at hk; exact hk
  · rw [g] at hk; exact hk
theorem CD8{p:List Int}{a:Int}:AE8 (lvs p) a=true↔(0<=a/\a<(p.length:Int))/\AE8 p a=false:=by
  have h1:AE8 (lvs p) a=true↔a∈lvs p:=by
    unfold AE8; rw [List.any_eq_true]
    constructor
    · rintro ⟨x,hx,e⟩; have e:x=a:=by simpa using e
      rw [← e]; exact hx
    · intro h; exact ⟨a,h,by simp⟩
  rw [h1]
  unfold lvs
  rw [BP2]
  constructor
  · rintro ⟨i,rfl,hi,h⟩
    exact ⟨⟨by omega,by omega⟩,by simpa using h⟩
  · rintro ⟨⟨h2,h3⟩,h4⟩
    refine ⟨a.toNat,by omega,by omega,?_⟩
    rw [show ((a.toNat:Nat):Int)=a by omega,h4]; rfl
theorem CD9{p:List Int}{sx:List A0}{l:List Record}{Q:Bool->Prop}(hp:p.length<=1048576)(hs:sx.length<=1048576)(hn:∀ x∈sx,x.Name.size<=1048576)(hl:l.length<=1048576)(hq:Q ((gOk p&&L7 sx)&&AD2 p sx l)):AP4 ⟨p⟩ sx l Q:=by
  unfold AP4
  refine D3 (!(gOk p&&(L7 sx&&dOk sx l))) ?_ fun k hk=>BE5 (p:=p) hp (F8 (fun g=>?_) (fun g=>DM6 hs hn hl ?_))
  · refine F8 (fun g=>?_) (fun g=>?_)
    · have:((gOk p&&L7 sx)&&AD2 p sx l)=false:=by
        unfold AD2
        rw [Bool.eq_false_iff]; intro c
        simp only [Bool.and_eq_true] at c
        rw [c.1.1,c.1.2,c.2.1] at g; cases g
      rw [this] at hq; exact hq
    · simp only [Bool.and_eq_true] at g
      have hlv:=ET0 g.1
      refine AF0 (p:=p) g.1 (F2 (by omega) (fun i=>(l.take i).all (fun r=>AE8 (lvs p) r.Area)=true) (by simp) (fun i nx hi hj hx=>C4 hi (EA4 (by omega) (F8 (fun g2=>?_) (fun g2=>hx (CD4 hi hj g2))))) (fun hj=>?_))
      · have:((gOk p&&L7 sx)&&AD2 p sx l)=false:=by unfold AD2; rw [BK4 hi g2,Bool.and_false,Bool.and_false]
        rw [this] at hq; exact hq
      · rw [List.take_length] at hj
        have:((gOk p&&L7 sx)&&AD2 p sx l)=true:=by unfold AD2; rw [hj,g.1,g.2.1,g.2.2]; rfl
        rw [this] at hq; exact hq
  · rw [g,Bool.false_and] at hk; exact hk
  · rw [g,Bool.true_and] at hk; exact hk
theorem BT4{p:List Int}{sx:List A0}{l:List Record}{Q:Bool->Prop}(hg:gOk p=true)(hL:Lok sx)(hl:l.length<=1048576)(hq:Q (AD2 p sx l)):AC9 ⟨p⟩ sx l Q:=by
  have h2:=(Z2 hg).1
  unfold AC9
  refine DL0 hL hl (F8 (fun g=>?_) (fun g=>?_))
  · have:AD2 p sx l=false:=by unfold AD2; rw [g,Bool.false_and]
    rw [this] at hq; exact hq
  · refine F2 (by omega) (fun i=>(l.take i).all (fun r=>AE8 (lvs p) r.Area)=true) (by simp) (fun i nx hi hj hx=>C4 hi ?_) (fun hj=>?_)
    · refine D3 (!AE8 (lvs p) l[i].Area) (F8 (fun g2=>?_) (fun g2=>hx (CD4 hi hj g2))) fun k hk=>?_
      · have:AD2 p sx l=false:=by unfold AD2; rw [BK4 hi g2,Bool.and_false]
        rw [this] at hq; exact hq
      · have area:∀ {Q:Bool->Prop},Q (decide (0<=l[i].Area)&&decide (l[i].Area<(p.length:Int)))->AT6 ⟨p⟩ l[i].Area Q:=fun {Q} h=>by
          unfold AT6
          refine D3 _ h fun k hk=>E1 (fun g=>?_) (fun g=>?_)
          · rw [decide_eq_true (by omega:0<=l[i].Area),Bool.true_and] at hk; exact hk
          · rw [decide_eq_false (by omega:¬ 0<=l[i].Area),Bool.false_and] at hk; exact hk
        refine area (F8 (fun g2=>?_) (fun g2=>?_))
        · have:AE8 (lvs p) l[i].Area=false:=by
            rw [Bool.eq_false_iff]; intro c
            have:=(CD8.1 c).1
            simp only [Bool.and_eq_false_iff,decide_eq_false_iff_not] at g2
            omega
          rw [this] at hk; exact hk
        · unfold AM5
          refine BT2 (l:=p) (by omega) ?_
          simp only [Bool.and_eq_true,decide_eq_true_eq] at g2
          have:AE8 (lvs p) l[i].Area=!AE8 p l[i].Area:=by
            rw [Bool.eq_iff_iff,CD8]; simp only [Bool.not_eq_true']; exact ⟨fun h=>h.2,fun h=>⟨g2,h⟩⟩
          rw [this] at hk; exact hk
    · rw [List.take_length] at hj
      have:AD2 p sx l=true:=by unfold AD2; rw [g,hj]; rfl
      rw [this] at hq; exact hq
theorem BN6{p:List Int}{sx:List A0}{l:List Record}(h:AD2 p sx l=true):l.length<=40/\∀ r∈l,AR7 sx r=true/\(0<=r.Area/\r.Area<(p.length:Int)):=by
  unfold AD2 dOk at h
  simp only [Bool.and_eq_true,decide_eq_true_eq] at h
  exact ⟨h.1.2,fun r hr=>⟨List.all_eq_true.1 h.1.1 r hr,(CD8.1 (List.all_eq_true.1 h.2 r hr)).1⟩⟩
theorem CL5{p:List Int}{sx:List A0}{t:Table}{r:Record}(hg:gOk p=true)(hL:Lok sx)(ht:tOk p sx t=true)(hr:AR7 sx r=true/\(0<=r.Area/\r.Area<(p.length:Int))) :
    CIn p sx t r.Area.toNat r.Values/\r.Area=((r.Area.toNat:Nat):Int):=by
  have h:=hr.1
  unfold AR7 at h
  simp only [Bool.and_eq_true] at h
  exact ⟨⟨hg,hL,ht,by omega,DH9 hL h.2.2⟩,by omega⟩
theorem DA2{p:List Int}{sx:List A0}{t:Table}{i:Nat}{vs:List Int}(c:CIn p sx t i vs):(0<=(cell p sx t i vs).2/\(cell p sx t i vs).2<=60)/\((cell p sx t i vs).1<(L3 p sx t:Int)):=by
  have ct:=c.tf
  unfold cell
  split
  · exact ⟨⟨Int.le_refl _,by omega⟩,by omega⟩
  · rename_i h
    refine ⟨?_,?_⟩
    · show 0<=amt _ _/\amt _ _<=60
      unfold amt
      split
      · omega
      · have t3:=ct.2.2.1
        have hlen:t.Sum.toNat<vs.length:=by rw [c.v.1]; omega
        rw [H9 hlen]
        exact BW0 c.l c.v _ (List.getElem_mem hlen)
    · have:=(c.lt fun e=>h (.inl e)).2.2
      show ((cel p sx t (up p i t.Level) vs:Nat):Int)<_
      omega
def BC3(p:List Int)(sx:List A0)(t:Table)(out:List Int)(r:Record):List Int :=
  if 0<=(cell p sx t r.Area.toNat r.Values).1 then out.set (cell p sx t r.Area.toNat r.Values).1.toNat (gi out (cell p sx t r.Area.toNat r.Values).1.toNat+(cell p sx t r.Area.toNat r.Values).2) else out
def BU1(p:List Int)(sx:List A0)(t:Table)(l:List Record):List Int:=l.foldl (BC3 p sx t) (List.replicate (L3 p sx t) 0)
def inT(n:Nat)(b:Int)(out:List Int):Prop:=out.length=n/\∀ x∈out,0<=x/\x<=b
theorem CQ0{p:List Int}{sx:List A0}{t:Table}{out:List Int}{r:Record}{b:Int}(c:CIn p sx t r.Area.toNat r.Values)(h:inT (L3 p sx t) b out):inT (L3 p sx t) (b+60) (BC3 p sx t out r):=by
  have ⟨c1,c2⟩:=DA2 c
  unfold BC3
  split
  · rename_i h0
    refine ⟨by rw [List.length_set]; exact h.1,fun x hx=>?_⟩
    obtain ⟨j,hj,rfl⟩:=List.mem_iff_getElem.1 hx
    rw [List.length_set] at hj
    rw [List.getElem_set]
    split
    · have hlt:(cell p sx t r.Area.toNat r.Values).1.toNat<out.length:=by rw [h.1]; omega
      rw [H9 hlt]
      have:=h.2 _ (List.getElem_mem hlt)
      omega
    · have:=h.2 _ (List.getElem_mem hj); omega
  · exact ⟨h.1,fun x hx=>by have:=h.2 x hx; omega⟩
theorem CU9{p:List Int}{sx:List A0}{t:Table}{l:List Record}{Q:List Int->Prop}{C:Record->(Int->Int->Prop)->Prop}(hg:gOk p=true)(hL:Lok sx)(ht:tOk p sx t=true)(hs:AD2 p sx l=true)
    (hC:∀ r,CIn p sx t r.Area.toNat r.Values->r.Area=((r.Area.toNat:Nat):Int)->∀ Q:Int->Int->Prop,Q (cell p sx t r.Area.toNat r.Values).1 (cell p sx t r.Area.toNat r.Values).2->C r Q) (hq:Q (BU1 p sx t l)) :
    J6 (fun (out:List Int) (x52:Int) nx=>br (decide (x52<(ln l))) (jn (fun (k:(List Int)->Prop)=>idx l x52 fun x107=>C ((Record.mk x107.Area x107.House x107.Values)) fun r131 r132 =>
      br (decide (r131>=0)) (idx out r131 fun x141=>(0:Int)<=r131/\Int.toNat r131<List.length out/\(k (List.set out (Int.toNat r131) (wr (x141+r132)))))<|k out)<|fun (out85:List Int)=>nx out85 (wr (x52+1)))<|Q out) (List.replicate (L3 p sx t) ((0:Int))) 0:=by
  have ⟨h40,hr⟩:=BN6 hs
  refine F4 (by omega) (fun out i=>out=(l.take i).foldl (BC3 p sx t) (List.replicate (L3 p sx t) 0)/\inT (L3 p sx t) (60 * (i:Int)) out) ⟨rfl,by simp,fun x hx=>by have:=List.eq_of_mem_replicate hx; omega⟩ ?_ ?_
  · rintro out i nx hi ⟨e,hin⟩ hx
    have ⟨c,ea⟩:=CL5 hg hL ht (hr _ (List.getElem_mem hi))
    have e2:BC3 p sx t out l[i]=(l.take (i+1)).foldl (BC3 p sx t) (List.replicate (L3 p sx t) 0):=by
      rw [List.take_add_one,List.getElem?_eq_getElem hi,List.foldl_append,← e]; rfl
    have hx:=hx _ ⟨e2,by have:=CQ0 c hin; rw [show 60 * ((i+1:Nat):Int)=60 * (i:Int)+60 by omega]; exact this⟩
    refine AW6 (C4 hi ?_)
    generalize l[i]=r at c ea hx
    refine hC r c ea _ ?_
    have ⟨c1,c2⟩:=DA2 c
    unfold BC3 at hx
    refine E1 (fun g=>?_) (fun g=>?_)
    · rw [if_pos g] at hx
      have hlt:(cell p sx t r.Area.toNat r.Values).1.toNat<out.length:=by rw [hin.1]; omega
      refine AE3 g hlt ⟨g,hlt,?_⟩
      rw [H9 hlt] at hx
      have:=hin.2 _ (List.getElem_mem hlt)
      have e3:wr (out[(cell p sx t r.Area.toNat r.Values).1.toNat]+(cell p sx t r.Area.toNat r.Values).2)=out[(cell p sx t r.Area.toNat r.Values).1.toNat]+(cell p sx t r.Area.toNat r.Values).2:=E9 (by omega) (by omega)
      rw [e3]
      exact hx
    · rw [if_neg (by omega)] at hx; exact hx
  · rintro out ⟨e,_⟩
    rw [List.take_of_length_le (Nat.le_refl _)] at e
    rw [e]; exact hq
theorem BU8{p:List Int}{sx:List A0}{t:Table}{l:List Record}(hg:gOk p=true)(hL:Lok sx)(ht:tOk p sx t=true)(hs:AD2 p sx l=true):inT (L3 p sx t) 2400 (BU1 p sx t l):=by
  have ⟨h40,hr⟩:=BN6 hs
  have key:∀ (m:List Record) (out:List Int) (b:Int),(∀ r∈m,AR7 sx r=true/\(0<=r.Area/\r.Area<(p.length:Int)))->inT (L3 p sx t) b out->inT (L3 p sx t) (b+60 * (m.length:Int)) (m.foldl (BC3 p sx t) out):=by
    intro m
    induction m with
    | nil=>intro out b _ h; simpa using h
    | cons r m ih =>
      intro out b hm h
      have:=ih _ (b+60) (fun x hx=>hm x (List.mem_cons_of_mem _ hx)) (CQ0 (CL5 hg hL ht (hm r (List.mem_cons_self ..))).1 h)
      rw [List.length_cons,show b+60 * ((m.length+1:Nat):Int)=b+60+60 * (m.length:Int) by omega]
      exact this
  have:=key l (List.replicate (L3 p sx t) 0) 0 hr ⟨by simp,fun x hx=>by have:=List.eq_of_mem_replicate hx; omega⟩
  exact ⟨this.1,fun x hx=>by have:=this.2 x hx; omega⟩
theorem DG6{p:List Int}{sx:List A0}{t:Table}(ht:tOk p sx t=true):AQ7 sx.length t.Vars=true/\L3 p sx t<=600:=by
  unfold tOk at ht
  simp only [Bool.and_eq_true,decide_eq_true_eq] at ht
  exact ⟨ht.1.1.1,ht.2.2⟩
theorem CJ0{p:List Int}{sx:List A0}{t:Table}{l:List Record}{Q:List Int->Prop}(hg:gOk p=true)(hL:Lok sx)(ht:tOk p sx t=true)(hs:AD2 p sx l=true)(hq:Q (BU1 p sx t l)):AT9 ⟨p⟩ sx t l Q:=by
  have ⟨h1,h2⟩:=DG6 ht
  unfold AT9
  refine BP8 (p:=p) (t:=t) hg hL (BD3 h1) ⟨by omega,by omega,?_⟩
  rw [Int.toNat_natCast]
  exact CU9 (p:=p) (C:=fun r=>AK0 ⟨p⟩ sx t r) hg hL ht hs (fun r c ea Q h=>CR1 (p:=p) c ea h) hq
theorem CZ2{p:List Int}{sx:List A0}{t:Table}{l:List Record}{Q:List Int->Prop}(hg:gOk p=true)(hL:Lok sx)(ht:tOk p sx t=true)(hs:AD2 p sx l=true)(hq:Q (BU1 p sx t l)):AP2 ⟨p⟩ sx t l Q:=by
  have ⟨h1,h2⟩:=DG6 ht
  unfold AP2
  refine BA4 (p:=p) (t:=t) hg hL (BD3 h1) ⟨by omega,by omega,?_⟩
  rw [Int.toNat_natCast]
  exact CU9 (p:=p) (C:=fun r=>P4 ⟨p⟩ sx t r) hg hL ht hs (fun r c ea Q h=>BC7 (p:=p) c ea h) hq
end Go.Proofs.YtbgnaamdlcggjaaGreat
