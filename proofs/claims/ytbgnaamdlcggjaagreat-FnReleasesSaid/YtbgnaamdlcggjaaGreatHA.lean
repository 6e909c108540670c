import Derived.Test.YtbgnaamdlcggjaaGreatKA
set_option linter.unusedVariables false
set_option autoImplicit false
namespace Go.Proofs.YtbgnaamdlcggjaaGreat
open Go Go.RowKit Go.Gv
theorem EP3(x:Int):0<=IntKind.u64.wrap x:=by
  simp only [IntKind.wrap,IntKind.bits,IntKind.signed]; simp; omega
theorem EW7{α:Type}(v:α):ln [v]=1:=rfl
def DC6(p:List Int):Prop:=gOk p=true/\0<(lvs p).length
theorem ED7:∀ x∈([[(-1)],[(-1),0,0],[(-1),0,0,0],[(-1),0,0,1,1]]:List (List Int)),DC6 x:=by
  intro x hx
  simp only [List.mem_cons,List.not_mem_nil,or_false] at hx
  rcases hx with rfl | rfl | rfl | rfl <;> exact ⟨by decide +kernel,by decide +kernel⟩
theorem CK9{p:List Int}(h:gOk p=true):p.length<=30:=(Z2 h).1.2
theorem BT7{code:List B8}{a s:Int}{Q:Geo->List A0->List Record->Int->Int->Prop}(hc:L0 code)(ha:0<=a/\a<=600000000000)
    (h:∀ p sx l a' s',DC6 p->AU4 sx->l.length<=6->0<=a'->a'<=a+300->Q ⟨p⟩ sx l a' s'):Q3 ⟨code,a,s⟩ Q:=by
  unfold Q3
  dsimp only
  refine H8 hc (by unfold N0; omega) fun r a1 s1 p0 p1 _ p2 p3=>BP5 DC6 ED7 p0 (by simp; omega) fun p hp=>?_
  have n1:((ByteArray.mk #[115,101,120]).size<=100):=by decide
  have n2:((ByteArray.mk #[97,103,101]).size<=100):=by decide
  refine Z5 (fun k=>∀ sx a' s',AU4 sx->0<=a'->a'<=a+10->k sx a' s') (fun sx a2 s2 hs h0 h1=>?_) fun k hk=>?_
  · refine Z5 (fun k=>∀ sx a' s',AU4 sx->0<=a'->a'<=a+80->k sx a' s') (fun sx a3 s3 hs g0 g1=>?_) fun k hk=>?_
    · refine H8 hc (by unfold N0; omega) fun r2 a4 s4 q0 q1 _ q2 q3=>?_
      refine ⟨fun l k at1 _=>∃ n:Nat,k=(n:Int)/\n<=6/\l.length+n<=6/\0<=at1/\at1+20 * (n:Int)<=a4+120,fun _ k _ _=>k.toNat,⟨r2.toNat,by omega,by omega,by simp; omega,q2,by omega⟩,?_⟩
      rintro l k at1 s5 ⟨n,rfl,hn,hl,g2,g3⟩
      refine E1 (fun c=>AF0 (p:=p) hp.1 (CH2 hc hs.1 hp.2 (by omega) fun rc a5 s6 _ u0 u1=>⟨by unfold ln; simp only [List.length_singleton]; omega,?_⟩)) (fun c=>h _ _ _ _ _ hp hs (by omega) g2 (by omega))
      rw [E9 (by omega) (by omega)]
      exact ⟨⟨n-1,by omega,by omega,by simp; omega,u0,by omega⟩,by show ((n:Int)-1).toNat<(n:Int).toNat; omega⟩
    · refine AR8 hc (by unfold N0; omega) fun b a3 s3 q0 q1=>K0 (fun _=>BN7 hc (by omega) fun sx2 a4 s4 hs2 u0 u1=>hk _ _ _ hs2 u0 (by omega)) (fun _=>hk _ _ _ hs q0 (by omega))
  · refine Z5 (fun k=>∀ b a' s',0<=a'->a'<=a+6->k b a' s') (fun b a2 s2 h0 h1=>K0 (fun _=>?_) (fun _=>hk _ _ _ ⟨by simp,fun x hx=>by simp only [List.mem_singleton] at hx; rw [hx]; exact n1⟩ h0 (by omega))) fun k2 hk2=>?_
    · refine H8 hc (by unfold N0; omega) fun r2 a4 s4 q0 q1 _ q2 q3=>⟨by unfold ln; simp,hk _ _ _ ⟨by simp,fun x hx=>?_⟩ q2 (by omega)⟩
      simp only [List.cons_append,List.nil_append,List.mem_cons,List.not_mem_nil,or_false] at hx
      rcases hx with rfl | rfl
      · exact n1
      · exact n2
    · refine AF0 (p:=p) hp.1 (E1 (fun _=>AR8 hc (by unfold N0; omega) fun b a2 s2 q0 q1=>hk2 _ _ _ q0 (by omega)) (fun _=>hk2 _ _ _ p2 (by omega)))
theorem CS3{code:List B8}{sx:List A0}{a s:Int}{Q:List Int->Int->Int->Prop}(hc:L0 code)(hs:AU4 sx)(ha:0<=a/\a<=700000000000)(h:∀ w a' s',w.length=sx.length->0<=a'->a'<=a+40->Q w a' s'):AB9 ⟨code,a,s⟩ sx Q:=by
  unfold AB9
  dsimp only
  have h7:=hs.1
  refine ⟨fun o x at1 _=>∃ n:Nat,x=(n:Int)/\n<=sx.length/\o.length=n/\0<=at1/\at1<=a+4 * (n:Int),fun _ x _ _=>((sx.length:Int)-x).toNat,⟨0,rfl,Nat.zero_le _,rfl,ha.1,by omega⟩,?_⟩
  rintro o _ at1 s1 ⟨n,rfl,hn,hlo,h0,h1⟩
  refine E1 (fun g=>?_) (fun g=>h _ _ _ (by unfold ln at g; omega) h0 (by omega))
  unfold ln at g
  refine C4 (by omega) (Z5 (fun k=>∀ v a' s',0<=a'->a'<=at1+4->k v a' s') (fun v a2 s2 p0 p1=>⟨by unfold ln; simp only [List.length_singleton]; omega,?_⟩) fun k hk=>?_)
  · rw [E9 (by omega) (by omega)]
    exact ⟨⟨n+1,by omega,by omega,by simp; omega,p0,by omega⟩,by show ((sx.length:Int)-((n:Int)+1)).toNat<((sx.length:Int)-(n:Int)).toNat; omega⟩
  · refine AR8 hc (by unfold N0; omega) fun b a2 s2 p0 p1=>K0 (fun _=>⟨?_,H8 hc (by unfold N0; omega) fun r a3 s3 _ _ _ q0 q1=>hk _ _ _ q0 (by omega)⟩) (fun _=>hk _ _ _ p0 (by omega))
    exact EP3 _
def BH7(t:Table):Prop:=t.Vars.length<=8/\t.Where.length<=8
theorem CJ5{p:List Int}{l:Int}{Q:List Int->Prop}(h:gOk p=true)(hq:∀ o,Q o):U8 ⟨p⟩ l Q:=BG2 h (hq _)
theorem DU6{code:List B8}{p:List Int}{sx:List A0}{a s:Int}{Q:Table->Int->Int->Prop}(hc:L0 code)(hg:DC6 p)(hs:AU4 sx)(ha:0<=a/\a<=700000000000)
    (h:∀ t a' s',t.Vars.length<=7->t.Where.length<=7->0<=a'->a'<=a+70->Q t a' s'):L9 ⟨code,a,s⟩ ⟨p⟩ sx Q:=by
  unfold L9
  dsimp only
  have h7:=hs.1
  refine CS3 hc hs (by omega) fun w a1 s1 hw p0 p1=>?_
  refine ⟨fun x at1 _ vars=>∃ n:Nat,x=(n:Int)/\n<=sx.length/\vars.length<=n/\0<=at1/\at1<=a1+2 * (n:Int),fun x _ _ _=>((sx.length:Int)-x).toNat,⟨0,rfl,Nat.zero_le _,Nat.le_refl _,p0,by omega⟩,?_⟩
  rintro _ at1 s2 vars ⟨n,rfl,hn,hv,h0,h1⟩
  refine E1 (fun g=>?_) (fun g=>?_)
  · unfold ln at g
    refine Z5 (fun k=>∀ a' s' v,0<=a'->a'<=at1+2->v.length<=n+1->k a' s' v) (fun a2 s3 v q0 q1 q2=>?_) fun k hk=>AR8 hc (by unfold N0; omega) fun b a2 s3 q0 q1=>K0 (fun _=>⟨by unfold ln; simp only [List.length_singleton]; omega,hk _ _ _ q0 q1 (by simp; omega)⟩) (fun _=>hk _ _ _ q0 q1 (by omega))
    rw [E9 (by omega) (by omega)]
    exact ⟨⟨n+1,by omega,by omega,q2,q0,by omega⟩,by show ((sx.length:Int)-((n:Int)+1)).toNat<((sx.length:Int)-(n:Int)).toNat; omega⟩
  · refine Z5 (fun k=>∀ a' s' l,0<=a'->a'<=at1+2->k a' s' l) (fun a2 s3 lvl q0 q1=>?_) fun k hk=>?_
    · refine Z5 (fun k=>∀ a' s' l,0<=a'->a'<=at1+8->k a' s' l) (fun a3 s4 sm u0 u1=>h _ _ _ (by show vars.length<=7; omega) (by show w.length<=7; omega) u0 (by omega)) fun k hk=>?_
      refine Z5 (fun k=>∀ b a' s',0<=a'->a'<=at1+6->k b a' s') (fun b a3 s4 u0 u1=>K0 (fun _=>H8 hc (by unfold N0; omega) fun r a4 s5 _ _ _ v0 v1=>hk _ _ _ v0 (by omega)) (fun _=>hk _ _ _ u0 (by omega))) fun k2 hk2=>?_
      exact AR8 hc (by unfold N0; omega) fun b a3 s4 u0 u1=>K0 (fun _=>hk2 _ _ _ u0 (by omega)) (fun _=>hk2 _ _ _ u0 (by omega))
    · have hpl:=CK9 hg.1
      refine BE5 (p:=p) (by omega) (S1 hg.1 (H8 hc (by unfold N0; omega) fun r a2 s3 _ _ _ q0 q1=>CJ5 (p:=p) hg.1 fun o=>K0 (fun _=>hk _ _ _ q0 q1) (fun _=>hk _ _ _ q0 q1)))
def EQ2(x:B0):Prop:=BH7 x.Table/\0<x.Cells.length/\x.Cells.length<=700
theorem EH3{b:B0}{t:Int}{Q:B0->Bool->Prop}(h1:BH7 b.Table)(h2:inT b.Cells.length 2400 b.Cells)(h3:0<b.Cells.length/\b.Cells.length<=600)(ht:0<=t/\t<=10)(h:∀ x,EQ2 x->Q x true):R6 b t Q:=by
  unfold R6
  have ha:b.Cells.all (inb (-1) 1000000)=true:=List.all_eq_true.2 fun x hx=>by have:=h2.2 x hx; exact U2.2 (by omega)
  refine D3 false (G9 rfl ?_) fun k hk=>DG5 (by unfold ln; omega) (CP9 (by omega) (G9 (by rw [ha]; rfl) (T6 (by rw [decide_eq_true (by omega),decide_eq_true (by omega)]; exact hk))))
  have fin:∀ (lv:Int) (v w:List Int) (sm:Int),v.length<=8->w.length<=8->J6 (fun (x291:Int) (cells:List Int) nx =>
      br (decide (x291<(ln b.Cells))) (idx b.Cells x291 fun x304=>jn (fun (k334:Int->Prop)=>jn (fun (k338:Bool->Prop)=>br (decide (x304>0)) (k338 (decide (x304<t)))<|k338 false)<|fun (x336:Bool)=>br (x336) (k334 ((-1)))<|k334 x304)<|fun (n:Int) =>
      (ln cells+ln ([n])) * 8<=140737488355328/\(nx (wr (x291+1)) (cells++([n]))))<|Q ((B0.mk ((Table.mk lv v w sm)) cells)) true) 0 ([]):=fun lv v w sm g1 g2=>by
    refine AM3 (by omega) (fun cells i=>cells.length=i) rfl (fun cells i nx hi e hn=>C4 hi ?_) (fun cells e=>h _ ⟨⟨g1,g2⟩,by show 0<cells.length; omega,by show cells.length<=700; omega⟩)
    refine Z5 (fun k=>∀ v,k v) (fun v=>⟨by unfold ln; simp only [List.length_singleton]; omega,hn _ (by simp; omega)⟩) fun k hk=>?_
    exact Z5 (fun k=>∀ b,k b) (fun b=>K0 (fun _=>hk _) (fun _=>hk _)) fun k2 hk2=>E1 (fun _=>hk2 _) (fun _=>hk2 _)
  have o1:=h1.1; have o2:=h1.2
  exact AL9 (by omega) (AL9 (by omega) (fin _ _ _ _ o1 o2))
theorem DC5{p:List Int}{sx:List A0}{l:List Record}{t:Table}{Q:List B0->Bool->Prop}(hg:DC6 p)(hs:AU4 sx)(hl:l.length<=6)(ht:t.Vars.length<=7/\t.Where.length<=7)(h0:Q [] false)
    (h1:∀ b,BH7 b.Table->inT b.Cells.length 2400 b.Cells->0<b.Cells.length/\b.Cells.length<=600->Q [b] true):L4 ⟨p⟩ sx l [t] Q:=by
  unfold L4
  have hpl:=CK9 hg.1
  have ⟨w1,w2⟩:=hs.wide
  refine D3 (!((gOk p&&L7 sx)&&AD2 p sx l)) ?_ fun k hk=>CD9 (p:=p) (by omega) w1 w2 (by omega) (F8 (fun g=>by rw [g] at hk; exact hk) (fun g=>by rw [g] at hk; rw [decide_eq_false (by rw [EW7]; omega)]; exact hk))
  refine F8 (fun _=>h0) fun g=>?_
  simp only [Bool.and_eq_true] at g
  obtain ⟨⟨g1,g2⟩,g3⟩:=g
  have hL:=AE2 g2
  refine F4 (xs:=[t]) (by simp) (fun out i=>(i=0/\out=[])∨(i=1/\∃ b,out=[b]/\BH7 b.Table/\inT b.Cells.length 2400 b.Cells/\0<b.Cells.length/\b.Cells.length<=600)) (.inl ⟨rfl,rfl⟩) (fun out i nx hi e hn=>?_) (fun out e=>?_)
  · have hi0:i=0:=by simp at hi; omega
    subst hi0
    rcases e with ⟨_,rfl⟩ | ⟨c,_⟩
    · refine C4 (by simp) (CC3 (p:=p) (t:=t) (by omega) w1 w2 (by omega) (F8 (fun g=>h0) fun g=>?_))
      have hok:tOk p sx t=true:=by
        have:((gOk p&&L7 sx)&&tOk p sx t)=true:=g
        simp only [Bool.and_eq_true] at this; exact this.2
      have hin:=BU8 g1 hL hok g3
      have ⟨_,hb⟩:=DG6 hok
      have hpos:0<L3 p sx t:=by
        unfold tOk at hok; simp only [Bool.and_eq_true,decide_eq_true_eq] at hok; exact hok.2.1
      refine AL9 (by show t.Vars.length<=_; omega) (AL9 (by show t.Where.length<=_; omega) (CJ0 (p:=p) (t:=t) g1 hL hok g3 ⟨by unfold ln; simp,hn _ (.inr ⟨rfl,_,rfl,⟨by show t.Vars.length<=_; omega,by show t.Where.length<=_; omega⟩,?_,?_,?_⟩)⟩))
      · show inT (BU1 p sx t l).length 2400 (BU1 p sx t l); rw [hin.1]; exact hin
      · show 0<(BU1 p sx t l).length; rw [hin.1]; exact hpos
      · show (BU1 p sx t l).length<=600; rw [hin.1]; exact hb
    · omega
  · rcases e with ⟨c,_⟩ | ⟨_,b,rfl,b1,b2,b3,b4⟩
    · simp at c
    · exact h1 b b1 b2 ⟨b3,b4⟩
theorem BL1{code:List B8}{p:List Int}{sx:List A0}{l:List Record}{a s:Int}{Q:List B0->Int->Int->Prop}(hc:L0 code)(hg:DC6 p)(hs:AU4 sx)(hl:l.length<=6)(ha:0<=a/\a<=600000000000)
    (h:∀ b a' s',b.length<=3->(∀ x∈b,BH7 x.Table/\x.Cells.length<=701)->0<=a'->a'<=a+300->Q b a' s'):N8 ⟨code,a,s⟩ ⟨p⟩ sx l Q:=by
  unfold N8
  dsimp only
  refine H8 hc (by unfold N0; omega) fun r a1 s1 p0 p1 _ p2 p3=>?_
  refine ⟨fun out k at1 _=>∃ n:Nat,k=(n:Int)/\n<=3/\out.length+n<=3/\(∀ x∈out,EQ2 x)/\0<=at1/\at1+80 * (n:Int)<=a1+240,fun _ k _ _=>k.toNat,⟨r.toNat,by omega,by omega,by simp; omega,(fun x hx=>by cases hx),p2,by omega⟩,?_⟩
  rintro out k at1 s2 ⟨n,rfl,hn,hol,hob,g0,g1⟩
  refine E1 (fun c=>?_) (fun c=>?_)
  · refine Z5 (fun k=>∀ (o:List B0) a' s',o.length+(n-1)<=3->(∀ x∈o,EQ2 x)->0<=a'->a'<=at1+80->k o a' s') (fun o a2 s3 u1 u2 u3 u4=>?_) fun k hk=>?_
    · rw [E9 (by omega) (by omega)]
      exact ⟨⟨n-1,by omega,by omega,u1,u2,u3,by omega⟩,by show ((n:Int)-1).toNat<(n:Int).toNat; omega⟩
    · refine DU6 hc hg hs (by omega) fun t a2 s3 t1 t2 q0 q1=>DC5 (t:=t) hg hs hl ⟨t1,t2⟩ (S1 rfl (hk _ _ _ (by omega) hob q0 (by omega))) fun b b1 b2 b3=>G9 rfl ?_
      refine C4 (i:=0) (by simp) ?_
      exact H8 hc (by unfold N0; omega) fun r a3 s4 v0 v1 _ v2 v3=>EH3 b1 b2 b3 (by omega) fun x hx=>⟨by unfold ln; simp only [List.length_singleton]; omega,hk _ _ _ (by simp; omega) (AR9 hob hx) v2 (by omega)⟩
  · have fin:∀ (o:List B0) a' s',o.length<=3->(∀ x∈o,BH7 x.Table/\x.Cells.length<=701)->0<=a'->a'<=a+300->Q o a' s':=h
    have hob':∀ x∈out,BH7 x.Table/\x.Cells.length<=701:=fun x hx=>⟨(hob x hx).1,by have:=(hob x hx).2.2; omega⟩
    have setp:∀ (i:Nat) (y:B0),BH7 y.Table/\y.Cells.length<=701->∀ x∈out.set i y,BH7 x.Table/\x.Cells.length<=701:=fun i y hy x hx=>by
      rcases List.mem_or_eq_of_mem_set hx with hx | hx
      · exact hob' x hx
      · rw [hx]; exact hy
    refine Z5 (fun k=>∀ (o:List B0) a' s',o.length<=3->(∀ x∈o,BH7 x.Table/\x.Cells.length<=701)->0<=a'->a'<=a+300->k o a' s') fin fun k hk=>?_
    refine Z5 (fun k=>((0<out.length->∀ a' s',0<=a'->a'<=at1+2->k true a' s')/\∀ a' s',0<=a'->a'<=at1+2->k false a' s')) ⟨fun hp a2 s3 q0 q1=>S1 rfl ?_,fun a2 s3 q0 q1=>G9 rfl (hk _ _ _ (by omega) hob' q0 (by omega))⟩ fun k2 hk2=>?_
    · refine H8 hc (by unfold N0; omega) fun r a3 s4 v0 v1 _ v2 v3=>H8 hc (by unfold N0; omega) fun r2 a4 s5 w0 w1 _ w2 w3=>?_
      have hr:r.toNat<out.length:=by unfold ln at v1; omega
      have mem:=hob _ (List.getElem_mem hr)
      refine P8 (fun _=>?_) (fun _=>P8 (fun _=>?_) (fun _=>?_))
      · refine AE3 v0 hr ⟨by have:=mem.2.2; unfold ln; simp only [List.length_singleton]; omega,hk _ _ _ (by simp; omega) (setp _ _ ⟨mem.1,by have:=mem.2.2; simp; omega⟩) w2 (by omega)⟩
      · refine AE3 v0 hr (AA6 hc (by unfold N0; omega) (by simp) fun v hv a5 s6 z0 z1=>⟨by omega,mem.2.1,hk _ _ _ (by simp; omega) (setp _ _ ⟨mem.1,by have:=mem.2.2; simp; omega⟩) z0 (by omega)⟩)
      · exact AE3 v0 hr (hk _ _ _ (by simp; omega) (setp _ _ ⟨mem.1,by have:=mem.2.2; show (out[r.toNat]).Cells.length<=701; omega⟩) w2 (by omega))
    · refine E1 (fun c2=>AR8 hc (by unfold N0; omega) fun b a2 s3 q0 q1=>?_) (fun _=>hk2.2 _ _ g0 (by omega))
      cases b with
      | true=>exact hk2.1 (by unfold ln at c2; omega) _ _ q0 q1
      | false=>exact hk2.2 _ _ q0 q1
theorem CZ3{sx:List A0}{Q:Int->Prop}(hl:sx.length<=1048576)(h:∀ v,Q v):T7 sx Q:=by
  unfold T7
  exact F4 (by omega) (fun _ _=>True) trivial (fun n i nx hi _ hn=>C4 hi (hn _ trivial)) (fun n _=>h _)
theorem DN5{code:List B8}{a s:Int}{Q:Geo->List A0->List B0->Int->Int->Int->Prop}(hc:L0 code)(ha:0<=a/\a<=500000000000)
    (h:∀ p sx l n a' s',DC6 p->WD p sx l->AU4 sx->0<=a'->a'<=a+700->Q ⟨p⟩ sx l n a' s'):AA3 ⟨code,a,s⟩ Q:=by
  unfold AA3
  dsimp only
  refine BT7 hc (by omega) fun p sx l a1 s1 hp hs hl p0 p1=>BL1 hc hp hs hl (by omega) fun b a2 s2 b1 b2 q0 q1=>?_
  have hpl:=CK9 hp.1
  have w:WD p sx b:=⟨by omega,hs.wide,⟨by omega,fun x hx=>by have ⟨⟨o1,o2⟩,o3⟩:=b2 x hx; exact ⟨⟨by omega,by omega⟩,by omega⟩⟩⟩
  refine Z5 (fun k=>∀ n a' s',0<=a'->a'<=a+700->k n a' s') (fun n a3 s3 u0 u1=>?_) fun k hk=>?_
  · refine Z5 (fun k=>∀ n,k n) (fun n=>h _ _ _ _ _ _ hp w hs u0 u1) fun k hk=>?_
    refine Z5 (fun k=>∀ b,k b) (fun b=>K0 (fun _=>hk _) (fun _=>hk _)) fun k2 hk2=>?_
    unfold U7
    exact AF0 (p:=p) hp.1 (CZ3 hs.wide.1 fun v=>K0 (fun _=>K0 (fun _=>hk2 _) (fun _=>hk2 _)) (fun _=>hk2 _))
  · exact AR8 hc (by unfold N0; omega) fun b a3 s3 u0 u1=>K0 (fun _=>AA6 hc (by unfold N0; omega) (by simp) fun v hv a4 s4 v0 v1=>hk _ _ _ v0 (by omega)) (fun _=>hk _ _ _ u0 (by omega))
end Go.Proofs.YtbgnaamdlcggjaaGreat
