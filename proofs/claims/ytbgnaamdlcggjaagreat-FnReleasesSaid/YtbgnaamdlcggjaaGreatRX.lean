import Derived.Test.YtbgnaamdlcggjaaGreatHB
import Derived.Test.YtbgnaamdlcggjaaGreatSA
set_option linter.unusedVariables false
set_option autoImplicit false
namespace Go.Proofs.YtbgnaamdlcggjaaGreat
open Go Go.RowKit Go.Gv
theorem CJ6{code:List B8}{p:List Int}{sx:List A0}{a s:Int}{Q:Table->Int->Int->Prop}(hc:L0 code)(hp:p.length<=100)(hs:AU4 sx)(ha:0<=a/\a<=700000000000)
    (h:∀ t a' s',t.Vars.length<=7->t.Where.length<=7->0<=a'->a'<=a+70->Q t a' s'):L9 ⟨code,a,s⟩ ⟨p⟩ sx Q:=by
  unfold L9
  dsimp only
  have h7:=hs.1
  refine CS3 hc hs (by omega) fun w a1 s1 hw p0 p1=>?_
  refine ⟨fun x at1 _ vars=>∃ n:Nat,x=(n:Int)/\n<=sx.length/\vars.length<=n/\0<=at1/\at1<=a1+2 * (n:Int),fun x _ _ _=>((sx.length:Int)-x).toNat,⟨0,rfl,Nat.zero_le _,Nat.le_refl _,p0,by omega⟩,?_⟩
  rintro _ at1 s2 vars ⟨n,rfl,hn,hv,h0,h1⟩
  refine E1 (fun g=>?_) (fun g=>?_)
  · unfold ln at g
    refine Z5 (fun k=>∀ a' s' v,0<=a'->a'<=at1+2->v.length<=n+1->k a' s' v) (fun a2 s3 v q0 q1 q2=>?_) fun k hk=>AR8 hc (by unfold N0; omega) fun b a2 s3 q0 q1=>K0 (fun _=>⟨by unfold ln; simp only [List.length_singleton]; omega,hk _ _ _ q0 q1 (by simp; omega)⟩) (fun _=>hk _ _ _ q0 q1 (by omega))
    rw [E9 (by omega) (by omega)]
    exact ⟨⟨n+1,by omega,by omega,q2,q0,by omega⟩,by show ((sx.length:Int)-((n:Int)+1)).toNat<((sx.length:Int)-(n:Int)).toNat; omega⟩
  · refine Z5 (fun k=>∀ a' s' l,0<=a'->a'<=at1+2->k a' s' l) (fun a2 s3 lvl q0 q1=>?_) fun k hk=>?_
    · refine Z5 (fun k=>∀ a' s' l,0<=a'->a'<=at1+8->k a' s' l) (fun a3 s4 sm u0 u1=>h _ _ _ (by show vars.length<=7; omega) (by show w.length<=7; omega) u0 (by omega)) fun k hk=>?_
      refine Z5 (fun k=>∀ b a' s',0<=a'->a'<=at1+6->k b a' s') (fun b a3 s4 u0 u1=>K0 (fun _=>H8 hc (by unfold N0; omega) fun r a4 s5 _ _ _ v0 v1=>hk _ _ _ v0 (by omega)) (fun _=>hk _ _ _ u0 (by omega))) fun k2 hk2=>?_
      exact AR8 hc (by unfold N0; omega) fun b a3 s4 u0 u1=>K0 (fun _=>hk2 _ _ _ u0 (by omega)) (fun _=>hk2 _ _ _ u0 (by omega))
    · refine BE5 (p:=p) (by omega) (K0 (fun hg=>(H8 hc (by unfold N0; omega) fun r a2 s3 _ _ _ q0 q1=>CJ5 (p:=p) hg fun o=>K0 (fun _=>hk _ _ _ q0 q1) (fun _=>hk _ _ _ q0 q1))) (fun _=>hk _ _ _ h0 (by omega)))
theorem CP1{code:List B8}{p:List Int}{sx:List A0}{a s:Int}{Q:Table->Int->Int->Prop}(hc:L0 code)(hp:p.length<=100)(hs:AU4 sx)(ha:0<=a/\a<=600000000000)
    (h:∀ t a' s',BH7 t->0<=a'->a'<=a+80->Q t a' s'):T9 ⟨code,a,s⟩ ⟨p⟩ sx Q:=by
  unfold T9
  dsimp only
  refine CJ6 hc hp hs (by omega) fun t a1 s1 h1 h2 p0 p1=>?_
  refine Z5 (fun k=>∀ a' s' lv (v w:List Int) sm,v.length<=8->w.length<=8->0<=a'->a'<=a+80->k a' s' lv v w sm) (fun a2 s2 lv v w sm g1 g2 g3 g4=>h _ _ _ ⟨g1,g2⟩ g3 g4) fun k hk=>?_
  refine H8 hc (by unfold N0; omega) fun r a2 s2 _ _ _ q0 q1=>?_
  refine P8 (fun _=>?_) (fun _=>P8 (fun _=>?_) (fun _=>P8 (fun _=>?_) (fun _=>P8 (fun _=>?_) (fun _=>P8 (fun _=>E1 (fun c=>?_) (fun c=>?_)) (fun _=>?_)))))
  · exact AA6 hc (by unfold N0; omega) (by simp) fun v hv a3 s3 u0 u1=>hk _ _ _ _ _ _ (by omega) (by omega) u0 (by omega)
  · exact AA6 hc (by unfold N0; omega) (by simp) fun v hv a3 s3 u0 u1=>⟨by unfold ln; simp only [List.length_singleton]; omega,hk _ _ _ _ _ _ (by simp; omega) (by omega) u0 (by omega)⟩
  · exact ⟨by unfold ln; simp only [List.length_singleton]; omega,hk _ _ _ _ _ _ (by omega) (by simp; omega) q0 (by omega)⟩
  · exact AA6 hc (by unfold N0; omega) (by simp) fun v hv a3 s3 u0 u1=>hk _ _ _ _ _ _ (by omega) (by omega) u0 (by omega)
  · exact AA6 hc (by unfold N0; omega) (by simp) fun v hv a3 s3 u0 u1=>⟨by omega,by unfold ln at c; show 0<_; omega,hk _ _ _ _ _ _ (by omega) (by simp; omega) u0 (by omega)⟩
  · exact hk _ _ _ _ _ _ (by omega) (by omega) q0 (by omega)
  · exact hk _ _ _ _ _ _ (by omega) (by omega) q0 (by omega)
theorem DB8{A B C:Type}{f:(A->B->C->Prop)->Prop}{k:A->B->C->Prop}(P:A->B->C->Prop)(h:∀ a b c,P a b c->k a b c)(hf:∀ k':A->B->C->Prop,(∀ a b c,P a b c->k' a b c)->f k'):jn f k:=hf k h
theorem DS6:∀ x∈([[(-1),0,0],[(-1),0,0,1,1,2,2],[(-1),0,0,0,1,1,2,3],[(-1),0,0,1,1],[(-1)],[(-1),0,1,2]]:List (List Int)),gOk x=true/\x.length<=8:=by
  intro x hx
  simp only [List.mem_cons,List.not_mem_nil,or_false] at hx
  rcases hx with rfl | rfl | rfl | rfl | rfl | rfl <;> exact ⟨by decide +kernel,by decide⟩
theorem DT3{p:List Int}{r:Int}{i:Nat}(h:i<p.length):gi (p++[r]) i=gi p i:=by unfold gi; rw [List.getD_eq_getElem?_getD,List.getD_eq_getElem?_getD,List.getElem?_append_left h]
theorem DT0{p:List Int}{r:Int}(h:gOk p=true)(hl:p.length<30)(h0:0<=r)(h1:r<(p.length:Int)):gOk (p++[r])=true:=by
  unfold gOk at h ⊢
  simp only [Bool.and_eq_true,decide_eq_true_eq,List.length_append,List.length_singleton] at h ⊢
  obtain ⟨⟨⟨a,b⟩,c⟩,d⟩:=h
  refine ⟨⟨⟨by omega,by omega⟩,by rw [DT3 (by omega)]; exact c⟩,?_⟩
  rw [List.range_succ,List.all_append,Bool.and_eq_true]
  refine ⟨List.all_eq_true.2 fun j hj=>?_,?_⟩
  · have hj':=List.mem_range.1 hj
    have:=List.all_eq_true.1 d j hj
    rw [DT3 hj']; exact this
  · have e:gi (p++[r]) p.length=r:=by unfold gi; simp
    simp only [List.all_cons,List.all_nil,Bool.and_true,e]
    rw [show decide (p.length=0)=false from decide_eq_false (by omega),Bool.false_or]
    exact U2.2 (by omega)
theorem DR1{code:List B8}{a s:Int}{Q:Geo->Int->Int->Prop}(hc:L0 code)(ha:0<=a/\a<=900000000000)(h:∀ p a' s',gOk p=true->p.length<=11->0<=a'->a'<=a+20->Q ⟨p⟩ a' s'):AA7 ⟨code,a,s⟩ Q:=by
  unfold AA7
  dsimp only
  refine H8 hc (by unfold N0; omega) fun r a1 s1 p0 p1 _ p2 p3=>BP5 (fun x=>gOk x=true/\x.length<=8) DS6 p0 (by simp; unfold ln at p1; simp at p1; omega) fun p hp=>AL9 (by omega) ?_
  refine H8 hc (by unfold N0; omega) fun r2 a2 s2 q0 q1 _ q2 q3=>?_
  refine ⟨fun k at1 _ o=>∃ n:Nat,k=(n:Int)/\n<=3/\gOk o=true/\o.length+n<=11/\0<=at1/\at1+2 * (n:Int)<=a2+6,fun k _ _ _=>k.toNat,⟨r2.toNat,by omega,by omega,hp.1,by omega,q2,by omega⟩,?_⟩
  rintro k at1 s3 o ⟨n,rfl,hn,ho,hl,g0,g1⟩
  refine E1 (fun c=>?_) (fun c=>h _ _ _ ho (by omega) g0 (by omega))
  refine H8 hc (by unfold N0; omega) fun r3 a3 s4 u0 u1 _ u2 u3=>⟨by unfold ln; simp only [List.length_singleton]; omega,?_⟩
  have hpos:0<o.length:=by
    have:=ho; unfold gOk at this; simp only [Bool.and_eq_true,decide_eq_true_eq] at this; omega
  rw [E9 (by omega) (by omega)]
  exact ⟨⟨n-1,by omega,by omega,DT0 ho (by omega) u0 (by unfold ln at u1; omega),by simp; omega,u2,by omega⟩,by show ((n:Int)-1).toNat<(n:Int).toNat; omega⟩
theorem DL9{code:List B8}{a s:Int}{Q:Geo->Int->Int->Prop}(hc:L0 code)(ha:0<=a/\a<=900000000000)(h:∀ p a' s',p.length<=40->0<=a'->a'<=a+30->Q ⟨p⟩ a' s'):AA1 ⟨code,a,s⟩ Q:=by
  unfold AA1
  dsimp only
  refine DR1 hc (by omega) fun p a1 s1 hp hl p0 p1=>?_
  have hpos:0<p.length:=by
    have:=hp; unfold gOk at this; simp only [Bool.and_eq_true,decide_eq_true_eq] at this; omega
  dsimp only
  refine DB8 (fun a' s' (o:List Int)=>o.length<=40/\0<=a'/\a'<=a+30) (fun a' s' o ⟨h1,h2,h3⟩=>h _ _ _ h1 h2 h3) fun k hk=>?_
  refine H8 hc (by unfold N0; omega) fun r a2 s2 q0 q1 _ q2 q3=>?_
  refine P8 (fun _=>?_) (fun _=>P8 (fun _=>?_) (fun _=>P8 (fun _=>h _ _ _ (by simp) q2 (by omega)) (fun _=>P8 (fun _=>?_) (fun _=>hk _ _ _ ⟨by omega,q2,by omega⟩))))
  · exact ⟨by omega,by show 0<p.length; omega,hk _ _ _ ⟨by simp; omega,q2,by omega⟩⟩
  · exact AA6 hc (by unfold N0; omega) (by simp) fun v hv a3 s3 u0 u1=>⟨by unfold ln; simp only [List.length_singleton]; omega,hk _ _ _ ⟨by simp; omega,u0,by omega⟩⟩
  · refine H8 hc (by unfold N0; omega) fun r2 a3 s3 u0 u1 _ u2 u3=>?_
    have e1:wr (30-ln p)=30-ln p:=E9 (by unfold ln; omega) (by unfold ln; omega)
    rw [e1,E9 (by unfold ln; omega) (by unfold ln; omega)]
    exact ⟨by unfold ln; omega,by unfold ln; omega,hk _ _ _ ⟨by rw [List.length_append,List.length_replicate]; unfold ln; omega,u2,by omega⟩⟩
def EP4(l:List Record):Prop:=l.length<=40/\∀ r∈l,r.Values.length<=8
theorem EJ9{r:Record}{Q:Record->Prop}(h:r.Values.length<=8)(hq:Q ⟨r.Area,r.House,r.Values⟩):BF1 r Q:=by
  unfold BF1
  exact AL9 (by omega) hq
theorem DT5{code:List B8}{sx:List A0}{areas:List Int}{a s:Int}{Q:List Record->Int->Int->Prop}(hc:L0 code)(hl:sx.length<=7)(hA:0<areas.length)(ha:0<=a/\a<=700000000000)
    (h:∀ l a' s',l.length<=24->(∀ r∈l,r.Values.length<=8)->0<=a'->a'<=a+300->Q l a' s'):AD8 ⟨code,a,s⟩ sx areas Q:=by
  unfold AD8
  dsimp only
  refine H8 hc (by unfold N0; omega) fun r a1 s1 p0 p1 _ p2 p3=>?_
  refine ⟨fun l k at1 _=>∃ n:Nat,k=(n:Int)/\n<=12/\l.length+2 * n<=24/\(∀ r∈l,r.Values.length<=8)/\0<=at1/\at1+22 * (n:Int)<=a1+264,fun _ k _ _=>k.toNat,⟨r.toNat,by omega,by omega,by simp; omega,(fun x hx=>by cases hx),p2,by omega⟩,?_⟩
  rintro l k at1 s2 ⟨n,rfl,hn,hll,hlb,g0,g1⟩
  refine E1 (fun c=>?_) (fun c=>h _ _ _ (by omega) hlb g0 (by omega))
  refine DB8 (fun (o:List Record) a' s'=>o.length<=l.length+2/\(∀ r∈o,r.Values.length<=8)/\0<=a'/\a'<=at1+22) (fun o a' s' ⟨h1,h2,h3,h4⟩=>?_) fun k2 hk2=>?_
  · rw [E9 (by omega) (by omega)]
    exact ⟨⟨n-1,by omega,by omega,by omega,h2,h3,by omega⟩,by show ((n:Int)-1).toNat<(n:Int).toNat; omega⟩
  · refine CH2 hc hl hA (by omega) fun rc a2 s3 r1 u0 u1=>⟨by unfold ln; simp only [List.length_singleton]; omega,AR8 hc (by unfold N0; omega) fun b a3 s4 v0 v1=>K0 (fun _=>EJ9 (r:=⟨rc.Area,rc.House,rc.Values⟩) r1 ⟨by unfold ln; simp; omega,hk2 _ _ _ ⟨by simp,AR9 (AR9 hlb r1) r1,v0,by omega⟩⟩) (fun _=>hk2 _ _ _ ⟨by simp,AR9 hlb r1,v0,by omega⟩)⟩
theorem DL5{code:List B8}{a s:Int}{Q:Geo->List A0->List Record->Int->Int->Prop}(hc:L0 code)(ha:0<=a/\a<=600000000000)
    (h:∀ p sx l a' s',gOk p=true->p.length<=11->AU4 sx->l.length<=24->(∀ r∈l,r.Values.length<=8)->0<=a'->a'<=a+400->Q ⟨p⟩ sx l a' s'):AA2 ⟨code,a,s⟩ Q:=by
  unfold AA2
  dsimp only
  exact DR1 hc (by omega) fun p a1 s1 hp hl p0 p1=>CK4 hc (by omega) fun sx a2 s2 hs _ q0 q1=>AF0 (p:=p) hp (DT5 hc hs.1 (DF6 hp) (by omega) fun l a3 s3 l1 l2 u0 u1=>h _ _ _ _ _ hp hl hs l1 l2 u0 (by omega))
theorem CL6{code:List B8}{a s:Int}{Q:Geo->List A0->List Record->Int->Int->Prop}(hc:L0 code)(ha:0<=a/\a<=500000000000)
    (h:∀ p sx l a' s',p.length<=40->AU4 sx->EP4 l->0<=a'->a'<=a+500->Q ⟨p⟩ sx l a' s'):S9 ⟨code,a,s⟩ Q:=by
  unfold S9
  dsimp only
  refine DL5 hc (by omega) fun p sx l a1 s1 hp hl hs l1 l2 p0 p1=>?_
  dsimp only
  refine DB8 (fun (o:List Record) a' s'=>EP4 o/\0<=a'/\a'<=a+500) (fun o a' s' ⟨h1,h2,h3⟩=>h p _ _ _ _ (by omega) hs h1 h2 h3) fun k hk=>?_
  refine H8 hc (by unfold N0; omega) fun r a2 s2 q0 q1 _ q2 q3=>?_
  refine P8 (fun _=>?_) (fun _=>P8 (fun _=>?_) (fun _=>P8 (fun _=>?_) (fun _=>hk _ _ _ ⟨⟨by omega,l2⟩,q2,by omega⟩)))
  · exact DL9 hc (by omega) fun p2 a3 s3 h1 u0 u1=>h _ _ _ _ _ h1 hs ⟨by omega,l2⟩ u0 (by omega)
  · exact BN7 hc (by omega) fun sx2 a3 s3 h1 u0 u1=>h p _ _ _ _ (by omega) h1 ⟨by omega,l2⟩ u0 (by omega)
  · exact AA6 hc (by unfold N0; omega) (by simp) fun v hv a3 s3 u0 u1=>CH3 hc hs.1 (by omega) fun vs a4 s4 hv4 v0 v1=>⟨by unfold ln; simp only [List.length_singleton]; omega,hk _ _ _ ⟨⟨by simp; omega,AR9 l2 (by show vs.length<=8; have:=hs.1; omega)⟩,v0,by omega⟩⟩
end Go.Proofs.YtbgnaamdlcggjaaGreat
