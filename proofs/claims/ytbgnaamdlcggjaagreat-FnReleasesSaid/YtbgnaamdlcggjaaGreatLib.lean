import Derived.Test.YtbgnaamdlcggjaaGreatLibA
import Derived.Laws.BytesString
import Derived.WideLaws
import Derived.WideMake
import Derived.MapKept
import Derived.IntWalk
import Derived.ProofKit
import Derived.OpenShut
import Derived.ChangeOld
import Derived.Below
namespace Go.Gv
open Go Go.RowKit
abbrev Asg:=List (Nat×Value)
def F1:Asg->Nat->Value
  | [],_=>undef
  | (j,v) :: r,i=>if Nat.beq i j then v else F1 r i
theorem W5{A:Asg}{i j:Nat}{v:Value}(h:i≠j):F1 ((j,v) :: A) i=F1 A i:=by
  show (if Nat.beq i j=true then v else F1 A i)=F1 A i
  rw [CN3 h]; simp
theorem AP8{A:Asg}{i:Nat}{v:Value}:F1 ((i,v) :: A) i=v:=by
  show (if Nat.beq i i=true then v else F1 A i)=v
  rw [show Nat.beq i i=true from Nat.beq_refl i]; simp
def gOn(A:Asg)(o:Oper):Option Bool :=
  match o.guard with
  | none=>some true
  | some (j,want)=>match F1 A j with | .bool b=>some (b==want) | .tuple _=>some false | _=>none
def dv(o:Oper)(u:Value):Value:=match o.dst with | none=>undef | some _=>u
theorem BL9{o:Oper}{u:Value}{d:Nat}(h:o.dst=some d):dv o u=u:=by unfold dv; rw [h]
def QX[DM](P:Program)(n:Nat)(o:Oper)(V:Env)(w:World)(v:Value):Prop :=
  (execOp (opd n V) o).run P w = .ok (.value v) w∨∃ f args,(execOp (opd n V) o).run P w = .ok (.enter f args) w/\B5 P f args w fun u w'=>u=v/\Ext w w'
def CX(P:Program)(n:Nat)(o:Oper)(V:Env)(w:World)(K:Value->World->Prop):Prop :=
  (∃ u w',(execOp (opd n V) o).run P w = .ok (.value u) w'/\K u w')∨(∃ w',(execOp (opd n V) o).run P w = .ok .skip w'/\K undef w') ∨
    (∃ f args w',(execOp (opd n V) o).run P w = .ok (.enter f args) w'/\B5 P f args w' K)∨∃ row args w',(execOp (opd n V) o).run P w = .ok (.row row args) w'/\Rows P row args w' K
def AK3(anc:List Nat)(w:World):List (Nat×PH)->Prop
  | []=>True
  | (i,h) :: l=>(anc.contains i=true∨Sub h w)/\AK3 anc w l
theorem AK3.get{anc:List Nat}{w:World}:∀ {L:List (Nat×PH)},AK3 anc w L->∀ p∈L,p.1∈anc∨Sub p.2 w
  | [],_,p,hp=>by cases hp
  | (i,h) :: l,⟨h1,h2⟩,p,hp=>by
    rcases List.mem_cons.1 hp with rfl | hp
    · exact h1.imp (fun h=>by simpa using h) id
    · exact h2.get p hp
section
variable {P:Program} {n:Nat} {N:Asn} {X:Nat->Asn} {R:Asn} {ops:Array Oper} {k:Nat} {anc:List (List Nat)} {src:List (List (Nat×Option Nat))} {fin:List (Nat×Option Nat)}
def GS[DM](P:Program)(n:Nat)(ops:Array Oper)(anc:List (List Nat))(src:List (List (Nat×Option Nat)))(V0:Env)(E:Asg->World->Prop):List (Nat×Bool)->Asg->List (Nat×PH)->World->Prop
  | [],A,_,w=>∀ w',Ext w w'->E A w'
  | (i,c) :: r,A,L,w=>∃ o,ops.toList[i]?=some o /\
     ((gOn A o=some false/\GS P n ops anc src V0 E r ((i,undef) :: A) L w) ∨
      (gOn A o=some true/\c=false/\∃ (v:Value) (hs:List PH),(∀ V w',J7 V0 (F1 A) V (src.getD i [])->(∀ h∈hs,Sub h w')->QX P n o V w' v)/\(∀ h∈hs,Sub h w)/\GS P n ops anc src V0 E r ((i,v) :: A) (hs.map (fun h=>(i,h))++L) w) ∨
      (gOn A o=some true/\c=true/\∀ V w',Ext w w'->J7 V0 (F1 A) V (src.getD i [])->CX P n o V w' fun u w''=>AK3 (anc.getD i []) w'' L/\GS P n ops anc src V0 E r ((i,dv o u) :: A) L w''))
theorem GS.ext[DM]{V0:Env}{E:Asg->World->Prop}:∀ {pi:List (Nat×Bool)} {A:Asg} {L:List (Nat×PH)} {w w':World},GS P n ops anc src V0 E pi A L w->Ext w w'->GS P n ops anc src V0 E pi A L w'
  | [],_,_,_,_,h,x=>fun w'' y=>h w'' (x.trans y)
  | (i,c) :: r,A,L,w,w',⟨o,ho,h⟩,x=>⟨o,ho,by
    rcases h with ⟨g,h⟩ | ⟨g,hc,v,hs,h1,h2,h3⟩ | ⟨g,hc,h⟩
    · exact .inl ⟨g,h.ext x⟩
    · exact .inr (.inl ⟨g,hc,v,hs,h1,fun a ha=>(h2 a ha).ext x,h3.ext x⟩)
    · exact .inr (.inr ⟨g,hc,fun V w'' y=>h V w'' (x.trans y)⟩)⟩
def EC5(ops:Array Oper)(k:Nat)(anc:List (List Nat))(src:List (List (Nat×Option Nat)))(fin:List (Nat×Option Nat)):Bool :=
  (List.range ops.size).all (fun i =>
    match ops.toList[i]? with
    | none=>false
    | some o =>
      (match o.guard with | none=>true | some (j,_)=>(anc.getD i []).contains j&&(Q8 ops j).isSome) &&
      o.after.toList.all (fun e => !Region.binds .any e || Nat.blt e.on i) &&
      (anc.getD i []).all (fun j=>o.after.toList.any fun e=>Region.binds .any e&&(Nat.beq e.on j || (anc.getD e.on []).contains j)) &&
      (Nat.blt i k || (List.range k).all (fun j=>(anc.getD i []).contains j))) &&
  (List.range k).all (fun i =>
    (src.getD i []).all (fun p =>
      match p.2 with
      | none=>(List.range k).all (fun m => !(Q8 ops m==some p.1) || (anc.getD m []).contains i)
      | some j=>(anc.getD i []).contains j&&Q8 ops j==some p.1&&Nat.blt j k)) &&
  (List.range k).all (fun i=>(List.range k).all fun m=>Nat.beq i m || (Q8 ops i).isNone || !(Q8 ops i==Q8 ops m)) &&
  fin.all (fun p =>
    match p.2 with
    | none=>(List.range k).all (fun m => !(Q8 ops m==some p.1))
    | some j=>Q8 ops j==some p.1&&Nat.blt j k) &&
  Nat.ble k ops.size&&(List.range k).all (fun i=>match Q8 ops i with | none=>true | some d=>Nat.blt d n)
structure GOk (n:Nat) (ops:Array Oper) (k:Nat) (anc:List (List Nat)) (src:List (List (Nat×Option Nat))) (fin:List (Nat×Option Nat)):Prop where
  guard:∀ (i:Nat) (o:Oper),ops[i]?=some o->∀ j b,o.guard=some (j,b)->j∈anc.getD i []/\∃ d,Q8 ops j=some d
  edge:∀ (i:Nat) (o:Oper),ops[i]?=some o->∀ e∈o.after,Region.binds .any e=true->e.on<i
  up:∀ (i:Nat) (o:Oper),ops[i]?=some o->∀ j∈anc.getD i [],∃ e∈o.after,Region.binds .any e=true/\(e.on=j∨j∈anc.getD e.on [])
  tail:∀ i,i<ops.size->k<=i->∀ j,j<k->j∈anc.getD i []
  base:∀ i,i<k->∀ t,(t,none)∈src.getD i []->∀ m,m<k->Q8 ops m=some t->i∈anc.getD m []
  from_:∀ i,i<k->∀ t j,(t,some j)∈src.getD i []->j∈anc.getD i []/\Q8 ops j=some t/\j<k
  uniq:∀ i,i<k->∀ m,m<k->i≠m->∀ t,Q8 ops i=some t->Q8 ops m≠some t
  finb:∀ t,(t,none)∈fin->∀ m,m<k->Q8 ops m≠some t
  finf:∀ t j,(t,some j)∈fin->Q8 ops j=some t/\j<k
  size:k<=ops.size
  low:∀ i,i<k->∀ d,Q8 ops i=some d->d<n
theorem GOk.of(h:EC5 (n:=n) ops k anc src fin=true):GOk n ops k anc src fin:=by
  unfold EC5 at h
  simp only [Bool.and_eq_true] at h
  obtain ⟨⟨⟨⟨⟨h1,h2⟩,h3⟩,h4⟩,h5⟩,h6⟩:=h
  have g:∀ i o,ops[i]?=some o->i<ops.size/\ops.toList[i]?=some o:=fun i o ho=>⟨(Array.getElem?_eq_some_iff.1 ho).1,by rw [Array.getElem?_toList]; exact ho⟩
  have h1':∀ i o,ops[i]?=some o->_:=fun i o ho=>by
    have:=List.all_eq_true.1 h1 i (List.mem_range.2 (g i o ho).1)
    rw [(g i o ho).2] at this
    simp only [Bool.and_eq_true] at this
    exact this
  refine ⟨fun i o ho j b hg=>?_,fun i o ho e he hb=>?_,fun i o ho j hj=>?_,fun i hi hk j hj=>?_,fun i hi t ht m hm hd=>?_,fun i hi t j ht=>?_,fun i hi m hm hne t hd=>?_,fun t ht m hm=>?_,fun t j ht=>?_,Nat.le_of_ble_eq_true h5,fun i hi d hd=>?_⟩
  · have:=(h1' i o ho).1.1.1
    rw [hg] at this
    simp only [Bool.and_eq_true] at this
    refine ⟨by simpa using this.1,?_⟩
    cases hd:Q8 ops j with
    | none=>rw [hd] at this; simp at this
    | some d=>exact ⟨d,rfl⟩
  · have:=List.all_eq_true.1 (h1' i o ho).1.1.2 e (Array.mem_toList_iff.2 he)
    simp only [hb,Bool.not_true,Bool.false_or] at this
    exact CG8 this
  · have:=List.all_eq_true.1 (h1' i o ho).1.2 j hj
    obtain ⟨e,he,hb⟩:=List.any_eq_true.1 this
    simp only [Bool.and_eq_true,Bool.or_eq_true] at hb
    exact ⟨e,Array.mem_toList_iff.1 he,hb.1,hb.2.imp (fun h=>Nat.eq_of_beq_eq_true h) (fun h=>by simpa using h)⟩
  · have ho:ops[i]?=some ops[i]:=by simp [hi]
    have:=(h1' i _ ho).2
    simp only [Bool.or_eq_true] at this
    rcases this with h | h
    · have:=CG8 h; omega
    · have:=List.all_eq_true.1 h j (List.mem_range.2 hj); simpa using this
  · have:=List.all_eq_true.1 (List.all_eq_true.1 h2 i (List.mem_range.2 hi)) _ ht
    have:=List.all_eq_true.1 this m (List.mem_range.2 hm)
    simpa [hd] using this
  · have:=List.all_eq_true.1 (List.all_eq_true.1 h2 i (List.mem_range.2 hi)) _ ht
    simp only [Bool.and_eq_true] at this
    exact ⟨by simpa using this.1.1,by simpa using this.1.2,CG8 this.2⟩
  · have:=List.all_eq_true.1 (List.all_eq_true.1 h3 i (List.mem_range.2 hi)) m (List.mem_range.2 hm)
    simp only [Bool.or_eq_true] at this
    rcases this with (h | h) | h
    · exact absurd (Nat.eq_of_beq_eq_true h) hne
    · rw [hd] at h; cases h
    · intro hd'
      rw [hd,hd'] at h; simp at h
  · have:=List.all_eq_true.1 (List.all_eq_true.1 h4 _ ht) m (List.mem_range.2 hm)
    simpa using this
  · have:=List.all_eq_true.1 h4 _ ht
    simp only [Bool.and_eq_true] at this
    exact ⟨by simpa using this.1,CG8 this.2⟩
  · have:=List.all_eq_true.1 h6 i (List.mem_range.2 hi)
    rw [hd] at this; exact CG8 this
def CA6(ops:Array Oper)(anc:List (List Nat))(src:List (List (Nat×Option Nat))):List (Nat×Bool)->List Nat->Bool
  | [],_=>true
  | (i,c) :: r,D=>(src.getD i []).all (fun p=>match p.2 with | some j=>D.contains j | none=>true) &&
      (match (ops.toList[i]?).bind (·.guard) with | some (j,_)=>D.contains j | none=>true) &&
      (!c || r.all (fun q=>(anc.getD q.1 []).contains i))&&!D.contains i&&CA6 ops anc src r (i :: D)
def DS2(ops:Array Oper)(k:Nat)(anc:List (List Nat))(src:List (List (Nat×Option Nat)))(pi:List (Nat×Bool)):Bool :=
  CA6 ops anc src pi []&&pi.all (fun p=>Nat.blt p.1 k)&&(List.range k).all (fun i=>pi.any fun p=>Nat.beq p.1 i)
theorem BR7:∀ {r:List (Nat×Bool)} {D:List Nat},CA6 ops anc src r D=true->∀ p∈r,p.1 ∉ D
  | [],_,_,p,hp=>by cases hp
  | (i,c) :: r,D,h,p,hp=>by
    unfold CA6 at h
    simp only [Bool.and_eq_true] at h
    rcases List.mem_cons.1 hp with rfl | hp
    · simpa using h.1.2
    · have:=BR7 h.2 p hp
      intro hd; exact this (by simp [hd])
structure CQ7 [DM] (P:Program) (n:Nat) (ops:Array Oper) (k:Nat) (anc:List (List Nat)) (src:List (List (Nat×Option Nat))) (V0:Env) (E:Asg->World->Prop) (rest:List (Nat×Bool)) (D:List Nat) (A:Asg) (L:List (Nat×PH)) (listed:Array Bool) (V:Env) (w:World):Prop where
  gs:GS P n ops anc src V0 E rest A L w
  ord:CA6 ops anc src rest D=true
  hD:∀ j,j∈D↔(j<k/\∀ p∈rest,p.1≠j)
  low:∀ p∈rest,p.1<k
  und:∀ p∈rest,listed.getD p.1 false=false
  srcD:∀ i∈D,∀ t j,(t,some j)∈src.getD i []->j∈D
  grdD:∀ i∈D,∀ o,ops.toList[i]?=some o->∀ j b,o.guard=some (j,b)->j∈D
  dec:∀ i∈D,∃ o,ops.toList[i]?=some o/\((gOn A o=some false/\F1 A i=undef) ∨
    (gOn A o=some true/\(listed.getD i false=true∨∃ (hs:List PH),(∀ h∈hs,(i,h)∈L)/\∀ V w',J7 V0 (F1 A) V (src.getD i [])->(∀ h∈hs,Sub h w')->QX P n o V w' (F1 A i))))
  slot:∀ i,i<k->listed.getD i false=true->∀ d,Q8 ops i=some d->V d=F1 A i
  old:∀ t,(∀ i,i<k->listed.getD i false=true->Q8 ops i≠some t)->V t=V0 t
  lq:∀ p∈L,listed.getD p.1 false=true∨Sub p.2 w
  closed:∀ i,listed.getD i false=true->∀ j∈anc.getD i [],listed.getD j false=true
  small:∀ i,listed.getD i false=true->i<k
theorem N9{V0 V:Env}{a b:Nat->Value}:∀ {l:List (Nat×Option Nat)},(∀ t j,(t,some j)∈l->a j=b j)->J7 V0 a V l->J7 V0 b V l
  | [],_,_=>trivial
  | (t,none) :: l,h,⟨h1,h2⟩=>⟨h1,N9 (fun t j hj=>h t j (by simp [hj])) h2⟩
  | (t,some j) :: l,h,⟨h1,h2⟩=>⟨by rw [h1]; exact h t j (by simp),N9 (fun t j hj=>h t j (by simp [hj])) h2⟩
theorem AC4{A B:Asg}{o:Oper}(h:∀ j b,o.guard=some (j,b)->F1 A j=F1 B j):gOn A o=gOn B o:=by
  unfold gOn
  cases hg:o.guard with
  | none=>rfl
  | some p=>obtain ⟨j,b⟩:=p; simp only; rw [h j b hg]
section
variable {V0:Env} {E:Asg->World->Prop} {rest:List (Nat×Bool)} {D:List Nat} {A:Asg} {L:List (Nat×PH)} {listed:Array Bool} {V:Env} {w:World}
theorem CQ7.settle[DM]{i:Nat}{c:Bool}{o:Oper}{v:Value}{hs:List PH}(I:CQ7 P n ops k anc src V0 E ((i,c) :: rest) D A L listed V w)(ho:ops.toList[i]?=some o)
    (hgs:GS P n ops anc src V0 E rest ((i,v) :: A) (hs.map (fun h=>(i,h))++L) w) (hsub:∀ h∈hs,Sub h w)
    (hd:(gOn A o=some false/\v=undef)∨(gOn A o=some true/\∀ V w',J7 V0 (F1 A) V (src.getD i [])->(∀ h∈hs,Sub h w')->QX P n o V w' v)) :
    CQ7 P n ops k anc src V0 E rest (i :: D) ((i,v) :: A) (hs.map (fun h=>(i,h))++L) listed V w:=by
  have hord:=I.ord
  unfold CA6 at hord
  simp only [Bool.and_eq_true] at hord
  obtain ⟨⟨⟨⟨o1,o2⟩,o3⟩,o4⟩,o5⟩:=hord
  have hiD:i ∉ D:=by simpa using o4
  have hout:=BR7 o5
  have hir:∀ p∈rest,p.1≠i:=fun p hp e=>hout p hp (by simp [e])
  have hiu:listed.getD i false=false:=I.und (i,c) (by simp)
  have hlk:∀ j,j∈D->F1 ((i,v) :: A) j=F1 A j:=fun j hj=>W5 fun e=>hiD (e ▸ hj)
  have hsrc:∀ t j,(t,some j)∈src.getD i []->j∈D:=fun t j hj=>by
    have:=List.all_eq_true.1 o1 _ hj; simpa using this
  have hgrd:∀ o,ops.toList[i]?=some o->∀ j b,o.guard=some (j,b)->j∈D:=fun o' ho' j b hg=>by
    rw [ho'] at o2; simp only [Option.bind_some,hg] at o2; simpa using o2
  refine ⟨hgs,o5,fun j=>?_,fun p hp=>I.low p (by simp [hp]),fun p hp=>I.und p (by simp [hp]),fun m hm t j hj=>?_,fun m hm o' ho' j b hg=>?_,fun m hm=>?_,fun m hm hl d hd=>?_,I.old,fun p hp=>?_,I.closed,I.small⟩
  · constructor
    · intro hj
      rcases List.mem_cons.1 hj with rfl | hj
      · exact ⟨I.low (j,c) (by simp),hir⟩
      · exact ⟨((I.hD j).1 hj).1,fun p hp=>((I.hD j).1 hj).2 p (by simp [hp])⟩
    · rintro ⟨h1,h2⟩
      by_cases e:j=i
      · simp [e]
      · refine List.mem_cons.2 (.inr ((I.hD j).2 ⟨h1,fun p hp=>?_⟩))
        rcases List.mem_cons.1 hp with rfl | hp
        · exact fun e'=>e e'.symm
        · exact h2 p hp
  · rcases List.mem_cons.1 hm with rfl | hm
    · exact List.mem_cons.2 (.inr (hsrc t j hj))
    · exact List.mem_cons.2 (.inr (I.srcD m hm t j hj))
  · rcases List.mem_cons.1 hm with rfl | hm
    · exact List.mem_cons.2 (.inr (hgrd o' ho' j b hg))
    · exact List.mem_cons.2 (.inr (I.grdD m hm o' ho' j b hg))
  · rcases List.mem_cons.1 hm with rfl | hm
    · refine ⟨o,ho,?_⟩
      have hg:gOn ((m,v) :: A) o=gOn A o:=AC4 fun j b hg=>hlk j (hgrd o ho j b hg)
      rw [hg,AP8]
      refine hd.imp id fun ⟨h1,h2⟩=>⟨h1,.inr ⟨hs,fun h hh=>List.mem_append.2 (.inl (List.mem_map.2 ⟨h,hh,rfl⟩)),fun V w' hn=>h2 V w' (N9 (fun t j hj=>hlk j (hsrc t j hj)) hn)⟩⟩
    · obtain ⟨o',ho',h⟩:=I.dec m hm
      refine ⟨o',ho',?_⟩
      have hg:gOn ((i,v) :: A) o'=gOn A o':=AC4 fun j b hg=>hlk j (I.grdD m hm o' ho' j b hg)
      rw [hg,hlk m hm]
      refine h.imp id fun ⟨h1,h2⟩=>⟨h1,h2.imp id fun ⟨hs',h3,h4⟩=>⟨hs',fun h hh=>List.mem_append.2 (.inr (h3 h hh)),fun V w' hn=>h4 V w' (N9 (fun t j hj=>hlk j (I.srcD m hm t j hj)) hn)⟩⟩
  · rw [I.slot m hm hl d hd,W5]
    rintro rfl; rw [hiu] at hl; cases hl
  · rcases List.mem_append.1 hp with hp | hp
    · obtain ⟨h,hh,rfl⟩:=List.mem_map.1 hp
      exact .inr (hsub h hh)
    · exact I.lq p hp
theorem CQ7.norm[DM]:∀ {rest:List (Nat×Bool)} {D:List Nat} {A:Asg} {L:List (Nat×PH)},CQ7 P n ops k anc src V0 E rest D A L listed V w ->
    ∃ rest' D' A' L',CQ7 P n ops k anc src V0 E rest' D' A' L' listed V w/\(rest'=[]∨∃ i r o,rest'=(i,true) :: r/\ops.toList[i]?=some o/\gOn A' o=some true /\
      ∀ V w',Ext w w'->J7 V0 (F1 A') V (src.getD i [])->CX P n o V w' fun u w''=>AK3 (anc.getD i []) w'' L'/\GS P n ops anc src V0 E r ((i,dv o u) :: A') L' w'')
  | [],D,A,L,I=>⟨[],D,A,L,I,.inl rfl⟩
  | (i,c) :: r,D,A,L,I=>by
    obtain ⟨o,ho,h⟩:=I.gs
    rcases h with ⟨g,h⟩ | ⟨g,hc,v,hs,h1,h2,h3⟩ | ⟨g,hc,h⟩
    · exact (I.settle (hs:=[]) ho (by simpa using h) (fun _ hh=>by cases hh) (.inl ⟨g,rfl⟩)).norm
    · exact (I.settle ho h3 h2 (.inr ⟨g,h1⟩)).norm
    · subst hc
      exact ⟨_,D,A,L,I,.inr ⟨i,r,o,rfl,ho,g,h⟩⟩
end
theorem J4[DM]{Q:Exit->Act->World->Prop}{V0:Env}{w0:World}(k:Nat)(anc:List (List Nat))(src:List (List (Nat×Option Nat)))(fin:List (Nat×Option Nat))(pi:List (Nat×Bool))
    (chk:EC5 (n:=n) ops k anc src fin=true) (chk2:DS2 ops k anc src pi=true)
    (h:GS P n ops anc src V0 (fun A w=>∀ V,J7 V0 (F1 A) V fin->AP P n ops Q k V w) pi [] [] w0):AP P n ops Q 0 V0 w0:=by
  have c:=GOk.of chk
  unfold DS2 at chk2
  simp only [Bool.and_eq_true] at chk2
  obtain ⟨⟨k1,k2⟩,k3⟩:=chk2
  let E:Asg->World->Prop:=fun A w=>∀ V,J7 V0 (F1 A) V fin->AP P n ops Q k V w
  intro fuel0 listed0 hsz0 hf0 hl0
  have main:∀ (fuel:Nat) (listed:Array Bool) (rest:List (Nat×Bool)) (D:List Nat) (A:Asg) (L:List (Nat×PH)) (V:Env) (w:World),listed.size=ops.size->((List.range k).filter (fun i => !listed.getD i false)).length+(ops.size-k)<=fuel ->
      CQ7 P n ops k anc src V0 E rest D A L listed V w->wpAny P .any ops Q fuel listed (act n V) w:=by
    intro fuel
    have done:∀ (fuel:Nat) (listed:Array Bool) (rest:List (Nat×Bool)) (D:List Nat) (A:Asg) (L:List (Nat×PH)) (V:Env) (w:World),listed.size=ops.size->ops.size-k<=fuel ->
        CQ7 P n ops k anc src V0 E rest D A L listed V w->(∀ i,i<k->listed.getD i false=true)->wpAny P .any ops Q fuel listed (act n V) w:=by
      intro fuel listed rest D A L V w hsz hf I hall
      have hr:rest=[]:=by
        cases rest with
        | nil=>rfl
        | cons p r=>have:=I.und p (by simp); rw [hall _ (I.low p (by simp))] at this; cases this
      subst hr
      have hE:E A w:=I.gs w (Ext.refl _)
      refine hE V ?_ fuel listed hsz (by have:=c.size; omega) fun i hi=>⟨I.small i,hall i⟩
      have key:∀ l,(∀ p∈l,p∈fin)->J7 V0 (F1 A) V l:=by
        intro l
        induction l with
        | nil=>intro _; trivial
        | cons p l ih =>
          intro h
          obtain ⟨t,q⟩:=p
          have hp:=h (t,q) (by simp)
          have hl:=ih fun x hx=>h x (by simp [hx])
          cases q with
          | none=>exact ⟨I.old t fun m hm _=>c.finb t hp m hm,hl⟩
          | some j=>exact ⟨I.slot j (c.finf t j hp).2 (hall j (c.finf t j hp).2) t (c.finf t j hp).1,hl⟩
      exact key _ fun p hp=>hp
    induction fuel with
    | zero =>
      intro listed rest D A L V w hsz hf I
      refine done 0 listed rest D A L V w hsz (by omega) I fun i hi=>?_
      cases hh:listed.getD i false
      · exfalso
        have:i∈(List.range k).filter (fun i => !listed.getD i false):=List.mem_filter.2 ⟨List.mem_range.2 hi,by simp [hh]⟩
        have:=List.length_pos_of_mem this
        omega
      · rfl
    | succ fuel ih =>
      intro listed rest D A L V w hsz hf I
      by_cases hall:∀ i,i<k->listed.getD i false=true
      · exact done _ listed rest D A L V w hsz (by omega) I hall
      obtain ⟨rest,D,A,L,I,hn⟩:=I.norm
      have hks:=c.size
      refine ⟨fun h0=>?_,fun i hi=>?_⟩
      · exfalso
        obtain ⟨i,hik,hi⟩:∃ i,i<k/\listed.getD i false=false:=by
          refine Classical.byContradiction fun hn=>hall fun i hi=>?_
          cases hh:listed.getD i false
          · exact absurd ⟨i,hi,hh⟩ hn
          · rfl
        have least:∀ m,m<k->listed.getD m false=false->∃ j,j<k/\listed.getD j false=false/\∀ x,x<j->listed.getD x false=true:=by
          intro m
          induction m using Nat.strongRecOn with
          | _ m ihm =>
            intro hm hl
            by_cases h:∀ x,x<m->listed.getD x false=true
            · exact ⟨m,hm,hl,h⟩
            · obtain ⟨x,hx⟩:=Classical.not_forall.1 h
              obtain ⟨hxm,hxl⟩:=Classical.not_imp.1 hx
              exact ihm x hxm (by omega) (by simpa using hxl)
        obtain ⟨j,hjk',hjl,hjx⟩:=least i hik hi
        have ho:ops[j]?=some ops[j]:=by simp [show j<ops.size by omega]
        have:j∈Region.ready .any ops listed:=CC5 ho (by
          have h3:j<listed.size:=by omega
          simpa [Array.getD_eq_getD_getElem?,h3] using hjl) fun e he hb=>hjx e.on (c.edge j _ ho e he hb)
        rw [h0] at this; cases this
      · obtain ⟨h1,h2,o,hio,he⟩:=BB7 hi
        have h3:i<listed.size:=by omega
        have hu:listed.getD i false=false:=by simpa [Array.getD_eq_getD_getElem?,h3] using h2
        have hanc:∀ j∈anc.getD i [],listed.getD j false=true:=fun j hj=>by
          obtain ⟨e,hee,hb,hx⟩:=c.up i o hio j hj
          rcases hx with hx | hx
          · rw [← hx]; exact he e hee hb
          · exact I.closed e.on (he e hee hb) j hx
        have hik:i<k:=by
          refine Classical.byContradiction fun hn=>hall fun m hm=>hanc m (c.tail i h1 (by omega) m hm)
        have hol:ops.toList[i]?=some o:=by rw [Array.getElem?_toList]; exact hio
        have hdst:Q8 ops i=o.dst:=by simp [Q8,hol]
        have hneeds:J7 V0 (F1 A) V (src.getD i []):=by
          have key:∀ l,(∀ p∈l,p∈src.getD i [])->J7 V0 (F1 A) V l:=by
            intro l
            induction l with
            | nil=>intro _; trivial
            | cons p l ih =>
              intro h
              obtain ⟨t,q⟩:=p
              have hp:=h (t,q) (by simp)
              have hl:=ih fun x hx=>h x (by simp [hx])
              cases q with
              | none =>
                refine ⟨I.old t fun m hm hml hd=>?_,hl⟩
                have:=c.base i hik t hp m hm hd
                have:=I.closed m hml i this
                rw [hu] at this; cases this
              | some j =>
                obtain ⟨h4,h5,h6⟩:=c.from_ i hik t j hp
                exact ⟨I.slot j h6 (hanc j h4) t h5,hl⟩
          exact key _ fun p hp=>hp
        have hwant:∀ b,gOn A o=some b->Region.wanted o (yielded ops (act n V).tmps)=b:=fun b hb=>by
          unfold gOn at hb
          unfold Region.wanted
          split at hb
          · rename_i hg; simp only [hg]; exact Option.some.inj hb
          · rename_i j want hg
            simp only [hg]
            obtain ⟨hja,d,hjd⟩:=c.guard i o hio j want hg
            have hjl:=hanc j hja
            have hjk:=I.small j hjl
            have hsl:=I.slot j hjk hjl d hjd
            have hlt:=c.low j hjk d hjd
            have hdo:(ops[j]?).bind (·.dst)=some d:=by
              have:=hjd; unfold Q8 at this; rwa [Array.getElem?_toList] at this
            have hy:yielded ops (act n V).tmps j=(match V d with | .bool b=>some b | _=>none):=by
              unfold yielded
              rw [hdo]
              simp only [Option.bind_some]
              rw [AZ7,if_pos hlt]
              cases V d <;> rfl
            rw [hy,hsl]
            split at hb
            · rename_i b' hb'
              rw [hb']
              have:=Option.some.inj hb
              rw [← this]
              cases b' <;> cases want <;> rfl
            · rename_i vs hvs
              rw [hvs]
              have:=Option.some.inj hb
              rw [← this]; rfl
            · cases hb
        have hmeas:((List.range k).filter (fun m => !(listed.setIfInBounds i true).getD m false)).length+(ops.size-k)<=fuel:=by
          have:=CK1 (l:=List.range k) (p:=fun m => !listed.getD m false) (q:=fun m => !(listed.setIfInBounds i true).getD m false) (fun x hx=>by
            cases hh:listed.getD x false
            · rfl
            · have:=(F5 (m:=x) h3).2 (.inr hh)
              simp [this] at hx) (List.mem_range.2 hik) (by simp [hu]) (by have:=(F5 (m:=i) h3).2 (.inl rfl); simp [this])
          omega
        have hclosed:∀ m,(listed.setIfInBounds i true).getD m false=true->∀ j∈anc.getD m [],(listed.setIfInBounds i true).getD j false=true:=fun m hml j hj=>by
          rw [F5 h3] at hml ⊢
          rcases hml with rfl | hml
          · exact .inr (hanc j hj)
          · exact .inr (I.closed m hml j hj)
        have hsmall:∀ m,(listed.setIfInBounds i true).getD m false=true->m<k:=fun m hml=>by
          rw [F5 h3] at hml
          rcases hml with rfl | hml
          · exact hik
          · exact I.small m hml
        have slots:∀ (A':Asg) (u:Value),(∀ d,o.dst=some d->u=F1 A' i)->(∀ m,listed.getD m false=true->F1 A' m=F1 A m) ->
            (∀ m,m<k->(listed.setIfInBounds i true).getD m false=true->∀ d,Q8 ops m=some d->K4 V o.dst u d=F1 A' m) /\
            (∀ t,(∀ m,m<k->(listed.setIfInBounds i true).getD m false=true->Q8 ops m≠some t)->K4 V o.dst u t=V0 t):=by
          intro A' u hu' hb'
          constructor
          · intro m hm hml d hd
            rw [F5 h3] at hml
            by_cases hmi:m=i
            · subst hmi
              rw [hdst] at hd
              rw [hd]; simp [K4,upd,hu' d hd]
            · have hml:=hml.resolve_left hmi
              have hs:=I.slot m hm hml d hd
              cases hod:o.dst with
              | none=>simp only [K4]; rw [hs,hb' m hml]
              | some d' =>
                have hne:d≠d':=fun e=>c.uniq m hm i hik hmi d hd (by rw [hdst,hod,e])
                simp only [K4,upd,if_neg hne]; rw [hs,hb' m hml]
          · intro t ht
            have h4:=I.old t fun m hm hml=>ht m hm ((F5 h3).2 (.inr hml))
            cases hod:o.dst with
            | none=>exact h4
            | some d' =>
              have hne:t≠d':=fun e=>ht i hik ((F5 h3).2 (.inl rfl)) (by rw [hdst,hod,e])
              simp only [K4,upd,if_neg hne]; exact h4
        unfold wpOp
        rw [hio]
        simp only
        by_cases hiD:i∈D
        · -- settled already
          have hund:∀ p∈rest,(listed.setIfInBounds i true).getD p.1 false=false:=fun p hp=>by
            have h4:=I.und p hp
            have h5:p.1≠i:=((I.hD i).1 hiD).2 p hp
            cases hh:(listed.setIfInBounds i true).getD p.1 false
            · rfl
            · rcases (F5 h3).1 hh with e | e
              · exact absurd e h5
              · rw [h4] at e; cases e
          obtain ⟨s1,s2⟩:=slots A (F1 A i) (fun _ _=>rfl) (fun _ _=>rfl)
          have next:∀ w',Ext w w'->wpAny P .any ops Q fuel (listed.setIfInBounds i true) (act n (K4 V o.dst (F1 A i))) w':=fun w' x =>
            ih _ rest D A L _ w' (by simpa using hsz) hmeas ⟨I.gs.ext x,I.ord,I.hD,I.low,hund,I.srcD,I.grdD,fun m hm=>by
              obtain ⟨o',ho',hd⟩:=I.dec m hm
              exact ⟨o',ho',hd.imp id fun ⟨g,hd⟩=>⟨g,hd.imp (fun hl=>(F5 h3).2 (.inr hl)) id⟩⟩,s1,s2,fun p hp=>(I.lq p hp).imp (fun hl=>(F5 h3).2 (.inr hl)) fun e=>e.ext x,hclosed,hsmall⟩
          obtain ⟨o',ho',hd⟩:=I.dec i hiD
          rw [hol] at ho'; cases ho'
          rcases hd with ⟨g,hv⟩ | ⟨g,hd⟩
          · rw [hwant false g,if_neg (by decide),G4,← hv]
            exact next w (Ext.refl _)
          · rw [hwant true g,if_pos rfl]
            left
            rcases hd with hl | ⟨hs,hs1,hs2⟩
            · rw [hu] at hl; cases hl
            unfold Oper.wp
            rw [S5]
            have hq:=hs2 V w hneeds fun h hh=>(I.lq _ (hs1 h hh)).resolve_left (by rw [hu]; simp)
            rcases hq with hr | ⟨f,args,hr,hc⟩
            · rw [hr]; simp only [Oper.upon]; rw [G4]; exact next w (Ext.refl _)
            · rw [hr]; simp only [Oper.upon]
              refine Calls.mono hc fun e w'' h'=>?_
              cases e with
              | returned u=>obtain ⟨rfl,x⟩:=h'; simp only; rw [G4]; exact next w'' x
              | panicked _=>exact h'.elim
              | outgrown=>exact h'.elim
        · -- the next of the chain
          have hin:∃ p∈rest,p.1=i:=by
            refine Classical.byContradiction fun hn=>hiD ((I.hD i).2 ⟨hik,fun p hp e=>hn ⟨p,hp,e⟩⟩)
          rcases hn with rfl | ⟨i',r,o',rfl,ho',g,hcx⟩
          · obtain ⟨p,hp,_⟩:=hin; cases hp
          have hord:=I.ord
          unfold CA6 at hord
          simp only [Bool.and_eq_true,Bool.not_true,Bool.false_or] at hord
          obtain ⟨⟨⟨⟨o1,o2⟩,o3⟩,o4⟩,o5⟩:=hord
          have hii:i=i':=by
            obtain ⟨p,hp,hpi⟩:=hin
            rcases List.mem_cons.1 hp with rfl | hp
            · exact hpi.symm
            · exfalso
              have:=List.all_eq_true.1 o3 p hp
              have h4:i'∈anc.getD i []:=by rw [← hpi]; simpa using this
              have h5:=hanc i' h4
              rw [I.und (i',true) (by simp)] at h5; cases h5
          subst hii
          rw [hol] at ho'; cases ho'
          rw [hwant true g,if_pos rfl]
          left
          have hout:=BR7 o5
          have hir:∀ p∈r,p.1≠i:=fun p hp e=>hout p hp (by simp [e])
          have hlk:∀ u j,j∈D->F1 ((i,u) :: A) j=F1 A j:=fun u j hj=>W5 fun e=>hiD (e ▸ hj)
          have hsrc:∀ t j,(t,some j)∈src.getD i []->j∈D:=fun t j hj=>by
            have:=List.all_eq_true.1 o1 _ hj; simpa using this
          have hgrd:∀ j b,o.guard=some (j,b)->j∈D:=fun j b hg=>by
            rw [hol] at o2; simp only [Option.bind_some,hg] at o2; simpa using o2
          have lisD:∀ m,listed.getD m false=true->m∈D:=fun m hm=>(I.hD m).2 ⟨I.small m hm,fun p hp e=>by have:=I.und p hp; rw [e,hm] at this; cases this⟩
          have next:∀ u w',AK3 (anc.getD i []) w' L->GS P n ops anc src V0 E r ((i,dv o u) :: A) L w'->wpAny P .any ops Q fuel (listed.setIfInBounds i true) (act n (K4 V o.dst u)) w':=fun u w' hk hg=>by
            obtain ⟨s1,s2⟩:=slots ((i,dv o u) :: A) u (fun d hd=>by rw [AP8,BL9 hd]) (fun m hm=>hlk _ m (lisD m hm))
            refine ih _ r (i :: D) ((i,dv o u) :: A) L _ w' (by simpa using hsz) hmeas ⟨hg,o5,fun j=>?_,fun p hp=>I.low p (by simp [hp]),fun p hp=>?_,fun m hm t j hj=>?_,fun m hm o' ho' j b hg'=>?_,fun m hm=>?_,s1,s2,fun p hp=>?_,hclosed,hsmall⟩
            · constructor
              · intro hj
                rcases List.mem_cons.1 hj with rfl | hj
                · exact ⟨hik,hir⟩
                · exact ⟨((I.hD j).1 hj).1,fun p hp=>((I.hD j).1 hj).2 p (by simp [hp])⟩
              · rintro ⟨h4,h5⟩
                by_cases e:j=i
                · simp [e]
                · refine List.mem_cons.2 (.inr ((I.hD j).2 ⟨h4,fun p hp=>?_⟩))
                  rcases List.mem_cons.1 hp with rfl | hp
                  · exact fun e'=>e e'.symm
                  · exact h5 p hp
            · have h4:=I.und p (by simp [hp])
              cases hh:(listed.setIfInBounds i true).getD p.1 false
              · rfl
              · rcases (F5 h3).1 hh with e | e
                · exact absurd e (hir p hp)
                · rw [h4] at e; cases e
            · rcases List.mem_cons.1 hm with rfl | hm
              · exact List.mem_cons.2 (.inr (hsrc t j hj))
              · exact List.mem_cons.2 (.inr (I.srcD m hm t j hj))
            · rcases List.mem_cons.1 hm with rfl | hm
              · rw [hol] at ho'; cases ho'
                exact List.mem_cons.2 (.inr (hgrd j b hg'))
              · exact List.mem_cons.2 (.inr (I.grdD m hm o' ho' j b hg'))
            · rcases List.mem_cons.1 hm with rfl | hm
              · refine ⟨o,hol,.inr ⟨?_,.inl ((F5 h3).2 (.inl rfl))⟩⟩
                rw [← g]; exact AC4 fun j b hg'=>hlk _ j (hgrd j b hg')
              · obtain ⟨o',ho',h⟩:=I.dec m hm
                refine ⟨o',ho',?_⟩
                have hg:gOn ((i,dv o u) :: A) o'=gOn A o':=AC4 fun j b hg=>hlk _ j (I.grdD m hm o' ho' j b hg)
                rw [hg,hlk _ m hm]
                exact h.imp id fun ⟨h1,h2⟩=>⟨h1,h2.imp (fun hl=>(F5 h3).2 (.inr hl)) fun ⟨hs',h3,h4⟩=>⟨hs',h3,fun V w' hn=>h4 V w' (N9 (fun t j hj=>hlk _ j (I.srcD m hm t j hj)) hn)⟩⟩
            · rcases hk.get p hp with e | e
              · exact .inl ((F5 h3).2 (.inr (hanc _ e)))
              · exact .inr e
          unfold Oper.wp
          rw [S5]
          rcases hcx V w (Ext.refl _) hneeds with ⟨u,w',hr,hk,hg⟩ | ⟨w',hr,hk,hg⟩ | ⟨f,args,w',hr,hc⟩ | ⟨row,args,w',hr,hc⟩
          · rw [hr]; simp only [Oper.upon]; rw [G4]; exact next u w' hk hg
          · rw [hr]; simp only [Oper.upon]; rw [G4]; exact next undef w' hk hg
          · rw [hr]; simp only [Oper.upon]
            refine Calls.mono hc fun e w'' h'=>?_
            cases e with
            | returned u=>simp only; rw [G4]; exact next u w'' h'.1 h'.2
            | panicked _=>exact h'.elim
            | outgrown=>exact h'.elim
          · rw [hr]; simp only [Oper.upon]
            refine Rows.mono hc fun u w'' h'=>?_
            rw [G4]; exact next u w'' h'.1 h'.2
  have hks:=c.size
  have l0:∀ i,listed0.getD i false=false:=fun i=>by
    by_cases hi:i<ops.size
    · cases hh:listed0.getD i false
      · rfl
      · have:=(hl0 i hi).1 hh; omega
    · have:¬ i<listed0.size:=by omega
      simp [Array.getD_eq_getD_getElem?,this]
  have no:∀ i,¬ listed0.getD i false=true:=fun i h=>by rw [l0 i] at h; cases h
  refine main fuel0 listed0 pi [] [] [] V0 _ hsz0 ?_ ⟨h,k1,fun j=>⟨fun hj=>(by cases hj),fun ⟨h1,h2⟩=>?_⟩,fun p hp=>CG8 (List.all_eq_true.1 k2 p hp),fun p _=>l0 _,fun m hm=>by (cases hm),fun m hm=>by (cases hm),fun m hm=>by (cases hm),
    fun i _ hl=>absurd hl (no i),fun t _=>rfl,fun p hp=>by (cases hp),fun i hl=>absurd hl (no i),fun i hl=>absurd hl (no i)⟩
  · have:((List.range k).filter (fun i => !listed0.getD i false)).length<=k:=by
      have:=List.length_filter_le (fun i => !listed0.getD i false) (List.range k); simpa using this
    omega
  · exfalso
    have:=List.all_eq_true.1 k3 j (List.mem_range.2 h1)
    obtain ⟨p,hp,e⟩:=List.any_eq_true.1 this
    exact h2 p hp (Nat.eq_of_beq_eq_true e)
section
variable {V0:Env} {E:Asg->World->Prop} {r:List (Nat×Bool)} {A:Asg} {L:List (Nat×PH)} {w:World} {T:Ty}
theorem AM0[DM]{i:Nat}{o:Oper}(l:List (Nat×Value))(v:Value)(ho:ops.toList[i]?=some o)(hg:gOn A o=some true)(hl:∀ V,J7 V0 (F1 A) V (src.getD i [])->Q0 V l)
    (h:∀ V w',(execOp (opd n (B3 l V)) o).run P w' = .ok (.value v) w') (H:GS P n ops anc src V0 E r ((i,v) :: A) L w):GS P n ops anc src V0 E ((i,false) :: r) A L w :=
  ⟨o,ho,.inr (.inl ⟨hg,rfl,v,[],fun V w' hn _ => .inl (AG5 (R:=fun V=>(execOp (opd n V) o).run P w' = .ok (.value v) w') l (hl V hn) fun V=>h V w'),fun _ hh=>(by cases hh),H⟩)⟩
theorem C8[DM](ok:BK2 P T){i:Nat}{o:Oper}(l:List (Nat×Value))(v:Value)(ho:ops.toList[i]?=some o)(hg:gOn A o=some true)(hl:∀ V,J7 V0 (F1 A) V (src.getD i [])->Q0 V l)
    (h:∀ V,CN9 T n (B3 l V) o.op=some v) (H:GS P n ops anc src V0 E r ((i,v) :: A) L w):GS P n ops anc src V0 E ((i,false) :: r) A L w :=
  AM0 l v ho hg hl (fun V _=>AZ4 ok (h V)) H
theorem G2[DM]{i:Nat}{o:Oper}{h:PH}(l:List (Nat×Value))(v:Value)(ho:ops.toList[i]?=some o)(hg:gOn A o=some true)(hl:∀ V,J7 V0 (F1 A) V (src.getD i [])->Q0 V l)
    (hr:∀ V w',Sub h w'->(execOp (opd n (B3 l V)) o).run P w' = .ok (.value v) w') (e:Sub h w) (H:GS P n ops anc src V0 E r ((i,v) :: A) ((i,h) :: L) w):GS P n ops anc src V0 E ((i,false) :: r) A L w :=
  ⟨o,ho,.inr (.inl ⟨hg,rfl,v,[h],fun V w' hn hs => .inl (AG5 (R:=fun V=>(execOp (opd n V) o).run P w' = .ok (.value v) w') l (hl V hn) fun V=>hr V w' (hs h (by simp))),fun a hh=>(by simp at hh; subst hh; exact e),H⟩)⟩
def BJ9:List PH->World->Prop
  | [],_=>True
  | h :: hs,w=>Sub h w/\BJ9 hs w
theorem AS1:∀ {hs:List PH} {w:World},BJ9 hs w↔∀ h∈hs,Sub h w
  | [],w=>⟨fun _ h hh=>(by cases hh),fun _=>trivial⟩
  | h :: hs,w=>by simp [BJ9,AS1 (hs:=hs) (w:=w)]
theorem CU2[DM]{i:Nat}{f:FuncId}{o:Oper}{args:Array Operand}{tys:Array TypeId}(l:List (Nat×Value))(v:Value)(hs:List PH)(N2:List Value)(ho:ops.toList[i]?=some o)(hg:gOn A o=some true)(hl:∀ V,J7 V0 (F1 A) V (src.getD i [])->Q0 V l)
    (hop:o.op = .call ⟨.value (.func f),args,tys⟩) (hf:B4 P f) (ha:∀ V,args.toList.map (opd n (B3 l V))=N2) (hc:∀ w',BJ9 hs w'->B5 P f N2.toArray w' fun u w''=>u=v/\Ext w' w'') (e:BJ9 hs w)
    (H:GS P n ops anc src V0 E r ((i,v) :: A) (hs.map (fun h=>(i,h))++L) w):GS P n ops anc src V0 E ((i,false) :: r) A L w :=
  ⟨o,ho,.inr (.inl ⟨hg,rfl,v,hs,fun V w' hn hs' => .inr ⟨f,N2.toArray,AG5 (R:=fun V=>(execOp (opd n V) o).run P w' = .ok (.enter f N2.toArray) w') l (hl V hn) fun V=>BW7 hop hf (ha V) w',hc w' (AS1.2 hs')⟩,AS1.1 e,H⟩)⟩
def AW7(o:Oper):Oper:=⟨o.dst,o.op,o.type,o.pos,o.after,none⟩
def QK(n:Nat)(o:Oper)(V:Env)(K:Value->World->Prop):Exit->Act->World->Prop
  | .normal,a,w=>∃ u,a=act n (K4 V o.dst u)/\K (dv o u) w
  | _,_,_=>False
def dOk(n:Nat):Option Nat->Bool
  | none=>true
  | some d=>Nat.blt d n
theorem AD3{V:Env}{d:Option Nat}{u v:Value}{o:Oper}(hd:o.dst=d)(hk:dOk n d=true)(h:act n (K4 V d u)=act n (K4 V d v)):dv o u=dv o v:=by
  subst hd
  cases hod:o.dst with
  | none=>simp [dv,hod]
  | some d =>
    rw [hod] at h hk
    rw [BL9 hod,BL9 hod]
    have hlt:d<n:=CG8 hk
    have h1:=congrArg (fun a:Act=>a.tmps[d]?) h
    simp only [AZ7,if_pos hlt,K4,upd,if_true,Option.some.injEq] at h1
    exact h1
theorem J5[DM]{i:Nat}{o:Oper}(l:List (Nat×Value))(ho:ops.toList[i]?=some o)(hg:gOn A o=some true)(hl:∀ V,J7 V0 (F1 A) V (src.getD i [])->Q0 V l)(hd:dOk n o.dst=true)
    (H:∀ V w',Ext w w'->LP P n #[AW7 o] (QK n o (B3 l V) fun u w''=>AK3 (anc.getD i []) w'' L/\GS P n ops anc src V0 E r ((i,u) :: A) L w'') 0 (B3 l V) w'):GS P n ops anc src V0 E ((i,true) :: r) A L w:=by
  refine ⟨o,ho,.inr (.inr ⟨hg,rfl,fun V w' x hn=>?_⟩)⟩
  refine AG5 (R:=fun V=>CX P n o V w' fun u w''=>AK3 (anc.getD i []) w'' L/\GS P n ops anc src V0 E r ((i,dv o u) :: A) L w'') l (hl V hn) fun V=>?_
  have h:=H V w' x
  generalize B3 l V=V at h
  unfold LP at h
  simp only [List.drop_zero] at h
  unfold wpList at h
  have hw:Region.wanted (AW7 o) (yielded #[AW7 o] (act n V).tmps)=true:=rfl
  rw [hw,if_pos rfl] at h
  rcases h with h | ⟨_,h⟩
  · unfold Oper.wp at h
    rw [S5] at h
    have hs:execOp (opd n V) (AW7 o)=execOp (opd n V) o:=rfl
    rw [hs] at h
    unfold CX
    generalize (execOp (opd n V) o).run P w'=res at h ⊢
    cases res with
    | ok nx w'' =>
      cases nx
      case value v =>
        simp only [Oper.upon] at h
        left
        simp only [wpList,QK] at h
        obtain ⟨u,h1,h2⟩:=h
        rw [G4] at h1
        have:=AD3 (o:=o) rfl hd h1
        rw [← this] at h2
        exact ⟨v,w'',rfl,h2⟩
      case skip =>
        simp only [Oper.upon] at h
        right; left
        simp only [wpList,QK] at h
        obtain ⟨u,h1,h2⟩:=h
        rw [G4] at h1
        have:=AD3 (o:=o) rfl hd h1
        rw [← this] at h2
        exact ⟨w'',rfl,h2⟩
      case enter f args =>
        simp only [Oper.upon] at h
        right; right; left
        refine ⟨f,args,w'',rfl,Calls.mono h fun e w3 h'=>?_⟩
        cases e with
        | returned v =>
          simp only [wpList,QK] at h' ⊢
          obtain ⟨u,h1,h2⟩:=h'
          rw [G4] at h1
          have:=AD3 (o:=o) rfl hd h1
          rw [← this] at h2
          exact h2
        | panicked _=>simp [QK] at h'
        | outgrown=>simp [LetsOut,QK] at h'
      case row row args =>
        simp only [Oper.upon] at h
        right; right; right
        refine ⟨row,args,w'',rfl,Rows.mono h fun v w3 h'=>?_⟩
        simp only [wpList,QK] at h' ⊢
        obtain ⟨u,h1,h2⟩:=h'
        rw [G4] at h1
        have:=AD3 (o:=o) rfl hd h1
        rw [← this] at h2
        exact h2
      case defer d =>
        simp only [Oper.upon,wpList,QK] at h
        obtain ⟨u,h1,_⟩:=h
        have:=congrArg (fun a:Act=>a.defers) h1
        cases hq:(AW7 o).dst <;> simp [hq,Act.put,act] at this
      all_goals simp [Oper.upon] at h
    | halt e w''=>cases e <;> simp [Oper.upon,QK] at h
  · simp [LetsOut,QK] at h
theorem G5{o:Oper}{V:Env}{u:Value}{K:Value->World->Prop}(h:K (dv o u) w):LP P n #[AW7 o] (QK n o V K) 1 (K4 V (AW7 o).dst u) w:=by
  unfold LP; exact ⟨u,rfl,h⟩
end
def DK5(ops:Array Oper)(k:Nat)(anc:List (List Nat)):Bool :=
  (List.range ops.size).all (fun i =>
    match ops.toList[i]? with
    | none=>false
    | some o =>
      o.after.toList.all (fun e => !Region.binds .any e || Nat.blt e.on i) &&
      (anc.getD i []).all (fun j=>o.after.toList.any fun e=>Region.binds .any e&&(Nat.beq e.on j || (anc.getD e.on []).contains j)) &&
      (Nat.blt i k || (List.range i).all (fun j=>(anc.getD i []).contains j)))&&Nat.ble k ops.size
theorem H1{V:Env}{w:World}{Q:Exit->Act->World->Prop}(k:Nat)(anc:List (List Nat))(chk:DK5 ops k anc=true)(h:LP P n ops Q k V w):AP P n ops Q k V w:=by
  unfold DK5 at chk
  simp only [Bool.and_eq_true] at chk
  obtain ⟨chk,hks⟩:=chk
  have hks:=Nat.le_of_ble_eq_true hks
  have g:∀ i o,ops[i]?=some o->_:=fun i o ho=>by
    have hi:i<ops.size:=(Array.getElem?_eq_some_iff.1 ho).1
    have:=List.all_eq_true.1 chk i (List.mem_range.2 hi)
    rw [show ops.toList[i]?=some o by rw [Array.getElem?_toList]; exact ho] at this
    simp only [Bool.and_eq_true] at this
    exact this
  have edge:∀ (i:Nat) (o:Oper),ops[i]?=some o->∀ e∈o.after,Region.binds .any e=true->e.on<i:=fun i o ho e he hb=>by
    have:=List.all_eq_true.1 (g i o ho).1.1 e (Array.mem_toList_iff.2 he)
    simp only [hb,Bool.not_true,Bool.false_or] at this
    exact CG8 this
  have up:∀ (i:Nat) (o:Oper),ops[i]?=some o->∀ j∈anc.getD i [],∃ e∈o.after,Region.binds .any e=true/\(e.on=j∨j∈anc.getD e.on []):=fun i o ho j hj=>by
    have:=List.all_eq_true.1 (g i o ho).1.2 j hj
    obtain ⟨e,he,hb⟩:=List.any_eq_true.1 this
    simp only [Bool.and_eq_true,Bool.or_eq_true] at hb
    exact ⟨e,Array.mem_toList_iff.1 he,hb.1,hb.2.imp (fun h=>Nat.eq_of_beq_eq_true h) (fun h=>by simpa using h)⟩
  have tail:∀ i,i<ops.size->k<=i->∀ j,j<i->j∈anc.getD i []:=fun i hi hk j hj=>by
    have ho:ops[i]?=some ops[i]:=by simp [hi]
    have:=(g i _ ho).2
    simp only [Bool.or_eq_true] at this
    rcases this with h | h
    · have:=CG8 h; omega
    · have:=List.all_eq_true.1 h j (List.mem_range.2 hj); simpa using this
  have small:∀ m,m<ops.size->∀ x∈anc.getD m [],x<m:=by
    intro m
    induction m using Nat.strongRecOn with
    | _ m ihm =>
      intro hm x hx
      obtain ⟨e,hee,hb,hx'⟩:=up m ops[m] (by simp [hm]) x hx
      have:=edge m _ (by simp [hm]) e hee hb
      rcases hx' with hx' | hx'
      · omega
      · have:=ihm e.on this (by omega) x hx'; omega
  have main:∀ (fuel j:Nat) (listed:Array Bool) (a:Act) (w:World),ops.size<=j+fuel->k<=j->listed.size=ops.size ->
      (∀ i,i<ops.size->(listed.getD i false=true↔i<j))->wpList P ops Q (ops.toList.drop j) a w->wpAny P .any ops Q fuel listed a w:=by
    intro fuel
    have fin_:∀ (j:Nat) (listed:Array Bool) (a:Act) (w:World),ops.size<=j->listed.size=ops.size->(∀ i,i<ops.size->(listed.getD i false=true↔i<j))->wpList P ops Q (ops.toList.drop j) a w ->
        Region.ready .any ops listed=[]/\Q .normal a w:=by
      intro j listed a w hj hsz hl h
      have hd:ops.toList.drop j=[]:=List.drop_eq_nil_of_le (by simp; omega)
      rw [hd] at h
      refine ⟨List.eq_nil_iff_forall_not_mem.2 fun i hi=>?_,h⟩
      obtain ⟨h1,h2,_⟩:=BB7 hi
      have h3:i<listed.size:=by omega
      have h4:listed.getD i true=listed.getD i false:=by simp [Array.getD_eq_getD_getElem?,h3]
      rw [h4,(hl i h1).2 (by omega)] at h2; cases h2
    induction fuel with
    | zero=>intro j listed a w hj hk hsz hl h; exact fin_ j listed a w (by omega) hsz hl h
    | succ fuel ih =>
      intro j listed a w hj hk hsz hl h
      by_cases hjs:j<ops.size
      case neg =>
        obtain ⟨h1,h2⟩:=fin_ j listed a w (by omega) hsz hl h
        exact ⟨fun _=>h2,fun i hi=>by rw [h1] at hi; cases hi⟩
      have ho:ops[j]?=some ops[j]:=by simp [hjs]
      have hrj:j∈Region.ready .any ops listed:=by
        refine CC5 ho ?_ fun e he hb=>(hl e.on (by have:=edge j _ ho e he hb; omega)).2 (edge j _ ho e he hb)
        have h3:j<listed.size:=by omega
        have h4:listed.getD j true=listed.getD j false:=by simp [Array.getD_eq_getD_getElem?,h3]
        rw [h4]
        cases hh:listed.getD j false
        · rfl
        · have:=(hl j hjs).1 hh; omega
      refine ⟨fun h0=>(by rw [h0] at hrj; cases hrj),fun i hi=>?_⟩
      obtain ⟨h1,h2,o,hio,he⟩:=BB7 hi
      have h3:i<listed.size:=by omega
      have h4:listed.getD i true=listed.getD i false:=by simp [Array.getD_eq_getD_getElem?,h3]
      rw [h4] at h2
      have hij:i=j:=by
        rcases Nat.lt_trichotomy i j with h5 | h5 | h5
        · have:=(hl i h1).2 h5; rw [h2] at this; cases this
        · exact h5
        · exfalso
          have ha:=tail i h1 (by omega) j h5
          obtain ⟨e,hee,hb,hx⟩:=up i o hio j ha
          have hlt:=edge i _ hio e hee hb
          have hel:=(hl e.on (by omega)).1 (he e hee hb)
          rcases hx with hx | hx
          · omega
          · have:=small e.on (by omega) j hx; omega
      subst hij
      have hdrop:ops.toList.drop i=ops[i] :: ops.toList.drop (i+1):=AF4 (by simp [hjs])
      rw [hdrop] at h
      have hl':∀ m,m<ops.size->((listed.setIfInBounds i true).getD m false=true↔m<i+1):=fun m hm=>by
        rw [F5 h3,hl m hm]; omega
      have next:∀ a' w',wpList P ops Q (ops.toList.drop (i+1)) a' w'->wpAny P .any ops Q fuel (listed.setIfInBounds i true) a' w':=fun a' w' h' =>
        ih (i+1) _ a' w' (by omega) (by omega) (by simpa using hsz) hl' h'
      unfold wpOp
      rw [ho]
      simp only [wpList] at h
      split at h
      · rename_i hw; simp only [hw,if_true]; exact h.imp (Oper.wp_mono next) id
      · rename_i hw; simp only [hw]; exact next _ _ h
  intro fuel listed hsz hf hl
  exact main fuel k listed _ _ hf (Nat.le_refl _) hsz hl (by unfold LP at h; exact h)
end
end Go.Gv
namespace Go.Gv
open Go Go.RowKit
def rm(U:List Nat)(i:Nat):List Nat:=U.filter fun x => !Nat.beq x i
theorem R9{U:List Nat}{i x:Nat}:x∈rm U i↔x∈U/\x≠i:=by
  unfold rm
  rw [List.mem_filter]
  constructor
  · rintro ⟨h1,h2⟩; exact ⟨h1,fun e=>by subst e; simp at h2⟩
  · rintro ⟨h1,h2⟩; refine ⟨h1,?_⟩
    cases hb:Nat.beq x i
    · rfl
    · exact absurd (Nat.eq_of_beq_eq_true hb) h2
def AP0(src:List (List (Nat×Option Nat)))(U:List Nat)(o:Oper)(i:Nat):Bool :=
  U.contains i&&(src.getD i []).all (fun p=>match p.2 with | some j => !U.contains j | none=>true)&&(match o.guard with | some (j,_) => !U.contains j | none=>true)
theorem BB5{src:List (List (Nat×Option Nat))}{U:List Nat}{o:Oper}{i:Nat}(h:AP0 src U o i=true):i∈U/\(∀ t j,(t,some j)∈src.getD i []->j ∉ U)/\∀ j b,o.guard=some (j,b)->j ∉ U:=by
  unfold AP0 at h
  simp only [Bool.and_eq_true] at h
  refine ⟨by simpa using h.1.1,fun t j hj=>?_,fun j b hg=>?_⟩
  · have:=List.all_eq_true.1 h.1.2 _ hj; simpa using this
  · have:=h.2; rw [hg] at this; simpa using this
def AS4(anc:List (List Nat))(U H:List Nat):Bool := !H.isEmpty&&U.all fun x=>H.contains x || H.any fun y=>(anc.getD x []).contains y&&U.contains y
section
variable {P:Program} {n:Nat} {N:Asn} {X:Nat->Asn} {R:Asn} {ops:Array Oper} {k:Nat} {anc:List (List Nat)} {src:List (List (Nat×Option Nat))} {fin:List (Nat×Option Nat)}
def GT[DM](P:Program)(n:Nat)(ops:Array Oper)(anc:List (List Nat))(src:List (List (Nat×Option Nat)))(V0:Env)(E:Asg->World->Prop):Nat->List Nat->Asg->List (Nat×PH)->World->Prop
  | 0,U,A,_,w=>U=[]/\∀ w',Ext w w'->E A w'
  | m+1,U,A,L,w =>
     (∃ i o,ops.toList[i]?=some o/\AP0 src U o i=true /\
       ((gOn A o=some false/\GT P n ops anc src V0 E m (rm U i) ((i,undef) :: A) L w) ∨
        (gOn A o=some true/\∃ (v:Value) (hs:List PH),(∀ V w',J7 V0 (F1 A) V (src.getD i [])->(∀ h∈hs,Sub h w')->QX P n o V w' v)/\(∀ h∈hs,Sub h w)/\GT P n ops anc src V0 E m (rm U i) ((i,v) :: A) (hs.map (fun h=>(i,h))++L) w))) ∨
     (∃ H,AS4 anc U H=true/\∀ i∈H,∃ o,ops.toList[i]?=some o/\AP0 src U o i=true/\gOn A o=some true /\
        ∀ V w',Ext w w'->J7 V0 (F1 A) V (src.getD i [])->CX P n o V w' fun u w''=>AK3 (anc.getD i []) w'' L/\GT P n ops anc src V0 E m (rm U i) ((i,dv o u) :: A) L w'')
theorem GT.ext[DM]{V0:Env}{E:Asg->World->Prop}:∀ {m:Nat} {U:List Nat} {A:Asg} {L:List (Nat×PH)} {w w':World},GT P n ops anc src V0 E m U A L w->Ext w w'->GT P n ops anc src V0 E m U A L w'
  | 0,_,_,_,_,_,⟨h1,h2⟩,x=>⟨h1,fun w'' y=>h2 w'' (x.trans y)⟩
  | m+1,_,_,_,_,_,h,x=>by
    rcases h with ⟨i,o,ho,hk,h⟩ | ⟨H,hH,h⟩
    · refine .inl ⟨i,o,ho,hk,?_⟩
      rcases h with ⟨g,h⟩ | ⟨g,v,hs,h1,h2,h3⟩
      · exact .inl ⟨g,h.ext x⟩
      · exact .inr ⟨g,v,hs,h1,fun a ha=>(h2 a ha).ext x,h3.ext x⟩
    · exact .inr ⟨H,hH,fun i hi=>let ⟨o,ho,hk,g,h⟩:=h i hi; ⟨o,ho,hk,g,fun V w'' y=>h V w'' (x.trans y)⟩⟩
theorem GT.done[DM]{V0:Env}{E:Asg->World->Prop}{m:Nat}{A:Asg}{L:List (Nat×PH)}{w:World}(h:GT P n ops anc src V0 E m [] A L w):∀ w',Ext w w'->E A w':=by
  cases m with
  | zero=>exact h.2
  | succ m =>
    exfalso
    rcases h with ⟨i,o,ho,hk,h⟩ | ⟨H,hH,h⟩
    · have:=(BB5 hk).1; cases this
    · unfold AS4 at hH
      simp only [Bool.and_eq_true] at hH
      cases H with
      | nil=>cases hH.1
      | cons i H=>obtain ⟨o,ho,hk,_⟩:=h i (by simp); have:=(BB5 hk).1; cases this
structure CQ9 [DM] (P:Program) (n:Nat) (ops:Array Oper) (k:Nat) (anc:List (List Nat)) (src:List (List (Nat×Option Nat))) (V0:Env) (E:Asg->World->Prop) (m:Nat) (U:List Nat) (A:Asg) (L:List (Nat×PH)) (listed:Array Bool) (V:Env) (w:World):Prop where
  gs:GT P n ops anc src V0 E m U A L w
  low:∀ i∈U,i<k
  und:∀ i∈U,listed.getD i false=false
  srcD:∀ i,i<k->i ∉ U->∀ t j,(t,some j)∈src.getD i []->j ∉ U
  grdD:∀ i,i<k->i ∉ U->∀ o,ops.toList[i]?=some o->∀ j b,o.guard=some (j,b)->j ∉ U
  dec:∀ i,i<k->i ∉ U->∃ o,ops.toList[i]?=some o/\((gOn A o=some false/\F1 A i=undef) ∨
    (gOn A o=some true/\(listed.getD i false=true∨∃ (hs:List PH),(∀ h∈hs,(i,h)∈L)/\∀ V w',J7 V0 (F1 A) V (src.getD i [])->(∀ h∈hs,Sub h w')->QX P n o V w' (F1 A i))))
  slot:∀ i,i<k->listed.getD i false=true->∀ d,Q8 ops i=some d->V d=F1 A i
  old:∀ t,(∀ i,i<k->listed.getD i false=true->Q8 ops i≠some t)->V t=V0 t
  lq:∀ p∈L,listed.getD p.1 false=true∨Sub p.2 w
  closed:∀ i,listed.getD i false=true->∀ j∈anc.getD i [],listed.getD j false=true
  small:∀ i,listed.getD i false=true->i<k
section
variable {V0:Env} {E:Asg->World->Prop} {m:Nat} {U:List Nat} {A:Asg} {L:List (Nat×PH)} {listed:Array Bool} {V:Env} {w:World}
theorem CQ9.settle[DM]{m' i:Nat}{o:Oper}{v:Value}{hs:List PH}(I:CQ9 P n ops k anc src V0 E m U A L listed V w)(ho:ops.toList[i]?=some o)(hk:AP0 src U o i=true)
    (hgs:GT P n ops anc src V0 E m' (rm U i) ((i,v) :: A) (hs.map (fun h=>(i,h))++L) w) (hsub:∀ h∈hs,Sub h w)
    (hd:(gOn A o=some false/\v=undef)∨(gOn A o=some true/\∀ V w',J7 V0 (F1 A) V (src.getD i [])->(∀ h∈hs,Sub h w')->QX P n o V w' v)) :
    CQ9 P n ops k anc src V0 E m' (rm U i) ((i,v) :: A) (hs.map (fun h=>(i,h))++L) listed V w:=by
  obtain ⟨hiU,hsrc,hgrd⟩:=BB5 hk
  have hiu:=I.und i hiU
  have hlk:∀ j,j ∉ U->F1 ((i,v) :: A) j=F1 A j:=fun j hj=>W5 fun e=>hj (e ▸ hiU)
  have out:∀ {x:Nat},x ∉ rm U i->x≠i->x ∉ U:=fun h1 h2 h3=>h1 (R9.2 ⟨h3,h2⟩)
  refine ⟨hgs,fun p hp=>I.low p (R9.1 hp).1,fun p hp=>I.und p (R9.1 hp).1,fun x hxk hx t j hj hju=>?_,fun x hxk hx o' ho' j b hg hju=>?_,fun x hxk hx=>?_,fun x hxk hl d hd=>?_,I.old,fun p hp=>?_,I.closed,I.small⟩
  · have hjU:=(R9.1 hju).1
    by_cases e:x=i
    · subst e; exact hsrc t j hj hjU
    · exact I.srcD x hxk (out hx e) t j hj hjU
  · have hjU:=(R9.1 hju).1
    by_cases e:x=i
    · subst e; rw [ho] at ho'; cases ho'; exact hgrd j b hg hjU
    · exact I.grdD x hxk (out hx e) o' ho' j b hg hjU
  · by_cases e:x=i
    · subst e
      refine ⟨o,ho,?_⟩
      have hg:gOn ((x,v) :: A) o=gOn A o:=AC4 fun j b hg=>hlk j (hgrd j b hg)
      rw [hg,AP8]
      refine hd.imp id fun ⟨h1,h2⟩=>⟨h1,.inr ⟨hs,fun h hh=>List.mem_append.2 (.inl (List.mem_map.2 ⟨h,hh,rfl⟩)),fun V w' hn=>h2 V w' (N9 (fun t j hj=>hlk j (hsrc t j hj)) hn)⟩⟩
    · have hxU:=out hx e
      obtain ⟨o',ho',h⟩:=I.dec x hxk hxU
      refine ⟨o',ho',?_⟩
      have hg:gOn ((i,v) :: A) o'=gOn A o':=AC4 fun j b hg=>hlk j (I.grdD x hxk hxU o' ho' j b hg)
      rw [hg,hlk x hxU]
      refine h.imp id fun ⟨h1,h2⟩=>⟨h1,h2.imp id fun ⟨hs',h3,h4⟩=>⟨hs',fun h hh=>List.mem_append.2 (.inr (h3 h hh)),fun V w' hn=>h4 V w' (N9 (fun t j hj=>hlk j (I.srcD x hxk hxU t j hj)) hn)⟩⟩
  · rw [I.slot x hxk hl d hd,W5]
    rintro rfl; rw [hiu] at hl; cases hl
  · rcases List.mem_append.1 hp with hp | hp
    · obtain ⟨h,hh,rfl⟩:=List.mem_map.1 hp
      exact .inr (hsub h hh)
    · exact I.lq p hp
theorem CQ9.norm[DM]:∀ {m:Nat} {U:List Nat} {A:Asg} {L:List (Nat×PH)},CQ9 P n ops k anc src V0 E m U A L listed V w ->
    ∃ m' U' A' L',CQ9 P n ops k anc src V0 E m' U' A' L' listed V w/\(U'=[]∨∃ m H,m'=m+1/\AS4 anc U' H=true/\∀ i∈H,∃ o,ops.toList[i]?=some o/\AP0 src U' o i=true/\gOn A' o=some true /\
      ∀ V w',Ext w w'->J7 V0 (F1 A') V (src.getD i [])->CX P n o V w' fun u w''=>AK3 (anc.getD i []) w'' L'/\GT P n ops anc src V0 E m (rm U' i) ((i,dv o u) :: A') L' w'')
  | 0,U,A,L,I=>⟨0,U,A,L,I,.inl I.gs.1⟩
  | m+1,U,A,L,I=>by
    rcases I.gs with ⟨i,o,ho,hk,h⟩ | ⟨H,hH,h⟩
    · rcases h with ⟨g,h⟩ | ⟨g,v,hs,h1,h2,h3⟩
      · exact (I.settle (hs:=[]) ho hk (by simpa using h) (fun _ hh=>by cases hh) (.inl ⟨g,rfl⟩)).norm
      · exact (I.settle ho hk h3 h2 (.inr ⟨g,h1⟩)).norm
    · exact ⟨m+1,U,A,L,I,.inr ⟨m,H,rfl,hH,h⟩⟩
end
theorem AW8[DM]{Q:Exit->Act->World->Prop}{V0:Env}{w0:World}(k:Nat)(anc:List (List Nat))(src:List (List (Nat×Option Nat)))(fin:List (Nat×Option Nat))(U0:List Nat)
    (chk:EC5 (n:=n) ops k anc src fin=true) (chk2:(U0.all (fun i=>Nat.blt i k)&&(List.range k).all (fun i=>U0.contains i))=true) (m0:Nat)
    (h:GT P n ops anc src V0 (fun A w=>∀ V,J7 V0 (F1 A) V fin->AP P n ops Q k V w) m0 U0 [] [] w0):AP P n ops Q 0 V0 w0:=by
  have c:=GOk.of chk
  simp only [Bool.and_eq_true] at chk2
  obtain ⟨k2,k3⟩:=chk2
  let E:Asg->World->Prop:=fun A w=>∀ V,J7 V0 (F1 A) V fin->AP P n ops Q k V w
  intro fuel0 listed0 hsz0 hf0 hl0
  have main:∀ (fuel:Nat) (listed:Array Bool) (m:Nat) (U:List Nat) (A:Asg) (L:List (Nat×PH)) (V:Env) (w:World),listed.size=ops.size->((List.range k).filter (fun i => !listed.getD i false)).length+(ops.size-k)<=fuel ->
      CQ9 P n ops k anc src V0 E m U A L listed V w->wpAny P .any ops Q fuel listed (act n V) w:=by
    intro fuel
    have done:∀ (fuel:Nat) (listed:Array Bool) (m:Nat) (U:List Nat) (A:Asg) (L:List (Nat×PH)) (V:Env) (w:World),listed.size=ops.size->ops.size-k<=fuel ->
        CQ9 P n ops k anc src V0 E m U A L listed V w->(∀ i,i<k->listed.getD i false=true)->wpAny P .any ops Q fuel listed (act n V) w:=by
      intro fuel listed m U A L V w hsz hf I hall
      have hr:U=[]:=by
        cases U with
        | nil=>rfl
        | cons p r=>have:=I.und p (by simp); rw [hall _ (I.low p (by simp))] at this; cases this
      subst hr
      have hE:E A w:=I.gs.done w (Ext.refl _)
      refine hE V ?_ fuel listed hsz (by have:=c.size; omega) fun i hi=>⟨I.small i,hall i⟩
      have key:∀ l,(∀ p∈l,p∈fin)->J7 V0 (F1 A) V l:=by
        intro l
        induction l with
        | nil=>intro _; trivial
        | cons p l ih =>
          intro h
          obtain ⟨t,q⟩:=p
          have hp:=h (t,q) (by simp)
          have hl:=ih fun x hx=>h x (by simp [hx])
          cases q with
          | none=>exact ⟨I.old t fun m hm _=>c.finb t hp m hm,hl⟩
          | some j=>exact ⟨I.slot j (c.finf t j hp).2 (hall j (c.finf t j hp).2) t (c.finf t j hp).1,hl⟩
      exact key _ fun p hp=>hp
    induction fuel with
    | zero =>
      intro listed m U A L V w hsz hf I
      refine done 0 listed m U A L V w hsz (by omega) I fun i hi=>?_
      cases hh:listed.getD i false
      · exfalso
        have:i∈(List.range k).filter (fun i => !listed.getD i false):=List.mem_filter.2 ⟨List.mem_range.2 hi,by simp [hh]⟩
        have:=List.length_pos_of_mem this
        omega
      · rfl
    | succ fuel ih =>
      intro listed m U A L V w hsz hf I
      by_cases hall:∀ i,i<k->listed.getD i false=true
      · exact done _ listed m U A L V w hsz (by omega) I hall
      obtain ⟨m,U,A,L,I,hn⟩:=I.norm
      have hks:=c.size
      refine ⟨fun h0=>?_,fun i hi=>?_⟩
      · exfalso
        obtain ⟨i,hik,hi⟩:∃ i,i<k/\listed.getD i false=false:=by
          refine Classical.byContradiction fun hn=>hall fun i hi=>?_
          cases hh:listed.getD i false
          · exact absurd ⟨i,hi,hh⟩ hn
          · rfl
        have least:∀ m,m<k->listed.getD m false=false->∃ j,j<k/\listed.getD j false=false/\∀ x,x<j->listed.getD x false=true:=by
          intro m
          induction m using Nat.strongRecOn with
          | _ m ihm =>
            intro hm hl
            by_cases h:∀ x,x<m->listed.getD x false=true
            · exact ⟨m,hm,hl,h⟩
            · obtain ⟨x,hx⟩:=Classical.not_forall.1 h
              obtain ⟨hxm,hxl⟩:=Classical.not_imp.1 hx
              exact ihm x hxm (by omega) (by simpa using hxl)
        obtain ⟨j,hjk',hjl,hjx⟩:=least i hik hi
        have ho:ops[j]?=some ops[j]:=by simp [show j<ops.size by omega]
        have:j∈Region.ready .any ops listed:=CC5 ho (by
          have h3:j<listed.size:=by omega
          simpa [Array.getD_eq_getD_getElem?,h3] using hjl) fun e he hb=>hjx e.on (c.edge j _ ho e he hb)
        rw [h0] at this; cases this
      · obtain ⟨h1,h2,o,hio,he⟩:=BB7 hi
        have h3:i<listed.size:=by omega
        have hu:listed.getD i false=false:=by simpa [Array.getD_eq_getD_getElem?,h3] using h2
        have hanc:∀ j∈anc.getD i [],listed.getD j false=true:=fun j hj=>by
          obtain ⟨e,hee,hb,hx⟩:=c.up i o hio j hj
          rcases hx with hx | hx
          · rw [← hx]; exact he e hee hb
          · exact I.closed e.on (he e hee hb) j hx
        have hik:i<k:=by
          refine Classical.byContradiction fun hn=>hall fun m hm=>hanc m (c.tail i h1 (by omega) m hm)
        have hol:ops.toList[i]?=some o:=by rw [Array.getElem?_toList]; exact hio
        have hdst:Q8 ops i=o.dst:=by simp [Q8,hol]
        have hneeds:J7 V0 (F1 A) V (src.getD i []):=by
          have key:∀ l,(∀ p∈l,p∈src.getD i [])->J7 V0 (F1 A) V l:=by
            intro l
            induction l with
            | nil=>intro _; trivial
            | cons p l ih =>
              intro h
              obtain ⟨t,q⟩:=p
              have hp:=h (t,q) (by simp)
              have hl:=ih fun x hx=>h x (by simp [hx])
              cases q with
              | none =>
                refine ⟨I.old t fun m hm hml hd=>?_,hl⟩
                have:=c.base i hik t hp m hm hd
                have:=I.closed m hml i this
                rw [hu] at this; cases this
              | some j =>
                obtain ⟨h4,h5,h6⟩:=c.from_ i hik t j hp
                exact ⟨I.slot j h6 (hanc j h4) t h5,hl⟩
          exact key _ fun p hp=>hp
        have hwant:∀ b,gOn A o=some b->Region.wanted o (yielded ops (act n V).tmps)=b:=fun b hb=>by
          unfold gOn at hb
          unfold Region.wanted
          split at hb
          · rename_i hg; simp only [hg]; exact Option.some.inj hb
          · rename_i j want hg
            simp only [hg]
            obtain ⟨hja,d,hjd⟩:=c.guard i o hio j want hg
            have hjl:=hanc j hja
            have hjk:=I.small j hjl
            have hsl:=I.slot j hjk hjl d hjd
            have hlt:=c.low j hjk d hjd
            have hdo:(ops[j]?).bind (·.dst)=some d:=by
              have:=hjd; unfold Q8 at this; rwa [Array.getElem?_toList] at this
            have hy:yielded ops (act n V).tmps j=(match V d with | .bool b=>some b | _=>none):=by
              unfold yielded
              rw [hdo]
              simp only [Option.bind_some]
              rw [AZ7,if_pos hlt]
              cases V d <;> rfl
            rw [hy,hsl]
            split at hb
            · rename_i b' hb'
              rw [hb']
              have:=Option.some.inj hb
              rw [← this]
              cases b' <;> cases want <;> rfl
            · rename_i vs hvs
              rw [hvs]
              have:=Option.some.inj hb
              rw [← this]; rfl
            · cases hb
        have hmeas:((List.range k).filter (fun m => !(listed.setIfInBounds i true).getD m false)).length+(ops.size-k)<=fuel:=by
          have:=CK1 (l:=List.range k) (p:=fun m => !listed.getD m false) (q:=fun m => !(listed.setIfInBounds i true).getD m false) (fun x hx=>by
            cases hh:listed.getD x false
            · rfl
            · have:=(F5 (m:=x) h3).2 (.inr hh)
              simp [this] at hx) (List.mem_range.2 hik) (by simp [hu]) (by have:=(F5 (m:=i) h3).2 (.inl rfl); simp [this])
          omega
        have hclosed:∀ m,(listed.setIfInBounds i true).getD m false=true->∀ j∈anc.getD m [],(listed.setIfInBounds i true).getD j false=true:=fun m hml j hj=>by
          rw [F5 h3] at hml ⊢
          rcases hml with rfl | hml
          · exact .inr (hanc j hj)
          · exact .inr (I.closed m hml j hj)
        have hsmall:∀ m,(listed.setIfInBounds i true).getD m false=true->m<k:=fun m hml=>by
          rw [F5 h3] at hml
          rcases hml with rfl | hml
          · exact hik
          · exact I.small m hml
        have slots:∀ (A':Asg) (u:Value),(∀ d,o.dst=some d->u=F1 A' i)->(∀ m,listed.getD m false=true->F1 A' m=F1 A m) ->
            (∀ m,m<k->(listed.setIfInBounds i true).getD m false=true->∀ d,Q8 ops m=some d->K4 V o.dst u d=F1 A' m) /\
            (∀ t,(∀ m,m<k->(listed.setIfInBounds i true).getD m false=true->Q8 ops m≠some t)->K4 V o.dst u t=V0 t):=by
          intro A' u hu' hb'
          constructor
          · intro m hm hml d hd
            rw [F5 h3] at hml
            by_cases hmi:m=i
            · subst hmi
              rw [hdst] at hd
              rw [hd]; simp [K4,upd,hu' d hd]
            · have hml:=hml.resolve_left hmi
              have hs:=I.slot m hm hml d hd
              cases hod:o.dst with
              | none=>simp only [K4]; rw [hs,hb' m hml]
              | some d' =>
                have hne:d≠d':=fun e=>c.uniq m hm i hik hmi d hd (by rw [hdst,hod,e])
                simp only [K4,upd,if_neg hne]; rw [hs,hb' m hml]
          · intro t ht
            have h4:=I.old t fun m hm hml=>ht m hm ((F5 h3).2 (.inr hml))
            cases hod:o.dst with
            | none=>exact h4
            | some d' =>
              have hne:t≠d':=fun e=>ht i hik ((F5 h3).2 (.inl rfl)) (by rw [hdst,hod,e])
              simp only [K4,upd,if_neg hne]; exact h4
        unfold wpOp
        rw [hio]
        simp only
        by_cases hiD:i ∉ U
        · -- settled already
          have hund:∀ p∈U,(listed.setIfInBounds i true).getD p false=false:=fun p hp=>by
            have h4:=I.und p hp
            have h5:p≠i:=fun e=>hiD (e ▸ hp)
            cases hh:(listed.setIfInBounds i true).getD p false
            · rfl
            · rcases (F5 h3).1 hh with e | e
              · exact absurd e h5
              · rw [h4] at e; cases e
          obtain ⟨s1,s2⟩:=slots A (F1 A i) (fun _ _=>rfl) (fun _ _=>rfl)
          have next:∀ w',Ext w w'->wpAny P .any ops Q fuel (listed.setIfInBounds i true) (act n (K4 V o.dst (F1 A i))) w':=fun w' x =>
            ih _ m U A L _ w' (by simpa using hsz) hmeas ⟨I.gs.ext x,I.low,hund,I.srcD,I.grdD,fun m hm hmU=>by
              obtain ⟨o',ho',hd⟩:=I.dec m hm hmU
              exact ⟨o',ho',hd.imp id fun ⟨g,hd⟩=>⟨g,hd.imp (fun hl=>(F5 h3).2 (.inr hl)) id⟩⟩,s1,s2,fun p hp=>(I.lq p hp).imp (fun hl=>(F5 h3).2 (.inr hl)) fun e=>e.ext x,hclosed,hsmall⟩
          obtain ⟨o',ho',hd⟩:=I.dec i hik hiD
          rw [hol] at ho'; cases ho'
          rcases hd with ⟨g,hv⟩ | ⟨g,hd⟩
          · rw [hwant false g,if_neg (by decide),G4,← hv]
            exact next w (Ext.refl _)
          · rw [hwant true g,if_pos rfl]
            left
            rcases hd with hl | ⟨hs,hs1,hs2⟩
            · rw [hu] at hl; cases hl
            unfold Oper.wp
            rw [S5]
            have hq:=hs2 V w hneeds fun h hh=>(I.lq _ (hs1 h hh)).resolve_left (by rw [hu]; simp)
            rcases hq with hr | ⟨f,args,hr,hc⟩
            · rw [hr]; simp only [Oper.upon]; rw [G4]; exact next w (Ext.refl _)
            · rw [hr]; simp only [Oper.upon]
              refine Calls.mono hc fun e w'' h'=>?_
              cases e with
              | returned u=>obtain ⟨rfl,x⟩:=h'; simp only; rw [G4]; exact next w'' x
              | panicked _=>exact h'.elim
              | outgrown=>exact h'.elim
        · -- the next of the chain
          have hin:i∈U:=Classical.not_not.1 hiD
          rcases hn with rfl | ⟨m,H,rfl,hH,hstep⟩
          · cases hin
          have hiH:i∈H:=by
            have hH':=hH
            unfold AS4 at hH'
            simp only [Bool.and_eq_true] at hH'
            have hH':=hH'.2
            have:=List.all_eq_true.1 hH' i hin
            simp only [Bool.or_eq_true] at this
            rcases this with h | h
            · simpa using h
            · exfalso
              obtain ⟨x,hx,hxa⟩:=List.any_eq_true.1 h
              simp only [Bool.and_eq_true] at hxa
              have h5:=hanc x (by simpa using hxa.1)
              rw [I.und x (by simpa using hxa.2)] at h5; cases h5
          obtain ⟨o',ho',hok,g,hcx⟩:=hstep i hiH
          obtain ⟨_,hsrc,hgrd0⟩:=BB5 hok
          rw [hol] at ho'; cases ho'
          rw [hwant true g,if_pos rfl]
          left
          have hgrd:=hgrd0
          have hlk:∀ u j,j ∉ U->F1 ((i,u) :: A) j=F1 A j:=fun u j hj=>W5 fun e=>hj (e ▸ hin)
          have lisD:∀ m,listed.getD m false=true->m ∉ U:=fun m hm hmU=>by have:=I.und m hmU; rw [hm] at this; cases this
          have next:∀ u w',AK3 (anc.getD i []) w' L->GT P n ops anc src V0 E m (rm U i) ((i,dv o u) :: A) L w'->wpAny P .any ops Q fuel (listed.setIfInBounds i true) (act n (K4 V o.dst u)) w':=fun u w' hk hg=>by
            obtain ⟨s1,s2⟩:=slots ((i,dv o u) :: A) u (fun d hd=>by rw [AP8,BL9 hd]) (fun m hm=>hlk _ m (lisD m hm))
            refine ih _ m (rm U i) ((i,dv o u) :: A) L _ w' (by simpa using hsz) hmeas ⟨hg,fun p hp=>I.low p (R9.1 hp).1,fun p hp=>?_,fun m hmk hm t j hj=>?_,fun m hmk hm o' ho' j b hg'=>?_,fun m hmk hm=>?_,s1,s2,fun p hp=>?_,hclosed,hsmall⟩
            · have ⟨h5,h6⟩:=R9.1 hp
              have h4:=I.und p h5
              cases hh:(listed.setIfInBounds i true).getD p false
              · rfl
              · rcases (F5 h3).1 hh with e | e
                · exact absurd e h6
                · rw [h4] at e; cases e
            · intro hju
              have hjU:=(R9.1 hju).1
              by_cases e:m=i
              · subst e; exact hsrc t j hj hjU
              · exact I.srcD m hmk (fun c=>hm (R9.2 ⟨c,e⟩)) t j hj hjU
            · intro hju
              have hjU:=(R9.1 hju).1
              by_cases e:m=i
              · subst e
                rw [hol] at ho'; cases ho'
                exact hgrd j b hg' hjU
              · exact I.grdD m hmk (fun c=>hm (R9.2 ⟨c,e⟩)) o' ho' j b hg' hjU
            · by_cases e:m=i
              · subst e
                refine ⟨o,hol,.inr ⟨?_,.inl ((F5 h3).2 (.inl rfl))⟩⟩
                rw [← g]; exact AC4 fun j b hg'=>hlk _ j (hgrd j b hg')
              · have hmU:m ∉ U:=fun c=>hm (R9.2 ⟨c,e⟩)
                obtain ⟨o',ho',h⟩:=I.dec m hmk hmU
                refine ⟨o',ho',?_⟩
                have hg:gOn ((i,dv o u) :: A) o'=gOn A o':=AC4 fun j b hg=>hlk _ j (I.grdD m hmk hmU o' ho' j b hg)
                rw [hg,hlk _ m hmU]
                exact h.imp id fun ⟨h1,h2⟩=>⟨h1,h2.imp (fun hl=>(F5 h3).2 (.inr hl)) fun ⟨hs',h3,h4⟩=>⟨hs',h3,fun V w' hn=>h4 V w' (N9 (fun t j hj=>hlk _ j (I.srcD m hmk hmU t j hj)) hn)⟩⟩
            · rcases hk.get p hp with e | e
              · exact .inl ((F5 h3).2 (.inr (hanc _ e)))
              · exact .inr e
          unfold Oper.wp
          rw [S5]
          rcases hcx V w (Ext.refl _) hneeds with ⟨u,w',hr,hk,hg⟩ | ⟨w',hr,hk,hg⟩ | ⟨f,args,w',hr,hc⟩ | ⟨row,args,w',hr,hc⟩
          · rw [hr]; simp only [Oper.upon]; rw [G4]; exact next u w' hk hg
          · rw [hr]; simp only [Oper.upon]; rw [G4]; exact next undef w' hk hg
          · rw [hr]; simp only [Oper.upon]
            refine Calls.mono hc fun e w'' h'=>?_
            cases e with
            | returned u=>simp only; rw [G4]; exact next u w'' h'.1 h'.2
            | panicked _=>exact h'.elim
            | outgrown=>exact h'.elim
          · rw [hr]; simp only [Oper.upon]
            refine Rows.mono hc fun u w'' h'=>?_
            rw [G4]; exact next u w'' h'.1 h'.2
  have hks:=c.size
  have l0:∀ i,listed0.getD i false=false:=fun i=>by
    by_cases hi:i<ops.size
    · cases hh:listed0.getD i false
      · rfl
      · have:=(hl0 i hi).1 hh; omega
    · have:¬ i<listed0.size:=by omega
      simp [Array.getD_eq_getD_getElem?,this]
  have no:∀ i,¬ listed0.getD i false=true:=fun i h=>by rw [l0 i] at h; cases h
  refine main fuel0 listed0 m0 U0 [] [] V0 _ hsz0 ?_ ⟨h,fun p hp=>CG8 (List.all_eq_true.1 k2 p hp),fun p _=>l0 _,fun m hmk hm=>absurd (by have:=List.all_eq_true.1 k3 m (List.mem_range.2 hmk); simpa using this) hm,fun m hmk hm=>absurd (by have:=List.all_eq_true.1 k3 m (List.mem_range.2 hmk); simpa using this) hm,fun m hmk hm=>absurd (by have:=List.all_eq_true.1 k3 m (List.mem_range.2 hmk); simpa using this) hm,
    fun i _ hl=>absurd hl (no i),fun t _=>rfl,fun p hp=>by (cases hp),fun i hl=>absurd hl (no i),fun i hl=>absurd hl (no i)⟩
  have:((List.range k).filter (fun i => !listed0.getD i false)).length<=k:=by
    have:=List.length_filter_le (fun i => !listed0.getD i false) (List.range k); simpa using this
  omega
section
variable {V0:Env} {E:Asg->World->Prop} {m:Nat} {U:List Nat} {A:Asg} {L:List (Nat×PH)} {w:World} {T:Ty}
theorem BK5[DM](hU:U=[])(h:∀ w',Ext w w'->E A w'):GT P n ops anc src V0 E 0 U A L w:=⟨hU,h⟩
theorem EM7[DM](i:Nat){o:Oper}(l:List (Nat×Value))(v:Value)(ho:ops.toList[i]?=some o)(hk:AP0 src U o i=true)(hg:gOn A o=some true)(hl:∀ V,J7 V0 (F1 A) V (src.getD i [])->Q0 V l)
    (h:∀ V w',(execOp (opd n (B3 l V)) o).run P w' = .ok (.value v) w') (H:GT P n ops anc src V0 E m (rm U i) ((i,v) :: A) L w):GT P n ops anc src V0 E (m+1) U A L w :=
  .inl ⟨i,o,ho,hk,.inr ⟨hg,v,[],fun V w' hn _ => .inl (AG5 (R:=fun V=>(execOp (opd n V) o).run P w' = .ok (.value v) w') l (hl V hn) fun V=>h V w'),fun _ hh=>(by cases hh),H⟩⟩
theorem U3[DM](i:Nat)(ok:BK2 P T){o:Oper}(l:List (Nat×Value))(v:Value)(ho:ops.toList[i]?=some o)(hk:AP0 src U o i=true)(hg:gOn A o=some true)(hl:∀ V,J7 V0 (F1 A) V (src.getD i [])->Q0 V l)
    (h:∀ V,CN9 T n (B3 l V) o.op=some v) (H:GT P n ops anc src V0 E m (rm U i) ((i,v) :: A) L w):GT P n ops anc src V0 E (m+1) U A L w :=
  EM7 i l v ho hk hg hl (fun V _=>AZ4 ok (h V)) H
theorem AZ1[DM](i:Nat){o:Oper}{h:PH}(l:List (Nat×Value))(v:Value)(ho:ops.toList[i]?=some o)(hk:AP0 src U o i=true)(hg:gOn A o=some true)(hl:∀ V,J7 V0 (F1 A) V (src.getD i [])->Q0 V l)
    (hr:∀ V w',Sub h w'->(execOp (opd n (B3 l V)) o).run P w' = .ok (.value v) w') (e:Sub h w) (H:GT P n ops anc src V0 E m (rm U i) ((i,v) :: A) ((i,h) :: L) w):GT P n ops anc src V0 E (m+1) U A L w :=
  .inl ⟨i,o,ho,hk,.inr ⟨hg,v,[h],fun V w' hn hs => .inl (AG5 (R:=fun V=>(execOp (opd n V) o).run P w' = .ok (.value v) w') l (hl V hn) fun V=>hr V w' (hs h (by simp))),fun a hh=>(by simp at hh; subst hh; exact e),H⟩⟩
theorem FA1[DM](i:Nat){f:FuncId}{o:Oper}{args:Array Operand}{tys:Array TypeId}(l:List (Nat×Value))(v:Value)(hs:List PH)(N2:List Value)(ho:ops.toList[i]?=some o)(hk:AP0 src U o i=true)(hg:gOn A o=some true)(hl:∀ V,J7 V0 (F1 A) V (src.getD i [])->Q0 V l)
    (hop:o.op = .call ⟨.value (.func f),args,tys⟩) (hf:B4 P f) (ha:∀ V,args.toList.map (opd n (B3 l V))=N2) (hc:∀ w',BJ9 hs w'->B5 P f N2.toArray w' fun u w''=>u=v/\Ext w' w'') (e:BJ9 hs w)
    (H:GT P n ops anc src V0 E m (rm U i) ((i,v) :: A) (hs.map (fun h=>(i,h))++L) w):GT P n ops anc src V0 E (m+1) U A L w :=
  .inl ⟨i,o,ho,hk,.inr ⟨hg,v,hs,fun V w' hn hs' => .inr ⟨f,N2.toArray,AG5 (R:=fun V=>(execOp (opd n V) o).run P w' = .ok (.enter f N2.toArray) w') l (hl V hn) fun V=>BW7 hop hf (ha V) w',hc w' (AS1.2 hs')⟩,AS1.1 e,H⟩⟩
def Hd1[DM](P:Program)(n:Nat)(ops:Array Oper)(anc:List (List Nat))(src:List (List (Nat×Option Nat)))(V0:Env)(E:Asg->World->Prop)(m:Nat)(U:List Nat)(A:Asg)(L:List (Nat×PH))(w:World)(i:Nat):Prop :=
  ∃ o,ops.toList[i]?=some o/\AP0 src U o i=true/\gOn A o=some true /\
    ∀ V w',Ext w w'->J7 V0 (F1 A) V (src.getD i [])->CX P n o V w' fun u w''=>AK3 (anc.getD i []) w'' L/\GT P n ops anc src V0 E m (rm U i) ((i,dv o u) :: A) L w''
def DE7[DM](P:Program)(n:Nat)(ops:Array Oper)(anc:List (List Nat))(src:List (List (Nat×Option Nat)))(V0:Env)(E:Asg->World->Prop)(m:Nat)(U:List Nat)(A:Asg)(L:List (Nat×PH))(w:World):List Nat->Prop
  | []=>True
  | i :: r=>Hd1 P n ops anc src V0 E m U A L w i/\DE7 P n ops anc src V0 E m U A L w r
theorem DE7.get[DM]:∀ {H:List Nat},DE7 P n ops anc src V0 E m U A L w H->∀ i∈H,Hd1 P n ops anc src V0 E m U A L w i
  | [],_,i,hi=>by cases hi
  | j :: r,⟨h1,h2⟩,i,hi=>by
    rcases List.mem_cons.1 hi with rfl | hi
    · exact h1
    · exact h2.get i hi
theorem FA4[DM](H:List Nat)(hH:AS4 anc U H=true)(h:DE7 P n ops anc src V0 E m U A L w H):GT P n ops anc src V0 E (m+1) U A L w :=
  .inr ⟨H,hH,fun i hi=>h.get i hi⟩
theorem CR0{o:Oper}{V:Env}{K:Value->World->Prop}{w':World}(hd:dOk n o.dst=true)(h:LP P n #[AW7 o] (QK n o V K) 0 V w'):CX P n o V w' fun u w''=>K (dv o u) w'':=by
  unfold LP at h
  simp only [List.drop_zero] at h
  unfold wpList at h
  have hw:Region.wanted (AW7 o) (yielded #[AW7 o] (act n V).tmps)=true:=rfl
  rw [hw,if_pos rfl] at h
  rcases h with h | ⟨_,h⟩
  · unfold Oper.wp at h
    rw [S5] at h
    have hs:execOp (opd n V) (AW7 o)=execOp (opd n V) o:=rfl
    rw [hs] at h
    unfold CX
    generalize (execOp (opd n V) o).run P w'=res at h ⊢
    cases res with
    | ok nx w'' =>
      cases nx
      case value v =>
        simp only [Oper.upon] at h
        left
        simp only [wpList,QK] at h
        obtain ⟨u,h1,h2⟩:=h
        rw [G4] at h1
        have:=AD3 (o:=o) rfl hd h1
        rw [← this] at h2
        exact ⟨v,w'',rfl,h2⟩
      case skip =>
        simp only [Oper.upon] at h
        right; left
        simp only [wpList,QK] at h
        obtain ⟨u,h1,h2⟩:=h
        rw [G4] at h1
        have:=AD3 (o:=o) rfl hd h1
        rw [← this] at h2
        exact ⟨w'',rfl,h2⟩
      case enter f args =>
        simp only [Oper.upon] at h
        right; right; left
        refine ⟨f,args,w'',rfl,Calls.mono h fun e w3 h'=>?_⟩
        cases e with
        | returned v =>
          simp only [wpList,QK] at h' ⊢
          obtain ⟨u,h1,h2⟩:=h'
          rw [G4] at h1
          have:=AD3 (o:=o) rfl hd h1
          rw [← this] at h2
          exact h2
        | panicked _=>simp [QK] at h'
        | outgrown=>simp [LetsOut,QK] at h'
      case row row args =>
        simp only [Oper.upon] at h
        right; right; right
        refine ⟨row,args,w'',rfl,Rows.mono h fun v w3 h'=>?_⟩
        simp only [wpList,QK] at h' ⊢
        obtain ⟨u,h1,h2⟩:=h'
        rw [G4] at h1
        have:=AD3 (o:=o) rfl hd h1
        rw [← this] at h2
        exact h2
      case defer d =>
        simp only [Oper.upon,wpList,QK] at h
        obtain ⟨u,h1,_⟩:=h
        have:=congrArg (fun a:Act=>a.defers) h1
        cases hq:(AW7 o).dst <;> simp [hq,Act.put,act] at this
      all_goals simp [Oper.upon] at h
    | halt e w''=>cases e <;> simp [Oper.upon,QK] at h
  · simp [LetsOut,QK] at h
theorem FA5[DM]{i:Nat}{o:Oper}(l:List (Nat×Value))(ho:ops.toList[i]?=some o)(hk:AP0 src U o i=true)(hg:gOn A o=some true)(hl:∀ V,J7 V0 (F1 A) V (src.getD i [])->Q0 V l)(hd:dOk n o.dst=true)
    (H:∀ V w',Ext w w'->LP P n #[AW7 o] (QK n o (B3 l V) fun u w''=>AK3 (anc.getD i []) w'' L/\GT P n ops anc src V0 E m (rm U i) ((i,u) :: A) L w'') 0 (B3 l V) w'):Hd1 P n ops anc src V0 E m U A L w i:=by
  refine ⟨o,ho,hk,hg,fun V w' x hn=>?_⟩
  exact AG5 (R:=fun V=>CX P n o V w' fun u w''=>AK3 (anc.getD i []) w'' L/\GT P n ops anc src V0 E m (rm U i) ((i,dv o u) :: A) L w'') l (hl V hn) fun V=>CR0 hd (H V w' x)
end
end
end Go.Gv
namespace Go.Gv
open Go Go.RowKit
theorem CX.mono{P:Program}{n:Nat}{o:Oper}{V:Env}{w:World}{K K':Value->World->Prop}(h:CX P n o V w K)(k:∀ u w',K u w'->K' u w'):CX P n o V w K':=by
  rcases h with ⟨u,w',h1,h2⟩ | ⟨w',h1,h2⟩ | ⟨f,args,w',h1,h2⟩ | ⟨row,args,w',h1,h2⟩
  · exact .inl ⟨u,w',h1,k _ _ h2⟩
  · exact .inr (.inl ⟨w',h1,k _ _ h2⟩)
  · exact .inr (.inr (.inl ⟨f,args,w',h1,h2.mono k⟩))
  · exact .inr (.inr (.inr ⟨row,args,w',h1,Rows.mono h2 k⟩))
theorem AK3.ext[DM]{a:List Nat}{w w':World}(x:Ext w w'):∀ {L:List (Nat×PH)},AK3 a w L->AK3 a w' L
  | [],_=>trivial
  | (_,_) :: _,⟨h1,h2⟩=>⟨h1.imp id fun e=>e.ext x,h2.ext x⟩
section
variable {P:Program} {n:Nat} {ops:Array Oper} {anc:List (List Nat)} {src:List (List (Nat×Option Nat))} {V0:Env} {E:Asg->World->Prop}
theorem GT.congr[DM](hE:∀ A A' w,F1 A=F1 A'->E A w->E A' w):∀ {m:Nat} {U:List Nat} {A A':Asg} {L:List (Nat×PH)} {w:World},F1 A=F1 A'->GT P n ops anc src V0 E m U A L w->GT P n ops anc src V0 E m U A' L w
  | 0,U,A,A',L,w,h,⟨h1,h2⟩=>⟨h1,fun w' x=>hE A A' w' h (h2 w' x)⟩
  | m+1,U,A,A',L,w,h,hg=>by
    have hgo:∀ o,gOn A o=gOn A' o:=fun o=>AC4 fun j b _=>congrFun h j
    have hc:∀ i v,F1 ((i,v) :: A)=F1 ((i,v) :: A'):=fun i v=>by
      funext j; show (if _ then _ else F1 A j)=(if _ then _ else F1 A' j); rw [h]
    rcases hg with ⟨i,o,ho,hk,h1⟩ | ⟨H,hH,h1⟩
    · refine .inl ⟨i,o,ho,hk,?_⟩
      rcases h1 with ⟨g,h1⟩ | ⟨g,v,hs,h1,h2,h3⟩
      · exact .inl ⟨by rw [← hgo]; exact g,h1.congr hE (hc _ _)⟩
      · exact .inr ⟨by rw [← hgo]; exact g,v,hs,fun V w' hn=>h1 V w' (by rw [h]; exact hn),h2,h3.congr hE (hc _ _)⟩
    · exact .inr ⟨H,hH,fun i hi=>let ⟨o,ho,hk,g,h2⟩:=h1 i hi; ⟨o,ho,hk,by rw [← hgo]; exact g,fun V w' x hn=>(h2 V w' x (by rw [h]; exact hn)).mono fun u w'' ⟨a,b⟩=>⟨a,b.congr hE (hc _ _)⟩⟩⟩
theorem EZ1{o:Oper}{V:Env}{w':World}{K:Value->World->Prop}(hd:dOk n o.dst=true)(h:LP P n #[AW7 o] (QK n o V K) 0 V w'):CX P n o V w' fun u w''=>K (dv o u) w'':=by
  unfold LP at h
  simp only [List.drop_zero] at h
  unfold wpList at h
  have hw:Region.wanted (AW7 o) (yielded #[AW7 o] (act n V).tmps)=true:=rfl
  rw [hw,if_pos rfl] at h
  rcases h with h | ⟨_,h⟩
  · unfold Oper.wp at h
    rw [S5] at h
    have hs:execOp (opd n V) (AW7 o)=execOp (opd n V) o:=rfl
    rw [hs] at h
    unfold CX
    generalize (execOp (opd n V) o).run P w'=res at h ⊢
    cases res with
    | ok nx w'' =>
      cases nx
      case value v =>
        simp only [Oper.upon] at h
        left
        simp only [wpList,QK] at h
        obtain ⟨u,h1,h2⟩:=h
        rw [G4] at h1
        have:=AD3 (o:=o) rfl hd h1
        rw [← this] at h2
        exact ⟨v,w'',rfl,h2⟩
      case skip =>
        simp only [Oper.upon] at h
        right; left
        simp only [wpList,QK] at h
        obtain ⟨u,h1,h2⟩:=h
        rw [G4] at h1
        have:=AD3 (o:=o) rfl hd h1
        rw [← this] at h2
        exact ⟨w'',rfl,h2⟩
      case enter f args =>
        simp only [Oper.upon] at h
        right; right; left
        refine ⟨f,args,w'',rfl,Calls.mono h fun e w3 h'=>?_⟩
        cases e with
        | returned v =>
          simp only [wpList,QK] at h' ⊢
          obtain ⟨u,h1,h2⟩:=h'
          rw [G4] at h1
          have:=AD3 (o:=o) rfl hd h1
          rw [← this] at h2
          exact h2
        | panicked _=>simp [QK] at h'
        | outgrown=>simp [LetsOut,QK] at h'
      case row row args =>
        simp only [Oper.upon] at h
        right; right; right
        refine ⟨row,args,w'',rfl,Rows.mono h fun v w3 h'=>?_⟩
        simp only [wpList,QK] at h' ⊢
        obtain ⟨u,h1,h2⟩:=h'
        rw [G4] at h1
        have:=AD3 (o:=o) rfl hd h1
        rw [← this] at h2
        exact h2
      case defer d =>
        simp only [Oper.upon,wpList,QK] at h
        obtain ⟨u,h1,_⟩:=h
        have:=congrArg (fun a:Act=>a.defers) h1
        cases hq:(AW7 o).dst <;> simp [hq,Act.put,act] at this
      all_goals simp [Oper.upon] at h
    | halt e w''=>cases e <;> simp [Oper.upon,QK] at h
  · simp [LetsOut,QK] at h
structure Mkr where
  i:Nat
  l:List (Nat×Value)
  R:Value->PH->Prop
structure Qt where
  x:Nat
  deps:List Nat
  l:List Value->List (Nat×Value)
  v:List Value->Value
def acq(u:Nat->Value)(A:Asg):List Qt->Asg
  | []=>A
  | q :: r=>(q.x,q.v (q.deps.map u)) :: acq u A r
def acs(u:Nat->Value)(Qs:List Qt)(A:Asg):List Mkr->Asg
  | []=>acq u A Qs
  | m :: r=>(m.i,u m.i) :: acs u Qs A r
def CM1{α:Type}(p:α->Prop):List α->Prop
  | []=>True
  | a :: r=>p a/\CM1 p r
theorem CM1.get{α:Type}{p:α->Prop}:∀ {l:List α},CM1 p l->∀ a∈l,p a
  | [],_,a,h=>by cases h
  | b :: r,⟨h1,h2⟩,a,h=>by
    rcases List.mem_cons.1 h with rfl | h
    · exact h1
    · exact h2.get a h
def Mkr.ok[DM](P:Program)(n:Nat)(ops:Array Oper)(src:List (List (Nat×Option Nat)))(V0:Env)(A:Asg)(m:Mkr):Prop :=
  ∃ o,ops.toList[m.i]?=some o/\o.guard=none/\(∀ V,J7 V0 (F1 A) V (src.getD m.i [])->Q0 V m.l) /\
    ∀ V w,CX P n o (B3 m.l V) w fun u w'=>Ext w w'/\∃ h,m.R (dv o u) h/\Sub h w'/\B6 w.heap.size h
def Qt.ok(P:Program)(n:Nat)(ops:Array Oper)(src:List (List (Nat×Option Nat)))(V0:Env)(A:Asg)(Ms:List Mkr)(Qs:List Qt)(q:Qt):Prop :=
  ∃ o,ops.toList[q.x]?=some o/\o.guard=none/\∀ u:Nat->Value,(∀ V,J7 V0 (F1 (acs u Qs A Ms)) V (src.getD q.x [])->Q0 V (q.l (q.deps.map u))) /\
    (CM1 (fun m=>m.i∈q.deps->∃ h,m.R (u m.i) h) Ms->∀ V w,(execOp (opd n (B3 (q.l (q.deps.map u)) V)) o).run P w = .ok (.value (q.v (q.deps.map u))) w)
theorem Mkr.lp[DM]{m:Mkr}{o:Oper}{A:Asg}(ho:ops.toList[m.i]?=some o)(hg:o.guard=none)(hl:∀ V,J7 V0 (F1 A) V (src.getD m.i [])->Q0 V m.l)(hd:dOk n o.dst=true)
    (H:∀ V w,LP P n #[AW7 o] (QK n o (B3 m.l V) fun u w'=>Ext w w'/\∃ h,m.R u h/\Sub h w'/\B6 w.heap.size h) 0 (B3 m.l V) w):m.ok P n ops src V0 A :=
  ⟨o,ho,hg,hl,fun V w=>EZ1 hd (H V w)⟩
theorem Qt.ev{T:Ty}{q:Qt}{o:Oper}{A:Asg}{Ms:List Mkr}{Qs:List Qt}(ok:BK2 P T)(ho:ops.toList[q.x]?=some o)(hg:o.guard=none)(hl:∀ (u:Nat->Value) V,J7 V0 (F1 (acs u Qs A Ms)) V (src.getD q.x [])->Q0 V (q.l (q.deps.map u)))
    (h:∀ (u:Nat->Value) V,CM1 (fun m=>m.i∈q.deps->∃ h,m.R (u m.i) h) Ms->CN9 T n (B3 (q.l (q.deps.map u)) V) o.op=some (q.v (q.deps.map u))):q.ok P n ops src V0 A Ms Qs :=
  ⟨o,ho,hg,fun u=>⟨hl u,fun a V _=>AZ4 ok (h u V a)⟩⟩
theorem DD7{α:Type}{p:α->Prop}:∀ {l:List α},(∀ a∈l,p a)->CM1 p l
  | [],_=>trivial
  | a :: r,h=>⟨h a (by simp),DD7 fun b hb=>h b (by simp [hb])⟩
def W6(U D:List Nat):List Nat:=U.filter fun x => !D.contains x
theorem CJ1{U D:List Nat}{x:Nat}:x∈W6 U D↔x∈U/\x ∉ D:=by unfold W6; simp
def DS9:List Nat->List (List Nat)
  | []=>[[]]
  | a :: l=>DS9 l++(DS9 l).map (a :: ·)
theorem DW5{r l:List Nat}(h:r.Sublist l):r∈DS9 l:=by
  induction h with
  | slnil=>simp [DS9]
  | cons a h ih=>exact List.mem_append.2 (.inl ih)
  | cons_cons a h ih=>exact List.mem_append.2 (.inr (List.mem_map.2 ⟨_,ih,rfl⟩))
def okS(src:List (List (Nat×Option Nat)))(U:List Nat)(i:Nat):Bool:=U.contains i&&(src.getD i []).all (fun p=>match p.2 with | some j => !U.contains j | none=>true)
theorem DZ4{U:List Nat}{o:Oper}{i:Nat}(hg:o.guard=none)(h:okS src U i=true):AP0 src U o i=true:=by unfold AP0; unfold okS at h; rw [h,hg]; rfl
theorem CP8{U:List Nat}{i:Nat}(h:okS src U i=true){t j:Nat}(hj:(t,some j)∈src.getD i []):j ∉ U:=by
  unfold okS at h
  simp only [Bool.and_eq_true] at h
  have:=List.all_eq_true.1 h.2 _ hj; simpa using this
def nd:List Nat->Bool
  | []=>true
  | a :: l => !l.contains a&&nd l
theorem BU7{α:Type}{f:α->Nat}:∀ {l:List α},nd (l.map f)=true->∀ a∈l,∀ b∈l,f a=f b->a=b
  | [],_,a,h,_,_,_=>by cases h
  | c :: l,h,a,ha,b,hb,e=>by
    simp only [List.map_cons,nd,Bool.and_eq_true] at h
    have hc:∀ d∈l,f d≠f c:=fun d hd hh=>by
      have:(l.map f).contains (f c)=true:=by rw [← hh]; simpa using ⟨d,hd,rfl⟩
      rw [this] at h; exact absurd h.1 (by decide)
    rcases List.mem_cons.1 ha with ea | ha <;> rcases List.mem_cons.1 hb with eb | hb
    · rw [ea,eb]
    · exact absurd (by rw [← e,ea]) (hc _ hb)
    · exact absurd (by rw [e,eb]) (hc _ ha)
    · exact BU7 h.2 a ha b hb e
theorem BP9:∀ {l r:List Nat},nd (l++r)=true->nd l=true/\nd r=true/\∀ x∈l,x ∉ r
  | [],r,h=>⟨rfl,h,fun x hx=>by cases hx⟩
  | a :: l,r,h=>by
    simp only [List.cons_append,nd,Bool.and_eq_true] at h
    obtain ⟨h1,h2,h3⟩:=BP9 h.2
    have h4:a ∉ l++r:=by have:=h.1; simpa using this
    refine ⟨?_,h2,fun x hx=>?_⟩
    · simp only [nd,Bool.and_eq_true]; exact ⟨by have:a ∉ l:=fun c=>h4 (List.mem_append.2 (.inl c)); simpa using this,h1⟩
    · rcases List.mem_cons.1 hx with rfl | hx
      · exact fun c=>h4 (List.mem_append.2 (.inr c))
      · exact h3 x hx
theorem CW7:∀ {l:List Nat} {i:Nat},nd l=true->i∈l->(rm l i).length+1=l.length
  | a :: l,i,h,hi=>by
    simp only [nd,Bool.and_eq_true] at h
    have ha:a ∉ l:=by have:=h.1; simpa using this
    by_cases e:a=i
    · subst e
      have:rm (a :: l) a=l:=by
        unfold rm; rw [List.filter_cons_of_neg (by simp)]
        exact List.filter_eq_self.2 fun x hx=>by
          have:x≠a:=fun c=>ha (c ▸ hx)
          simp [CN3 this]
      rw [this]; rfl
    · have hl:i∈l:=(List.mem_cons.1 hi).resolve_left fun c=>e c.symm
      have:=CW7 h.2 hl
      have h2:rm (a :: l) i=a :: rm l i:=by unfold rm; rw [List.filter_cons_of_pos (by simp [CN3 e])]
      rw [h2]; simp only [List.length_cons]; omega
theorem ET6{r l:List Nat}(s:r.Sublist l):nd l=true->nd r=true:=by
  induction s with
  | slnil=>exact id
  | cons a s ih=>intro h; simp only [nd,Bool.and_eq_true] at h; exact ih h.2
  | @cons_cons l1 l2 a s ih =>
    intro h; simp only [nd,Bool.and_eq_true] at h ⊢
    have h1:a ∉ l2:=by have:=h.1; simpa using this
    have h2:a ∉ l1:=fun c=>h1 (s.subset c)
    exact ⟨by simpa using h2,ih h.2⟩
theorem DJ1{U idx Rem:List Nat}{i:Nat}(hi:i∈idx):rm (W6 U (W6 idx Rem)) i=W6 U (W6 idx (rm Rem i)):=by
  unfold rm W6
  rw [List.filter_filter]
  refine List.filter_congr fun x hx=>?_
  by_cases e:x=i
  · subst e; simp [hi]
  · simp [CN3 e]
def DD0(anc:List (List Nat))(src:List (List (Nat×Option Nat)))(U Mi:List Nat)(Qi:List (Nat×List Nat)):Bool :=
  nd (Mi++Qi.map (·.1))&&((Mi++Qi.map (·.1)).all U.contains&&(Mi.all (okS src U) &&
  (Qi.all (fun q=>q.2.all fun d=>Mi.contains d&&(src.getD q.1 []).any fun p=>match p.2 with | some j=>Nat.beq j d | none=>false) &&
  (DS9 (Mi++Qi.map (·.1))).all fun Rem=>Rem.isEmpty || (Qi.any (fun q=>Rem.contains q.1&&okS src (W6 U (W6 (Mi++Qi.map (·.1)) Rem)) q.1)) ||
     (AS4 anc (W6 U (W6 (Mi++Qi.map (·.1)) Rem)) (Mi.filter fun i=>Rem.contains i)&&(Mi.filter fun i=>Rem.contains i).all (okS src (W6 U (W6 (Mi++Qi.map (·.1)) Rem)))))))
theorem AZ9{u:Nat->Value}{A:Asg}{j:Nat}:∀ {Qs:List Qt},j ∉ Qs.map (·.x)->F1 (acq u A Qs) j=F1 A j
  | [],_=>rfl
  | q :: r,h=>by
    simp only [List.map_cons,List.mem_cons,not_or] at h
    show F1 ((q.x,_) :: acq u A r) j=_
    rw [W5 h.1,AZ9 h.2]
theorem AB6{u:Nat->Value}{A:Asg}{Qs:List Qt}{j:Nat}:∀ {Ms:List Mkr},j ∉ Ms.map (·.i)->F1 (acs u Qs A Ms) j=F1 (acq u A Qs) j
  | [],_=>rfl
  | m :: r,h=>by
    simp only [List.map_cons,List.mem_cons,not_or] at h
    show F1 ((m.i,_) :: acs u Qs A r) j=_
    rw [W5 h.1,AB6 h.2]
theorem BB8{u:Nat->Value}{A:Asg}{Qs:List Qt}{j:Nat}:∀ {Ms:List Mkr},j∈Ms.map (·.i)->F1 (acs u Qs A Ms) j=u j
  | [],h=>by cases h
  | m :: r,h=>by
    show F1 ((m.i,_) :: acs u Qs A r) j=_
    by_cases e:j=m.i
    · subst e; exact AP8
    · rw [W5 e]; exact BB8 ((List.mem_cons.1 h).resolve_left e)
theorem BB9{u:Nat->Value}{A:Asg}:∀ {Qs:List Qt},nd (Qs.map (·.x))=true->∀ q∈Qs,F1 (acq u A Qs) q.x=q.v (q.deps.map u)
  | [],_,q,h=>by cases h
  | p :: r,hn,q,h=>by
    simp only [List.map_cons,nd,Bool.and_eq_true] at hn
    show F1 ((p.x,_) :: acq u A r) q.x=_
    by_cases e:q.x=p.x
    · have:q=p:=BU7 (f:=(·.x)) (l:=p :: r) (by simp only [List.map_cons,nd,Bool.and_eq_true]; exact hn) q h p (by simp) e
      subst this; exact AP8
    · rw [W5 e]; exact BB9 hn.2 q ((List.mem_cons.1 h).resolve_left fun c=>e (by rw [c]))
def djl(h:PH):List PH->Prop
  | []=>True
  | g :: r=>Dj h g/\djl h r
def EK4(w0 w':World)(C:List Value->Prop):List Mkr->List Value->List PH->Prop
  | [],vs,_=>C vs
  | m :: r,vs,hs=>∀ v h,m.R v h->Sub h w'->B6 w0.heap.size h->djl h hs->EK4 w0 w' C r (vs++[v]) (h :: hs)
def EA3:List Mkr->List Value->Asg
  | m :: r,v :: vs=>(m.i,v) :: EA3 r vs
  | _,_=>[]
structure EZ7 [DM] (Ms:List Mkr) (Qs:List Qt) (A:Asg) (w0:World) (Rem:List Nat) (u:Nat->Value) (h:Nat->PH) (A':Asg) (w:World):Prop where
  x:Ext w0 w
  lk:∀ j,F1 A' j=if j∈Ms.map (·.i)++Qs.map (·.x)/\j ∉ Rem then F1 (acs u Qs A Ms) j else F1 A j
  qd:∀ q∈Qs,q.x ∉ Rem->∀ d∈q.deps,d ∉ Rem
  mks:∀ m∈Ms,m.i ∉ Rem->m.R (u m.i) (h m.i)/\Sub (h m.i) w/\B6 w0.heap.size (h m.i)
  dj:∀ m∈Ms,∀ m'∈Ms,m.i ∉ Rem->m'.i ∉ Rem->m.i≠m'.i->Dj (h m.i) (h m'.i)
theorem DN2[DM]{U:List Nat}{A:Asg}{L:List (Nat×PH)}{w:World}{m:Nat}(Ms:List Mkr)(Qs:List Qt)(chk:DD0 anc src U (Ms.map (·.i)) (Qs.map fun q=>(q.x,q.deps))=true)
    (hM:∀ m∈Ms,m.ok P n ops src V0 A) (hQ:∀ q∈Qs,q.ok P n ops src V0 A Ms Qs) (hL:∀ m∈Ms,AK3 (anc.getD m.i []) w L) (hE:∀ A A' w,F1 A=F1 A'->E A w->E A' w)
    (H:∀ u h w',EZ7 Ms Qs A w [] u h (acs u Qs A Ms) w'->GT P n ops anc src V0 E m (W6 U (Ms.map (·.i)++Qs.map (·.x))) (acs u Qs A Ms) L w') :
    GT P n ops anc src V0 E (m+(Ms.map (·.i)++Qs.map (·.x)).length) U A L w:=by
  have eQ:(Qs.map fun q=>(q.x,q.deps)).map (·.1)=Qs.map (·.x):=by simp
  unfold DD0 at chk
  rw [eQ] at chk
  simp only [Bool.and_eq_true] at chk
  obtain ⟨c1,c2,c3,c4,c5⟩:=chk
  generalize hidx:Ms.map (·.i)++Qs.map (·.x)=idx at *
  have n1:=BP9 (hidx ▸ c1)
  have hU:∀ j∈idx,j∈U:=fun j hj=>by have:=List.all_eq_true.1 c2 j hj; simpa using this
  have mIdx:∀ m∈Ms,m.i∈idx:=fun m hm=>by rw [← hidx]; exact List.mem_append.2 (.inl (List.mem_map.2 ⟨m,hm,rfl⟩))
  have qIdx:∀ q∈Qs,q.x∈idx:=fun q hq=>by rw [← hidx]; exact List.mem_append.2 (.inr (List.mem_map.2 ⟨q,hq,rfl⟩))
  have key:∀ (k:Nat) (Rem:List Nat) (u:Nat->Value) (h:Nat->PH) (A':Asg) (w':World),Rem.length=k->Rem.Sublist idx->EZ7 Ms Qs A w Rem u h A' w'->GT P n ops anc src V0 E (m+k) (W6 U (W6 idx Rem)) A' L w':=by
    intro k
    induction k with
    | zero =>
      intro Rem u h A' w' hk hs I
      have:Rem=[]:=List.length_eq_zero_iff.1 hk
      subst this
      have e1:W6 idx []=idx:=by unfold W6; exact List.filter_eq_self.2 fun _ _=>rfl
      have e2:F1 (acs u Qs A Ms)=F1 A':=by
        funext j
        rw [I.lk j]
        by_cases c:j∈idx
        · rw [if_pos (by rw [hidx]; exact ⟨c,by simp⟩)]
        · rw [if_neg (by rw [hidx]; exact fun d=>c d.1)]
          rw [← hidx] at c
          rw [AB6 (fun d=>c (List.mem_append.2 (.inl d))),AZ9 (fun d=>c (List.mem_append.2 (.inr d)))]
      rw [e1]
      refine GT.congr hE e2 (H u h w' ⟨I.x,fun j=>?_,I.qd,I.mks,I.dj⟩)
      have:=I.lk j; rw [← e2] at this; exact this
    | succ k ih =>
      intro Rem u h A' w' hk hs I
      have hch:=List.all_eq_true.1 c5 Rem (DW5 hs)
      have hne:Rem.isEmpty=false:=by cases Rem with | nil=>cases hk | cons _ _=>rfl
      rw [hne] at hch
      simp only [Bool.false_or,Bool.or_eq_true,Bool.and_eq_true] at hch
      have ndR:=ET6 hs c1
      have notV:∀ {j:Nat},j ∉ W6 U (W6 idx Rem)->F1 A' j=F1 (acs u Qs A Ms) j/\(j∈idx->j ∉ Rem):=fun {j} hj=>by
        rw [CJ1,CJ1] at hj
        by_cases c:j∈idx
        · have:j ∉ Rem:=fun d=>hj ⟨hU j c,fun e=>e.2 d⟩
          exact ⟨by rw [I.lk j,if_pos (by rw [hidx]; exact ⟨c,this⟩)],fun _=>this⟩
        · refine ⟨?_,fun d=>(c d).elim⟩
          rw [I.lk j,if_neg (by rw [hidx]; exact fun d=>c d.1)]
          rw [← hidx] at c
          rw [AB6 (fun d=>c (List.mem_append.2 (.inl d))),AZ9 (fun d=>c (List.mem_append.2 (.inr d)))]
      have outR:∀ {i x:Nat},x ∉ rm Rem i->x≠i->x ∉ Rem:=fun h1 h2 h3=>h1 (R9.2 ⟨h3,h2⟩)
      have subR:∀ i,(rm Rem i).Sublist idx:=fun i=>List.Sublist.trans List.filter_sublist hs
      rcases hch with hq | ⟨hH,hok⟩
      · obtain ⟨p,hp,hq⟩:=List.any_eq_true.1 hq
        obtain ⟨q,hqQ,rfl⟩:=List.mem_map.1 hp
        simp only [Bool.and_eq_true] at hq
        have hqR:q.x∈Rem:=by simpa using hq.1
        obtain ⟨o,ho,hg,hrun⟩:=hQ q hqQ
        obtain ⟨h1,h2⟩:=hrun u
        have hdep:∀ d∈q.deps,d∈idx/\d ∉ Rem:=fun d hd=>by
          have:=List.all_eq_true.1 (List.all_eq_true.1 c4 _ hp) d hd
          simp only [Bool.and_eq_true] at this
          obtain ⟨h3,h4⟩:=this
          obtain ⟨⟨t,s⟩,hs',h5⟩:=List.any_eq_true.1 h4
          cases s with
          | none=>cases h5
          | some j =>
            have:j=d:=Nat.eq_of_beq_eq_true h5
            subst this
            have hi:j∈idx:=by rw [← hidx]; exact List.mem_append.2 (.inl (by simpa using h3))
            exact ⟨hi,(notV (CP8 hq.2 hs')).2 hi⟩
        refine .inl ⟨q.x,o,ho,DZ4 hg hq.2,.inr ⟨by unfold gOn; rw [hg],q.v (q.deps.map u),[],fun V w'' hn _ => .inl (AG5 (R:=fun V=>(execOp (opd n V) o).run P w'' = .ok (.value (q.v (q.deps.map u))) w'') _ (h1 V (N9 (fun t j hj=>(notV (CP8 hq.2 hj)).1) hn)) fun V=>h2 (DD7 fun m hm hd=>⟨h m.i,(I.mks m hm (hdep m.i hd).2).1⟩) V w''),fun _ hh=>(by cases hh),?_⟩⟩
        rw [DJ1 (qIdx q hqQ)]
        refine ih (rm Rem q.x) u h _ w' (by have:=CW7 ndR hqR; omega) (subR _) ⟨I.x,fun j=>?_,fun q' hq' hx d hd=>?_,fun m' hm' hx=>?_,fun m1 h1 m2 h2 x1 x2=>?_⟩
        · by_cases e:j=q.x
          · subst e
            rw [AP8,if_pos ⟨by rw [hidx]; exact qIdx q hqQ,fun c=>(R9.1 c).2 rfl⟩]
            rw [AB6 (fun c=>n1.2.2 _ c (List.mem_map.2 ⟨q,hqQ,rfl⟩)),BB9 n1.2.1 q hqQ]
          · rw [W5 e,I.lk j]
            have:(j ∉ rm Rem q.x)↔j ∉ Rem:=⟨fun c=>outR c e,fun c d=>c (R9.1 d).1⟩
            simp only [this]
        · by_cases e:q'.x=q.x
          · have:q'=q:=BU7 (f:=(·.x)) n1.2.1 q' hq' q hqQ e
            subst this
            exact fun c=>(hdep d hd).2 (R9.1 c).1
          · exact fun c=>I.qd q' hq' (outR hx e) d hd (R9.1 c).1
        · exact I.mks m' hm' (outR hx fun e=>n1.2.2 m'.i (List.mem_map.2 ⟨m',hm',rfl⟩) (by rw [e]; exact List.mem_map.2 ⟨q,hqQ,rfl⟩))
        · have o1:=fun (m':Mkr) (hm':m'∈Ms) (hx:m'.i ∉ rm Rem q.x)=>outR hx fun e=>n1.2.2 m'.i (List.mem_map.2 ⟨m',hm',rfl⟩) (by rw [e]; exact List.mem_map.2 ⟨q,hqQ,rfl⟩)
          exact I.dj m1 h1 m2 h2 (o1 m1 h1 x1) (o1 m2 h2 x2)
      · refine .inr ⟨_,hH,fun i hi=>?_⟩
        have hi1:=List.mem_filter.1 hi
        have hiR:i∈Rem:=by simpa using hi1.2
        obtain ⟨m0,hm0,rfl⟩:=List.mem_map.1 hi1.1
        obtain ⟨o,ho,hg,hl,hrun⟩:=hM m0 hm0
        have hk2:=List.all_eq_true.1 hok _ hi
        have hk0:=List.all_eq_true.1 c3 _ hi1.1
        refine ⟨o,ho,DZ4 hg hk2,by unfold gOn; rw [hg],fun V w'' x hn=>?_⟩
        have hn0:J7 V0 (F1 A) V (src.getD m0.i []):=N9 (fun t j hj=>by
          have hju:=CP8 hk0 hj
          rw [I.lk j,if_neg (by rw [hidx]; exact fun c=>hju (hU j c.1))]) hn
        refine CX.mono (AG5 (R:=fun V=>CX P n o V w'' fun u w3=>Ext w'' w3/\∃ h,m0.R (dv o u) h/\Sub h w3/\B6 w''.heap.size h) _ (hl V hn0) fun V=>hrun V w'') fun v w3 ⟨x3,g,r,s,f⟩=>⟨AK3.ext ((I.x.trans x).trans x3) (hL m0 hm0),?_⟩
        rw [DJ1 (mIdx m0 hm0)]
        let u':Nat->Value:=fun j=>if j=m0.i then dv o v else u j
        let h':Nat->PH:=fun j=>if j=m0.i then g else h j
        have un:∀ {j:Nat},j≠m0.i->u' j=u j:=fun {j} e=>if_neg e
        have hn':∀ {j:Nat},j≠m0.i->h' j=h j:=fun {j} e=>if_neg e
        have ue:u' m0.i=dv o v:=if_pos rfl
        have he:h' m0.i=g:=if_pos rfl
        refine ih (rm Rem m0.i) u' h' _ w3 (by have:=CW7 ndR hiR; omega) (subR _) ⟨(I.x.trans x).trans x3,fun j=>?_,fun q' hq' hx d hd=>?_,fun m' hm' hx=>?_,fun m1 h1 m2 h2 x1 x2 ne=>?_⟩
        · by_cases e:j=m0.i
          · subst e
            rw [AP8,if_pos ⟨by rw [hidx]; exact mIdx m0 hm0,fun c=>(R9.1 c).2 rfl⟩,BB8 hi1.1,ue]
          · rw [W5 e,I.lk j]
            have hiff:(j ∉ rm Rem m0.i)↔j ∉ Rem:=⟨fun c=>outR c e,fun c d=>c (R9.1 d).1⟩
            simp only [hiff]
            by_cases c:j∈Ms.map (·.i)++Qs.map (·.x)/\j ∉ Rem
            · rw [if_pos c,if_pos c]
              rcases List.mem_append.1 c.1 with c1' | c2'
              · rw [BB8 c1',BB8 c1',un e]
              · have nm:j ∉ Ms.map (·.i):=fun d=>n1.2.2 j d c2'
                rw [AB6 nm,AB6 nm]
                obtain ⟨q,hq,rfl⟩:=List.mem_map.1 c2'
                rw [BB9 n1.2.1 q hq,BB9 n1.2.1 q hq]
                congr 1
                refine List.map_congr_left fun d hd=>?_
                have:=I.qd q hq c.2 d hd
                exact (un fun e2=>this (by rw [e2]; exact hiR)).symm
            · rw [if_neg c,if_neg c]
        · have e:q'.x≠m0.i:=fun c=>n1.2.2 m0.i hi1.1 (by rw [← c]; exact List.mem_map.2 ⟨q',hq',rfl⟩)
          exact fun c=>I.qd q' hq' (outR hx e) d hd (R9.1 c).1
        · by_cases e:m'.i=m0.i
          · have:m'=m0:=BU7 (f:=(·.i)) n1.1 m' hm' m0 hm0 e
            subst this
            rw [ue,he]
            exact ⟨r,s,f.mono (I.x.trans x).size⟩
          · rw [un e,hn' e]
            obtain ⟨a,b,c⟩:=I.mks m' hm' (outR hx e)
            exact ⟨a,(b.ext x).ext x3,c⟩
        · by_cases e1:m1.i=m0.i
          · have e2:m2.i≠m0.i:=fun c=>ne (e1.trans c.symm)
            rw [hn' e2,e1,he]
            exact (Dj.of_fresh ((I.mks m2 h2 (outR x2 e2)).2.1.ext x) f).symm
          · by_cases e2:m2.i=m0.i
            · rw [hn' e1,e2,he]
              exact Dj.of_fresh ((I.mks m1 h1 (outR x1 e1)).2.1.ext x) f
            · rw [hn' e1,hn' e2]; exact I.dj m1 h1 m2 h2 (outR x1 e1) (outR x2 e2) ne
  have k0:=key idx.length idx (fun _=>undef) (fun _=>emp) A w rfl (List.Sublist.refl _) ⟨Ext.refl _,fun j=>by rw [hidx,if_neg (fun c=>c.2 c.1)],fun q hq hx=>(hx (qIdx q hq)).elim,fun m' hm' hx=>(hx (mIdx m' hm')).elim,fun m1 h1 m2 h2 x1=>(x1 (mIdx m1 h1)).elim⟩
  have e1:W6 idx idx=[]:=by unfold W6; exact List.filter_eq_nil_iff.2 fun x hx=>by simp [hx]
  have e2:W6 U []=U:=by unfold W6; exact List.filter_eq_self.2 fun _ _=>rfl
  rw [e1,e2] at k0
  exact k0
theorem EK4.get{w0 w':World}{C:List Value->Prop}{u:Nat->Value}{h:Nat->PH}:∀ {Ms:List Mkr} {vs:List Value} {hs:List PH},EK4 w0 w' C Ms vs hs->(∀ m∈Ms,m.R (u m.i) (h m.i)/\Sub (h m.i) w'/\B6 w0.heap.size (h m.i)) ->
    nd (Ms.map (·.i))=true->(∀ m∈Ms,djl (h m.i) hs)->(∀ m∈Ms,∀ m'∈Ms,m.i≠m'.i->Dj (h m.i) (h m'.i))->C (vs++Ms.map fun m=>u m.i)
  | [],vs,hs,T,_,_,_,_=>by simp; exact T
  | m :: r,vs,hs,T,hm,hn,hd,hj=>by
    simp only [List.map_cons,nd,Bool.and_eq_true] at hn
    obtain ⟨a,b,c⟩:=hm m (by simp)
    have ne:∀ m'∈r,m'.i≠m.i:=fun m' hm' e=>by
      have:(r.map (·.i)).contains m.i=true:=by rw [← e]; simpa using ⟨m',hm',rfl⟩
      rw [this] at hn; exact absurd hn.1 (by decide)
    have:=(T (u m.i) (h m.i) a b c (hd m (by simp))).get (fun m' h'=>hm m' (by simp [h'])) hn.2 (fun m' h'=>⟨hj m' (by simp [h']) m (by simp) (ne m' h'),hd m' (by simp [h'])⟩) (fun m1 h1 m2 h2=>hj m1 (by simp [h1]) m2 (by simp [h2]))
    simpa using this
theorem BQ7{u:Nat->Value}:∀ {Ms:List Mkr} {j:Nat},j∈Ms.map (·.i)->F1 (EA3 Ms (Ms.map fun m=>u m.i)) j=u j
  | [],j,h=>by cases h
  | m :: r,j,h=>by
    show F1 ((m.i,u m.i) :: EA3 r (r.map fun m=>u m.i)) j=_
    by_cases e:j=m.i
    · subst e; exact AP8
    · rw [W5 e]; exact BQ7 ((List.mem_cons.1 h).resolve_left e)
theorem CK3{u u':Nat->Value}{A:Asg}{Qs:List Qt}:∀ {Ms:List Mkr},(∀ m∈Ms,u m.i=u' m.i)->(∀ q∈Qs,∀ d∈q.deps,u d=u' d)->acs u Qs A Ms=acs u' Qs A Ms
  | [],_,h=>by
    show acq u A Qs=acq u' A Qs
    induction Qs with
    | nil=>rfl
    | cons q r ih =>
      show (q.x,q.v (q.deps.map u)) :: acq u A r=(q.x,q.v (q.deps.map u')) :: acq u' A r
      rw [ih fun q' hq'=>h q' (by simp [hq']),List.map_congr_left (h q (by simp))]
  | m :: r,h,hq=>by
    show (m.i,u m.i) :: acs u Qs A r=(m.i,u' m.i) :: acs u' Qs A r
    rw [h m (by simp),CK3 (fun m' h'=>h m' (by simp [h'])) hq]
theorem CR6[DM]{U:List Nat}{A:Asg}{L:List (Nat×PH)}{w:World}(m:Nat){m1:Nat}(Ms:List Mkr)(Qs:List Qt)(hm:m+(Ms.map (·.i)++Qs.map (·.x)).length=m1)(chk:DD0 anc src U (Ms.map (·.i)) (Qs.map fun q=>(q.x,q.deps))=true)
    (hM:CM1 (fun m=>m.ok P n ops src V0 A) Ms) (hQ:CM1 (fun q=>q.ok P n ops src V0 A Ms Qs) Qs) (hL:CM1 (fun m=>AK3 (anc.getD m.i []) w L) Ms) (hE:∀ A A' w,F1 A=F1 A'->E A w->E A' w)
    (H:∀ w',Ext w w'->EK4 w w' (fun vs=>GT P n ops anc src V0 E m (W6 U (Ms.map (·.i)++Qs.map (·.x))) (acs (F1 (EA3 Ms vs)) Qs A Ms) L w') Ms [] []) :
    GT P n ops anc src V0 E m1 U A L w:=by
  subst hm
  refine DN2 Ms Qs chk (fun m hm=>hM.get m hm) (fun q hq=>hQ.get q hq) (fun m hm=>hL.get m hm) hE fun u h w' I=>?_
  have eQ:(Qs.map fun q=>(q.x,q.deps)).map (·.1)=Qs.map (·.x):=by simp
  unfold DD0 at chk
  rw [eQ] at chk
  simp only [Bool.and_eq_true] at chk
  obtain ⟨c1,c2,c3,c4,c5⟩:=chk
  have n1:=BP9 c1
  have G:=(H w' I.x).get (u:=u) (h:=h) (fun m hm=>I.mks m hm (by simp)) n1.1 (fun _ _=>trivial) fun m1 h1 m2 h2=>I.dj m1 h1 m2 h2 (by simp) (by simp)
  rw [List.nil_append] at G
  have e:acs (F1 (EA3 Ms (Ms.map fun m=>u m.i))) Qs A Ms=acs u Qs A Ms:=CK3 (fun m hm=>BQ7 (List.mem_map.2 ⟨m,hm,rfl⟩)) fun q hq d hd=>BQ7 (by
    have:=List.all_eq_true.1 (List.all_eq_true.1 c4 _ (List.mem_map.2 ⟨q,hq,rfl⟩)) d hd
    simp only [Bool.and_eq_true] at this
    simpa using this.1)
  rw [e] at G
  exact G
end
end Go.Gv
namespace Go.Gv
open Go Go.RowKit
class Deep (α:Type) extends Enc α where
  own:PH->List Value->α->Prop
  ord:∀ {h cs x},own h cs x->rd h cs x
instance deepFlat {α:Type} [i:Flat α]:Deep α where
  own h cs x:=h=emp/\Enc.rd emp cs x
  ord:=fun ⟨e,r⟩=>by subst e; exact r
theorem M3{h g:PH}{b:Nat}:un h g b=none↔h b=none/\g b=none:=by unfold un; cases h b <;> simp
theorem AM7(h:PH):un h emp=h:=by funext b; unfold un emp; cases h b <;> rfl
theorem CA1(h:PH):un emp h=h:=by funext b; rfl
theorem H7(a b c:PH):un (un a b) c=un a (un b c):=by funext k; unfold un; cases a k <;> rfl
theorem Dj.comm{h g:PH}(d:Dj h g):un h g=un g h:=by
  funext b; unfold un
  rcases d b with e | e <;> rw [e]
  · cases g b <;> rfl
  · cases h b <;> rfl
theorem Dj.un_r{h a b:PH}(x:Dj h a)(y:Dj h b):Dj h (un a b):=fun k=>by
  rcases x k with e | e
  · exact .inl e
  · rcases y k with e' | e'
    · exact .inl e'
    · exact .inr (M3.2 ⟨e,e'⟩)
theorem Dj.un_l{h a b:PH}(x:Dj a h)(y:Dj b h):Dj (un a b) h:=(Dj.un_r x.symm y.symm).symm
theorem Dj.of_l{h a b:PH}(x:Dj h (un a b)):Dj h a:=fun k=>(x k).imp id fun e=>(M3.1 e).1
theorem Dj.of_r{h a b:PH}(x:Dj h (un a b)):Dj h b:=fun k=>(x k).imp id fun e=>(M3.1 e).2
theorem Dj.emp_r(h:PH):Dj h emp:=fun _ => .inr rfl
theorem Dj.emp_l(h:PH):Dj emp h:=fun _ => .inl rfl
theorem Le.un_r{h g:PH}(d:Dj h g):Le g (un h g):=fun b o e=>by
  unfold un
  rcases d b with x | x
  · rw [x]; exact e
  · rw [x] at e; cases e
theorem Sub.le{h g:PH}{w:World}(e:Sub g w)(l:Le h g):Sub h w:=fun b o x=>e b o (l b o x)
def Dom(h h':PH):Prop:=∀ b,h b=none->h' b=none
theorem Dom.refl(h:PH):Dom h h:=fun _ x=>x
theorem Dom.of_le{h h':PH}(l:Le h' h):Dom h h':=fun b e=>by
  cases hb:h' b with
  | none=>rfl
  | some o=>rw [l b o hb] at e; cases e
theorem Dom.of{h h':PH}(d:∀ n,B1 h n h'):Dom h h':=fun b e=>d (b+1) b e (Nat.lt_succ_self b)
theorem Dom.le{h h':PH}(d:Dom h h')(n:Nat):B1 h n h':=fun b e _=>d b e
theorem Dom.trans{h h' h'':PH}(d:Dom h h')(e:Dom h' h''):Dom h h'':=fun b x=>e b (d b x)
theorem Dom.dj{h h' q:PH}(d:Dom h h')(j:Dj h q):Dj h' q:=fun b=>(j b).imp (d b) id
theorem Dom.un{a a' b b':PH}(x:Dom a a')(y:Dom b b'):Dom (un a b) (un a' b'):=fun k e=>M3.2 ⟨x k (M3.1 e).1,y k (M3.1 e).2⟩
theorem Dom.l(a b:PH):Dom (Gv.un a b) a:=fun _ e=>(M3.1 e).1
theorem Dom.r(a b:PH):Dom (Gv.un a b) b:=fun _ e=>(M3.1 e).2
theorem But.dom[DM]{h h':PH}{w w':World}(x:But h w w')(d:Dom h' h):But h' w w':=⟨x.os,x.tape,x.output,x.size,fun k hk e=>x.block k hk (d k e),x.drawn⟩
theorem B1.dom{a b c:PH}{n:Nat}(x:Dom a b)(y:B1 b n c):B1 a n c:=fun k e hk=>y k (x k e) hk
theorem B6.domOf{n:Nat}{h h':PH}(f:B6 n h)(d:Dom h h'):B6 n h':=fun b hb=>d b (f b hb)
theorem B6.un{n:Nat}{a b:PH}(x:B6 n a)(y:B6 n b):B6 n (un a b):=fun k hk=>M3.2 ⟨x k hk,y k hk⟩
def ownL{α:Type}[Deep α]:PH->List Value->List α->Prop
  | r,cells,[]=>cells=[]/\r=emp
  | r,cells,x :: xs=>∃ c cr h1 h2,cells=c++cr/\r=un h1 h2/\Dj h1 h2/\Deep.own h1 c x/\ownL h2 cr xs
def OD{α:Type}[Deep α](h:PH)(v:Value)(xs:List α):Prop :=
  ∃ cells hr r,CP6 0 (Enc.n α) hr v xs.length cells/\h=un hr r/\Dj hr r/\ownL r cells xs
section
variable {α:Type} [Deep α] {h r:PH} {v:Value} {xs ys:List α} {cells:List Value}
theorem ownL.rd(o:ownL r cells xs):rdL r cells xs:=by
  induction xs generalizing r cells with
  | nil=>exact o.1
  | cons x xs ih =>
    obtain ⟨c,cr,h1,h2,rfl,rfl,d,hx,ho⟩:=o
    exact ⟨c,cr,rfl,Enc.le (Le.un_left _ _) (Deep.ord hx),(ih ho).le (Le.un_r d)⟩
theorem ownL.append{q:PH}{c2:List Value}(o:ownL r cells xs)(p:ownL q c2 ys)(d:Dj r q):ownL (un r q) (cells++c2) (xs++ys):=by
  induction xs generalizing r cells with
  | nil=>obtain ⟨rfl,rfl⟩:=o; rw [CA1]; exact p
  | cons x xs ih =>
    obtain ⟨c,cr,h1,h2,rfl,rfl,d',hx,ho⟩:=o
    have d1:Dj h1 q:=d.symm.of_l.symm
    have d2:Dj h2 q:=d.symm.of_r.symm
    exact ⟨c,cr++c2,h1,un h2 q,by simp,H7 _ _ _,d'.un_r d1,hx,ih ho d2⟩
theorem ownL.split(o:ownL r cells xs)(i:Nat)(x:α)(hx:xs[i]?=some x) :
    ∃ hi rest c,r=un hi rest/\Dj hi rest/\Deep.own hi c x/\(cells.drop (i * Enc.n α)).take (Enc.n α)=c /\
      ∀ hi' c' x',Deep.own hi' c' x'->Dj hi' rest->ownL (un hi' rest) (spl cells (i * Enc.n α) c') (xs.set i x'):=by
  induction xs generalizing r cells i with
  | nil=>simp at hx
  | cons y xs ih =>
    obtain ⟨c,cr,h1,h2,rfl,rfl,d,hy,ho⟩:=o
    have hl:=Enc.len (Deep.ord hy)
    cases i with
    | zero =>
      simp at hx; subst hx
      refine ⟨h1,h2,c,rfl,d,hy,by simp [← hl],fun hi' c' x' hx' d'=>⟨c',cr,hi',h2,?_,rfl,d',hx',ho⟩⟩
      have:=Enc.len (Deep.ord hx')
      simp [spl,this,← hl]
    | succ i =>
      obtain ⟨hi,rest,c2,rfl,d2,h3,h4,h5⟩:=ih ho i (by simpa using hx)
      have e1:Dj hi h1:=d.of_l.symm
      have e2:Dj h1 rest:=d.of_r
      refine ⟨hi,un h1 rest,c2,?_,e1.un_r d2,h3,?_,fun hi' c' x' hx' d'=>?_⟩
      · rw [← H7,← H7,d.of_l.comm]
      · rw [Nat.succ_mul,Nat.add_comm,← List.drop_drop]
        have:List.drop (Enc.n α) (c++cr)=cr:=by rw [← hl]; simp
        rw [this]; exact h4
      · have f1:Dj hi' h1:=d'.of_l
        have f2:Dj hi' rest:=d'.of_r
        refine ⟨c,spl cr (i * Enc.n α) c',h1,un hi' rest,?_,?_,f1.symm.un_r e2,hy,h5 hi' c' x' hx' f2⟩
        · simp only [spl,Nat.succ_mul]
          have g1:List.take (i * Enc.n α+Enc.n α) (c++cr)=c++List.take (i * Enc.n α) cr:=by
            rw [List.take_append,hl,List.take_of_length_le (by omega)]
            congr 2; omega
          have g2:List.drop (i * Enc.n α+Enc.n α+c'.length) (c++cr)=List.drop (i * Enc.n α+c'.length) cr:=by
            rw [List.drop_append,hl,List.drop_eq_nil_of_le (by omega),List.nil_append]
            congr 1; omega
          rw [g1,g2]; simp
        · rw [← H7,← H7,f1.comm]
theorem ownL.replicate(m:Nat){c:List Value}{x:α}(hc:Deep.own emp c x):ownL emp ((List.replicate m c).flatten) (List.replicate m x):=by
  induction m with
  | zero=>exact ⟨rfl,rfl⟩
  | succ m ih=>exact ⟨c,(List.replicate m c).flatten,emp,emp,by simp [List.replicate_succ],(CA1 emp).symm,Dj.emp_l _,hc,ih⟩
theorem OD.os(o:OD h v xs):∃ hr r,h=un hr r/\Dj hr r/\OS 0 hr r v xs :=
  let ⟨cells,hr,r,h1,h2,h3,h4⟩:=o; ⟨hr,r,h2,h3,cells,h1,h4.rd⟩
theorem OD.readf(o:OD h v xs):RS h v xs:=by
  obtain ⟨hr,r,rfl,d,o⟩:=o.os
  exact o.read (Le.un_left _ _) (Le.un_r d)
theorem OD.shape(o:OD h v xs):∃ a cap,v = .slice a xs.length cap:=let ⟨_,_,_,h,_⟩:=o; h.shape
theorem OD.nil:OD emp (.slice none 0 0) ([]:List α):=⟨[],emp,emp,⟨by simp,.inl ⟨rfl,rfl,rfl⟩⟩,(CA1 _).symm,Dj.emp_l _,rfl,rfl⟩
instance:Deep (List α) where
  own h cs xs:=∃ v,cs=[v]/\OD h v xs
  ord:=fun ⟨v,h,o⟩=>⟨v,h,o.readf⟩
end
structure Bw {α:Type} [Deep α] (h:PH) (v:Value) (xs:List α) (i:Nat) (hi rest:PH) (c:List Value) (x:α):Prop where
  eq:h=un hi rest
  dj:Dj hi rest
  own:Deep.own hi c x
  put:∀ hi' x',Deep.own hi' c x'->Dj hi' rest->OD (un hi' rest) v (xs.set i x')
  lt:i<xs.length
  cell:∀ a,v.ownBlock=some a->AA5 rest ⟨a,i * Enc.n α,none⟩ c
section
variable {α:Type} [Deep α] {h:PH} {v:Value} {xs:List α}
theorem OD.borrow(o:OD h v xs)(i:Nat)(x:α)(hx:xs[i]?=some x):∃ hi rest c a,Bw h v xs i hi rest c x/\v.ownBlock=some a/\AA5 h ⟨a,i * Enc.n α,none⟩ c:=by
  obtain ⟨cells,hr,r,⟨hcl,oc⟩,rfl,d,ho⟩:=o
  have hi:i<xs.length:=(List.getElem?_eq_some_iff.1 hx).1
  rcases oc with ⟨rfl,h0,rfl⟩ | ⟨b,cap,cur,E',rfl,rfl,hc,hm,hs,ht⟩
  · omega
  obtain ⟨hi',rest,c,rfl,d2,hx',hcc,hput⟩:=ho.split i x hx
  have dl:=d.of_l
  have dr:=d.of_r
  have hlc:=Enc.len (Deep.ord hx')
  have hcell:AA5 (F6 b (.cells cur E' (0,0))) ⟨b,i * Enc.n α,none⟩ c:=fun j u hj=>by
    have hjl:j<c.length:=(List.getElem?_eq_some_iff.1 hj).1
    have hn:i * Enc.n α+Enc.n α<=xs.length * Enc.n α:=by
      have:=Nat.mul_le_mul_right (Enc.n α) (Nat.succ_le_of_lt hi); rwa [Nat.succ_mul] at this
    rw [Q5]
    simp only [AZ6,F6,if_true,Option.isSome_none,Bool.false_eq_true,if_false]
    rw [← hcc,List.getElem?_take,if_pos (by omega),List.getElem?_drop,← ht,List.getElem?_take,if_pos (by omega)] at hj
    rw [← Array.getElem?_toList]; exact hj
  refine ⟨hi',un (F6 b (.cells cur E' (0,0))) rest,c,b,⟨?_,dl.symm.un_r d2,hx',fun hi2 x2 hx2 dd=>?_,hi,fun a' ha'=>by cases ha'; exact AA5.le (Le.un_left _ _) hcell⟩,rfl,AA5.le (Le.un_left _ _) hcell⟩
  · rw [← H7,← H7,dl.comm]
  · have h1:=hput hi2 c x2 hx2 dd.of_r
    have hsame:spl cells (i * Enc.n α) c=cells:=by
      unfold spl
      rw [← hcc,List.length_take,List.length_drop]
      have hn:i * Enc.n α+Enc.n α<=xs.length * Enc.n α:=by
        have:=Nat.mul_le_mul_right (Enc.n α) (Nat.succ_le_of_lt hi); rwa [Nat.succ_mul] at this
      rw [show min (Enc.n α) (cells.length-i * Enc.n α)=Enc.n α from by omega,List.append_assoc,← List.drop_drop,List.take_append_drop,List.take_append_drop]
    rw [hsame] at h1
    refine ⟨cells,F6 b (.cells cur E' (0,0)),un hi2 rest,⟨by simpa using hcl,.inr ⟨b,cap,cur,E',by simp,rfl,by simpa using hc,hm,hs,by simpa using ht⟩⟩,?_,dd.of_l.symm.un_r dr,h1⟩
    rw [← H7,← H7,dd.of_l.comm]
end
section
variable {β:Type} [Flat β] {h r:PH} {v:Value} {xs:List β}
theorem ownL.flat{cells:List Value}(o:ownL r cells xs):r=emp/\rdL emp cells xs:=by
  induction xs generalizing r cells with
  | nil=>exact ⟨o.2,o.1⟩
  | cons x xs ih =>
    obtain ⟨c,cr,h1,h2,rfl,rfl,d,⟨rfl,hx⟩,ho⟩:=o
    obtain ⟨rfl,h3⟩:=ih ho
    exact ⟨CA1 _,c,cr,rfl,hx,h3⟩
theorem rdL.ownL{cells:List Value}(o:rdL emp cells xs):ownL emp cells xs:=by
  induction xs generalizing cells with
  | nil=>exact ⟨o,rfl⟩
  | cons x xs ih =>
    obtain ⟨c,cr,rfl,hx,ho⟩:=o
    exact ⟨c,cr,emp,emp,rfl,(CA1 _).symm,Dj.emp_l _,⟨rfl,hx⟩,ih ho⟩
theorem OD.flat(o:OD h v xs):OS 0 h emp v xs:=by
  obtain ⟨cells,hr,r,h1,rfl,d,ho⟩:=o
  obtain ⟨rfl,h3⟩:=ho.flat
  rw [AM7]; exact ⟨cells,h1,h3⟩
theorem OS.od(o:OS 0 h emp v xs):OD h v xs:=by
  obtain ⟨cells,h1,h2⟩:=o
  exact ⟨cells,h,emp,h1,(AM7 _).symm,Dj.emp_r _,h2.ownL⟩
end
section
variable {P:Program} {n:Nat} {V:Env} {w:World} {ops:Array Oper} {Q:Exit->Act->World->Prop}
def DA5[DM]{α:Type}[Deep α](P:Program)(E:TypeId)(h:PH)(v:Value)(xs:List α)(i:Nat)(ad:Addr):Prop :=
  ∀ (y:α) (u:Value) (c:List Value) (w:World) (q:PH),Deep.own q c y->u=vOf (Enc.agg α) c->Sub h w->Sub q w->Dj h q ->
    ∃ w' h' hw,(Instr.storeAt E (.pointer (some ad)) u).run P w = .ok () w'/\OD h' v (xs.set i y)/\Sub h' w'/\But hw w w'/\Dom h hw/\Dom (un h q) h'/\Sub q w'
theorem CH5{α:Type}[Enc α]{h:PH}{cs:List Value}{x:α}(h1:Enc.rd h cs x):(vOf (Enc.agg α) cs).cells.toList=cs:=by
  have hcs:=Enc.len h1
  have hone:=Enc.one h1
  cases ha:Enc.agg α
  · have h2:=Enc.sing (α:=α) ha
    match cs,hcs with
    | [c],_ =>
      have:=hone c (by simp)
      cases c <;> first | rfl | (simp [Value.oneCell'] at this)
    | [],hcs=>simp at hcs; omega
    | _ :: _ :: _,hcs=>simp at hcs; omega
  · rfl
theorem DA1[DM]{α:Type}[Deep α]{t E:TypeId}{bytes:Nat}{z:Value}{h:PH}{v:Value}{xs:List α}(hu:P.underlying t=some (.slice E))(hi:TyI P E (Enc.n α) bytes z)
    (o:OD h v xs) (i:Int) (h0:0<=i) (hl:i.toNat<xs.length) :
    ∃ ad,(∀ w,(Instr.indexAt t v (I i)).run P w = .ok (.pointer (some ad)) w)/\DA5 P E h v xs i.toNat ad:=by
  obtain ⟨cells,hr,r,⟨hcl,oc⟩,rfl,d,hol⟩:=o
  rcases oc with ⟨rfl,h1,rfl⟩ | ⟨b,cap,cur,E',rfl,rfl,hc,hm,hs,ht⟩
  · omega
  · obtain ⟨inf,hinf,hsz,_⟩:=hi.ok
    refine ⟨⟨b,i.toNat * Enc.n α,none⟩,fun w=>?_,fun y u c w q hq hu' e eq dq=>?_⟩
    · have hb:0<=i/\i<(xs.length:Int):=⟨h0,by omega⟩
      have ha:=Q5 b 0 (i.toNat * Enc.n α)
      rw [Nat.zero_add] at ha
      simp [Instr.indexAt,asIntOf,run_underlying hu,hb,sizeOf,typeInfo,hinf,hsz,ha]
    · subst hu'
      generalize i.toNat=j at hl
      have hcs:=Enc.len (Deep.ord hq)
      have hone:=Enc.one (Deep.ord hq)
      have hvc:=CH5 (Deep.ord hq)
      obtain ⟨hi',rest,c0,rfl,d2,hx',hcc,hput⟩:=hol.split j xs[j] (by simp [hl])
      have eb:Sub (F6 b (.cells cur E' (0,0))) w:=e.le (Le.un_left _ _)
      have er:Sub rest w:=(e.le (Le.un_r d)).le (Le.un_r d2)
      have dbr:Dj (F6 b (.cells cur E' (0,0))) rest:=d.of_r
      have dbq:Dj (F6 b (.cells cur E' (0,0))) q:=dq.symm.of_l.symm
      have dqr:Dj q rest:=dq.symm.of_r.of_r
      have hn:j * Enc.n α+Enc.n α<=xs.length * Enc.n α:=by
        have:=Nat.mul_le_mul_right (Enc.n α) (Nat.succ_le_of_lt hl); rwa [Nat.succ_mul] at this
      have hcap:xs.length * Enc.n α<=cap * Enc.n α:=Nat.mul_le_mul_right _ hc
      have hr:=W9 (P:=P) (w:=w) (off:=j * Enc.n α) hi hvc hcs hone (H6.1 eb) (by rw [hs,hcs]; omega)
      have hbut:But (F6 b (.cells cur E' (0,0))) w (w.setRow b (spl cur.toList (j * Enc.n α) c).toArray):=W1 _ _ _
      have hput':=hput q c y hq dqr
      have dbx:∀ o',Dj (F6 b o') (un q rest):=fun o'=>(Dj.un_r dbq dbr).box
      have eq':=eq.but hbut dbq
      refine ⟨_,un (F6 b (.cells (spl cur.toList (j * Enc.n α) c).toArray E' (0,0))) (un q rest),F6 b (.cells cur E' (0,0)),hr,⟨spl cells (j * Enc.n α) c,_,_,⟨?_,.inr ⟨b,cap,_,E',by simp,rfl,by simpa using hc,hm,?_,?_⟩⟩,rfl,dbx _,hput'⟩,
        (U9 (H6.1 eb)).un (eq'.un (er.but hbut dbr)),hbut,Dom.l _ _,fun k hk=>?_,eq'⟩
      · simp only [spl,List.length_append,List.length_take,List.length_drop,List.length_set,hcl,hcs]; omega
      · simp only [spl,List.size_toArray,List.length_append,List.length_take,List.length_drop,Array.length_toList,hcs]; omega
      · rw [List.length_set,← ht]
        have hsz:xs.length * Enc.n α<=cur.toList.length:=by have:=Array.length_toList (xs:=cur); omega
        have h2:=AQ6 (cur.toList.take (xs.length * Enc.n α)) (cur.toList.drop (xs.length * Enc.n α)) (j * Enc.n α) c (by rw [List.length_take,hcs]; omega)
        rw [List.take_append_drop] at h2
        rw [h2,List.take_append_of_le_length (by simp only [spl,List.length_append,List.length_take,List.length_drop,hcs]; omega),List.take_of_length_le]
        simp only [spl,List.length_append,List.length_take,List.length_drop,hcs]; omega
      · obtain ⟨h1,h2⟩:=M3.1 hk
        obtain ⟨h3,h4⟩:=M3.1 h1
        exact M3.2 ⟨by unfold F6 at h3 ⊢; split at h3 <;> simp_all,M3.2 ⟨h2,(M3.1 h4).2⟩⟩
theorem DN4[DM]{α:Type}[Deep α]{t E:TypeId}{bytes:Nat}{z:Value}{h:PH}{v:Value}{xs:List α}{o:Oper}{x y:Operand}(k:Nat)
    (at0:At n ops V k o (.indexAddr t x y)) (hu:P.underlying t=some (.slice E)) (hi:TyI P E (Enc.n α) bytes z)
    (hx:opd n V x=v) {i:Int} (hy:opd n V y=I i) (os:OD h v xs) (h0:0<=i) (hl:i.toNat<xs.length)
    (H:∀ ad,DA5 P E h v xs i.toNat ad->LP P n ops Q (k+1) (K4 V o.dst (.pointer (some ad))) w):LP P n ops Q k V w:=by
  obtain ⟨ad,h1,h2⟩:=DA1 hu hi os i h0 hl
  exact J1 k o at0.o at0.g (K3 at0.op hx hy (h1 _)) (H ad h2)
theorem CT0[DM]{α:Type}[Deep α]{t E ty:TypeId}{bytes:Nat}{z:Value}{h q:PH}{v u:Value}{xs ys:List α}(hu:P.underlying t=some (.slice E))(hi:TyI P E (Enc.n α) bytes z)(hp:0<Enc.n α)
    (os:OD h v xs) (e:Sub h w) (oy:OD q u ys) (eq:Sub q w) (d:Dj h q) (hm:ln xs+ln ys<=140737488355328) (hb:(ln xs+ln ys) * bytes<=140737488355328) :
    ∃ v' w' h' hw,(Builtin.append_ #[t,t] ty #[v,u]).run P w = .ok v' w'/\OD h' v' (xs++ys)/\Sub h' w'/\But hw w w'/\Dom h hw/\B1 (un h q) w.heap.size h':=by
  obtain ⟨cells,hr,r,o,rfl,d1,ho⟩:=os
  obtain ⟨news,qr,s,o2,rfl,d2,hn⟩:=oy
  have hb':(xs.length+ys.length) * bytes<=140737488355328:=by
    have h:(((xs.length+ys.length) * bytes:Nat):Int)<=140737488355328:=by
      rw [Int.natCast_mul,Int.natCast_add]; exact hb
    omega
  have rs:RS (un qr s) u ys:=OD.readf ⟨news,qr,s,o2,rfl,d2,hn⟩
  have hat:∃ a cap,u = .slice a ys.length cap/\(a=none->ys.length=0)/\∀ ad,a=some ad->∀ j c,news[j]?=some c->w.cell? (ad.add j)=some c:=by
    obtain ⟨hl2,o2⟩:=o2
    rcases o2 with ⟨rfl,h0,rfl⟩ | ⟨b,cap,cur,E',rfl,rfl,hc,hm2,hs,ht⟩
    · exact ⟨none,0,by rw [h0],fun _=>h0,fun ad h=>by cases h⟩
    · refine ⟨some ⟨b,0,none⟩,cap,rfl,(fun h=>by cases h),fun ad hh j c hj=>?_⟩
      cases hh
      have hw:=H6.1 (eq.le (Le.un_left _ _))
      rw [Q5,cell_of_row w b _ cur E' _ hw,Nat.zero_add]
      have hjl:j<ys.length * Enc.n α:=by
        have:=(List.getElem?_eq_some_iff.1 hj).1; rw [hl2] at this; exact this
      rw [← ht,List.getElem?_take,if_pos hjl] at hj
      rw [← Array.getElem?_toList]; exact hj
  obtain ⟨a,cap,rfl,hnil,hcell⟩:=hat
  obtain ⟨v',w',h',h1,h2,h3,h4,h5⟩:=BC2 (ty:=ty) hu hi hp o (e.le (Le.un_left _ _)) a ys.length cap news (hn.rd.length) hnil hcell hn.rd.one (by simp only [maxLen]; simp only [ln] at hm; omega) hb'
  have drs:Dj r s:=d.symm.of_r.symm.of_r
  have dhs:Dj hr s:=d.symm.of_l.symm.of_r
  have er:Sub r w:=e.le (Le.un_r d1)
  have es:Sub s w:=eq.le (Le.un_r d2)
  have ers:Sub (un r s) w:=er.un es
  have er':Sub (un r s) w':=ers.but h4 (d1.un_r dhs)
  refine ⟨v',w',un h' (un r s),hr,h1,⟨_,h',un r s,by rw [List.length_append]; exact h2,rfl,h5.dj (d1.un_r dhs) ers,ho.append hn drs⟩,h3.un er',h4,Dom.l _ _,fun k hk hlt=>?_⟩
  obtain ⟨k1,k2⟩:=M3.1 hk
  obtain ⟨k3,k4⟩:=M3.1 k1
  exact M3.2 ⟨h5 k k3 hlt,M3.2 ⟨k4,(M3.1 k2).2⟩⟩
theorem R3[DM]{α:Type}[Deep α]{t E:TypeId}{bytes:Nat}{z:Value}{h q:PH}{v u:Value}{xs ys:List α}{o:Oper}{s x:Operand}(k:Nat)
    (at0:At n ops V k o (.call ⟨.builtin .append,⟨[s,x]⟩,⟨[t,t]⟩⟩)) (hu:P.underlying t=some (.slice E)) (hi:TyI P E (Enc.n α) bytes z) (hp:Nat.blt 0 (Enc.n α)=true)
    (hs:opd n V s=v) (hx:opd n V x=u) (os:OD h v xs) (e:Sub h w) (oy:OD q u ys) (eq:Sub q w) (d:Dj h q)
    (hm:ln xs+ln ys<=140737488355328) (hb:(ln xs+ln ys) * bytes<=140737488355328)
    (H:∀ h' v' w' hw,OD h' v' (xs++ys)->Sub h' w'->But hw w w'->Dom h hw->B1 (un h q) w.heap.size h'->LP P n ops Q (k+1) (K4 V o.dst v') w'):LP P n ops Q k V w:=by
  obtain ⟨v',w',h',hw,h1,h2,h3,h4,h5,h6⟩:=CT0 (ty:=o.type) hu hi (by simp [Nat.blt] at hp; omega) os e oy eq d hm hb
  exact J1 k o at0.o at0.g (CH1 at0.op hs hx h1) (H h' v' w' hw h2 h3 h4 h5 h6)
def RVO{α:Type}[Deep α](h:PH)(v:Value)(x:α):Prop:=∃ cs,Deep.own h cs x/\v=vOf (Enc.agg α) cs
def AA8{α:Type}[Deep α]:PH->List Value->List α->Prop
  | h,[],[]=>h=emp
  | h,v :: vs,x :: xs=>∃ h1 h2,h=un h1 h2/\Dj h1 h2/\RVO h1 v x/\AA8 h2 vs xs
  | _,_,_=>False
theorem RVO.cells{α:Type}[Deep α]{h:PH}{v:Value}{x:α}(r:RVO h v x):Deep.own h v.cells.toList x:=by
  obtain ⟨cs,o,rfl⟩:=r; rw [CH5 (Deep.ord o)]; exact o
theorem AA8.ownL{α:Type}[Deep α]:∀ {h:PH} {vs:List Value} {xs:List α},AA8 h vs xs->ownL h (vs.flatMap (·.cells.toList)) xs/\(∀ v∈vs,v.cells.size=Enc.n α)/\vs.length=xs.length
  | h,[],[],e=>⟨⟨rfl,e⟩,by simp,rfl⟩
  | _,[],_ :: _,h=>h.elim
  | _,_ :: _,[],h=>h.elim
  | h,v :: vs,x :: xs,⟨h1,h2,e,d,r,a⟩=>by
    obtain ⟨o,b,c⟩:=a.ownL
    refine ⟨⟨_,_,h1,h2,rfl,e,d,r.cells,o⟩,fun u hu=>?_,by simp [c]⟩
    rcases List.mem_cons.1 hu with rfl | hu
    · rw [← Array.length_toList]; exact Enc.len (Deep.ord r.cells)
    · exact b u hu
theorem OD.rvo{β:Type}[Deep β]{h:PH}{v:Value}{xs:List β}(o:OD h v xs):RVO h v xs:=⟨[v],⟨v,rfl,o⟩,rfl⟩
theorem AA8.one{α:Type}[Deep α]{h:PH}{v:Value}{x:α}(r:RVO h v x):AA8 h [v] [x]:=⟨h,emp,(AM7 _).symm,Dj.emp_r _,r,rfl⟩
theorem Z9[DM]{α:Type}[Deep α]{t E:TypeId}{bytes len:Nat}{z:Value}{parts:Array (Nat×Operand)}{vs:List Value}{xs:List α}{g:PH}{o:Oper}(k:Nat)
    (at0:At n ops V k o (.buildSlice t len parts)) (hu:P.underlying t=some (.slice E)) (hi:TyI P E (Enc.n α) bytes z)
    (hp:parts.toList.map (fun p=>(p.1,opd n V p.2))=vs.zipIdx.map fun p=>(p.2,p.1)) (hl:vs.length=len) (hv:AA8 g vs xs) (eg:Sub g w) (hs:Nat.ble (len * Enc.n α) 16777216=true) (hm:Nat.ble len 140737488355328=true)
    (H:∀ h v w',Ext w w'->OD h v xs->Sub h w'->B1 g w.heap.size h->LP P n ops Q (k+1) (K4 V o.dst v) w'):LP P n ops Q k V w:=by
  obtain ⟨inf,hinf,hsz,_,hz,hzs⟩:=hi.ok
  obtain ⟨r,hc,hlx⟩:=hv.ownL
  have hs:=Nat.le_of_ble_eq_true hs
  have hm:=Nat.le_of_ble_eq_true hm
  have hfl:(vs.flatMap (·.cells.toList)).length=len * Enc.n α:=by rw [r.rd.length,← hlx,hl]
  have hfill:=BZ4 (Enc.n α) vs 0 [] ((Array.range (len * Enc.n α)).map (z.cells[· % z.cells.size]!)).toList hc (by simp) (by simp [hl])
  simp only [List.nil_append,Array.toArray_toList] at hfill
  obtain ⟨x,e,f⟩:=AK4 (w:=w) E (vs.flatMap (·.cells.toList)).toArray
  have dj:Dj (F6 w.heap.size (.cells (vs.flatMap (·.cells.toList)).toArray E (0,0))) g:=(Dj.of_fresh eg f).symm
  refine J1 k o at0.o at0.g (v := .slice (some ⟨w.heap.size,0,none⟩) len len) (w':=w.alloc (.cells (vs.flatMap (·.cells.toList)).toArray E)) ?_
    (H _ _ _ x ⟨_,_,g,⟨by rw [r.rd.length],.inr ⟨w.heap.size,len,_,_,by rw [← hlx,hl],rfl,by rw [← hlx,hl]; exact Nat.le_refl _,by simp only [maxLen]; omega,by simp [hfl],?_⟩⟩,rfl,dj,r⟩ (e.un (eg.ext x)) fun b hb hlt=>M3.2 ⟨f b hlt,hb⟩)
  · have hle:¬ (2 ^ 24<len * Enc.n α):=by omega
    simp only [execOp,at0.op,Sem.run_bind,Instr.buildSlice,run_underlying hu,Result.andThen_ok,sizeOf,typeInfo,run_program,hinf,Sem.run_pure,hsz]
    by_cases h0:len * Enc.n α=0
    · have hf0:=hfill
      have hz0:∀ g:Nat->Value,(Array.range 0).map g=#[]:=fun g=>by rw [Array.range_zero',Array.map_empty]
      rw [h0,hz0] at hf0
      simp [h0,hp,hz0,hf0,newRow]
    · simp [hle,h0,zeroValue,typeInfo,hinf,hz,hp,hfill,newRow]
  · refine List.take_of_length_le ?_
    have:xs.length=len:=by rw [← hlx,hl]
    rw [this]; simp only []; omega
end
end Go.Gv
namespace Go.Gv
open Go Go.RowKit
instance encProd {α β:Type} [Enc α] [Enc β]:Enc (α×β) where
  n:=Enc.n α+Enc.n β
  agg:=true
  rd h cs x:=∃ a b,cs=a++b/\Enc.rd h a x.1/\Enc.rd h b x.2
  len:=fun ⟨a,b,e,p,q⟩=>by subst e; rw [List.length_append,Enc.len p,Enc.len q]
  le l:=fun ⟨a,b,e,p,q⟩=>⟨a,b,e,Enc.le l p,Enc.le l q⟩
  one:=fun ⟨a,b,e,p,q⟩ c hc=>by
    subst e
    rcases List.mem_append.1 hc with hc | hc
    · exact Enc.one p c hc
    · exact Enc.one q c hc
  sing h:=by cases h
@[reducible] def Enc.via {S T:Type} [Enc T] (f:S->T):Enc S where
  n:=Enc.n T
  agg:=true
  rd h cs x:=Enc.rd h cs (f x)
  len h:=Enc.len h
  le l h:=Enc.le l h
  one h:=Enc.one h
  sing h:=by cases h
instance deepProd {α β:Type} [Deep α] [Deep β]:Deep (α×β) where
  own h cs x:=∃ a b h1 h2,cs=a++b/\h=un h1 h2/\Dj h1 h2/\Deep.own h1 a x.1/\Deep.own h2 b x.2
  ord:=fun ⟨a,b,h1,h2,e,e2,d,p,q⟩=>by
    subst e e2
    exact ⟨a,b,rfl,Enc.le (Le.un_left _ _) (Deep.ord p),Enc.le (Le.un_r d) (Deep.ord q)⟩
@[reducible] def Deep.via {S T:Type} [Deep T] (f:S->T):Deep S :=
  { Enc.via f with
    own:=fun h cs x=>Deep.own h cs (f x)
    ord:=fun h=>Deep.ord h }
section
variable {P:Program} {n:Nat} {V:Env} {w:World} {ops:Array Oper} {Q:Exit->Act->World->Prop} {K:Env->Prop}
theorem BS1{off t sz bytes:Nat}{z v:Value}{agg:Bool}{o:Oper}{p:Operand}{h:PH}{a:Addr}{cs:List Value}(hop:o.op = .load t p)(hi:TyI P t sz bytes z)(hA:AC7 P t agg)(hs1:agg=false->sz=1)
    (hp:opd n V p = .pointer (some (a.add off))) (r:AA5 h a cs) (hs:a.spot=none) (e:Sub h w) (hl:((cs.drop off).take sz).length=sz) (hv:vOf agg ((cs.drop off).take sz)=v) :
    (execOp (opd n V) o).run P w = .ok (.value v) w:=by
  have r':AA5 h (a.add off) ((cs.drop off).take sz):=fun j c hj=>by
    rw [AH8 a hs]
    have hjl:j<sz:=by have:=(List.getElem?_eq_some_iff.1 hj).1; omega
    rw [List.getElem?_take,if_pos hjl,List.getElem?_drop] at hj
    exact r _ _ hj
  have:=AL5 hi hA hs1 h e (a.add off) _ hl r'
  subst hv
  simp only [execOp,hop,hp,Instr.loadAt,Instr.sureAddr,Sem.run_bind,Sem.run_pure,Result.andThen_ok,this]
theorem AA5.spot{h:PH}{a:Addr}{cs:List Value}{c:Value}(r:AA5 h a (c :: cs)):a.spot=none:=by
  have:=r 0 c rfl
  rw [AJ6] at this
  unfold AZ6 at this
  split at this
  · split at this
    · cases this
    · rename_i hh; simpa using hh
  · cases this
theorem CJ4{off t sz bytes:Nat}{z v:Value}{agg:Bool}{o:Oper}{p:Operand}{h:PH}{a:Addr}{c:Value}{cs:List Value}(k:Nat)(at0:At n ops V k o (.load t p))(hi:TyI P t sz bytes z)(hA:AC7 P t agg)(hs1:agg=false->sz=1)
    (hp:opd n V p = .pointer (some (a.add off))) (r:AA5 h a (c :: cs)) (e:Sub h w) (hl:(((c :: cs).drop off).take sz).length=sz) (hv:vOf agg (((c :: cs).drop off).take sz)=v)
    (H:LP P n ops Q (k+1) (K4 V o.dst v) w):LP P n ops Q k V w:=J1 k o at0.o at0.g (BS1 at0.op hi hA hs1 hp r r.spot e hl hv) H
theorem BF5[DM]{off t sz bytes:Nat}{z v:Value}{agg:Bool}{o:Oper}{p:Operand}{h:PH}{a:Addr}{c:Value}{cs:List Value}(k:Nat)(at0:At n ops V k o (.load t p))(hi:TyI P t sz bytes z)(hA:AC7 P t agg)(hs1:agg=false->sz=1)
    (hp:opd n V p = .pointer (some (a.add off))) (r:AA5 h a (c :: cs)) (e:Sub h w) (hl:(((c :: cs).drop off).take sz).length=sz) (hv:vOf agg (((c :: cs).drop off).take sz)=v)
    (H:QP P n ops w K (k+1) (K4 V o.dst v)):QP P n ops w K k V:=BJ8 k o at0.o at0.g (fun _ x'=>BS1 at0.op hi hA hs1 hp r r.spot (e.ext x') hl hv) H
theorem CQ1[DM]{α:Type}[Enc α]{h:PH}{v:Value}{xs:List α}{t e:TypeId}{bytes:Nat}{z:Value}{o:Oper}{x:Operand}{lo up:Option Operand}{lv uv:Option Value}(k:Nat)(l u:Int)
    (at0:At n ops V k o (.slice t x lo up none)) (hu:P.underlying t=some (.slice e)) (hi:TyI P e (Enc.n α) bytes z)
    (hx:opd n V x=v) (hl:lo.map (opd n V)=lv) (huv:up.map (opd n V)=uv) (r:RS h v xs) (hlo:(lv=none/\l=0)∨lv=some (I l)) (hup:(uv=none/\u=(xs.length:Int))∨uv=some (I u))
    (h0:0<=l) (h1:l<=u) (h2:u<=(xs.length:Int))
    (H:∀ v',RS h v' ((xs.drop l.toNat).take (u.toNat-l.toNat))->QP P n ops w K (k+1) (K4 V o.dst v')):QP P n ops w K k V:=by
  obtain ⟨v',h3,h4⟩:=BK7 hu hi r lv uv l u hlo hup h0 h1 h2
  exact BJ8 k o at0.o at0.g (fun w' _=>CQ2 at0.op hx hl huv (h3 w')) (H v' h4)
theorem EN9{α:Type}[Enc α]{h:PH}{b:Option Addr}{len cap:Nat}{xs:List α}(r:RS h (.slice b len cap) xs):b.isNone=true->xs=[]:=fun hb=>by
  rcases r with ⟨_,e⟩ | ⟨a,c,e,_⟩
  · exact e
  · cases e; cases hb
theorem DL4{t e:TypeId}{b:Option Addr}{len cap:Nat}(ht:P.underlying t=some (.slice e))(w:World):(Op.equal t (.slice b len cap) (.slice none 0 0)).run P w = .ok b.isNone w:=by
  have h:∀ (d:Nat) (b:Option Addr),(Op.equalIn (d+1) t (.slice b len cap) (.slice none 0 0)).run P w = .ok b.isNone w:=fun d b=>by
    cases b <;> simp [Op.equalIn,run_underlying ht]
  exact h 9999 b
theorem CS1{o:Oper}{t u e:TypeId}{x y:Operand}{b:Option Addr}{len cap:Nat}(hop:o.op = .binOp .eql t x y u)(ht:P.underlying t=some (.slice e))(hx:opd n V x = .slice b len cap)(hy:opd n V y = .slice none 0 0)(w:World) :
    (execOp (opd n V) o).run P w = .ok (.value (.bool b.isNone)) w:=by
  simp only [execOp,hop,hx,hy,Sem.run_bind]
  simp [binOp,eqGuard,DL4 ht]
def b2s(xs:List B8):ByteArray:=xs.foldl (fun s x=>s.push (UInt8.ofNat x.v.toNat)) .empty
theorem EC2{src dst e:TypeId}{h:PH}{v:Value}{xs:List B8}(hs:P.underlying src=some (.slice e))(he:P.underlying e=some (.int .u8))(hd:P.underlying dst=some .string)(r:RS h v xs)(w:World)(e':Sub h w) :
    (convert src dst v).run P w = .ok (.string (b2s xs)) w:=by
  have hb:b2s xs=(xs.map (·.v)).foldl (fun r n=>r.push (UInt8.ofNat n.toNat)) ByteArray.empty:=by unfold b2s; rw [List.foldl_map]
  rcases r with ⟨rfl,rfl⟩ | ⟨a,cap,rfl,hc,hsp,hx⟩
  · rw [run_convert_bytes_string w src dst e _ _ _ hs he hd]; rfl
  · rw [run_convert_bytes_string w src dst e _ _ _ hs he hd,hb]
    refine run_bytesToString w a xs.length cap _ ?_
    have:=BJ4 (P:=P) (w:=w) a (xs.map fun x=>Value.int .u8 x.v) 0 #[] fun j c hj=>by
      rw [List.getElem?_map] at hj
      obtain ⟨x,hx1,rfl⟩:=Option.map_eq_some_iff.1 hj
      obtain ⟨cs,h1,h2⟩:=hx j x hx1
      have h2:cs=[.int .u8 x.v]:=h2
      subst h2
      have h3:=h1 0 _ rfl
      rw [AJ6,show Enc.n B8=1 from rfl,Nat.mul_one] at h3
      rw [Nat.zero_add]; exact AF2 e' h3
    rw [List.length_map] at this
    simp only [loadCells]
    rw [this]; simp
theorem EW0{o:Oper}{src dst e:TypeId}{x:Operand}{h:PH}{v:Value}{xs:List B8}(hop:o.op = .convert src dst x)(hs:P.underlying src=some (.slice e))(he:P.underlying e=some (.int .u8))(hd:P.underlying dst=some .string)(hx:opd n V x=v)(r:RS h v xs)(w:World)(e':Sub h w) :
    (execOp (opd n V) o).run P w = .ok (.value (.string (b2s xs))) w:=by
  simp only [execOp,hop,hx,Sem.run_bind,EC2 hs he hd r w e']; rfl
theorem EG8[DM]{α:Type}[Deep α]{E:TypeId}{h q:PH}{v u:Value}{xs:List α}{i:Nat}{ad:Addr}{y:α}{o:Oper}{a x:Operand}(k:Nat)
    (at0:At n ops V k o (.store E a x)) (ha:opd n V a = .pointer (some ad)) (hx:opd n V x=u)
    (wa:DA5 P E h v xs i ad) (hu:RVO q u y) (e:Sub h w) (eq:Sub q w) (d:Dj h q)
    (H:∀ h' hw w',OD h' v (xs.set i y)->Sub h' w'->But hw w w'->Dom h hw->Dom (un h q) h'->Sub q w'->LP P n ops Q (k+1) (K4 V o.dst undef) w'):LP P n ops Q k V w:=by
  obtain ⟨c,hc,huc⟩:=hu
  obtain ⟨w',h',hw,h1,h2,h3,h4,h5,h6,h7⟩:=wa y u c w q hc huc e eq d
  refine BG3 k o at0.o at0.g ?_ (H h' hw w' h2 h3 h4 h5 h6 h7)
  simp only [execOp,at0.op,ha,hx,Sem.run_bind,h1]; rfl
theorem DQ5[DM]{α:Type}[Deep α]{t E bytes:Nat}{z:Value}{x0:α}{o:Oper}{x:Operand}(k:Nat)
    (at0:At n ops V k o (.makeSlice t x x)) (hu:P.underlying t=some (.slice E)) (hi:TyI P E (Enc.n α) bytes z)
    {m:Int} (hx:opd n V x=I m) (hz0:Deep.own emp z.cells.toList x0) (h0:0<=m) (hb:(bytes:Int) * m<=140737488355328) (hm:m<=140737488355328)
    (H:∀ h v w',Ext w w'->OD h v (List.replicate m.toNat x0)->Sub h w'->B6 w.heap.size h->LP P n ops Q (k+1) (K4 V o.dst v) w'):LP P n ops Q k V w:=by
  obtain ⟨i,hinf,hsz,hby,hz,hzs⟩:=hi.ok
  have hr:=run_make (P:=P) w t E i z hu hinf hz .i64 .i64 m m h0 (Int.le_refl _) (by rw [hby]; omega) (by omega)
  rw [hsz] at hr
  obtain ⟨_,e',f'⟩:=AK4 (w:=w) E (madeCells z.cells (m.toNat * Enc.n α))
  refine J1 k o at0.o at0.g (v := .slice (some ⟨w.heap.size,0,none⟩) m.toNat m.toNat) ?_ (H (F6 w.heap.size (.cells (madeCells z.cells (m.toNat * Enc.n α)) E (0,0))) _ _ (Ext.alloc _ _) ?_ e' f')
  · simp only [execOp,at0.op,hx,Sem.run_bind,hr]; rfl
  · refine ⟨(List.replicate m.toNat z.cells.toList).flatten,_,emp,⟨?_,.inr ⟨w.heap.size,m.toNat,madeCells z.cells (m.toNat * Enc.n α),E,by simp,rfl,by simp,?_,size_madeCells _ _,?_⟩⟩,(AM7 _).symm,Dj.emp_r _,ownL.replicate _ hz0⟩
    · simp [List.length_flatten,hzs]
    · simp only [maxLen]; omega
    · rw [List.length_replicate,List.take_of_length_le (by simp [size_madeCells])]
      have:=BB2 z.cells m.toNat
      rw [hzs] at this; exact this
end
structure BwG {α β:Type} [Deep α] [Deep β] (h:PH) (v:Value) (xs:List α) (hi rest:PH) (u:Value) (x:List β) (mk:List β->List α):Prop where
  eq:h=un hi rest
  dj:Dj hi rest
  od:OD hi u x
  put:∀ hi' x',OD hi' u x'->Dj hi' rest->OD (un hi' rest) v (mk x')
section
variable {α β:Type} [Deep α] [Deep β] {h hi rest:PH} {v u:Value} {xs:List α} {x:List β} {mk:List β->List α}
theorem BwG.le(b:BwG h v xs hi rest u x mk):Le hi h:=by rw [b.eq]; exact Le.un_left _ _
theorem BwG.ler(b:BwG h v xs hi rest u x mk):Le rest h:=by rw [b.eq]; exact Le.un_r b.dj
theorem BwG.dom(b:BwG h v xs hi rest u x mk):Dom h hi := .of_le b.le
theorem BwG.turn(b:BwG h v xs hi rest u x mk){hi':PH}{x':List β}(o:OD hi' u x')(d:Dom hi hi') :
    BwG (un hi' rest) v (mk x') hi' rest u x' mk/\OD (un hi' rest) v (mk x')/\Dom h (un hi' rest):=by
  have dj:Dj hi' rest:=d.dj b.dj
  refine ⟨⟨rfl,dj,o,b.put⟩,b.put hi' x' o dj,?_⟩
  rw [b.eq]; exact Dom.un d (Dom.refl _)
theorem BwG.sub[DM]{hi':PH}{w w':World}(b:BwG h v xs hi rest u x mk)(e:Sub h w)(e':Sub hi' w')(y:But hi w w'):Sub (un hi' rest) w' :=
  e'.un ((e.le b.ler).but y b.dj)
theorem BwG.but[DM]{w w':World}(b:BwG h v xs hi rest u x mk)(y:But hi w w'):But h w w':=y.dom b.dom
end
structure Fc {α β:Type} [Deep α] [Deep β] (h:PH) (c:List Value) (x:α) (hl r:PH) (u:Value) (y:List β) (mk:List β->α):Prop where
  eq:h=un hl r
  dj:Dj hl r
  od:OD hl u y
  put:∀ hl' y',OD hl' u y'->Dj hl' r->Deep.own (un hl' r) c (mk y')
section
variable {α β γ:Type} [Deep α] [Deep β] [Deep γ] {h h1 h2 hl r:PH} {u:Value} {y:List β}
theorem Fc.here(o:OD h u y):Fc h [u] y h emp u y (fun y'=>y') :=
  ⟨(AM7 _).symm,Dj.emp_r _,o,fun hl' y' o' _=>by rw [AM7]; exact ⟨u,rfl,o'⟩⟩
theorem Fc.left{a b:List Value}{x1:α}{x2:γ}{mk:List β->α}(f:Fc h1 a x1 hl r u y mk)(o2:Deep.own h2 b x2)(d:Dj h1 h2):Fc (un h1 h2) (a++b) (x1,x2) hl (un r h2) u y (fun y'=>(mk y',x2)):=by
  obtain ⟨rfl,dj,od,put⟩:=f
  have dl:Dj hl h2:=d.symm.of_l.symm
  have dr:Dj r h2:=d.symm.of_r.symm
  refine ⟨H7 _ _ _,dj.un_r dl,od,fun hl' y' o' d'=>?_⟩
  rw [← H7]
  exact ⟨a,b,un hl' r,h2,rfl,rfl,Dj.un_l d'.of_r dr,put hl' y' o' d'.of_l,o2⟩
theorem Fc.right{a b:List Value}{x1:γ}{x2:α}{mk:List β->α}(o1:Deep.own h1 a x1)(f:Fc h2 b x2 hl r u y mk)(d:Dj h1 h2):Fc (un h1 h2) (a++b) (x1,x2) hl (un h1 r) u y (fun y'=>(x1,mk y')):=by
  obtain ⟨rfl,dj,od,put⟩:=f
  have dl:Dj h1 hl:=d.of_l
  have dr:Dj h1 r:=d.of_r
  refine ⟨by rw [← H7,← H7,dl.comm],dl.symm.un_r dj,od,fun hl' y' o' d'=>?_⟩
  have e1:Dj h1 hl':=d'.of_l.symm
  rw [← H7,← e1.comm,H7]
  exact ⟨a,b,h1,un hl' r,rfl,rfl,e1.un_r dr,o1,put hl' y' o' d'.of_r⟩
theorem Fc.via{S T:Type}[Deep T](f:S->T){c:List Value}{x:S}{mk:List β->T}{mk':List β->S}(F:Fc h c (f x) hl r u y mk)(e:∀ y',f (mk' y')=mk y') : @Fc S β (Deep.via f) _ h c x hl r u y mk' :=
  @Fc.mk S β (Deep.via f) _ h c x hl r u y mk' F.eq F.dj F.od fun hl' y' o' d'=>by
    have:=F.put hl' y' o' d'
    rw [← e] at this; exact this
theorem AQ9{δ:Type}[i:Flat δ]{c:List Value}{x:δ}(o:Deep.own h c x):h=emp/\c=Flat.enc x:=⟨o.1,Flat.flat.1 o.2⟩
theorem AR1{δ:Type}[i:Flat δ](x:δ):Deep.own emp (Flat.enc x) x:=⟨rfl,Flat.flat.2 rfl⟩
theorem Bw.fc{v:Value}{xs:List α}{i:Nat}{hi rest:PH}{c:List Value}{x:α}{mk:List β->α}(b:Bw h v xs i hi rest c x)(f:Fc hi c x hl r u y mk):BwG h v xs hl (un r rest) u y (fun y'=>xs.set i (mk y')):=by
  obtain ⟨rfl,dj,od,put⟩:=f
  have dl:Dj hl rest:=b.dj.symm.of_l.symm
  refine ⟨by rw [b.eq,H7],dj.un_r dl,od,fun hl' y' o' d'=>?_⟩
  rw [← H7]
  exact b.put _ _ (put hl' y' o' d'.of_l) (Dj.un_l d'.of_r b.dj.symm.of_r.symm)
end
section
variable {P:Program} {n:Nat} {V:Env} {w:World} {ops:Array Oper} {Q:Exit->Act->World->Prop}
theorem DM9{α:Type}[Deep α]{t E:TypeId}{bytes:Nat}{z:Value}{h:PH}{v:Value}{xs:List α}{o:Oper}{x y:Operand}(k:Nat)
    (at0:At n ops V k o (.indexAddr t x y)) (hu:P.underlying t=some (.slice E)) (hi:TyI P E (Enc.n α) bytes z)
    (hx:opd n V x=v) {i:Int} (hy:opd n V y=I i) (os:OD h v xs) {el:α} (h0:0<=i) (he:xs[i.toNat]?=some el)
    (H:∀ a c hi rest,AA5 h a c->Bw h v xs i.toNat hi rest c el->LP P n ops Q (k+1) (K4 V o.dst (.pointer (some a))) w):LP P n ops Q k V w:=by
  obtain ⟨hi',rest,c,a,b,hb,hr⟩:=os.borrow i.toNat el he
  obtain ⟨ad,cap,rfl⟩:=os.shape
  have hlt:i.toNat<xs.length:=b.lt
  cases ad with
  | none=>simp [Value.ownBlock] at hb
  | some ad =>
    have had:ad=⟨a,0,none⟩:=by
      obtain ⟨_,hr',_,⟨_,oc⟩,_⟩:=os
      rcases oc with ⟨e,_⟩ | ⟨b',cap',cur,E',e,_⟩
      · cases e
      · cases e; cases hb; rfl
    subst had
    obtain ⟨inf,hinf,hsz,_⟩:=hi.ok
    refine J1 k o at0.o at0.g (K3 at0.op hx hy ?_) (H ⟨a,i.toNat * Enc.n α,none⟩ c hi' rest hr b)
    have hb:0<=i/\i<(xs.length:Int):=⟨h0,by omega⟩
    have ha:=Q5 a 0 (i.toNat * Enc.n α)
    rw [Nat.zero_add] at ha
    simp [Instr.indexAt,asIntOf,run_underlying hu,hb,sizeOf,typeInfo,hinf,hsz] at ha ⊢
    exact ha
end
end Go.Gv
namespace Go.Gv
open Go Go.RowKit
def FB2{A B C Q:Type}(body:(A->B->C->Q->Prop)->A->B->C->Q->Prop)(a_:A)(b_:B)(c_:C)(q:Q):Prop :=
  ∃ (Sp:A->B->C->Q->Prop) (μ:A->B->C->Nat),Sp a_ b_ c_ q/\∀ a_ b_ c_ q,Sp a_ b_ c_ q->body (fun a' b' c' q'=>Sp a' b' c' q'/\μ a' b' c'<μ a_ b_ c_) a_ b_ c_ q
def FB9{A B C D E Q:Type}(body:(A->B->C->D->E->Q->Prop)->A->B->C->D->E->Q->Prop)(a_:A)(b_:B)(c_:C)(d_:D)(e_:E)(q:Q):Prop :=
  ∃ (Sp:A->B->C->D->E->Q->Prop) (μ:A->B->C->D->E->Nat),Sp a_ b_ c_ d_ e_ q/\∀ a_ b_ c_ d_ e_ q,Sp a_ b_ c_ d_ e_ q->body (fun a' b' c' d' e' q'=>Sp a' b' c' d' e' q'/\μ a' b' c' d' e'<μ a_ b_ c_ d_ e_) a_ b_ c_ d_ e_ q
def FB8{A B C D E F G Q:Type}(body:(A->B->C->D->E->F->G->Q->Prop)->A->B->C->D->E->F->G->Q->Prop)(a_:A)(b_:B)(c_:C)(d_:D)(e_:E)(f_:F)(g_:G)(q:Q):Prop :=
  ∃ (Sp:A->B->C->D->E->F->G->Q->Prop) (μ:A->B->C->D->E->F->G->Nat),Sp a_ b_ c_ d_ e_ f_ g_ q/\∀ a_ b_ c_ d_ e_ f_ g_ q,Sp a_ b_ c_ d_ e_ f_ g_ q->body (fun a' b' c' d' e' f' g' q'=>Sp a' b' c' d' e' f' g' q'/\μ a' b' c' d' e' f' g'<μ a_ b_ c_ d_ e_ f_ g_) a_ b_ c_ d_ e_ f_ g_ q
theorem B1.un{h a b:PH}{n:Nat}(x:B1 h n a)(y:B1 h n b):B1 h n (un a b):=fun k e hk=>M3.2 ⟨x k e hk,y k e hk⟩
section
variable {P:Program} {T:Ty} {n:Nat} {V:Env} {w:World} {ops:Array Oper} {Q:Exit->Act->World->Prop} {K:Env->Prop}
theorem DT4{f:FuncId}{o:Oper}{x:Operand}{args:Array Operand}{tys:Array TypeId}{N2 caps all:List Value}(hop:o.op = .call ⟨.value x,args,tys⟩)(hx:opd n V x = .func (.func f) #[] caps.toArray)(hf:B4 P f)(ha:args.toList.map (opd n V)=N2)
    (hc:N2++caps=all) (w:World):(execOp (opd n V) o).run P w = .ok (.enter f all.toArray) w:=by
  subst hc
  have:args.map (opd n V)=N2.toArray:=by rw [← ha]; apply Array.ext'; simp
  simp [execOp,hop,resolve,hx,Deferred.ofValue,invoke,this,hf (N2++caps).toArray w]
theorem CB7{f:FuncId}{o:Oper}{x:Operand}{args:Array Operand}{tys:Array TypeId}{N2 caps all:List Value}{R:Value->World->Prop}(k:Nat)(ho:ops.toList[k]?=some o)(hop:o.op = .call ⟨.value x,args,tys⟩)(hx:opd n V x = .func (.func f) #[] caps.toArray)(hg:gd n ops V o=some true)
    (hf:B4 P f) (ha:args.toList.map (opd n V)=N2) (hc:N2++caps=all) (hR:B5 P f all.toArray w R) (H:∀ v w',R v w'->LP P n ops Q (k+1) (K4 V o.dst v) w'):LP P n ops Q k V w :=
  CA9 k o ho hg (DT4 hop hx hf ha hc w) (hR.mono H)
end
def AS3{α:Type}(v:Value)(xs:List α):Prop:=∀ a l c,v = .slice a l c->a.isNone=(ln xs==0)
theorem AS3.nil{α:Type}:AS3 (.slice none 0 0) ([]:List α):=fun a l c e=>by cases e; rfl
theorem AS3.len{α:Type}{v:Value}{xs ys:List α}(h:ys.length=xs.length)(c:AS3 v xs):AS3 v ys:=fun a l k e=>by rw [c a l k e]; unfold ln; rw [h]
theorem EQ5{α:Type}[Enc α]{h:PH}{v:Value}{xs:List α}(r:RS h v xs)(hz:(0:Int)<ln xs):AS3 v xs:=fun a l c e=>by
  rcases r with ⟨rfl,rfl⟩ | ⟨a',c',rfl,_⟩
  · simp [ln] at hz
  · cases e
    have:(ln xs==0)=false:=by rw [beq_eq_false_iff_ne]; omega
    rw [this]; rfl
section
variable {P:Program} {n:Nat} {V:Env} {w:World} {ops:Array Oper} {Q:Exit->Act->World->Prop} {K:Env->Prop}
theorem DM8{o:Oper}{t u e:TypeId}{x y:Operand}{b:Option Addr}{len cap:Nat}{d:Bool}(hop:o.op = .binOp .eql t x y u)(ht:P.underlying t=some (.slice e))(hx:opd n V x = .slice b len cap)(hy:opd n V y = .slice none 0 0)(hb:b.isNone=d)(w:World) :
    (execOp (opd n V) o).run P w = .ok (.value (.bool d)) w:=by subst hb; exact CS1 hop ht hx hy w
end
end Go.Gv
namespace Go.Gv
open Go Go.RowKit
def DF3{α:Type}[Deep α](x y:α)(off:Nat)(vs:List Value):Prop:=∀ hi c,Deep.own hi c x->Deep.own hi (spl c off vs) y
def CM7[DM]{α:Type}[Deep α](P:Program)(h:PH)(v:Value)(xs:List α)(i:Nat)(x:α)(a:Addr):Prop :=
  a.spot=none/\∀ (y:α) (t sz bytes off:Nat) (z u:Value) (vs:List Value) (w:World),TyI P t sz bytes z->u.cells.toList=vs->vs.length=sz->(∀ c∈vs,c.oneCell'=true)->off+vs.length<=Enc.n α ->
    DF3 x y off vs->Sub h w->∃ w' h',(Instr.storeAt t (.pointer (some (a.add off))) u).run P w = .ok () w'/\OD h' v (xs.set i y)/\Sub h' w'/\But h w w'/\∀ n,B1 h n h'
theorem DH2{L vs:List Value}{p n off:Nat}(h1:p+n<=L.length)(h2:off+vs.length<=n):spl L (p+off) vs=spl L p (spl ((L.drop p).take n) off vs):=by
  have h3:=List.take_append_drop p L
  have h4:=List.take_append_drop n (L.drop p)
  have hx:((L.drop p).take n).length=n:=by rw [List.length_take,List.length_drop]; omega
  generalize (L.drop p).take n=X at h4 hx
  rw [List.drop_drop] at h4
  have h5:L=L.take p++(X++L.drop (p+n)):=by rw [h4,h3]
  have hp:(L.take p).length=p:=by rw [List.length_take]; omega
  generalize L.take p=A at h5 hp
  generalize L.drop (p+n)=B at h5
  rw [h5]
  simp only [spl,← hp]
  have e1:List.take (A.length+off) (A++(X++B))=A++List.take off X:=by
    rw [List.take_length_add_append,List.take_append_of_le_length (by omega)]
  have e2:List.drop (A.length+off+vs.length) (A++(X++B))=List.drop (off+vs.length) X++B:=by
    rw [Nat.add_assoc,List.drop_length_add_append,List.drop_append_of_le_length (by omega)]
  have e3:(List.take off X++vs++List.drop (off+vs.length) X).length=X.length:=by
    simp only [List.length_append,List.length_take,List.length_drop]; omega
  have e4:List.drop (A.length+(List.take off X++vs++List.drop (off+vs.length) X).length) (A++(X++B))=B:=by
    rw [e3,List.drop_length_add_append,List.drop_left]
  rw [e1,e2,e4,List.take_left]
  simp
theorem CZ0[DM]{α:Type}[Deep α]{P:Program}{t E:TypeId}{bytes:Nat}{z:Value}{h:PH}{v:Value}{xs:List α}(hu:P.underlying t=some (.slice E))(hi:TyI P E (Enc.n α) bytes z)
    (o:OD h v xs) (i:Int) (h0:0<=i) {x:α} (hx:xs[i.toNat]?=some x) :
    ∃ a,(∀ w,(Instr.indexAt t v (I i)).run P w = .ok (.pointer (some a)) w)/\CM7 P h v xs i.toNat x a:=by
  have hl:i.toNat<xs.length:=(List.getElem?_eq_some_iff.1 hx).1
  obtain ⟨cells,hr,r,⟨hcl,oc⟩,rfl,d,hol⟩:=o
  rcases oc with ⟨rfl,h1,rfl⟩ | ⟨b,cap,cur,E',rfl,rfl,hc,hm,hs,ht⟩
  · omega
  · obtain ⟨inf,hinf,hsz,_⟩:=hi.ok
    refine ⟨⟨b,i.toNat * Enc.n α,none⟩,fun w=>?_,rfl,fun y t' sz bytes' off z' u vs w hti hv hvl hone hfit hsp e=>?_⟩
    · have hb:0<=i/\i<(xs.length:Int):=⟨h0,by omega⟩
      have ha:=Q5 b 0 (i.toNat * Enc.n α)
      rw [Nat.zero_add] at ha
      simp [Instr.indexAt,asIntOf,run_underlying hu,hb,sizeOf,typeInfo,hinf,hsz,ha]
    · generalize i.toNat=j at hl hx
      obtain ⟨hi',rest,c0,rfl,d2,hx',hcc,hput⟩:=hol.split j x hx
      have eb:Sub (F6 b (.cells cur E' (0,0))) w:=e.le (Le.un_left _ _)
      have er:Sub (un hi' rest) w:=e.le (Le.un_r d)
      have hn:j * Enc.n α+Enc.n α<=xs.length * Enc.n α:=by
        have:=Nat.mul_le_mul_right (Enc.n α) (Nat.succ_le_of_lt hl); rwa [Nat.succ_mul] at this
      have hcap:xs.length * Enc.n α<=cap * Enc.n α:=Nat.mul_le_mul_right _ hc
      have hr:=W9 (P:=P) (w:=w) (off:=j * Enc.n α+off) hti hv hvl hone (H6.1 eb) (by rw [hs]; omega)
      have hbut:But (F6 b (.cells cur E' (0,0))) w (w.setRow b (spl cur.toList (j * Enc.n α+off) vs).toArray):=W1 _ _ _
      have hc0:c0=(cur.toList.drop (j * Enc.n α)).take (Enc.n α):=by
        rw [← hcc,← ht,List.drop_take,List.take_take,Nat.min_eq_left (by omega)]
      have hown:=hsp hi' c0 hx'
      have hyl:=Enc.len (Deep.ord hown)
      have hspl:spl cur.toList (j * Enc.n α+off) vs=spl cur.toList (j * Enc.n α) (spl c0 off vs):=by
        rw [hc0]; exact DH2 (by rw [Array.length_toList]; omega) hfit
      have h1:=hput hi' (spl c0 off vs) y hown d2
      have haddr:(⟨b,j * Enc.n α,none⟩:Addr).add off=⟨b,j * Enc.n α+off,none⟩:=Q5 _ _ _
      rw [haddr]
      rw [hspl] at hr hbut
      refine ⟨_,un (F6 b (.cells (spl cur.toList (j * Enc.n α) (spl c0 off vs)).toArray E' (0,0))) (un hi' rest),hr,⟨spl cells (j * Enc.n α) (spl c0 off vs),_,un hi' rest,⟨?_,.inr ⟨b,cap,_,E',by simp,rfl,by simpa using hc,hm,?_,?_⟩⟩,rfl,d.box,h1⟩,(U9 (H6.1 eb)).un (er.but hbut d),hbut.dom (Dom.l _ _),fun n=>Dom.le (Dom.un (Dom.of fun _=>AB5) (Dom.refl _)) n⟩
      · simp only [spl,List.length_append,List.length_take,List.length_drop,List.length_set] at *; omega
      · have hyl':=hyl
        generalize spl c0 off vs=q at hyl'
        simp only [spl,List.size_toArray,List.length_append,List.length_take,List.length_drop,Array.length_toList,hyl']; omega
      · rw [List.length_set,← ht]
        generalize spl c0 off vs=q at hyl
        have hcur:cur.toList.length=cap * Enc.n α:=by rw [Array.length_toList]; exact hs
        have h2:=AQ6 (cur.toList.take (xs.length * Enc.n α)) (cur.toList.drop (xs.length * Enc.n α)) (j * Enc.n α) q (by rw [List.length_take,hyl]; omega)
        rw [List.take_append_drop] at h2
        rw [h2,List.take_append_of_le_length (by simp only [spl,List.length_append,List.length_take,List.length_drop,hyl]; omega),List.take_of_length_le]
        simp only [spl,List.length_append,List.length_take,List.length_drop,hyl]; omega
section
variable {P:Program} {n:Nat} {V:Env} {w:World} {ops:Array Oper} {Q:Exit->Act->World->Prop}
theorem DN6[DM]{α:Type}[Deep α]{t E:TypeId}{bytes:Nat}{z:Value}{h:PH}{v:Value}{xs:List α}{o:Oper}{x y:Operand}(k:Nat)
    (at0:At n ops V k o (.indexAddr t x y)) (hu:P.underlying t=some (.slice E)) (hi:TyI P E (Enc.n α) bytes z)
    (hx:opd n V x=v) {i:Int} (hy:opd n V y=I i) (os:OD h v xs) (h0:0<=i) {el:α} (hl:xs[i.toNat]?=some el)
    (H:∀ a,CM7 P h v xs i.toNat el a->LP P n ops Q (k+1) (K4 V o.dst (.pointer (some a))) w):LP P n ops Q k V w:=by
  obtain ⟨a,h1,h2⟩:=CZ0 hu hi os i h0 hl
  exact J1 k o at0.o at0.g (K3 at0.op hx hy (h1 _)) (H a h2)
theorem DU2[DM]{α:Type}[Deep α]{t sz bytes off:Nat}{z:Value}{h:PH}{v:Value}{xs:List α}{i:Nat}{a:Addr}{x y:α}{u:Value}{vs:List Value}{o:Oper}{p q:Operand}(k:Nat)
    (at0:At n ops V k o (.store t p q)) (hi:TyI P t sz bytes z) (ha:opd n V p = .pointer (some (a.add off))) (hx:opd n V q=u) (hv:u.cells.toList=vs) (hl:vs.length=sz) (hone:vs.all (·.oneCell')=true)
    (ft:DF3 x y off vs) (fa:CM7 P h v xs i x a) (e:Sub h w) (hfit:Nat.ble (off+vs.length) (Enc.n α)=true)
    (H:∀ h' w',OD h' v (xs.set i y)->Sub h' w'->But h w w'->(∀ n,B1 h n h')->LP P n ops Q (k+1) (K4 V o.dst undef) w'):LP P n ops Q k V w:=by
  obtain ⟨w',h',h1,h2,h3,h4,h5⟩:=fa.2 y t sz bytes off z u vs w hi hv hl (fun c hc=>List.all_eq_true.1 hone c hc) (Nat.le_of_ble_eq_true hfit) ft e
  refine BG3 k o at0.o at0.g ?_ (H h' w' h2 h3 h4 h5)
  simp only [execOp,at0.op,ha,hx,Sem.run_bind,h1]; rfl
theorem FC2{a:Addr}(hs:a.spot=none)(o1 o2:Nat):Value.pointer (some ((a.add o1).add o2)) = .pointer (some (a.add (o1+o2))):=by rw [AH8 a hs]
theorem DN8[DM]{α:Type}[Deep α]{t sz bytes o1 o2:Nat}{z:Value}{h:PH}{v:Value}{xs:List α}{i:Nat}{a:Addr}{x y:α}{u:Value}{vs:List Value}{o:Oper}{p q:Operand}(k:Nat)
    (at0:At n ops V k o (.store t p q)) (hi:TyI P t sz bytes z) (ha:opd n V p = .pointer (some ((a.add o1).add o2))) (hx:opd n V q=u) (hv:u.cells.toList=vs) (hl:vs.length=sz) (hone:vs.all (·.oneCell')=true)
    (ft:DF3 x y (o1+o2) vs) (fa:CM7 P h v xs i x a) (e:Sub h w) (hfit:Nat.ble (o1+o2+vs.length) (Enc.n α)=true)
    (H:∀ h' w',OD h' v (xs.set i y)->Sub h' w'->But h w w'->(∀ n,B1 h n h')->LP P n ops Q (k+1) (K4 V o.dst undef) w'):LP P n ops Q k V w :=
  DU2 k at0 hi (ha.trans (FC2 fa.1 o1 o2)) hx hv hl hone ft fa e hfit H
end
theorem AA8.nil{α:Type}[Deep α]:AA8 emp ([]:List Value) ([]:List α):=rfl
theorem AA8.cons{α:Type}[Deep α]{h1 h2:PH}{v:Value}{vs:List Value}{x:α}{xs:List α}(r:RVO h1 v x)(a:AA8 h2 vs xs)(d:Dj h1 h2):AA8 (un h1 h2) (v :: vs) (x :: xs):=⟨h1,h2,rfl,d,r,a⟩
theorem Dj.eqv{U t y:PH}(h:U=t)(d:Dj t y):Dj U y:=h ▸ d
theorem Dom.eqv{U t y:PH}(h:U=t)(d:Dom t y):Dom U y:=h ▸ d
theorem B1.eqv{U t M:PH}{n:Nat}(h:U=t)(d:B1 M n t):B1 M n U:=h ▸ d
theorem B6.eqv{U t:PH}{n:Nat}(h:U=t)(d:B6 n t):B6 n U:=h ▸ d
theorem bb2{A1 A2 Z:Prop}(k:A1->A2->Z):A1/\A2->Z:=fun h=>k h.1 h.2
theorem bb4{A1 A2 A3 A4 Z:Prop}(k:A1->A2->A3->A4->Z):A1/\A2/\A3/\A4->Z:=fun h=>k h.1 h.2.1 h.2.2.1 h.2.2.2
theorem bb5{A1 A2 A3 A4 A5 Z:Prop}(k:A1->A2->A3->A4->A5->Z):A1/\A2/\A3/\A4/\A5->Z:=fun h=>k h.1 h.2.1 h.2.2.1 h.2.2.2.1 h.2.2.2.2
theorem bb6{A1 A2 A3 A4 A5 A6 Z:Prop}(k:A1->A2->A3->A4->A5->A6->Z):A1/\A2/\A3/\A4/\A5/\A6->Z:=fun h=>k h.1 h.2.1 h.2.2.1 h.2.2.2.1 h.2.2.2.2.1 h.2.2.2.2.2
theorem bb7{A1 A2 A3 A4 A5 A6 A7 Z:Prop}(k:A1->A2->A3->A4->A5->A6->A7->Z):A1/\A2/\A3/\A4/\A5/\A6/\A7->Z:=fun h=>k h.1 h.2.1 h.2.2.1 h.2.2.2.1 h.2.2.2.2.1 h.2.2.2.2.2.1 h.2.2.2.2.2.2
theorem bb8{A1 A2 A3 A4 A5 A6 A7 A8 Z:Prop}(k:A1->A2->A3->A4->A5->A6->A7->A8->Z):A1/\A2/\A3/\A4/\A5/\A6/\A7/\A8->Z:=fun h=>k h.1 h.2.1 h.2.2.1 h.2.2.2.1 h.2.2.2.2.1 h.2.2.2.2.2.1 h.2.2.2.2.2.2.1 h.2.2.2.2.2.2.2
theorem bb9{A1 A2 A3 A4 A5 A6 A7 A8 A9 Z:Prop}(k:A1->A2->A3->A4->A5->A6->A7->A8->A9->Z):A1/\A2/\A3/\A4/\A5/\A6/\A7/\A8/\A9->Z:=fun h=>k h.1 h.2.1 h.2.2.1 h.2.2.2.1 h.2.2.2.2.1 h.2.2.2.2.2.1 h.2.2.2.2.2.2.1 h.2.2.2.2.2.2.2.1 h.2.2.2.2.2.2.2.2
abbrev sl{α:Type}(a:Option Addr)(xs:List α)(c:Nat):Value := .slice a xs.length c
abbrev pb(b:Nat):Value := .pointer (some ⟨b,0,none⟩)
end Go.Gv
namespace Go.Gv
open Go Go.RowKit
structure Fs {α β:Type} [Deep α] [Deep β] (h:PH) (c:List Value) (x:α) (hl r:PH) (u:Value) (y:List β) (off:Nat) (mk:List β->α):Prop where
  eq:h=un hl r
  dj:Dj hl r
  od:OD hl u y
  fit:off+1<=c.length
  put:∀ hl' u' y',OD hl' u' y'->Dj hl' r->Deep.own (un hl' r) (spl c off [u']) (mk y')
section
variable {α β γ:Type} [Deep α] [Deep β] [Deep γ] {h h1 h2 hl r:PH} {u:Value} {y:List β} {off:Nat}
theorem Fs.here(o:OD h u y):Fs h [u] y h emp u y 0 (fun y'=>y') :=
  ⟨(AM7 _).symm,Dj.emp_r _,o,Nat.le_refl _,fun hl' u' y' o' _=>by rw [AM7]; exact ⟨u',rfl,o'⟩⟩
theorem Fs.right{a b:List Value}{x1:γ}{x2:α}{mk:List β->α}(o1:Deep.own h1 a x1)(f:Fs h2 b x2 hl r u y off mk)(d:Dj h1 h2){n:Nat}(hn:n=a.length+off):Fs (un h1 h2) (a++b) (x1,x2) hl (un h1 r) u y n (fun y'=>(x1,mk y')):=by
  subst hn
  obtain ⟨rfl,dj,od,fit,put⟩:=f
  have dl:Dj h1 hl:=d.of_l
  have dr:Dj h1 r:=d.of_r
  refine ⟨by rw [← H7,← H7,dl.comm],dl.symm.un_r dj,od,by rw [List.length_append]; omega,fun hl' u' y' o' d'=>?_⟩
  have e1:Dj h1 hl':=d'.of_l.symm
  have es:spl (a++b) (a.length+off) [u']=a++spl b off [u']:=by
    unfold spl
    rw [List.take_length_add_append,Nat.add_assoc,List.drop_length_add_append]; simp
  rw [← H7,← e1.comm,H7,es]
  exact ⟨a,_,h1,un hl' r,rfl,rfl,e1.un_r dr,o1,put hl' u' y' o' d'.of_r⟩
theorem Fs.via{S T:Type}[Deep T](f:S->T){c:List Value}{x:S}{mk:List β->T}{mk':List β->S}(F:Fs h c (f x) hl r u y off mk)(e:∀ y',f (mk' y')=mk y') : @Fs S β (Deep.via f) _ h c x hl r u y off mk' :=
  @Fs.mk S β (Deep.via f) _ h c x hl r u y off mk' F.eq F.dj F.od F.fit fun hl' u' y' o' d'=>by
    have:=F.put hl' u' y' o' d'
    rw [← e] at this; exact this
end
structure Hb [DM] {α:Type} [Deep α] (P:Program) (h:PH) (v:Value) (xs:List α) (i:Nat) (x:α) (hi rest:PH) (c:List Value) (a:Addr):Prop where
  eq:h=un hi rest
  dj:Dj hi rest
  own:Deep.own hi c x
  rd:AA5 rest a c
  spot:a.spot=none
  fill:∀ (hi':PH) (off t sz bytes:Nat) (z u:Value) (vs:List Value) (y:α) (w:World),TyI P t sz bytes z->u.cells.toList=vs->vs.length=sz->(∀ c∈vs,c.oneCell'=true)->off+vs.length<=Enc.n α ->
    Deep.own hi' (spl c off vs) y->Dj hi' rest->Sub rest w->Sub hi' w ->
    ∃ w' rest',(Instr.storeAt t (.pointer (some (a.add off))) u).run P w = .ok () w'/\OD (un hi' rest') v (xs.set i y)/\Sub rest' w'/\Sub hi' w'/\But rest w w'/\∀ n,B1 rest n rest'
theorem CW4[DM]{α:Type}[Deep α]{P:Program}{t E:TypeId}{bytes:Nat}{z:Value}{h:PH}{v:Value}{xs:List α}(hu:P.underlying t=some (.slice E))(hi:TyI P E (Enc.n α) bytes z)
    (o:OD h v xs) (i:Int) (h0:0<=i) {x:α} (hx:xs[i.toNat]?=some x) :
    ∃ a c hi rest,(∀ w,(Instr.indexAt t v (I i)).run P w = .ok (.pointer (some a)) w)/\Hb P h v xs i.toNat x hi rest c a:=by
  have hl:i.toNat<xs.length:=(List.getElem?_eq_some_iff.1 hx).1
  obtain ⟨cells,hr,r,⟨hcl,oc⟩,rfl,d,hol⟩:=o
  rcases oc with ⟨rfl,h1,rfl⟩ | ⟨b,cap,cur,E',rfl,rfl,hc,hm,hs,ht⟩
  · omega
  · obtain ⟨inf,hinf,hsz,_⟩:=hi.ok
    have hia:∀ w,(Instr.indexAt t (.slice (some ⟨b,0,none⟩) xs.length cap) (I i)).run P w = .ok (.pointer (some ⟨b,i.toNat * Enc.n α,none⟩)) w:=fun w=>by
      have hb:0<=i/\i<(xs.length:Int):=⟨h0,by omega⟩
      have ha:=Q5 b 0 (i.toNat * Enc.n α)
      rw [Nat.zero_add] at ha
      simp [Instr.indexAt,asIntOf,run_underlying hu,hb,sizeOf,typeInfo,hinf,hsz,ha]
    generalize i.toNat=j at hl hx hia
    obtain ⟨hi',rest,c0,rfl,d2,hx',hcc,hput⟩:=hol.split j x hx
    have hn:j * Enc.n α+Enc.n α<=xs.length * Enc.n α:=by
      have:=Nat.mul_le_mul_right (Enc.n α) (Nat.succ_le_of_lt hl); rwa [Nat.succ_mul] at this
    have hcap:xs.length * Enc.n α<=cap * Enc.n α:=Nat.mul_le_mul_right _ hc
    have dl:=d.of_l
    have dr:=d.of_r
    have hlc:=Enc.len (Deep.ord hx')
    refine ⟨_,c0,hi',un (F6 b (.cells cur E' (0,0))) rest,hia,⟨by rw [← H7,← H7,dl.comm],dl.symm.un_r d2,hx',?_,rfl,fun hi2 off t' sz bytes' z' u vs y w hti hv hvl hone hfit hown dj2 e e2=>?_⟩⟩
    · refine AA5.le (Le.un_left _ _) fun k u hj=>?_
      have hjl:k<c0.length:=(List.getElem?_eq_some_iff.1 hj).1
      rw [Q5]
      simp only [AZ6,F6,if_true,Option.isSome_none,Bool.false_eq_true,if_false]
      rw [← hcc,List.getElem?_take,if_pos (by omega),List.getElem?_drop,← ht,List.getElem?_take,if_pos (by omega)] at hj
      rw [← Array.getElem?_toList]; exact hj
    · have eb:Sub (F6 b (.cells cur E' (0,0))) w:=e.le (Le.un_left _ _)
      have er:Sub rest w:=e.le (Le.un_r dr)
      have hr:=W9 (P:=P) (w:=w) (off:=j * Enc.n α+off) hti hv hvl hone (H6.1 eb) (by rw [hs]; omega)
      have hbut:But (F6 b (.cells cur E' (0,0))) w (w.setRow b (spl cur.toList (j * Enc.n α+off) vs).toArray):=W1 _ _ _
      have hc0:c0=(cur.toList.drop (j * Enc.n α)).take (Enc.n α):=by
        rw [← hcc,← ht,List.drop_take,List.take_take,Nat.min_eq_left (by omega)]
      have hyl:=Enc.len (Deep.ord hown)
      have hspl:spl cur.toList (j * Enc.n α+off) vs=spl cur.toList (j * Enc.n α) (spl c0 off vs):=by
        rw [hc0]; exact DH2 (by rw [Array.length_toList]; omega) hfit
      have h1:=hput hi2 (spl c0 off vs) y hown dj2.of_r
      have haddr:(⟨b,j * Enc.n α,none⟩:Addr).add off=⟨b,j * Enc.n α+off,none⟩:=Q5 _ _ _
      rw [haddr]
      rw [hspl] at hr hbut
      have dbx:Dj (F6 b (.cells (spl cur.toList (j * Enc.n α) (spl c0 off vs)).toArray E' (0,0))) (un hi2 rest):=(Dj.un_r dj2.of_l.symm dr).box
      refine ⟨_,un (F6 b (.cells (spl cur.toList (j * Enc.n α) (spl c0 off vs)).toArray E' (0,0))) rest,hr,⟨spl cells (j * Enc.n α) (spl c0 off vs),F6 b (.cells (spl cur.toList (j * Enc.n α) (spl c0 off vs)).toArray E' (0,0)),un hi2 rest,⟨?_,.inr ⟨b,cap,_,E',by simp,rfl,by simpa using hc,hm,?_,?_⟩⟩,?_,dbx,h1⟩,(U9 (H6.1 eb)).un (er.but hbut dr),e2.but hbut dj2.of_l.symm,hbut.dom (Dom.l _ _),fun n=>Dom.le (Dom.un (Dom.of fun _=>AB5) (Dom.refl _)) n⟩
      · simp only [spl,List.length_append,List.length_take,List.length_drop,List.length_set] at *; omega
      · have hyl':=hyl
        generalize spl c0 off vs=q at hyl'
        simp only [spl,List.size_toArray,List.length_append,List.length_take,List.length_drop,Array.length_toList,hyl']; omega
      · rw [List.length_set,← ht]
        generalize spl c0 off vs=q at hyl
        have hcur:cur.toList.length=cap * Enc.n α:=by rw [Array.length_toList]; exact hs
        have h2:=AQ6 (cur.toList.take (xs.length * Enc.n α)) (cur.toList.drop (xs.length * Enc.n α)) (j * Enc.n α) q (by rw [List.length_take,hyl]; omega)
        rw [List.take_append_drop] at h2
        rw [h2,List.take_append_of_le_length (by simp only [spl,List.length_append,List.length_take,List.length_drop,hyl]; omega),List.take_of_length_le]
        simp only [spl,List.length_append,List.length_take,List.length_drop,hyl]; omega
      · have dd:=(Dj.un_l (h:=hi2) dbx.of_l (Dj.emp_l _))
        rw [← H7,← H7,(dbx.of_l).comm]
theorem DB0{α:Type}[Deep α]{P:Program}{t E:TypeId}{bytes:Nat}{z:Value}{h:PH}{v:Value}{xs:List α}(hu:P.underlying t=some (.slice E))(hi:TyI P E (Enc.n α) bytes z)
    (os:OD h v xs) (i:Int) (h0:0<=i) {el:α} (he:xs[i.toNat]?=some el) :
    ∃ a c hi rest,(∀ w,(Instr.indexAt t v (I i)).run P w = .ok (.pointer (some a)) w)/\AA5 h a c/\Bw h v xs i.toNat hi rest c el:=by
  obtain ⟨hi',rest,c,a,b,hb,hr⟩:=os.borrow i.toNat el he
  obtain ⟨ad,cap,rfl⟩:=os.shape
  have hlt:i.toNat<xs.length:=b.lt
  cases ad with
  | none=>simp [Value.ownBlock] at hb
  | some ad =>
    have had:ad=⟨a,0,none⟩:=by
      obtain ⟨_,hr',_,⟨_,oc⟩,_⟩:=os
      rcases oc with ⟨e,_⟩ | ⟨b',cap',cur,E',e,_⟩
      · cases e
      · cases e; cases hb; rfl
    subst had
    obtain ⟨inf,hinf,hsz,_⟩:=hi.ok
    refine ⟨⟨a,i.toNat * Enc.n α,none⟩,c,hi',rest,fun w=>?_,hr,b⟩
    have hb:0<=i/\i<(xs.length:Int):=⟨h0,by omega⟩
    have ha:=Q5 a 0 (i.toNat * Enc.n α)
    rw [Nat.zero_add] at ha
    simp [Instr.indexAt,asIntOf,run_underlying hu,hb,sizeOf,typeInfo,hinf,hsz] at ha ⊢
    exact ha
structure EL8 [DM] {α β:Type} [Deep α] [Deep β] (P:Program) (q:PH) (v:Value) (a:Addr) (off:Nat) (L:List β->List α):Prop where
  fill:∀ (hl':PH) (u':Value) (y':List β) (t bytes:Nat) (z:Value) (w:World),TyI P t 1 bytes z->u'.cells.toList=[u']->u'.oneCell'=true->OD hl' u' y'->Dj hl' q->Sub q w->Sub hl' w ->
    ∃ w' q',(Instr.storeAt t (.pointer (some (a.add off))) u').run P w = .ok () w'/\OD (un hl' q') v (L y')/\Sub q' w'/\Sub hl' w'/\But q w w'/\∀ n,B1 q n q'
theorem EL8.of[DM]{α β:Type}[Deep α][Deep β]{P:Program}{h:PH}{v:Value}{xs:List α}{i:Nat}{x:α}{hi rest:PH}{c:List Value}{a:Addr}{hl r:PH}{u:Value}{y:List β}{off:Nat}{mk:List β->α}
    (b:Hb P h v xs i x hi rest c a) (f:Fs hi c x hl r u y off mk) :
    EL8 P (un r rest) v a off (fun y'=>xs.set i (mk y'))/\Le hl h/\Le (un r rest) h/\Dj hl (un r rest)/\OD hl u y/\Le rest h:=by
  have hlen:=Enc.len (Deep.ord b.own)
  obtain ⟨rfl,fdj,od,fit,put⟩:=f
  have d1:Dj hl rest:=b.dj.symm.of_l.symm
  have d2:Dj r rest:=b.dj.symm.of_r.symm
  have e:h=un hl (un r rest):=by rw [b.eq,H7]
  refine ⟨⟨fun hl' u' y' t bytes z w hti hv h1 o d eq el=>?_⟩,by rw [e]; exact Le.un_left _ _,by rw [e]; exact Le.un_r (fdj.un_r d1),fdj.un_r d1,od,by rw [b.eq]; exact Le.un_r b.dj⟩
  have er:Sub r w:=eq.le (Le.un_left _ _)
  have es:Sub rest w:=eq.le (Le.un_r d2)
  obtain ⟨w',rest',g1,g2,g3,g4,g5,g6⟩:=b.fill (un hl' r) off t 1 bytes z u' [u'] (mk y') w hti hv rfl (fun c hc=>by rw [List.mem_singleton.1 hc]; exact h1) (by simp only [List.length_singleton]; omega) (put hl' u' y' o d.of_l) (Dj.un_l d.of_r d2) es (el.un er)
  refine ⟨w',un r rest',g1,by rw [← H7]; exact g2,?_,g4.le (Le.un_left _ _),g5.dom (Dom.r _ _),fun n=>B1.un (fun k e _=>(M3.1 e).1) (fun k e hk=>g6 n k (M3.1 e).2 hk)⟩
  exact (g4.le (Le.un_r d.of_l)).un g3
section
variable {P:Program} {n:Nat} {V:Env} {w:World} {ops:Array Oper} {Q:Exit->Act->World->Prop}
theorem DM5[DM]{α:Type}[Deep α]{t E:TypeId}{bytes:Nat}{z:Value}{h:PH}{v:Value}{xs:List α}{o:Oper}{x y:Operand}(k:Nat)
    (at0:At n ops V k o (.indexAddr t x y)) (hu:P.underlying t=some (.slice E)) (hi:TyI P E (Enc.n α) bytes z)
    (hx:opd n V x=v) {i:Int} (hy:opd n V y=I i) (os:OD h v xs) (h0:0<=i) {el:α} (hl:xs[i.toNat]?=some el)
    (H:∀ a c hi rest,(∀ w,(Instr.indexAt t v (I i)).run P w = .ok (.pointer (some a)) w)->Hb P h v xs i.toNat el hi rest c a->LP P n ops Q (k+1) (K4 V o.dst (.pointer (some a))) w):LP P n ops Q k V w:=by
  obtain ⟨a,c,hi',rest,h1,h2⟩:=CW4 hu hi os i h0 hl
  exact J1 k o at0.o at0.g (K3 at0.op hx hy (h1 _)) (H a c hi' rest h1 h2)
theorem EG7[DM]{α β:Type}[Deep α][Deep β]{t bytes off:Nat}{z:Value}{q hl':PH}{v u':Value}{a:Addr}{L:List β->List α}{y':List β}{o:Oper}{p x:Operand}(k:Nat)
    (at0:At n ops V k o (.store t p x)) (hi:TyI P t 1 bytes z) (ha:opd n V p = .pointer (some (a.add off))) (hx:opd n V x=u') (hv:u'.cells.toList=[u']) (hone:u'.oneCell'=true)
    (hh:EL8 P q v a off L) (od:OD hl' u' y') (d:Dj hl' q) (eq:Sub q w) (el:Sub hl' w)
    (H:∀ q' w',OD (un hl' q') v (L y')->Sub (un hl' q') w'->But q w w'->(∀ n,B1 q n q')->Sub hl' w'->LP P n ops Q (k+1) (K4 V o.dst undef) w'):LP P n ops Q k V w:=by
  obtain ⟨w',q',h1,h2,h3,h4,h5,h6⟩:=hh.fill hl' u' y' t bytes z w hi hv hone od d eq el
  refine BG3 k o at0.o at0.g ?_ (H q' w' h2 (h4.un h3) h5 h6 h4)
  simp only [execOp,at0.op,ha,hx,Sem.run_bind,h1]; rfl
end
end Go.Gv
namespace Go.Gv
open Go Go.RowKit Go.ChangeShapes Go.WideShapes Go.ChangeAt
def pw(w:World):PH:=fun b=>w.heap[b]?
theorem CZ5(w:World):Sub (pw w) w:=fun _ _ h=>h
theorem DQ6{w:World}{a:Addr}{v:Value}(h:w.cell? a=some v):AZ6 (pw w) a=some v:=h
class Wf (α:Type) where
  wf:α->Prop
instance:Wf Int:=⟨fun x => -9223372036854775808<=x/\x<=9223372036854775807⟩
instance:Wf Bool:=⟨fun _=>True⟩
instance:Wf ByteArray:=⟨fun x=>x.size<=maxLen⟩
instance:Wf B8:=⟨fun x=>0<=x.v/\x.v<=255⟩
instance {α:Type} [Wf α]:Wf (List α):=⟨fun xs=>xs.length<=maxLen/\∀ x∈xs,Wf.wf x⟩
structure CZ7 (P:Program) (t:TypeId) (α:Type) [Enc α] [Wf α]:Prop where
  sz:P.cellsOf t=Enc.n α
  rd:∀ {H:Type} {enc:TypeId×Value->H} {w:World} {base:Nat} {spare:Nat->Bool} {held:Bool} {fuel:Nat} {cs:List Value} {x:DataW H×List MemPlace},
    DataW.trod enc P w base spare held fuel t cs=some x->∃ y:α,Enc.rd (pw w) cs y/\Wf.wf y
  shape:∀ {w:World} {r:Reach} {base:Nat} {v:Value},Value.okWide P w r base t v->v=vOf (Enc.agg α) v.cells.toList
section
variable {P:Program} {t:TypeId} {H:Type} {enc:TypeId×Value->H} {W:World} {r:Reach} {b0 base:Nat} {spare:Nat->Bool} {held:Bool} {v:Value} {d:DataW H} {ps:List MemPlace}
theorem CZ7.open{α:Type}[Enc α][Wf α](o:CZ7 P t α)(hval:Value.okWide P W r b0 t v)(h:DataW.Trod enc P W base spare held t v d ps):∃ y:α,RV (pw W) v y/\Wf.wf y:=by
  obtain ⟨fuel,hf⟩:=h
  obtain ⟨y,h1,h2⟩:=o.rd hf
  exact ⟨y,⟨_,h1,o.shape hval⟩,h2⟩
theorem CU1(h:DataW.Trod enc P W base spare held t v d ps):∀ x∈ps,x.block<W.heap.size:=by
  obtain ⟨m,hm⟩:=h; exact DataW.trod_lt m _ _ _ hm
theorem EU8(ht:P.underlying t=some (.int .u8))(hs:P.cellsOf t=1):CZ7 P t B8 where
  sz:=hs
  rd h:=by
    obtain ⟨n,rfl,_,hw⟩:=DataW.trod_int ht h
    exact ⟨⟨n⟩,rfl,bounds_u8 hw⟩
  shape h:=by obtain ⟨n,rfl⟩:=okWide_int ht h; rfl
theorem DJ3{α:Type}{p:Nat->α->Prop}:∀ {n:Nat},(∀ i,i<n->∃ y,p i y)->∃ ys:List α,ys.length=n/\∀ i y,ys[i]?=some y->p i y
  | 0,_=>⟨[],rfl,fun i y h=>by simp at h⟩
  | n+1,h=>by
    obtain ⟨ys,h1,h2⟩:=DJ3 (n:=n) fun i hi=>h i (by omega)
    obtain ⟨y,hy⟩:=h n (by omega)
    refine ⟨ys++[y],by simp [h1],fun i z hz=>?_⟩
    by_cases hi:i<n
    · rw [List.getElem?_append_left (by omega)] at hz; exact h2 i z hz
    · have hlt:=(List.getElem?_eq_some_iff.1 hz).1
      rw [List.length_append] at hlt
      simp at hlt
      have:i=ys.length:=by omega
      subst this
      rw [List.getElem?_append_right (by omega)] at hz
      simp at hz; subst hz; rw [h1]; exact hy
theorem DP2{w:World}{base n:Nat}{a:Addr}{cs:List Value}(h:w.cells? base a n=some cs)(j:Nat)(c:Value)(hj:cs[j]?=some c):w.cell? (a.add j)=some c:=by
  unfold World.cells? at h
  split at h
  · have hlen:cs.length=n:=by simpa using mapM_some_length h
    have hjn:j<n:=by have:=(List.getElem?_eq_some_iff.1 hj).1; omega
    have:=mapM_some_get h j j (by simp [hjn])
    rw [this,hj]
  · cases h
theorem DL6{α:Type}[Enc α][Wf α]{e:TypeId}(ht:P.underlying t=some (.slice e))(hs:P.cellsOf t=1)(o:CZ7 P e α)(hp:0<Enc.n α):CZ7 P t (List α) where
  sz:=hs
  shape h:=by obtain ⟨a,l,c,rfl⟩:=okWide_slice ht h; rfl
  rd {H enc w base spare held fuel cs x} h:=by
    rcases DataW.trod_slice ht h with ⟨rfl,_⟩ | ⟨a,len,cap,elems,rest,n,_,rfl,_,hb,hl,hm,hlen,hel,_,_⟩
    · exact ⟨[],⟨_,rfl,.inl ⟨rfl,rfl⟩⟩,Nat.zero_le _,fun x hx=>by simp at hx⟩
    · have each:∀ i,i<len->∃ y:α,(∃ cs,AA5 (pw w) (a.add (i * Enc.n α)) cs/\Enc.rd (pw w) cs y)/\Wf.wf y:=fun i hi=>by
        have h1:=hel i hi
        have h2:elems[i]?=some elems[i]:=by simp [show i<elems.length by omega]
        rw [h2] at h1
        obtain ⟨cs,hc,ht'⟩:=Option.bind_eq_some_iff.1 h1
        obtain ⟨y,hy,hw⟩:=o.rd ht'
        rw [o.sz] at hc
        exact ⟨y,⟨cs,fun j c hj=>DQ6 (DP2 hc j c hj),hy⟩,hw⟩
      obtain ⟨ys,h1,h2⟩:=DJ3 each
      refine ⟨ys,⟨_,rfl,.inr ⟨a,cap,by rw [h1],by omega,?_,fun i x hx=>(h2 i x hx).1⟩⟩,by omega,fun x hx=>?_⟩
      · cases ys with
        | nil=>exact .inl rfl
        | cons y ys =>
          right
          obtain ⟨⟨cs,hr,hd⟩,_⟩:=h2 0 y rfl
          have hcl:=Enc.len hd
          have:=hr 0 cs[0] (by simp [show 0<cs.length by omega])
          rw [Nat.zero_mul,AJ6,AJ6] at this
          exact World.cell?_spot (AF2 (CZ5 w) this)
      · obtain ⟨i,hi,rfl⟩:=List.mem_iff_getElem.1 hx
        exact (h2 i ys[i] (by simp [hi])).2
end
end Go.Gv
namespace Go.Gv
open Go Go.RowKit
def OT{α:Type}[Flat α](h:PH)(v:Value)(xs:List α):Prop :=
  ∃ cells,cells.length=xs.length * Enc.n α/\rdL emp cells xs/\((v = .slice none 0 0/\xs=[]/\h=emp) ∨
   ∃ b off cap cur E',v = .slice (some ⟨b,off,none⟩) xs.length cap/\h=F6 b (.cells cur E' (0,0))/\xs.length<=cap/\cap<=maxLen/\off+cap * Enc.n α<=cur.size /\
     (cur.toList.drop off).take (xs.length * Enc.n α)=cells)
theorem rdL.fl{α:Type}[Flat α]{g g':PH}{xs:List α}{cells:List Value}(r:rdL g cells xs):rdL g' cells xs:=by
  induction xs generalizing cells with
  | nil=>exact r
  | cons x xs ih=>obtain ⟨c,r',h1,h2,h3⟩:=r; exact ⟨c,r',h1,Flat.flat.2 (Flat.flat.1 h2),ih h3⟩
section
variable {α:Type} [Flat α] {E:TypeId} {h g:PH} {v:Value} {xs:List α}
theorem OS.ot(o:OS E h g v xs):OT h v xs:=by
  obtain ⟨cells,⟨hl,o⟩,r⟩:=o.flat (g':=emp)
  refine ⟨cells,hl,r,?_⟩
  rcases o with ⟨rfl,h0,rfl⟩ | ⟨b,cap,cur,E',rfl,rfl,hc,hm,hs,ht⟩
  · exact .inl ⟨rfl,List.eq_nil_of_length_eq_zero h0,rfl⟩
  · exact .inr ⟨b,0,cap,cur,E',rfl,rfl,hc,hm,by omega,by simpa using ht⟩
end
section
variable {P:Program} {w:World}
theorem BS4(w:World)(t ty e e':TypeId)(i:TypeInfo)(ht:P.underlying t=some (.slice e))(hi:P.info? e=some i)
    (g off sLen sCap:Nat) (cur:Array Value) (hg:w.heap[g]?=some (.cells cur e' (0,0)))
    (a:Addr) (m c:Nat) (news:List Value) (hl:news.length=m * i.size) (hnews:∀ j u,news[j]?=some u->w.cell? (a.add j)=some u) (h1:∀ u∈news,u.oneCell'=true)
    (hroom:sLen+m<=sCap) (hfit:off+sLen * i.size+news.length<=cur.size) :
    (Builtin.append_ #[t,t] ty #[.slice (some ⟨g,off,none⟩) sLen sCap,.slice (some a) m c]).run P w =
      .ok (.slice (some ⟨g,off,none⟩) (sLen+m) sCap) (w.setRow g (cur.toList.take (off+sLen * i.size)++news++cur.toList.drop (off+sLen * i.size+news.length)).toArray):=by
  have hf:=run_firstCells_some (P:=P) w i.size m a m c news hl hnews
  have hst:=run_storeCells_at P g (off+sLen * i.size) e' news 0 cur w hg (by simpa using hfit) h1
  simp only [Nat.add_zero] at hst
  simp [Builtin.append_,run_underlying ht,sizeOf,typeInfo,hi,Builtin.lenOf,hroom,hf,Addr.add_lit,hst]
theorem EB8[DM]{α:Type}[Flat α]{t E ty:TypeId}{bytes:Nat}{z:Value}{h q:PH}{v u:Value}{xs ys:List α}(hu:P.underlying t=some (.slice E))(hi:TyI P E (Enc.n α) bytes z)(hp:0<Enc.n α)
    (o:OT h v xs) (e:Sub h w) (rs:RS q u ys) (eq:Sub q w) (hm:ln xs+ln ys<=140737488355328) (hb:(ln xs+ln ys) * bytes<=140737488355328) :
    ∃ v' w' h',(Builtin.append_ #[t,t] ty #[v,u]).run P w = .ok v' w'/\OT h' v' (xs++ys)/\Sub h' w'/\But h w w'/\B1 h w.heap.size h':=by
  have o0:=o
  obtain ⟨cells,hcl,r,o⟩:=o
  rcases o with ⟨rfl,rfl,rfl⟩ | ⟨b,off,cap,cur,E',rfl,rfl,hc,hmx,hs,ht⟩
  · obtain ⟨v',w',h',h1,h2,h3,h4,h5⟩:=BT6 (ty:=ty) hu hi hp (OS.nil (E:=E) (g:=emp)) e rs eq q (CZ9 q) (Le.refl q) hm hb
    exact ⟨v',w',h',h1,h2.ot,h3,h4,h5⟩
  obtain ⟨a,cap2,news,rfl,r2,hnil,hat⟩:=rs.cells
  have hnl:news.length=ys.length * Enc.n α:=r2.length
  obtain ⟨i,hinf,hsz,hbb,hz,hzs⟩:=hi.ok
  have hw:=H6.1 e
  have hb':(xs.length+ys.length) * bytes<=140737488355328:=by
    have h:(((xs.length+ys.length) * bytes:Nat):Int)<=140737488355328:=by
      rw [Int.natCast_mul,Int.natCast_add]; exact hb
    omega
  have h63:xs.length+ys.length<=maxLen:=by simp only [maxLen]; simp only [ln] at hm; omega
  have hsmall:xs.length+ys.length<=9223372036854775807:=by simp only [ln] at hm; omega
  have r3:rdL emp news ys:=r2.fl
  have hnews:∀ ad,a=some ad->∀ j u,news[j]?=some u->w.cell? (ad.add j)=some u:=fun ad had j c hj=>AF2 eq (hat ad had j c hj)
  cases a with
  | none =>
    have hy:ys=[]:=hnil rfl
    subst hy
    refine ⟨_,w,_,?_,by simpa using o0,e,But.refl _ _,B1.refl _ _⟩
    simp [Builtin.append_,run_underlying hu,sizeOf,typeInfo,hinf,Builtin.lenOf,Builtin.firstCells,hc,storeCells]
  | some ad =>
    have hnews:=hnews ad rfl
    by_cases hroom:xs.length+ys.length<=cap
    · have hfit:off+xs.length * i.size+news.length<=cur.size:=by
        rw [hnl,hsz]
        have:=Nat.mul_le_mul_right (Enc.n α) hroom
        rw [Nat.add_mul] at this; omega
      have hr:=BS4 w t ty E E' i hu hinf b off xs.length cap cur hw ad ys.length cap2 news (by rw [hnl,hsz]) hnews r3.one hroom hfit
      refine ⟨_,_,_,hr,⟨cells++news,by rw [List.length_append,hcl,hnl,List.length_append,Nat.add_mul],r.append r3,.inr ⟨b,off,cap,_,_,by rw [List.length_append],rfl,by rw [List.length_append]; exact hroom,hmx,?_,?_⟩⟩,U9 hw,W1 _ _ _,AB5⟩
      · simp only [List.size_toArray,List.length_append,List.length_take,List.length_drop,Array.length_toList]
        omega
      · rw [hsz] at hfit ⊢
        have e1:(cur.toList.take (off+xs.length * Enc.n α)).drop off=cells:=by rw [List.drop_take,Nat.add_sub_cancel_left]; exact ht
        have e2:((List.take (off+xs.length * Enc.n α) cur.toList++news++List.drop (off+xs.length * Enc.n α+news.length) cur.toList).drop off)=cells++news++List.drop (off+xs.length * Enc.n α+news.length) cur.toList:=by
          rw [List.append_assoc,List.drop_append_of_le_length,e1,List.append_assoc]
          have hq:cur.toList.length=cur.size:=Array.length_toList
          rw [List.length_take,hq]; omega
        show List.take _ (List.drop off _)=_
        rw [e2,List.length_append,Nat.add_mul,← hcl,← hnl,← List.length_append]
        exact List.take_left
    · have holds:∀ j u,cells[j]?=some u->w.cell? ((⟨b,off,none⟩:Addr).add j)=some u:=fun j u hj=>by
        rw [Q5,cell_of_row w b _ cur E' _ hw]
        have hjl:j<xs.length * Enc.n α:=by
          have:=(List.getElem?_eq_some_iff.1 hj).1; rw [hcl] at this; exact this
        rw [← ht,List.getElem?_take,if_pos hjl,List.getElem?_drop] at hj
        rw [← Array.getElem?_toList]; exact hj
      have hr:=run_append_grow (P:=P) w t ty E i z hu hinf hz ⟨b,off,none⟩ xs.length cap cells (by rw [hcl,hsz]) holds ad ys.length cap2 news (by rw [hnl,hsz]) hnews (by omega) (by omega) (growslice_fits (by omega) (by rw [hbb]; exact hb'))
      refine ⟨_,_,_,hr,⟨cells++news,by rw [List.length_append,hcl,hnl,List.length_append,Nat.add_mul],r.append r3,.inr ⟨w.heap.size,0,_,_,_,by rw [List.length_append],rfl,?_,grownCap_le_maxLen w _ cap E h63,?_,?_⟩⟩,H6.2 (heap_alloc_new w.drew _),⟨rfl,rfl,rfl,by simp,fun k hk _=>(Below.heap_alloc w.drew _ k hk),fun _=>Nat.le_succ _⟩,(AG9 (Nat.le_refl _)).dom _⟩
      · rw [List.length_append]; exact grownCap_ge w _ cap E
      · have hge:=grownCap_ge w (xs.length+ys.length) cap E
        simp only [Array.size_append,List.size_toArray,size_zeroCells,hzs,hcl,hnl,← Nat.add_mul]
        rw [Nat.zero_add]
        refine Nat.mul_le_mul_right _ ?_
        omega
      · rw [List.drop_zero]
        simp only [Array.toList_append,List.append_assoc]
        rw [← List.append_assoc,List.length_append,Nat.add_mul,← hcl,← hnl,← List.length_append]
        exact List.take_left
end
section
variable {P:Program} {w:World}
theorem CN6(z:Array Value)(m:Nat):(Builtin.zeroCells z m).toList=(List.replicate m z.toList).flatten:=BB2 z m
theorem BQ6(w:World)(t tx ty e e':TypeId)(i:TypeInfo)(z:Value)(ht:P.underlying t=some (.slice e))(hx:P.underlying tx=some (.int .i64))(hi:P.info? e=some i)(hz:i.zero=some z)
    (g sLen sCap m:Nat) (cur:Array Value) (hg:w.heap[g]?=some (.cells cur e' (0,0))) (hzs:z.cells.size=i.size) (h1:∀ u∈(Builtin.zeroCells z.cells m).toList,u.oneCell'=true)
    (hm:m<=140737488355328) (hby:m * i.bytes<=140737488355328) (hroom:sLen+m<=sCap) (hfit:sLen * i.size+m * i.size<=cur.size) :
    (Builtin.append_ #[t,tx] ty #[.slice (some ⟨g,0,none⟩) sLen sCap,I m]).run P w =
      .ok (.slice (some ⟨g,0,none⟩) (sLen+m) sCap) (w.setRow g (cur.toList.take (sLen * i.size)++(Builtin.zeroCells z.cells m).toList++cur.toList.drop (sLen * i.size+m * i.size)).toArray):=by
  have hl:(Builtin.zeroCells z.cells m).toList.length=m * i.size:=by rw [Array.length_toList,size_zeroCells,hzs]
  have hst:=run_storeCells_at P g (sLen * i.size) e' (Builtin.zeroCells z.cells m).toList 0 cur w hg (by rw [hl]; simpa using hfit) h1
  simp only [Nat.add_zero,hl] at hst
  have hw:IntKind.i64.wrap (m:Int)=(m:Int):=IntWalk.i64_in _ ⟨by omega,by omega⟩
  have hng:¬ ((m:Int)<0):=by omega
  have hb:¬ ((m:Int) * (i.bytes:Int)>281474976710656):=by
    rw [← Int.natCast_mul]; omega
  by_cases h0:m * i.size=0
  · have hn:(Builtin.zeroCells z.cells m).toList=[]:=List.eq_nil_of_length_eq_zero (by rw [hl,h0])
    rw [hn,h0] at hst ⊢
    have hst2:(storeCells (⟨g,sLen * i.size,none⟩:Addr) [] 0).run P w = .ok () w:=by simp [storeCells]
    have hst3:=hst2.symm.trans hst
    simp at hst3
    simp [Builtin.append_,run_underlying ht,run_underlying hx,sizeOf,typeInfo,hi,asInt,asIntOf,hw,hng,hb,h0,hroom,Addr.add_lit,hst2]
    exact hst3
  · simp [Builtin.append_,run_underlying ht,run_underlying hx,sizeOf,typeInfo,hi,zeroValue,hz,asInt,asIntOf,hw,hng,hb,h0,hroom,Addr.add_lit,hst]
theorem BU2(w:World)(t tx ty e:TypeId)(i:TypeInfo)(z:Value)(ht:P.underlying t=some (.slice e))(hx:P.underlying tx=some (.int .i64))(hi:P.info? e=some i)(hz:i.zero=some z)
    (m:Nat) (h0:0<m) (hp:0<i.size) (hm:m<=140737488355328) (hby:m * i.bytes<=140737488355328) :
    (Builtin.append_ #[t,tx] ty #[.slice none 0 0,I m]).run P w =
      .ok (.slice (some ⟨w.heap.size,0,none⟩) m (grownCap w m 0 e)) (w.drew.alloc (.cells (Builtin.zeroCells z.cells m++Builtin.zeroCells z.cells (grownCap w m 0 e-m)) e)):=by
  have hw:IntKind.i64.wrap (m:Int)=(m:Int):=IntWalk.i64_in _ ⟨by omega,by omega⟩
  have hng:¬ ((m:Int)<0):=by omega
  have hb:¬ ((m:Int) * (i.bytes:Int)>281474976710656):=by
    rw [← Int.natCast_mul]; omega
  have hn:¬ m * i.size=0:=by
    intro e; rcases Nat.mul_eq_zero.1 e with e | e <;> omega
  have hm0:¬ m=0:=by omega
  have h63':¬ (9223372036854775807<(m:Int)):=by omega
  have h48':¬ (281474976710656<Builtin.nextslicecap m 0 * i.bytes):=by rw [nextslicecap_zero h0]; omega
  simp [Builtin.append_,run_underlying ht,run_underlying hx,sizeOf,typeInfo,hi,zeroValue,hz,asInt,asIntOf,hw,hng,hb,hm0,hn,h63',h48',Question.forced,run_firstCells_none,newRow,grownCap]
theorem BQ0(w:World)(t tx ty e:TypeId)(i:TypeInfo)(z:Value)(ht:P.underlying t=some (.slice e))(hx:P.underlying tx=some (.int .i64))(hi:P.info? e=some i)(hz:i.zero=some z)
    (b:Addr) (sLen sCap m:Nat) (olds:List Value) (hlo:olds.length=sLen * i.size) (holds:∀ j v,olds[j]?=some v->w.cell? (b.add j)=some v) (hp:0<i.size)
    (hm:m<=140737488355328) (hby:m * i.bytes<=140737488355328) (hg:sCap<sLen+m) (hm0:0<m) (h63:((sLen+m:Nat):Int)<=9223372036854775807) (hfit:Builtin.nextslicecap (sLen+m) sCap * i.bytes<=281474976710656) :
    (Builtin.append_ #[t,tx] ty #[.slice (some b) sLen sCap,I m]).run P w =
      .ok (.slice (some ⟨w.heap.size,0,none⟩) (sLen+m) (grownCap w (sLen+m) sCap e))
        (w.drew.alloc (.cells (olds.toArray++Builtin.zeroCells z.cells m++Builtin.zeroCells z.cells (grownCap w (sLen+m) sCap e-(sLen+m))) e)):=by
  have hw:IntKind.i64.wrap (m:Int)=(m:Int):=IntWalk.i64_in _ ⟨by omega,by omega⟩
  have hng:¬ ((m:Int)<0):=by omega
  have hb:¬ ((m:Int) * (i.bytes:Int)>281474976710656):=by
    rw [← Int.natCast_mul]; omega
  have hm0':¬ m=0:=by omega
  have hms:¬ m * i.size=0:=by
    intro e; rcases Nat.mul_eq_zero.1 e with e | e <;> omega
  have hn:¬ (sLen+m<=sCap):=by omega
  have h63':¬ (9223372036854775807<((sLen:Int)+(m:Int))):=by omega
  have h48':¬ (281474976710656<Builtin.nextslicecap (sLen+m) sCap * i.bytes):=by omega
  have hfo:=run_firstCells_some (P:=P) w.drew i.size sLen b sLen sCap olds hlo (by simpa using holds)
  simp [Builtin.append_,run_underlying ht,run_underlying hx,sizeOf,typeInfo,hi,zeroValue,hz,asInt,asIntOf,hw,hng,hb,hms,hn,h63',h48',Question.forced,hfo,newRow,grownCap]
theorem CA7[DM]{α:Type}[Flat α]{t tx E ty:TypeId}{bytes:Nat}{z:Value}{h:PH}{v:Value}{xs:List α}{x0:α}{k:Int}(hu:P.underlying t=some (.slice E))(hx:P.underlying tx=some (.int .i64))(hi:TyI P E (Enc.n α) bytes z)(hp:0<Enc.n α)
    (hz0:Enc.rd emp z.cells.toList x0) (os:OS E h emp v xs) (e:Sub h w) (hk:0<=k) (hm:ln xs+k<=140737488355328) (hb:(ln xs+k) * bytes<=140737488355328) :
    ∃ v' w' h',(Builtin.append_ #[t,tx] ty #[v,I k]).run P w = .ok v' w'/\OS E h' emp v' (xs++List.replicate k.toNat x0)/\Sub h' w'/\But h w w'/\B1 h w.heap.size h':=by
  obtain ⟨m,rfl⟩:∃ m:Nat,k=(m:Int):=⟨k.toNat,by omega⟩
  rw [Int.toNat_natCast]
  have os0:=os
  obtain ⟨cells,o,r⟩:=os
  obtain ⟨i,hinf,hsz,hbb,hz,hzs⟩:=hi.ok
  subst hbb
  have hb':(xs.length+m) * i.bytes<=140737488355328:=by
    have h:(((xs.length+m) * i.bytes:Nat):Int)<=140737488355328:=by
      rw [Int.natCast_mul,Int.natCast_add]; exact hb
    omega
  have hbm:m * i.bytes<=140737488355328:=Nat.le_trans (Nat.mul_le_mul_right _ (by omega)) hb'
  have hmm:xs.length+m<=140737488355328:=by simp only [ln] at hm; omega
  have hzr:rdL emp ((List.replicate m z.cells.toList).flatten) (List.replicate m x0):=rdL.replicate m hz0
  have hzl:(Builtin.zeroCells z.cells m).toList=(List.replicate m z.cells.toList).flatten:=CN6 _ _
  have hzn:(Builtin.zeroCells z.cells m).toList.length=m * Enc.n α:=by rw [hzl,hzr.length,List.length_replicate]
  have hlen:(cells++(List.replicate m z.cells.toList).flatten).length=(xs.length+m) * Enc.n α:=by rw [List.length_append,o.1,hzr.length,List.length_replicate,Nat.add_mul]
  have hnew:rdL emp (cells++(List.replicate m z.cells.toList).flatten) (xs++List.replicate m x0):=r.append hzr
  have hll:(xs++List.replicate m x0).length=xs.length+m:=by simp
  have same:m=0->OS E h emp v (xs++List.replicate m x0):=fun e=>by subst e; simpa using os0
  have grown:∀ (old:Nat),old<xs.length+m ->
      OS E (F6 w.heap.size (.cells (cells.toArray++Builtin.zeroCells z.cells m++Builtin.zeroCells z.cells (grownCap w (xs.length+m) old E-(xs.length+m))) E (0,0))) emp
        (.slice (some ⟨w.heap.size,0,none⟩) (xs.length+m) (grownCap w (xs.length+m) old E)) (xs++List.replicate m x0):=by
    intro old ho
    have hge:=grownCap_ge w (xs.length+m) old E
    have hcm:grownCap w (xs.length+m) old E<=maxLen:=grownCap_le_maxLen w (xs.length+m) old E (by simp only [maxLen]; omega)
    refine ⟨_,⟨by rw [hll]; exact hlen,.inr ⟨w.heap.size,_,_,_,by rw [hll],rfl,by rw [hll]; exact hge,hcm,?_,?_⟩⟩,hnew⟩
    · simp only [Array.size_append,List.size_toArray,size_zeroCells,hzs,o.1,← Nat.add_mul]
      congr 1
      omega
    · simp only [Array.toList_append,hzl]
      rw [hll,← hlen]
      exact List.take_left
  have fr:∀ o':Obj,Sub (F6 w.heap.size o') (w.drew.alloc o')/\But h w (w.drew.alloc o')/\B1 h w.heap.size (F6 w.heap.size o'):=fun o' =>
    ⟨H6.2 (heap_alloc_new w.drew _),⟨rfl,rfl,rfl,by simp,fun k hk _=>(Below.heap_alloc w.drew o' k hk),fun _=>Nat.le_succ _⟩,(AG9 (Nat.le_refl _)).dom _⟩
  rcases o.2 with ⟨rfl,h0,rfl⟩ | ⟨b,cap,cur,E',rfl,rfl,hc,hmx,hs,ht⟩
  · have hx0:xs=[]:=List.eq_nil_of_length_eq_zero h0
    subst hx0
    by_cases hm0:m=0
    · subst hm0
      refine ⟨_,w,emp,?_,same rfl,e,But.refl _ _,B1.refl _ _⟩
      have hw:IntKind.i64.wrap (0:Int)=0:=rfl
      simp [Builtin.append_,run_underlying hu,run_underlying hx,sizeOf,typeInfo,hinf,asInt,asIntOf,hw]
    · have hr:=BU2 (P:=P) w t tx ty E i z hu hx hinf hz m (by omega) (by omega) (by omega) hbm
      have hgr:=grown 0 (by simp; omega)
      have hcl:cells=[]:=List.eq_nil_of_length_eq_zero (by simpa using o.1)
      subst hcl
      simp only [List.length_nil,Nat.zero_add,Array.empty_append] at hgr
      obtain ⟨f1,f2,f3⟩:=fr (.cells (Builtin.zeroCells z.cells m++Builtin.zeroCells z.cells (grownCap w m 0 E-m)) E (0,0))
      exact ⟨_,_,_,hr,hgr,f1,f2,f3⟩
  · have hw:=H6.1 e
    by_cases hroom:xs.length+m<=cap
    · have hfit:xs.length * i.size+m * i.size<=cur.size:=by rw [hsz,hs,← Nat.add_mul]; exact Nat.mul_le_mul_right _ hroom
      have hr:=BQ6 (P:=P) w t tx ty E E' i z hu hx hinf hz b xs.length cap m cur hw (by rw [hzs,hsz]) (by rw [hzl]; exact hzr.one) (by omega) hbm hroom hfit
      refine ⟨_,_,_,hr,⟨_,⟨by rw [hll]; exact hlen,.inr ⟨b,cap,_,E',by rw [hll],rfl,by rw [hll]; exact hroom,hmx,?_,?_⟩⟩,hnew⟩,U9 hw,W1 _ _ _,AB5⟩
      · simp only [List.size_toArray,List.length_append,List.length_take,List.length_drop,hzn]
        have hq:cur.toList.length=cur.size:=Array.length_toList
        rw [hsz] at hfit ⊢
        omega
      · rw [hsz,ht,hzl,hll,← hlen]
        exact List.take_left
    · have holds:∀ j u,cells[j]?=some u->w.cell? ((⟨b,0,none⟩:Addr).add j)=some u:=fun j u hj=>by
        rw [Q5,cell_of_row w b _ cur E' _ hw,Nat.zero_add]
        have hjl:j<xs.length * Enc.n α:=by
          have:=(List.getElem?_eq_some_iff.1 hj).1; rw [o.1] at this; exact this
        rw [← ht,List.getElem?_take,if_pos hjl] at hj
        rw [← Array.getElem?_toList]; exact hj
      have hr:=BQ0 (P:=P) w t tx ty E i z hu hx hinf hz ⟨b,0,none⟩ xs.length cap m cells (by rw [o.1,hsz]) holds (by omega) (by omega) hbm (by omega) (by omega) (by omega) (growslice_fits (by omega) hb')
      obtain ⟨f1,f2,f3⟩:=fr (.cells (cells.toArray++Builtin.zeroCells z.cells m++Builtin.zeroCells z.cells (grownCap w (xs.length+m) cap E-(xs.length+m))) E (0,0))
      exact ⟨_,_,_,hr,grown cap (by omega),f1,f2,f3⟩
end
section
variable {P:Program} {n:Nat} {V:Env} {w:World} {ops:Array Oper} {Q:Exit->Act->World->Prop}
theorem DA9[DM]{α:Type}[Flat α]{t tx E:TypeId}{bytes:Nat}{z:Value}{h:PH}{v:Value}{xs:List α}{x0:α}{i:Int}{o:Oper}{s x:Operand}(k:Nat)
    (at0:At n ops V k o (.call ⟨.builtin .append,⟨[s,x]⟩,⟨[t,tx]⟩⟩)) (hu:P.underlying t=some (.slice E)) (hux:P.underlying tx=some (.int .i64)) (hi:TyI P E (Enc.n α) bytes z) (hp:Nat.blt 0 (Enc.n α)=true)
    (hz:Enc.rd emp z.cells.toList x0) (hs:opd n V s=v) (hx:opd n V x=I i) (os:OS E h emp v xs) (e:Sub h w) (h0:0<=i)
    (hm:ln xs+i<=140737488355328) (hb:(ln xs+i) * bytes<=140737488355328)
    (H:∀ h' v' w',OS E h' emp v' (xs++List.replicate i.toNat x0)->Sub h' w'->But h w w'->B1 h w.heap.size h'->LP P n ops Q (k+1) (K4 V o.dst v') w'):LP P n ops Q k V w:=by
  obtain ⟨v',w',h',h1,h2,h3,h4,h5⟩:=CA7 (ty:=o.type) hu hux hi (by simp [Nat.blt] at hp; omega) hz os e h0 hm hb
  refine J1 k o at0.o at0.g ?_ (H h' v' w' h2 h3 h4 h5)
  simp only [execOp,at0.op,resolve,invoke,builtin,Sem.run_bind,Sem.run_pure,Result.andThen_ok,List.map_toArray,List.map_cons,List.map_nil,hs,hx,h1]
end
end Go.Gv
namespace Go.Gv
open Go Go.RowKit
def agv(E:Env):List (Nat×Value)->List Value
  | []=>[]
  | (i,_) :: r=>E i :: agv E r
def vls:List (Nat×Value)->List Value
  | []=>[]
  | (_,v) :: r=>v :: vls r
theorem DR6{E:Env}:∀ {l:List (Nat×Value)},agv E l=vls l->Q0 E l
  | [],_=>trivial
  | (_,_) :: _,h=>⟨(List.cons.inj h).1,DR6 (List.cons.inj h).2⟩
theorem Ee{E:Env}{l:List (Nat×Value)}(h:agv E l=vls l):E=B3 l E:=EU5 (DR6 h)
def DW0:Nat->List Value->List (Nat×Value)
  | _,[]=>[]
  | k,v :: r=>(k,v) :: DW0 (k+1) r
theorem CW3:∀ (args pre:List Value),Q0 (CB4 (pre++args)) (DW0 pre.length args)
  | [],_=>trivial
  | v :: r,pre=>by
    have h:=CW3 r (pre++[v])
    rw [List.append_assoc,List.length_append] at h
    exact ⟨by simp [CB4],h⟩
def EF5(n:Nat)(V:Env):List ResultVar->Option (List Value)
  | []=>some []
  | .tmp t :: r=>match Nat.blt t n with | true=>(EF5 n V r).map (V t :: ·) | false=>none
  | _=>none
section
variable {P:Program} {T:Ty} {n:Nat} {N:Asn} {X:Nat->Asn} {R:Asn} {V:Env} {w:World} {ops:Array Oper}
theorem Wo{c:Code}(l:List (Nat×Value))(h:agv V l=vls l)(H:∀ V,WP P n c N X R (B3 l V) w):WP P n c N X R V w:=CS9 l (DR6 h) H
theorem BZ9:∀ {r:List Oper} {V:Env} {l u:List (Nat×Value)},W4 T n ops r V l=some u->r.length=l.length
  | [],_,[],_,_=>rfl
  | [],_,_ :: _,_,h=>by simp [W4] at h
  | _ :: _,_,[],_,h=>by simp [W4] at h
  | o :: r,V,(i,v) :: l,u,h=>by
    have key:∀ {us},W4 T n ops r (upd V i v) l=some us->(o :: r).length=((i,v) :: l).length:=fun e=>by simp [BZ9 e]
    unfold W4 at h
    split at h
    · split at h
      · split at h
        · rename_i e; exact key e
        · cases h
      · split at h
        · rename_i e; exact key e
        · cases h
      · cases h
    · cases h
theorem Wm{id:Nat}(ok:BK2 P T)(l:List (Nat×Value))(h:W4 T n ops ops.toList V l=some l)(H:N (CP5 V l) w):WP P n (.region id ops false) N X R V w:=by
  refine BZ6 (BG4 ok ops.toList 0 V l (fun j o hj=>by simpa using hj) h (DZ6 _ ?_ H))
  rw [Nat.zero_add,← BZ9 h,List.drop_length]
theorem Wl{id:Nat}(ok:BK2 P T)(l:List (Nat×Value))(k':Nat)(h:(W4 T n ops (ops.toList.take l.length) V l,l.length)=(some l,k'))(H:LP P n ops (pst n N X R) k' (CP5 V l) w):WP P n (.region id ops false) N X R V w :=
  BZ6 (EN0 ok 0 l k' (by simpa using h) H)
end
theorem Rt{P:Program}{fn:Func}{n:Nat}{V:Env}{w:World}{vs:List Value}(h:EF5 n V fn.results.toList=some vs):Ret P fn n V w (tup vs):=by
  refine N3 vs ?_
  generalize fn.results.toList=l at h
  induction l generalizing vs with
  | nil=>cases h; trivial
  | cons a r ih =>
    cases a with
    | tmp t =>
      unfold EF5 at h
      split at h
      · rename_i ht
        cases hr:EF5 n V r with
        | none=>rw [hr] at h; cases h
        | some us=>rw [hr] at h; cases h; exact ⟨⟨ht,rfl⟩,ih hr⟩
      · cases h
    | cell a t=>cases h
theorem En{P:Program}{f:FuncId}{fn:Func}{c:Code}{args:List Value}{w:World}{R:Value->World->Prop}(n:Nat)(hf:P.funcs[f]?=some fn)(h:(fn.body,fn.ntmps,Nat.ble args.length n)=(some c,n,true))
    (H:∀ V,WP P n c (fun V w=>∃ v,Ret P fn n V w v/\R v w) (fun _ _ _=>False) (fun V w=>∃ v,Ret P fn n V w v/\R v w) (B3 (DW0 0 args) V) w):B5 P f args.toArray w R:=by
  have h1:=congrArg Prod.fst h
  have h2:=congrArg (·.2.1) h
  have h3:=congrArg (·.2.2) h
  exact enter n hf h1 h2 h3 (CS9 _ (CW3 args []) H)
abbrev Wg:=@BZ6
abbrev Lv:=@EN0
abbrev Ln:=@DZ6
abbrev Wq:=@EM9
abbrev Lb:=@EA9
abbrev Lc:=@EM6
abbrev Lx[DM]:=@EB0
abbrev Wc:=@ES6
abbrev Wk:=@EU1
abbrev Sd:=@AB5
abbrev Df:=@Dj.of_fresh
abbrev Db:=@Dj.box
abbrev Dl:=@Dj.un_l
abbrev Dr:=@Dj.un_r
abbrev De:=@Dj.emp_r
abbrev Br[DM]:=@But.refl
abbrev Or:=@Dom.refl
abbrev Ot:=@Dom.trans
abbrev Mt:=@B1.trans
abbrev Md:=@B1.dom
abbrev Mu:=@B1.un
abbrev Mj:=@B1.dj
abbrev Li:=@DW9
abbrev Lo:=@EE3
abbrev Ly[DM]:=@ES5
abbrev Oe:=@Dom.le
abbrev La[DM]:=@DW7
end Go.Gv
namespace Go.Gv
open Go Go.RowKit
theorem CH9{A:Asg}{i j:Nat}(hij:i≠j)(u v:Value):F1 ((i,u) :: (j,v) :: A)=F1 ((j,v) :: (i,u) :: A):=by
  funext x
  show (if Nat.beq x i then u else if Nat.beq x j then v else F1 A x)=if Nat.beq x j then v else if Nat.beq x i then u else F1 A x
  cases h1:Nat.beq x i <;> cases h2:Nat.beq x j <;> simp
  exact absurd ((Nat.eq_of_beq_eq_true h1).symm.trans (Nat.eq_of_beq_eq_true h2)) hij
theorem DF7(U:List Nat)(i j:Nat):rm (rm U i) j=rm (rm U j) i:=by
  unfold rm; rw [List.filter_filter,List.filter_filter]; congr 1; funext x; exact Bool.and_comm _ _
def CM0(w:World):List PH->Prop
  | []=>True
  | h :: l=>Sub h w/\CM0 w l
def djK(F:PH):List PH->Prop
  | []=>True
  | h :: l=>Dj F h/\djK F l
theorem CM0.ext[DM]{w w':World}(x:Ext w w'):∀ {K:List PH},CM0 w K->CM0 w' K
  | [],_=>trivial
  | _ :: _,⟨h,r⟩=>⟨h.ext x,CM0.ext x r⟩
theorem djK.fresh{w:World}{F:PH}(f:B6 w.heap.size F):∀ {K:List PH},CM0 w K->djK F K
  | [],_=>trivial
  | _ :: _,⟨h,r⟩=>⟨(Dj.of_fresh h f).symm,djK.fresh f r⟩
theorem djK.emp:∀ {K:List PH},djK emp K
  | []=>trivial
  | _ :: _=>⟨Dj.emp_l _,djK.emp⟩
section
variable {P:Program} {n:Nat} {ops:Array Oper} {anc:List (List Nat)} {src:List (List (Nat×Option Nat))} {V0:Env} {E:Asg->World->Prop}
structure GD [DM] (P:Program) (n:Nat) (ops:Array Oper) (anc:List (List Nat)) (src:List (List (Nat×Option Nat))) (V0:Env) (E:Asg->World->Prop) (a:Nat) (T:TypeId) (z:List Value) (B:Nat) (K:List PH) (m:Nat) (U:List Nat) (A:Asg) (L:List (Nat×PH)) (w:World):Prop where
  mem:a∈U
  pend:GT P n ops anc src V0 E (m+1) U A L w
  made:∀ w' b,Ext w w'->Sub (bx b T z) w'->djK (bx b T z) K->B6 B (bx b T z)->GT P n ops anc src V0 E m (rm U a) ((a,.pointer (some ⟨b,0,none⟩)) :: A) L w'
variable {a:Nat} {T:TypeId} {z:List Value} {B:Nat} {K:List PH} {m:Nat} {U:List Nat} {A:Asg} {L:List (Nat×PH)} {w:World}
theorem DH7{o:Oper}{i:Nat}(hm:a∈U)(hk:AP0 src U o i=true)(hia:Nat.beq i a=false):AP0 src (rm U a) o i=true/\i≠a/\(∀ t,(t,some a) ∉ src.getD i [])/\∀ c,o.guard≠some (a,c):=by
  have hne:i≠a:=fun e=>by subst e; rw [Nat.beq_refl] at hia; cases hia
  obtain ⟨h1,h2,h3⟩:=BB5 hk
  refine ⟨?_,hne,fun t ht=>h2 t a ht hm,fun c hc=>h3 a c hc hm⟩
  unfold AP0 at hk ⊢
  simp only [Bool.and_eq_true] at hk ⊢
  refine ⟨⟨by simpa using R9.2 ⟨h1,hne⟩,List.all_eq_true.2 fun p hp=>?_⟩,?_⟩
  · obtain ⟨t,q⟩:=p
    cases q with
    | none=>rfl
    | some j=>have:=h2 t j hp; simp only [Bool.not_eq_true',List.contains_eq_mem,decide_eq_false_iff_not]; exact fun c=>this (R9.1 c).1
  · cases hg:o.guard with
    | none=>rfl
    | some q=>obtain ⟨j,c⟩:=q; have:=h3 j c hg; simp only [Bool.not_eq_true',List.contains_eq_mem,decide_eq_false_iff_not]; exact fun c=>this (R9.1 c).1
theorem CU5{o:Oper}{u:Value}(h:∀ c,o.guard≠some (a,c)):gOn ((a,u) :: A) o=gOn A o:=by
  unfold gOn
  cases hg:o.guard with
  | none=>rfl
  | some q=>obtain ⟨j,c⟩:=q; simp only; rw [W5 (by rintro rfl; exact h c hg)]
theorem CC6{V:Env}{i:Nat}{u:Value}(h:∀ t,(t,some a) ∉ src.getD i [])(hn:J7 V0 (F1 ((a,u) :: A)) V (src.getD i [])):J7 V0 (F1 A) V (src.getD i []) :=
  N9 (fun t j hj=>W5 (by rintro rfl; exact h t hj)) hn
theorem EZ9[DM](hE:∀ A A' w,F1 A=F1 A'->E A w->E A' w)(i:Nat){o:Oper}(ho:ops.toList[i]?=some o)(hk:(AP0 src U o i&&!Nat.beq i a&&U.contains a)=true)(hg:gOn A o=some true)(v:Value)(hs:List PH)
    (h1:∀ V w',J7 V0 (F1 A) V (src.getD i [])->(∀ h∈hs,Sub h w')->QX P n o V w' v) (h2:∀ h∈hs,Sub h w) (h:GD P n ops anc src V0 E a T z B K m (rm U i) ((i,v) :: A) (hs.map (fun h=>(i,h))++L) w) :
    GD P n ops anc src V0 E a T z B K (m+1) U A L w:=by
  simp only [Bool.and_eq_true,Bool.not_eq_true'] at hk
  have hm:a∈U:=by simpa using hk.2
  obtain ⟨k2,hne,k3,k4⟩:=DH7 hm hk.1.1 hk.1.2
  exact ⟨hm,.inl ⟨i,o,ho,hk.1.1,.inr ⟨hg,v,hs,h1,h2,h.pend⟩⟩,fun w' b x s d f => .inl ⟨i,o,ho,k2,.inr ⟨by rw [CU5 k4]; exact hg,v,hs,fun V w2 hn=>h1 V w2 (CC6 k3 hn),fun q hq=>(h2 q hq).ext x,
    by rw [DF7]; exact GT.congr hE (CH9 (Ne.symm hne) _ _) (h.made w' b x s d f)⟩⟩⟩
section
variable {Ty':Ty}
theorem EZ0[DM](hE:∀ A A' w,F1 A=F1 A'->E A w->E A' w)(i:Nat){o:Oper}(l:List (Nat×Value))(v:Value)(ho:ops.toList[i]?=some o)(hk:(AP0 src U o i&&!Nat.beq i a&&U.contains a)=true)(hg:gOn A o=some true)(hl:∀ V,J7 V0 (F1 A) V (src.getD i [])->Q0 V l)
    (h:∀ V w',(execOp (opd n (B3 l V)) o).run P w' = .ok (.value v) w') (H:GD P n ops anc src V0 E a T z B K m (rm U i) ((i,v) :: A) L w):GD P n ops anc src V0 E a T z B K (m+1) U A L w :=
  EZ9 hE i ho hk hg v [] (fun V w' hn _ => .inl (AG5 (R:=fun V=>(execOp (opd n V) o).run P w' = .ok (.value v) w') l (hl V hn) fun V=>h V w')) (fun _ hh=>(by cases hh)) H
theorem CE2[DM](hE:∀ A A' w,F1 A=F1 A'->E A w->E A' w)(i:Nat)(ok:BK2 P Ty'){o:Oper}(l:List (Nat×Value))(v:Value)(ho:ops.toList[i]?=some o)(hk:(AP0 src U o i&&!Nat.beq i a&&U.contains a)=true)(hg:gOn A o=some true)(hl:∀ V,J7 V0 (F1 A) V (src.getD i [])->Q0 V l)
    (h:∀ V,CN9 Ty' n (B3 l V) o.op=some v) (H:GD P n ops anc src V0 E a T z B K m (rm U i) ((i,v) :: A) L w):GD P n ops anc src V0 E a T z B K (m+1) U A L w :=
  EZ0 hE i l v ho hk hg hl (fun V _=>AZ4 ok (h V)) H
end
theorem EB5{oa:Oper}{V:Env}{sz bytes:Nat}{v:Value}{C:Value->World->Prop}(hop:oa.op = .alloc T)(hi:TyI P T sz bytes v)(hc:v.cells.toList=z)(h:C (.pointer (some ⟨w.heap.size,0,none⟩)) (w.alloc (.cells z.toArray T))):CX P n oa V w C:=by
  obtain ⟨inf,hinf,hsz,_,hz,_⟩:=hi.ok
  have hcs:v.cells=z.toArray:=by rw [← hc]
  refine .inl ⟨_,_,?_,h⟩
  simp [execOp,hop,Instr.alloc,zeroValue,typeInfo,hinf,hz,newVar,newRow,hcs]
theorem EM8[DM]{oa:Oper}{sz bytes d:Nat}{v:Value}(hop:oa.op = .alloc T)(hd:oa.dst=some d)(hi:TyI P T sz bytes v)(hc:v.cells.toList=z)
    (hkp:AK3 (anc.getD a []) w L) (hs:CM0 w K) (hB:B<=w.heap.size) (made:∀ w' b,Ext w w'->Sub (bx b T z) w'->djK (bx b T z) K->B6 B (bx b T z)->GT P n ops anc src V0 E m (rm U a) ((a,.pointer (some ⟨b,0,none⟩)) :: A) L w')
    {V:Env} {w':World} (x:Ext w w'):CX P n oa V w' fun u w''=>AK3 (anc.getD a []) w'' L/\GT P n ops anc src V0 E m (rm U a) ((a,dv oa u) :: A) L w'':=by
  obtain ⟨x2,e,f⟩:=AK4 (w:=w') T z.toArray
  refine EB5 hop hi hc ⟨hkp.ext (x.trans x2),?_⟩
  rw [BL9 hd]
  exact made _ _ (x.trans x2) e (djK.fresh f (hs.ext x)) (f.mono (Nat.le_trans hB x.size))
structure MkA (P:Program) (ops:Array Oper) (a:Nat) (T:TypeId) (z:List Value):Prop where
  ok:∃ oa sz bytes v d,ops.toList[a]?=some oa/\oa.guard=none/\oa.op = .alloc T/\oa.dst=some d/\TyI P T sz bytes v/\v.cells.toList=z
theorem MkA.of{oa:Oper}{sz bytes d:Nat}{v:Value}(h1:ops.toList[a]?=some oa)(h2:(oa.guard,oa.op,oa.dst)=(none,.alloc T,some d))(h3:TyI P T sz bytes v)(h4:v.cells.toList=z):MkA P ops a T z :=
  ⟨oa,sz,bytes,v,d,h1,congrArg (·.1) h2,congrArg (·.2.1) h2,congrArg (·.2.2) h2,h3,h4⟩
def inU(src:List (List (Nat×Option Nat)))(U:List Nat)(a:Nat):Bool:=U.contains a&&(src.getD a []).isEmpty
theorem DQ2{oa:Oper}(h:inU src U a=true)(hg:oa.guard=none):AP0 src U oa a=true:=by
  unfold inU at h
  simp only [Bool.and_eq_true] at h
  unfold AP0
  rw [hg,h.1]
  have:src.getD a []=[]:=by simpa using h.2
  rw [this]; rfl
theorem CD3[DM](mk:MkA P ops a T z)(hH:(inU src U a&&AS4 anc U [a])=true)
    (hkp:AK3 (anc.getD a []) w L) (hs:CM0 w K) (hB:B<=w.heap.size) (made:∀ w' b,Ext w w'->Sub (bx b T z) w'->djK (bx b T z) K->B6 B (bx b T z)->GT P n ops anc src V0 E m (rm U a) ((a,.pointer (some ⟨b,0,none⟩)) :: A) L w'):GD P n ops anc src V0 E a T z B K m U A L w:=by
  obtain ⟨oa,sz,bytes,v,d,hoa,hg,hop,hd,hi,hc⟩:=mk.ok
  simp only [Bool.and_eq_true] at hH
  have hka:=DQ2 (oa:=oa) hH.1 hg
  exact ⟨(BB5 hka).1,.inr ⟨[a],hH.2,fun i hi'=>by
    obtain rfl:=List.mem_singleton.1 hi'
    exact ⟨oa,hoa,hka,by unfold gOn; rw [hg],fun V w' x _=>EM8 hop hd hi hc hkp hs hB made x⟩⟩,made⟩
def Gd1[DM](P:Program)(n:Nat)(ops:Array Oper)(anc:List (List Nat))(src:List (List (Nat×Option Nat)))(V0:Env)(E:Asg->World->Prop)(a:Nat)(T:TypeId)(z:List Value)(B:Nat)(K:List PH)(m:Nat)(U:List Nat)(A:Asg)(L:List (Nat×PH))(w:World)(i:Nat):Prop :=
  ∃ o,ops.toList[i]?=some o/\AP0 src U o i=true/\gOn A o=some true/\∀ F V w',Ext w w'->Sub F w'->djK F K->J7 V0 (F1 A) V (src.getD i [])->CX P n o V w' fun u w''=>AK3 (anc.getD i []) w'' L/\∃ K',Sub F w''/\djK F K'/\GD P n ops anc src V0 E a T z B K' m (rm U i) ((i,dv o u) :: A) L w''
def DD4[DM](P:Program)(n:Nat)(ops:Array Oper)(anc:List (List Nat))(src:List (List (Nat×Option Nat)))(V0:Env)(E:Asg->World->Prop)(a:Nat)(T:TypeId)(z:List Value)(B:Nat)(K:List PH)(m:Nat)(U:List Nat)(A:Asg)(L:List (Nat×PH))(w:World):List Nat->Prop
  | []=>True
  | i :: r=>Gd1 P n ops anc src V0 E a T z B K m U A L w i/\DD4 P n ops anc src V0 E a T z B K m U A L w r
theorem DD4.get[DM]:∀ {H:List Nat},DD4 P n ops anc src V0 E a T z B K m U A L w H->∀ i∈H,Gd1 P n ops anc src V0 E a T z B K m U A L w i
  | [],_,i,hi=>by cases hi
  | j :: r,⟨h1,h2⟩,i,hi=>by
    rcases List.mem_cons.1 hi with rfl | hi
    · exact h1
    · exact h2.get i hi
theorem BJ0[DM]{i:Nat}{o:Oper}(l:List (Nat×Value))(ho:ops.toList[i]?=some o)(hk:AP0 src U o i=true)(hg:gOn A o=some true)(hl:∀ V,J7 V0 (F1 A) V (src.getD i [])->Q0 V l)(hd:dOk n o.dst=true)
    (H:∀ F V w',Ext w w'->Sub F w'->djK F K->LP P n #[AW7 o] (QK n o (B3 l V) fun u w''=>AK3 (anc.getD i []) w'' L/\∃ K',Sub F w''/\djK F K'/\GD P n ops anc src V0 E a T z B K' m (rm U i) ((i,u) :: A) L w'') 0 (B3 l V) w'):Gd1 P n ops anc src V0 E a T z B K m U A L w i :=
  ⟨o,ho,hk,hg,fun F V w' x s dj hn=>AG5 (R:=fun V=>CX P n o V w' fun u w''=>AK3 (anc.getD i []) w'' L/\∃ K',Sub F w''/\djK F K'/\GD P n ops anc src V0 E a T z B K' m (rm U i) ((i,dv o u) :: A) L w'') l (hl V hn) fun V=>CR0 hd (H F V w' x s dj)⟩
theorem BM7[DM](hE:∀ A A' w,F1 A=F1 A'->E A w->E A' w)(mk:MkA P ops a T z)(H:List Nat)(hH:(inU src U a&&AS4 anc U (a :: H)&&AS4 anc (rm U a) H&&H.all fun i => !Nat.beq i a)=true)
    (hkp:AK3 (anc.getD a []) w L) (hs:CM0 w K) (hB:B<=w.heap.size) (h:DD4 P n ops anc src V0 E a T z B K m U A L w H):GD P n ops anc src V0 E a T z B K (m+1) U A L w:=by
  obtain ⟨oa,sz,bytes,v,d,hoa,hga,hop,hd,hi,hc⟩:=mk.ok
  simp only [Bool.and_eq_true] at hH
  obtain ⟨⟨⟨h1,h2⟩,h3⟩,h4⟩:=hH
  have hka:=DQ2 (oa:=oa) h1 hga
  have hm:=(BB5 hka).1
  have made:∀ w' b,Ext w w'->Sub (bx b T z) w'->djK (bx b T z) K->B6 B (bx b T z)->GT P n ops anc src V0 E (m+1) (rm U a) ((a,.pointer (some ⟨b,0,none⟩)) :: A) L w':=fun w' b x s dj f =>
    .inr ⟨H,h3,fun j hj=>by
      obtain ⟨o,ho,hk,hg,run⟩:=h.get j hj
      have hja:Nat.beq j a=false:=by simpa using List.all_eq_true.1 h4 j hj
      obtain ⟨k2,hne,k3,k4⟩:=DH7 hm hk hja
      exact ⟨o,ho,k2,by rw [CU5 k4]; exact hg,fun V w2 y hn=>(run _ V w2 (x.trans y) (s.ext y) dj (CC6 k3 hn)).mono fun u w3 ⟨q1,K',q2,q3,q4⟩=>⟨q1,by rw [DF7]; exact GT.congr hE (CH9 (Ne.symm hne) _ _) (q4.made w3 b (Ext.refl _) q2 q3 f)⟩⟩⟩
  refine ⟨hm,.inr ⟨a :: H,h2,fun j hj=>?_⟩,made⟩
  by_cases e:j=a
  · subst e
    exact ⟨oa,hoa,hka,by unfold gOn; rw [hga],fun V w' x _=>EM8 hop hd hi hc hkp hs hB made x⟩
  · have hj:j∈H:=(List.mem_cons.1 hj).resolve_left e
    obtain ⟨o,ho,hk,hg,run⟩:=h.get j hj
    exact ⟨o,ho,hk,hg,fun V w2 y hn=>(run emp V w2 y (D2 _) djK.emp hn).mono fun u w3 ⟨q1,K',q2,q3,q4⟩=>⟨q1,q4.pend⟩⟩
end
theorem M7{P:Program}{n:Nat}{ops:Array Oper}{V0:Env}{Q:Exit->Act->World->Prop}{k:Nat}{fin:List (Nat×Option Nat)}:∀ (A A':Asg) (w:World),F1 A=F1 A'->(∀ V,J7 V0 (F1 A) V fin->AP P n ops Q k V w)->∀ V,J7 V0 (F1 A') V fin->AP P n ops Q k V w :=
  fun _ _ _ h e V hn=>e V (by rw [h]; exact hn)
end Go.Gv
instance Go.Gv.dm:Go.Gv.DM:=⟨False⟩
