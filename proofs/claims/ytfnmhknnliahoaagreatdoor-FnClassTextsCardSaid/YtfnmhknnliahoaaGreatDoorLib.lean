/- The layer, further: open regions, owned structures, closures, recursion, maps, arguments as they come in. -/
import Derived.Test.YtfnmhknnliahoaaGreatDoorLibA
import Derived.Laws.BytesString
import Derived.WideLaws
import Derived.WideMake
import Derived.MapKept
import Derived.IntWalk
import Derived.ProofKit
import Derived.OpenShut
import Derived.ChangeOld
import Derived.Below
import Derived.Shelf.SlSortCmp.NoneTotal
/- Regions whose order is open: one order is walked; what only reads comes to the same in all of them, what makes or writes stands in a chain. -/
namespace Go.Gv
open Go Go.RowKit
abbrev Asg:=List (Nat×Value)
def look:Asg→Nat→Value
  | [],_=>undef
  | (j,v) :: r,i=>if Nat.beq i j then v else look r i
theorem look_ne {A:Asg} {i j:Nat} {v:Value} (h:i≠j):look ((j,v) :: A) i=look A i:=by
  show (if Nat.beq i j=true then v else look A i)=look A i
  rw [beq_no h]; simp
theorem look_eq {A:Asg} {i:Nat} {v:Value}:look ((i,v) :: A) i=v:=by
  show (if Nat.beq i i=true then v else look A i)=v
  rw [show Nat.beq i i=true from Nat.beq_refl i]; simp
def gOn (A:Asg) (o:Oper):Option Bool :=
  match o.guard with
  | none=>some true
  | some (j,want)=>match look A j with | .bool b=>some (b==want) | .tuple _=>some false | _=>none
/-- What an operation leaves behind: nothing, if it has no slot. -/
def dv (o:Oper) (u:Value):Value:=match o.dst with | none=>undef | some _=>u
theorem dv_some {o:Oper} {u:Value} {d:Nat} (h:o.dst=some d):dv o u=u:=by unfold dv; rw [h]
def QX [DM] (P:Program) (n:Nat) (o:Oper) (ρ:Env) (w:World) (v:Value):Prop :=
  (execOp (opd n ρ) o).run P w = .ok (.value v) w∨∃ f args,(execOp (opd n ρ) o).run P w = .ok (.enter f args) w∧CallsTo P f args w fun u w'=>u=v∧Ext w w'
def CX (P:Program) (n:Nat) (o:Oper) (ρ:Env) (w:World) (K:Value→World→Prop):Prop :=
  (∃ u w',(execOp (opd n ρ) o).run P w = .ok (.value u) w'∧K u w')∨(∃ w',(execOp (opd n ρ) o).run P w = .ok .skip w'∧K undef w') ∨
    (∃ f args w',(execOp (opd n ρ) o).run P w = .ok (.enter f args) w'∧CallsTo P f args w' K)∨∃ row args w',(execOp (opd n ρ) o).run P w = .ok (.row row args) w'∧Rows P row args w' K
def kept (anc:List Nat) (w:World):List (Nat×PH)→Prop
  | []=>True
  | (i,h) :: l=>(anc.contains i=true∨Sub h w)∧kept anc w l
theorem kept.get {anc:List Nat} {w:World}:∀ {L:List (Nat×PH)},kept anc w L→∀ p∈L,p.1∈anc∨Sub p.2 w
  | [],_,p,hp=>by cases hp
  | (i,h) :: l,⟨h1,h2⟩,p,hp=>by
    rcases List.mem_cons.1 hp with rfl | hp
    · exact h1.imp (fun h=>by simpa using h) id
    · exact h2.get p hp
section
variable {P:Program} {n:Nat} {N:Asn} {X:Nat→Asn} {R:Asn} {ops:Array Oper} {k:Nat} {anc:List (List Nat)} {src:List (List (Nat×Option Nat))} {fin:List (Nat×Option Nat)}
def GS [DM] (P:Program) (n:Nat) (ops:Array Oper) (anc:List (List Nat)) (src:List (List (Nat×Option Nat))) (ρ0:Env) (E:Asg→World→Prop):List (Nat×Bool)→Asg→List (Nat×PH)→World→Prop
  | [],A,_,w=>∀ w',Ext w w'→E A w'
  | (i,c) :: r,A,L,w=>∃ o,ops.toList[i]?=some o ∧
     ((gOn A o=some false∧GS P n ops anc src ρ0 E r ((i,undef) :: A) L w) ∨
      (gOn A o=some true∧c=false∧∃ (v:Value) (hs:List PH),(∀ ρ w',needs ρ0 (look A) ρ (src.getD i [])→(∀ h∈hs,Sub h w')→QX P n o ρ w' v)∧(∀ h∈hs,Sub h w)∧GS P n ops anc src ρ0 E r ((i,v) :: A) (hs.map (fun h=>(i,h))++L) w) ∨
      (gOn A o=some true∧c=true∧∀ ρ w',Ext w w'→needs ρ0 (look A) ρ (src.getD i [])→CX P n o ρ w' fun u w''=>kept (anc.getD i []) w'' L∧GS P n ops anc src ρ0 E r ((i,dv o u) :: A) L w''))
theorem GS.ext [DM] {ρ0:Env} {E:Asg→World→Prop}:∀ {pi:List (Nat×Bool)} {A:Asg} {L:List (Nat×PH)} {w w':World},GS P n ops anc src ρ0 E pi A L w→Ext w w'→GS P n ops anc src ρ0 E pi A L w'
  | [],_,_,_,_,h,x=>fun w'' y=>h w'' (x.trans y)
  | (i,c) :: r,A,L,w,w',⟨o,ho,h⟩,x=>⟨o,ho,by
    rcases h with ⟨g,h⟩ | ⟨g,hc,v,hs,h1,h2,h3⟩ | ⟨g,hc,h⟩
    · exact .inl ⟨g,h.ext x⟩
    · exact .inr (.inl ⟨g,hc,v,hs,h1,fun a ha=>(h2 a ha).ext x,h3.ext x⟩)
    · exact .inr (.inr ⟨g,hc,fun ρ w'' y=>h ρ w'' (x.trans y)⟩)⟩
/-- The parts that are held by looking. -/
def gChk (ops:Array Oper) (k:Nat) (anc:List (List Nat)) (src:List (List (Nat×Option Nat))) (fin:List (Nat×Option Nat)):Bool :=
  (List.range ops.size).all (fun i =>
    match ops.toList[i]? with
    | none=>false
    | some o =>
      (match o.guard with | none=>true | some (j,_)=>(anc.getD i []).contains j&&(dstOf ops j).isSome) &&
      o.after.toList.all (fun e => !Region.binds .any e || Nat.blt e.on i) &&
      (anc.getD i []).all (fun j=>o.after.toList.any fun e=>Region.binds .any e&&(Nat.beq e.on j || (anc.getD e.on []).contains j)) &&
      (Nat.blt i k || (List.range k).all (fun j=>(anc.getD i []).contains j))) &&
  (List.range k).all (fun i =>
    (src.getD i []).all (fun p =>
      match p.2 with
      | none=>(List.range k).all (fun m => !(dstOf ops m==some p.1) || (anc.getD m []).contains i)
      | some j=>(anc.getD i []).contains j&&dstOf ops j==some p.1&&Nat.blt j k)) &&
  (List.range k).all (fun i=>(List.range k).all fun m=>Nat.beq i m || (dstOf ops i).isNone || !(dstOf ops i==dstOf ops m)) &&
  fin.all (fun p =>
    match p.2 with
    | none=>(List.range k).all (fun m => !(dstOf ops m==some p.1))
    | some j=>dstOf ops j==some p.1&&Nat.blt j k) &&
  Nat.ble k ops.size&&(List.range k).all (fun i=>match dstOf ops i with | none=>true | some d=>Nat.blt d n)
structure GOk (n:Nat) (ops:Array Oper) (k:Nat) (anc:List (List Nat)) (src:List (List (Nat×Option Nat))) (fin:List (Nat×Option Nat)):Prop where
  guard:∀ (i:Nat) (o:Oper),ops[i]?=some o→∀ j b,o.guard=some (j,b)→j∈anc.getD i []∧∃ d,dstOf ops j=some d
  edge:∀ (i:Nat) (o:Oper),ops[i]?=some o→∀ e∈o.after,Region.binds .any e=true→e.on<i
  up:∀ (i:Nat) (o:Oper),ops[i]?=some o→∀ j∈anc.getD i [],∃ e∈o.after,Region.binds .any e=true∧(e.on=j∨j∈anc.getD e.on [])
  tail:∀ i,i<ops.size→k≤i→∀ j,j<k→j∈anc.getD i []
  base:∀ i,i<k→∀ t,(t,none)∈src.getD i []→∀ m,m<k→dstOf ops m=some t→i∈anc.getD m []
  from_:∀ i,i<k→∀ t j,(t,some j)∈src.getD i []→j∈anc.getD i []∧dstOf ops j=some t∧j<k
  uniq:∀ i,i<k→∀ m,m<k→i≠m→∀ t,dstOf ops i=some t→dstOf ops m≠some t
  finb:∀ t,(t,none)∈fin→∀ m,m<k→dstOf ops m≠some t
  finf:∀ t j,(t,some j)∈fin→dstOf ops j=some t∧j<k
  size:k≤ops.size
  low:∀ i,i<k→∀ d,dstOf ops i=some d→d<n
theorem GOk.of (h:gChk (n:=n) ops k anc src fin=true):GOk n ops k anc src fin:=by
  unfold gChk at h
  simp only [Bool.and_eq_true] at h
  obtain ⟨⟨⟨⟨⟨h1,h2⟩,h3⟩,h4⟩,h5⟩,h6⟩:=h
  have g:∀ i o,ops[i]?=some o→i<ops.size∧ops.toList[i]?=some o:=fun i o ho=>⟨(Array.getElem?_eq_some_iff.1 ho).1,by rw [Array.getElem?_toList]; exact ho⟩
  have h1':∀ i o,ops[i]?=some o→_:=fun i o ho=>by
    have:=List.all_eq_true.1 h1 i (List.mem_range.2 (g i o ho).1)
    rw [(g i o ho).2] at this
    simp only [Bool.and_eq_true] at this
    exact this
  refine ⟨fun i o ho j b hg=>?_,fun i o ho e he hb=>?_,fun i o ho j hj=>?_,fun i hi hk j hj=>?_,fun i hi t ht m hm hd=>?_,fun i hi t j ht=>?_,fun i hi m hm hne t hd=>?_,fun t ht m hm=>?_,fun t j ht=>?_,Nat.le_of_ble_eq_true h5,fun i hi d hd=>?_⟩
  · have:=(h1' i o ho).1.1.1
    rw [hg] at this
    simp only [Bool.and_eq_true] at this
    refine ⟨by simpa using this.1,?_⟩
    cases hd:dstOf ops j with
    | none=>rw [hd] at this; simp at this
    | some d=>exact ⟨d,rfl⟩
  · have:=List.all_eq_true.1 (h1' i o ho).1.1.2 e (Array.mem_toList_iff.2 he)
    simp only [hb,Bool.not_true,Bool.false_or] at this
    exact nblt this
  · have:=List.all_eq_true.1 (h1' i o ho).1.2 j hj
    obtain ⟨e,he,hb⟩:=List.any_eq_true.1 this
    simp only [Bool.and_eq_true,Bool.or_eq_true] at hb
    exact ⟨e,Array.mem_toList_iff.1 he,hb.1,hb.2.imp (fun h=>Nat.eq_of_beq_eq_true h) (fun h=>by simpa using h)⟩
  · have ho:ops[i]?=some ops[i]:=by simp [hi]
    have:=(h1' i _ ho).2
    simp only [Bool.or_eq_true] at this
    rcases this with h | h
    · have:=nblt h; omega
    · have:=List.all_eq_true.1 h j (List.mem_range.2 hj); simpa using this
  · have:=List.all_eq_true.1 (List.all_eq_true.1 h2 i (List.mem_range.2 hi)) _ ht
    have:=List.all_eq_true.1 this m (List.mem_range.2 hm)
    simpa [hd] using this
  · have:=List.all_eq_true.1 (List.all_eq_true.1 h2 i (List.mem_range.2 hi)) _ ht
    simp only [Bool.and_eq_true] at this
    exact ⟨by simpa using this.1.1,by simpa using this.1.2,nblt this.2⟩
  · have:=List.all_eq_true.1 (List.all_eq_true.1 h3 i (List.mem_range.2 hi)) m (List.mem_range.2 hm)
    simp only [Bool.or_eq_true] at this
    rcases this with (h | h) | h
    · exact absurd (Nat.eq_of_beq_eq_true h) hne
    · rw [hd] at h; cases h
    · intro hd'
      rw [hd,hd'] at h; simp at h
  · have:=List.all_eq_true.1 (List.all_eq_true.1 h4 _ ht) m (List.mem_range.2 hm)
    simpa using this
  · have:=List.all_eq_true.1 h4 _ ht
    simp only [Bool.and_eq_true] at this
    exact ⟨by simpa using this.1,nblt this.2⟩
  · have:=List.all_eq_true.1 h6 i (List.mem_range.2 hi)
    rw [hd] at this; exact nblt this
def ordGo (ops:Array Oper) (anc:List (List Nat)) (src:List (List (Nat×Option Nat))):List (Nat×Bool)→List Nat→Bool
  | [],_=>true
  | (i,c) :: r,D=>(src.getD i []).all (fun p=>match p.2 with | some j=>D.contains j | none=>true) &&
      (match (ops.toList[i]?).bind (·.guard) with | some (j,_)=>D.contains j | none=>true) &&
      (!c || r.all (fun q=>(anc.getD q.1 []).contains i))&&!D.contains i&&ordGo ops anc src r (i :: D)
def ordChk (ops:Array Oper) (k:Nat) (anc:List (List Nat)) (src:List (List (Nat×Option Nat))) (pi:List (Nat×Bool)):Bool :=
  ordGo ops anc src pi []&&pi.all (fun p=>Nat.blt p.1 k)&&(List.range k).all (fun i=>pi.any fun p=>Nat.beq p.1 i)
theorem ordGo_out:∀ {r:List (Nat×Bool)} {D:List Nat},ordGo ops anc src r D=true→∀ p∈r,p.1 ∉ D
  | [],_,_,p,hp=>by cases hp
  | (i,c) :: r,D,h,p,hp=>by
    unfold ordGo at h
    simp only [Bool.and_eq_true] at h
    rcases List.mem_cons.1 hp with rfl | hp
    · simpa using h.1.2
    · have:=ordGo_out h.2 p hp
      intro hd; exact this (by simp [hd])
/-- How matters stand in the midst: A: what has been settled; rest: what has not. -/
structure InvG [DM] (P:Program) (n:Nat) (ops:Array Oper) (k:Nat) (anc:List (List Nat)) (src:List (List (Nat×Option Nat))) (ρ0:Env) (E:Asg→World→Prop) (rest:List (Nat×Bool)) (D:List Nat) (A:Asg) (L:List (Nat×PH)) (listed:Array Bool) (ρ:Env) (w:World):Prop where
  gs:GS P n ops anc src ρ0 E rest A L w
  ord:ordGo ops anc src rest D=true
  hD:∀ j,j∈D↔(j<k∧∀ p∈rest,p.1≠j)
  low:∀ p∈rest,p.1<k
  und:∀ p∈rest,listed.getD p.1 false=false
  srcD:∀ i∈D,∀ t j,(t,some j)∈src.getD i []→j∈D
  grdD:∀ i∈D,∀ o,ops.toList[i]?=some o→∀ j b,o.guard=some (j,b)→j∈D
  dec:∀ i∈D,∃ o,ops.toList[i]?=some o∧((gOn A o=some false∧look A i=undef) ∨
    (gOn A o=some true∧(listed.getD i false=true∨∃ (hs:List PH),(∀ h∈hs,(i,h)∈L)∧∀ ρ w',needs ρ0 (look A) ρ (src.getD i [])→(∀ h∈hs,Sub h w')→QX P n o ρ w' (look A i))))
  slot:∀ i,i<k→listed.getD i false=true→∀ d,dstOf ops i=some d→ρ d=look A i
  old:∀ t,(∀ i,i<k→listed.getD i false=true→dstOf ops i≠some t)→ρ t=ρ0 t
  lq:∀ p∈L,listed.getD p.1 false=true∨Sub p.2 w
  closed:∀ i,listed.getD i false=true→∀ j∈anc.getD i [],listed.getD j false=true
  small:∀ i,listed.getD i false=true→i<k
theorem needs_congr {ρ0 ρ:Env} {a b:Nat→Value}:∀ {l:List (Nat×Option Nat)},(∀ t j,(t,some j)∈l→a j=b j)→needs ρ0 a ρ l→needs ρ0 b ρ l
  | [],_,_=>trivial
  | (t,none) :: l,h,⟨h1,h2⟩=>⟨h1,needs_congr (fun t j hj=>h t j (by simp [hj])) h2⟩
  | (t,some j) :: l,h,⟨h1,h2⟩=>⟨by rw [h1]; exact h t j (by simp),needs_congr (fun t j hj=>h t j (by simp [hj])) h2⟩
theorem gOn_congr {A B:Asg} {o:Oper} (h:∀ j b,o.guard=some (j,b)→look A j=look B j):gOn A o=gOn B o:=by
  unfold gOn
  cases hg:o.guard with
  | none=>rfl
  | some p=>obtain ⟨j,b⟩:=p; simp only; rw [h j b hg]
section
variable {ρ0:Env} {E:Asg→World→Prop} {rest:List (Nat×Bool)} {D:List Nat} {A:Asg} {L:List (Nat×PH)} {listed:Array Bool} {ρ:Env} {w:World}
/-- A move that settles an operation which has not come up. -/
theorem InvG.settle [DM] {i:Nat} {c:Bool} {o:Oper} {v:Value} {hs:List PH} (I:InvG P n ops k anc src ρ0 E ((i,c) :: rest) D A L listed ρ w) (ho:ops.toList[i]?=some o)
    (hgs:GS P n ops anc src ρ0 E rest ((i,v) :: A) (hs.map (fun h=>(i,h))++L) w) (hsub:∀ h∈hs,Sub h w)
    (hd:(gOn A o=some false∧v=undef)∨(gOn A o=some true∧∀ ρ w',needs ρ0 (look A) ρ (src.getD i [])→(∀ h∈hs,Sub h w')→QX P n o ρ w' v)) :
    InvG P n ops k anc src ρ0 E rest (i :: D) ((i,v) :: A) (hs.map (fun h=>(i,h))++L) listed ρ w:=by
  have hord:=I.ord
  unfold ordGo at hord
  simp only [Bool.and_eq_true] at hord
  obtain ⟨⟨⟨⟨o1,o2⟩,o3⟩,o4⟩,o5⟩:=hord
  have hiD:i ∉ D:=by simpa using o4
  have hout:=ordGo_out o5
  have hir:∀ p∈rest,p.1≠i:=fun p hp e=>hout p hp (by simp [e])
  have hiu:listed.getD i false=false:=I.und (i,c) (by simp)
  have hlk:∀ j,j∈D→look ((i,v) :: A) j=look A j:=fun j hj=>look_ne fun e=>hiD (e ▸ hj)
  have hsrc:∀ t j,(t,some j)∈src.getD i []→j∈D:=fun t j hj=>by
    have:=List.all_eq_true.1 o1 _ hj; simpa using this
  have hgrd:∀ o,ops.toList[i]?=some o→∀ j b,o.guard=some (j,b)→j∈D:=fun o' ho' j b hg=>by
    rw [ho'] at o2; simp only [Option.bind_some,hg] at o2; simpa using o2
  refine ⟨hgs,o5,fun j=>?_,fun p hp=>I.low p (by simp [hp]),fun p hp=>I.und p (by simp [hp]),fun m hm t j hj=>?_,fun m hm o' ho' j b hg=>?_,fun m hm=>?_,fun m hm hl d hd=>?_,I.old,fun p hp=>?_,I.closed,I.small⟩
  · constructor
    · intro hj
      rcases List.mem_cons.1 hj with rfl | hj
      · exact ⟨I.low (j,c) (by simp),hir⟩
      · exact ⟨((I.hD j).1 hj).1,fun p hp=>((I.hD j).1 hj).2 p (by simp [hp])⟩
    · rintro ⟨h1,h2⟩
      by_cases e:j=i
      · simp [e]
      · refine List.mem_cons.2 (.inr ((I.hD j).2 ⟨h1,fun p hp=>?_⟩))
        rcases List.mem_cons.1 hp with rfl | hp
        · exact fun e'=>e e'.symm
        · exact h2 p hp
  · rcases List.mem_cons.1 hm with rfl | hm
    · exact List.mem_cons.2 (.inr (hsrc t j hj))
    · exact List.mem_cons.2 (.inr (I.srcD m hm t j hj))
  · rcases List.mem_cons.1 hm with rfl | hm
    · exact List.mem_cons.2 (.inr (hgrd o' ho' j b hg))
    · exact List.mem_cons.2 (.inr (I.grdD m hm o' ho' j b hg))
  · rcases List.mem_cons.1 hm with rfl | hm
    · refine ⟨o,ho,?_⟩
      have hg:gOn ((m,v) :: A) o=gOn A o:=gOn_congr fun j b hg=>hlk j (hgrd o ho j b hg)
      rw [hg,look_eq]
      refine hd.imp id fun ⟨h1,h2⟩=>⟨h1,.inr ⟨hs,fun h hh=>List.mem_append.2 (.inl (List.mem_map.2 ⟨h,hh,rfl⟩)),fun ρ w' hn=>h2 ρ w' (needs_congr (fun t j hj=>hlk j (hsrc t j hj)) hn)⟩⟩
    · obtain ⟨o',ho',h⟩:=I.dec m hm
      refine ⟨o',ho',?_⟩
      have hg:gOn ((i,v) :: A) o'=gOn A o':=gOn_congr fun j b hg=>hlk j (I.grdD m hm o' ho' j b hg)
      rw [hg,hlk m hm]
      refine h.imp id fun ⟨h1,h2⟩=>⟨h1,h2.imp id fun ⟨hs',h3,h4⟩=>⟨hs',fun h hh=>List.mem_append.2 (.inr (h3 h hh)),fun ρ w' hn=>h4 ρ w' (needs_congr (fun t j hj=>hlk j (I.srcD m hm t j hj)) hn)⟩⟩
  · rw [I.slot m hm hl d hd,look_ne]
    rintro rfl; rw [hiu] at hl; cases hl
  · rcases List.mem_append.1 hp with hp | hp
    · obtain ⟨h,hh,rfl⟩:=List.mem_map.1 hp
      exact .inr (hsub h hh)
    · exact I.lq p hp
/-- All that can be settled without waiting is settled. -/
theorem InvG.norm [DM]:∀ {rest:List (Nat×Bool)} {D:List Nat} {A:Asg} {L:List (Nat×PH)},InvG P n ops k anc src ρ0 E rest D A L listed ρ w →
    ∃ rest' D' A' L',InvG P n ops k anc src ρ0 E rest' D' A' L' listed ρ w∧(rest'=[]∨∃ i r o,rest'=(i,true) :: r∧ops.toList[i]?=some o∧gOn A' o=some true ∧
      ∀ ρ w',Ext w w'→needs ρ0 (look A') ρ (src.getD i [])→CX P n o ρ w' fun u w''=>kept (anc.getD i []) w'' L'∧GS P n ops anc src ρ0 E r ((i,dv o u) :: A') L' w'')
  | [],D,A,L,I=>⟨[],D,A,L,I,.inl rfl⟩
  | (i,c) :: r,D,A,L,I=>by
    obtain ⟨o,ho,h⟩:=I.gs
    rcases h with ⟨g,h⟩ | ⟨g,hc,v,hs,h1,h2,h3⟩ | ⟨g,hc,h⟩
    · exact (I.settle (hs:=[]) ho (by simpa using h) (fun _ hh=>by cases hh) (.inl ⟨g,rfl⟩)).norm
    · exact (I.settle ho h3 h2 (.inr ⟨g,h1⟩)).norm
    · subst hc
      exact ⟨_,D,A,L,I,.inr ⟨i,r,o,rfl,ho,g,h⟩⟩
end
theorem AP_game [DM] {Q:Exit→Act→World→Prop} {ρ0:Env} {w0:World} (k:Nat) (anc:List (List Nat)) (src:List (List (Nat×Option Nat))) (fin:List (Nat×Option Nat)) (pi:List (Nat×Bool))
    (chk:gChk (n:=n) ops k anc src fin=true) (chk2:ordChk ops k anc src pi=true)
    (h:GS P n ops anc src ρ0 (fun A w=>∀ ρ,needs ρ0 (look A) ρ fin→AP P n ops Q k ρ w) pi [] [] w0):AP P n ops Q 0 ρ0 w0:=by
  have c:=GOk.of chk
  unfold ordChk at chk2
  simp only [Bool.and_eq_true] at chk2
  obtain ⟨⟨k1,k2⟩,k3⟩:=chk2
  let E:Asg→World→Prop:=fun A w=>∀ ρ,needs ρ0 (look A) ρ fin→AP P n ops Q k ρ w
  intro fuel0 listed0 hsz0 hf0 hl0
  have main:∀ (fuel:Nat) (listed:Array Bool) (rest:List (Nat×Bool)) (D:List Nat) (A:Asg) (L:List (Nat×PH)) (ρ:Env) (w:World),listed.size=ops.size→((List.range k).filter (fun i => !listed.getD i false)).length+(ops.size-k)≤fuel →
      InvG P n ops k anc src ρ0 E rest D A L listed ρ w→wpAny P .any ops Q fuel listed (act n ρ) w:=by
    intro fuel
    have done:∀ (fuel:Nat) (listed:Array Bool) (rest:List (Nat×Bool)) (D:List Nat) (A:Asg) (L:List (Nat×PH)) (ρ:Env) (w:World),listed.size=ops.size→ops.size-k≤fuel →
        InvG P n ops k anc src ρ0 E rest D A L listed ρ w→(∀ i,i<k→listed.getD i false=true)→wpAny P .any ops Q fuel listed (act n ρ) w:=by
      intro fuel listed rest D A L ρ w hsz hf I hall
      have hr:rest=[]:=by
        cases rest with
        | nil=>rfl
        | cons p r=>have:=I.und p (by simp); rw [hall _ (I.low p (by simp))] at this; cases this
      subst hr
      have hE:E A w:=I.gs w (Ext.refl _)
      refine hE ρ ?_ fuel listed hsz (by have:=c.size; omega) fun i hi=>⟨I.small i,hall i⟩
      have key:∀ l,(∀ p∈l,p∈fin)→needs ρ0 (look A) ρ l:=by
        intro l
        induction l with
        | nil=>intro _; trivial
        | cons p l ih =>
          intro h
          obtain ⟨t,q⟩:=p
          have hp:=h (t,q) (by simp)
          have hl:=ih fun x hx=>h x (by simp [hx])
          cases q with
          | none=>exact ⟨I.old t fun m hm _=>c.finb t hp m hm,hl⟩
          | some j=>exact ⟨I.slot j (c.finf t j hp).2 (hall j (c.finf t j hp).2) t (c.finf t j hp).1,hl⟩
      exact key _ fun p hp=>hp
    induction fuel with
    | zero =>
      intro listed rest D A L ρ w hsz hf I
      refine done 0 listed rest D A L ρ w hsz (by omega) I fun i hi=>?_
      cases hh:listed.getD i false
      · exfalso
        have:i∈(List.range k).filter (fun i => !listed.getD i false):=List.mem_filter.2 ⟨List.mem_range.2 hi,by simp [hh]⟩
        have:=List.length_pos_of_mem this
        omega
      · rfl
    | succ fuel ih =>
      intro listed rest D A L ρ w hsz hf I
      by_cases hall:∀ i,i<k→listed.getD i false=true
      · exact done _ listed rest D A L ρ w hsz (by omega) I hall
      obtain ⟨rest,D,A,L,I,hn⟩:=I.norm
      have hks:=c.size
      refine ⟨fun h0=>?_,fun i hi=>?_⟩
      · exfalso
        obtain ⟨i,hik,hi⟩:∃ i,i<k∧listed.getD i false=false:=by
          refine Classical.byContradiction fun hn=>hall fun i hi=>?_
          cases hh:listed.getD i false
          · exact absurd ⟨i,hi,hh⟩ hn
          · rfl
        have least:∀ m,m<k→listed.getD m false=false→∃ j,j<k∧listed.getD j false=false∧∀ x,x<j→listed.getD x false=true:=by
          intro m
          induction m using Nat.strongRecOn with
          | _ m ihm =>
            intro hm hl
            by_cases h:∀ x,x<m→listed.getD x false=true
            · exact ⟨m,hm,hl,h⟩
            · obtain ⟨x,hx⟩:=Classical.not_forall.1 h
              obtain ⟨hxm,hxl⟩:=Classical.not_imp.1 hx
              exact ihm x hxm (by omega) (by simpa using hxl)
        obtain ⟨j,hjk',hjl,hjx⟩:=least i hik hi
        have ho:ops[j]?=some ops[j]:=by simp [show j<ops.size by omega]
        have:j∈Region.ready .any ops listed:=ready_of ho (by
          have h3:j<listed.size:=by omega
          simpa [Array.getD_eq_getD_getElem?,h3] using hjl) fun e he hb=>hjx e.on (c.edge j _ ho e he hb)
        rw [h0] at this; cases this
      · obtain ⟨h1,h2,o,hio,he⟩:=mem_ready' hi
        have h3:i<listed.size:=by omega
        have hu:listed.getD i false=false:=by simpa [Array.getD_eq_getD_getElem?,h3] using h2
        have hanc:∀ j∈anc.getD i [],listed.getD j false=true:=fun j hj=>by
          obtain ⟨e,hee,hb,hx⟩:=c.up i o hio j hj
          rcases hx with hx | hx
          · rw [← hx]; exact he e hee hb
          · exact I.closed e.on (he e hee hb) j hx
        have hik:i<k:=by
          refine Classical.byContradiction fun hn=>hall fun m hm=>hanc m (c.tail i h1 (by omega) m hm)
        have hol:ops.toList[i]?=some o:=by rw [Array.getElem?_toList]; exact hio
        have hdst:dstOf ops i=o.dst:=by simp [dstOf,hol]
        have hneeds:needs ρ0 (look A) ρ (src.getD i []):=by
          have key:∀ l,(∀ p∈l,p∈src.getD i [])→needs ρ0 (look A) ρ l:=by
            intro l
            induction l with
            | nil=>intro _; trivial
            | cons p l ih =>
              intro h
              obtain ⟨t,q⟩:=p
              have hp:=h (t,q) (by simp)
              have hl:=ih fun x hx=>h x (by simp [hx])
              cases q with
              | none =>
                refine ⟨I.old t fun m hm hml hd=>?_,hl⟩
                have:=c.base i hik t hp m hm hd
                have:=I.closed m hml i this
                rw [hu] at this; cases this
              | some j =>
                obtain ⟨h4,h5,h6⟩:=c.from_ i hik t j hp
                exact ⟨I.slot j h6 (hanc j h4) t h5,hl⟩
          exact key _ fun p hp=>hp
        have hwant:∀ b,gOn A o=some b→Region.wanted o (yielded ops (act n ρ).tmps)=b:=fun b hb=>by
          unfold gOn at hb
          unfold Region.wanted
          split at hb
          · rename_i hg; simp only [hg]; exact Option.some.inj hb
          · rename_i j want hg
            simp only [hg]
            obtain ⟨hja,d,hjd⟩:=c.guard i o hio j want hg
            have hjl:=hanc j hja
            have hjk:=I.small j hjl
            have hsl:=I.slot j hjk hjl d hjd
            have hlt:=c.low j hjk d hjd
            have hdo:(ops[j]?).bind (·.dst)=some d:=by
              have:=hjd; unfold dstOf at this; rwa [Array.getElem?_toList] at this
            have hy:yielded ops (act n ρ).tmps j=(match ρ d with | .bool b=>some b | _=>none):=by
              unfold yielded
              rw [hdo]
              simp only [Option.bind_some]
              rw [act_get,if_pos hlt]
              cases ρ d <;> rfl
            rw [hy,hsl]
            split at hb
            · rename_i b' hb'
              rw [hb']
              have:=Option.some.inj hb
              rw [← this]
              cases b' <;> cases want <;> rfl
            · rename_i vs hvs
              rw [hvs]
              have:=Option.some.inj hb
              rw [← this]; rfl
            · cases hb
        have hmeas:((List.range k).filter (fun m => !(listed.setIfInBounds i true).getD m false)).length+(ops.size-k)≤fuel:=by
          have:=filter_lt (l:=List.range k) (p:=fun m => !listed.getD m false) (q:=fun m => !(listed.setIfInBounds i true).getD m false) (fun x hx=>by
            cases hh:listed.getD x false
            · rfl
            · have:=(listed_set (m:=x) h3).2 (.inr hh)
              simp [this] at hx) (List.mem_range.2 hik) (by simp [hu]) (by have:=(listed_set (m:=i) h3).2 (.inl rfl); simp [this])
          omega
        have hclosed:∀ m,(listed.setIfInBounds i true).getD m false=true→∀ j∈anc.getD m [],(listed.setIfInBounds i true).getD j false=true:=fun m hml j hj=>by
          rw [listed_set h3] at hml ⊢
          rcases hml with rfl | hml
          · exact .inr (hanc j hj)
          · exact .inr (I.closed m hml j hj)
        have hsmall:∀ m,(listed.setIfInBounds i true).getD m false=true→m<k:=fun m hml=>by
          rw [listed_set h3] at hml
          rcases hml with rfl | hml
          · exact hik
          · exact I.small m hml
        have slots:∀ (A':Asg) (u:Value),(∀ d,o.dst=some d→u=look A' i)→(∀ m,listed.getD m false=true→look A' m=look A m) →
            (∀ m,m<k→(listed.setIfInBounds i true).getD m false=true→∀ d,dstOf ops m=some d→updO ρ o.dst u d=look A' m) ∧
            (∀ t,(∀ m,m<k→(listed.setIfInBounds i true).getD m false=true→dstOf ops m≠some t)→updO ρ o.dst u t=ρ0 t):=by
          intro A' u hu' hb'
          constructor
          · intro m hm hml d hd
            rw [listed_set h3] at hml
            by_cases hmi:m=i
            · subst hmi
              rw [hdst] at hd
              rw [hd]; simp [updO,upd,hu' d hd]
            · have hml:=hml.resolve_left hmi
              have hs:=I.slot m hm hml d hd
              cases hod:o.dst with
              | none=>simp only [updO]; rw [hs,hb' m hml]
              | some d' =>
                have hne:d≠d':=fun e=>c.uniq m hm i hik hmi d hd (by rw [hdst,hod,e])
                simp only [updO,upd,if_neg hne]; rw [hs,hb' m hml]
          · intro t ht
            have h4:=I.old t fun m hm hml=>ht m hm ((listed_set h3).2 (.inr hml))
            cases hod:o.dst with
            | none=>exact h4
            | some d' =>
              have hne:t≠d':=fun e=>ht i hik ((listed_set h3).2 (.inl rfl)) (by rw [hdst,hod,e])
              simp only [updO,upd,if_neg hne]; exact h4
        unfold wpOp
        rw [hio]
        simp only
        by_cases hiD:i∈D
        · -- settled already
          have hund:∀ p∈rest,(listed.setIfInBounds i true).getD p.1 false=false:=fun p hp=>by
            have h4:=I.und p hp
            have h5:p.1≠i:=((I.hD i).1 hiD).2 p hp
            cases hh:(listed.setIfInBounds i true).getD p.1 false
            · rfl
            · rcases (listed_set h3).1 hh with e | e
              · exact absurd e h5
              · rw [h4] at e; cases e
          obtain ⟨s1,s2⟩:=slots A (look A i) (fun _ _=>rfl) (fun _ _=>rfl)
          have next:∀ w',Ext w w'→wpAny P .any ops Q fuel (listed.setIfInBounds i true) (act n (updO ρ o.dst (look A i))) w':=fun w' x =>
            ih _ rest D A L _ w' (by simpa using hsz) hmeas ⟨I.gs.ext x,I.ord,I.hD,I.low,hund,I.srcD,I.grdD,fun m hm=>by
              obtain ⟨o',ho',hd⟩:=I.dec m hm
              exact ⟨o',ho',hd.imp id fun ⟨g,hd⟩=>⟨g,hd.imp (fun hl=>(listed_set h3).2 (.inr hl)) id⟩⟩,s1,s2,fun p hp=>(I.lq p hp).imp (fun hl=>(listed_set h3).2 (.inr hl)) fun e=>e.ext x,hclosed,hsmall⟩
          obtain ⟨o',ho',hd⟩:=I.dec i hiD
          rw [hol] at ho'; cases ho'
          rcases hd with ⟨g,hv⟩ | ⟨g,hd⟩
          · rw [hwant false g,if_neg (by decide),act_putO,← hv]
            exact next w (Ext.refl _)
          · rw [hwant true g,if_pos rfl]
            left
            rcases hd with hl | ⟨hs,hs1,hs2⟩
            · rw [hu] at hl; cases hl
            unfold Oper.wp
            rw [act_eval']
            have hq:=hs2 ρ w hneeds fun h hh=>(I.lq _ (hs1 h hh)).resolve_left (by rw [hu]; simp)
            rcases hq with hr | ⟨f,args,hr,hc⟩
            · rw [hr]; simp only [Oper.upon]; rw [act_putO]; exact next w (Ext.refl _)
            · rw [hr]; simp only [Oper.upon]
              refine Calls.mono hc fun e w'' h'=>?_
              cases e with
              | returned u=>obtain ⟨rfl,x⟩:=h'; simp only; rw [act_putO]; exact next w'' x
              | panicked _=>exact h'.elim
              | outgrown=>exact h'.elim
        · -- the next of the chain
          have hin:∃ p∈rest,p.1=i:=by
            refine Classical.byContradiction fun hn=>hiD ((I.hD i).2 ⟨hik,fun p hp e=>hn ⟨p,hp,e⟩⟩)
          rcases hn with rfl | ⟨i',r,o',rfl,ho',g,hcx⟩
          · obtain ⟨p,hp,_⟩:=hin; cases hp
          have hord:=I.ord
          unfold ordGo at hord
          simp only [Bool.and_eq_true,Bool.not_true,Bool.false_or] at hord
          obtain ⟨⟨⟨⟨o1,o2⟩,o3⟩,o4⟩,o5⟩:=hord
          have hii:i=i':=by
            obtain ⟨p,hp,hpi⟩:=hin
            rcases List.mem_cons.1 hp with rfl | hp
            · exact hpi.symm
            · exfalso
              have:=List.all_eq_true.1 o3 p hp
              have h4:i'∈anc.getD i []:=by rw [← hpi]; simpa using this
              have h5:=hanc i' h4
              rw [I.und (i',true) (by simp)] at h5; cases h5
          subst hii
          rw [hol] at ho'; cases ho'
          rw [hwant true g,if_pos rfl]
          left
          have hout:=ordGo_out o5
          have hir:∀ p∈r,p.1≠i:=fun p hp e=>hout p hp (by simp [e])
          have hlk:∀ u j,j∈D→look ((i,u) :: A) j=look A j:=fun u j hj=>look_ne fun e=>hiD (e ▸ hj)
          have hsrc:∀ t j,(t,some j)∈src.getD i []→j∈D:=fun t j hj=>by
            have:=List.all_eq_true.1 o1 _ hj; simpa using this
          have hgrd:∀ j b,o.guard=some (j,b)→j∈D:=fun j b hg=>by
            rw [hol] at o2; simp only [Option.bind_some,hg] at o2; simpa using o2
          have lisD:∀ m,listed.getD m false=true→m∈D:=fun m hm=>(I.hD m).2 ⟨I.small m hm,fun p hp e=>by have:=I.und p hp; rw [e,hm] at this; cases this⟩
          have next:∀ u w',kept (anc.getD i []) w' L→GS P n ops anc src ρ0 E r ((i,dv o u) :: A) L w'→wpAny P .any ops Q fuel (listed.setIfInBounds i true) (act n (updO ρ o.dst u)) w':=fun u w' hk hg=>by
            obtain ⟨s1,s2⟩:=slots ((i,dv o u) :: A) u (fun d hd=>by rw [look_eq,dv_some hd]) (fun m hm=>hlk _ m (lisD m hm))
            refine ih _ r (i :: D) ((i,dv o u) :: A) L _ w' (by simpa using hsz) hmeas ⟨hg,o5,fun j=>?_,fun p hp=>I.low p (by simp [hp]),fun p hp=>?_,fun m hm t j hj=>?_,fun m hm o' ho' j b hg'=>?_,fun m hm=>?_,s1,s2,fun p hp=>?_,hclosed,hsmall⟩
            · constructor
              · intro hj
                rcases List.mem_cons.1 hj with rfl | hj
                · exact ⟨hik,hir⟩
                · exact ⟨((I.hD j).1 hj).1,fun p hp=>((I.hD j).1 hj).2 p (by simp [hp])⟩
              · rintro ⟨h4,h5⟩
                by_cases e:j=i
                · simp [e]
                · refine List.mem_cons.2 (.inr ((I.hD j).2 ⟨h4,fun p hp=>?_⟩))
                  rcases List.mem_cons.1 hp with rfl | hp
                  · exact fun e'=>e e'.symm
                  · exact h5 p hp
            · have h4:=I.und p (by simp [hp])
              cases hh:(listed.setIfInBounds i true).getD p.1 false
              · rfl
              · rcases (listed_set h3).1 hh with e | e
                · exact absurd e (hir p hp)
                · rw [h4] at e; cases e
            · rcases List.mem_cons.1 hm with rfl | hm
              · exact List.mem_cons.2 (.inr (hsrc t j hj))
              · exact List.mem_cons.2 (.inr (I.srcD m hm t j hj))
            · rcases List.mem_cons.1 hm with rfl | hm
              · rw [hol] at ho'; cases ho'
                exact List.mem_cons.2 (.inr (hgrd j b hg'))
              · exact List.mem_cons.2 (.inr (I.grdD m hm o' ho' j b hg'))
            · rcases List.mem_cons.1 hm with rfl | hm
              · refine ⟨o,hol,.inr ⟨?_,.inl ((listed_set h3).2 (.inl rfl))⟩⟩
                rw [← g]; exact gOn_congr fun j b hg'=>hlk _ j (hgrd j b hg')
              · obtain ⟨o',ho',h⟩:=I.dec m hm
                refine ⟨o',ho',?_⟩
                have hg:gOn ((i,dv o u) :: A) o'=gOn A o':=gOn_congr fun j b hg=>hlk _ j (I.grdD m hm o' ho' j b hg)
                rw [hg,hlk _ m hm]
                exact h.imp id fun ⟨h1,h2⟩=>⟨h1,h2.imp (fun hl=>(listed_set h3).2 (.inr hl)) fun ⟨hs',h3,h4⟩=>⟨hs',h3,fun ρ w' hn=>h4 ρ w' (needs_congr (fun t j hj=>hlk _ j (I.srcD m hm t j hj)) hn)⟩⟩
            · rcases hk.get p hp with e | e
              · exact .inl ((listed_set h3).2 (.inr (hanc _ e)))
              · exact .inr e
          unfold Oper.wp
          rw [act_eval']
          rcases hcx ρ w (Ext.refl _) hneeds with ⟨u,w',hr,hk,hg⟩ | ⟨w',hr,hk,hg⟩ | ⟨f,args,w',hr,hc⟩ | ⟨row,args,w',hr,hc⟩
          · rw [hr]; simp only [Oper.upon]; rw [act_putO]; exact next u w' hk hg
          · rw [hr]; simp only [Oper.upon]; rw [act_putO]; exact next undef w' hk hg
          · rw [hr]; simp only [Oper.upon]
            refine Calls.mono hc fun e w'' h'=>?_
            cases e with
            | returned u=>simp only; rw [act_putO]; exact next u w'' h'.1 h'.2
            | panicked _=>exact h'.elim
            | outgrown=>exact h'.elim
          · rw [hr]; simp only [Oper.upon]
            refine Rows.mono hc fun u w'' h'=>?_
            rw [act_putO]; exact next u w'' h'.1 h'.2
  have hks:=c.size
  have l0:∀ i,listed0.getD i false=false:=fun i=>by
    by_cases hi:i<ops.size
    · cases hh:listed0.getD i false
      · rfl
      · have:=(hl0 i hi).1 hh; omega
    · have:¬ i<listed0.size:=by omega
      simp [Array.getD_eq_getD_getElem?,this]
  have no:∀ i,¬ listed0.getD i false=true:=fun i h=>by rw [l0 i] at h; cases h
  refine main fuel0 listed0 pi [] [] [] ρ0 _ hsz0 ?_ ⟨h,k1,fun j=>⟨fun hj=>(by cases hj),fun ⟨h1,h2⟩=>?_⟩,fun p hp=>nblt (List.all_eq_true.1 k2 p hp),fun p _=>l0 _,fun m hm=>by (cases hm),fun m hm=>by (cases hm),fun m hm=>by (cases hm),
    fun i _ hl=>absurd hl (no i),fun t _=>rfl,fun p hp=>by (cases hp),fun i hl=>absurd hl (no i),fun i hl=>absurd hl (no i)⟩
  · have:((List.range k).filter (fun i => !listed0.getD i false)).length≤k:=by
      have:=List.length_filter_le (fun i => !listed0.getD i false) (List.range k); simpa using this
    omega
  · exfalso
    have:=List.all_eq_true.1 k3 j (List.mem_range.2 h1)
    obtain ⟨p,hp,e⟩:=List.any_eq_true.1 this
    exact h2 p hp (Nat.eq_of_beq_eq_true e)
section
variable {ρ0:Env} {E:Asg→World→Prop} {r:List (Nat×Bool)} {A:Asg} {L:List (Nat×PH)} {w:World} {T:Ty}
/-- No memory is read. -/
theorem GS_r0 [DM] {i:Nat} {o:Oper} (l:List (Nat×Value)) (v:Value) (ho:ops.toList[i]?=some o) (hg:gOn A o=some true) (hl:∀ ρ,needs ρ0 (look A) ρ (src.getD i [])→agrees ρ l)
    (h:∀ ρ w',(execOp (opd n (setAll l ρ)) o).run P w' = .ok (.value v) w') (H:GS P n ops anc src ρ0 E r ((i,v) :: A) L w):GS P n ops anc src ρ0 E ((i,false) :: r) A L w :=
  ⟨o,ho,.inr (.inl ⟨hg,rfl,v,[],fun ρ w' hn _ => .inl (forget (R:=fun ρ=>(execOp (opd n ρ) o).run P w' = .ok (.value v) w') l (hl ρ hn) fun ρ=>h ρ w'),fun _ hh=>(by cases hh),H⟩)⟩
theorem GS_ev [DM] (ok:TyOk P T) {i:Nat} {o:Oper} (l:List (Nat×Value)) (v:Value) (ho:ops.toList[i]?=some o) (hg:gOn A o=some true) (hl:∀ ρ,needs ρ0 (look A) ρ (src.getD i [])→agrees ρ l)
    (h:∀ ρ,evOp T n (setAll l ρ) o.op=some v) (H:GS P n ops anc src ρ0 E r ((i,v) :: A) L w):GS P n ops anc src ρ0 E ((i,false) :: r) A L w :=
  GS_r0 l v ho hg hl (fun ρ _=>run_evOp ok (h ρ)) H
theorem GS_r1 [DM] {i:Nat} {o:Oper} {h:PH} (l:List (Nat×Value)) (v:Value) (ho:ops.toList[i]?=some o) (hg:gOn A o=some true) (hl:∀ ρ,needs ρ0 (look A) ρ (src.getD i [])→agrees ρ l)
    (hr:∀ ρ w',Sub h w'→(execOp (opd n (setAll l ρ)) o).run P w' = .ok (.value v) w') (e:Sub h w) (H:GS P n ops anc src ρ0 E r ((i,v) :: A) ((i,h) :: L) w):GS P n ops anc src ρ0 E ((i,false) :: r) A L w :=
  ⟨o,ho,.inr (.inl ⟨hg,rfl,v,[h],fun ρ w' hn hs => .inl (forget (R:=fun ρ=>(execOp (opd n ρ) o).run P w' = .ok (.value v) w') l (hl ρ hn) fun ρ=>hr ρ w' (hs h (by simp))),fun a hh=>(by simp at hh; subst hh; exact e),H⟩)⟩
def subAll:List PH→World→Prop
  | [],_=>True
  | h :: hs,w=>Sub h w∧subAll hs w
theorem subAll_iff:∀ {hs:List PH} {w:World},subAll hs w↔∀ h∈hs,Sub h w
  | [],w=>⟨fun _ h hh=>(by cases hh),fun _=>trivial⟩
  | h :: hs,w=>by simp [subAll,subAll_iff (hs:=hs) (w:=w)]
/-- A call that comes to the same whatever the world: what it reads stands. -/
theorem GS_q [DM] {i:Nat} {f:FuncId} {o:Oper} {args:Array Operand} {tys:Array TypeId} (l:List (Nat×Value)) (v:Value) (hs:List PH) (vals:List Value) (ho:ops.toList[i]?=some o) (hg:gOn A o=some true) (hl:∀ ρ,needs ρ0 (look A) ρ (src.getD i [])→agrees ρ l)
    (hop:o.op = .call ⟨.value (.func f),args,tys⟩) (hf:Callable P f) (ha:∀ ρ,args.toList.map (opd n (setAll l ρ))=vals) (hc:∀ w',subAll hs w'→CallsTo P f vals.toArray w' fun u w''=>u=v∧Ext w' w'') (e:subAll hs w)
    (H:GS P n ops anc src ρ0 E r ((i,v) :: A) (hs.map (fun h=>(i,h))++L) w):GS P n ops anc src ρ0 E ((i,false) :: r) A L w :=
  ⟨o,ho,.inr (.inl ⟨hg,rfl,v,hs,fun ρ w' hn hs' => .inr ⟨f,vals.toArray,forget (R:=fun ρ=>(execOp (opd n ρ) o).run P w' = .ok (.enter f vals.toArray) w') l (hl ρ hn) fun ρ=>ex_call hop hf (ha ρ) w',hc w' (subAll_iff.2 hs')⟩,subAll_iff.1 e,H⟩)⟩
/-- The operation alone, without its guard. -/
def solo (o:Oper):Oper:=⟨o.dst,o.op,o.type,o.pos,o.after,none⟩
def QK (n:Nat) (o:Oper) (ρ:Env) (K:Value→World→Prop):Exit→Act→World→Prop
  | .normal,a,w=>∃ u,a=act n (updO ρ o.dst u)∧K (dv o u) w
  | _,_,_=>False
def dOk (n:Nat):Option Nat→Bool
  | none=>true
  | some d=>Nat.blt d n
theorem put_inj {ρ:Env} {d:Option Nat} {u v:Value} {o:Oper} (hd:o.dst=d) (hk:dOk n d=true) (h:act n (updO ρ d u)=act n (updO ρ d v)):dv o u=dv o v:=by
  subst hd
  cases hod:o.dst with
  | none=>simp [dv,hod]
  | some d =>
    rw [hod] at h hk
    rw [dv_some hod,dv_some hod]
    have hlt:d<n:=nblt hk
    have h1:=congrArg (fun a:Act=>a.tmps[d]?) h
    simp only [act_get,if_pos hlt,updO,upd,if_true,Option.some.injEq] at h1
    exact h1
/-- An operation that makes or writes: walked by itself. -/
theorem GS_lp [DM] {i:Nat} {o:Oper} (l:List (Nat×Value)) (ho:ops.toList[i]?=some o) (hg:gOn A o=some true) (hl:∀ ρ,needs ρ0 (look A) ρ (src.getD i [])→agrees ρ l) (hd:dOk n o.dst=true)
    (H:∀ ρ w',Ext w w'→LP P n #[solo o] (QK n o (setAll l ρ) fun u w''=>kept (anc.getD i []) w'' L∧GS P n ops anc src ρ0 E r ((i,u) :: A) L w'') 0 (setAll l ρ) w'):GS P n ops anc src ρ0 E ((i,true) :: r) A L w:=by
  refine ⟨o,ho,.inr (.inr ⟨hg,rfl,fun ρ w' x hn=>?_⟩)⟩
  refine forget (R:=fun ρ=>CX P n o ρ w' fun u w''=>kept (anc.getD i []) w'' L∧GS P n ops anc src ρ0 E r ((i,dv o u) :: A) L w'') l (hl ρ hn) fun ρ=>?_
  have h:=H ρ w' x
  generalize setAll l ρ=ρ at h
  unfold LP at h
  simp only [List.drop_zero] at h
  unfold wpList at h
  have hw:Region.wanted (solo o) (yielded #[solo o] (act n ρ).tmps)=true:=rfl
  rw [hw,if_pos rfl] at h
  rcases h with h | ⟨_,h⟩
  · unfold Oper.wp at h
    rw [act_eval'] at h
    have hs:execOp (opd n ρ) (solo o)=execOp (opd n ρ) o:=rfl
    rw [hs] at h
    unfold CX
    generalize (execOp (opd n ρ) o).run P w'=res at h ⊢
    cases res with
    | ok nx w'' =>
      cases nx
      case value v =>
        simp only [Oper.upon] at h
        left
        simp only [wpList,QK] at h
        obtain ⟨u,h1,h2⟩:=h
        rw [act_putO] at h1
        have:=put_inj (o:=o) rfl hd h1
        rw [← this] at h2
        exact ⟨v,w'',rfl,h2⟩
      case skip =>
        simp only [Oper.upon] at h
        right; left
        simp only [wpList,QK] at h
        obtain ⟨u,h1,h2⟩:=h
        rw [act_putO] at h1
        have:=put_inj (o:=o) rfl hd h1
        rw [← this] at h2
        exact ⟨w'',rfl,h2⟩
      case enter f args =>
        simp only [Oper.upon] at h
        right; right; left
        refine ⟨f,args,w'',rfl,Calls.mono h fun e w3 h'=>?_⟩
        cases e with
        | returned v =>
          simp only [wpList,QK] at h' ⊢
          obtain ⟨u,h1,h2⟩:=h'
          rw [act_putO] at h1
          have:=put_inj (o:=o) rfl hd h1
          rw [← this] at h2
          exact h2
        | panicked _=>simp [QK] at h'
        | outgrown=>simp [LetsOut,QK] at h'
      case row row args =>
        simp only [Oper.upon] at h
        right; right; right
        refine ⟨row,args,w'',rfl,Rows.mono h fun v w3 h'=>?_⟩
        simp only [wpList,QK] at h' ⊢
        obtain ⟨u,h1,h2⟩:=h'
        rw [act_putO] at h1
        have:=put_inj (o:=o) rfl hd h1
        rw [← this] at h2
        exact h2
      case defer d =>
        simp only [Oper.upon,wpList,QK] at h
        obtain ⟨u,h1,_⟩:=h
        have:=congrArg (fun a:Act=>a.defers) h1
        cases hq:(solo o).dst <;> simp [hq,Act.put,act] at this
      all_goals simp [Oper.upon] at h
    | halt e w''=>cases e <;> simp [Oper.upon,QK] at h
  · simp [LetsOut,QK] at h
theorem LP_gs {o:Oper} {ρ:Env} {u:Value} {K:Value→World→Prop} (h:K (dv o u) w):LP P n #[solo o] (QK n o ρ K) 1 (updO ρ (solo o).dst u) w:=by
  unfold LP; exact ⟨u,rfl,h⟩
end
/-- What is left stands one behind the other. -/
def tailChk (ops:Array Oper) (k:Nat) (anc:List (List Nat)):Bool :=
  (List.range ops.size).all (fun i =>
    match ops.toList[i]? with
    | none=>false
    | some o =>
      o.after.toList.all (fun e => !Region.binds .any e || Nat.blt e.on i) &&
      (anc.getD i []).all (fun j=>o.after.toList.any fun e=>Region.binds .any e&&(Nat.beq e.on j || (anc.getD e.on []).contains j)) &&
      (Nat.blt i k || (List.range i).all (fun j=>(anc.getD i []).contains j)))&&Nat.ble k ops.size
theorem AP_tail {ρ:Env} {w:World} {Q:Exit→Act→World→Prop} (k:Nat) (anc:List (List Nat)) (chk:tailChk ops k anc=true) (h:LP P n ops Q k ρ w):AP P n ops Q k ρ w:=by
  unfold tailChk at chk
  simp only [Bool.and_eq_true] at chk
  obtain ⟨chk,hks⟩:=chk
  have hks:=Nat.le_of_ble_eq_true hks
  have g:∀ i o,ops[i]?=some o→_:=fun i o ho=>by
    have hi:i<ops.size:=(Array.getElem?_eq_some_iff.1 ho).1
    have:=List.all_eq_true.1 chk i (List.mem_range.2 hi)
    rw [show ops.toList[i]?=some o by rw [Array.getElem?_toList]; exact ho] at this
    simp only [Bool.and_eq_true] at this
    exact this
  have edge:∀ (i:Nat) (o:Oper),ops[i]?=some o→∀ e∈o.after,Region.binds .any e=true→e.on<i:=fun i o ho e he hb=>by
    have:=List.all_eq_true.1 (g i o ho).1.1 e (Array.mem_toList_iff.2 he)
    simp only [hb,Bool.not_true,Bool.false_or] at this
    exact nblt this
  have up:∀ (i:Nat) (o:Oper),ops[i]?=some o→∀ j∈anc.getD i [],∃ e∈o.after,Region.binds .any e=true∧(e.on=j∨j∈anc.getD e.on []):=fun i o ho j hj=>by
    have:=List.all_eq_true.1 (g i o ho).1.2 j hj
    obtain ⟨e,he,hb⟩:=List.any_eq_true.1 this
    simp only [Bool.and_eq_true,Bool.or_eq_true] at hb
    exact ⟨e,Array.mem_toList_iff.1 he,hb.1,hb.2.imp (fun h=>Nat.eq_of_beq_eq_true h) (fun h=>by simpa using h)⟩
  have tail:∀ i,i<ops.size→k≤i→∀ j,j<i→j∈anc.getD i []:=fun i hi hk j hj=>by
    have ho:ops[i]?=some ops[i]:=by simp [hi]
    have:=(g i _ ho).2
    simp only [Bool.or_eq_true] at this
    rcases this with h | h
    · have:=nblt h; omega
    · have:=List.all_eq_true.1 h j (List.mem_range.2 hj); simpa using this
  have small:∀ m,m<ops.size→∀ x∈anc.getD m [],x<m:=by
    intro m
    induction m using Nat.strongRecOn with
    | _ m ihm =>
      intro hm x hx
      obtain ⟨e,hee,hb,hx'⟩:=up m ops[m] (by simp [hm]) x hx
      have:=edge m _ (by simp [hm]) e hee hb
      rcases hx' with hx' | hx'
      · omega
      · have:=ihm e.on this (by omega) x hx'; omega
  have main:∀ (fuel j:Nat) (listed:Array Bool) (a:Act) (w:World),ops.size≤j+fuel→k≤j→listed.size=ops.size →
      (∀ i,i<ops.size→(listed.getD i false=true↔i<j))→wpList P ops Q (ops.toList.drop j) a w→wpAny P .any ops Q fuel listed a w:=by
    intro fuel
    have fin_:∀ (j:Nat) (listed:Array Bool) (a:Act) (w:World),ops.size≤j→listed.size=ops.size→(∀ i,i<ops.size→(listed.getD i false=true↔i<j))→wpList P ops Q (ops.toList.drop j) a w →
        Region.ready .any ops listed=[]∧Q .normal a w:=by
      intro j listed a w hj hsz hl h
      have hd:ops.toList.drop j=[]:=List.drop_eq_nil_of_le (by simp; omega)
      rw [hd] at h
      refine ⟨List.eq_nil_iff_forall_not_mem.2 fun i hi=>?_,h⟩
      obtain ⟨h1,h2,_⟩:=mem_ready' hi
      have h3:i<listed.size:=by omega
      have h4:listed.getD i true=listed.getD i false:=by simp [Array.getD_eq_getD_getElem?,h3]
      rw [h4,(hl i h1).2 (by omega)] at h2; cases h2
    induction fuel with
    | zero=>intro j listed a w hj hk hsz hl h; exact fin_ j listed a w (by omega) hsz hl h
    | succ fuel ih =>
      intro j listed a w hj hk hsz hl h
      by_cases hjs:j<ops.size
      case neg =>
        obtain ⟨h1,h2⟩:=fin_ j listed a w (by omega) hsz hl h
        exact ⟨fun _=>h2,fun i hi=>by rw [h1] at hi; cases hi⟩
      have ho:ops[j]?=some ops[j]:=by simp [hjs]
      have hrj:j∈Region.ready .any ops listed:=by
        refine ready_of ho ?_ fun e he hb=>(hl e.on (by have:=edge j _ ho e he hb; omega)).2 (edge j _ ho e he hb)
        have h3:j<listed.size:=by omega
        have h4:listed.getD j true=listed.getD j false:=by simp [Array.getD_eq_getD_getElem?,h3]
        rw [h4]
        cases hh:listed.getD j false
        · rfl
        · have:=(hl j hjs).1 hh; omega
      refine ⟨fun h0=>(by rw [h0] at hrj; cases hrj),fun i hi=>?_⟩
      obtain ⟨h1,h2,o,hio,he⟩:=mem_ready' hi
      have h3:i<listed.size:=by omega
      have h4:listed.getD i true=listed.getD i false:=by simp [Array.getD_eq_getD_getElem?,h3]
      rw [h4] at h2
      have hij:i=j:=by
        rcases Nat.lt_trichotomy i j with h5 | h5 | h5
        · have:=(hl i h1).2 h5; rw [h2] at this; cases this
        · exact h5
        · exfalso
          have ha:=tail i h1 (by omega) j h5
          obtain ⟨e,hee,hb,hx⟩:=up i o hio j ha
          have hlt:=edge i _ hio e hee hb
          have hel:=(hl e.on (by omega)).1 (he e hee hb)
          rcases hx with hx | hx
          · omega
          · have:=small e.on (by omega) j hx; omega
      subst hij
      have hdrop:ops.toList.drop i=ops[i] :: ops.toList.drop (i+1):=drop_cons (by simp [hjs])
      rw [hdrop] at h
      have hl':∀ m,m<ops.size→((listed.setIfInBounds i true).getD m false=true↔m<i+1):=fun m hm=>by
        rw [listed_set h3,hl m hm]; omega
      have next:∀ a' w',wpList P ops Q (ops.toList.drop (i+1)) a' w'→wpAny P .any ops Q fuel (listed.setIfInBounds i true) a' w':=fun a' w' h' =>
        ih (i+1) _ a' w' (by omega) (by omega) (by simpa using hsz) hl' h'
      unfold wpOp
      rw [ho]
      simp only [wpList] at h
      split at h
      · rename_i hw; simp only [hw,if_true]; exact h.imp (Oper.wp_mono next) id
      · rename_i hw; simp only [hw]; exact next _ _ h
  intro fuel listed hsz hf hl
  exact main fuel k listed _ _ hf (Nat.le_refl _) hsz hl (by unfold LP at h; exact h)
end
end Go.Gv
/- Open regions in which several operations that make or write may come first: each of them is walked. -/
namespace Go.Gv
open Go Go.RowKit
section
variable {P:Program} {n:Nat} {N:Asn} {X:Nat→Asn} {R:Asn} {ops:Array Oper} {k:Nat} {anc:List (List Nat)} {src:List (List (Nat×Option Nat))} {fin:List (Nat×Option Nat)}
end
end Go.Gv
/- Open regions: several operations that make something new stand in no order; what they make does not depend on it. -/
namespace Go.Gv
open Go Go.RowKit
section
variable {P:Program} {n:Nat} {ops:Array Oper} {anc:List (List Nat)} {src:List (List (Nat×Option Nat))} {ρ0:Env} {E:Asg→World→Prop}
/-- An operation that makes something. -/
structure Mkr where
  i:Nat
  l:List (Nat×Value)
  R:Value→PH→Prop
def zipA:List Mkr→List Value→Asg
  | m :: r,v :: vs=>(m.i,v) :: zipA r vs
  | _,_=>[]
end
end Go.Gv
/- Slices that the call owns whole: the row, and what its elements lead to. -/
namespace Go.Gv
open Go Go.RowKit
class Deep (α:Type) extends Enc α where
  own:PH→List Value→α→Prop
  ord:∀ {h cs x},own h cs x→rd h cs x
instance deepFlat {α:Type} [i:Flat α]:Deep α where
  own h cs x:=h=emp∧Enc.rd emp cs x
  ord:=fun ⟨e,r⟩=>by subst e; exact r
theorem un_none {h g:PH} {b:Nat}:un h g b=none↔h b=none∧g b=none:=by unfold un; cases h b <;> simp
theorem un_emp (h:PH):un h emp=h:=by funext b; unfold un emp; cases h b <;> rfl
theorem emp_un (h:PH):un emp h=h:=by funext b; rfl
theorem un_assoc (a b c:PH):un (un a b) c=un a (un b c):=by funext k; unfold un; cases a k <;> rfl
theorem Dj.comm {h g:PH} (d:Dj h g):un h g=un g h:=by
  funext b; unfold un
  rcases d b with e | e <;> rw [e]
  · cases g b <;> rfl
  · cases h b <;> rfl
theorem Dj.un_r {h a b:PH} (x:Dj h a) (y:Dj h b):Dj h (un a b):=fun k=>by
  rcases x k with e | e
  · exact .inl e
  · rcases y k with e' | e'
    · exact .inl e'
    · exact .inr (un_none.2 ⟨e,e'⟩)
theorem Dj.un_l {h a b:PH} (x:Dj a h) (y:Dj b h):Dj (un a b) h:=(Dj.un_r x.symm y.symm).symm
theorem Dj.of_l {h a b:PH} (x:Dj h (un a b)):Dj h a:=fun k=>(x k).imp id fun e=>(un_none.1 e).1
theorem Dj.of_r {h a b:PH} (x:Dj h (un a b)):Dj h b:=fun k=>(x k).imp id fun e=>(un_none.1 e).2
theorem Dj.emp_r (h:PH):Dj h emp:=fun _ => .inr rfl
theorem Dj.emp_l (h:PH):Dj emp h:=fun _ => .inl rfl
theorem Le.un_r {h g:PH} (d:Dj h g):Le g (un h g):=fun b o e=>by
  unfold un
  rcases d b with x | x
  · rw [x]; exact e
  · rw [x] at e; cases e
theorem Sub.le {h g:PH} {w:World} (e:Sub g w) (l:Le h g):Sub h w:=fun b o x=>e b o (l b o x)
/-- Where h ends, h' ends. -/
def Dom (h h':PH):Prop:=∀ b,h b=none→h' b=none
theorem Dom.refl (h:PH):Dom h h:=fun _ x=>x
theorem Dom.le {h h':PH} (d:Dom h h') (n:Nat):DomLe h n h':=fun b e _=>d b e
theorem Dom.trans {h h' h'':PH} (d:Dom h h') (e:Dom h' h''):Dom h h'':=fun b x=>e b (d b x)
theorem Dom.l (a b:PH):Dom (Gv.un a b) a:=fun _ e=>(un_none.1 e).1
theorem Dom.r (a b:PH):Dom (Gv.un a b) b:=fun _ e=>(un_none.1 e).2
theorem But.dom [DM] {h h':PH} {w w':World} (x:But h w w') (d:Dom h' h):But h' w w':=⟨x.os,x.tape,x.output,x.size,fun k hk e=>x.block k hk (d k e),x.drawn⟩
theorem DomLe.dom {a b c:PH} {n:Nat} (x:Dom a b) (y:DomLe b n c):DomLe a n c:=fun k e hk=>y k (x k e) hk
theorem Fresh.un {n:Nat} {a b:PH} (x:Fresh n a) (y:Fresh n b):Fresh n (un a b):=fun k hk=>un_none.2 ⟨x k hk,y k hk⟩
def ownL {α:Type} [Deep α]:PH→List Value→List α→Prop
  | r,cells,[]=>cells=[]∧r=emp
  | r,cells,x :: xs=>∃ c cr h1 h2,cells=c++cr∧r=un h1 h2∧Dj h1 h2∧Deep.own h1 c x∧ownL h2 cr xs
/-- v is a slice whose row, and all that its elements lead to, h holds: each part apart from the others. -/
def OD {α:Type} [Deep α] (h:PH) (v:Value) (xs:List α):Prop :=
  ∃ cells hr r,OwnC 0 (Enc.n α) hr v xs.length cells∧h=un hr r∧Dj hr r∧ownL r cells xs
section
variable {α:Type} [Deep α] {h r:PH} {v:Value} {xs ys:List α} {cells:List Value}
theorem ownL.rd (o:ownL r cells xs):rdL r cells xs:=by
  induction xs generalizing r cells with
  | nil=>exact o.1
  | cons x xs ih =>
    obtain ⟨c,cr,h1,h2,rfl,rfl,d,hx,ho⟩:=o
    exact ⟨c,cr,rfl,Enc.le (Le.un_left _ _) (Deep.ord hx),(ih ho).le (Le.un_r d)⟩
theorem ownL.append {q:PH} {c2:List Value} (o:ownL r cells xs) (p:ownL q c2 ys) (d:Dj r q):ownL (un r q) (cells++c2) (xs++ys):=by
  induction xs generalizing r cells with
  | nil=>obtain ⟨rfl,rfl⟩:=o; rw [emp_un]; exact p
  | cons x xs ih =>
    obtain ⟨c,cr,h1,h2,rfl,rfl,d',hx,ho⟩:=o
    have d1:Dj h1 q:=d.symm.of_l.symm
    have d2:Dj h2 q:=d.symm.of_r.symm
    exact ⟨c,cr++c2,h1,un h2 q,by simp,un_assoc _ _ _,d'.un_r d1,hx,ih ho d2⟩
theorem OD.os (o:OD h v xs):∃ hr r,h=un hr r∧Dj hr r∧OS 0 hr r v xs :=
  let ⟨cells,hr,r,h1,h2,h3,h4⟩:=o; ⟨hr,r,h2,h3,cells,h1,h4.rd⟩
theorem OD.readf (o:OD h v xs):RS h v xs:=by
  obtain ⟨hr,r,rfl,d,o⟩:=o.os
  exact o.read (Le.un_left _ _) (Le.un_r d)
theorem OD.shape (o:OD h v xs):∃ a cap,v = .slice a xs.length cap:=let ⟨_,_,_,h,_⟩:=o; h.shape
theorem OD.nil:OD emp (.slice none 0 0) ([]:List α):=⟨[],emp,emp,⟨by simp,.inl ⟨rfl,rfl,rfl⟩⟩,(emp_un _).symm,Dj.emp_l _,rfl,rfl⟩
instance:Deep (List α) where
  own h cs xs:=∃ v,cs=[v]∧OD h v xs
  ord:=fun ⟨v,h,o⟩=>⟨v,h,o.readf⟩
end
section
variable {β:Type} [Flat β] {h r:PH} {v:Value} {xs:List β}
theorem ownL.flat {cells:List Value} (o:ownL r cells xs):r=emp∧rdL emp cells xs:=by
  induction xs generalizing r cells with
  | nil=>exact ⟨o.2,o.1⟩
  | cons x xs ih =>
    obtain ⟨c,cr,h1,h2,rfl,rfl,d,⟨rfl,hx⟩,ho⟩:=o
    obtain ⟨rfl,h3⟩:=ih ho
    exact ⟨emp_un _,c,cr,rfl,hx,h3⟩
theorem rdL.ownL {cells:List Value} (o:rdL emp cells xs):ownL emp cells xs:=by
  induction xs generalizing cells with
  | nil=>exact ⟨o,rfl⟩
  | cons x xs ih =>
    obtain ⟨c,cr,rfl,hx,ho⟩:=o
    exact ⟨c,cr,emp,emp,rfl,(emp_un _).symm,Dj.emp_l _,⟨rfl,hx⟩,ih ho⟩
theorem OD.flat (o:OD h v xs):OS 0 h emp v xs:=by
  obtain ⟨cells,hr,r,h1,rfl,d,ho⟩:=o
  obtain ⟨rfl,h3⟩:=ho.flat
  rw [un_emp]; exact ⟨cells,h1,h3⟩
theorem OS.od (o:OS 0 h emp v xs):OD h v xs:=by
  obtain ⟨cells,h1,h2⟩:=o
  exact ⟨cells,h,emp,h1,(un_emp _).symm,Dj.emp_r _,h2.ownL⟩
end
section
variable {P:Program} {n:Nat} {ρ:Env} {w:World} {ops:Array Oper} {Q:Exit→Act→World→Prop}
theorem vOf_cells {α:Type} [Enc α] {h:PH} {cs:List Value} {x:α} (h1:Enc.rd h cs x):(vOf (Enc.agg α) cs).cells.toList=cs:=by
  have hcs:=Enc.len h1
  have hone:=Enc.one h1
  cases ha:Enc.agg α
  · have h2:=Enc.sing (α:=α) ha
    match cs,hcs with
    | [c],_ =>
      have:=hone c (by simp)
      cases c <;> first | rfl | (simp [Value.oneCell'] at this)
    | [],hcs=>simp at hcs; omega
    | _ :: _ :: _,hcs=>simp at hcs; omega
  · rfl
/-- append of what is owned: xs and ys (another owned slice, given up). -/
theorem run_appendD [DM] {α:Type} [Deep α] {t E ty:TypeId} {bytes:Nat} {z:Value} {h q:PH} {v u:Value} {xs ys:List α} (hu:P.underlying t=some (.slice E)) (hi:TyI P E (Enc.n α) bytes z) (hp:0<Enc.n α)
    (os:OD h v xs) (e:Sub h w) (oy:OD q u ys) (eq:Sub q w) (d:Dj h q) (hm:ln xs+ln ys≤140737488355328) (hb:(ln xs+ln ys) * bytes≤140737488355328) :
    ∃ v' w' h' hw,(Builtin.append_ #[t,t] ty #[v,u]).run P w = .ok v' w'∧OD h' v' (xs++ys)∧Sub h' w'∧But hw w w'∧Dom h hw∧DomLe (un h q) w.heap.size h':=by
  obtain ⟨cells,hr,r,o,rfl,d1,ho⟩:=os
  obtain ⟨news,qr,s,o2,rfl,d2,hn⟩:=oy
  have hb':(xs.length+ys.length) * bytes≤140737488355328:=by
    have h:(((xs.length+ys.length) * bytes:Nat):Int)≤140737488355328:=by
      rw [Int.natCast_mul,Int.natCast_add]; exact hb
    omega
  have rs:RS (un qr s) u ys:=OD.readf ⟨news,qr,s,o2,rfl,d2,hn⟩
  have hat:∃ a cap,u = .slice a ys.length cap∧(a=none→ys.length=0)∧∀ ad,a=some ad→∀ j c,news[j]?=some c→w.cell? (ad.add j)=some c:=by
    obtain ⟨hl2,o2⟩:=o2
    rcases o2 with ⟨rfl,h0,rfl⟩ | ⟨b,cap,cur,E',rfl,rfl,hc,hm2,hs,ht⟩
    · exact ⟨none,0,by rw [h0],fun _=>h0,fun ad h=>by cases h⟩
    · refine ⟨some ⟨b,0,none⟩,cap,rfl,(fun h=>by cases h),fun ad hh j c hj=>?_⟩
      cases hh
      have hw:=single_sub.1 (eq.le (Le.un_left _ _))
      rw [addr_at,cell_of_row w b _ cur E' _ hw,Nat.zero_add]
      have hjl:j<ys.length * Enc.n α:=by
        have:=(List.getElem?_eq_some_iff.1 hj).1; rw [hl2] at this; exact this
      rw [← ht,List.getElem?_take,if_pos hjl] at hj
      rw [← Array.getElem?_toList]; exact hj
  obtain ⟨a,cap,rfl,hnil,hcell⟩:=hat
  obtain ⟨v',w',h',h1,h2,h3,h4,h5⟩:=run_append_OwnC (ty:=ty) hu hi hp o (e.le (Le.un_left _ _)) a ys.length cap news (hn.rd.length) hnil hcell hn.rd.one (by simp only [maxLen]; simp only [ln] at hm; omega) hb'
  have drs:Dj r s:=d.symm.of_r.symm.of_r
  have dhs:Dj hr s:=d.symm.of_l.symm.of_r
  have er:Sub r w:=e.le (Le.un_r d1)
  have es:Sub s w:=eq.le (Le.un_r d2)
  have ers:Sub (un r s) w:=er.un es
  have er':Sub (un r s) w':=ers.but h4 (d1.un_r dhs)
  refine ⟨v',w',un h' (un r s),hr,h1,⟨_,h',un r s,by rw [List.length_append]; exact h2,rfl,h5.dj (d1.un_r dhs) ers,ho.append hn drs⟩,h3.un er',h4,Dom.l _ _,fun k hk hlt=>?_⟩
  obtain ⟨k1,k2⟩:=un_none.1 hk
  obtain ⟨k3,k4⟩:=un_none.1 k1
  exact un_none.2 ⟨h5 k k3 hlt,un_none.2 ⟨k4,(un_none.1 k2).2⟩⟩
theorem LP_appendD [DM] {α:Type} [Deep α] {t E:TypeId} {bytes:Nat} {z:Value} {h q:PH} {v u:Value} {xs ys:List α} {o:Oper} {s x:Operand} (k:Nat)
    (at0:At n ops ρ k o (.call ⟨.builtin .append,⟨[s,x]⟩,⟨[t,t]⟩⟩)) (hu:P.underlying t=some (.slice E)) (hi:TyI P E (Enc.n α) bytes z) (hp:Nat.blt 0 (Enc.n α)=true)
    (hs:opd n ρ s=v) (hx:opd n ρ x=u) (os:OD h v xs) (e:Sub h w) (oy:OD q u ys) (eq:Sub q w) (d:Dj h q)
    (hm:ln xs+ln ys≤140737488355328) (hb:(ln xs+ln ys) * bytes≤140737488355328)
    (H:∀ h' v' w' hw,OD h' v' (xs++ys)→Sub h' w'→But hw w w'→Dom h hw→DomLe (un h q) w.heap.size h'→LP P n ops Q (k+1) (updO ρ o.dst v') w'):LP P n ops Q k ρ w:=by
  obtain ⟨v',w',h',hw,h1,h2,h3,h4,h5,h6⟩:=run_appendD (ty:=o.type) hu hi (by simp [Nat.blt] at hp; omega) os e oy eq d hm hb
  exact LP_val k o at0.o at0.g (ex_append at0.op hs hx h1) (H h' v' w' hw h2 h3 h4 h5 h6)
/-- Owned parts, one for each element. -/
def RVO {α:Type} [Deep α] (h:PH) (v:Value) (x:α):Prop:=∃ cs,Deep.own h cs x∧v=vOf (Enc.agg α) cs
def allO {α:Type} [Deep α]:PH→List Value→List α→Prop
  | h,[],[]=>h=emp
  | h,v :: vs,x :: xs=>∃ h1 h2,h=un h1 h2∧Dj h1 h2∧RVO h1 v x∧allO h2 vs xs
  | _,_,_=>False
theorem RVO.cells {α:Type} [Deep α] {h:PH} {v:Value} {x:α} (r:RVO h v x):Deep.own h v.cells.toList x:=by
  obtain ⟨cs,o,rfl⟩:=r; rw [vOf_cells (Deep.ord o)]; exact o
theorem allO.ownL {α:Type} [Deep α]:∀ {h:PH} {vs:List Value} {xs:List α},allO h vs xs→ownL h (vs.flatMap (·.cells.toList)) xs∧(∀ v∈vs,v.cells.size=Enc.n α)∧vs.length=xs.length
  | h,[],[],e=>⟨⟨rfl,e⟩,by simp,rfl⟩
  | _,[],_ :: _,h=>h.elim
  | _,_ :: _,[],h=>h.elim
  | h,v :: vs,x :: xs,⟨h1,h2,e,d,r,a⟩=>by
    obtain ⟨o,b,c⟩:=a.ownL
    refine ⟨⟨_,_,h1,h2,rfl,e,d,r.cells,o⟩,fun u hu=>?_,by simp [c]⟩
    rcases List.mem_cons.1 hu with rfl | hu
    · rw [← Array.length_toList]; exact Enc.len (Deep.ord r.cells)
    · exact b u hu
theorem OD.rvo {β:Type} [Deep β] {h:PH} {v:Value} {xs:List β} (o:OD h v xs):RVO h v xs:=⟨[v],⟨v,rfl,o⟩,rfl⟩
theorem allO.one {α:Type} [Deep α] {h:PH} {v:Value} {x:α} (r:RVO h v x):allO h [v] [x]:=⟨h,emp,(un_emp _).symm,Dj.emp_r _,r,rfl⟩
theorem LP_litD [DM] {α:Type} [Deep α] {t E:TypeId} {bytes len:Nat} {z:Value} {parts:Array (Nat×Operand)} {vs:List Value} {xs:List α} {g:PH} {o:Oper} (k:Nat)
    (at0:At n ops ρ k o (.buildSlice t len parts)) (hu:P.underlying t=some (.slice E)) (hi:TyI P E (Enc.n α) bytes z)
    (hp:parts.toList.map (fun p=>(p.1,opd n ρ p.2))=vs.zipIdx.map fun p=>(p.2,p.1)) (hl:vs.length=len) (hv:allO g vs xs) (eg:Sub g w) (hs:Nat.ble (len * Enc.n α) 16777216=true) (hm:Nat.ble len 140737488355328=true)
    (H:∀ h v w',Ext w w'→OD h v xs→Sub h w'→DomLe g w.heap.size h→LP P n ops Q (k+1) (updO ρ o.dst v) w'):LP P n ops Q k ρ w:=by
  obtain ⟨inf,hinf,hsz,_,hz,hzs⟩:=hi.ok
  obtain ⟨r,hc,hlx⟩:=hv.ownL
  have hs:=Nat.le_of_ble_eq_true hs
  have hm:=Nat.le_of_ble_eq_true hm
  have hfl:(vs.flatMap (·.cells.toList)).length=len * Enc.n α:=by rw [r.rd.length,← hlx,hl]
  have hfill:=fill_all (Enc.n α) vs 0 [] ((Array.range (len * Enc.n α)).map (z.cells[· % z.cells.size]!)).toList hc (by simp) (by simp [hl])
  simp only [List.nil_append,Array.toArray_toList] at hfill
  obtain ⟨x,e,f⟩:=newRow_ok (w:=w) E (vs.flatMap (·.cells.toList)).toArray
  have dj:Dj (single w.heap.size (.cells (vs.flatMap (·.cells.toList)).toArray E (0,0))) g:=(Dj.of_fresh eg f).symm
  refine LP_val k o at0.o at0.g (v := .slice (some ⟨w.heap.size,0,none⟩) len len) (w':=w.alloc (.cells (vs.flatMap (·.cells.toList)).toArray E)) ?_
    (H _ _ _ x ⟨_,_,g,⟨by rw [r.rd.length],.inr ⟨w.heap.size,len,_,_,by rw [← hlx,hl],rfl,by rw [← hlx,hl]; exact Nat.le_refl _,by simp only [maxLen]; omega,by simp [hfl],?_⟩⟩,rfl,dj,r⟩ (e.un (eg.ext x)) fun b hb hlt=>un_none.2 ⟨f b hlt,hb⟩)
  · have hle:¬ (2 ^ 24<len * Enc.n α):=by omega
    simp only [execOp,at0.op,Sem.run_bind,Instr.buildSlice,run_underlying hu,Result.andThen_ok,sizeOf,typeInfo,run_program,hinf,Sem.run_pure,hsz]
    by_cases h0:len * Enc.n α=0
    · have hf0:=hfill
      have hz0:∀ g:Nat→Value,(Array.range 0).map g=#[]:=fun g=>by rw [Array.range_zero',Array.map_empty]
      rw [h0,hz0] at hf0
      simp [h0,hp,hz0,hf0,newRow]
    · simp [hle,h0,zeroValue,typeInfo,hinf,hz,hp,hfill,newRow]
  · refine List.take_of_length_le ?_
    have:xs.length=len:=by rw [← hlx,hl]
    rw [this]; simp only []; omega
end
end Go.Gv
/- Structures: the cells of their fields one behind the other. -/
namespace Go.Gv
open Go Go.RowKit
instance encProd {α β:Type} [Enc α] [Enc β]:Enc (α×β) where
  n:=Enc.n α+Enc.n β
  agg:=true
  rd h cs x:=∃ a b,cs=a++b∧Enc.rd h a x.1∧Enc.rd h b x.2
  len:=fun ⟨a,b,e,p,q⟩=>by subst e; rw [List.length_append,Enc.len p,Enc.len q]
  le l:=fun ⟨a,b,e,p,q⟩=>⟨a,b,e,Enc.le l p,Enc.le l q⟩
  one:=fun ⟨a,b,e,p,q⟩ c hc=>by
    subst e
    rcases List.mem_append.1 hc with hc | hc
    · exact Enc.one p c hc
    · exact Enc.one q c hc
  sing h:=by cases h
@[reducible] def Enc.via {S T:Type} [Enc T] (f:S→T):Enc S where
  n:=Enc.n T
  agg:=true
  rd h cs x:=Enc.rd h cs (f x)
  len h:=Enc.len h
  le l h:=Enc.le l h
  one h:=Enc.one h
  sing h:=by cases h
instance deepProd {α β:Type} [Deep α] [Deep β]:Deep (α×β) where
  own h cs x:=∃ a b h1 h2,cs=a++b∧h=un h1 h2∧Dj h1 h2∧Deep.own h1 a x.1∧Deep.own h2 b x.2
  ord:=fun ⟨a,b,h1,h2,e,e2,d,p,q⟩=>by
    subst e e2
    exact ⟨a,b,rfl,Enc.le (Le.un_left _ _) (Deep.ord p),Enc.le (Le.un_r d) (Deep.ord q)⟩
@[reducible] def Deep.via {S T:Type} [Deep T] (f:S→T):Deep S :=
  { Enc.via f with
    own:=fun h cs x=>Deep.own h cs (f x)
    ord:=fun h=>Deep.ord h }
section
variable {P:Program} {n:Nat} {ρ:Env} {w:World} {ops:Array Oper} {Q:Exit→Act→World→Prop} {K:Env→Prop}
theorem QP_slice [DM] {α:Type} [Enc α] {h:PH} {v:Value} {xs:List α} {t e:TypeId} {bytes:Nat} {z:Value} {o:Oper} {x:Operand} {lo up:Option Operand} {lv uv:Option Value} (k:Nat) (l u:Int)
    (at0:At n ops ρ k o (.slice t x lo up none)) (hu:P.underlying t=some (.slice e)) (hi:TyI P e (Enc.n α) bytes z)
    (hx:opd n ρ x=v) (hl:lo.map (opd n ρ)=lv) (huv:up.map (opd n ρ)=uv) (r:RS h v xs) (hlo:(lv=none∧l=0)∨lv=some (I l)) (hup:(uv=none∧u=(xs.length:Int))∨uv=some (I u))
    (h0:0≤l) (h1:l≤u) (h2:u≤(xs.length:Int))
    (H:∀ v',RS h v' ((xs.drop l.toNat).take (u.toNat-l.toNat))→QP P n ops w K (k+1) (updO ρ o.dst v')):QP P n ops w K k ρ:=by
  obtain ⟨v',h3,h4⟩:=run_slice_RS hu hi r lv uv l u hlo hup h0 h1 h2
  exact QP_val k o at0.o at0.g (fun w' _=>ex_slice at0.op hx hl huv (h3 w')) (H v' h4)
/-- A slice held against nil: only that of an empty one nothing is known. -/
theorem nil_of {α:Type} [Enc α] {h:PH} {b:Option Addr} {len cap:Nat} {xs:List α} (r:RS h (.slice b len cap) xs):b.isNone=true→xs=[]:=fun hb=>by
  rcases r with ⟨_,e⟩ | ⟨a,c,e,_⟩
  · exact e
  · cases e; cases hb
theorem run_eqnil {t e:TypeId} {b:Option Addr} {len cap:Nat} (ht:P.underlying t=some (.slice e)) (w:World):(Op.equal t (.slice b len cap) (.slice none 0 0)).run P w = .ok b.isNone w:=by
  have h:∀ (d:Nat) (b:Option Addr),(Op.equalIn (d+1) t (.slice b len cap) (.slice none 0 0)).run P w = .ok b.isNone w:=fun d b=>by
    cases b <;> simp [Op.equalIn,run_underlying ht]
  exact h 9999 b
theorem ex_eqnil {o:Oper} {t u e:TypeId} {x y:Operand} {b:Option Addr} {len cap:Nat} (hop:o.op = .binOp .eql t x y u) (ht:P.underlying t=some (.slice e)) (hx:opd n ρ x = .slice b len cap) (hy:opd n ρ y = .slice none 0 0) (w:World) :
    (execOp (opd n ρ) o).run P w = .ok (.value (.bool b.isNone)) w:=by
  simp only [execOp,hop,hx,hy,Sem.run_bind]
  simp [binOp,eqGuard,run_eqnil ht]
/-- string(b). -/
def b2s (xs:List B8):ByteArray:=xs.foldl (fun s x=>s.push (UInt8.ofNat x.v.toNat)) .empty
theorem run_b2s {src dst e:TypeId} {h:PH} {v:Value} {xs:List B8} (hs:P.underlying src=some (.slice e)) (he:P.underlying e=some (.int .u8)) (hd:P.underlying dst=some .string) (r:RS h v xs) (w:World) (e':Sub h w) :
    (convert src dst v).run P w = .ok (.string (b2s xs)) w:=by
  have hb:b2s xs=(xs.map (·.v)).foldl (fun r n=>r.push (UInt8.ofNat n.toNat)) ByteArray.empty:=by unfold b2s; rw [List.foldl_map]
  rcases r with ⟨rfl,rfl⟩ | ⟨a,cap,rfl,hc,hsp,hx⟩
  · rw [run_convert_bytes_string w src dst e _ _ _ hs he hd]; rfl
  · rw [run_convert_bytes_string w src dst e _ _ _ hs he hd,hb]
    refine run_bytesToString w a xs.length cap _ ?_
    have:=loadCells_run (P:=P) (w:=w) a (xs.map fun x=>Value.int .u8 x.v) 0 #[] fun j c hj=>by
      rw [List.getElem?_map] at hj
      obtain ⟨x,hx1,rfl⟩:=Option.map_eq_some_iff.1 hj
      obtain ⟨cs,h1,h2⟩:=hx j x hx1
      have h2:cs=[.int .u8 x.v]:=h2
      subst h2
      have h3:=h1 0 _ rfl
      rw [addr_add0,show Enc.n B8=1 from rfl,Nat.mul_one] at h3
      rw [Nat.zero_add]; exact cellH_world e' h3
    rw [List.length_map] at this
    simp only [loadCells]
    rw [this]; simp
theorem ex_b2s {o:Oper} {src dst e:TypeId} {x:Operand} {h:PH} {v:Value} {xs:List B8} (hop:o.op = .convert src dst x) (hs:P.underlying src=some (.slice e)) (he:P.underlying e=some (.int .u8)) (hd:P.underlying dst=some .string) (hx:opd n ρ x=v) (r:RS h v xs) (w:World) (e':Sub h w) :
    (execOp (opd n ρ) o).run P w = .ok (.value (.string (b2s xs))) w:=by
  simp only [execOp,hop,hx,Sem.run_bind,run_b2s hs he hd r w e']; rfl
end
end Go.Gv
/- Closures, recursion, maps, slices held against nil, a slice that is only appended to. -/
namespace Go.Gv
open Go Go.RowKit
def Rec1 {A Q:Type} (body:(A→Q→Prop)→A→Q→Prop) (a_:A) (q:Q):Prop :=
  ∃ (Sp:A→Q→Prop) (μ:A→Nat),Sp a_ q∧∀ a_ q,Sp a_ q→body (fun a' q'=>Sp a' q'∧μ a'<μ a_) a_ q
theorem DomLe.un {h a b:PH} {n:Nat} (x:DomLe h n a) (y:DomLe h n b):DomLe h n (un a b):=fun k e hk=>un_none.2 ⟨x k e hk,y k e hk⟩
end Go.Gv
/- A store to a field of an element that holds owned slices. -/
namespace Go.Gv
open Go Go.RowKit
theorem allO.nil {α:Type} [Deep α]:allO emp ([]:List Value) ([]:List α):=rfl
theorem allO.cons {α:Type} [Deep α] {h1 h2:PH} {v:Value} {vs:List Value} {x:α} {xs:List α} (r:RVO h1 v x) (a:allO h2 vs xs) (d:Dj h1 h2):allO (un h1 h2) (v :: vs) (x :: xs):=⟨h1,h2,rfl,d,r,a⟩
theorem Dj.eqv {U t y:PH} (h:U=t) (d:Dj t y):Dj U y:=h ▸ d
theorem Dom.eqv {U t y:PH} (h:U=t) (d:Dom t y):Dom U y:=h ▸ d
theorem DomLe.eqv {U t M:PH} {n:Nat} (h:U=t) (d:DomLe M n t):DomLe M n U:=h ▸ d
theorem Fresh.eqv {U t:PH} {n:Nat} (h:U=t) (d:Fresh n t):Fresh n U:=h ▸ d
theorem bb2 {A1 A2 Z:Prop} (k:A1→A2→Z):A1∧A2→Z:=fun h=>k h.1 h.2
theorem bb5 {A1 A2 A3 A4 A5 Z:Prop} (k:A1→A2→A3→A4→A5→Z):A1∧A2∧A3∧A4∧A5→Z:=fun h=>k h.1 h.2.1 h.2.2.1 h.2.2.2.1 h.2.2.2.2
theorem bb6 {A1 A2 A3 A4 A5 A6 Z:Prop} (k:A1→A2→A3→A4→A5→A6→Z):A1∧A2∧A3∧A4∧A5∧A6→Z:=fun h=>k h.1 h.2.1 h.2.2.1 h.2.2.2.1 h.2.2.2.2.1 h.2.2.2.2.2
theorem bb7 {A1 A2 A3 A4 A5 A6 A7 Z:Prop} (k:A1→A2→A3→A4→A5→A6→A7→Z):A1∧A2∧A3∧A4∧A5∧A6∧A7→Z:=fun h=>k h.1 h.2.1 h.2.2.1 h.2.2.2.1 h.2.2.2.2.1 h.2.2.2.2.2.1 h.2.2.2.2.2.2
theorem bb8 {A1 A2 A3 A4 A5 A6 A7 A8 Z:Prop} (k:A1→A2→A3→A4→A5→A6→A7→A8→Z):A1∧A2∧A3∧A4∧A5∧A6∧A7∧A8→Z:=fun h=>k h.1 h.2.1 h.2.2.1 h.2.2.2.1 h.2.2.2.2.1 h.2.2.2.2.2.1 h.2.2.2.2.2.2.1 h.2.2.2.2.2.2.2
theorem bb9 {A1 A2 A3 A4 A5 A6 A7 A8 A9 Z:Prop} (k:A1→A2→A3→A4→A5→A6→A7→A8→A9→Z):A1∧A2∧A3∧A4∧A5∧A6∧A7∧A8∧A9→Z:=fun h=>k h.1 h.2.1 h.2.2.1 h.2.2.2.1 h.2.2.2.2.1 h.2.2.2.2.2.1 h.2.2.2.2.2.2.1 h.2.2.2.2.2.2.2.1 h.2.2.2.2.2.2.2.2
/-- A slice whose length is that of its list. -/
abbrev sl {α:Type} (a:Option Addr) (xs:List α) (c:Nat):Value := .slice a xs.length c
/-- The address of a box. -/
abbrev pb (b:Nat):Value := .pointer (some ⟨b,0,none⟩)
end Go.Gv
/- A slice taken out of a field of an element, and another put in its place. -/
namespace Go.Gv
open Go Go.RowKit
end Go.Gv
/- Arguments as they come in, read as plain data. -/
namespace Go.Gv
open Go Go.RowKit Go.ChangeShapes Go.WideShapes Go.ChangeAt
/-- All of a world's heap. -/
def pw (w:World):PH:=fun b=>w.heap[b]?
theorem pw_sub (w:World):Sub (pw w) w:=fun _ _ h=>h
theorem cellH_pw {w:World} {a:Addr} {v:Value} (h:w.cell? a=some v):cellH (pw w) a=some v:=h
class Wf (α:Type) where
  wf:α→Prop
instance:Wf Int:=⟨fun x => -9223372036854775808≤x∧x≤9223372036854775807⟩
instance:Wf Bool:=⟨fun _=>True⟩
instance:Wf ByteArray:=⟨fun x=>x.size≤maxLen⟩
instance:Wf B8:=⟨fun x=>0≤x.v∧x.v≤255⟩
instance {α:Type} [Wf α]:Wf (List α):=⟨fun xs=>xs.length≤maxLen∧∀ x∈xs,Wf.wf x⟩
structure OpnT (P:Program) (t:TypeId) (α:Type) [Enc α] [Wf α]:Prop where
  sz:P.cellsOf t=Enc.n α
  rd:∀ {H:Type} {enc:TypeId×Value→H} {w:World} {base:Nat} {spare:Nat→Bool} {held:Bool} {fuel:Nat} {cs:List Value} {x:DataW H×List MemPlace},
    DataW.trod enc P w base spare held fuel t cs=some x→∃ y:α,Enc.rd (pw w) cs y∧Wf.wf y
  shape:∀ {w:World} {r:Reach} {base:Nat} {v:Value},Value.okWide P w r base t v→v=vOf (Enc.agg α) v.cells.toList
section
variable {P:Program} {t:TypeId} {H:Type} {enc:TypeId×Value→H} {W:World} {r:Reach} {b0 base:Nat} {spare:Nat→Bool} {held:Bool} {v:Value} {d:DataW H} {ps:List MemPlace}
theorem OpnT.open {α:Type} [Enc α] [Wf α] (o:OpnT P t α) (hval:Value.okWide P W r b0 t v) (h:DataW.Trod enc P W base spare held t v d ps):∃ y:α,RV (pw W) v y∧Wf.wf y:=by
  obtain ⟨fuel,hf⟩:=h
  obtain ⟨y,h1,h2⟩:=o.rd hf
  exact ⟨y,⟨_,h1,o.shape hval⟩,h2⟩
theorem trod_lt' (h:DataW.Trod enc P W base spare held t v d ps):∀ x∈ps,x.block<W.heap.size:=by
  obtain ⟨m,hm⟩:=h; exact DataW.trod_lt m _ _ _ hm
theorem opn_u8 (ht:P.underlying t=some (.int .u8)) (hs:P.cellsOf t=1):OpnT P t B8 where
  sz:=hs
  rd h:=by
    obtain ⟨n,rfl,_,hw⟩:=DataW.trod_int ht h
    exact ⟨⟨n⟩,rfl,bounds_u8 hw⟩
  shape h:=by obtain ⟨n,rfl⟩:=okWide_int ht h; rfl
theorem list_of {α:Type} {p:Nat→α→Prop}:∀ {n:Nat},(∀ i,i<n→∃ y,p i y)→∃ ys:List α,ys.length=n∧∀ i y,ys[i]?=some y→p i y
  | 0,_=>⟨[],rfl,fun i y h=>by simp at h⟩
  | n+1,h=>by
    obtain ⟨ys,h1,h2⟩:=list_of (n:=n) fun i hi=>h i (by omega)
    obtain ⟨y,hy⟩:=h n (by omega)
    refine ⟨ys++[y],by simp [h1],fun i z hz=>?_⟩
    by_cases hi:i<n
    · rw [List.getElem?_append_left (by omega)] at hz; exact h2 i z hz
    · have hlt:=(List.getElem?_eq_some_iff.1 hz).1
      rw [List.length_append] at hlt
      simp at hlt
      have:i=ys.length:=by omega
      subst this
      rw [List.getElem?_append_right (by omega)] at hz
      simp at hz; subst hz; rw [h1]; exact hy
theorem cells_get {w:World} {base n:Nat} {a:Addr} {cs:List Value} (h:w.cells? base a n=some cs) (j:Nat) (c:Value) (hj:cs[j]?=some c):w.cell? (a.add j)=some c:=by
  unfold World.cells? at h
  split at h
  · have hlen:cs.length=n:=by simpa using mapM_some_length h
    have hjn:j<n:=by have:=(List.getElem?_eq_some_iff.1 hj).1; omega
    have:=mapM_some_get h j j (by simp [hjn])
    rw [this,hj]
  · cases h
theorem opn_slice {α:Type} [Enc α] [Wf α] {e:TypeId} (ht:P.underlying t=some (.slice e)) (hs:P.cellsOf t=1) (o:OpnT P e α) (hp:0<Enc.n α):OpnT P t (List α) where
  sz:=hs
  shape h:=by obtain ⟨a,l,c,rfl⟩:=okWide_slice ht h; rfl
  rd {H enc w base spare held fuel cs x} h:=by
    rcases DataW.trod_slice ht h with ⟨rfl,_⟩ | ⟨a,len,cap,elems,rest,n,_,rfl,_,hb,hl,hm,hlen,hel,_,_⟩
    · exact ⟨[],⟨_,rfl,.inl ⟨rfl,rfl⟩⟩,Nat.zero_le _,fun x hx=>by simp at hx⟩
    · have each:∀ i,i<len→∃ y:α,(∃ cs,rdAt (pw w) (a.add (i * Enc.n α)) cs∧Enc.rd (pw w) cs y)∧Wf.wf y:=fun i hi=>by
        have h1:=hel i hi
        have h2:elems[i]?=some elems[i]:=by simp [show i<elems.length by omega]
        rw [h2] at h1
        obtain ⟨cs,hc,ht'⟩:=Option.bind_eq_some_iff.1 h1
        obtain ⟨y,hy,hw⟩:=o.rd ht'
        rw [o.sz] at hc
        exact ⟨y,⟨cs,fun j c hj=>cellH_pw (cells_get hc j c hj),hy⟩,hw⟩
      obtain ⟨ys,h1,h2⟩:=list_of each
      refine ⟨ys,⟨_,rfl,.inr ⟨a,cap,by rw [h1],by omega,?_,fun i x hx=>(h2 i x hx).1⟩⟩,by omega,fun x hx=>?_⟩
      · cases ys with
        | nil=>exact .inl rfl
        | cons y ys =>
          right
          obtain ⟨⟨cs,hr,hd⟩,_⟩:=h2 0 y rfl
          have hcl:=Enc.len hd
          have:=hr 0 cs[0] (by simp [show 0<cs.length by omega])
          rw [Nat.zero_mul,addr_add0,addr_add0] at this
          exact World.cell?_spot (cellH_world (pw_sub w) this)
      · obtain ⟨i,hi,rfl⟩:=List.mem_iff_getElem.1 hx
        exact (h2 i ys[i] (by simp [hi])).2
end
end Go.Gv
/- An owned row looked at from behind its front: what is taken off the front stays in the block. Elements that lead nowhere. -/
namespace Go.Gv
open Go Go.RowKit
def OT {α:Type} [Flat α] (h:PH) (v:Value) (xs:List α):Prop :=
  ∃ cells,cells.length=xs.length * Enc.n α∧rdL emp cells xs∧((v = .slice none 0 0∧xs=[]∧h=emp) ∨
   ∃ b off cap cur E',v = .slice (some ⟨b,off,none⟩) xs.length cap∧h=single b (.cells cur E' (0,0))∧xs.length≤cap∧cap≤maxLen∧off+cap * Enc.n α≤cur.size ∧
     (cur.toList.drop off).take (xs.length * Enc.n α)=cells)
theorem rdL.fl {α:Type} [Flat α] {g g':PH} {xs:List α} {cells:List Value} (r:rdL g cells xs):rdL g' cells xs:=by
  induction xs generalizing cells with
  | nil=>exact r
  | cons x xs ih=>obtain ⟨c,r',h1,h2,h3⟩:=r; exact ⟨c,r',h1,Flat.flat.2 (Flat.flat.1 h2),ih h3⟩
section
variable {α:Type} [Flat α] {E:TypeId} {h g:PH} {v:Value} {xs:List α}
theorem OS.ot (o:OS E h g v xs):OT h v xs:=by
  obtain ⟨cells,⟨hl,o⟩,r⟩:=o.flat (g':=emp)
  refine ⟨cells,hl,r,?_⟩
  rcases o with ⟨rfl,h0,rfl⟩ | ⟨b,cap,cur,E',rfl,rfl,hc,hm,hs,ht⟩
  · exact .inl ⟨rfl,List.eq_nil_of_length_eq_zero h0,rfl⟩
  · exact .inr ⟨b,0,cap,cur,E',rfl,rfl,hc,hm,by omega,by simpa using ht⟩
end
section
variable {P:Program} {w:World}
theorem run_append_roomT (w:World) (t ty e e':TypeId) (i:TypeInfo) (ht:P.underlying t=some (.slice e)) (hi:P.info? e=some i)
    (g off sLen sCap:Nat) (cur:Array Value) (hg:w.heap[g]?=some (.cells cur e' (0,0)))
    (a:Addr) (m c:Nat) (news:List Value) (hl:news.length=m * i.size) (hnews:∀ j u,news[j]?=some u→w.cell? (a.add j)=some u) (h1:∀ u∈news,u.oneCell'=true)
    (hroom:sLen+m≤sCap) (hfit:off+sLen * i.size+news.length≤cur.size) :
    (Builtin.append_ #[t,t] ty #[.slice (some ⟨g,off,none⟩) sLen sCap,.slice (some a) m c]).run P w =
      .ok (.slice (some ⟨g,off,none⟩) (sLen+m) sCap) (w.setRow g (cur.toList.take (off+sLen * i.size)++news++cur.toList.drop (off+sLen * i.size+news.length)).toArray):=by
  have hf:=run_firstCells_some (P:=P) w i.size m a m c news hl hnews
  have hst:=run_storeCells_at P g (off+sLen * i.size) e' news 0 cur w hg (by simpa using hfit) h1
  simp only [Nat.add_zero] at hst
  simp [Builtin.append_,run_underlying ht,sizeOf,typeInfo,hi,Builtin.lenOf,hroom,hf,Addr.add_lit,hst]
theorem run_append_OT [DM] {α:Type} [Flat α] {t E ty:TypeId} {bytes:Nat} {z:Value} {h q:PH} {v u:Value} {xs ys:List α} (hu:P.underlying t=some (.slice E)) (hi:TyI P E (Enc.n α) bytes z) (hp:0<Enc.n α)
    (o:OT h v xs) (e:Sub h w) (rs:RS q u ys) (eq:Sub q w) (hm:ln xs+ln ys≤140737488355328) (hb:(ln xs+ln ys) * bytes≤140737488355328) :
    ∃ v' w' h',(Builtin.append_ #[t,t] ty #[v,u]).run P w = .ok v' w'∧OT h' v' (xs++ys)∧Sub h' w'∧But h w w'∧DomLe h w.heap.size h':=by
  have o0:=o
  obtain ⟨cells,hcl,r,o⟩:=o
  rcases o with ⟨rfl,rfl,rfl⟩ | ⟨b,off,cap,cur,E',rfl,rfl,hc,hmx,hs,ht⟩
  · obtain ⟨v',w',h',h1,h2,h3,h4,h5⟩:=run_appendO (ty:=ty) hu hi hp (OS.nil (E:=E) (g:=emp)) e rs eq q (emp_le q) (Le.refl q) hm hb
    exact ⟨v',w',h',h1,h2.ot,h3,h4,h5⟩
  obtain ⟨a,cap2,news,rfl,r2,hnil,hat⟩:=rs.cells
  have hnl:news.length=ys.length * Enc.n α:=r2.length
  obtain ⟨i,hinf,hsz,hbb,hz,hzs⟩:=hi.ok
  have hw:=single_sub.1 e
  have hb':(xs.length+ys.length) * bytes≤140737488355328:=by
    have h:(((xs.length+ys.length) * bytes:Nat):Int)≤140737488355328:=by
      rw [Int.natCast_mul,Int.natCast_add]; exact hb
    omega
  have h63:xs.length+ys.length≤maxLen:=by simp only [maxLen]; simp only [ln] at hm; omega
  have hsmall:xs.length+ys.length≤9223372036854775807:=by simp only [ln] at hm; omega
  have r3:rdL emp news ys:=r2.fl
  have hnews:∀ ad,a=some ad→∀ j u,news[j]?=some u→w.cell? (ad.add j)=some u:=fun ad had j c hj=>cellH_world eq (hat ad had j c hj)
  cases a with
  | none =>
    have hy:ys=[]:=hnil rfl
    subst hy
    refine ⟨_,w,_,?_,by simpa using o0,e,But.refl _ _,DomLe.refl _ _⟩
    simp [Builtin.append_,run_underlying hu,sizeOf,typeInfo,hinf,Builtin.lenOf,Builtin.firstCells,hc,storeCells]
  | some ad =>
    have hnews:=hnews ad rfl
    by_cases hroom:xs.length+ys.length≤cap
    · have hfit:off+xs.length * i.size+news.length≤cur.size:=by
        rw [hnl,hsz]
        have:=Nat.mul_le_mul_right (Enc.n α) hroom
        rw [Nat.add_mul] at this; omega
      have hr:=run_append_roomT w t ty E E' i hu hinf b off xs.length cap cur hw ad ys.length cap2 news (by rw [hnl,hsz]) hnews r3.one hroom hfit
      refine ⟨_,_,_,hr,⟨cells++news,by rw [List.length_append,hcl,hnl,List.length_append,Nat.add_mul],r.append r3,.inr ⟨b,off,cap,_,_,by rw [List.length_append],rfl,by rw [List.length_append]; exact hroom,hmx,?_,?_⟩⟩,setRow_sub hw,setRow_but _ _ _,single_dom⟩
      · simp only [List.size_toArray,List.length_append,List.length_take,List.length_drop,Array.length_toList]
        omega
      · rw [hsz] at hfit ⊢
        have e1:(cur.toList.take (off+xs.length * Enc.n α)).drop off=cells:=by rw [List.drop_take,Nat.add_sub_cancel_left]; exact ht
        have e2:((List.take (off+xs.length * Enc.n α) cur.toList++news++List.drop (off+xs.length * Enc.n α+news.length) cur.toList).drop off)=cells++news++List.drop (off+xs.length * Enc.n α+news.length) cur.toList:=by
          rw [List.append_assoc,List.drop_append_of_le_length,e1,List.append_assoc]
          have hq:cur.toList.length=cur.size:=Array.length_toList
          rw [List.length_take,hq]; omega
        show List.take _ (List.drop off _)=_
        rw [e2,List.length_append,Nat.add_mul,← hcl,← hnl,← List.length_append]
        exact List.take_left
    · have holds:∀ j u,cells[j]?=some u→w.cell? ((⟨b,off,none⟩:Addr).add j)=some u:=fun j u hj=>by
        rw [addr_at,cell_of_row w b _ cur E' _ hw]
        have hjl:j<xs.length * Enc.n α:=by
          have:=(List.getElem?_eq_some_iff.1 hj).1; rw [hcl] at this; exact this
        rw [← ht,List.getElem?_take,if_pos hjl,List.getElem?_drop] at hj
        rw [← Array.getElem?_toList]; exact hj
      have hr:=run_append_grow (P:=P) w t ty E i z hu hinf hz ⟨b,off,none⟩ xs.length cap cells (by rw [hcl,hsz]) holds ad ys.length cap2 news (by rw [hnl,hsz]) hnews (by omega) (by omega) (growslice_fits (by omega) (by rw [hbb]; exact hb'))
      refine ⟨_,_,_,hr,⟨cells++news,by rw [List.length_append,hcl,hnl,List.length_append,Nat.add_mul],r.append r3,.inr ⟨w.heap.size,0,_,_,_,by rw [List.length_append],rfl,?_,grownCap_le_maxLen w _ cap E h63,?_,?_⟩⟩,single_sub.2 (heap_alloc_new w.drew _),⟨rfl,rfl,rfl,by simp,fun k hk _=>(Below.heap_alloc w.drew _ k hk),fun _=>Nat.le_succ _⟩,(single_fresh (Nat.le_refl _)).dom _⟩
      · rw [List.length_append]; exact grownCap_ge w _ cap E
      · have hge:=grownCap_ge w (xs.length+ys.length) cap E
        simp only [Array.size_append,List.size_toArray,size_zeroCells,hzs,hcl,hnl,← Nat.add_mul]
        rw [Nat.zero_add]
        refine Nat.mul_le_mul_right _ ?_
        omega
      · rw [List.drop_zero]
        simp only [Array.toList_append,List.append_assoc]
        rw [← List.append_assoc,List.length_append,Nat.add_mul,← hcl,← hnl,← List.length_append]
        exact List.take_left
end
section
variable {P:Program} {w:World}
theorem zeroCells_eq (z:Array Value) (m:Nat):(Builtin.zeroCells z m).toList=(List.replicate m z.toList).flatten:=madeCells_eq z m
theorem run_appendZ_room (w:World) (t tx ty e e':TypeId) (i:TypeInfo) (z:Value) (ht:P.underlying t=some (.slice e)) (hx:P.underlying tx=some (.int .i64)) (hi:P.info? e=some i) (hz:i.zero=some z)
    (g sLen sCap m:Nat) (cur:Array Value) (hg:w.heap[g]?=some (.cells cur e' (0,0))) (hzs:z.cells.size=i.size) (h1:∀ u∈(Builtin.zeroCells z.cells m).toList,u.oneCell'=true)
    (hm:m≤140737488355328) (hby:m * i.bytes≤140737488355328) (hroom:sLen+m≤sCap) (hfit:sLen * i.size+m * i.size≤cur.size) :
    (Builtin.append_ #[t,tx] ty #[.slice (some ⟨g,0,none⟩) sLen sCap,I m]).run P w =
      .ok (.slice (some ⟨g,0,none⟩) (sLen+m) sCap) (w.setRow g (cur.toList.take (sLen * i.size)++(Builtin.zeroCells z.cells m).toList++cur.toList.drop (sLen * i.size+m * i.size)).toArray):=by
  have hl:(Builtin.zeroCells z.cells m).toList.length=m * i.size:=by rw [Array.length_toList,size_zeroCells,hzs]
  have hst:=run_storeCells_at P g (sLen * i.size) e' (Builtin.zeroCells z.cells m).toList 0 cur w hg (by rw [hl]; simpa using hfit) h1
  simp only [Nat.add_zero,hl] at hst
  have hw:IntKind.i64.wrap (m:Int)=(m:Int):=IntWalk.i64_in _ ⟨by omega,by omega⟩
  have hng:¬ ((m:Int)<0):=by omega
  have hb:¬ ((m:Int) * (i.bytes:Int)>281474976710656):=by
    rw [← Int.natCast_mul]; omega
  by_cases h0:m * i.size=0
  · have hn:(Builtin.zeroCells z.cells m).toList=[]:=List.eq_nil_of_length_eq_zero (by rw [hl,h0])
    rw [hn,h0] at hst ⊢
    have hst2:(storeCells (⟨g,sLen * i.size,none⟩:Addr) [] 0).run P w = .ok () w:=by simp [storeCells]
    have hst3:=hst2.symm.trans hst
    simp at hst3
    simp [Builtin.append_,run_underlying ht,run_underlying hx,sizeOf,typeInfo,hi,asInt,asIntOf,hw,hng,hb,h0,hroom,Addr.add_lit,hst2]
    exact hst3
  · simp [Builtin.append_,run_underlying ht,run_underlying hx,sizeOf,typeInfo,hi,zeroValue,hz,asInt,asIntOf,hw,hng,hb,h0,hroom,Addr.add_lit,hst]
theorem run_appendZ_nil (w:World) (t tx ty e:TypeId) (i:TypeInfo) (z:Value) (ht:P.underlying t=some (.slice e)) (hx:P.underlying tx=some (.int .i64)) (hi:P.info? e=some i) (hz:i.zero=some z)
    (m:Nat) (h0:0<m) (hp:0<i.size) (hm:m≤140737488355328) (hby:m * i.bytes≤140737488355328) :
    (Builtin.append_ #[t,tx] ty #[.slice none 0 0,I m]).run P w =
      .ok (.slice (some ⟨w.heap.size,0,none⟩) m (grownCap w m 0 e)) (w.drew.alloc (.cells (Builtin.zeroCells z.cells m++Builtin.zeroCells z.cells (grownCap w m 0 e-m)) e)):=by
  have hw:IntKind.i64.wrap (m:Int)=(m:Int):=IntWalk.i64_in _ ⟨by omega,by omega⟩
  have hng:¬ ((m:Int)<0):=by omega
  have hb:¬ ((m:Int) * (i.bytes:Int)>281474976710656):=by
    rw [← Int.natCast_mul]; omega
  have hn:¬ m * i.size=0:=by
    intro e; rcases Nat.mul_eq_zero.1 e with e | e <;> omega
  have hm0:¬ m=0:=by omega
  have h63':¬ (9223372036854775807<(m:Int)):=by omega
  have h48':¬ (281474976710656<Builtin.nextslicecap m 0 * i.bytes):=by rw [nextslicecap_zero h0]; omega
  simp [Builtin.append_,run_underlying ht,run_underlying hx,sizeOf,typeInfo,hi,zeroValue,hz,asInt,asIntOf,hw,hng,hb,hm0,hn,h63',h48',Question.forced,run_firstCells_none,newRow,grownCap]
theorem run_appendZ_grow (w:World) (t tx ty e:TypeId) (i:TypeInfo) (z:Value) (ht:P.underlying t=some (.slice e)) (hx:P.underlying tx=some (.int .i64)) (hi:P.info? e=some i) (hz:i.zero=some z)
    (b:Addr) (sLen sCap m:Nat) (olds:List Value) (hlo:olds.length=sLen * i.size) (holds:∀ j v,olds[j]?=some v→w.cell? (b.add j)=some v) (hp:0<i.size)
    (hm:m≤140737488355328) (hby:m * i.bytes≤140737488355328) (hg:sCap<sLen+m) (hm0:0<m) (h63:((sLen+m:Nat):Int)≤9223372036854775807) (hfit:Builtin.nextslicecap (sLen+m) sCap * i.bytes≤281474976710656) :
    (Builtin.append_ #[t,tx] ty #[.slice (some b) sLen sCap,I m]).run P w =
      .ok (.slice (some ⟨w.heap.size,0,none⟩) (sLen+m) (grownCap w (sLen+m) sCap e))
        (w.drew.alloc (.cells (olds.toArray++Builtin.zeroCells z.cells m++Builtin.zeroCells z.cells (grownCap w (sLen+m) sCap e-(sLen+m))) e)):=by
  have hw:IntKind.i64.wrap (m:Int)=(m:Int):=IntWalk.i64_in _ ⟨by omega,by omega⟩
  have hng:¬ ((m:Int)<0):=by omega
  have hb:¬ ((m:Int) * (i.bytes:Int)>281474976710656):=by
    rw [← Int.natCast_mul]; omega
  have hm0':¬ m=0:=by omega
  have hms:¬ m * i.size=0:=by
    intro e; rcases Nat.mul_eq_zero.1 e with e | e <;> omega
  have hn:¬ (sLen+m≤sCap):=by omega
  have h63':¬ (9223372036854775807<((sLen:Int)+(m:Int))):=by omega
  have h48':¬ (281474976710656<Builtin.nextslicecap (sLen+m) sCap * i.bytes):=by omega
  have hfo:=run_firstCells_some (P:=P) w.drew i.size sLen b sLen sCap olds hlo (by simpa using holds)
  simp [Builtin.append_,run_underlying ht,run_underlying hx,sizeOf,typeInfo,hi,zeroValue,hz,asInt,asIntOf,hw,hng,hb,hms,hn,h63',h48',Question.forced,hfo,newRow,grownCap]
theorem run_appendZ_OS [DM] {α:Type} [Flat α] {t tx E ty:TypeId} {bytes:Nat} {z:Value} {h:PH} {v:Value} {xs:List α} {x0:α} {k:Int} (hu:P.underlying t=some (.slice E)) (hx:P.underlying tx=some (.int .i64)) (hi:TyI P E (Enc.n α) bytes z) (hp:0<Enc.n α)
    (hz0:Enc.rd emp z.cells.toList x0) (os:OS E h emp v xs) (e:Sub h w) (hk:0≤k) (hm:ln xs+k≤140737488355328) (hb:(ln xs+k) * bytes≤140737488355328) :
    ∃ v' w' h',(Builtin.append_ #[t,tx] ty #[v,I k]).run P w = .ok v' w'∧OS E h' emp v' (xs++List.replicate k.toNat x0)∧Sub h' w'∧But h w w'∧DomLe h w.heap.size h':=by
  obtain ⟨m,rfl⟩:∃ m:Nat,k=(m:Int):=⟨k.toNat,by omega⟩
  rw [Int.toNat_natCast]
  have os0:=os
  obtain ⟨cells,o,r⟩:=os
  obtain ⟨i,hinf,hsz,hbb,hz,hzs⟩:=hi.ok
  subst hbb
  have hb':(xs.length+m) * i.bytes≤140737488355328:=by
    have h:(((xs.length+m) * i.bytes:Nat):Int)≤140737488355328:=by
      rw [Int.natCast_mul,Int.natCast_add]; exact hb
    omega
  have hbm:m * i.bytes≤140737488355328:=Nat.le_trans (Nat.mul_le_mul_right _ (by omega)) hb'
  have hmm:xs.length+m≤140737488355328:=by simp only [ln] at hm; omega
  have hzr:rdL emp ((List.replicate m z.cells.toList).flatten) (List.replicate m x0):=rdL.replicate m hz0
  have hzl:(Builtin.zeroCells z.cells m).toList=(List.replicate m z.cells.toList).flatten:=zeroCells_eq _ _
  have hzn:(Builtin.zeroCells z.cells m).toList.length=m * Enc.n α:=by rw [hzl,hzr.length,List.length_replicate]
  have hlen:(cells++(List.replicate m z.cells.toList).flatten).length=(xs.length+m) * Enc.n α:=by rw [List.length_append,o.1,hzr.length,List.length_replicate,Nat.add_mul]
  have hnew:rdL emp (cells++(List.replicate m z.cells.toList).flatten) (xs++List.replicate m x0):=r.append hzr
  have hll:(xs++List.replicate m x0).length=xs.length+m:=by simp
  have same:m=0→OS E h emp v (xs++List.replicate m x0):=fun e=>by subst e; simpa using os0
  have grown:∀ (old:Nat),old<xs.length+m →
      OS E (single w.heap.size (.cells (cells.toArray++Builtin.zeroCells z.cells m++Builtin.zeroCells z.cells (grownCap w (xs.length+m) old E-(xs.length+m))) E (0,0))) emp
        (.slice (some ⟨w.heap.size,0,none⟩) (xs.length+m) (grownCap w (xs.length+m) old E)) (xs++List.replicate m x0):=by
    intro old ho
    have hge:=grownCap_ge w (xs.length+m) old E
    have hcm:grownCap w (xs.length+m) old E≤maxLen:=grownCap_le_maxLen w (xs.length+m) old E (by simp only [maxLen]; omega)
    refine ⟨_,⟨by rw [hll]; exact hlen,.inr ⟨w.heap.size,_,_,_,by rw [hll],rfl,by rw [hll]; exact hge,hcm,?_,?_⟩⟩,hnew⟩
    · simp only [Array.size_append,List.size_toArray,size_zeroCells,hzs,o.1,← Nat.add_mul]
      congr 1
      omega
    · simp only [Array.toList_append,hzl]
      rw [hll,← hlen]
      exact List.take_left
  have fr:∀ o':Obj,Sub (single w.heap.size o') (w.drew.alloc o')∧But h w (w.drew.alloc o')∧DomLe h w.heap.size (single w.heap.size o'):=fun o' =>
    ⟨single_sub.2 (heap_alloc_new w.drew _),⟨rfl,rfl,rfl,by simp,fun k hk _=>(Below.heap_alloc w.drew o' k hk),fun _=>Nat.le_succ _⟩,(single_fresh (Nat.le_refl _)).dom _⟩
  rcases o.2 with ⟨rfl,h0,rfl⟩ | ⟨b,cap,cur,E',rfl,rfl,hc,hmx,hs,ht⟩
  · have hx0:xs=[]:=List.eq_nil_of_length_eq_zero h0
    subst hx0
    by_cases hm0:m=0
    · subst hm0
      refine ⟨_,w,emp,?_,same rfl,e,But.refl _ _,DomLe.refl _ _⟩
      have hw:IntKind.i64.wrap (0:Int)=0:=rfl
      simp [Builtin.append_,run_underlying hu,run_underlying hx,sizeOf,typeInfo,hinf,asInt,asIntOf,hw]
    · have hr:=run_appendZ_nil (P:=P) w t tx ty E i z hu hx hinf hz m (by omega) (by omega) (by omega) hbm
      have hgr:=grown 0 (by simp; omega)
      have hcl:cells=[]:=List.eq_nil_of_length_eq_zero (by simpa using o.1)
      subst hcl
      simp only [List.length_nil,Nat.zero_add,Array.empty_append] at hgr
      obtain ⟨f1,f2,f3⟩:=fr (.cells (Builtin.zeroCells z.cells m++Builtin.zeroCells z.cells (grownCap w m 0 E-m)) E (0,0))
      exact ⟨_,_,_,hr,hgr,f1,f2,f3⟩
  · have hw:=single_sub.1 e
    by_cases hroom:xs.length+m≤cap
    · have hfit:xs.length * i.size+m * i.size≤cur.size:=by rw [hsz,hs,← Nat.add_mul]; exact Nat.mul_le_mul_right _ hroom
      have hr:=run_appendZ_room (P:=P) w t tx ty E E' i z hu hx hinf hz b xs.length cap m cur hw (by rw [hzs,hsz]) (by rw [hzl]; exact hzr.one) (by omega) hbm hroom hfit
      refine ⟨_,_,_,hr,⟨_,⟨by rw [hll]; exact hlen,.inr ⟨b,cap,_,E',by rw [hll],rfl,by rw [hll]; exact hroom,hmx,?_,?_⟩⟩,hnew⟩,setRow_sub hw,setRow_but _ _ _,single_dom⟩
      · simp only [List.size_toArray,List.length_append,List.length_take,List.length_drop,hzn]
        have hq:cur.toList.length=cur.size:=Array.length_toList
        rw [hsz] at hfit ⊢
        omega
      · rw [hsz,ht,hzl,hll,← hlen]
        exact List.take_left
    · have holds:∀ j u,cells[j]?=some u→w.cell? ((⟨b,0,none⟩:Addr).add j)=some u:=fun j u hj=>by
        rw [addr_at,cell_of_row w b _ cur E' _ hw,Nat.zero_add]
        have hjl:j<xs.length * Enc.n α:=by
          have:=(List.getElem?_eq_some_iff.1 hj).1; rw [o.1] at this; exact this
        rw [← ht,List.getElem?_take,if_pos hjl] at hj
        rw [← Array.getElem?_toList]; exact hj
      have hr:=run_appendZ_grow (P:=P) w t tx ty E i z hu hx hinf hz ⟨b,0,none⟩ xs.length cap m cells (by rw [o.1,hsz]) holds (by omega) (by omega) hbm (by omega) (by omega) (by omega) (growslice_fits (by omega) hb')
      obtain ⟨f1,f2,f3⟩:=fr (.cells (cells.toArray++Builtin.zeroCells z.cells m++Builtin.zeroCells z.cells (grownCap w (xs.length+m) cap E-(xs.length+m))) E (0,0))
      exact ⟨_,_,_,hr,grown cap (by omega),f1,f2,f3⟩
end
section
variable {P:Program} {n:Nat} {ρ:Env} {w:World} {ops:Array Oper} {Q:Exit→Act→World→Prop}
theorem LP_appendZ [DM] {α:Type} [Flat α] {t tx E:TypeId} {bytes:Nat} {z:Value} {h:PH} {v:Value} {xs:List α} {x0:α} {i:Int} {o:Oper} {s x:Operand} (k:Nat)
    (at0:At n ops ρ k o (.call ⟨.builtin .append,⟨[s,x]⟩,⟨[t,tx]⟩⟩)) (hu:P.underlying t=some (.slice E)) (hux:P.underlying tx=some (.int .i64)) (hi:TyI P E (Enc.n α) bytes z) (hp:Nat.blt 0 (Enc.n α)=true)
    (hz:Enc.rd emp z.cells.toList x0) (hs:opd n ρ s=v) (hx:opd n ρ x=I i) (os:OS E h emp v xs) (e:Sub h w) (h0:0≤i)
    (hm:ln xs+i≤140737488355328) (hb:(ln xs+i) * bytes≤140737488355328)
    (H:∀ h' v' w',OS E h' emp v' (xs++List.replicate i.toNat x0)→Sub h' w'→But h w w'→DomLe h w.heap.size h'→LP P n ops Q (k+1) (updO ρ o.dst v') w'):LP P n ops Q k ρ w:=by
  obtain ⟨v',w',h',h1,h2,h3,h4,h5⟩:=run_appendZ_OS (ty:=o.type) hu hux hi (by simp [Nat.blt] at hp; omega) hz os e h0 hm hb
  refine LP_val k o at0.o at0.g ?_ (H h' v' w' h2 h3 h4 h5)
  simp only [execOp,at0.op,resolve,invoke,builtin,Sem.run_bind,Sem.run_pure,Result.andThen_ok,List.map_toArray,List.map_cons,List.map_nil,hs,hx,h1]
end
end Go.Gv
/- Short names for what walks say most often. -/
namespace Go.Gv
open Go Go.RowKit
def agv (E:Env):List (Nat×Value)→List Value
  | []=>[]
  | (i,_) :: r=>E i :: agv E r
def vls:List (Nat×Value)→List Value
  | []=>[]
  | (_,v) :: r=>v :: vls r
theorem ag_of {E:Env}:∀ {l:List (Nat×Value)},agv E l=vls l→agrees E l
  | [],_=>trivial
  | (_,_) :: _,h=>⟨(List.cons.inj h).1,ag_of (List.cons.inj h).2⟩
theorem Ee {E:Env} {l:List (Nat×Value)} (h:agv E l=vls l):E=setAll l E:=env_eq (ag_of h)
def enumA:Nat→List Value→List (Nat×Value)
  | _,[]=>[]
  | k,v :: r=>(k,v) :: enumA (k+1) r
theorem enumA_ag:∀ (args pre:List Value),agrees (argEnv (pre++args)) (enumA pre.length args)
  | [],_=>trivial
  | v :: r,pre=>by
    have h:=enumA_ag r (pre++[v])
    rw [List.append_assoc,List.length_append] at h
    exact ⟨by simp [argEnv],h⟩
def resv (n:Nat) (ρ:Env):List ResultVar→Option (List Value)
  | []=>some []
  | .tmp t :: r=>match Nat.blt t n with | true=>(resv n ρ r).map (ρ t :: ·) | false=>none
  | _=>none
section
variable {P:Program} {T:Ty} {n:Nat} {N:Asn} {X:Nat→Asn} {R:Asn} {ρ:Env} {w:World} {ops:Array Oper}
theorem Wo {c:Code} (l:List (Nat×Value)) (h:agv ρ l=vls l) (H:∀ ρ,WP P n c N X R (setAll l ρ) w):WP P n c N X R ρ w:=W_forget l (ag_of h) H
theorem evList_len:∀ {r:List Oper} {ρ:Env} {l u:List (Nat×Value)},evList T n ops r ρ l=some u→r.length=l.length
  | [],_,[],_,_=>rfl
  | [],_,_ :: _,_,h=>by simp [evList] at h
  | _ :: _,_,[],_,h=>by simp [evList] at h
  | o :: r,ρ,(i,v) :: l,u,h=>by
    have key:∀ {us},evList T n ops r (upd ρ i v) l=some us→(o :: r).length=((i,v) :: l).length:=fun e=>by simp [evList_len e]
    unfold evList at h
    split at h
    · split at h
      · split at h
        · rename_i e; exact key e
        · cases h
      · split at h
        · rename_i e; exact key e
        · cases h
      · cases h
    · cases h
/-- A region, all of it at once. -/
theorem Wm {id:Nat} (ok:TyOk P T) (l:List (Nat×Value)) (h:evList T n ops ops.toList ρ l=some l) (H:N (updL ρ l) w):WP P n (.region id ops false) N X R ρ w:=by
  refine W_region (LP_ev_aux ok ops.toList 0 ρ l (fun j o hj=>by simpa using hj) h (LP_end _ ?_ H))
  rw [Nat.zero_add,← evList_len h,List.drop_length]
theorem Wl {id:Nat} (ok:TyOk P T) (l:List (Nat×Value)) (k':Nat) (h:(evList T n ops (ops.toList.take l.length) ρ l,l.length)=(some l,k')) (H:LP P n ops (pst n N X R) k' (updL ρ l) w):WP P n (.region id ops false) N X R ρ w :=
  W_region (LP_ev ok 0 l k' (by simpa using h) H)
end
theorem Rt {P:Program} {fn:Func} {n:Nat} {ρ:Env} {w:World} {vs:List Value} (h:resv n ρ fn.results.toList=some vs):Ret P fn n ρ w (tup vs):=by
  refine Ret_of vs ?_
  generalize fn.results.toList=l at h
  induction l generalizing vs with
  | nil=>cases h; trivial
  | cons a r ih =>
    cases a with
    | tmp t =>
      unfold resv at h
      split at h
      · rename_i ht
        cases hr:resv n ρ r with
        | none=>rw [hr] at h; cases h
        | some us=>rw [hr] at h; cases h; exact ⟨⟨ht,rfl⟩,ih hr⟩
      · cases h
    | cell a t=>cases h
/-- A function, entered. -/
theorem En {P:Program} {f:FuncId} {fn:Func} {c:Code} {args:List Value} {w:World} {R:Value→World→Prop} (n:Nat) (hf:P.funcs[f]?=some fn) (h:(fn.body,fn.ntmps,Nat.ble args.length n)=(some c,n,true))
    (H:∀ ρ,WP P n c (fun ρ w=>∃ v,Ret P fn n ρ w v∧R v w) (fun _ _ _=>False) (fun ρ w=>∃ v,Ret P fn n ρ w v∧R v w) (setAll (enumA 0 args) ρ) w):CallsTo P f args.toArray w R:=by
  have h1:=congrArg Prod.fst h
  have h2:=congrArg (·.2.1) h
  have h3:=congrArg (·.2.2) h
  exact enter n hf h1 h2 h3 (W_forget _ (enumA_ag args []) H)
abbrev Wg:=@W_region
abbrev Lv:=@LP_ev
abbrev Ln:=@LP_end
abbrev Wq:=@W_seq
abbrev Lb:=@LP_ldbox
abbrev Lc:=@LP_call
abbrev Lx [DM]:=@LP_stbox
abbrev Wc:=@W_cond
abbrev Wk:=@W_skip
abbrev Sd:=@single_dom
abbrev Df:=@Dj.of_fresh
abbrev Db:=@Dj.box
abbrev Dl:=@Dj.un_l
abbrev Dr:=@Dj.un_r
abbrev De:=@Dj.emp_r
abbrev Br [DM]:=@But.refl
abbrev Or:=@Dom.refl
abbrev Ot:=@Dom.trans
abbrev Mt:=@DomLe.trans
abbrev Md:=@DomLe.dom
abbrev Mu:=@DomLe.un
abbrev Mj:=@DomLe.dj
abbrev Li:=@LP_index
abbrev Lo:=@LP_load
abbrev Ly [DM]:=@LP_box
abbrev Oe:=@Dom.le
abbrev La [DM]:=@LP_alloc
end Go.Gv
/- A variable that is made at an open time beside a chain of calls: it is walked once, not at each place where it may come. -/
namespace Go.Gv
open Go Go.RowKit
end Go.Gv
/- slices.SortFunc: its contract, turned to partial heaps. -/
namespace Go.Gv
open Go Go.RowKit
structure SwoOn {α:Type} (V:α→Prop) (cf:α→α→Int):Prop where
  irrefl:∀ x,V x→¬ cf x x<0
  trans:∀ x y z,V x→V y→V z→cf x y<0→cf y z<0→cf x z<0
  ntrans:∀ x y z,V x→V y→V z→¬ cf x y<0→¬ cf y z<0→¬ cf x z<0
/-- What sorting comes to: every permutation that is sorted will do. -/
def sortq {α:Type} (cm:α→α→(Int→Prop)→Prop) (xs:List α) (Q:List α→Prop):Prop :=
  ∃ (V:α→Prop) (cf:α→α→Int),(∀ x∈xs,V x)∧(∀ x y,V x→V y→cm x y (fun r=>r=cf x y))∧SwoOn V cf∧xs.length<4611686018427387904 ∧
    ∀ ys,ys.Perm xs→ys.Pairwise (fun a b=>¬ cf b a<0)→Q ys
theorem Ext.grow {w w':World} (x : @Ext ⟨True⟩ w w'):∃ q os,w'=Sort.grow (w.drewN q) os:=by
  letI:DM:=⟨True⟩
  refine ⟨w'.drawn-w.drawn,w'.heap.extract w.heap.size,?_⟩
  have hh:w'.heap=w.heap++w'.heap.extract w.heap.size:=by
    apply Array.ext_getElem?
    intro k
    rw [Array.getElem?_append]
    by_cases hk:k<w.heap.size
    · rw [if_pos hk]; exact x.block k hk
    · rw [if_neg hk,Array.getElem?_extract]
      have hs:=x.size
      by_cases h2:k<w'.heap.size
      · rw [if_pos (by omega)]; congr 1; omega
      · rw [if_neg (by omega),Array.getElem?_eq_none (by omega)]
  have hd:=x.drawn trivial
  have h1:=x.os; have h2:=x.tape; have h3:=x.output
  obtain ⟨hp,tp,dr,os,ou⟩:=w'
  simp only at hh hd h1 h2 h3 ⊢
  unfold Sort.grow World.drewN
  simp only
  subst h1 h2 h3
  rw [← hh,show w.drawn+(dr-w.drawn)=dr from by omega]
section
variable {α:Type} [Deep α]
def ownP:PH→List (List Value×α)→Prop
  | r,[]=>r=emp
  | r,p :: ps=>∃ h1 h2,r=un h1 h2∧Dj h1 h2∧Deep.own h1 p.1 p.2∧ownP h2 ps
theorem ownL.pairs {r:PH} {cells:List Value} {xs:List α} (o:ownL r cells xs):∃ ps:List (List Value×α),ownP r ps∧cells=(ps.map Prod.fst).flatten∧xs=ps.map Prod.snd:=by
  induction xs generalizing r cells with
  | nil=>exact ⟨[],o.2,o.1,rfl⟩
  | cons x xs ih =>
    obtain ⟨c,cr,h1,h2,rfl,rfl,d,hx,ho⟩:=o
    obtain ⟨ps,h3,h4,h5⟩:=ih ho
    exact ⟨(c,x) :: ps,⟨h1,h2,rfl,d,hx,h3⟩,by simp [h4],by simp [h5]⟩
theorem ownP.ownL {r:PH} {ps:List (List Value×α)} (o:ownP r ps):ownL r (ps.map Prod.fst).flatten (ps.map Prod.snd):=by
  induction ps generalizing r with
  | nil=>exact ⟨rfl,o⟩
  | cons p ps ih =>
    obtain ⟨h1,h2,rfl,d,hx,ho⟩:=o
    exact ⟨p.1,_,h1,h2,by simp,rfl,d,hx,ih ho⟩
theorem ownP.perm {ps qs:List (List Value×α)} (p:ps.Perm qs):∀ {r:PH},ownP r ps→ownP r qs:=by
  induction p with
  | nil=>exact id
  | cons x _ ih=>rintro r ⟨h1,h2,e,d,hx,ho⟩; exact ⟨h1,h2,e,d,hx,ih ho⟩
  | swap x y l =>
    rintro r ⟨h1,h2,rfl,d,hx,h3,h4,rfl,d',hy,ho⟩
    exact ⟨h3,un h1 h4,by rw [← un_assoc,← un_assoc,d.of_l.comm],d.of_l.symm.un_r d',hy,h1,h4,rfl,d.of_r,hx,ho⟩
  | trans _ _ ih1 ih2=>exact fun o=>ih2 (ih1 o)
theorem ownP.rd {r:PH} {ps:List (List Value×α)} (o:ownP r ps):∀ p∈ps,Enc.rd r p.1 p.2:=by
  induction ps generalizing r with
  | nil=>intro p hp; cases hp
  | cons q ps ih =>
    obtain ⟨h1,h2,rfl,d,hx,ho⟩:=o
    intro p hp
    rcases List.mem_cons.1 hp with rfl | hp
    · exact Enc.le (Le.un_left _ _) (Deep.ord hx)
    · exact Enc.le (Le.un_r d) (ih ho p hp)
end
theorem flat_get {β:Type} {k:Nat} (hk:0<k):∀ (l:List (List β)),(∀ x∈l,x.length=k)→∀ t,l.flatten[t]?=(l[t / k]?).bind (·[t % k]?)
  | [],_,t=>by simp
  | c :: l,h,t=>by
    have hc:=h c (by simp)
    rw [List.flatten_cons,List.getElem?_append]
    by_cases ht:t<c.length
    · rw [if_pos ht,Nat.div_eq_of_lt (by omega),Nat.mod_eq_of_lt (by omega)]; simp
    · rw [if_neg ht,flat_get hk l (fun x hx=>h x (by simp [hx])),hc]
      have e1:t / k=(t-k) / k+1:=Nat.div_eq_sub_div hk (by omega)
      have e2:t % k=(t-k) % k:=Nat.mod_eq_sub_mod (by omega)
      rw [e1,e2]; simp
theorem toArr_at {l:List Value} {i:Nat} {v:Value} (h:l[i]?=some v):l.toArray[i]! = v:=by
  obtain ⟨hi,rfl⟩:=List.getElem?_eq_some_iff.1 h
  exact getElem!_pos l.toArray i (by simpa using hi)
theorem flatK_eq {β:Type} [Inhabited β] {k:Nat} (enc:β→List Value) (hk:∀ x,(enc x).length=k) (d:Array β):Sort.flatK enc k d=((d.toList.map enc).flatten).toArray:=by
  have hlen:((d.toList.map enc).flatten).length=d.size * k:=by
    rw [List.length_flatten,List.map_map]
    rw [show (List.length ∘ enc)=fun _=>k from funext hk]
    rw [← Array.length_toList]
    induction d.toList with
    | nil=>simp
    | cons a l ih=>rw [List.map_cons,List.sum_cons,ih,List.length_cons,Nat.succ_mul,Nat.add_comm]
  refine Sort.ext_get! (by simp only [Sort.size_flatK,List.size_toArray]; exact hlen.symm) fun t ht=>?_
  rw [Sort.size_flatK] at ht
  have k0:0<k:=by
    rcases Nat.eq_zero_or_pos k with h | h
    · subst h; simp at ht
    · exact h
  rw [Sort.get_flatK _ _ _ _ ht]
  have hq:t / k<d.size:=Nat.div_lt_of_lt_mul (by rw [Nat.mul_comm]; exact ht)
  have h2:=flat_get k0 (d.toList.map enc) (fun x hx=>by obtain ⟨y,_,rfl⟩:=List.mem_map.1 hx; exact hk y) t
  rw [List.getElem?_map,List.getElem?_eq_getElem (show t / k<d.toList.length from by rw [Array.length_toList]; exact hq),Array.getElem_toList] at h2
  simp only [Option.map_some,Option.bind_some] at h2
  have hm:t % k<(enc d[t / k]).length:=by rw [hk]; exact Nat.mod_lt _ k0
  rw [List.getElem?_eq_getElem hm] at h2
  rw [getElem!_pos d _ hq,getElem!_pos (enc d[t / k]) _ hm,toArr_at h2]
section
variable {P:Program} {ρ:Shelf.Ren} {α:Type} [Deep α]
theorem sort_w [DM] (L:Go.Proofs.SlLaysF0.n6 P ρ) {f:FuncId} (hf:ρ.f 6=f) {bytes:Nat} {z:Value} (hE:TyI P (ρ.t 24) (Enc.n α) bytes z) (hA:AggT P (ρ.t 24) true) (ha:Enc.agg α=true) {g:FuncId} (hg:Callable P g)
    {cm:α→α→(Int→Prop)→Prop}
    (hcm:∀ (x y:α) K,cm x y K→∀ (w:World) (h:PH) (v1 v2:Value),RV h v1 x→RV h v2 y→Sub h w→CallsTo P g #[v1,v2] w fun v w'=>∃ r,K r∧v=I r∧@Ext ⟨True⟩ w w')
    {xs:List α} {Q:List α→Prop} (H:sortq cm xs Q) (w:World) {v:Value} {h:PH} (o:OD h v xs) (e:Sub h w) :
    CallsTo P f #[v,.func (.func g) #[] #[]] w fun u w'=>∃ ys h',Q ys∧u = .tuple #[]∧But h w w'∧OD h' v ys∧Sub h' w'∧∀ n,DomLe h n h':=by
  subst hf
  obtain ⟨V,cf,hV,hc,hO,hlen,hQ⟩:=H
  obtain ⟨cells,hr,r,⟨ol,oc⟩,rfl,dj,oo⟩:=o
  by_cases hx:xs=[]
  · subst hx
    obtain ⟨p,cap,rfl⟩:∃ p cap,v = .slice p 0 cap:=by
      rcases oc with ⟨rfl,_,_⟩ | ⟨b,cap,cur,E',rfl,_⟩ <;> exact ⟨_,_,rfl⟩
    unfold CallsTo
    refine Calls.mono (Go.Proofs.AnyF.slices_SortFunc_none L p cap _ w) ?_
    rintro e1 w' ⟨rfl,rfl⟩
    exact ⟨[],_,hQ [] (List.Perm.refl _) List.Pairwise.nil,rfl,But.refl _ _,⟨cells,hr,r,⟨ol,oc⟩,rfl,dj,oo⟩,e,fun n=>DomLe.refl _ _⟩
  rcases oc with ⟨_,h0,_⟩ | ⟨b,cap,cur,E',rfl,rfl,hcap,hmax,hsz,htake⟩
  · exact absurd (List.eq_nil_of_length_eq_zero h0) hx
  obtain ⟨ps,hp,hcells,hxs⟩:=oo.pairs
  have hS:∀ p∈ps,V p.2∧Enc.rd r p.1 p.2:=fun p hm=>⟨hV _ (by rw [hxs]; exact List.mem_map_of_mem hm),hp.rd p hm⟩
  let β:Type:={p:List Value×α // V p.2∧Enc.rd r p.1 p.2}
  obtain ⟨ds,hds⟩:∃ ds:List β,ds.map Subtype.val=ps:=⟨ps.pmap (fun p h=>⟨p,h⟩) hS,by rw [List.map_pmap]; simp⟩
  have hps:ps≠[]:=by rintro rfl; exact hx (by rw [hxs]; rfl)
  have hne:ds≠[]:=by rintro rfl; exact hps hds.symm
  letI:Inhabited β:=⟨ds.head hne⟩
  let enc:β→List Value:=fun p=>p.1.1
  have hk:∀ x:β,(enc x).length=Enc.n α:=fun x=>Enc.len x.2.2
  have h1:∀ x:β,∀ v∈enc x,v.oneCell'=true:=fun x=>Enc.one x.2.2
  let cf':β→β→Int:=fun x y=>cf x.1.2 y.1.2
  have hO':Sort.SWO (Go.Proofs.ltOf cf') :=
    ⟨fun x=>decide_eq_false (hO.irrefl _ x.2.1),fun x y z h1 h2=>decide_eq_true (hO.trans _ _ _ x.2.1 y.2.1 z.2.1 (of_decide_eq_true h1) (of_decide_eq_true h2)),
      fun x y z h1 h2=>decide_eq_false (hO.ntrans _ _ _ x.2.1 y.2.1 z.2.1 (of_decide_eq_false h1) (of_decide_eq_false h2))⟩
  have hdl:ds.length=xs.length:=by rw [hxs,List.length_map,← hds,List.length_map]
  have hcd:cells=(ds.map enc).flatten:=by rw [hcells,← hds,List.map_map]; rfl
  have hwb:w.heap[b]?=some (.cells cur E' (0,0)):=e b _ (by simp [un,single])
  have hblk:b<w.heap.size:=by
    rcases Nat.lt_or_ge b w.heap.size with h2 | h2
    · exact h2
    · rw [Array.getElem?_eq_none h2] at hwb; cases hwb
  have hfk:∀ d:Array β,Sort.flatK enc (Enc.n α) d=((d.toList.map enc).flatten).toArray:=flatK_eq enc hk
  have hH:Sort.HoldsK enc (Enc.n α) w b 0 ds.toArray:=by
    intro j hj
    rw [Sort.size_flatK,List.size_toArray,hdl] at hj
    refine ⟨?_,?_⟩
    · rw [hfk]
      show w.cell? ⟨b,0+j,none⟩=some (((ds.map enc).flatten).toArray[j]!)
      rw [← hcd,Nat.zero_add]
      have hjl:j<cells.length:=by rw [ol]; exact hj
      rw [getElem!_def,List.getElem?_toArray,List.getElem?_eq_getElem hjl]
      simp only [World.cell?,hwb,Option.isSome_none,Bool.false_eq_true,if_false]
      have:=List.getElem?_eq_getElem hjl
      rw [← Array.getElem?_toList,← this,← htake,List.getElem?_take,if_pos hj]
    · simp [World.frozen?,hwb]
  have hsub:∀ (m:Nat) (dk:Array β) (os:Array Obj),∀ c,c≠b→c<w.heap.size→(Go.Proofs.sortWorldK enc (Enc.n α) w b 0 m dk os).heap[c]?=w.heap[c]?:=fun m dk os c hcb hcl=>by
    unfold Go.Proofs.sortWorldK
    rw [Sort.heap_grow_old]
    · unfold Sort.putRowK Sort.putRow Sort.mapBlock
      simp only [Array.getElem?_modify]
      rw [if_neg (Ne.symm hcb)]; rfl
    · rw [Sort.size_putRowK]; exact hcl
  have hrb:r b=none:=(dj b).resolve_left (by simp [single])
  have hSr:∀ (m:Nat) (dk:Array β) (os:Array Obj),Sub r (Go.Proofs.sortWorldK enc (Enc.n α) w b 0 m dk os):=fun m dk os c ob hc=>by
    have hcb:c≠b:=by rintro rfl; rw [hrb] at hc; cases hc
    have hcw:w.heap[c]?=some ob:=e c ob (by simp [un,single,hcb,hc])
    rw [hsub m dk os c hcb (by
      rcases Nat.lt_or_ge c w.heap.size with h2 | h2
      · exact h2
      · rw [Array.getElem?_eq_none h2] at hcw; cases hcw)]
    exact hcw
  have hcmp:Go.Proofs.CmpLays P g #[] enc (Enc.n α) cf' b 0 ds.toArray.size w:=fun m os dk _ x y=>by
    have h2:=hcm x.1.2 y.1.2 _ (hc _ _ x.2.1 y.2.1) (Go.Proofs.sortWorldK enc (Enc.n α) w b 0 m dk os) r (.agg (enc x).toArray) (.agg (enc y).toArray) ⟨_,x.2.2,by simp [vOf,ha,enc]⟩ ⟨_,y.2.2,by simp [vOf,ha,enc]⟩ (hSr m dk os)
    unfold CallsTo at h2
    refine Calls.mono h2 fun e1 w' h3=>?_
    cases e1 with
    | returned v=>obtain ⟨q,rfl,rfl,x⟩:=h3; exact ⟨rfl,x.grow⟩
    | panicked _=>exact h3.elim
    | outgrown=>exact h3.elim
  obtain ⟨inf,hinf,hszE,_⟩:=hE.ok
  have key:=Go.Proofs.AnyQ.slices_SortFunc L (Enc.n α) (fun w=>run_isAgg hA) (fun w=>by simp [sizeOf,typeInfo,hinf,hszE]) enc hk h1 cf' hO' g #[] b 0 cap ds.toArray w (fun args w=>hg args w) hcmp hH hblk (by rw [List.size_toArray,hdl]; exact hlen)
  unfold CallsTo
  rw [show xs.length=ds.toArray.size from by rw [List.size_toArray,hdl]]
  refine Calls.mono key ?_
  rintro e1 w' ⟨rfl,d',n,os,⟨hd1,_,hd3⟩,hd4,rfl⟩
  have hperm:d'.toList.Perm ds:=by
    rw [show (d'.extract 0 ds.toArray.size)=d' from by rw [← hd1]; simp,show (ds.toArray.extract 0 ds.toArray.size)=ds.toArray from by simp] at hd3
    exact hd3
  have hperm2:(d'.toList.map Subtype.val).Perm ps:=by rw [← hds]; exact hperm.map _
  have hlen':d'.toList.length=xs.length:=by rw [hperm.length_eq,hdl]
  have hnew:(Go.Proofs.sortWorldK enc (Enc.n α) w b 0 n d' os).heap[b]?=some (.cells (Sort.putCells id 0 (Sort.flatK enc (Enc.n α) d') cur) E' (0,0)):=by
    unfold Go.Proofs.sortWorldK
    rw [Sort.heap_grow_old]
    · unfold Sort.putRowK Sort.putRow Sort.mapBlock
      simp only [Array.getElem?_modify,if_true]
      show (w.heap[b]?).map _=_
      rw [hwb]; rfl
    · rw [Sort.size_putRowK]; exact hblk
  have hsn:Sub (un (single b (.cells (Sort.putCells id 0 (Sort.flatK enc (Enc.n α) d') cur) E' (0,0))) r) (Go.Proofs.sortWorldK enc (Enc.n α) w b 0 n d' os):=(single_sub.2 hnew).un (hSr _ _ _)
  have hcl:((d'.toList.map enc).flatten).length=xs.length * Enc.n α:=by
    have:=Sort.size_flatK enc (Enc.n α) d'
    rw [hfk,List.size_toArray,← Array.length_toList,hlen'] at this
    exact this
  refine ⟨d'.toList.map (·.1.2),_,hQ _ ?_ ?_,rfl,⟨rfl,rfl,rfl,?_,fun c hcl hcn=>?_,?_⟩,⟨(d'.toList.map enc).flatten,_,r,⟨?_,.inr ⟨b,cap,_,E',?_,rfl,?_,hmax,?_,?_⟩⟩,rfl,?_,?_⟩,hsn,fun m c hcn _=>?_⟩
  · rw [hxs,← hds,List.map_map]; exact hperm.map _
  · rw [List.pairwise_map,List.pairwise_iff_getElem]
    intro i j hi hj hij
    have:=hd4 i j (Nat.zero_le _) hij (by rw [List.size_toArray,hdl,← hlen']; exact hj)
    have h2:=of_decide_eq_false this
    rw [Array.length_toList] at hi hj
    rw [getElem!_pos d' j hj,getElem!_pos d' i hi] at h2
    exact h2
  · have:=Sort.size_grow (Sort.putRowK enc (Enc.n α) (Sort.ahead w n) b 0 d') os
    show w.heap.size≤(Sort.grow (Sort.putRowK enc (Enc.n α) (Sort.ahead w n) b 0 d') os).heap.size
    rw [this,Sort.size_putRowK]; exact Nat.le_add_right _ _
  · refine hsub _ _ _ c ?_ hcl
    rintro rfl; simp [un,single] at hcn
  · exact fun _=>Nat.le_add_right _ _
  · rw [List.length_map,hlen',hcl]
  · rw [List.length_map,hlen',List.size_toArray,hdl]
  · rw [List.length_map,hlen']; exact hcap
  · simp [Sort.putCells,hsz]
  · rw [List.length_map,hlen']
    apply List.ext_getElem?
    intro t
    rw [List.getElem?_take]
    by_cases ht:t<xs.length * Enc.n α
    · rw [if_pos ht]
      simp only [Sort.putCells,Array.getElem?_toList,Array.getElem?_mapIdx]
      have htc:t<cur.size:=by
        have:=Nat.mul_le_mul_right (Enc.n α) hcap
        rw [hsz]; omega
      rw [Array.getElem?_eq_getElem htc,Option.map_some,Sort.size_flatK,← Array.length_toList,hlen',if_pos ⟨Nat.zero_le _,by omega⟩,hfk]
      have htl:t<((d'.toList.map enc).flatten).length:=by rw [hcl]; exact ht
      rw [List.getElem?_eq_getElem htl,Nat.sub_zero,getElem!_def,List.getElem?_toArray,List.getElem?_eq_getElem htl]
      rfl
    · rw [if_neg ht,List.getElem?_eq_none (by rw [hcl]; omega)]
  · intro c
    rcases dj c with h | h
    · left; unfold single at *; split at h
      · cases h
      · rename_i hne; rw [if_neg hne]
    · exact .inr h
  · have:=(hp.perm hperm2.symm).ownL
    rw [List.map_map,List.map_map] at this
    exact this
  · obtain ⟨h2,h3⟩:=un_none.1 hcn
    refine un_none.2 ⟨?_,h3⟩
    unfold single at *; split at h2
    · cases h2
    · rename_i hne; rw [if_neg hne]
end
/-- .. at flat elements. -/
theorem sort_wf [DM] {P:Program} {ρ:Shelf.Ren} {α:Type} [Flat α] (L:Go.Proofs.SlLaysF0.n6 P ρ) {f:FuncId} (hf:ρ.f 6=f) {bytes:Nat} {z:Value} (hE:TyI P (ρ.t 24) (Enc.n α) bytes z) (hA:AggT P (ρ.t 24) true) (ha:Enc.agg α=true) {g:FuncId} (hg:Callable P g)
    {cm:α→α→(Int→Prop)→Prop} (hcm:∀ (x y:α) K,cm x y K→∀ (w:World),CallsTo P g #[vOf true (Flat.enc x),vOf true (Flat.enc y)] w fun v w'=>∃ r,K r∧v=I r∧@Ext ⟨True⟩ w w')
    {xs:List α} {Q:List α→Prop} (H:sortq cm xs Q) (w:World) {E:TypeId} {v:Value} {h:PH} (o:OS E h emp v xs) (e:Sub h w) :
    CallsTo P f #[v,.func (.func g) #[] #[]] w fun u w'=>∃ ys h',Q ys∧u = .tuple #[]∧But h w w'∧OS E h' emp v ys∧Sub h' w'∧∀ n,DomLe h n h':=by
  refine CallsTo.mono (sort_w L hf hE hA ha hg (cm:=cm) (fun x y K hK w h v1 v2 r1 r2 _=>?_) H w (OS.od o) e) ?_
  · obtain ⟨c1,h1,rfl⟩:=r1
    obtain ⟨c2,h2,rfl⟩:=r2
    rw [Flat.flat.1 h1,Flat.flat.1 h2,ha]
    exact hcm x y K hK w
  · rintro u w' ⟨ys,h',h1,h2,h3,h4,h5,h6⟩
    exact ⟨ys,h',h1,h2,h3,OD.flat h4,h5,h6⟩
end Go.Gv
instance Go.Gv.dm:Go.Gv.DM:=⟨False⟩
