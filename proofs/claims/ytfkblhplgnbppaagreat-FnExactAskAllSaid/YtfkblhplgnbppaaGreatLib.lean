/- The layer, further: open regions, owned structures, closures, recursion, maps, arguments as they come in. -/
import Derived.Test.YtfkblhplgnbppaaGreatLibA
import Derived.Laws.BytesString
import Derived.WideLaws
import Derived.WideMake
import Derived.MapKept
import Derived.IntWalk
import Derived.ProofKit
import Derived.OpenShut
import Derived.ChangeOld
import Derived.Below
/- Regions whose order is open: one order is walked; what only reads comes to the same in all of them, what makes or writes stands in a chain. -/
namespace Go.Gv
open Go Go.RowKit
abbrev Asg:=List (Nat×Value)
def look:Asg→Nat→Value
  | [],_=>undef
  | (j,v) :: r,i=>if Nat.beq i j then v else look r i
theorem look_ne {A:Asg} {i j:Nat} {v:Value} (h:i≠j):look ((j,v) :: A) i=look A i:=by
  show (if Nat.beq i j=true then v else look A i)=look A i
  rw [beq_no h]; simp
theorem look_eq {A:Asg} {i:Nat} {v:Value}:look ((i,v) :: A) i=v:=by
  show (if Nat.beq i i=true then v else look A i)=v
  rw [show Nat.beq i i=true from Nat.beq_refl i]; simp
def gOn (A:Asg) (o:Oper):Option Bool :=
  match o.guard with
  | none=>some true
  | some (j,want)=>match look A j with | .bool b=>some (b==want) | .tuple _=>some false | _=>none
/-- What an operation leaves behind: nothing, if it has no slot. -/
def dv (o:Oper) (u:Value):Value:=match o.dst with | none=>undef | some _=>u
theorem dv_some {o:Oper} {u:Value} {d:Nat} (h:o.dst=some d):dv o u=u:=by unfold dv; rw [h]
def QX [DM] (P:Program) (n:Nat) (o:Oper) (ρ:Env) (w:World) (v:Value):Prop :=
  (execOp (opd n ρ) o).run P w = .ok (.value v) w∨∃ f args,(execOp (opd n ρ) o).run P w = .ok (.enter f args) w∧CallsTo P f args w fun u w'=>u=v∧Ext w w'
def CX (P:Program) (n:Nat) (o:Oper) (ρ:Env) (w:World) (K:Value→World→Prop):Prop :=
  (∃ u w',(execOp (opd n ρ) o).run P w = .ok (.value u) w'∧K u w')∨(∃ w',(execOp (opd n ρ) o).run P w = .ok .skip w'∧K undef w') ∨
    (∃ f args w',(execOp (opd n ρ) o).run P w = .ok (.enter f args) w'∧CallsTo P f args w' K)∨∃ row args w',(execOp (opd n ρ) o).run P w = .ok (.row row args) w'∧Rows P row args w' K
def kept (anc:List Nat) (w:World):List (Nat×PH)→Prop
  | []=>True
  | (i,h) :: l=>(anc.contains i=true∨Sub h w)∧kept anc w l
theorem kept.get {anc:List Nat} {w:World}:∀ {L:List (Nat×PH)},kept anc w L→∀ p∈L,p.1∈anc∨Sub p.2 w
  | [],_,p,hp=>by cases hp
  | (i,h) :: l,⟨h1,h2⟩,p,hp=>by
    rcases List.mem_cons.1 hp with rfl | hp
    · exact h1.imp (fun h=>by simpa using h) id
    · exact h2.get p hp
section
variable {P:Program} {n:Nat} {N:Asn} {X:Nat→Asn} {R:Asn} {ops:Array Oper} {k:Nat} {anc:List (List Nat)} {src:List (List (Nat×Option Nat))} {fin:List (Nat×Option Nat)}
def GS [DM] (P:Program) (n:Nat) (ops:Array Oper) (anc:List (List Nat)) (src:List (List (Nat×Option Nat))) (ρ0:Env) (E:Asg→World→Prop):List (Nat×Bool)→Asg→List (Nat×PH)→World→Prop
  | [],A,_,w=>∀ w',Ext w w'→E A w'
  | (i,c) :: r,A,L,w=>∃ o,ops.toList[i]?=some o ∧
     ((gOn A o=some false∧GS P n ops anc src ρ0 E r ((i,undef) :: A) L w) ∨
      (gOn A o=some true∧c=false∧∃ (v:Value) (hs:List PH),(∀ ρ w',needs ρ0 (look A) ρ (src.getD i [])→(∀ h∈hs,Sub h w')→QX P n o ρ w' v)∧(∀ h∈hs,Sub h w)∧GS P n ops anc src ρ0 E r ((i,v) :: A) (hs.map (fun h=>(i,h))++L) w) ∨
      (gOn A o=some true∧c=true∧∀ ρ w',Ext w w'→needs ρ0 (look A) ρ (src.getD i [])→CX P n o ρ w' fun u w''=>kept (anc.getD i []) w'' L∧GS P n ops anc src ρ0 E r ((i,dv o u) :: A) L w''))
theorem GS.ext [DM] {ρ0:Env} {E:Asg→World→Prop}:∀ {pi:List (Nat×Bool)} {A:Asg} {L:List (Nat×PH)} {w w':World},GS P n ops anc src ρ0 E pi A L w→Ext w w'→GS P n ops anc src ρ0 E pi A L w'
  | [],_,_,_,_,h,x=>fun w'' y=>h w'' (x.trans y)
  | (i,c) :: r,A,L,w,w',⟨o,ho,h⟩,x=>⟨o,ho,by
    rcases h with ⟨g,h⟩ | ⟨g,hc,v,hs,h1,h2,h3⟩ | ⟨g,hc,h⟩
    · exact .inl ⟨g,h.ext x⟩
    · exact .inr (.inl ⟨g,hc,v,hs,h1,fun a ha=>(h2 a ha).ext x,h3.ext x⟩)
    · exact .inr (.inr ⟨g,hc,fun ρ w'' y=>h ρ w'' (x.trans y)⟩)⟩
/-- The parts that are held by looking. -/
def gChk (ops:Array Oper) (k:Nat) (anc:List (List Nat)) (src:List (List (Nat×Option Nat))) (fin:List (Nat×Option Nat)):Bool :=
  (List.range ops.size).all (fun i =>
    match ops.toList[i]? with
    | none=>false
    | some o =>
      (match o.guard with | none=>true | some (j,_)=>(anc.getD i []).contains j&&(dstOf ops j).isSome) &&
      o.after.toList.all (fun e => !Region.binds .any e || Nat.blt e.on i) &&
      (anc.getD i []).all (fun j=>o.after.toList.any fun e=>Region.binds .any e&&(Nat.beq e.on j || (anc.getD e.on []).contains j)) &&
      (Nat.blt i k || (List.range k).all (fun j=>(anc.getD i []).contains j))) &&
  (List.range k).all (fun i =>
    (src.getD i []).all (fun p =>
      match p.2 with
      | none=>(List.range k).all (fun m => !(dstOf ops m==some p.1) || (anc.getD m []).contains i)
      | some j=>(anc.getD i []).contains j&&dstOf ops j==some p.1&&Nat.blt j k)) &&
  (List.range k).all (fun i=>(List.range k).all fun m=>Nat.beq i m || (dstOf ops i).isNone || !(dstOf ops i==dstOf ops m)) &&
  fin.all (fun p =>
    match p.2 with
    | none=>(List.range k).all (fun m => !(dstOf ops m==some p.1))
    | some j=>dstOf ops j==some p.1&&Nat.blt j k) &&
  Nat.ble k ops.size&&(List.range k).all (fun i=>match dstOf ops i with | none=>true | some d=>Nat.blt d n)
structure GOk (n:Nat) (ops:Array Oper) (k:Nat) (anc:List (List Nat)) (src:List (List (Nat×Option Nat))) (fin:List (Nat×Option Nat)):Prop where
  guard:∀ (i:Nat) (o:Oper),ops[i]?=some o→∀ j b,o.guard=some (j,b)→j∈anc.getD i []∧∃ d,dstOf ops j=some d
  edge:∀ (i:Nat) (o:Oper),ops[i]?=some o→∀ e∈o.after,Region.binds .any e=true→e.on<i
  up:∀ (i:Nat) (o:Oper),ops[i]?=some o→∀ j∈anc.getD i [],∃ e∈o.after,Region.binds .any e=true∧(e.on=j∨j∈anc.getD e.on [])
  tail:∀ i,i<ops.size→k≤i→∀ j,j<k→j∈anc.getD i []
  base:∀ i,i<k→∀ t,(t,none)∈src.getD i []→∀ m,m<k→dstOf ops m=some t→i∈anc.getD m []
  from_:∀ i,i<k→∀ t j,(t,some j)∈src.getD i []→j∈anc.getD i []∧dstOf ops j=some t∧j<k
  uniq:∀ i,i<k→∀ m,m<k→i≠m→∀ t,dstOf ops i=some t→dstOf ops m≠some t
  finb:∀ t,(t,none)∈fin→∀ m,m<k→dstOf ops m≠some t
  finf:∀ t j,(t,some j)∈fin→dstOf ops j=some t∧j<k
  size:k≤ops.size
  low:∀ i,i<k→∀ d,dstOf ops i=some d→d<n
theorem GOk.of (h:gChk (n:=n) ops k anc src fin=true):GOk n ops k anc src fin:=by
  unfold gChk at h
  simp only [Bool.and_eq_true] at h
  obtain ⟨⟨⟨⟨⟨h1,h2⟩,h3⟩,h4⟩,h5⟩,h6⟩:=h
  have g:∀ i o,ops[i]?=some o→i<ops.size∧ops.toList[i]?=some o:=fun i o ho=>⟨(Array.getElem?_eq_some_iff.1 ho).1,by rw [Array.getElem?_toList]; exact ho⟩
  have h1':∀ i o,ops[i]?=some o→_:=fun i o ho=>by
    have:=List.all_eq_true.1 h1 i (List.mem_range.2 (g i o ho).1)
    rw [(g i o ho).2] at this
    simp only [Bool.and_eq_true] at this
    exact this
  refine ⟨fun i o ho j b hg=>?_,fun i o ho e he hb=>?_,fun i o ho j hj=>?_,fun i hi hk j hj=>?_,fun i hi t ht m hm hd=>?_,fun i hi t j ht=>?_,fun i hi m hm hne t hd=>?_,fun t ht m hm=>?_,fun t j ht=>?_,Nat.le_of_ble_eq_true h5,fun i hi d hd=>?_⟩
  · have:=(h1' i o ho).1.1.1
    rw [hg] at this
    simp only [Bool.and_eq_true] at this
    refine ⟨by simpa using this.1,?_⟩
    cases hd:dstOf ops j with
    | none=>rw [hd] at this; simp at this
    | some d=>exact ⟨d,rfl⟩
  · have:=List.all_eq_true.1 (h1' i o ho).1.1.2 e (Array.mem_toList_iff.2 he)
    simp only [hb,Bool.not_true,Bool.false_or] at this
    exact nblt this
  · have:=List.all_eq_true.1 (h1' i o ho).1.2 j hj
    obtain ⟨e,he,hb⟩:=List.any_eq_true.1 this
    simp only [Bool.and_eq_true,Bool.or_eq_true] at hb
    exact ⟨e,Array.mem_toList_iff.1 he,hb.1,hb.2.imp (fun h=>Nat.eq_of_beq_eq_true h) (fun h=>by simpa using h)⟩
  · have ho:ops[i]?=some ops[i]:=by simp [hi]
    have:=(h1' i _ ho).2
    simp only [Bool.or_eq_true] at this
    rcases this with h | h
    · have:=nblt h; omega
    · have:=List.all_eq_true.1 h j (List.mem_range.2 hj); simpa using this
  · have:=List.all_eq_true.1 (List.all_eq_true.1 h2 i (List.mem_range.2 hi)) _ ht
    have:=List.all_eq_true.1 this m (List.mem_range.2 hm)
    simpa [hd] using this
  · have:=List.all_eq_true.1 (List.all_eq_true.1 h2 i (List.mem_range.2 hi)) _ ht
    simp only [Bool.and_eq_true] at this
    exact ⟨by simpa using this.1.1,by simpa using this.1.2,nblt this.2⟩
  · have:=List.all_eq_true.1 (List.all_eq_true.1 h3 i (List.mem_range.2 hi)) m (List.mem_range.2 hm)
    simp only [Bool.or_eq_true] at this
    rcases this with (h | h) | h
    · exact absurd (Nat.eq_of_beq_eq_true h) hne
    · rw [hd] at h; cases h
    · intro hd'
      rw [hd,hd'] at h; simp at h
  · have:=List.all_eq_true.1 (List.all_eq_true.1 h4 _ ht) m (List.mem_range.2 hm)
    simpa using this
  · have:=List.all_eq_true.1 h4 _ ht
    simp only [Bool.and_eq_true] at this
    exact ⟨by simpa using this.1,nblt this.2⟩
  · have:=List.all_eq_true.1 h6 i (List.mem_range.2 hi)
    rw [hd] at this; exact nblt this
def ordGo (ops:Array Oper) (anc:List (List Nat)) (src:List (List (Nat×Option Nat))):List (Nat×Bool)→List Nat→Bool
  | [],_=>true
  | (i,c) :: r,D=>(src.getD i []).all (fun p=>match p.2 with | some j=>D.contains j | none=>true) &&
      (match (ops.toList[i]?).bind (·.guard) with | some (j,_)=>D.contains j | none=>true) &&
      (!c || r.all (fun q=>(anc.getD q.1 []).contains i))&&!D.contains i&&ordGo ops anc src r (i :: D)
def ordChk (ops:Array Oper) (k:Nat) (anc:List (List Nat)) (src:List (List (Nat×Option Nat))) (pi:List (Nat×Bool)):Bool :=
  ordGo ops anc src pi []&&pi.all (fun p=>Nat.blt p.1 k)&&(List.range k).all (fun i=>pi.any fun p=>Nat.beq p.1 i)
theorem ordGo_out:∀ {r:List (Nat×Bool)} {D:List Nat},ordGo ops anc src r D=true→∀ p∈r,p.1 ∉ D
  | [],_,_,p,hp=>by cases hp
  | (i,c) :: r,D,h,p,hp=>by
    unfold ordGo at h
    simp only [Bool.and_eq_true] at h
    rcases List.mem_cons.1 hp with rfl | hp
    · simpa using h.1.2
    · have:=ordGo_out h.2 p hp
      intro hd; exact this (by simp [hd])
/-- How matters stand in the midst: A: what has been settled; rest: what has not. -/
structure InvG [DM] (P:Program) (n:Nat) (ops:Array Oper) (k:Nat) (anc:List (List Nat)) (src:List (List (Nat×Option Nat))) (ρ0:Env) (E:Asg→World→Prop) (rest:List (Nat×Bool)) (D:List Nat) (A:Asg) (L:List (Nat×PH)) (listed:Array Bool) (ρ:Env) (w:World):Prop where
  gs:GS P n ops anc src ρ0 E rest A L w
  ord:ordGo ops anc src rest D=true
  hD:∀ j,j∈D↔(j<k∧∀ p∈rest,p.1≠j)
  low:∀ p∈rest,p.1<k
  und:∀ p∈rest,listed.getD p.1 false=false
  srcD:∀ i∈D,∀ t j,(t,some j)∈src.getD i []→j∈D
  grdD:∀ i∈D,∀ o,ops.toList[i]?=some o→∀ j b,o.guard=some (j,b)→j∈D
  dec:∀ i∈D,∃ o,ops.toList[i]?=some o∧((gOn A o=some false∧look A i=undef) ∨
    (gOn A o=some true∧(listed.getD i false=true∨∃ (hs:List PH),(∀ h∈hs,(i,h)∈L)∧∀ ρ w',needs ρ0 (look A) ρ (src.getD i [])→(∀ h∈hs,Sub h w')→QX P n o ρ w' (look A i))))
  slot:∀ i,i<k→listed.getD i false=true→∀ d,dstOf ops i=some d→ρ d=look A i
  old:∀ t,(∀ i,i<k→listed.getD i false=true→dstOf ops i≠some t)→ρ t=ρ0 t
  lq:∀ p∈L,listed.getD p.1 false=true∨Sub p.2 w
  closed:∀ i,listed.getD i false=true→∀ j∈anc.getD i [],listed.getD j false=true
  small:∀ i,listed.getD i false=true→i<k
theorem needs_congr {ρ0 ρ:Env} {a b:Nat→Value}:∀ {l:List (Nat×Option Nat)},(∀ t j,(t,some j)∈l→a j=b j)→needs ρ0 a ρ l→needs ρ0 b ρ l
  | [],_,_=>trivial
  | (t,none) :: l,h,⟨h1,h2⟩=>⟨h1,needs_congr (fun t j hj=>h t j (by simp [hj])) h2⟩
  | (t,some j) :: l,h,⟨h1,h2⟩=>⟨by rw [h1]; exact h t j (by simp),needs_congr (fun t j hj=>h t j (by simp [hj])) h2⟩
theorem gOn_congr {A B:Asg} {o:Oper} (h:∀ j b,o.guard=some (j,b)→look A j=look B j):gOn A o=gOn B o:=by
  unfold gOn
  cases hg:o.guard with
  | none=>rfl
  | some p=>obtain ⟨j,b⟩:=p; simp only; rw [h j b hg]
section
variable {ρ0:Env} {E:Asg→World→Prop} {rest:List (Nat×Bool)} {D:List Nat} {A:Asg} {L:List (Nat×PH)} {listed:Array Bool} {ρ:Env} {w:World}
/-- A move that settles an operation which has not come up. -/
theorem InvG.settle [DM] {i:Nat} {c:Bool} {o:Oper} {v:Value} {hs:List PH} (I:InvG P n ops k anc src ρ0 E ((i,c) :: rest) D A L listed ρ w) (ho:ops.toList[i]?=some o)
    (hgs:GS P n ops anc src ρ0 E rest ((i,v) :: A) (hs.map (fun h=>(i,h))++L) w) (hsub:∀ h∈hs,Sub h w)
    (hd:(gOn A o=some false∧v=undef)∨(gOn A o=some true∧∀ ρ w',needs ρ0 (look A) ρ (src.getD i [])→(∀ h∈hs,Sub h w')→QX P n o ρ w' v)) :
    InvG P n ops k anc src ρ0 E rest (i :: D) ((i,v) :: A) (hs.map (fun h=>(i,h))++L) listed ρ w:=by
  have hord:=I.ord
  unfold ordGo at hord
  simp only [Bool.and_eq_true] at hord
  obtain ⟨⟨⟨⟨o1,o2⟩,o3⟩,o4⟩,o5⟩:=hord
  have hiD:i ∉ D:=by simpa using o4
  have hout:=ordGo_out o5
  have hir:∀ p∈rest,p.1≠i:=fun p hp e=>hout p hp (by simp [e])
  have hiu:listed.getD i false=false:=I.und (i,c) (by simp)
  have hlk:∀ j,j∈D→look ((i,v) :: A) j=look A j:=fun j hj=>look_ne fun e=>hiD (e ▸ hj)
  have hsrc:∀ t j,(t,some j)∈src.getD i []→j∈D:=fun t j hj=>by
    have:=List.all_eq_true.1 o1 _ hj; simpa using this
  have hgrd:∀ o,ops.toList[i]?=some o→∀ j b,o.guard=some (j,b)→j∈D:=fun o' ho' j b hg=>by
    rw [ho'] at o2; simp only [Option.bind_some,hg] at o2; simpa using o2
  refine ⟨hgs,o5,fun j=>?_,fun p hp=>I.low p (by simp [hp]),fun p hp=>I.und p (by simp [hp]),fun m hm t j hj=>?_,fun m hm o' ho' j b hg=>?_,fun m hm=>?_,fun m hm hl d hd=>?_,I.old,fun p hp=>?_,I.closed,I.small⟩
  · constructor
    · intro hj
      rcases List.mem_cons.1 hj with rfl | hj
      · exact ⟨I.low (j,c) (by simp),hir⟩
      · exact ⟨((I.hD j).1 hj).1,fun p hp=>((I.hD j).1 hj).2 p (by simp [hp])⟩
    · rintro ⟨h1,h2⟩
      by_cases e:j=i
      · simp [e]
      · refine List.mem_cons.2 (.inr ((I.hD j).2 ⟨h1,fun p hp=>?_⟩))
        rcases List.mem_cons.1 hp with rfl | hp
        · exact fun e'=>e e'.symm
        · exact h2 p hp
  · rcases List.mem_cons.1 hm with rfl | hm
    · exact List.mem_cons.2 (.inr (hsrc t j hj))
    · exact List.mem_cons.2 (.inr (I.srcD m hm t j hj))
  · rcases List.mem_cons.1 hm with rfl | hm
    · exact List.mem_cons.2 (.inr (hgrd o' ho' j b hg))
    · exact List.mem_cons.2 (.inr (I.grdD m hm o' ho' j b hg))
  · rcases List.mem_cons.1 hm with rfl | hm
    · refine ⟨o,ho,?_⟩
      have hg:gOn ((m,v) :: A) o=gOn A o:=gOn_congr fun j b hg=>hlk j (hgrd o ho j b hg)
      rw [hg,look_eq]
      refine hd.imp id fun ⟨h1,h2⟩=>⟨h1,.inr ⟨hs,fun h hh=>List.mem_append.2 (.inl (List.mem_map.2 ⟨h,hh,rfl⟩)),fun ρ w' hn=>h2 ρ w' (needs_congr (fun t j hj=>hlk j (hsrc t j hj)) hn)⟩⟩
    · obtain ⟨o',ho',h⟩:=I.dec m hm
      refine ⟨o',ho',?_⟩
      have hg:gOn ((i,v) :: A) o'=gOn A o':=gOn_congr fun j b hg=>hlk j (I.grdD m hm o' ho' j b hg)
      rw [hg,hlk m hm]
      refine h.imp id fun ⟨h1,h2⟩=>⟨h1,h2.imp id fun ⟨hs',h3,h4⟩=>⟨hs',fun h hh=>List.mem_append.2 (.inr (h3 h hh)),fun ρ w' hn=>h4 ρ w' (needs_congr (fun t j hj=>hlk j (I.srcD m hm t j hj)) hn)⟩⟩
  · rw [I.slot m hm hl d hd,look_ne]
    rintro rfl; rw [hiu] at hl; cases hl
  · rcases List.mem_append.1 hp with hp | hp
    · obtain ⟨h,hh,rfl⟩:=List.mem_map.1 hp
      exact .inr (hsub h hh)
    · exact I.lq p hp
/-- All that can be settled without waiting is settled. -/
theorem InvG.norm [DM]:∀ {rest:List (Nat×Bool)} {D:List Nat} {A:Asg} {L:List (Nat×PH)},InvG P n ops k anc src ρ0 E rest D A L listed ρ w →
    ∃ rest' D' A' L',InvG P n ops k anc src ρ0 E rest' D' A' L' listed ρ w∧(rest'=[]∨∃ i r o,rest'=(i,true) :: r∧ops.toList[i]?=some o∧gOn A' o=some true ∧
      ∀ ρ w',Ext w w'→needs ρ0 (look A') ρ (src.getD i [])→CX P n o ρ w' fun u w''=>kept (anc.getD i []) w'' L'∧GS P n ops anc src ρ0 E r ((i,dv o u) :: A') L' w'')
  | [],D,A,L,I=>⟨[],D,A,L,I,.inl rfl⟩
  | (i,c) :: r,D,A,L,I=>by
    obtain ⟨o,ho,h⟩:=I.gs
    rcases h with ⟨g,h⟩ | ⟨g,hc,v,hs,h1,h2,h3⟩ | ⟨g,hc,h⟩
    · exact (I.settle (hs:=[]) ho (by simpa using h) (fun _ hh=>by cases hh) (.inl ⟨g,rfl⟩)).norm
    · exact (I.settle ho h3 h2 (.inr ⟨g,h1⟩)).norm
    · subst hc
      exact ⟨_,D,A,L,I,.inr ⟨i,r,o,rfl,ho,g,h⟩⟩
end
theorem AP_game [DM] {Q:Exit→Act→World→Prop} {ρ0:Env} {w0:World} (k:Nat) (anc:List (List Nat)) (src:List (List (Nat×Option Nat))) (fin:List (Nat×Option Nat)) (pi:List (Nat×Bool))
    (chk:gChk (n:=n) ops k anc src fin=true) (chk2:ordChk ops k anc src pi=true)
    (h:GS P n ops anc src ρ0 (fun A w=>∀ ρ,needs ρ0 (look A) ρ fin→AP P n ops Q k ρ w) pi [] [] w0):AP P n ops Q 0 ρ0 w0:=by
  have c:=GOk.of chk
  unfold ordChk at chk2
  simp only [Bool.and_eq_true] at chk2
  obtain ⟨⟨k1,k2⟩,k3⟩:=chk2
  let E:Asg→World→Prop:=fun A w=>∀ ρ,needs ρ0 (look A) ρ fin→AP P n ops Q k ρ w
  intro fuel0 listed0 hsz0 hf0 hl0
  have main:∀ (fuel:Nat) (listed:Array Bool) (rest:List (Nat×Bool)) (D:List Nat) (A:Asg) (L:List (Nat×PH)) (ρ:Env) (w:World),listed.size=ops.size→((List.range k).filter (fun i => !listed.getD i false)).length+(ops.size-k)≤fuel →
      InvG P n ops k anc src ρ0 E rest D A L listed ρ w→wpAny P .any ops Q fuel listed (act n ρ) w:=by
    intro fuel
    have done:∀ (fuel:Nat) (listed:Array Bool) (rest:List (Nat×Bool)) (D:List Nat) (A:Asg) (L:List (Nat×PH)) (ρ:Env) (w:World),listed.size=ops.size→ops.size-k≤fuel →
        InvG P n ops k anc src ρ0 E rest D A L listed ρ w→(∀ i,i<k→listed.getD i false=true)→wpAny P .any ops Q fuel listed (act n ρ) w:=by
      intro fuel listed rest D A L ρ w hsz hf I hall
      have hr:rest=[]:=by
        cases rest with
        | nil=>rfl
        | cons p r=>have:=I.und p (by simp); rw [hall _ (I.low p (by simp))] at this; cases this
      subst hr
      have hE:E A w:=I.gs w (Ext.refl _)
      refine hE ρ ?_ fuel listed hsz (by have:=c.size; omega) fun i hi=>⟨I.small i,hall i⟩
      have key:∀ l,(∀ p∈l,p∈fin)→needs ρ0 (look A) ρ l:=by
        intro l
        induction l with
        | nil=>intro _; trivial
        | cons p l ih =>
          intro h
          obtain ⟨t,q⟩:=p
          have hp:=h (t,q) (by simp)
          have hl:=ih fun x hx=>h x (by simp [hx])
          cases q with
          | none=>exact ⟨I.old t fun m hm _=>c.finb t hp m hm,hl⟩
          | some j=>exact ⟨I.slot j (c.finf t j hp).2 (hall j (c.finf t j hp).2) t (c.finf t j hp).1,hl⟩
      exact key _ fun p hp=>hp
    induction fuel with
    | zero =>
      intro listed rest D A L ρ w hsz hf I
      refine done 0 listed rest D A L ρ w hsz (by omega) I fun i hi=>?_
      cases hh:listed.getD i false
      · exfalso
        have:i∈(List.range k).filter (fun i => !listed.getD i false):=List.mem_filter.2 ⟨List.mem_range.2 hi,by simp [hh]⟩
        have:=List.length_pos_of_mem this
        omega
      · rfl
    | succ fuel ih =>
      intro listed rest D A L ρ w hsz hf I
      by_cases hall:∀ i,i<k→listed.getD i false=true
      · exact done _ listed rest D A L ρ w hsz (by omega) I hall
      obtain ⟨rest,D,A,L,I,hn⟩:=I.norm
      have hks:=c.size
      refine ⟨fun h0=>?_,fun i hi=>?_⟩
      · exfalso
        obtain ⟨i,hik,hi⟩:∃ i,i<k∧listed.getD i false=false:=by
          refine Classical.byContradiction fun hn=>hall fun i hi=>?_
          cases hh:listed.getD i false
          · exact absurd ⟨i,hi,hh⟩ hn
          · rfl
        have least:∀ m,m<k→listed.getD m false=false→∃ j,j<k∧listed.getD j false=false∧∀ x,x<j→listed.getD x false=true:=by
          intro m
          induction m using Nat.strongRecOn with
          | _ m ihm =>
            intro hm hl
            by_cases h:∀ x,x<m→listed.getD x false=true
            · exact ⟨m,hm,hl,h⟩
            · obtain ⟨x,hx⟩:=Classical.not_forall.1 h
              obtain ⟨hxm,hxl⟩:=Classical.not_imp.1 hx
              exact ihm x hxm (by omega) (by simpa using hxl)
        obtain ⟨j,hjk',hjl,hjx⟩:=least i hik hi
        have ho:ops[j]?=some ops[j]:=by simp [show j<ops.size by omega]
        have:j∈Region.ready .any ops listed:=ready_of ho (by
          have h3:j<listed.size:=by omega
          simpa [Array.getD_eq_getD_getElem?,h3] using hjl) fun e he hb=>hjx e.on (c.edge j _ ho e he hb)
        rw [h0] at this; cases this
      · obtain ⟨h1,h2,o,hio,he⟩:=mem_ready' hi
        have h3:i<listed.size:=by omega
        have hu:listed.getD i false=false:=by simpa [Array.getD_eq_getD_getElem?,h3] using h2
        have hanc:∀ j∈anc.getD i [],listed.getD j false=true:=fun j hj=>by
          obtain ⟨e,hee,hb,hx⟩:=c.up i o hio j hj
          rcases hx with hx | hx
          · rw [← hx]; exact he e hee hb
          · exact I.closed e.on (he e hee hb) j hx
        have hik:i<k:=by
          refine Classical.byContradiction fun hn=>hall fun m hm=>hanc m (c.tail i h1 (by omega) m hm)
        have hol:ops.toList[i]?=some o:=by rw [Array.getElem?_toList]; exact hio
        have hdst:dstOf ops i=o.dst:=by simp [dstOf,hol]
        have hneeds:needs ρ0 (look A) ρ (src.getD i []):=by
          have key:∀ l,(∀ p∈l,p∈src.getD i [])→needs ρ0 (look A) ρ l:=by
            intro l
            induction l with
            | nil=>intro _; trivial
            | cons p l ih =>
              intro h
              obtain ⟨t,q⟩:=p
              have hp:=h (t,q) (by simp)
              have hl:=ih fun x hx=>h x (by simp [hx])
              cases q with
              | none =>
                refine ⟨I.old t fun m hm hml hd=>?_,hl⟩
                have:=c.base i hik t hp m hm hd
                have:=I.closed m hml i this
                rw [hu] at this; cases this
              | some j =>
                obtain ⟨h4,h5,h6⟩:=c.from_ i hik t j hp
                exact ⟨I.slot j h6 (hanc j h4) t h5,hl⟩
          exact key _ fun p hp=>hp
        have hwant:∀ b,gOn A o=some b→Region.wanted o (yielded ops (act n ρ).tmps)=b:=fun b hb=>by
          unfold gOn at hb
          unfold Region.wanted
          split at hb
          · rename_i hg; simp only [hg]; exact Option.some.inj hb
          · rename_i j want hg
            simp only [hg]
            obtain ⟨hja,d,hjd⟩:=c.guard i o hio j want hg
            have hjl:=hanc j hja
            have hjk:=I.small j hjl
            have hsl:=I.slot j hjk hjl d hjd
            have hlt:=c.low j hjk d hjd
            have hdo:(ops[j]?).bind (·.dst)=some d:=by
              have:=hjd; unfold dstOf at this; rwa [Array.getElem?_toList] at this
            have hy:yielded ops (act n ρ).tmps j=(match ρ d with | .bool b=>some b | _=>none):=by
              unfold yielded
              rw [hdo]
              simp only [Option.bind_some]
              rw [act_get,if_pos hlt]
              cases ρ d <;> rfl
            rw [hy,hsl]
            split at hb
            · rename_i b' hb'
              rw [hb']
              have:=Option.some.inj hb
              rw [← this]
              cases b' <;> cases want <;> rfl
            · rename_i vs hvs
              rw [hvs]
              have:=Option.some.inj hb
              rw [← this]; rfl
            · cases hb
        have hmeas:((List.range k).filter (fun m => !(listed.setIfInBounds i true).getD m false)).length+(ops.size-k)≤fuel:=by
          have:=filter_lt (l:=List.range k) (p:=fun m => !listed.getD m false) (q:=fun m => !(listed.setIfInBounds i true).getD m false) (fun x hx=>by
            cases hh:listed.getD x false
            · rfl
            · have:=(listed_set (m:=x) h3).2 (.inr hh)
              simp [this] at hx) (List.mem_range.2 hik) (by simp [hu]) (by have:=(listed_set (m:=i) h3).2 (.inl rfl); simp [this])
          omega
        have hclosed:∀ m,(listed.setIfInBounds i true).getD m false=true→∀ j∈anc.getD m [],(listed.setIfInBounds i true).getD j false=true:=fun m hml j hj=>by
          rw [listed_set h3] at hml ⊢
          rcases hml with rfl | hml
          · exact .inr (hanc j hj)
          · exact .inr (I.closed m hml j hj)
        have hsmall:∀ m,(listed.setIfInBounds i true).getD m false=true→m<k:=fun m hml=>by
          rw [listed_set h3] at hml
          rcases hml with rfl | hml
          · exact hik
          · exact I.small m hml
        have slots:∀ (A':Asg) (u:Value),(∀ d,o.dst=some d→u=look A' i)→(∀ m,listed.getD m false=true→look A' m=look A m) →
            (∀ m,m<k→(listed.setIfInBounds i true).getD m false=true→∀ d,dstOf ops m=some d→updO ρ o.dst u d=look A' m) ∧
            (∀ t,(∀ m,m<k→(listed.setIfInBounds i true).getD m false=true→dstOf ops m≠some t)→updO ρ o.dst u t=ρ0 t):=by
          intro A' u hu' hb'
          constructor
          · intro m hm hml d hd
            rw [listed_set h3] at hml
            by_cases hmi:m=i
            · subst hmi
              rw [hdst] at hd
              rw [hd]; simp [updO,upd,hu' d hd]
            · have hml:=hml.resolve_left hmi
              have hs:=I.slot m hm hml d hd
              cases hod:o.dst with
              | none=>simp only [updO]; rw [hs,hb' m hml]
              | some d' =>
                have hne:d≠d':=fun e=>c.uniq m hm i hik hmi d hd (by rw [hdst,hod,e])
                simp only [updO,upd,if_neg hne]; rw [hs,hb' m hml]
          · intro t ht
            have h4:=I.old t fun m hm hml=>ht m hm ((listed_set h3).2 (.inr hml))
            cases hod:o.dst with
            | none=>exact h4
            | some d' =>
              have hne:t≠d':=fun e=>ht i hik ((listed_set h3).2 (.inl rfl)) (by rw [hdst,hod,e])
              simp only [updO,upd,if_neg hne]; exact h4
        unfold wpOp
        rw [hio]
        simp only
        by_cases hiD:i∈D
        · -- settled already
          have hund:∀ p∈rest,(listed.setIfInBounds i true).getD p.1 false=false:=fun p hp=>by
            have h4:=I.und p hp
            have h5:p.1≠i:=((I.hD i).1 hiD).2 p hp
            cases hh:(listed.setIfInBounds i true).getD p.1 false
            · rfl
            · rcases (listed_set h3).1 hh with e | e
              · exact absurd e h5
              · rw [h4] at e; cases e
          obtain ⟨s1,s2⟩:=slots A (look A i) (fun _ _=>rfl) (fun _ _=>rfl)
          have next:∀ w',Ext w w'→wpAny P .any ops Q fuel (listed.setIfInBounds i true) (act n (updO ρ o.dst (look A i))) w':=fun w' x =>
            ih _ rest D A L _ w' (by simpa using hsz) hmeas ⟨I.gs.ext x,I.ord,I.hD,I.low,hund,I.srcD,I.grdD,fun m hm=>by
              obtain ⟨o',ho',hd⟩:=I.dec m hm
              exact ⟨o',ho',hd.imp id fun ⟨g,hd⟩=>⟨g,hd.imp (fun hl=>(listed_set h3).2 (.inr hl)) id⟩⟩,s1,s2,fun p hp=>(I.lq p hp).imp (fun hl=>(listed_set h3).2 (.inr hl)) fun e=>e.ext x,hclosed,hsmall⟩
          obtain ⟨o',ho',hd⟩:=I.dec i hiD
          rw [hol] at ho'; cases ho'
          rcases hd with ⟨g,hv⟩ | ⟨g,hd⟩
          · rw [hwant false g,if_neg (by decide),act_putO,← hv]
            exact next w (Ext.refl _)
          · rw [hwant true g,if_pos rfl]
            left
            rcases hd with hl | ⟨hs,hs1,hs2⟩
            · rw [hu] at hl; cases hl
            unfold Oper.wp
            rw [act_eval']
            have hq:=hs2 ρ w hneeds fun h hh=>(I.lq _ (hs1 h hh)).resolve_left (by rw [hu]; simp)
            rcases hq with hr | ⟨f,args,hr,hc⟩
            · rw [hr]; simp only [Oper.upon]; rw [act_putO]; exact next w (Ext.refl _)
            · rw [hr]; simp only [Oper.upon]
              refine Calls.mono hc fun e w'' h'=>?_
              cases e with
              | returned u=>obtain ⟨rfl,x⟩:=h'; simp only; rw [act_putO]; exact next w'' x
              | panicked _=>exact h'.elim
              | outgrown=>exact h'.elim
        · -- the next of the chain
          have hin:∃ p∈rest,p.1=i:=by
            refine Classical.byContradiction fun hn=>hiD ((I.hD i).2 ⟨hik,fun p hp e=>hn ⟨p,hp,e⟩⟩)
          rcases hn with rfl | ⟨i',r,o',rfl,ho',g,hcx⟩
          · obtain ⟨p,hp,_⟩:=hin; cases hp
          have hord:=I.ord
          unfold ordGo at hord
          simp only [Bool.and_eq_true,Bool.not_true,Bool.false_or] at hord
          obtain ⟨⟨⟨⟨o1,o2⟩,o3⟩,o4⟩,o5⟩:=hord
          have hii:i=i':=by
            obtain ⟨p,hp,hpi⟩:=hin
            rcases List.mem_cons.1 hp with rfl | hp
            · exact hpi.symm
            · exfalso
              have:=List.all_eq_true.1 o3 p hp
              have h4:i'∈anc.getD i []:=by rw [← hpi]; simpa using this
              have h5:=hanc i' h4
              rw [I.und (i',true) (by simp)] at h5; cases h5
          subst hii
          rw [hol] at ho'; cases ho'
          rw [hwant true g,if_pos rfl]
          left
          have hout:=ordGo_out o5
          have hir:∀ p∈r,p.1≠i:=fun p hp e=>hout p hp (by simp [e])
          have hlk:∀ u j,j∈D→look ((i,u) :: A) j=look A j:=fun u j hj=>look_ne fun e=>hiD (e ▸ hj)
          have hsrc:∀ t j,(t,some j)∈src.getD i []→j∈D:=fun t j hj=>by
            have:=List.all_eq_true.1 o1 _ hj; simpa using this
          have hgrd:∀ j b,o.guard=some (j,b)→j∈D:=fun j b hg=>by
            rw [hol] at o2; simp only [Option.bind_some,hg] at o2; simpa using o2
          have lisD:∀ m,listed.getD m false=true→m∈D:=fun m hm=>(I.hD m).2 ⟨I.small m hm,fun p hp e=>by have:=I.und p hp; rw [e,hm] at this; cases this⟩
          have next:∀ u w',kept (anc.getD i []) w' L→GS P n ops anc src ρ0 E r ((i,dv o u) :: A) L w'→wpAny P .any ops Q fuel (listed.setIfInBounds i true) (act n (updO ρ o.dst u)) w':=fun u w' hk hg=>by
            obtain ⟨s1,s2⟩:=slots ((i,dv o u) :: A) u (fun d hd=>by rw [look_eq,dv_some hd]) (fun m hm=>hlk _ m (lisD m hm))
            refine ih _ r (i :: D) ((i,dv o u) :: A) L _ w' (by simpa using hsz) hmeas ⟨hg,o5,fun j=>?_,fun p hp=>I.low p (by simp [hp]),fun p hp=>?_,fun m hm t j hj=>?_,fun m hm o' ho' j b hg'=>?_,fun m hm=>?_,s1,s2,fun p hp=>?_,hclosed,hsmall⟩
            · constructor
              · intro hj
                rcases List.mem_cons.1 hj with rfl | hj
                · exact ⟨hik,hir⟩
                · exact ⟨((I.hD j).1 hj).1,fun p hp=>((I.hD j).1 hj).2 p (by simp [hp])⟩
              · rintro ⟨h4,h5⟩
                by_cases e:j=i
                · simp [e]
                · refine List.mem_cons.2 (.inr ((I.hD j).2 ⟨h4,fun p hp=>?_⟩))
                  rcases List.mem_cons.1 hp with rfl | hp
                  · exact fun e'=>e e'.symm
                  · exact h5 p hp
            · have h4:=I.und p (by simp [hp])
              cases hh:(listed.setIfInBounds i true).getD p.1 false
              · rfl
              · rcases (listed_set h3).1 hh with e | e
                · exact absurd e (hir p hp)
                · rw [h4] at e; cases e
            · rcases List.mem_cons.1 hm with rfl | hm
              · exact List.mem_cons.2 (.inr (hsrc t j hj))
              · exact List.mem_cons.2 (.inr (I.srcD m hm t j hj))
            · rcases List.mem_cons.1 hm with rfl | hm
              · rw [hol] at ho'; cases ho'
                exact List.mem_cons.2 (.inr (hgrd j b hg'))
              · exact List.mem_cons.2 (.inr (I.grdD m hm o' ho' j b hg'))
            · rcases List.mem_cons.1 hm with rfl | hm
              · refine ⟨o,hol,.inr ⟨?_,.inl ((listed_set h3).2 (.inl rfl))⟩⟩
                rw [← g]; exact gOn_congr fun j b hg'=>hlk _ j (hgrd j b hg')
              · obtain ⟨o',ho',h⟩:=I.dec m hm
                refine ⟨o',ho',?_⟩
                have hg:gOn ((i,dv o u) :: A) o'=gOn A o':=gOn_congr fun j b hg=>hlk _ j (I.grdD m hm o' ho' j b hg)
                rw [hg,hlk _ m hm]
                exact h.imp id fun ⟨h1,h2⟩=>⟨h1,h2.imp (fun hl=>(listed_set h3).2 (.inr hl)) fun ⟨hs',h3,h4⟩=>⟨hs',h3,fun ρ w' hn=>h4 ρ w' (needs_congr (fun t j hj=>hlk _ j (I.srcD m hm t j hj)) hn)⟩⟩
            · rcases hk.get p hp with e | e
              · exact .inl ((listed_set h3).2 (.inr (hanc _ e)))
              · exact .inr e
          unfold Oper.wp
          rw [act_eval']
          rcases hcx ρ w (Ext.refl _) hneeds with ⟨u,w',hr,hk,hg⟩ | ⟨w',hr,hk,hg⟩ | ⟨f,args,w',hr,hc⟩ | ⟨row,args,w',hr,hc⟩
          · rw [hr]; simp only [Oper.upon]; rw [act_putO]; exact next u w' hk hg
          · rw [hr]; simp only [Oper.upon]; rw [act_putO]; exact next undef w' hk hg
          · rw [hr]; simp only [Oper.upon]
            refine Calls.mono hc fun e w'' h'=>?_
            cases e with
            | returned u=>simp only; rw [act_putO]; exact next u w'' h'.1 h'.2
            | panicked _=>exact h'.elim
            | outgrown=>exact h'.elim
          · rw [hr]; simp only [Oper.upon]
            refine Rows.mono hc fun u w'' h'=>?_
            rw [act_putO]; exact next u w'' h'.1 h'.2
  have hks:=c.size
  have l0:∀ i,listed0.getD i false=false:=fun i=>by
    by_cases hi:i<ops.size
    · cases hh:listed0.getD i false
      · rfl
      · have:=(hl0 i hi).1 hh; omega
    · have:¬ i<listed0.size:=by omega
      simp [Array.getD_eq_getD_getElem?,this]
  have no:∀ i,¬ listed0.getD i false=true:=fun i h=>by rw [l0 i] at h; cases h
  refine main fuel0 listed0 pi [] [] [] ρ0 _ hsz0 ?_ ⟨h,k1,fun j=>⟨fun hj=>(by cases hj),fun ⟨h1,h2⟩=>?_⟩,fun p hp=>nblt (List.all_eq_true.1 k2 p hp),fun p _=>l0 _,fun m hm=>by (cases hm),fun m hm=>by (cases hm),fun m hm=>by (cases hm),
    fun i _ hl=>absurd hl (no i),fun t _=>rfl,fun p hp=>by (cases hp),fun i hl=>absurd hl (no i),fun i hl=>absurd hl (no i)⟩
  · have:((List.range k).filter (fun i => !listed0.getD i false)).length≤k:=by
      have:=List.length_filter_le (fun i => !listed0.getD i false) (List.range k); simpa using this
    omega
  · exfalso
    have:=List.all_eq_true.1 k3 j (List.mem_range.2 h1)
    obtain ⟨p,hp,e⟩:=List.any_eq_true.1 this
    exact h2 p hp (Nat.eq_of_beq_eq_true e)
section
variable {ρ0:Env} {E:Asg→World→Prop} {r:List (Nat×Bool)} {A:Asg} {L:List (Nat×PH)} {w:World} {T:Ty}
theorem GS_off [DM] {i:Nat} {c:Bool} {o:Oper} (ho:ops.toList[i]?=some o) (hg:gOn A o=some false) (H:GS P n ops anc src ρ0 E r ((i,undef) :: A) L w):GS P n ops anc src ρ0 E ((i,c) :: r) A L w :=
  ⟨o,ho,.inl ⟨hg,H⟩⟩
/-- No memory is read. -/
theorem GS_r0 [DM] {i:Nat} {o:Oper} (l:List (Nat×Value)) (v:Value) (ho:ops.toList[i]?=some o) (hg:gOn A o=some true) (hl:∀ ρ,needs ρ0 (look A) ρ (src.getD i [])→agrees ρ l)
    (h:∀ ρ w',(execOp (opd n (setAll l ρ)) o).run P w' = .ok (.value v) w') (H:GS P n ops anc src ρ0 E r ((i,v) :: A) L w):GS P n ops anc src ρ0 E ((i,false) :: r) A L w :=
  ⟨o,ho,.inr (.inl ⟨hg,rfl,v,[],fun ρ w' hn _ => .inl (forget (R:=fun ρ=>(execOp (opd n ρ) o).run P w' = .ok (.value v) w') l (hl ρ hn) fun ρ=>h ρ w'),fun _ hh=>(by cases hh),H⟩)⟩
theorem GS_ev [DM] (ok:TyOk P T) {i:Nat} {o:Oper} (l:List (Nat×Value)) (v:Value) (ho:ops.toList[i]?=some o) (hg:gOn A o=some true) (hl:∀ ρ,needs ρ0 (look A) ρ (src.getD i [])→agrees ρ l)
    (h:∀ ρ,evOp T n (setAll l ρ) o.op=some v) (H:GS P n ops anc src ρ0 E r ((i,v) :: A) L w):GS P n ops anc src ρ0 E ((i,false) :: r) A L w :=
  GS_r0 l v ho hg hl (fun ρ _=>run_evOp ok (h ρ)) H
theorem GS_r1 [DM] {i:Nat} {o:Oper} {h:PH} (l:List (Nat×Value)) (v:Value) (ho:ops.toList[i]?=some o) (hg:gOn A o=some true) (hl:∀ ρ,needs ρ0 (look A) ρ (src.getD i [])→agrees ρ l)
    (hr:∀ ρ w',Sub h w'→(execOp (opd n (setAll l ρ)) o).run P w' = .ok (.value v) w') (e:Sub h w) (H:GS P n ops anc src ρ0 E r ((i,v) :: A) ((i,h) :: L) w):GS P n ops anc src ρ0 E ((i,false) :: r) A L w :=
  ⟨o,ho,.inr (.inl ⟨hg,rfl,v,[h],fun ρ w' hn hs => .inl (forget (R:=fun ρ=>(execOp (opd n ρ) o).run P w' = .ok (.value v) w') l (hl ρ hn) fun ρ=>hr ρ w' (hs h (by simp))),fun a hh=>(by simp at hh; subst hh; exact e),H⟩)⟩
def subAll:List PH→World→Prop
  | [],_=>True
  | h :: hs,w=>Sub h w∧subAll hs w
theorem subAll_iff:∀ {hs:List PH} {w:World},subAll hs w↔∀ h∈hs,Sub h w
  | [],w=>⟨fun _ h hh=>(by cases hh),fun _=>trivial⟩
  | h :: hs,w=>by simp [subAll,subAll_iff (hs:=hs) (w:=w)]
/-- A call that comes to the same whatever the world: what it reads stands. -/
theorem GS_q [DM] {i:Nat} {f:FuncId} {o:Oper} {args:Array Operand} {tys:Array TypeId} (l:List (Nat×Value)) (v:Value) (hs:List PH) (vals:List Value) (ho:ops.toList[i]?=some o) (hg:gOn A o=some true) (hl:∀ ρ,needs ρ0 (look A) ρ (src.getD i [])→agrees ρ l)
    (hop:o.op = .call ⟨.value (.func f),args,tys⟩) (hf:Callable P f) (ha:∀ ρ,args.toList.map (opd n (setAll l ρ))=vals) (hc:∀ w',subAll hs w'→CallsTo P f vals.toArray w' fun u w''=>u=v∧Ext w' w'') (e:subAll hs w)
    (H:GS P n ops anc src ρ0 E r ((i,v) :: A) (hs.map (fun h=>(i,h))++L) w):GS P n ops anc src ρ0 E ((i,false) :: r) A L w :=
  ⟨o,ho,.inr (.inl ⟨hg,rfl,v,hs,fun ρ w' hn hs' => .inr ⟨f,vals.toArray,forget (R:=fun ρ=>(execOp (opd n ρ) o).run P w' = .ok (.enter f vals.toArray) w') l (hl ρ hn) fun ρ=>ex_call hop hf (ha ρ) w',hc w' (subAll_iff.2 hs')⟩,subAll_iff.1 e,H⟩)⟩
/-- The operation alone, without its guard. -/
def solo (o:Oper):Oper:=⟨o.dst,o.op,o.type,o.pos,o.after,none⟩
def QK (n:Nat) (o:Oper) (ρ:Env) (K:Value→World→Prop):Exit→Act→World→Prop
  | .normal,a,w=>∃ u,a=act n (updO ρ o.dst u)∧K (dv o u) w
  | _,_,_=>False
def dOk (n:Nat):Option Nat→Bool
  | none=>true
  | some d=>Nat.blt d n
theorem put_inj {ρ:Env} {d:Option Nat} {u v:Value} {o:Oper} (hd:o.dst=d) (hk:dOk n d=true) (h:act n (updO ρ d u)=act n (updO ρ d v)):dv o u=dv o v:=by
  subst hd
  cases hod:o.dst with
  | none=>simp [dv,hod]
  | some d =>
    rw [hod] at h hk
    rw [dv_some hod,dv_some hod]
    have hlt:d<n:=nblt hk
    have h1:=congrArg (fun a:Act=>a.tmps[d]?) h
    simp only [act_get,if_pos hlt,updO,upd,if_true,Option.some.injEq] at h1
    exact h1
/-- An operation that makes or writes: walked by itself. -/
theorem GS_lp [DM] {i:Nat} {o:Oper} (l:List (Nat×Value)) (ho:ops.toList[i]?=some o) (hg:gOn A o=some true) (hl:∀ ρ,needs ρ0 (look A) ρ (src.getD i [])→agrees ρ l) (hd:dOk n o.dst=true)
    (H:∀ ρ w',Ext w w'→LP P n #[solo o] (QK n o (setAll l ρ) fun u w''=>kept (anc.getD i []) w'' L∧GS P n ops anc src ρ0 E r ((i,u) :: A) L w'') 0 (setAll l ρ) w'):GS P n ops anc src ρ0 E ((i,true) :: r) A L w:=by
  refine ⟨o,ho,.inr (.inr ⟨hg,rfl,fun ρ w' x hn=>?_⟩)⟩
  refine forget (R:=fun ρ=>CX P n o ρ w' fun u w''=>kept (anc.getD i []) w'' L∧GS P n ops anc src ρ0 E r ((i,dv o u) :: A) L w'') l (hl ρ hn) fun ρ=>?_
  have h:=H ρ w' x
  generalize setAll l ρ=ρ at h
  unfold LP at h
  simp only [List.drop_zero] at h
  unfold wpList at h
  have hw:Region.wanted (solo o) (yielded #[solo o] (act n ρ).tmps)=true:=rfl
  rw [hw,if_pos rfl] at h
  rcases h with h | ⟨_,h⟩
  · unfold Oper.wp at h
    rw [act_eval'] at h
    have hs:execOp (opd n ρ) (solo o)=execOp (opd n ρ) o:=rfl
    rw [hs] at h
    unfold CX
    generalize (execOp (opd n ρ) o).run P w'=res at h ⊢
    cases res with
    | ok nx w'' =>
      cases nx
      case value v =>
        simp only [Oper.upon] at h
        left
        simp only [wpList,QK] at h
        obtain ⟨u,h1,h2⟩:=h
        rw [act_putO] at h1
        have:=put_inj (o:=o) rfl hd h1
        rw [← this] at h2
        exact ⟨v,w'',rfl,h2⟩
      case skip =>
        simp only [Oper.upon] at h
        right; left
        simp only [wpList,QK] at h
        obtain ⟨u,h1,h2⟩:=h
        rw [act_putO] at h1
        have:=put_inj (o:=o) rfl hd h1
        rw [← this] at h2
        exact ⟨w'',rfl,h2⟩
      case enter f args =>
        simp only [Oper.upon] at h
        right; right; left
        refine ⟨f,args,w'',rfl,Calls.mono h fun e w3 h'=>?_⟩
        cases e with
        | returned v =>
          simp only [wpList,QK] at h' ⊢
          obtain ⟨u,h1,h2⟩:=h'
          rw [act_putO] at h1
          have:=put_inj (o:=o) rfl hd h1
          rw [← this] at h2
          exact h2
        | panicked _=>simp [QK] at h'
        | outgrown=>simp [LetsOut,QK] at h'
      case row row args =>
        simp only [Oper.upon] at h
        right; right; right
        refine ⟨row,args,w'',rfl,Rows.mono h fun v w3 h'=>?_⟩
        simp only [wpList,QK] at h' ⊢
        obtain ⟨u,h1,h2⟩:=h'
        rw [act_putO] at h1
        have:=put_inj (o:=o) rfl hd h1
        rw [← this] at h2
        exact h2
      case defer d =>
        simp only [Oper.upon,wpList,QK] at h
        obtain ⟨u,h1,_⟩:=h
        have:=congrArg (fun a:Act=>a.defers) h1
        cases hq:(solo o).dst <;> simp [hq,Act.put,act] at this
      all_goals simp [Oper.upon] at h
    | halt e w''=>cases e <;> simp [Oper.upon,QK] at h
  · simp [LetsOut,QK] at h
theorem LP_gs {o:Oper} {ρ:Env} {u:Value} {K:Value→World→Prop} (h:K (dv o u) w):LP P n #[solo o] (QK n o ρ K) 1 (updO ρ (solo o).dst u) w:=by
  unfold LP; exact ⟨u,rfl,h⟩
end
/-- What is left stands one behind the other. -/
def tailChk (ops:Array Oper) (k:Nat) (anc:List (List Nat)):Bool :=
  (List.range ops.size).all (fun i =>
    match ops.toList[i]? with
    | none=>false
    | some o =>
      o.after.toList.all (fun e => !Region.binds .any e || Nat.blt e.on i) &&
      (anc.getD i []).all (fun j=>o.after.toList.any fun e=>Region.binds .any e&&(Nat.beq e.on j || (anc.getD e.on []).contains j)) &&
      (Nat.blt i k || (List.range i).all (fun j=>(anc.getD i []).contains j)))&&Nat.ble k ops.size
theorem AP_tail {ρ:Env} {w:World} {Q:Exit→Act→World→Prop} (k:Nat) (anc:List (List Nat)) (chk:tailChk ops k anc=true) (h:LP P n ops Q k ρ w):AP P n ops Q k ρ w:=by
  unfold tailChk at chk
  simp only [Bool.and_eq_true] at chk
  obtain ⟨chk,hks⟩:=chk
  have hks:=Nat.le_of_ble_eq_true hks
  have g:∀ i o,ops[i]?=some o→_:=fun i o ho=>by
    have hi:i<ops.size:=(Array.getElem?_eq_some_iff.1 ho).1
    have:=List.all_eq_true.1 chk i (List.mem_range.2 hi)
    rw [show ops.toList[i]?=some o by rw [Array.getElem?_toList]; exact ho] at this
    simp only [Bool.and_eq_true] at this
    exact this
  have edge:∀ (i:Nat) (o:Oper),ops[i]?=some o→∀ e∈o.after,Region.binds .any e=true→e.on<i:=fun i o ho e he hb=>by
    have:=List.all_eq_true.1 (g i o ho).1.1 e (Array.mem_toList_iff.2 he)
    simp only [hb,Bool.not_true,Bool.false_or] at this
    exact nblt this
  have up:∀ (i:Nat) (o:Oper),ops[i]?=some o→∀ j∈anc.getD i [],∃ e∈o.after,Region.binds .any e=true∧(e.on=j∨j∈anc.getD e.on []):=fun i o ho j hj=>by
    have:=List.all_eq_true.1 (g i o ho).1.2 j hj
    obtain ⟨e,he,hb⟩:=List.any_eq_true.1 this
    simp only [Bool.and_eq_true,Bool.or_eq_true] at hb
    exact ⟨e,Array.mem_toList_iff.1 he,hb.1,hb.2.imp (fun h=>Nat.eq_of_beq_eq_true h) (fun h=>by simpa using h)⟩
  have tail:∀ i,i<ops.size→k≤i→∀ j,j<i→j∈anc.getD i []:=fun i hi hk j hj=>by
    have ho:ops[i]?=some ops[i]:=by simp [hi]
    have:=(g i _ ho).2
    simp only [Bool.or_eq_true] at this
    rcases this with h | h
    · have:=nblt h; omega
    · have:=List.all_eq_true.1 h j (List.mem_range.2 hj); simpa using this
  have small:∀ m,m<ops.size→∀ x∈anc.getD m [],x<m:=by
    intro m
    induction m using Nat.strongRecOn with
    | _ m ihm =>
      intro hm x hx
      obtain ⟨e,hee,hb,hx'⟩:=up m ops[m] (by simp [hm]) x hx
      have:=edge m _ (by simp [hm]) e hee hb
      rcases hx' with hx' | hx'
      · omega
      · have:=ihm e.on this (by omega) x hx'; omega
  have main:∀ (fuel j:Nat) (listed:Array Bool) (a:Act) (w:World),ops.size≤j+fuel→k≤j→listed.size=ops.size →
      (∀ i,i<ops.size→(listed.getD i false=true↔i<j))→wpList P ops Q (ops.toList.drop j) a w→wpAny P .any ops Q fuel listed a w:=by
    intro fuel
    have fin_:∀ (j:Nat) (listed:Array Bool) (a:Act) (w:World),ops.size≤j→listed.size=ops.size→(∀ i,i<ops.size→(listed.getD i false=true↔i<j))→wpList P ops Q (ops.toList.drop j) a w →
        Region.ready .any ops listed=[]∧Q .normal a w:=by
      intro j listed a w hj hsz hl h
      have hd:ops.toList.drop j=[]:=List.drop_eq_nil_of_le (by simp; omega)
      rw [hd] at h
      refine ⟨List.eq_nil_iff_forall_not_mem.2 fun i hi=>?_,h⟩
      obtain ⟨h1,h2,_⟩:=mem_ready' hi
      have h3:i<listed.size:=by omega
      have h4:listed.getD i true=listed.getD i false:=by simp [Array.getD_eq_getD_getElem?,h3]
      rw [h4,(hl i h1).2 (by omega)] at h2; cases h2
    induction fuel with
    | zero=>intro j listed a w hj hk hsz hl h; exact fin_ j listed a w (by omega) hsz hl h
    | succ fuel ih =>
      intro j listed a w hj hk hsz hl h
      by_cases hjs:j<ops.size
      case neg =>
        obtain ⟨h1,h2⟩:=fin_ j listed a w (by omega) hsz hl h
        exact ⟨fun _=>h2,fun i hi=>by rw [h1] at hi; cases hi⟩
      have ho:ops[j]?=some ops[j]:=by simp [hjs]
      have hrj:j∈Region.ready .any ops listed:=by
        refine ready_of ho ?_ fun e he hb=>(hl e.on (by have:=edge j _ ho e he hb; omega)).2 (edge j _ ho e he hb)
        have h3:j<listed.size:=by omega
        have h4:listed.getD j true=listed.getD j false:=by simp [Array.getD_eq_getD_getElem?,h3]
        rw [h4]
        cases hh:listed.getD j false
        · rfl
        · have:=(hl j hjs).1 hh; omega
      refine ⟨fun h0=>(by rw [h0] at hrj; cases hrj),fun i hi=>?_⟩
      obtain ⟨h1,h2,o,hio,he⟩:=mem_ready' hi
      have h3:i<listed.size:=by omega
      have h4:listed.getD i true=listed.getD i false:=by simp [Array.getD_eq_getD_getElem?,h3]
      rw [h4] at h2
      have hij:i=j:=by
        rcases Nat.lt_trichotomy i j with h5 | h5 | h5
        · have:=(hl i h1).2 h5; rw [h2] at this; cases this
        · exact h5
        · exfalso
          have ha:=tail i h1 (by omega) j h5
          obtain ⟨e,hee,hb,hx⟩:=up i o hio j ha
          have hlt:=edge i _ hio e hee hb
          have hel:=(hl e.on (by omega)).1 (he e hee hb)
          rcases hx with hx | hx
          · omega
          · have:=small e.on (by omega) j hx; omega
      subst hij
      have hdrop:ops.toList.drop i=ops[i] :: ops.toList.drop (i+1):=drop_cons (by simp [hjs])
      rw [hdrop] at h
      have hl':∀ m,m<ops.size→((listed.setIfInBounds i true).getD m false=true↔m<i+1):=fun m hm=>by
        rw [listed_set h3,hl m hm]; omega
      have next:∀ a' w',wpList P ops Q (ops.toList.drop (i+1)) a' w'→wpAny P .any ops Q fuel (listed.setIfInBounds i true) a' w':=fun a' w' h' =>
        ih (i+1) _ a' w' (by omega) (by omega) (by simpa using hsz) hl' h'
      unfold wpOp
      rw [ho]
      simp only [wpList] at h
      split at h
      · rename_i hw; simp only [hw,if_true]; exact h.imp (Oper.wp_mono next) id
      · rename_i hw; simp only [hw]; exact next _ _ h
  intro fuel listed hsz hf hl
  exact main fuel k listed _ _ hf (Nat.le_refl _) hsz hl (by unfold LP at h; exact h)
end
end Go.Gv
/- Open regions in which several operations that make or write may come first: each of them is walked. -/
namespace Go.Gv
open Go Go.RowKit
def rm (U:List Nat) (i:Nat):List Nat:=U.filter fun x => !Nat.beq x i
theorem mem_rm {U:List Nat} {i x:Nat}:x∈rm U i↔x∈U∧x≠i:=by
  unfold rm
  rw [List.mem_filter]
  constructor
  · rintro ⟨h1,h2⟩; exact ⟨h1,fun e=>by subst e; simp at h2⟩
  · rintro ⟨h1,h2⟩; refine ⟨h1,?_⟩
    cases hb:Nat.beq x i
    · rfl
    · exact absurd (Nat.eq_of_beq_eq_true hb) h2
def okIn (src:List (List (Nat×Option Nat))) (U:List Nat) (o:Oper) (i:Nat):Bool :=
  U.contains i&&(src.getD i []).all (fun p=>match p.2 with | some j => !U.contains j | none=>true)&&(match o.guard with | some (j,_) => !U.contains j | none=>true)
theorem okIn_of {src:List (List (Nat×Option Nat))} {U:List Nat} {o:Oper} {i:Nat} (h:okIn src U o i=true):i∈U∧(∀ t j,(t,some j)∈src.getD i []→j ∉ U)∧∀ j b,o.guard=some (j,b)→j ∉ U:=by
  unfold okIn at h
  simp only [Bool.and_eq_true] at h
  refine ⟨by simpa using h.1.1,fun t j hj=>?_,fun j b hg=>?_⟩
  · have:=List.all_eq_true.1 h.1.2 _ hj; simpa using this
  · have:=h.2; rw [hg] at this; simpa using this
/-- The operations of which one comes next: all others wait for one of them. -/
def hdOk (anc:List (List Nat)) (U H:List Nat):Bool := !H.isEmpty&&U.all fun x=>H.contains x || H.any fun y=>(anc.getD x []).contains y&&U.contains y
section
variable {P:Program} {n:Nat} {N:Asn} {X:Nat→Asn} {R:Asn} {ops:Array Oper} {k:Nat} {anc:List (List Nat)} {src:List (List (Nat×Option Nat))} {fin:List (Nat×Option Nat)}
def GT [DM] (P:Program) (n:Nat) (ops:Array Oper) (anc:List (List Nat)) (src:List (List (Nat×Option Nat))) (ρ0:Env) (E:Asg→World→Prop):Nat→List Nat→Asg→List (Nat×PH)→World→Prop
  | 0,U,A,_,w=>U=[]∧∀ w',Ext w w'→E A w'
  | m+1,U,A,L,w =>
     (∃ i o,ops.toList[i]?=some o∧okIn src U o i=true ∧
       ((gOn A o=some false∧GT P n ops anc src ρ0 E m (rm U i) ((i,undef) :: A) L w) ∨
        (gOn A o=some true∧∃ (v:Value) (hs:List PH),(∀ ρ w',needs ρ0 (look A) ρ (src.getD i [])→(∀ h∈hs,Sub h w')→QX P n o ρ w' v)∧(∀ h∈hs,Sub h w)∧GT P n ops anc src ρ0 E m (rm U i) ((i,v) :: A) (hs.map (fun h=>(i,h))++L) w))) ∨
     (∃ H,hdOk anc U H=true∧∀ i∈H,∃ o,ops.toList[i]?=some o∧okIn src U o i=true∧gOn A o=some true ∧
        ∀ ρ w',Ext w w'→needs ρ0 (look A) ρ (src.getD i [])→CX P n o ρ w' fun u w''=>kept (anc.getD i []) w'' L∧GT P n ops anc src ρ0 E m (rm U i) ((i,dv o u) :: A) L w'')
theorem GT.ext [DM] {ρ0:Env} {E:Asg→World→Prop}:∀ {m:Nat} {U:List Nat} {A:Asg} {L:List (Nat×PH)} {w w':World},GT P n ops anc src ρ0 E m U A L w→Ext w w'→GT P n ops anc src ρ0 E m U A L w'
  | 0,_,_,_,_,_,⟨h1,h2⟩,x=>⟨h1,fun w'' y=>h2 w'' (x.trans y)⟩
  | m+1,_,_,_,_,_,h,x=>by
    rcases h with ⟨i,o,ho,hk,h⟩ | ⟨H,hH,h⟩
    · refine .inl ⟨i,o,ho,hk,?_⟩
      rcases h with ⟨g,h⟩ | ⟨g,v,hs,h1,h2,h3⟩
      · exact .inl ⟨g,h.ext x⟩
      · exact .inr ⟨g,v,hs,h1,fun a ha=>(h2 a ha).ext x,h3.ext x⟩
    · exact .inr ⟨H,hH,fun i hi=>let ⟨o,ho,hk,g,h⟩:=h i hi; ⟨o,ho,hk,g,fun ρ w'' y=>h ρ w'' (x.trans y)⟩⟩
theorem GT.done [DM] {ρ0:Env} {E:Asg→World→Prop} {m:Nat} {A:Asg} {L:List (Nat×PH)} {w:World} (h:GT P n ops anc src ρ0 E m [] A L w):∀ w',Ext w w'→E A w':=by
  cases m with
  | zero=>exact h.2
  | succ m =>
    exfalso
    rcases h with ⟨i,o,ho,hk,h⟩ | ⟨H,hH,h⟩
    · have:=(okIn_of hk).1; cases this
    · unfold hdOk at hH
      simp only [Bool.and_eq_true] at hH
      cases H with
      | nil=>cases hH.1
      | cons i H=>obtain ⟨o,ho,hk,_⟩:=h i (by simp); have:=(okIn_of hk).1; cases this
structure InvT [DM] (P:Program) (n:Nat) (ops:Array Oper) (k:Nat) (anc:List (List Nat)) (src:List (List (Nat×Option Nat))) (ρ0:Env) (E:Asg→World→Prop) (m:Nat) (U:List Nat) (A:Asg) (L:List (Nat×PH)) (listed:Array Bool) (ρ:Env) (w:World):Prop where
  gs:GT P n ops anc src ρ0 E m U A L w
  low:∀ i∈U,i<k
  und:∀ i∈U,listed.getD i false=false
  srcD:∀ i,i<k→i ∉ U→∀ t j,(t,some j)∈src.getD i []→j ∉ U
  grdD:∀ i,i<k→i ∉ U→∀ o,ops.toList[i]?=some o→∀ j b,o.guard=some (j,b)→j ∉ U
  dec:∀ i,i<k→i ∉ U→∃ o,ops.toList[i]?=some o∧((gOn A o=some false∧look A i=undef) ∨
    (gOn A o=some true∧(listed.getD i false=true∨∃ (hs:List PH),(∀ h∈hs,(i,h)∈L)∧∀ ρ w',needs ρ0 (look A) ρ (src.getD i [])→(∀ h∈hs,Sub h w')→QX P n o ρ w' (look A i))))
  slot:∀ i,i<k→listed.getD i false=true→∀ d,dstOf ops i=some d→ρ d=look A i
  old:∀ t,(∀ i,i<k→listed.getD i false=true→dstOf ops i≠some t)→ρ t=ρ0 t
  lq:∀ p∈L,listed.getD p.1 false=true∨Sub p.2 w
  closed:∀ i,listed.getD i false=true→∀ j∈anc.getD i [],listed.getD j false=true
  small:∀ i,listed.getD i false=true→i<k
section
variable {ρ0:Env} {E:Asg→World→Prop} {m:Nat} {U:List Nat} {A:Asg} {L:List (Nat×PH)} {listed:Array Bool} {ρ:Env} {w:World}
theorem InvT.settle [DM] {m' i:Nat} {o:Oper} {v:Value} {hs:List PH} (I:InvT P n ops k anc src ρ0 E m U A L listed ρ w) (ho:ops.toList[i]?=some o) (hk:okIn src U o i=true)
    (hgs:GT P n ops anc src ρ0 E m' (rm U i) ((i,v) :: A) (hs.map (fun h=>(i,h))++L) w) (hsub:∀ h∈hs,Sub h w)
    (hd:(gOn A o=some false∧v=undef)∨(gOn A o=some true∧∀ ρ w',needs ρ0 (look A) ρ (src.getD i [])→(∀ h∈hs,Sub h w')→QX P n o ρ w' v)) :
    InvT P n ops k anc src ρ0 E m' (rm U i) ((i,v) :: A) (hs.map (fun h=>(i,h))++L) listed ρ w:=by
  obtain ⟨hiU,hsrc,hgrd⟩:=okIn_of hk
  have hiu:=I.und i hiU
  have hlk:∀ j,j ∉ U→look ((i,v) :: A) j=look A j:=fun j hj=>look_ne fun e=>hj (e ▸ hiU)
  have out:∀ {x:Nat},x ∉ rm U i→x≠i→x ∉ U:=fun h1 h2 h3=>h1 (mem_rm.2 ⟨h3,h2⟩)
  refine ⟨hgs,fun p hp=>I.low p (mem_rm.1 hp).1,fun p hp=>I.und p (mem_rm.1 hp).1,fun x hxk hx t j hj hju=>?_,fun x hxk hx o' ho' j b hg hju=>?_,fun x hxk hx=>?_,fun x hxk hl d hd=>?_,I.old,fun p hp=>?_,I.closed,I.small⟩
  · have hjU:=(mem_rm.1 hju).1
    by_cases e:x=i
    · subst e; exact hsrc t j hj hjU
    · exact I.srcD x hxk (out hx e) t j hj hjU
  · have hjU:=(mem_rm.1 hju).1
    by_cases e:x=i
    · subst e; rw [ho] at ho'; cases ho'; exact hgrd j b hg hjU
    · exact I.grdD x hxk (out hx e) o' ho' j b hg hjU
  · by_cases e:x=i
    · subst e
      refine ⟨o,ho,?_⟩
      have hg:gOn ((x,v) :: A) o=gOn A o:=gOn_congr fun j b hg=>hlk j (hgrd j b hg)
      rw [hg,look_eq]
      refine hd.imp id fun ⟨h1,h2⟩=>⟨h1,.inr ⟨hs,fun h hh=>List.mem_append.2 (.inl (List.mem_map.2 ⟨h,hh,rfl⟩)),fun ρ w' hn=>h2 ρ w' (needs_congr (fun t j hj=>hlk j (hsrc t j hj)) hn)⟩⟩
    · have hxU:=out hx e
      obtain ⟨o',ho',h⟩:=I.dec x hxk hxU
      refine ⟨o',ho',?_⟩
      have hg:gOn ((i,v) :: A) o'=gOn A o':=gOn_congr fun j b hg=>hlk j (I.grdD x hxk hxU o' ho' j b hg)
      rw [hg,hlk x hxU]
      refine h.imp id fun ⟨h1,h2⟩=>⟨h1,h2.imp id fun ⟨hs',h3,h4⟩=>⟨hs',fun h hh=>List.mem_append.2 (.inr (h3 h hh)),fun ρ w' hn=>h4 ρ w' (needs_congr (fun t j hj=>hlk j (I.srcD x hxk hxU t j hj)) hn)⟩⟩
  · rw [I.slot x hxk hl d hd,look_ne]
    rintro rfl; rw [hiu] at hl; cases hl
  · rcases List.mem_append.1 hp with hp | hp
    · obtain ⟨h,hh,rfl⟩:=List.mem_map.1 hp
      exact .inr (hsub h hh)
    · exact I.lq p hp
theorem InvT.norm [DM]:∀ {m:Nat} {U:List Nat} {A:Asg} {L:List (Nat×PH)},InvT P n ops k anc src ρ0 E m U A L listed ρ w →
    ∃ m' U' A' L',InvT P n ops k anc src ρ0 E m' U' A' L' listed ρ w∧(U'=[]∨∃ m H,m'=m+1∧hdOk anc U' H=true∧∀ i∈H,∃ o,ops.toList[i]?=some o∧okIn src U' o i=true∧gOn A' o=some true ∧
      ∀ ρ w',Ext w w'→needs ρ0 (look A') ρ (src.getD i [])→CX P n o ρ w' fun u w''=>kept (anc.getD i []) w'' L'∧GT P n ops anc src ρ0 E m (rm U' i) ((i,dv o u) :: A') L' w'')
  | 0,U,A,L,I=>⟨0,U,A,L,I,.inl I.gs.1⟩
  | m+1,U,A,L,I=>by
    rcases I.gs with ⟨i,o,ho,hk,h⟩ | ⟨H,hH,h⟩
    · rcases h with ⟨g,h⟩ | ⟨g,v,hs,h1,h2,h3⟩
      · exact (I.settle (hs:=[]) ho hk (by simpa using h) (fun _ hh=>by cases hh) (.inl ⟨g,rfl⟩)).norm
      · exact (I.settle ho hk h3 h2 (.inr ⟨g,h1⟩)).norm
    · exact ⟨m+1,U,A,L,I,.inr ⟨m,H,rfl,hH,h⟩⟩
end
theorem AP_gameT [DM] {Q:Exit→Act→World→Prop} {ρ0:Env} {w0:World} (k:Nat) (anc:List (List Nat)) (src:List (List (Nat×Option Nat))) (fin:List (Nat×Option Nat)) (U0:List Nat)
    (chk:gChk (n:=n) ops k anc src fin=true) (chk2:(U0.all (fun i=>Nat.blt i k)&&(List.range k).all (fun i=>U0.contains i))=true) (m0:Nat)
    (h:GT P n ops anc src ρ0 (fun A w=>∀ ρ,needs ρ0 (look A) ρ fin→AP P n ops Q k ρ w) m0 U0 [] [] w0):AP P n ops Q 0 ρ0 w0:=by
  have c:=GOk.of chk
  simp only [Bool.and_eq_true] at chk2
  obtain ⟨k2,k3⟩:=chk2
  let E:Asg→World→Prop:=fun A w=>∀ ρ,needs ρ0 (look A) ρ fin→AP P n ops Q k ρ w
  intro fuel0 listed0 hsz0 hf0 hl0
  have main:∀ (fuel:Nat) (listed:Array Bool) (m:Nat) (U:List Nat) (A:Asg) (L:List (Nat×PH)) (ρ:Env) (w:World),listed.size=ops.size→((List.range k).filter (fun i => !listed.getD i false)).length+(ops.size-k)≤fuel →
      InvT P n ops k anc src ρ0 E m U A L listed ρ w→wpAny P .any ops Q fuel listed (act n ρ) w:=by
    intro fuel
    have done:∀ (fuel:Nat) (listed:Array Bool) (m:Nat) (U:List Nat) (A:Asg) (L:List (Nat×PH)) (ρ:Env) (w:World),listed.size=ops.size→ops.size-k≤fuel →
        InvT P n ops k anc src ρ0 E m U A L listed ρ w→(∀ i,i<k→listed.getD i false=true)→wpAny P .any ops Q fuel listed (act n ρ) w:=by
      intro fuel listed m U A L ρ w hsz hf I hall
      have hr:U=[]:=by
        cases U with
        | nil=>rfl
        | cons p r=>have:=I.und p (by simp); rw [hall _ (I.low p (by simp))] at this; cases this
      subst hr
      have hE:E A w:=I.gs.done w (Ext.refl _)
      refine hE ρ ?_ fuel listed hsz (by have:=c.size; omega) fun i hi=>⟨I.small i,hall i⟩
      have key:∀ l,(∀ p∈l,p∈fin)→needs ρ0 (look A) ρ l:=by
        intro l
        induction l with
        | nil=>intro _; trivial
        | cons p l ih =>
          intro h
          obtain ⟨t,q⟩:=p
          have hp:=h (t,q) (by simp)
          have hl:=ih fun x hx=>h x (by simp [hx])
          cases q with
          | none=>exact ⟨I.old t fun m hm _=>c.finb t hp m hm,hl⟩
          | some j=>exact ⟨I.slot j (c.finf t j hp).2 (hall j (c.finf t j hp).2) t (c.finf t j hp).1,hl⟩
      exact key _ fun p hp=>hp
    induction fuel with
    | zero =>
      intro listed m U A L ρ w hsz hf I
      refine done 0 listed m U A L ρ w hsz (by omega) I fun i hi=>?_
      cases hh:listed.getD i false
      · exfalso
        have:i∈(List.range k).filter (fun i => !listed.getD i false):=List.mem_filter.2 ⟨List.mem_range.2 hi,by simp [hh]⟩
        have:=List.length_pos_of_mem this
        omega
      · rfl
    | succ fuel ih =>
      intro listed m U A L ρ w hsz hf I
      by_cases hall:∀ i,i<k→listed.getD i false=true
      · exact done _ listed m U A L ρ w hsz (by omega) I hall
      obtain ⟨m,U,A,L,I,hn⟩:=I.norm
      have hks:=c.size
      refine ⟨fun h0=>?_,fun i hi=>?_⟩
      · exfalso
        obtain ⟨i,hik,hi⟩:∃ i,i<k∧listed.getD i false=false:=by
          refine Classical.byContradiction fun hn=>hall fun i hi=>?_
          cases hh:listed.getD i false
          · exact absurd ⟨i,hi,hh⟩ hn
          · rfl
        have least:∀ m,m<k→listed.getD m false=false→∃ j,j<k∧listed.getD j false=false∧∀ x,x<j→listed.getD x false=true:=by
          intro m
          induction m using Nat.strongRecOn with
          | _ m ihm =>
            intro hm hl
            by_cases h:∀ x,x<m→listed.getD x false=true
            · exact ⟨m,hm,hl,h⟩
            · obtain ⟨x,hx⟩:=Classical.not_forall.1 h
              obtain ⟨hxm,hxl⟩:=Classical.not_imp.1 hx
              exact ihm x hxm (by omega) (by simpa using hxl)
        obtain ⟨j,hjk',hjl,hjx⟩:=least i hik hi
        have ho:ops[j]?=some ops[j]:=by simp [show j<ops.size by omega]
        have:j∈Region.ready .any ops listed:=ready_of ho (by
          have h3:j<listed.size:=by omega
          simpa [Array.getD_eq_getD_getElem?,h3] using hjl) fun e he hb=>hjx e.on (c.edge j _ ho e he hb)
        rw [h0] at this; cases this
      · obtain ⟨h1,h2,o,hio,he⟩:=mem_ready' hi
        have h3:i<listed.size:=by omega
        have hu:listed.getD i false=false:=by simpa [Array.getD_eq_getD_getElem?,h3] using h2
        have hanc:∀ j∈anc.getD i [],listed.getD j false=true:=fun j hj=>by
          obtain ⟨e,hee,hb,hx⟩:=c.up i o hio j hj
          rcases hx with hx | hx
          · rw [← hx]; exact he e hee hb
          · exact I.closed e.on (he e hee hb) j hx
        have hik:i<k:=by
          refine Classical.byContradiction fun hn=>hall fun m hm=>hanc m (c.tail i h1 (by omega) m hm)
        have hol:ops.toList[i]?=some o:=by rw [Array.getElem?_toList]; exact hio
        have hdst:dstOf ops i=o.dst:=by simp [dstOf,hol]
        have hneeds:needs ρ0 (look A) ρ (src.getD i []):=by
          have key:∀ l,(∀ p∈l,p∈src.getD i [])→needs ρ0 (look A) ρ l:=by
            intro l
            induction l with
            | nil=>intro _; trivial
            | cons p l ih =>
              intro h
              obtain ⟨t,q⟩:=p
              have hp:=h (t,q) (by simp)
              have hl:=ih fun x hx=>h x (by simp [hx])
              cases q with
              | none =>
                refine ⟨I.old t fun m hm hml hd=>?_,hl⟩
                have:=c.base i hik t hp m hm hd
                have:=I.closed m hml i this
                rw [hu] at this; cases this
              | some j =>
                obtain ⟨h4,h5,h6⟩:=c.from_ i hik t j hp
                exact ⟨I.slot j h6 (hanc j h4) t h5,hl⟩
          exact key _ fun p hp=>hp
        have hwant:∀ b,gOn A o=some b→Region.wanted o (yielded ops (act n ρ).tmps)=b:=fun b hb=>by
          unfold gOn at hb
          unfold Region.wanted
          split at hb
          · rename_i hg; simp only [hg]; exact Option.some.inj hb
          · rename_i j want hg
            simp only [hg]
            obtain ⟨hja,d,hjd⟩:=c.guard i o hio j want hg
            have hjl:=hanc j hja
            have hjk:=I.small j hjl
            have hsl:=I.slot j hjk hjl d hjd
            have hlt:=c.low j hjk d hjd
            have hdo:(ops[j]?).bind (·.dst)=some d:=by
              have:=hjd; unfold dstOf at this; rwa [Array.getElem?_toList] at this
            have hy:yielded ops (act n ρ).tmps j=(match ρ d with | .bool b=>some b | _=>none):=by
              unfold yielded
              rw [hdo]
              simp only [Option.bind_some]
              rw [act_get,if_pos hlt]
              cases ρ d <;> rfl
            rw [hy,hsl]
            split at hb
            · rename_i b' hb'
              rw [hb']
              have:=Option.some.inj hb
              rw [← this]
              cases b' <;> cases want <;> rfl
            · rename_i vs hvs
              rw [hvs]
              have:=Option.some.inj hb
              rw [← this]; rfl
            · cases hb
        have hmeas:((List.range k).filter (fun m => !(listed.setIfInBounds i true).getD m false)).length+(ops.size-k)≤fuel:=by
          have:=filter_lt (l:=List.range k) (p:=fun m => !listed.getD m false) (q:=fun m => !(listed.setIfInBounds i true).getD m false) (fun x hx=>by
            cases hh:listed.getD x false
            · rfl
            · have:=(listed_set (m:=x) h3).2 (.inr hh)
              simp [this] at hx) (List.mem_range.2 hik) (by simp [hu]) (by have:=(listed_set (m:=i) h3).2 (.inl rfl); simp [this])
          omega
        have hclosed:∀ m,(listed.setIfInBounds i true).getD m false=true→∀ j∈anc.getD m [],(listed.setIfInBounds i true).getD j false=true:=fun m hml j hj=>by
          rw [listed_set h3] at hml ⊢
          rcases hml with rfl | hml
          · exact .inr (hanc j hj)
          · exact .inr (I.closed m hml j hj)
        have hsmall:∀ m,(listed.setIfInBounds i true).getD m false=true→m<k:=fun m hml=>by
          rw [listed_set h3] at hml
          rcases hml with rfl | hml
          · exact hik
          · exact I.small m hml
        have slots:∀ (A':Asg) (u:Value),(∀ d,o.dst=some d→u=look A' i)→(∀ m,listed.getD m false=true→look A' m=look A m) →
            (∀ m,m<k→(listed.setIfInBounds i true).getD m false=true→∀ d,dstOf ops m=some d→updO ρ o.dst u d=look A' m) ∧
            (∀ t,(∀ m,m<k→(listed.setIfInBounds i true).getD m false=true→dstOf ops m≠some t)→updO ρ o.dst u t=ρ0 t):=by
          intro A' u hu' hb'
          constructor
          · intro m hm hml d hd
            rw [listed_set h3] at hml
            by_cases hmi:m=i
            · subst hmi
              rw [hdst] at hd
              rw [hd]; simp [updO,upd,hu' d hd]
            · have hml:=hml.resolve_left hmi
              have hs:=I.slot m hm hml d hd
              cases hod:o.dst with
              | none=>simp only [updO]; rw [hs,hb' m hml]
              | some d' =>
                have hne:d≠d':=fun e=>c.uniq m hm i hik hmi d hd (by rw [hdst,hod,e])
                simp only [updO,upd,if_neg hne]; rw [hs,hb' m hml]
          · intro t ht
            have h4:=I.old t fun m hm hml=>ht m hm ((listed_set h3).2 (.inr hml))
            cases hod:o.dst with
            | none=>exact h4
            | some d' =>
              have hne:t≠d':=fun e=>ht i hik ((listed_set h3).2 (.inl rfl)) (by rw [hdst,hod,e])
              simp only [updO,upd,if_neg hne]; exact h4
        unfold wpOp
        rw [hio]
        simp only
        by_cases hiD:i ∉ U
        · -- settled already
          have hund:∀ p∈U,(listed.setIfInBounds i true).getD p false=false:=fun p hp=>by
            have h4:=I.und p hp
            have h5:p≠i:=fun e=>hiD (e ▸ hp)
            cases hh:(listed.setIfInBounds i true).getD p false
            · rfl
            · rcases (listed_set h3).1 hh with e | e
              · exact absurd e h5
              · rw [h4] at e; cases e
          obtain ⟨s1,s2⟩:=slots A (look A i) (fun _ _=>rfl) (fun _ _=>rfl)
          have next:∀ w',Ext w w'→wpAny P .any ops Q fuel (listed.setIfInBounds i true) (act n (updO ρ o.dst (look A i))) w':=fun w' x =>
            ih _ m U A L _ w' (by simpa using hsz) hmeas ⟨I.gs.ext x,I.low,hund,I.srcD,I.grdD,fun m hm hmU=>by
              obtain ⟨o',ho',hd⟩:=I.dec m hm hmU
              exact ⟨o',ho',hd.imp id fun ⟨g,hd⟩=>⟨g,hd.imp (fun hl=>(listed_set h3).2 (.inr hl)) id⟩⟩,s1,s2,fun p hp=>(I.lq p hp).imp (fun hl=>(listed_set h3).2 (.inr hl)) fun e=>e.ext x,hclosed,hsmall⟩
          obtain ⟨o',ho',hd⟩:=I.dec i hik hiD
          rw [hol] at ho'; cases ho'
          rcases hd with ⟨g,hv⟩ | ⟨g,hd⟩
          · rw [hwant false g,if_neg (by decide),act_putO,← hv]
            exact next w (Ext.refl _)
          · rw [hwant true g,if_pos rfl]
            left
            rcases hd with hl | ⟨hs,hs1,hs2⟩
            · rw [hu] at hl; cases hl
            unfold Oper.wp
            rw [act_eval']
            have hq:=hs2 ρ w hneeds fun h hh=>(I.lq _ (hs1 h hh)).resolve_left (by rw [hu]; simp)
            rcases hq with hr | ⟨f,args,hr,hc⟩
            · rw [hr]; simp only [Oper.upon]; rw [act_putO]; exact next w (Ext.refl _)
            · rw [hr]; simp only [Oper.upon]
              refine Calls.mono hc fun e w'' h'=>?_
              cases e with
              | returned u=>obtain ⟨rfl,x⟩:=h'; simp only; rw [act_putO]; exact next w'' x
              | panicked _=>exact h'.elim
              | outgrown=>exact h'.elim
        · -- the next of the chain
          have hin:i∈U:=Classical.not_not.1 hiD
          rcases hn with rfl | ⟨m,H,rfl,hH,hstep⟩
          · cases hin
          have hiH:i∈H:=by
            have hH':=hH
            unfold hdOk at hH'
            simp only [Bool.and_eq_true] at hH'
            have hH':=hH'.2
            have:=List.all_eq_true.1 hH' i hin
            simp only [Bool.or_eq_true] at this
            rcases this with h | h
            · simpa using h
            · exfalso
              obtain ⟨x,hx,hxa⟩:=List.any_eq_true.1 h
              simp only [Bool.and_eq_true] at hxa
              have h5:=hanc x (by simpa using hxa.1)
              rw [I.und x (by simpa using hxa.2)] at h5; cases h5
          obtain ⟨o',ho',hok,g,hcx⟩:=hstep i hiH
          obtain ⟨_,hsrc,hgrd0⟩:=okIn_of hok
          rw [hol] at ho'; cases ho'
          rw [hwant true g,if_pos rfl]
          left
          have hgrd:=hgrd0
          have hlk:∀ u j,j ∉ U→look ((i,u) :: A) j=look A j:=fun u j hj=>look_ne fun e=>hj (e ▸ hin)
          have lisD:∀ m,listed.getD m false=true→m ∉ U:=fun m hm hmU=>by have:=I.und m hmU; rw [hm] at this; cases this
          have next:∀ u w',kept (anc.getD i []) w' L→GT P n ops anc src ρ0 E m (rm U i) ((i,dv o u) :: A) L w'→wpAny P .any ops Q fuel (listed.setIfInBounds i true) (act n (updO ρ o.dst u)) w':=fun u w' hk hg=>by
            obtain ⟨s1,s2⟩:=slots ((i,dv o u) :: A) u (fun d hd=>by rw [look_eq,dv_some hd]) (fun m hm=>hlk _ m (lisD m hm))
            refine ih _ m (rm U i) ((i,dv o u) :: A) L _ w' (by simpa using hsz) hmeas ⟨hg,fun p hp=>I.low p (mem_rm.1 hp).1,fun p hp=>?_,fun m hmk hm t j hj=>?_,fun m hmk hm o' ho' j b hg'=>?_,fun m hmk hm=>?_,s1,s2,fun p hp=>?_,hclosed,hsmall⟩
            · have ⟨h5,h6⟩:=mem_rm.1 hp
              have h4:=I.und p h5
              cases hh:(listed.setIfInBounds i true).getD p false
              · rfl
              · rcases (listed_set h3).1 hh with e | e
                · exact absurd e h6
                · rw [h4] at e; cases e
            · intro hju
              have hjU:=(mem_rm.1 hju).1
              by_cases e:m=i
              · subst e; exact hsrc t j hj hjU
              · exact I.srcD m hmk (fun c=>hm (mem_rm.2 ⟨c,e⟩)) t j hj hjU
            · intro hju
              have hjU:=(mem_rm.1 hju).1
              by_cases e:m=i
              · subst e
                rw [hol] at ho'; cases ho'
                exact hgrd j b hg' hjU
              · exact I.grdD m hmk (fun c=>hm (mem_rm.2 ⟨c,e⟩)) o' ho' j b hg' hjU
            · by_cases e:m=i
              · subst e
                refine ⟨o,hol,.inr ⟨?_,.inl ((listed_set h3).2 (.inl rfl))⟩⟩
                rw [← g]; exact gOn_congr fun j b hg'=>hlk _ j (hgrd j b hg')
              · have hmU:m ∉ U:=fun c=>hm (mem_rm.2 ⟨c,e⟩)
                obtain ⟨o',ho',h⟩:=I.dec m hmk hmU
                refine ⟨o',ho',?_⟩
                have hg:gOn ((i,dv o u) :: A) o'=gOn A o':=gOn_congr fun j b hg=>hlk _ j (I.grdD m hmk hmU o' ho' j b hg)
                rw [hg,hlk _ m hmU]
                exact h.imp id fun ⟨h1,h2⟩=>⟨h1,h2.imp (fun hl=>(listed_set h3).2 (.inr hl)) fun ⟨hs',h3,h4⟩=>⟨hs',h3,fun ρ w' hn=>h4 ρ w' (needs_congr (fun t j hj=>hlk _ j (I.srcD m hmk hmU t j hj)) hn)⟩⟩
            · rcases hk.get p hp with e | e
              · exact .inl ((listed_set h3).2 (.inr (hanc _ e)))
              · exact .inr e
          unfold Oper.wp
          rw [act_eval']
          rcases hcx ρ w (Ext.refl _) hneeds with ⟨u,w',hr,hk,hg⟩ | ⟨w',hr,hk,hg⟩ | ⟨f,args,w',hr,hc⟩ | ⟨row,args,w',hr,hc⟩
          · rw [hr]; simp only [Oper.upon]; rw [act_putO]; exact next u w' hk hg
          · rw [hr]; simp only [Oper.upon]; rw [act_putO]; exact next undef w' hk hg
          · rw [hr]; simp only [Oper.upon]
            refine Calls.mono hc fun e w'' h'=>?_
            cases e with
            | returned u=>simp only; rw [act_putO]; exact next u w'' h'.1 h'.2
            | panicked _=>exact h'.elim
            | outgrown=>exact h'.elim
          · rw [hr]; simp only [Oper.upon]
            refine Rows.mono hc fun u w'' h'=>?_
            rw [act_putO]; exact next u w'' h'.1 h'.2
  have hks:=c.size
  have l0:∀ i,listed0.getD i false=false:=fun i=>by
    by_cases hi:i<ops.size
    · cases hh:listed0.getD i false
      · rfl
      · have:=(hl0 i hi).1 hh; omega
    · have:¬ i<listed0.size:=by omega
      simp [Array.getD_eq_getD_getElem?,this]
  have no:∀ i,¬ listed0.getD i false=true:=fun i h=>by rw [l0 i] at h; cases h
  refine main fuel0 listed0 m0 U0 [] [] ρ0 _ hsz0 ?_ ⟨h,fun p hp=>nblt (List.all_eq_true.1 k2 p hp),fun p _=>l0 _,fun m hmk hm=>absurd (by have:=List.all_eq_true.1 k3 m (List.mem_range.2 hmk); simpa using this) hm,fun m hmk hm=>absurd (by have:=List.all_eq_true.1 k3 m (List.mem_range.2 hmk); simpa using this) hm,fun m hmk hm=>absurd (by have:=List.all_eq_true.1 k3 m (List.mem_range.2 hmk); simpa using this) hm,
    fun i _ hl=>absurd hl (no i),fun t _=>rfl,fun p hp=>by (cases hp),fun i hl=>absurd hl (no i),fun i hl=>absurd hl (no i)⟩
  have:((List.range k).filter (fun i => !listed0.getD i false)).length≤k:=by
    have:=List.length_filter_le (fun i => !listed0.getD i false) (List.range k); simpa using this
  omega
section
variable {ρ0:Env} {E:Asg→World→Prop} {m:Nat} {U:List Nat} {A:Asg} {L:List (Nat×PH)} {w:World} {T:Ty}
theorem GT_end [DM] (hU:U=[]) (h:∀ w',Ext w w'→E A w'):GT P n ops anc src ρ0 E 0 U A L w:=⟨hU,h⟩
theorem GT_r0 [DM] (i:Nat) {o:Oper} (l:List (Nat×Value)) (v:Value) (ho:ops.toList[i]?=some o) (hk:okIn src U o i=true) (hg:gOn A o=some true) (hl:∀ ρ,needs ρ0 (look A) ρ (src.getD i [])→agrees ρ l)
    (h:∀ ρ w',(execOp (opd n (setAll l ρ)) o).run P w' = .ok (.value v) w') (H:GT P n ops anc src ρ0 E m (rm U i) ((i,v) :: A) L w):GT P n ops anc src ρ0 E (m+1) U A L w :=
  .inl ⟨i,o,ho,hk,.inr ⟨hg,v,[],fun ρ w' hn _ => .inl (forget (R:=fun ρ=>(execOp (opd n ρ) o).run P w' = .ok (.value v) w') l (hl ρ hn) fun ρ=>h ρ w'),fun _ hh=>(by cases hh),H⟩⟩
theorem GT_ev [DM] (i:Nat) (ok:TyOk P T) {o:Oper} (l:List (Nat×Value)) (v:Value) (ho:ops.toList[i]?=some o) (hk:okIn src U o i=true) (hg:gOn A o=some true) (hl:∀ ρ,needs ρ0 (look A) ρ (src.getD i [])→agrees ρ l)
    (h:∀ ρ,evOp T n (setAll l ρ) o.op=some v) (H:GT P n ops anc src ρ0 E m (rm U i) ((i,v) :: A) L w):GT P n ops anc src ρ0 E (m+1) U A L w :=
  GT_r0 i l v ho hk hg hl (fun ρ _=>run_evOp ok (h ρ)) H
theorem GT_r1 [DM] (i:Nat) {o:Oper} {h:PH} (l:List (Nat×Value)) (v:Value) (ho:ops.toList[i]?=some o) (hk:okIn src U o i=true) (hg:gOn A o=some true) (hl:∀ ρ,needs ρ0 (look A) ρ (src.getD i [])→agrees ρ l)
    (hr:∀ ρ w',Sub h w'→(execOp (opd n (setAll l ρ)) o).run P w' = .ok (.value v) w') (e:Sub h w) (H:GT P n ops anc src ρ0 E m (rm U i) ((i,v) :: A) ((i,h) :: L) w):GT P n ops anc src ρ0 E (m+1) U A L w :=
  .inl ⟨i,o,ho,hk,.inr ⟨hg,v,[h],fun ρ w' hn hs => .inl (forget (R:=fun ρ=>(execOp (opd n ρ) o).run P w' = .ok (.value v) w') l (hl ρ hn) fun ρ=>hr ρ w' (hs h (by simp))),fun a hh=>(by simp at hh; subst hh; exact e),H⟩⟩
/-- A first one, and what comes then. -/
def Hd1 [DM] (P:Program) (n:Nat) (ops:Array Oper) (anc:List (List Nat)) (src:List (List (Nat×Option Nat))) (ρ0:Env) (E:Asg→World→Prop) (m:Nat) (U:List Nat) (A:Asg) (L:List (Nat×PH)) (w:World) (i:Nat):Prop :=
  ∃ o,ops.toList[i]?=some o∧okIn src U o i=true∧gOn A o=some true ∧
    ∀ ρ w',Ext w w'→needs ρ0 (look A) ρ (src.getD i [])→CX P n o ρ w' fun u w''=>kept (anc.getD i []) w'' L∧GT P n ops anc src ρ0 E m (rm U i) ((i,dv o u) :: A) L w''
def HdAll [DM] (P:Program) (n:Nat) (ops:Array Oper) (anc:List (List Nat)) (src:List (List (Nat×Option Nat))) (ρ0:Env) (E:Asg→World→Prop) (m:Nat) (U:List Nat) (A:Asg) (L:List (Nat×PH)) (w:World):List Nat→Prop
  | []=>True
  | i :: r=>Hd1 P n ops anc src ρ0 E m U A L w i∧HdAll P n ops anc src ρ0 E m U A L w r
theorem CX_of_LP {o:Oper} {ρ:Env} {K:Value→World→Prop} {w':World} (hd:dOk n o.dst=true) (h:LP P n #[solo o] (QK n o ρ K) 0 ρ w'):CX P n o ρ w' fun u w''=>K (dv o u) w'':=by
  unfold LP at h
  simp only [List.drop_zero] at h
  unfold wpList at h
  have hw:Region.wanted (solo o) (yielded #[solo o] (act n ρ).tmps)=true:=rfl
  rw [hw,if_pos rfl] at h
  rcases h with h | ⟨_,h⟩
  · unfold Oper.wp at h
    rw [act_eval'] at h
    have hs:execOp (opd n ρ) (solo o)=execOp (opd n ρ) o:=rfl
    rw [hs] at h
    unfold CX
    generalize (execOp (opd n ρ) o).run P w'=res at h ⊢
    cases res with
    | ok nx w'' =>
      cases nx
      case value v =>
        simp only [Oper.upon] at h
        left
        simp only [wpList,QK] at h
        obtain ⟨u,h1,h2⟩:=h
        rw [act_putO] at h1
        have:=put_inj (o:=o) rfl hd h1
        rw [← this] at h2
        exact ⟨v,w'',rfl,h2⟩
      case skip =>
        simp only [Oper.upon] at h
        right; left
        simp only [wpList,QK] at h
        obtain ⟨u,h1,h2⟩:=h
        rw [act_putO] at h1
        have:=put_inj (o:=o) rfl hd h1
        rw [← this] at h2
        exact ⟨w'',rfl,h2⟩
      case enter f args =>
        simp only [Oper.upon] at h
        right; right; left
        refine ⟨f,args,w'',rfl,Calls.mono h fun e w3 h'=>?_⟩
        cases e with
        | returned v =>
          simp only [wpList,QK] at h' ⊢
          obtain ⟨u,h1,h2⟩:=h'
          rw [act_putO] at h1
          have:=put_inj (o:=o) rfl hd h1
          rw [← this] at h2
          exact h2
        | panicked _=>simp [QK] at h'
        | outgrown=>simp [LetsOut,QK] at h'
      case row row args =>
        simp only [Oper.upon] at h
        right; right; right
        refine ⟨row,args,w'',rfl,Rows.mono h fun v w3 h'=>?_⟩
        simp only [wpList,QK] at h' ⊢
        obtain ⟨u,h1,h2⟩:=h'
        rw [act_putO] at h1
        have:=put_inj (o:=o) rfl hd h1
        rw [← this] at h2
        exact h2
      case defer d =>
        simp only [Oper.upon,wpList,QK] at h
        obtain ⟨u,h1,_⟩:=h
        have:=congrArg (fun a:Act=>a.defers) h1
        cases hq:(solo o).dst <;> simp [hq,Act.put,act] at this
      all_goals simp [Oper.upon] at h
    | halt e w''=>cases e <;> simp [Oper.upon,QK] at h
  · simp [LetsOut,QK] at h
end
end
end Go.Gv
/- Open regions: several operations that make something new stand in no order; what they make does not depend on it. -/
namespace Go.Gv
open Go Go.RowKit
theorem CX.mono {P:Program} {n:Nat} {o:Oper} {ρ:Env} {w:World} {K K':Value→World→Prop} (h:CX P n o ρ w K) (k:∀ u w',K u w'→K' u w'):CX P n o ρ w K':=by
  rcases h with ⟨u,w',h1,h2⟩ | ⟨w',h1,h2⟩ | ⟨f,args,w',h1,h2⟩ | ⟨row,args,w',h1,h2⟩
  · exact .inl ⟨u,w',h1,k _ _ h2⟩
  · exact .inr (.inl ⟨w',h1,k _ _ h2⟩)
  · exact .inr (.inr (.inl ⟨f,args,w',h1,h2.mono k⟩))
  · exact .inr (.inr (.inr ⟨row,args,w',h1,Rows.mono h2 k⟩))
theorem kept.ext [DM] {a:List Nat} {w w':World} (x:Ext w w'):∀ {L:List (Nat×PH)},kept a w L→kept a w' L
  | [],_=>trivial
  | (_,_) :: _,⟨h1,h2⟩=>⟨h1.imp id fun e=>e.ext x,h2.ext x⟩
section
variable {P:Program} {n:Nat} {ops:Array Oper} {anc:List (List Nat)} {src:List (List (Nat×Option Nat))} {ρ0:Env} {E:Asg→World→Prop}
theorem GT.congr [DM] (hE:∀ A A' w,look A=look A'→E A w→E A' w):∀ {m:Nat} {U:List Nat} {A A':Asg} {L:List (Nat×PH)} {w:World},look A=look A'→GT P n ops anc src ρ0 E m U A L w→GT P n ops anc src ρ0 E m U A' L w
  | 0,U,A,A',L,w,h,⟨h1,h2⟩=>⟨h1,fun w' x=>hE A A' w' h (h2 w' x)⟩
  | m+1,U,A,A',L,w,h,hg=>by
    have hgo:∀ o,gOn A o=gOn A' o:=fun o=>gOn_congr fun j b _=>congrFun h j
    have hc:∀ i v,look ((i,v) :: A)=look ((i,v) :: A'):=fun i v=>by
      funext j; show (if _ then _ else look A j)=(if _ then _ else look A' j); rw [h]
    rcases hg with ⟨i,o,ho,hk,h1⟩ | ⟨H,hH,h1⟩
    · refine .inl ⟨i,o,ho,hk,?_⟩
      rcases h1 with ⟨g,h1⟩ | ⟨g,v,hs,h1,h2,h3⟩
      · exact .inl ⟨by rw [← hgo]; exact g,h1.congr hE (hc _ _)⟩
      · exact .inr ⟨by rw [← hgo]; exact g,v,hs,fun ρ w' hn=>h1 ρ w' (by rw [h]; exact hn),h2,h3.congr hE (hc _ _)⟩
    · exact .inr ⟨H,hH,fun i hi=>let ⟨o,ho,hk,g,h2⟩:=h1 i hi; ⟨o,ho,hk,by rw [← hgo]; exact g,fun ρ w' x hn=>(h2 ρ w' x (by rw [h]; exact hn)).mono fun u w'' ⟨a,b⟩=>⟨a,b.congr hE (hc _ _)⟩⟩⟩
/-- An operation that makes something. -/
structure Mkr where
  i:Nat
  l:List (Nat×Value)
  R:Value→PH→Prop
def djl (h:PH):List PH→Prop
  | []=>True
  | g :: r=>Dj h g∧djl h r
def zipA:List Mkr→List Value→Asg
  | m :: r,v :: vs=>(m.i,v) :: zipA r vs
  | _,_=>[]
end
end Go.Gv
/- Slices that the call owns whole: the row, and what its elements lead to. -/
namespace Go.Gv
open Go Go.RowKit
class Deep (α:Type) extends Enc α where
  own:PH→List Value→α→Prop
  ord:∀ {h cs x},own h cs x→rd h cs x
instance deepFlat {α:Type} [i:Flat α]:Deep α where
  own h cs x:=h=emp∧Enc.rd emp cs x
  ord:=fun ⟨e,r⟩=>by subst e; exact r
theorem un_none {h g:PH} {b:Nat}:un h g b=none↔h b=none∧g b=none:=by unfold un; cases h b <;> simp
theorem un_emp (h:PH):un h emp=h:=by funext b; unfold un emp; cases h b <;> rfl
theorem emp_un (h:PH):un emp h=h:=by funext b; rfl
theorem un_assoc (a b c:PH):un (un a b) c=un a (un b c):=by funext k; unfold un; cases a k <;> rfl
theorem Dj.comm {h g:PH} (d:Dj h g):un h g=un g h:=by
  funext b; unfold un
  rcases d b with e | e <;> rw [e]
  · cases g b <;> rfl
  · cases h b <;> rfl
theorem Dj.un_r {h a b:PH} (x:Dj h a) (y:Dj h b):Dj h (un a b):=fun k=>by
  rcases x k with e | e
  · exact .inl e
  · rcases y k with e' | e'
    · exact .inl e'
    · exact .inr (un_none.2 ⟨e,e'⟩)
theorem Dj.un_l {h a b:PH} (x:Dj a h) (y:Dj b h):Dj (un a b) h:=(Dj.un_r x.symm y.symm).symm
theorem Dj.of_l {h a b:PH} (x:Dj h (un a b)):Dj h a:=fun k=>(x k).imp id fun e=>(un_none.1 e).1
theorem Dj.of_r {h a b:PH} (x:Dj h (un a b)):Dj h b:=fun k=>(x k).imp id fun e=>(un_none.1 e).2
theorem Dj.emp_r (h:PH):Dj h emp:=fun _ => .inr rfl
theorem Dj.emp_l (h:PH):Dj emp h:=fun _ => .inl rfl
theorem Le.un_r {h g:PH} (d:Dj h g):Le g (un h g):=fun b o e=>by
  unfold un
  rcases d b with x | x
  · rw [x]; exact e
  · rw [x] at e; cases e
theorem Sub.le {h g:PH} {w:World} (e:Sub g w) (l:Le h g):Sub h w:=fun b o x=>e b o (l b o x)
/-- Where h ends, h' ends. -/
def Dom (h h':PH):Prop:=∀ b,h b=none→h' b=none
theorem Dom.refl (h:PH):Dom h h:=fun _ x=>x
theorem Dom.of_le {h h':PH} (l:Le h' h):Dom h h':=fun b e=>by
  cases hb:h' b with
  | none=>rfl
  | some o=>rw [l b o hb] at e; cases e
theorem Dom.of {h h':PH} (d:∀ n,DomLe h n h'):Dom h h':=fun b e=>d (b+1) b e (Nat.lt_succ_self b)
theorem Dom.le {h h':PH} (d:Dom h h') (n:Nat):DomLe h n h':=fun b e _=>d b e
theorem Dom.trans {h h' h'':PH} (d:Dom h h') (e:Dom h' h''):Dom h h'':=fun b x=>e b (d b x)
theorem Dom.dj {h h' q:PH} (d:Dom h h') (j:Dj h q):Dj h' q:=fun b=>(j b).imp (d b) id
theorem Dom.un {a a' b b':PH} (x:Dom a a') (y:Dom b b'):Dom (un a b) (un a' b'):=fun k e=>un_none.2 ⟨x k (un_none.1 e).1,y k (un_none.1 e).2⟩
theorem Dom.l (a b:PH):Dom (Gv.un a b) a:=fun _ e=>(un_none.1 e).1
theorem Dom.r (a b:PH):Dom (Gv.un a b) b:=fun _ e=>(un_none.1 e).2
theorem But.dom [DM] {h h':PH} {w w':World} (x:But h w w') (d:Dom h' h):But h' w w':=⟨x.os,x.tape,x.output,x.size,fun k hk e=>x.block k hk (d k e),x.drawn⟩
theorem DomLe.dom {a b c:PH} {n:Nat} (x:Dom a b) (y:DomLe b n c):DomLe a n c:=fun k e hk=>y k (x k e) hk
theorem Fresh.un {n:Nat} {a b:PH} (x:Fresh n a) (y:Fresh n b):Fresh n (un a b):=fun k hk=>un_none.2 ⟨x k hk,y k hk⟩
def ownL {α:Type} [Deep α]:PH→List Value→List α→Prop
  | r,cells,[]=>cells=[]∧r=emp
  | r,cells,x :: xs=>∃ c cr h1 h2,cells=c++cr∧r=un h1 h2∧Dj h1 h2∧Deep.own h1 c x∧ownL h2 cr xs
/-- v is a slice whose row, and all that its elements lead to, h holds: each part apart from the others. -/
def OD {α:Type} [Deep α] (h:PH) (v:Value) (xs:List α):Prop :=
  ∃ cells hr r,OwnC 0 (Enc.n α) hr v xs.length cells∧h=un hr r∧Dj hr r∧ownL r cells xs
section
variable {α:Type} [Deep α] {h r:PH} {v:Value} {xs ys:List α} {cells:List Value}
theorem ownL.rd (o:ownL r cells xs):rdL r cells xs:=by
  induction xs generalizing r cells with
  | nil=>exact o.1
  | cons x xs ih =>
    obtain ⟨c,cr,h1,h2,rfl,rfl,d,hx,ho⟩:=o
    exact ⟨c,cr,rfl,Enc.le (Le.un_left _ _) (Deep.ord hx),(ih ho).le (Le.un_r d)⟩
theorem ownL.append {q:PH} {c2:List Value} (o:ownL r cells xs) (p:ownL q c2 ys) (d:Dj r q):ownL (un r q) (cells++c2) (xs++ys):=by
  induction xs generalizing r cells with
  | nil=>obtain ⟨rfl,rfl⟩:=o; rw [emp_un]; exact p
  | cons x xs ih =>
    obtain ⟨c,cr,h1,h2,rfl,rfl,d',hx,ho⟩:=o
    have d1:Dj h1 q:=d.symm.of_l.symm
    have d2:Dj h2 q:=d.symm.of_r.symm
    exact ⟨c,cr++c2,h1,un h2 q,by simp,un_assoc _ _ _,d'.un_r d1,hx,ih ho d2⟩
/-- One element taken out, another put in its place. -/
theorem ownL.split (o:ownL r cells xs) (i:Nat) (x:α) (hx:xs[i]?=some x) :
    ∃ hi rest c,r=un hi rest∧Dj hi rest∧Deep.own hi c x∧(cells.drop (i * Enc.n α)).take (Enc.n α)=c ∧
      ∀ hi' c' x',Deep.own hi' c' x'→Dj hi' rest→ownL (un hi' rest) (spl cells (i * Enc.n α) c') (xs.set i x'):=by
  induction xs generalizing r cells i with
  | nil=>simp at hx
  | cons y xs ih =>
    obtain ⟨c,cr,h1,h2,rfl,rfl,d,hy,ho⟩:=o
    have hl:=Enc.len (Deep.ord hy)
    cases i with
    | zero =>
      simp at hx; subst hx
      refine ⟨h1,h2,c,rfl,d,hy,by simp [← hl],fun hi' c' x' hx' d'=>⟨c',cr,hi',h2,?_,rfl,d',hx',ho⟩⟩
      have:=Enc.len (Deep.ord hx')
      simp [spl,this,← hl]
    | succ i =>
      obtain ⟨hi,rest,c2,rfl,d2,h3,h4,h5⟩:=ih ho i (by simpa using hx)
      have e1:Dj hi h1:=d.of_l.symm
      have e2:Dj h1 rest:=d.of_r
      refine ⟨hi,un h1 rest,c2,?_,e1.un_r d2,h3,?_,fun hi' c' x' hx' d'=>?_⟩
      · rw [← un_assoc,← un_assoc,d.of_l.comm]
      · rw [Nat.succ_mul,Nat.add_comm,← List.drop_drop]
        have:List.drop (Enc.n α) (c++cr)=cr:=by rw [← hl]; simp
        rw [this]; exact h4
      · have f1:Dj hi' h1:=d'.of_l
        have f2:Dj hi' rest:=d'.of_r
        refine ⟨c,spl cr (i * Enc.n α) c',h1,un hi' rest,?_,?_,f1.symm.un_r e2,hy,h5 hi' c' x' hx' f2⟩
        · simp only [spl,Nat.succ_mul]
          have g1:List.take (i * Enc.n α+Enc.n α) (c++cr)=c++List.take (i * Enc.n α) cr:=by
            rw [List.take_append,hl,List.take_of_length_le (by omega)]
            congr 2; omega
          have g2:List.drop (i * Enc.n α+Enc.n α+c'.length) (c++cr)=List.drop (i * Enc.n α+c'.length) cr:=by
            rw [List.drop_append,hl,List.drop_eq_nil_of_le (by omega),List.nil_append]
            congr 1; omega
          rw [g1,g2]; simp
        · rw [← un_assoc,← un_assoc,f1.comm]
theorem ownL.replicate (m:Nat) {c:List Value} {x:α} (hc:Deep.own emp c x):ownL emp ((List.replicate m c).flatten) (List.replicate m x):=by
  induction m with
  | zero=>exact ⟨rfl,rfl⟩
  | succ m ih=>exact ⟨c,(List.replicate m c).flatten,emp,emp,by simp [List.replicate_succ],(emp_un emp).symm,Dj.emp_l _,hc,ih⟩
theorem OD.os (o:OD h v xs):∃ hr r,h=un hr r∧Dj hr r∧OS 0 hr r v xs :=
  let ⟨cells,hr,r,h1,h2,h3,h4⟩:=o; ⟨hr,r,h2,h3,cells,h1,h4.rd⟩
theorem OD.readf (o:OD h v xs):RS h v xs:=by
  obtain ⟨hr,r,rfl,d,o⟩:=o.os
  exact o.read (Le.un_left _ _) (Le.un_r d)
theorem OD.shape (o:OD h v xs):∃ a cap,v = .slice a xs.length cap:=let ⟨_,_,_,h,_⟩:=o; h.shape
theorem OD.nil:OD emp (.slice none 0 0) ([]:List α):=⟨[],emp,emp,⟨by simp,.inl ⟨rfl,rfl,rfl⟩⟩,(emp_un _).symm,Dj.emp_l _,rfl,rfl⟩
instance:Deep (List α) where
  own h cs xs:=∃ v,cs=[v]∧OD h v xs
  ord:=fun ⟨v,h,o⟩=>⟨v,h,o.readf⟩
end
/-- The element i, apart from the rest: what is written to it turns the whole. -/
structure Bw {α:Type} [Deep α] (h:PH) (v:Value) (xs:List α) (i:Nat) (hi rest:PH) (c:List Value) (x:α):Prop where
  eq:h=un hi rest
  dj:Dj hi rest
  own:Deep.own hi c x
  put:∀ hi' x',Deep.own hi' c x'→Dj hi' rest→OD (un hi' rest) v (xs.set i x')
  lt:i<xs.length
  cell:∀ a,v.ownBlock=some a→rdAt rest ⟨a,i * Enc.n α,none⟩ c
section
variable {α:Type} [Deep α] {h:PH} {v:Value} {xs:List α}
theorem OD.borrow (o:OD h v xs) (i:Nat) (x:α) (hx:xs[i]?=some x):∃ hi rest c a,Bw h v xs i hi rest c x∧v.ownBlock=some a∧rdAt h ⟨a,i * Enc.n α,none⟩ c:=by
  obtain ⟨cells,hr,r,⟨hcl,oc⟩,rfl,d,ho⟩:=o
  have hi:i<xs.length:=(List.getElem?_eq_some_iff.1 hx).1
  rcases oc with ⟨rfl,h0,rfl⟩ | ⟨b,cap,cur,E',rfl,rfl,hc,hm,hs,ht⟩
  · omega
  obtain ⟨hi',rest,c,rfl,d2,hx',hcc,hput⟩:=ho.split i x hx
  have dl:=d.of_l
  have dr:=d.of_r
  have hlc:=Enc.len (Deep.ord hx')
  have hcell:rdAt (single b (.cells cur E' (0,0))) ⟨b,i * Enc.n α,none⟩ c:=fun j u hj=>by
    have hjl:j<c.length:=(List.getElem?_eq_some_iff.1 hj).1
    have hn:i * Enc.n α+Enc.n α≤xs.length * Enc.n α:=by
      have:=Nat.mul_le_mul_right (Enc.n α) (Nat.succ_le_of_lt hi); rwa [Nat.succ_mul] at this
    rw [addr_at]
    simp only [cellH,single,if_true,Option.isSome_none,Bool.false_eq_true,if_false]
    rw [← hcc,List.getElem?_take,if_pos (by omega),List.getElem?_drop,← ht,List.getElem?_take,if_pos (by omega)] at hj
    rw [← Array.getElem?_toList]; exact hj
  refine ⟨hi',un (single b (.cells cur E' (0,0))) rest,c,b,⟨?_,dl.symm.un_r d2,hx',fun hi2 x2 hx2 dd=>?_,hi,fun a' ha'=>by cases ha'; exact rdAt.le (Le.un_left _ _) hcell⟩,rfl,rdAt.le (Le.un_left _ _) hcell⟩
  · rw [← un_assoc,← un_assoc,dl.comm]
  · have h1:=hput hi2 c x2 hx2 dd.of_r
    have hsame:spl cells (i * Enc.n α) c=cells:=by
      unfold spl
      rw [← hcc,List.length_take,List.length_drop]
      have hn:i * Enc.n α+Enc.n α≤xs.length * Enc.n α:=by
        have:=Nat.mul_le_mul_right (Enc.n α) (Nat.succ_le_of_lt hi); rwa [Nat.succ_mul] at this
      rw [show min (Enc.n α) (cells.length-i * Enc.n α)=Enc.n α from by omega,List.append_assoc,← List.drop_drop,List.take_append_drop,List.take_append_drop]
    rw [hsame] at h1
    refine ⟨cells,single b (.cells cur E' (0,0)),un hi2 rest,⟨by simpa using hcl,.inr ⟨b,cap,cur,E',by simp,rfl,by simpa using hc,hm,hs,by simpa using ht⟩⟩,?_,dd.of_l.symm.un_r dr,h1⟩
    rw [← un_assoc,← un_assoc,dd.of_l.comm]
end
section
variable {β:Type} [Flat β] {h r:PH} {v:Value} {xs:List β}
theorem ownL.flat {cells:List Value} (o:ownL r cells xs):r=emp∧rdL emp cells xs:=by
  induction xs generalizing r cells with
  | nil=>exact ⟨o.2,o.1⟩
  | cons x xs ih =>
    obtain ⟨c,cr,h1,h2,rfl,rfl,d,⟨rfl,hx⟩,ho⟩:=o
    obtain ⟨rfl,h3⟩:=ih ho
    exact ⟨emp_un _,c,cr,rfl,hx,h3⟩
theorem rdL.ownL {cells:List Value} (o:rdL emp cells xs):ownL emp cells xs:=by
  induction xs generalizing cells with
  | nil=>exact ⟨o,rfl⟩
  | cons x xs ih =>
    obtain ⟨c,cr,rfl,hx,ho⟩:=o
    exact ⟨c,cr,emp,emp,rfl,(emp_un _).symm,Dj.emp_l _,⟨rfl,hx⟩,ih ho⟩
theorem OD.flat (o:OD h v xs):OS 0 h emp v xs:=by
  obtain ⟨cells,hr,r,h1,rfl,d,ho⟩:=o
  obtain ⟨rfl,h3⟩:=ho.flat
  rw [un_emp]; exact ⟨cells,h1,h3⟩
theorem OS.od (o:OS 0 h emp v xs):OD h v xs:=by
  obtain ⟨cells,h1,h2⟩:=o
  exact ⟨cells,h,emp,h1,(un_emp _).symm,Dj.emp_r _,h2.ownL⟩
end
section
variable {P:Program} {n:Nat} {ρ:Env} {w:World} {ops:Array Oper} {Q:Exit→Act→World→Prop}
/-- What a store of something owned does at this address. -/
def WAddrD [DM] {α:Type} [Deep α] (P:Program) (E:TypeId) (h:PH) (v:Value) (xs:List α) (i:Nat) (ad:Addr):Prop :=
  ∀ (y:α) (u:Value) (c:List Value) (w:World) (q:PH),Deep.own q c y→u=vOf (Enc.agg α) c→Sub h w→Sub q w→Dj h q →
    ∃ w' h' hw,(Instr.storeAt E (.pointer (some ad)) u).run P w = .ok () w'∧OD h' v (xs.set i y)∧Sub h' w'∧But hw w w'∧Dom h hw∧Dom (un h q) h'∧Sub q w'
theorem vOf_cells {α:Type} [Enc α] {h:PH} {cs:List Value} {x:α} (h1:Enc.rd h cs x):(vOf (Enc.agg α) cs).cells.toList=cs:=by
  have hcs:=Enc.len h1
  have hone:=Enc.one h1
  cases ha:Enc.agg α
  · have h2:=Enc.sing (α:=α) ha
    match cs,hcs with
    | [c],_ =>
      have:=hone c (by simp)
      cases c <;> first | rfl | (simp [Value.oneCell'] at this)
    | [],hcs=>simp at hcs; omega
    | _ :: _ :: _,hcs=>simp at hcs; omega
  · rfl
theorem run_indexd [DM] {α:Type} [Deep α] {t E:TypeId} {bytes:Nat} {z:Value} {h:PH} {v:Value} {xs:List α} (hu:P.underlying t=some (.slice E)) (hi:TyI P E (Enc.n α) bytes z)
    (o:OD h v xs) (i:Int) (h0:0≤i) (hl:i.toNat<xs.length) :
    ∃ ad,(∀ w,(Instr.indexAt t v (I i)).run P w = .ok (.pointer (some ad)) w)∧WAddrD P E h v xs i.toNat ad:=by
  obtain ⟨cells,hr,r,⟨hcl,oc⟩,rfl,d,hol⟩:=o
  rcases oc with ⟨rfl,h1,rfl⟩ | ⟨b,cap,cur,E',rfl,rfl,hc,hm,hs,ht⟩
  · omega
  · obtain ⟨inf,hinf,hsz,_⟩:=hi.ok
    refine ⟨⟨b,i.toNat * Enc.n α,none⟩,fun w=>?_,fun y u c w q hq hu' e eq dq=>?_⟩
    · have hb:0≤i∧i<(xs.length:Int):=⟨h0,by omega⟩
      have ha:=addr_at b 0 (i.toNat * Enc.n α)
      rw [Nat.zero_add] at ha
      simp [Instr.indexAt,asIntOf,run_underlying hu,hb,sizeOf,typeInfo,hinf,hsz,ha]
    · subst hu'
      generalize i.toNat=j at hl
      have hcs:=Enc.len (Deep.ord hq)
      have hone:=Enc.one (Deep.ord hq)
      have hvc:=vOf_cells (Deep.ord hq)
      obtain ⟨hi',rest,c0,rfl,d2,hx',hcc,hput⟩:=hol.split j xs[j] (by simp [hl])
      have eb:Sub (single b (.cells cur E' (0,0))) w:=e.le (Le.un_left _ _)
      have er:Sub rest w:=(e.le (Le.un_r d)).le (Le.un_r d2)
      have dbr:Dj (single b (.cells cur E' (0,0))) rest:=d.of_r
      have dbq:Dj (single b (.cells cur E' (0,0))) q:=dq.symm.of_l.symm
      have dqr:Dj q rest:=dq.symm.of_r.of_r
      have hn:j * Enc.n α+Enc.n α≤xs.length * Enc.n α:=by
        have:=Nat.mul_le_mul_right (Enc.n α) (Nat.succ_le_of_lt hl); rwa [Nat.succ_mul] at this
      have hcap:xs.length * Enc.n α≤cap * Enc.n α:=Nat.mul_le_mul_right _ hc
      have hr:=run_store_row (P:=P) (w:=w) (off:=j * Enc.n α) hi hvc hcs hone (single_sub.1 eb) (by rw [hs,hcs]; omega)
      have hbut:But (single b (.cells cur E' (0,0))) w (w.setRow b (spl cur.toList (j * Enc.n α) c).toArray):=setRow_but _ _ _
      have hput':=hput q c y hq dqr
      have dbx:∀ o',Dj (single b o') (un q rest):=fun o'=>(Dj.un_r dbq dbr).box
      have eq':=eq.but hbut dbq
      refine ⟨_,un (single b (.cells (spl cur.toList (j * Enc.n α) c).toArray E' (0,0))) (un q rest),single b (.cells cur E' (0,0)),hr,⟨spl cells (j * Enc.n α) c,_,_,⟨?_,.inr ⟨b,cap,_,E',by simp,rfl,by simpa using hc,hm,?_,?_⟩⟩,rfl,dbx _,hput'⟩,
        (setRow_sub (single_sub.1 eb)).un (eq'.un (er.but hbut dbr)),hbut,Dom.l _ _,fun k hk=>?_,eq'⟩
      · simp only [spl,List.length_append,List.length_take,List.length_drop,List.length_set,hcl,hcs]; omega
      · simp only [spl,List.size_toArray,List.length_append,List.length_take,List.length_drop,Array.length_toList,hcs]; omega
      · rw [List.length_set,← ht]
        have hsz:xs.length * Enc.n α≤cur.toList.length:=by have:=Array.length_toList (xs:=cur); omega
        have h2:=spl_append (cur.toList.take (xs.length * Enc.n α)) (cur.toList.drop (xs.length * Enc.n α)) (j * Enc.n α) c (by rw [List.length_take,hcs]; omega)
        rw [List.take_append_drop] at h2
        rw [h2,List.take_append_of_le_length (by simp only [spl,List.length_append,List.length_take,List.length_drop,hcs]; omega),List.take_of_length_le]
        simp only [spl,List.length_append,List.length_take,List.length_drop,hcs]; omega
      · obtain ⟨h1,h2⟩:=un_none.1 hk
        obtain ⟨h3,h4⟩:=un_none.1 h1
        exact un_none.2 ⟨by unfold single at h3 ⊢; split at h3 <;> simp_all,un_none.2 ⟨h2,(un_none.1 h4).2⟩⟩
theorem LP_indexd [DM] {α:Type} [Deep α] {t E:TypeId} {bytes:Nat} {z:Value} {h:PH} {v:Value} {xs:List α} {o:Oper} {x y:Operand} (k:Nat)
    (at0:At n ops ρ k o (.indexAddr t x y)) (hu:P.underlying t=some (.slice E)) (hi:TyI P E (Enc.n α) bytes z)
    (hx:opd n ρ x=v) {i:Int} (hy:opd n ρ y=I i) (os:OD h v xs) (h0:0≤i) (hl:i.toNat<xs.length)
    (H:∀ ad,WAddrD P E h v xs i.toNat ad→LP P n ops Q (k+1) (updO ρ o.dst (.pointer (some ad))) w):LP P n ops Q k ρ w:=by
  obtain ⟨ad,h1,h2⟩:=run_indexd hu hi os i h0 hl
  exact LP_val k o at0.o at0.g (ex_index at0.op hx hy (h1 _)) (H ad h2)
/-- append of what is owned: xs and ys (another owned slice, given up). -/
theorem run_appendD [DM] {α:Type} [Deep α] {t E ty:TypeId} {bytes:Nat} {z:Value} {h q:PH} {v u:Value} {xs ys:List α} (hu:P.underlying t=some (.slice E)) (hi:TyI P E (Enc.n α) bytes z) (hp:0<Enc.n α)
    (os:OD h v xs) (e:Sub h w) (oy:OD q u ys) (eq:Sub q w) (d:Dj h q) (hm:ln xs+ln ys≤140737488355328) (hb:(ln xs+ln ys) * bytes≤140737488355328) :
    ∃ v' w' h' hw,(Builtin.append_ #[t,t] ty #[v,u]).run P w = .ok v' w'∧OD h' v' (xs++ys)∧Sub h' w'∧But hw w w'∧Dom h hw∧DomLe (un h q) w.heap.size h':=by
  obtain ⟨cells,hr,r,o,rfl,d1,ho⟩:=os
  obtain ⟨news,qr,s,o2,rfl,d2,hn⟩:=oy
  have hb':(xs.length+ys.length) * bytes≤140737488355328:=by
    have h:(((xs.length+ys.length) * bytes:Nat):Int)≤140737488355328:=by
      rw [Int.natCast_mul,Int.natCast_add]; exact hb
    omega
  have rs:RS (un qr s) u ys:=OD.readf ⟨news,qr,s,o2,rfl,d2,hn⟩
  have hat:∃ a cap,u = .slice a ys.length cap∧(a=none→ys.length=0)∧∀ ad,a=some ad→∀ j c,news[j]?=some c→w.cell? (ad.add j)=some c:=by
    obtain ⟨hl2,o2⟩:=o2
    rcases o2 with ⟨rfl,h0,rfl⟩ | ⟨b,cap,cur,E',rfl,rfl,hc,hm2,hs,ht⟩
    · exact ⟨none,0,by rw [h0],fun _=>h0,fun ad h=>by cases h⟩
    · refine ⟨some ⟨b,0,none⟩,cap,rfl,(fun h=>by cases h),fun ad hh j c hj=>?_⟩
      cases hh
      have hw:=single_sub.1 (eq.le (Le.un_left _ _))
      rw [addr_at,cell_of_row w b _ cur E' _ hw,Nat.zero_add]
      have hjl:j<ys.length * Enc.n α:=by
        have:=(List.getElem?_eq_some_iff.1 hj).1; rw [hl2] at this; exact this
      rw [← ht,List.getElem?_take,if_pos hjl] at hj
      rw [← Array.getElem?_toList]; exact hj
  obtain ⟨a,cap,rfl,hnil,hcell⟩:=hat
  obtain ⟨v',w',h',h1,h2,h3,h4,h5⟩:=run_append_OwnC (ty:=ty) hu hi hp o (e.le (Le.un_left _ _)) a ys.length cap news (hn.rd.length) hnil hcell hn.rd.one (by simp only [maxLen]; simp only [ln] at hm; omega) hb'
  have drs:Dj r s:=d.symm.of_r.symm.of_r
  have dhs:Dj hr s:=d.symm.of_l.symm.of_r
  have er:Sub r w:=e.le (Le.un_r d1)
  have es:Sub s w:=eq.le (Le.un_r d2)
  have ers:Sub (un r s) w:=er.un es
  have er':Sub (un r s) w':=ers.but h4 (d1.un_r dhs)
  refine ⟨v',w',un h' (un r s),hr,h1,⟨_,h',un r s,by rw [List.length_append]; exact h2,rfl,h5.dj (d1.un_r dhs) ers,ho.append hn drs⟩,h3.un er',h4,Dom.l _ _,fun k hk hlt=>?_⟩
  obtain ⟨k1,k2⟩:=un_none.1 hk
  obtain ⟨k3,k4⟩:=un_none.1 k1
  exact un_none.2 ⟨h5 k k3 hlt,un_none.2 ⟨k4,(un_none.1 k2).2⟩⟩
theorem LP_appendD [DM] {α:Type} [Deep α] {t E:TypeId} {bytes:Nat} {z:Value} {h q:PH} {v u:Value} {xs ys:List α} {o:Oper} {s x:Operand} (k:Nat)
    (at0:At n ops ρ k o (.call ⟨.builtin .append,⟨[s,x]⟩,⟨[t,t]⟩⟩)) (hu:P.underlying t=some (.slice E)) (hi:TyI P E (Enc.n α) bytes z) (hp:Nat.blt 0 (Enc.n α)=true)
    (hs:opd n ρ s=v) (hx:opd n ρ x=u) (os:OD h v xs) (e:Sub h w) (oy:OD q u ys) (eq:Sub q w) (d:Dj h q)
    (hm:ln xs+ln ys≤140737488355328) (hb:(ln xs+ln ys) * bytes≤140737488355328)
    (H:∀ h' v' w' hw,OD h' v' (xs++ys)→Sub h' w'→But hw w w'→Dom h hw→DomLe (un h q) w.heap.size h'→LP P n ops Q (k+1) (updO ρ o.dst v') w'):LP P n ops Q k ρ w:=by
  obtain ⟨v',w',h',hw,h1,h2,h3,h4,h5,h6⟩:=run_appendD (ty:=o.type) hu hi (by simp [Nat.blt] at hp; omega) os e oy eq d hm hb
  exact LP_val k o at0.o at0.g (ex_append at0.op hs hx h1) (H h' v' w' hw h2 h3 h4 h5 h6)
/-- Owned parts, one for each element. -/
def RVO {α:Type} [Deep α] (h:PH) (v:Value) (x:α):Prop:=∃ cs,Deep.own h cs x∧v=vOf (Enc.agg α) cs
def allO {α:Type} [Deep α]:PH→List Value→List α→Prop
  | h,[],[]=>h=emp
  | h,v :: vs,x :: xs=>∃ h1 h2,h=un h1 h2∧Dj h1 h2∧RVO h1 v x∧allO h2 vs xs
  | _,_,_=>False
theorem RVO.cells {α:Type} [Deep α] {h:PH} {v:Value} {x:α} (r:RVO h v x):Deep.own h v.cells.toList x:=by
  obtain ⟨cs,o,rfl⟩:=r; rw [vOf_cells (Deep.ord o)]; exact o
theorem allO.ownL {α:Type} [Deep α]:∀ {h:PH} {vs:List Value} {xs:List α},allO h vs xs→ownL h (vs.flatMap (·.cells.toList)) xs∧(∀ v∈vs,v.cells.size=Enc.n α)∧vs.length=xs.length
  | h,[],[],e=>⟨⟨rfl,e⟩,by simp,rfl⟩
  | _,[],_ :: _,h=>h.elim
  | _,_ :: _,[],h=>h.elim
  | h,v :: vs,x :: xs,⟨h1,h2,e,d,r,a⟩=>by
    obtain ⟨o,b,c⟩:=a.ownL
    refine ⟨⟨_,_,h1,h2,rfl,e,d,r.cells,o⟩,fun u hu=>?_,by simp [c]⟩
    rcases List.mem_cons.1 hu with rfl | hu
    · rw [← Array.length_toList]; exact Enc.len (Deep.ord r.cells)
    · exact b u hu
theorem allO.one {α:Type} [Deep α] {h:PH} {v:Value} {x:α} (r:RVO h v x):allO h [v] [x]:=⟨h,emp,(un_emp _).symm,Dj.emp_r _,r,rfl⟩
theorem LP_litD [DM] {α:Type} [Deep α] {t E:TypeId} {bytes len:Nat} {z:Value} {parts:Array (Nat×Operand)} {vs:List Value} {xs:List α} {g:PH} {o:Oper} (k:Nat)
    (at0:At n ops ρ k o (.buildSlice t len parts)) (hu:P.underlying t=some (.slice E)) (hi:TyI P E (Enc.n α) bytes z)
    (hp:parts.toList.map (fun p=>(p.1,opd n ρ p.2))=vs.zipIdx.map fun p=>(p.2,p.1)) (hl:vs.length=len) (hv:allO g vs xs) (eg:Sub g w) (hs:Nat.ble (len * Enc.n α) 16777216=true) (hm:Nat.ble len 140737488355328=true)
    (H:∀ h v w',Ext w w'→OD h v xs→Sub h w'→DomLe g w.heap.size h→LP P n ops Q (k+1) (updO ρ o.dst v) w'):LP P n ops Q k ρ w:=by
  obtain ⟨inf,hinf,hsz,_,hz,hzs⟩:=hi.ok
  obtain ⟨r,hc,hlx⟩:=hv.ownL
  have hs:=Nat.le_of_ble_eq_true hs
  have hm:=Nat.le_of_ble_eq_true hm
  have hfl:(vs.flatMap (·.cells.toList)).length=len * Enc.n α:=by rw [r.rd.length,← hlx,hl]
  have hfill:=fill_all (Enc.n α) vs 0 [] ((Array.range (len * Enc.n α)).map (z.cells[· % z.cells.size]!)).toList hc (by simp) (by simp [hl])
  simp only [List.nil_append,Array.toArray_toList] at hfill
  obtain ⟨x,e,f⟩:=newRow_ok (w:=w) E (vs.flatMap (·.cells.toList)).toArray
  have dj:Dj (single w.heap.size (.cells (vs.flatMap (·.cells.toList)).toArray E (0,0))) g:=(Dj.of_fresh eg f).symm
  refine LP_val k o at0.o at0.g (v := .slice (some ⟨w.heap.size,0,none⟩) len len) (w':=w.alloc (.cells (vs.flatMap (·.cells.toList)).toArray E)) ?_
    (H _ _ _ x ⟨_,_,g,⟨by rw [r.rd.length],.inr ⟨w.heap.size,len,_,_,by rw [← hlx,hl],rfl,by rw [← hlx,hl]; exact Nat.le_refl _,by simp only [maxLen]; omega,by simp [hfl],?_⟩⟩,rfl,dj,r⟩ (e.un (eg.ext x)) fun b hb hlt=>un_none.2 ⟨f b hlt,hb⟩)
  · have hle:¬ (2 ^ 24<len * Enc.n α):=by omega
    simp only [execOp,at0.op,Sem.run_bind,Instr.buildSlice,run_underlying hu,Result.andThen_ok,sizeOf,typeInfo,run_program,hinf,Sem.run_pure,hsz]
    by_cases h0:len * Enc.n α=0
    · have hf0:=hfill
      have hz0:∀ g:Nat→Value,(Array.range 0).map g=#[]:=fun g=>by rw [Array.range_zero',Array.map_empty]
      rw [h0,hz0] at hf0
      simp [h0,hp,hz0,hf0,newRow]
    · simp [hle,h0,zeroValue,typeInfo,hinf,hz,hp,hfill,newRow]
  · refine List.take_of_length_le ?_
    have:xs.length=len:=by rw [← hlx,hl]
    rw [this]; simp only []; omega
end
end Go.Gv
/- Structures: the cells of their fields one behind the other. -/
namespace Go.Gv
open Go Go.RowKit
instance encProd {α β:Type} [Enc α] [Enc β]:Enc (α×β) where
  n:=Enc.n α+Enc.n β
  agg:=true
  rd h cs x:=∃ a b,cs=a++b∧Enc.rd h a x.1∧Enc.rd h b x.2
  len:=fun ⟨a,b,e,p,q⟩=>by subst e; rw [List.length_append,Enc.len p,Enc.len q]
  le l:=fun ⟨a,b,e,p,q⟩=>⟨a,b,e,Enc.le l p,Enc.le l q⟩
  one:=fun ⟨a,b,e,p,q⟩ c hc=>by
    subst e
    rcases List.mem_append.1 hc with hc | hc
    · exact Enc.one p c hc
    · exact Enc.one q c hc
  sing h:=by cases h
@[reducible] def Enc.via {S T:Type} [Enc T] (f:S→T):Enc S where
  n:=Enc.n T
  agg:=true
  rd h cs x:=Enc.rd h cs (f x)
  len h:=Enc.len h
  le l h:=Enc.le l h
  one h:=Enc.one h
  sing h:=by cases h
instance deepProd {α β:Type} [Deep α] [Deep β]:Deep (α×β) where
  own h cs x:=∃ a b h1 h2,cs=a++b∧h=un h1 h2∧Dj h1 h2∧Deep.own h1 a x.1∧Deep.own h2 b x.2
  ord:=fun ⟨a,b,h1,h2,e,e2,d,p,q⟩=>by
    subst e e2
    exact ⟨a,b,rfl,Enc.le (Le.un_left _ _) (Deep.ord p),Enc.le (Le.un_r d) (Deep.ord q)⟩
@[reducible] def Deep.via {S T:Type} [Deep T] (f:S→T):Deep S :=
  { Enc.via f with
    own:=fun h cs x=>Deep.own h cs (f x)
    ord:=fun h=>Deep.ord h }
section
variable {P:Program} {n:Nat} {ρ:Env} {w:World} {ops:Array Oper} {Q:Exit→Act→World→Prop} {K:Env→Prop}
/-- A part of what lies at an address. -/
theorem ex_ldpart {off t sz bytes:Nat} {z v:Value} {agg:Bool} {o:Oper} {p:Operand} {h:PH} {a:Addr} {cs:List Value} (hop:o.op = .load t p) (hi:TyI P t sz bytes z) (hA:AggT P t agg) (hs1:agg=false→sz=1)
    (hp:opd n ρ p = .pointer (some (a.add off))) (r:rdAt h a cs) (hs:a.spot=none) (e:Sub h w) (hl:((cs.drop off).take sz).length=sz) (hv:vOf agg ((cs.drop off).take sz)=v) :
    (execOp (opd n ρ) o).run P w = .ok (.value v) w:=by
  have r':rdAt h (a.add off) ((cs.drop off).take sz):=fun j c hj=>by
    rw [addr_add_add a hs]
    have hjl:j<sz:=by have:=(List.getElem?_eq_some_iff.1 hj).1; omega
    rw [List.getElem?_take,if_pos hjl,List.getElem?_drop] at hj
    exact r _ _ hj
  have:=run_loadVar hi hA hs1 h e (a.add off) _ hl r'
  subst hv
  simp only [execOp,hop,hp,Instr.loadAt,Instr.sureAddr,Sem.run_bind,Sem.run_pure,Result.andThen_ok,this]
theorem rdAt.spot {h:PH} {a:Addr} {cs:List Value} {c:Value} (r:rdAt h a (c :: cs)):a.spot=none:=by
  have:=r 0 c rfl
  rw [addr_add0] at this
  unfold cellH at this
  split at this
  · split at this
    · cases this
    · rename_i hh; simpa using hh
  · cases this
theorem LP_ldpart {off t sz bytes:Nat} {z v:Value} {agg:Bool} {o:Oper} {p:Operand} {h:PH} {a:Addr} {c:Value} {cs:List Value} (k:Nat) (at0:At n ops ρ k o (.load t p)) (hi:TyI P t sz bytes z) (hA:AggT P t agg) (hs1:agg=false→sz=1)
    (hp:opd n ρ p = .pointer (some (a.add off))) (r:rdAt h a (c :: cs)) (e:Sub h w) (hl:(((c :: cs).drop off).take sz).length=sz) (hv:vOf agg (((c :: cs).drop off).take sz)=v)
    (H:LP P n ops Q (k+1) (updO ρ o.dst v) w):LP P n ops Q k ρ w:=LP_val k o at0.o at0.g (ex_ldpart at0.op hi hA hs1 hp r r.spot e hl hv) H
theorem QP_slice [DM] {α:Type} [Enc α] {h:PH} {v:Value} {xs:List α} {t e:TypeId} {bytes:Nat} {z:Value} {o:Oper} {x:Operand} {lo up:Option Operand} {lv uv:Option Value} (k:Nat) (l u:Int)
    (at0:At n ops ρ k o (.slice t x lo up none)) (hu:P.underlying t=some (.slice e)) (hi:TyI P e (Enc.n α) bytes z)
    (hx:opd n ρ x=v) (hl:lo.map (opd n ρ)=lv) (huv:up.map (opd n ρ)=uv) (r:RS h v xs) (hlo:(lv=none∧l=0)∨lv=some (I l)) (hup:(uv=none∧u=(xs.length:Int))∨uv=some (I u))
    (h0:0≤l) (h1:l≤u) (h2:u≤(xs.length:Int))
    (H:∀ v',RS h v' ((xs.drop l.toNat).take (u.toNat-l.toNat))→QP P n ops w K (k+1) (updO ρ o.dst v')):QP P n ops w K k ρ:=by
  obtain ⟨v',h3,h4⟩:=run_slice_RS hu hi r lv uv l u hlo hup h0 h1 h2
  exact QP_val k o at0.o at0.g (fun w' _=>ex_slice at0.op hx hl huv (h3 w')) (H v' h4)
/-- A slice held against nil: only that of an empty one nothing is known. -/
theorem nil_of {α:Type} [Enc α] {h:PH} {b:Option Addr} {len cap:Nat} {xs:List α} (r:RS h (.slice b len cap) xs):b.isNone=true→xs=[]:=fun hb=>by
  rcases r with ⟨_,e⟩ | ⟨a,c,e,_⟩
  · exact e
  · cases e; cases hb
theorem run_eqnil {t e:TypeId} {b:Option Addr} {len cap:Nat} (ht:P.underlying t=some (.slice e)) (w:World):(Op.equal t (.slice b len cap) (.slice none 0 0)).run P w = .ok b.isNone w:=by
  have h:∀ (d:Nat) (b:Option Addr),(Op.equalIn (d+1) t (.slice b len cap) (.slice none 0 0)).run P w = .ok b.isNone w:=fun d b=>by
    cases b <;> simp [Op.equalIn,run_underlying ht]
  exact h 9999 b
theorem ex_eqnil {o:Oper} {t u e:TypeId} {x y:Operand} {b:Option Addr} {len cap:Nat} (hop:o.op = .binOp .eql t x y u) (ht:P.underlying t=some (.slice e)) (hx:opd n ρ x = .slice b len cap) (hy:opd n ρ y = .slice none 0 0) (w:World) :
    (execOp (opd n ρ) o).run P w = .ok (.value (.bool b.isNone)) w:=by
  simp only [execOp,hop,hx,hy,Sem.run_bind]
  simp [binOp,eqGuard,run_eqnil ht]
/-- string(b). -/
def b2s (xs:List B8):ByteArray:=xs.foldl (fun s x=>s.push (UInt8.ofNat x.v.toNat)) .empty
theorem run_b2s {src dst e:TypeId} {h:PH} {v:Value} {xs:List B8} (hs:P.underlying src=some (.slice e)) (he:P.underlying e=some (.int .u8)) (hd:P.underlying dst=some .string) (r:RS h v xs) (w:World) (e':Sub h w) :
    (convert src dst v).run P w = .ok (.string (b2s xs)) w:=by
  have hb:b2s xs=(xs.map (·.v)).foldl (fun r n=>r.push (UInt8.ofNat n.toNat)) ByteArray.empty:=by unfold b2s; rw [List.foldl_map]
  rcases r with ⟨rfl,rfl⟩ | ⟨a,cap,rfl,hc,hsp,hx⟩
  · rw [run_convert_bytes_string w src dst e _ _ _ hs he hd]; rfl
  · rw [run_convert_bytes_string w src dst e _ _ _ hs he hd,hb]
    refine run_bytesToString w a xs.length cap _ ?_
    have:=loadCells_run (P:=P) (w:=w) a (xs.map fun x=>Value.int .u8 x.v) 0 #[] fun j c hj=>by
      rw [List.getElem?_map] at hj
      obtain ⟨x,hx1,rfl⟩:=Option.map_eq_some_iff.1 hj
      obtain ⟨cs,h1,h2⟩:=hx j x hx1
      have h2:cs=[.int .u8 x.v]:=h2
      subst h2
      have h3:=h1 0 _ rfl
      rw [addr_add0,show Enc.n B8=1 from rfl,Nat.mul_one] at h3
      rw [Nat.zero_add]; exact cellH_world e' h3
    rw [List.length_map] at this
    simp only [loadCells]
    rw [this]; simp
theorem ex_b2s {o:Oper} {src dst e:TypeId} {x:Operand} {h:PH} {v:Value} {xs:List B8} (hop:o.op = .convert src dst x) (hs:P.underlying src=some (.slice e)) (he:P.underlying e=some (.int .u8)) (hd:P.underlying dst=some .string) (hx:opd n ρ x=v) (r:RS h v xs) (w:World) (e':Sub h w) :
    (execOp (opd n ρ) o).run P w = .ok (.value (.string (b2s xs))) w:=by
  simp only [execOp,hop,hx,Sem.run_bind,run_b2s hs he hd r w e']; rfl
/-- A store of something owned to an element. -/
theorem LP_setD [DM] {α:Type} [Deep α] {E:TypeId} {h q:PH} {v u:Value} {xs:List α} {i:Nat} {ad:Addr} {y:α} {o:Oper} {a x:Operand} (k:Nat)
    (at0:At n ops ρ k o (.store E a x)) (ha:opd n ρ a = .pointer (some ad)) (hx:opd n ρ x=u)
    (wa:WAddrD P E h v xs i ad) (hu:RVO q u y) (e:Sub h w) (eq:Sub q w) (d:Dj h q)
    (H:∀ h' hw w',OD h' v (xs.set i y)→Sub h' w'→But hw w w'→Dom h hw→Dom (un h q) h'→Sub q w'→LP P n ops Q (k+1) (updO ρ o.dst undef) w'):LP P n ops Q k ρ w:=by
  obtain ⟨c,hc,huc⟩:=hu
  obtain ⟨w',h',hw,h1,h2,h3,h4,h5,h6,h7⟩:=wa y u c w q hc huc e eq d
  refine LP_unit k o at0.o at0.g ?_ (H h' hw w' h2 h3 h4 h5 h6 h7)
  simp only [execOp,at0.op,ha,hx,Sem.run_bind,h1]; rfl
theorem LP_makeD [DM] {α:Type} [Deep α] {t E bytes:Nat} {z:Value} {x0:α} {o:Oper} {x:Operand} (k:Nat)
    (at0:At n ops ρ k o (.makeSlice t x x)) (hu:P.underlying t=some (.slice E)) (hi:TyI P E (Enc.n α) bytes z)
    {m:Int} (hx:opd n ρ x=I m) (hz0:Deep.own emp z.cells.toList x0) (h0:0≤m) (hb:(bytes:Int) * m≤140737488355328) (hm:m≤140737488355328)
    (H:∀ h v w',Ext w w'→OD h v (List.replicate m.toNat x0)→Sub h w'→Fresh w.heap.size h→LP P n ops Q (k+1) (updO ρ o.dst v) w'):LP P n ops Q k ρ w:=by
  obtain ⟨i,hinf,hsz,hby,hz,hzs⟩:=hi.ok
  have hr:=run_make (P:=P) w t E i z hu hinf hz .i64 .i64 m m h0 (Int.le_refl _) (by rw [hby]; omega) (by omega)
  rw [hsz] at hr
  obtain ⟨_,e',f'⟩:=newRow_ok (w:=w) E (madeCells z.cells (m.toNat * Enc.n α))
  refine LP_val k o at0.o at0.g (v := .slice (some ⟨w.heap.size,0,none⟩) m.toNat m.toNat) ?_ (H (single w.heap.size (.cells (madeCells z.cells (m.toNat * Enc.n α)) E (0,0))) _ _ (Ext.alloc _ _) ?_ e' f')
  · simp only [execOp,at0.op,hx,Sem.run_bind,hr]; rfl
  · refine ⟨(List.replicate m.toNat z.cells.toList).flatten,_,emp,⟨?_,.inr ⟨w.heap.size,m.toNat,madeCells z.cells (m.toNat * Enc.n α),E,by simp,rfl,by simp,?_,size_madeCells _ _,?_⟩⟩,(un_emp _).symm,Dj.emp_r _,ownL.replicate _ hz0⟩
    · simp [List.length_flatten,hzs]
    · simp only [maxLen]; omega
    · rw [List.length_replicate,List.take_of_length_le (by simp [size_madeCells])]
      have:=madeCells_eq z.cells m.toNat
      rw [hzs] at this; exact this
end
/-- hl holds the slice u, rest all else: what is written to the one turns the whole into mk of it. -/
structure BwG {α β:Type} [Deep α] [Deep β] (h:PH) (v:Value) (xs:List α) (hi rest:PH) (u:Value) (x:List β) (mk:List β→List α):Prop where
  eq:h=un hi rest
  dj:Dj hi rest
  od:OD hi u x
  put:∀ hi' x',OD hi' u x'→Dj hi' rest→OD (un hi' rest) v (mk x')
section
variable {α β:Type} [Deep α] [Deep β] {h hi rest:PH} {v u:Value} {xs:List α} {x:List β} {mk:List β→List α}
theorem BwG.le (b:BwG h v xs hi rest u x mk):Le hi h:=by rw [b.eq]; exact Le.un_left _ _
theorem BwG.ler (b:BwG h v xs hi rest u x mk):Le rest h:=by rw [b.eq]; exact Le.un_r b.dj
theorem BwG.dom (b:BwG h v xs hi rest u x mk):Dom h hi := .of_le b.le
theorem BwG.turn (b:BwG h v xs hi rest u x mk) {hi':PH} {x':List β} (o:OD hi' u x') (d:Dom hi hi') :
    BwG (un hi' rest) v (mk x') hi' rest u x' mk∧OD (un hi' rest) v (mk x')∧Dom h (un hi' rest):=by
  have dj:Dj hi' rest:=d.dj b.dj
  refine ⟨⟨rfl,dj,o,b.put⟩,b.put hi' x' o dj,?_⟩
  rw [b.eq]; exact Dom.un d (Dom.refl _)
theorem BwG.sub [DM] {hi':PH} {w w':World} (b:BwG h v xs hi rest u x mk) (e:Sub h w) (e':Sub hi' w') (y:But hi w w'):Sub (un hi' rest) w' :=
  e'.un ((e.le b.ler).but y b.dj)
theorem BwG.but [DM] {w w':World} (b:BwG h v xs hi rest u x mk) (y:But hi w w'):But h w w':=y.dom b.dom
end
/-- A slice within what is owned. -/
structure Fc {α β:Type} [Deep α] [Deep β] (h:PH) (c:List Value) (x:α) (hl r:PH) (u:Value) (y:List β) (mk:List β→α):Prop where
  eq:h=un hl r
  dj:Dj hl r
  od:OD hl u y
  put:∀ hl' y',OD hl' u y'→Dj hl' r→Deep.own (un hl' r) c (mk y')
section
variable {α β γ:Type} [Deep α] [Deep β] [Deep γ] {h h1 h2 hl r:PH} {u:Value} {y:List β}
theorem Fc.here (o:OD h u y):Fc h [u] y h emp u y (fun y'=>y') :=
  ⟨(un_emp _).symm,Dj.emp_r _,o,fun hl' y' o' _=>by rw [un_emp]; exact ⟨u,rfl,o'⟩⟩
theorem Fc.left {a b:List Value} {x1:α} {x2:γ} {mk:List β→α} (f:Fc h1 a x1 hl r u y mk) (o2:Deep.own h2 b x2) (d:Dj h1 h2):Fc (un h1 h2) (a++b) (x1,x2) hl (un r h2) u y (fun y'=>(mk y',x2)):=by
  obtain ⟨rfl,dj,od,put⟩:=f
  have dl:Dj hl h2:=d.symm.of_l.symm
  have dr:Dj r h2:=d.symm.of_r.symm
  refine ⟨un_assoc _ _ _,dj.un_r dl,od,fun hl' y' o' d'=>?_⟩
  rw [← un_assoc]
  exact ⟨a,b,un hl' r,h2,rfl,rfl,Dj.un_l d'.of_r dr,put hl' y' o' d'.of_l,o2⟩
theorem Fc.right {a b:List Value} {x1:γ} {x2:α} {mk:List β→α} (o1:Deep.own h1 a x1) (f:Fc h2 b x2 hl r u y mk) (d:Dj h1 h2):Fc (un h1 h2) (a++b) (x1,x2) hl (un h1 r) u y (fun y'=>(x1,mk y')):=by
  obtain ⟨rfl,dj,od,put⟩:=f
  have dl:Dj h1 hl:=d.of_l
  have dr:Dj h1 r:=d.of_r
  refine ⟨by rw [← un_assoc,← un_assoc,dl.comm],dl.symm.un_r dj,od,fun hl' y' o' d'=>?_⟩
  have e1:Dj h1 hl':=d'.of_l.symm
  rw [← un_assoc,← e1.comm,un_assoc]
  exact ⟨a,b,h1,un hl' r,rfl,rfl,e1.un_r dr,o1,put hl' y' o' d'.of_r⟩
theorem Fc.via {S T:Type} [Deep T] (f:S→T) {c:List Value} {x:S} {mk:List β→T} {mk':List β→S} (F:Fc h c (f x) hl r u y mk) (e:∀ y',f (mk' y')=mk y') : @Fc S β (Deep.via f) _ h c x hl r u y mk' :=
  @Fc.mk S β (Deep.via f) _ h c x hl r u y mk' F.eq F.dj F.od fun hl' y' o' d'=>by
    have:=F.put hl' y' o' d'
    rw [← e] at this; exact this
theorem own_flat {δ:Type} [i:Flat δ] {c:List Value} {x:δ} (o:Deep.own h c x):h=emp∧c=Flat.enc x:=⟨o.1,Flat.flat.1 o.2⟩
theorem flat_own {δ:Type} [i:Flat δ] (x:δ):Deep.own emp (Flat.enc x) x:=⟨rfl,Flat.flat.2 rfl⟩
theorem Bw.fc {v:Value} {xs:List α} {i:Nat} {hi rest:PH} {c:List Value} {x:α} {mk:List β→α} (b:Bw h v xs i hi rest c x) (f:Fc hi c x hl r u y mk):BwG h v xs hl (un r rest) u y (fun y'=>xs.set i (mk y')):=by
  obtain ⟨rfl,dj,od,put⟩:=f
  have dl:Dj hl rest:=b.dj.symm.of_l.symm
  refine ⟨by rw [b.eq,un_assoc],dj.un_r dl,od,fun hl' y' o' d'=>?_⟩
  rw [← un_assoc]
  exact b.put _ _ (put hl' y' o' d'.of_l) (Dj.un_l d'.of_r b.dj.symm.of_r.symm)
end
section
variable {P:Program} {n:Nat} {ρ:Env} {w:World} {ops:Array Oper} {Q:Exit→Act→World→Prop}
theorem LP_indexB {α:Type} [Deep α] {t E:TypeId} {bytes:Nat} {z:Value} {h:PH} {v:Value} {xs:List α} {o:Oper} {x y:Operand} (k:Nat)
    (at0:At n ops ρ k o (.indexAddr t x y)) (hu:P.underlying t=some (.slice E)) (hi:TyI P E (Enc.n α) bytes z)
    (hx:opd n ρ x=v) {i:Int} (hy:opd n ρ y=I i) (os:OD h v xs) {el:α} (h0:0≤i) (he:xs[i.toNat]?=some el)
    (H:∀ a c hi rest,rdAt h a c→Bw h v xs i.toNat hi rest c el→LP P n ops Q (k+1) (updO ρ o.dst (.pointer (some a))) w):LP P n ops Q k ρ w:=by
  obtain ⟨hi',rest,c,a,b,hb,hr⟩:=os.borrow i.toNat el he
  obtain ⟨ad,cap,rfl⟩:=os.shape
  have hlt:i.toNat<xs.length:=b.lt
  cases ad with
  | none=>simp [Value.ownBlock] at hb
  | some ad =>
    have had:ad=⟨a,0,none⟩:=by
      obtain ⟨_,hr',_,⟨_,oc⟩,_⟩:=os
      rcases oc with ⟨e,_⟩ | ⟨b',cap',cur,E',e,_⟩
      · cases e
      · cases e; cases hb; rfl
    subst had
    obtain ⟨inf,hinf,hsz,_⟩:=hi.ok
    refine LP_val k o at0.o at0.g (ex_index at0.op hx hy ?_) (H ⟨a,i.toNat * Enc.n α,none⟩ c hi' rest hr b)
    have hb:0≤i∧i<(xs.length:Int):=⟨h0,by omega⟩
    have ha:=addr_at a 0 (i.toNat * Enc.n α)
    rw [Nat.zero_add] at ha
    simp [Instr.indexAt,asIntOf,run_underlying hu,hb,sizeOf,typeInfo,hinf,hsz] at ha ⊢
    exact ha
end
end Go.Gv
/- Closures, recursion, maps, slices held against nil, a slice that is only appended to. -/
namespace Go.Gv
open Go Go.RowKit
theorem DomLe.un {h a b:PH} {n:Nat} (x:DomLe h n a) (y:DomLe h n b):DomLe h n (un a b):=fun k e hk=>un_none.2 ⟨x k e hk,y k e hk⟩
section
variable {P:Program} {T:Ty} {n:Nat} {ρ:Env} {w:World} {ops:Array Oper} {Q:Exit→Act→World→Prop} {K:Env→Prop}
theorem ex_callc {f:FuncId} {o:Oper} {x:Operand} {args:Array Operand} {tys:Array TypeId} {vals caps all:List Value} (hop:o.op = .call ⟨.value x,args,tys⟩) (hx:opd n ρ x = .func (.func f) #[] caps.toArray) (hf:Callable P f) (ha:args.toList.map (opd n ρ)=vals)
    (hc:vals++caps=all) (w:World):(execOp (opd n ρ) o).run P w = .ok (.enter f all.toArray) w:=by
  subst hc
  have:args.map (opd n ρ)=vals.toArray:=by rw [← ha]; apply Array.ext'; simp
  simp [execOp,hop,resolve,hx,Deferred.ofValue,invoke,this,hf (vals++caps).toArray w]
theorem LP_callc {f:FuncId} {o:Oper} {x:Operand} {args:Array Operand} {tys:Array TypeId} {vals caps all:List Value} {R:Value→World→Prop} (k:Nat) (ho:ops.toList[k]?=some o) (hop:o.op = .call ⟨.value x,args,tys⟩) (hx:opd n ρ x = .func (.func f) #[] caps.toArray) (hg:gd n ops ρ o=some true)
    (hf:Callable P f) (ha:args.toList.map (opd n ρ)=vals) (hc:vals++caps=all) (hR:CallsTo P f all.toArray w R) (H:∀ v w',R v w'→LP P n ops Q (k+1) (updO ρ o.dst v) w'):LP P n ops Q k ρ w :=
  LP_enter k o ho hg (ex_callc hop hx hf ha hc w) (hR.mono H)
end
end Go.Gv
/- A store to a field of an element that holds owned slices. -/
namespace Go.Gv
open Go Go.RowKit
/-- The store to a field turns an element x into y, and leaves what it leads to. -/
def FTurn {α:Type} [Deep α] (x y:α) (off:Nat) (vs:List Value):Prop:=∀ hi c,Deep.own hi c x→Deep.own hi (spl c off vs) y
/-- What a store to a field of this element does. -/
def FAddrD [DM] {α:Type} [Deep α] (P:Program) (h:PH) (v:Value) (xs:List α) (i:Nat) (x:α) (a:Addr):Prop :=
  a.spot=none∧∀ (y:α) (t sz bytes off:Nat) (z u:Value) (vs:List Value) (w:World),TyI P t sz bytes z→u.cells.toList=vs→vs.length=sz→(∀ c∈vs,c.oneCell'=true)→off+vs.length≤Enc.n α →
    FTurn x y off vs→Sub h w→∃ w' h',(Instr.storeAt t (.pointer (some (a.add off))) u).run P w = .ok () w'∧OD h' v (xs.set i y)∧Sub h' w'∧But h w w'∧∀ n,DomLe h n h'
theorem spl_spl {L vs:List Value} {p n off:Nat} (h1:p+n≤L.length) (h2:off+vs.length≤n):spl L (p+off) vs=spl L p (spl ((L.drop p).take n) off vs):=by
  have h3:=List.take_append_drop p L
  have h4:=List.take_append_drop n (L.drop p)
  have hx:((L.drop p).take n).length=n:=by rw [List.length_take,List.length_drop]; omega
  generalize (L.drop p).take n=X at h4 hx
  rw [List.drop_drop] at h4
  have h5:L=L.take p++(X++L.drop (p+n)):=by rw [h4,h3]
  have hp:(L.take p).length=p:=by rw [List.length_take]; omega
  generalize L.take p=A at h5 hp
  generalize L.drop (p+n)=B at h5
  rw [h5]
  simp only [spl,← hp]
  have e1:List.take (A.length+off) (A++(X++B))=A++List.take off X:=by
    rw [List.take_length_add_append,List.take_append_of_le_length (by omega)]
  have e2:List.drop (A.length+off+vs.length) (A++(X++B))=List.drop (off+vs.length) X++B:=by
    rw [Nat.add_assoc,List.drop_length_add_append,List.drop_append_of_le_length (by omega)]
  have e3:(List.take off X++vs++List.drop (off+vs.length) X).length=X.length:=by
    simp only [List.length_append,List.length_take,List.length_drop]; omega
  have e4:List.drop (A.length+(List.take off X++vs++List.drop (off+vs.length) X).length) (A++(X++B))=B:=by
    rw [e3,List.drop_length_add_append,List.drop_left]
  rw [e1,e2,e4,List.take_left]
  simp
theorem run_indexF [DM] {α:Type} [Deep α] {P:Program} {t E:TypeId} {bytes:Nat} {z:Value} {h:PH} {v:Value} {xs:List α} (hu:P.underlying t=some (.slice E)) (hi:TyI P E (Enc.n α) bytes z)
    (o:OD h v xs) (i:Int) (h0:0≤i) {x:α} (hx:xs[i.toNat]?=some x) :
    ∃ a,(∀ w,(Instr.indexAt t v (I i)).run P w = .ok (.pointer (some a)) w)∧FAddrD P h v xs i.toNat x a:=by
  have hl:i.toNat<xs.length:=(List.getElem?_eq_some_iff.1 hx).1
  obtain ⟨cells,hr,r,⟨hcl,oc⟩,rfl,d,hol⟩:=o
  rcases oc with ⟨rfl,h1,rfl⟩ | ⟨b,cap,cur,E',rfl,rfl,hc,hm,hs,ht⟩
  · omega
  · obtain ⟨inf,hinf,hsz,_⟩:=hi.ok
    refine ⟨⟨b,i.toNat * Enc.n α,none⟩,fun w=>?_,rfl,fun y t' sz bytes' off z' u vs w hti hv hvl hone hfit hsp e=>?_⟩
    · have hb:0≤i∧i<(xs.length:Int):=⟨h0,by omega⟩
      have ha:=addr_at b 0 (i.toNat * Enc.n α)
      rw [Nat.zero_add] at ha
      simp [Instr.indexAt,asIntOf,run_underlying hu,hb,sizeOf,typeInfo,hinf,hsz,ha]
    · generalize i.toNat=j at hl hx
      obtain ⟨hi',rest,c0,rfl,d2,hx',hcc,hput⟩:=hol.split j x hx
      have eb:Sub (single b (.cells cur E' (0,0))) w:=e.le (Le.un_left _ _)
      have er:Sub (un hi' rest) w:=e.le (Le.un_r d)
      have hn:j * Enc.n α+Enc.n α≤xs.length * Enc.n α:=by
        have:=Nat.mul_le_mul_right (Enc.n α) (Nat.succ_le_of_lt hl); rwa [Nat.succ_mul] at this
      have hcap:xs.length * Enc.n α≤cap * Enc.n α:=Nat.mul_le_mul_right _ hc
      have hr:=run_store_row (P:=P) (w:=w) (off:=j * Enc.n α+off) hti hv hvl hone (single_sub.1 eb) (by rw [hs]; omega)
      have hbut:But (single b (.cells cur E' (0,0))) w (w.setRow b (spl cur.toList (j * Enc.n α+off) vs).toArray):=setRow_but _ _ _
      have hc0:c0=(cur.toList.drop (j * Enc.n α)).take (Enc.n α):=by
        rw [← hcc,← ht,List.drop_take,List.take_take,Nat.min_eq_left (by omega)]
      have hown:=hsp hi' c0 hx'
      have hyl:=Enc.len (Deep.ord hown)
      have hspl:spl cur.toList (j * Enc.n α+off) vs=spl cur.toList (j * Enc.n α) (spl c0 off vs):=by
        rw [hc0]; exact spl_spl (by rw [Array.length_toList]; omega) hfit
      have h1:=hput hi' (spl c0 off vs) y hown d2
      have haddr:(⟨b,j * Enc.n α,none⟩:Addr).add off=⟨b,j * Enc.n α+off,none⟩:=addr_at _ _ _
      rw [haddr]
      rw [hspl] at hr hbut
      refine ⟨_,un (single b (.cells (spl cur.toList (j * Enc.n α) (spl c0 off vs)).toArray E' (0,0))) (un hi' rest),hr,⟨spl cells (j * Enc.n α) (spl c0 off vs),_,un hi' rest,⟨?_,.inr ⟨b,cap,_,E',by simp,rfl,by simpa using hc,hm,?_,?_⟩⟩,rfl,d.box,h1⟩,(setRow_sub (single_sub.1 eb)).un (er.but hbut d),hbut.dom (Dom.l _ _),fun n=>Dom.le (Dom.un (Dom.of fun _=>single_dom) (Dom.refl _)) n⟩
      · simp only [spl,List.length_append,List.length_take,List.length_drop,List.length_set] at *; omega
      · have hyl':=hyl
        generalize spl c0 off vs=q at hyl'
        simp only [spl,List.size_toArray,List.length_append,List.length_take,List.length_drop,Array.length_toList,hyl']; omega
      · rw [List.length_set,← ht]
        generalize spl c0 off vs=q at hyl
        have hcur:cur.toList.length=cap * Enc.n α:=by rw [Array.length_toList]; exact hs
        have h2:=spl_append (cur.toList.take (xs.length * Enc.n α)) (cur.toList.drop (xs.length * Enc.n α)) (j * Enc.n α) q (by rw [List.length_take,hyl]; omega)
        rw [List.take_append_drop] at h2
        rw [h2,List.take_append_of_le_length (by simp only [spl,List.length_append,List.length_take,List.length_drop,hyl]; omega),List.take_of_length_le]
        simp only [spl,List.length_append,List.length_take,List.length_drop,hyl]; omega
section
variable {P:Program} {n:Nat} {ρ:Env} {w:World} {ops:Array Oper} {Q:Exit→Act→World→Prop}
theorem LP_indexF [DM] {α:Type} [Deep α] {t E:TypeId} {bytes:Nat} {z:Value} {h:PH} {v:Value} {xs:List α} {o:Oper} {x y:Operand} (k:Nat)
    (at0:At n ops ρ k o (.indexAddr t x y)) (hu:P.underlying t=some (.slice E)) (hi:TyI P E (Enc.n α) bytes z)
    (hx:opd n ρ x=v) {i:Int} (hy:opd n ρ y=I i) (os:OD h v xs) (h0:0≤i) {el:α} (hl:xs[i.toNat]?=some el)
    (H:∀ a,FAddrD P h v xs i.toNat el a→LP P n ops Q (k+1) (updO ρ o.dst (.pointer (some a))) w):LP P n ops Q k ρ w:=by
  obtain ⟨a,h1,h2⟩:=run_indexF hu hi os i h0 hl
  exact LP_val k o at0.o at0.g (ex_index at0.op hx hy (h1 _)) (H a h2)
theorem LP_setfD [DM] {α:Type} [Deep α] {t sz bytes off:Nat} {z:Value} {h:PH} {v:Value} {xs:List α} {i:Nat} {a:Addr} {x y:α} {u:Value} {vs:List Value} {o:Oper} {p q:Operand} (k:Nat)
    (at0:At n ops ρ k o (.store t p q)) (hi:TyI P t sz bytes z) (ha:opd n ρ p = .pointer (some (a.add off))) (hx:opd n ρ q=u) (hv:u.cells.toList=vs) (hl:vs.length=sz) (hone:vs.all (·.oneCell')=true)
    (ft:FTurn x y off vs) (fa:FAddrD P h v xs i x a) (e:Sub h w) (hfit:Nat.ble (off+vs.length) (Enc.n α)=true)
    (H:∀ h' w',OD h' v (xs.set i y)→Sub h' w'→But h w w'→(∀ n,DomLe h n h')→LP P n ops Q (k+1) (updO ρ o.dst undef) w'):LP P n ops Q k ρ w:=by
  obtain ⟨w',h',h1,h2,h3,h4,h5⟩:=fa.2 y t sz bytes off z u vs w hi hv hl (fun c hc=>List.all_eq_true.1 hone c hc) (Nat.le_of_ble_eq_true hfit) ft e
  refine LP_unit k o at0.o at0.g ?_ (H h' w' h2 h3 h4 h5)
  simp only [execOp,at0.op,ha,hx,Sem.run_bind,h1]; rfl
end
theorem Dj.eqv {U t y:PH} (h:U=t) (d:Dj t y):Dj U y:=h ▸ d
theorem Dom.eqv {U t y:PH} (h:U=t) (d:Dom t y):Dom U y:=h ▸ d
theorem DomLe.eqv {U t M:PH} {n:Nat} (h:U=t) (d:DomLe M n t):DomLe M n U:=h ▸ d
theorem Fresh.eqv {U t:PH} {n:Nat} (h:U=t) (d:Fresh n t):Fresh n U:=h ▸ d
theorem bb4 {A1 A2 A3 A4 Z:Prop} (k:A1→A2→A3→A4→Z):A1∧A2∧A3∧A4→Z:=fun h=>k h.1 h.2.1 h.2.2.1 h.2.2.2
theorem bb6 {A1 A2 A3 A4 A5 A6 Z:Prop} (k:A1→A2→A3→A4→A5→A6→Z):A1∧A2∧A3∧A4∧A5∧A6→Z:=fun h=>k h.1 h.2.1 h.2.2.1 h.2.2.2.1 h.2.2.2.2.1 h.2.2.2.2.2
theorem bb7 {A1 A2 A3 A4 A5 A6 A7 Z:Prop} (k:A1→A2→A3→A4→A5→A6→A7→Z):A1∧A2∧A3∧A4∧A5∧A6∧A7→Z:=fun h=>k h.1 h.2.1 h.2.2.1 h.2.2.2.1 h.2.2.2.2.1 h.2.2.2.2.2.1 h.2.2.2.2.2.2
theorem bb8 {A1 A2 A3 A4 A5 A6 A7 A8 Z:Prop} (k:A1→A2→A3→A4→A5→A6→A7→A8→Z):A1∧A2∧A3∧A4∧A5∧A6∧A7∧A8→Z:=fun h=>k h.1 h.2.1 h.2.2.1 h.2.2.2.1 h.2.2.2.2.1 h.2.2.2.2.2.1 h.2.2.2.2.2.2.1 h.2.2.2.2.2.2.2
theorem bb9 {A1 A2 A3 A4 A5 A6 A7 A8 A9 Z:Prop} (k:A1→A2→A3→A4→A5→A6→A7→A8→A9→Z):A1∧A2∧A3∧A4∧A5∧A6∧A7∧A8∧A9→Z:=fun h=>k h.1 h.2.1 h.2.2.1 h.2.2.2.1 h.2.2.2.2.1 h.2.2.2.2.2.1 h.2.2.2.2.2.2.1 h.2.2.2.2.2.2.2.1 h.2.2.2.2.2.2.2.2
/-- A slice whose length is that of its list. -/
abbrev sl {α:Type} (a:Option Addr) (xs:List α) (c:Nat):Value := .slice a xs.length c
/-- The address of a box. -/
abbrev pb (b:Nat):Value := .pointer (some ⟨b,0,none⟩)
end Go.Gv
/- A slice taken out of a field of an element, and another put in its place. -/
namespace Go.Gv
open Go Go.RowKit
end Go.Gv
/- Arguments as they come in, read as plain data. -/
namespace Go.Gv
open Go Go.RowKit Go.ChangeShapes Go.WideShapes Go.ChangeAt
/-- All of a world's heap. -/
def pw (w:World):PH:=fun b=>w.heap[b]?
theorem pw_sub (w:World):Sub (pw w) w:=fun _ _ h=>h
theorem cellH_pw {w:World} {a:Addr} {v:Value} (h:w.cell? a=some v):cellH (pw w) a=some v:=h
class Wf (α:Type) where
  wf:α→Prop
instance:Wf Int:=⟨fun x => -9223372036854775808≤x∧x≤9223372036854775807⟩
instance:Wf Bool:=⟨fun _=>True⟩
instance:Wf ByteArray:=⟨fun x=>x.size≤maxLen⟩
instance:Wf B8:=⟨fun x=>0≤x.v∧x.v≤255⟩
instance {α:Type} [Wf α]:Wf (List α):=⟨fun xs=>xs.length≤maxLen∧∀ x∈xs,Wf.wf x⟩
structure OpnT (P:Program) (t:TypeId) (α:Type) [Enc α] [Wf α]:Prop where
  sz:P.cellsOf t=Enc.n α
  rd:∀ {H:Type} {enc:TypeId×Value→H} {w:World} {base:Nat} {spare:Nat→Bool} {held:Bool} {fuel:Nat} {cs:List Value} {x:DataW H×List MemPlace},
    DataW.trod enc P w base spare held fuel t cs=some x→∃ y:α,Enc.rd (pw w) cs y∧Wf.wf y
  shape:∀ {w:World} {r:Reach} {base:Nat} {v:Value},Value.okWide P w r base t v→v=vOf (Enc.agg α) v.cells.toList
section
variable {P:Program} {t:TypeId} {H:Type} {enc:TypeId×Value→H} {W:World} {r:Reach} {b0 base:Nat} {spare:Nat→Bool} {held:Bool} {v:Value} {d:DataW H} {ps:List MemPlace}
theorem OpnT.open {α:Type} [Enc α] [Wf α] (o:OpnT P t α) (hval:Value.okWide P W r b0 t v) (h:DataW.Trod enc P W base spare held t v d ps):∃ y:α,RV (pw W) v y∧Wf.wf y:=by
  obtain ⟨fuel,hf⟩:=h
  obtain ⟨y,h1,h2⟩:=o.rd hf
  exact ⟨y,⟨_,h1,o.shape hval⟩,h2⟩
theorem trod_lt' (h:DataW.Trod enc P W base spare held t v d ps):∀ x∈ps,x.block<W.heap.size:=by
  obtain ⟨m,hm⟩:=h; exact DataW.trod_lt m _ _ _ hm
theorem opn_int (ht:P.underlying t=some (.int .i64)) (hs:P.cellsOf t=1):OpnT P t Int where
  sz:=hs
  rd h:=by
    obtain ⟨n,rfl,_,hw⟩:=DataW.trod_int ht h
    exact ⟨n,rfl,bounds_i64 hw⟩
  shape h:=by obtain ⟨n,rfl⟩:=okWide_int ht h; rfl
theorem opn_str (ht:P.underlying t=some .string) (hs:P.cellsOf t=1):OpnT P t ByteArray where
  sz:=hs
  rd h:=by
    obtain ⟨s,rfl,_,hw⟩:=DataW.trod_string ht h
    exact ⟨s,rfl,hw⟩
  shape h:=by obtain ⟨b,rfl⟩:=okWide_string ht h; rfl
theorem list_of {α:Type} {p:Nat→α→Prop}:∀ {n:Nat},(∀ i,i<n→∃ y,p i y)→∃ ys:List α,ys.length=n∧∀ i y,ys[i]?=some y→p i y
  | 0,_=>⟨[],rfl,fun i y h=>by simp at h⟩
  | n+1,h=>by
    obtain ⟨ys,h1,h2⟩:=list_of (n:=n) fun i hi=>h i (by omega)
    obtain ⟨y,hy⟩:=h n (by omega)
    refine ⟨ys++[y],by simp [h1],fun i z hz=>?_⟩
    by_cases hi:i<n
    · rw [List.getElem?_append_left (by omega)] at hz; exact h2 i z hz
    · have hlt:=(List.getElem?_eq_some_iff.1 hz).1
      rw [List.length_append] at hlt
      simp at hlt
      have:i=ys.length:=by omega
      subst this
      rw [List.getElem?_append_right (by omega)] at hz
      simp at hz; subst hz; rw [h1]; exact hy
theorem cells_get {w:World} {base n:Nat} {a:Addr} {cs:List Value} (h:w.cells? base a n=some cs) (j:Nat) (c:Value) (hj:cs[j]?=some c):w.cell? (a.add j)=some c:=by
  unfold World.cells? at h
  split at h
  · have hlen:cs.length=n:=by simpa using mapM_some_length h
    have hjn:j<n:=by have:=(List.getElem?_eq_some_iff.1 hj).1; omega
    have:=mapM_some_get h j j (by simp [hjn])
    rw [this,hj]
  · cases h
theorem opn_slice {α:Type} [Enc α] [Wf α] {e:TypeId} (ht:P.underlying t=some (.slice e)) (hs:P.cellsOf t=1) (o:OpnT P e α) (hp:0<Enc.n α):OpnT P t (List α) where
  sz:=hs
  shape h:=by obtain ⟨a,l,c,rfl⟩:=okWide_slice ht h; rfl
  rd {H enc w base spare held fuel cs x} h:=by
    rcases DataW.trod_slice ht h with ⟨rfl,_⟩ | ⟨a,len,cap,elems,rest,n,_,rfl,_,hb,hl,hm,hlen,hel,_,_⟩
    · exact ⟨[],⟨_,rfl,.inl ⟨rfl,rfl⟩⟩,Nat.zero_le _,fun x hx=>by simp at hx⟩
    · have each:∀ i,i<len→∃ y:α,(∃ cs,rdAt (pw w) (a.add (i * Enc.n α)) cs∧Enc.rd (pw w) cs y)∧Wf.wf y:=fun i hi=>by
        have h1:=hel i hi
        have h2:elems[i]?=some elems[i]:=by simp [show i<elems.length by omega]
        rw [h2] at h1
        obtain ⟨cs,hc,ht'⟩:=Option.bind_eq_some_iff.1 h1
        obtain ⟨y,hy,hw⟩:=o.rd ht'
        rw [o.sz] at hc
        exact ⟨y,⟨cs,fun j c hj=>cellH_pw (cells_get hc j c hj),hy⟩,hw⟩
      obtain ⟨ys,h1,h2⟩:=list_of each
      refine ⟨ys,⟨_,rfl,.inr ⟨a,cap,by rw [h1],by omega,?_,fun i x hx=>(h2 i x hx).1⟩⟩,by omega,fun x hx=>?_⟩
      · cases ys with
        | nil=>exact .inl rfl
        | cons y ys =>
          right
          obtain ⟨⟨cs,hr,hd⟩,_⟩:=h2 0 y rfl
          have hcl:=Enc.len hd
          have:=hr 0 cs[0] (by simp [show 0<cs.length by omega])
          rw [Nat.zero_mul,addr_add0,addr_add0] at this
          exact World.cell?_spot (cellH_world (pw_sub w) this)
      · obtain ⟨i,hi,rfl⟩:=List.mem_iff_getElem.1 hx
        exact (h2 i ys[i] (by simp [hi])).2
theorem opn_fld {fs:Array Field} (ht:P.underlying t=some (.struct fs)) {w:World} {fuel:Nat} {cs:List Value} {x:DataW H×List MemPlace} (h:DataW.trod enc P w base spare held fuel t cs=some x) :
    cs.length=P.cellsOf t∧∀ (i:Nat) (f:Field),fs[i]?=some f→∀ (α:Type) [Enc α] [Wf α],OpnT P f.type α→∃ y:α,Enc.rd (pw w) ((cs.drop f.offset).take (Enc.n α)) y∧Wf.wf y:=by
  obtain ⟨xs,n,_,_,hl,hn,hx⟩:=DataW.trod_struct ht h
  refine ⟨hl,fun i f hf α _ _ o=>?_⟩
  have hi:i<fs.size:=(Array.getElem?_eq_some_iff.1 hf).1
  have h1:=hx i f hf
  have h2:xs[i]?=some xs[i]:=by simp [show i<xs.length by omega]
  rw [h2,o.sz] at h1
  exact o.rd h1
end
end Go.Gv
/- An owned row looked at from behind its front: what is taken off the front stays in the block. Elements that lead nowhere. -/
namespace Go.Gv
open Go Go.RowKit
end Go.Gv
/- Short names for what walks say most often. -/
namespace Go.Gv
open Go Go.RowKit
def agv (E:Env):List (Nat×Value)→List Value
  | []=>[]
  | (i,_) :: r=>E i :: agv E r
def vls:List (Nat×Value)→List Value
  | []=>[]
  | (_,v) :: r=>v :: vls r
theorem ag_of {E:Env}:∀ {l:List (Nat×Value)},agv E l=vls l→agrees E l
  | [],_=>trivial
  | (_,_) :: _,h=>⟨(List.cons.inj h).1,ag_of (List.cons.inj h).2⟩
theorem Ee {E:Env} {l:List (Nat×Value)} (h:agv E l=vls l):E=setAll l E:=env_eq (ag_of h)
def enumA:Nat→List Value→List (Nat×Value)
  | _,[]=>[]
  | k,v :: r=>(k,v) :: enumA (k+1) r
theorem enumA_ag:∀ (args pre:List Value),agrees (argEnv (pre++args)) (enumA pre.length args)
  | [],_=>trivial
  | v :: r,pre=>by
    have h:=enumA_ag r (pre++[v])
    rw [List.append_assoc,List.length_append] at h
    exact ⟨by simp [argEnv],h⟩
def resv (n:Nat) (ρ:Env):List ResultVar→Option (List Value)
  | []=>some []
  | .tmp t :: r=>match Nat.blt t n with | true=>(resv n ρ r).map (ρ t :: ·) | false=>none
  | _=>none
section
variable {P:Program} {T:Ty} {n:Nat} {N:Asn} {X:Nat→Asn} {R:Asn} {ρ:Env} {w:World} {ops:Array Oper}
theorem Wo {c:Code} (l:List (Nat×Value)) (h:agv ρ l=vls l) (H:∀ ρ,WP P n c N X R (setAll l ρ) w):WP P n c N X R ρ w:=W_forget l (ag_of h) H
theorem evList_len:∀ {r:List Oper} {ρ:Env} {l u:List (Nat×Value)},evList T n ops r ρ l=some u→r.length=l.length
  | [],_,[],_,_=>rfl
  | [],_,_ :: _,_,h=>by simp [evList] at h
  | _ :: _,_,[],_,h=>by simp [evList] at h
  | o :: r,ρ,(i,v) :: l,u,h=>by
    have key:∀ {us},evList T n ops r (upd ρ i v) l=some us→(o :: r).length=((i,v) :: l).length:=fun e=>by simp [evList_len e]
    unfold evList at h
    split at h
    · split at h
      · split at h
        · rename_i e; exact key e
        · cases h
      · split at h
        · rename_i e; exact key e
        · cases h
      · cases h
    · cases h
/-- A region, all of it at once. -/
theorem Wm {id:Nat} (ok:TyOk P T) (l:List (Nat×Value)) (h:evList T n ops ops.toList ρ l=some l) (H:N (updL ρ l) w):WP P n (.region id ops false) N X R ρ w:=by
  refine W_region (LP_ev_aux ok ops.toList 0 ρ l (fun j o hj=>by simpa using hj) h (LP_end _ ?_ H))
  rw [Nat.zero_add,← evList_len h,List.drop_length]
theorem Wl {id:Nat} (ok:TyOk P T) (l:List (Nat×Value)) (k':Nat) (h:(evList T n ops (ops.toList.take l.length) ρ l,l.length)=(some l,k')) (H:LP P n ops (pst n N X R) k' (updL ρ l) w):WP P n (.region id ops false) N X R ρ w :=
  W_region (LP_ev ok 0 l k' (by simpa using h) H)
end
theorem Rt {P:Program} {fn:Func} {n:Nat} {ρ:Env} {w:World} {vs:List Value} (h:resv n ρ fn.results.toList=some vs):Ret P fn n ρ w (tup vs):=by
  refine Ret_of vs ?_
  generalize fn.results.toList=l at h
  induction l generalizing vs with
  | nil=>cases h; trivial
  | cons a r ih =>
    cases a with
    | tmp t =>
      unfold resv at h
      split at h
      · rename_i ht
        cases hr:resv n ρ r with
        | none=>rw [hr] at h; cases h
        | some us=>rw [hr] at h; cases h; exact ⟨⟨ht,rfl⟩,ih hr⟩
      · cases h
    | cell a t=>cases h
/-- A function, entered. -/
theorem En {P:Program} {f:FuncId} {fn:Func} {c:Code} {args:List Value} {w:World} {R:Value→World→Prop} (n:Nat) (hf:P.funcs[f]?=some fn) (h:(fn.body,fn.ntmps,Nat.ble args.length n)=(some c,n,true))
    (H:∀ ρ,WP P n c (fun ρ w=>∃ v,Ret P fn n ρ w v∧R v w) (fun _ _ _=>False) (fun ρ w=>∃ v,Ret P fn n ρ w v∧R v w) (setAll (enumA 0 args) ρ) w):CallsTo P f args.toArray w R:=by
  have h1:=congrArg Prod.fst h
  have h2:=congrArg (·.2.1) h
  have h3:=congrArg (·.2.2) h
  exact enter n hf h1 h2 h3 (W_forget _ (enumA_ag args []) H)
abbrev Wg:=@W_region
abbrev Lv:=@LP_ev
abbrev Ln:=@LP_end
abbrev Wq:=@W_seq
abbrev Lb:=@LP_ldbox
abbrev Lc:=@LP_call
abbrev Lx [DM]:=@LP_stbox
abbrev Wc:=@W_cond
abbrev Wk:=@W_skip
abbrev Sd:=@single_dom
abbrev Df:=@Dj.of_fresh
abbrev Db:=@Dj.box
abbrev Dl:=@Dj.un_l
abbrev Dr:=@Dj.un_r
abbrev De:=@Dj.emp_r
abbrev Br [DM]:=@But.refl
abbrev Or:=@Dom.refl
abbrev Ot:=@Dom.trans
abbrev Mt:=@DomLe.trans
abbrev Md:=@DomLe.dom
abbrev Mu:=@DomLe.un
abbrev Mj:=@DomLe.dj
abbrev Li:=@LP_index
abbrev Lo:=@LP_load
abbrev Ly [DM]:=@LP_box
abbrev Oe:=@Dom.le
abbrev La [DM]:=@LP_alloc
end Go.Gv
/- A variable that is made at an open time beside a chain of calls: it is walked once, not at each place where it may come. -/
namespace Go.Gv
open Go Go.RowKit
theorem look_swap {A:Asg} {i j:Nat} (hij:i≠j) (u v:Value):look ((i,u) :: (j,v) :: A)=look ((j,v) :: (i,u) :: A):=by
  funext x
  show (if Nat.beq x i then u else if Nat.beq x j then v else look A x)=if Nat.beq x j then v else if Nat.beq x i then u else look A x
  cases h1:Nat.beq x i <;> cases h2:Nat.beq x j <;> simp
  exact absurd ((Nat.eq_of_beq_eq_true h1).symm.trans (Nat.eq_of_beq_eq_true h2)) hij
theorem rm_comm (U:List Nat) (i j:Nat):rm (rm U i) j=rm (rm U j) i:=by
  unfold rm; rw [List.filter_filter,List.filter_filter]; congr 1; funext x; exact Bool.and_comm _ _
def subK (w:World):List PH→Prop
  | []=>True
  | h :: l=>Sub h w∧subK w l
def djK (F:PH):List PH→Prop
  | []=>True
  | h :: l=>Dj F h∧djK F l
theorem subK.ext [DM] {w w':World} (x:Ext w w'):∀ {K:List PH},subK w K→subK w' K
  | [],_=>trivial
  | _ :: _,⟨h,r⟩=>⟨h.ext x,subK.ext x r⟩
theorem djK.fresh {w:World} {F:PH} (f:Fresh w.heap.size F):∀ {K:List PH},subK w K→djK F K
  | [],_=>trivial
  | _ :: _,⟨h,r⟩=>⟨(Dj.of_fresh h f).symm,djK.fresh f r⟩
theorem djK.emp:∀ {K:List PH},djK emp K
  | []=>trivial
  | _ :: _=>⟨Dj.emp_l _,djK.emp⟩
section
variable {P:Program} {n:Nat} {ops:Array Oper} {anc:List (List Nat)} {src:List (List (Nat×Option Nat))} {ρ0:Env} {E:Asg→World→Prop}
/-- The variable (operation a, a new block of T's zero cells z) is made at some time from now on, or has been made. K: what the chain has made and writes; B: no block of the call's own lies below. -/
structure GD [DM] (P:Program) (n:Nat) (ops:Array Oper) (anc:List (List Nat)) (src:List (List (Nat×Option Nat))) (ρ0:Env) (E:Asg→World→Prop) (a:Nat) (T:TypeId) (z:List Value) (B:Nat) (K:List PH) (m:Nat) (U:List Nat) (A:Asg) (L:List (Nat×PH)) (w:World):Prop where
  mem:a∈U
  pend:GT P n ops anc src ρ0 E (m+1) U A L w
  made:∀ w' b,Ext w w'→Sub (bx b T z) w'→djK (bx b T z) K→Fresh B (bx b T z)→GT P n ops anc src ρ0 E m (rm U a) ((a,.pointer (some ⟨b,0,none⟩)) :: A) L w'
variable {a:Nat} {T:TypeId} {z:List Value} {B:Nat} {K:List PH} {m:Nat} {U:List Nat} {A:Asg} {L:List (Nat×PH)} {w:World}
theorem okIn_rm {o:Oper} {i:Nat} (hm:a∈U) (hk:okIn src U o i=true) (hia:Nat.beq i a=false):okIn src (rm U a) o i=true∧i≠a∧(∀ t,(t,some a) ∉ src.getD i [])∧∀ c,o.guard≠some (a,c):=by
  have hne:i≠a:=fun e=>by subst e; rw [Nat.beq_refl] at hia; cases hia
  obtain ⟨h1,h2,h3⟩:=okIn_of hk
  refine ⟨?_,hne,fun t ht=>h2 t a ht hm,fun c hc=>h3 a c hc hm⟩
  unfold okIn at hk ⊢
  simp only [Bool.and_eq_true] at hk ⊢
  refine ⟨⟨by simpa using mem_rm.2 ⟨h1,hne⟩,List.all_eq_true.2 fun p hp=>?_⟩,?_⟩
  · obtain ⟨t,q⟩:=p
    cases q with
    | none=>rfl
    | some j=>have:=h2 t j hp; simp only [Bool.not_eq_true',List.contains_eq_mem,decide_eq_false_iff_not]; exact fun c=>this (mem_rm.1 c).1
  · cases hg:o.guard with
    | none=>rfl
    | some q=>obtain ⟨j,c⟩:=q; have:=h3 j c hg; simp only [Bool.not_eq_true',List.contains_eq_mem,decide_eq_false_iff_not]; exact fun c=>this (mem_rm.1 c).1
theorem gOn_skip {o:Oper} {u:Value} (h:∀ c,o.guard≠some (a,c)):gOn ((a,u) :: A) o=gOn A o:=by
  unfold gOn
  cases hg:o.guard with
  | none=>rfl
  | some q=>obtain ⟨j,c⟩:=q; simp only; rw [look_ne (by rintro rfl; exact h c hg)]
theorem needs_skip {ρ:Env} {i:Nat} {u:Value} (h:∀ t,(t,some a) ∉ src.getD i []) (hn:needs ρ0 (look ((a,u) :: A)) ρ (src.getD i [])):needs ρ0 (look A) ρ (src.getD i []) :=
  needs_congr (fun t j hj=>look_ne (by rintro rfl; exact h t hj)) hn
/-- What only reads. -/
theorem GD_in [DM] (hE:∀ A A' w,look A=look A'→E A w→E A' w) (i:Nat) {o:Oper} (ho:ops.toList[i]?=some o) (hk:(okIn src U o i&&!Nat.beq i a&&U.contains a)=true) (hg:gOn A o=some true) (v:Value) (hs:List PH)
    (h1:∀ ρ w',needs ρ0 (look A) ρ (src.getD i [])→(∀ h∈hs,Sub h w')→QX P n o ρ w' v) (h2:∀ h∈hs,Sub h w) (h:GD P n ops anc src ρ0 E a T z B K m (rm U i) ((i,v) :: A) (hs.map (fun h=>(i,h))++L) w) :
    GD P n ops anc src ρ0 E a T z B K (m+1) U A L w:=by
  simp only [Bool.and_eq_true,Bool.not_eq_true'] at hk
  have hm:a∈U:=by simpa using hk.2
  obtain ⟨k2,hne,k3,k4⟩:=okIn_rm hm hk.1.1 hk.1.2
  exact ⟨hm,.inl ⟨i,o,ho,hk.1.1,.inr ⟨hg,v,hs,h1,h2,h.pend⟩⟩,fun w' b x s d f => .inl ⟨i,o,ho,k2,.inr ⟨by rw [gOn_skip k4]; exact hg,v,hs,fun ρ w2 hn=>h1 ρ w2 (needs_skip k3 hn),fun q hq=>(h2 q hq).ext x,
    by rw [rm_comm]; exact GT.congr hE (look_swap (Ne.symm hne) _ _) (h.made w' b x s d f)⟩⟩⟩
section
variable {Ty':Ty}
theorem GD_r0 [DM] (hE:∀ A A' w,look A=look A'→E A w→E A' w) (i:Nat) {o:Oper} (l:List (Nat×Value)) (v:Value) (ho:ops.toList[i]?=some o) (hk:(okIn src U o i&&!Nat.beq i a&&U.contains a)=true) (hg:gOn A o=some true) (hl:∀ ρ,needs ρ0 (look A) ρ (src.getD i [])→agrees ρ l)
    (h:∀ ρ w',(execOp (opd n (setAll l ρ)) o).run P w' = .ok (.value v) w') (H:GD P n ops anc src ρ0 E a T z B K m (rm U i) ((i,v) :: A) L w):GD P n ops anc src ρ0 E a T z B K (m+1) U A L w :=
  GD_in hE i ho hk hg v [] (fun ρ w' hn _ => .inl (forget (R:=fun ρ=>(execOp (opd n ρ) o).run P w' = .ok (.value v) w') l (hl ρ hn) fun ρ=>h ρ w')) (fun _ hh=>(by cases hh)) H
theorem GD_ev [DM] (hE:∀ A A' w,look A=look A'→E A w→E A' w) (i:Nat) (ok:TyOk P Ty') {o:Oper} (l:List (Nat×Value)) (v:Value) (ho:ops.toList[i]?=some o) (hk:(okIn src U o i&&!Nat.beq i a&&U.contains a)=true) (hg:gOn A o=some true) (hl:∀ ρ,needs ρ0 (look A) ρ (src.getD i [])→agrees ρ l)
    (h:∀ ρ,evOp Ty' n (setAll l ρ) o.op=some v) (H:GD P n ops anc src ρ0 E a T z B K m (rm U i) ((i,v) :: A) L w):GD P n ops anc src ρ0 E a T z B K (m+1) U A L w :=
  GD_r0 hE i l v ho hk hg hl (fun ρ _=>run_evOp ok (h ρ)) H
end
/-- The making itself. -/
theorem CX_alloc {oa:Oper} {ρ:Env} {sz bytes:Nat} {v:Value} {C:Value→World→Prop} (hop:oa.op = .alloc T) (hi:TyI P T sz bytes v) (hc:v.cells.toList=z) (h:C (.pointer (some ⟨w.heap.size,0,none⟩)) (w.alloc (.cells z.toArray T))):CX P n oa ρ w C:=by
  obtain ⟨inf,hinf,hsz,_,hz,_⟩:=hi.ok
  have hcs:v.cells=z.toArray:=by rw [← hc]
  refine .inl ⟨_,_,?_,h⟩
  simp [execOp,hop,Instr.alloc,zeroValue,typeInfo,hinf,hz,newVar,newRow,hcs]
theorem GD_mk [DM] {oa:Oper} {sz bytes d:Nat} {v:Value} (hop:oa.op = .alloc T) (hd:oa.dst=some d) (hi:TyI P T sz bytes v) (hc:v.cells.toList=z)
    (hkp:kept (anc.getD a []) w L) (hs:subK w K) (hB:B≤w.heap.size) (made:∀ w' b,Ext w w'→Sub (bx b T z) w'→djK (bx b T z) K→Fresh B (bx b T z)→GT P n ops anc src ρ0 E m (rm U a) ((a,.pointer (some ⟨b,0,none⟩)) :: A) L w')
    {ρ:Env} {w':World} (x:Ext w w'):CX P n oa ρ w' fun u w''=>kept (anc.getD a []) w'' L∧GT P n ops anc src ρ0 E m (rm U a) ((a,dv oa u) :: A) L w'':=by
  obtain ⟨x2,e,f⟩:=newRow_ok (w:=w') T z.toArray
  refine CX_alloc hop hi hc ⟨hkp.ext (x.trans x2),?_⟩
  rw [dv_some hd]
  exact made _ _ (x.trans x2) e (djK.fresh f (hs.ext x)) (f.mono (Nat.le_trans hB x.size))
/-- What is said of the variable's making. -/
structure MkA (P:Program) (ops:Array Oper) (a:Nat) (T:TypeId) (z:List Value):Prop where
  ok:∃ oa sz bytes v d,ops.toList[a]?=some oa∧oa.guard=none∧oa.op = .alloc T∧oa.dst=some d∧TyI P T sz bytes v∧v.cells.toList=z
theorem MkA.of {oa:Oper} {sz bytes d:Nat} {v:Value} (h1:ops.toList[a]?=some oa) (h2:(oa.guard,oa.op,oa.dst)=(none,.alloc T,some d)) (h3:TyI P T sz bytes v) (h4:v.cells.toList=z):MkA P ops a T z :=
  ⟨oa,sz,bytes,v,d,h1,congrArg (·.1) h2,congrArg (·.2.1) h2,congrArg (·.2.2) h2,h3,h4⟩
def inU (src:List (List (Nat×Option Nat))) (U:List Nat) (a:Nat):Bool:=U.contains a&&(src.getD a []).isEmpty
theorem okIn_a {oa:Oper} (h:inU src U a=true) (hg:oa.guard=none):okIn src U oa a=true:=by
  unfold inU at h
  simp only [Bool.and_eq_true] at h
  unfold okIn
  rw [hg,h.1]
  have:src.getD a []=[]:=by simpa using h.2
  rw [this]; rfl
/-- The chain is at its end: the variable is made now at the latest. -/
theorem GD_end [DM] (mk:MkA P ops a T z) (hH:(inU src U a&&hdOk anc U [a])=true)
    (hkp:kept (anc.getD a []) w L) (hs:subK w K) (hB:B≤w.heap.size) (made:∀ w' b,Ext w w'→Sub (bx b T z) w'→djK (bx b T z) K→Fresh B (bx b T z)→GT P n ops anc src ρ0 E m (rm U a) ((a,.pointer (some ⟨b,0,none⟩)) :: A) L w'):GD P n ops anc src ρ0 E a T z B K m U A L w:=by
  obtain ⟨oa,sz,bytes,v,d,hoa,hg,hop,hd,hi,hc⟩:=mk.ok
  simp only [Bool.and_eq_true] at hH
  have hka:=okIn_a (oa:=oa) hH.1 hg
  exact ⟨(okIn_of hka).1,.inr ⟨[a],hH.2,fun i hi'=>by
    obtain rfl:=List.mem_singleton.1 hi'
    exact ⟨oa,hoa,hka,by unfold gOn; rw [hg],fun ρ w' x _=>GD_mk hop hd hi hc hkp hs hB made x⟩⟩,made⟩
/-- One of those that come next in the chain; F: the variable, if it has been made. -/
def Gd1 [DM] (P:Program) (n:Nat) (ops:Array Oper) (anc:List (List Nat)) (src:List (List (Nat×Option Nat))) (ρ0:Env) (E:Asg→World→Prop) (a:Nat) (T:TypeId) (z:List Value) (B:Nat) (K:List PH) (m:Nat) (U:List Nat) (A:Asg) (L:List (Nat×PH)) (w:World) (i:Nat):Prop :=
  ∃ o,ops.toList[i]?=some o∧okIn src U o i=true∧gOn A o=some true∧∀ F ρ w',Ext w w'→Sub F w'→djK F K→needs ρ0 (look A) ρ (src.getD i [])→CX P n o ρ w' fun u w''=>kept (anc.getD i []) w'' L∧∃ K',Sub F w''∧djK F K'∧GD P n ops anc src ρ0 E a T z B K' m (rm U i) ((i,dv o u) :: A) L w''
def GdAll [DM] (P:Program) (n:Nat) (ops:Array Oper) (anc:List (List Nat)) (src:List (List (Nat×Option Nat))) (ρ0:Env) (E:Asg→World→Prop) (a:Nat) (T:TypeId) (z:List Value) (B:Nat) (K:List PH) (m:Nat) (U:List Nat) (A:Asg) (L:List (Nat×PH)) (w:World):List Nat→Prop
  | []=>True
  | i :: r=>Gd1 P n ops anc src ρ0 E a T z B K m U A L w i∧GdAll P n ops anc src ρ0 E a T z B K m U A L w r
theorem GdAll.get [DM]:∀ {H:List Nat},GdAll P n ops anc src ρ0 E a T z B K m U A L w H→∀ i∈H,Gd1 P n ops anc src ρ0 E a T z B K m U A L w i
  | [],_,i,hi=>by cases hi
  | j :: r,⟨h1,h2⟩,i,hi=>by
    rcases List.mem_cons.1 hi with rfl | hi
    · exact h1
    · exact h2.get i hi
theorem GD_lp [DM] {i:Nat} {o:Oper} (l:List (Nat×Value)) (ho:ops.toList[i]?=some o) (hk:okIn src U o i=true) (hg:gOn A o=some true) (hl:∀ ρ,needs ρ0 (look A) ρ (src.getD i [])→agrees ρ l) (hd:dOk n o.dst=true)
    (H:∀ F ρ w',Ext w w'→Sub F w'→djK F K→LP P n #[solo o] (QK n o (setAll l ρ) fun u w''=>kept (anc.getD i []) w'' L∧∃ K',Sub F w''∧djK F K'∧GD P n ops anc src ρ0 E a T z B K' m (rm U i) ((i,u) :: A) L w'') 0 (setAll l ρ) w'):Gd1 P n ops anc src ρ0 E a T z B K m U A L w i :=
  ⟨o,ho,hk,hg,fun F ρ w' x s dj hn=>forget (R:=fun ρ=>CX P n o ρ w' fun u w''=>kept (anc.getD i []) w'' L∧∃ K',Sub F w''∧djK F K'∧GD P n ops anc src ρ0 E a T z B K' m (rm U i) ((i,dv o u) :: A) L w'') l (hl ρ hn) fun ρ=>CX_of_LP hd (H F ρ w' x s dj)⟩
theorem GD_hd [DM] (hE:∀ A A' w,look A=look A'→E A w→E A' w) (mk:MkA P ops a T z) (H:List Nat) (hH:(inU src U a&&hdOk anc U (a :: H)&&hdOk anc (rm U a) H&&H.all fun i => !Nat.beq i a)=true)
    (hkp:kept (anc.getD a []) w L) (hs:subK w K) (hB:B≤w.heap.size) (h:GdAll P n ops anc src ρ0 E a T z B K m U A L w H):GD P n ops anc src ρ0 E a T z B K (m+1) U A L w:=by
  obtain ⟨oa,sz,bytes,v,d,hoa,hga,hop,hd,hi,hc⟩:=mk.ok
  simp only [Bool.and_eq_true] at hH
  obtain ⟨⟨⟨h1,h2⟩,h3⟩,h4⟩:=hH
  have hka:=okIn_a (oa:=oa) h1 hga
  have hm:=(okIn_of hka).1
  have made:∀ w' b,Ext w w'→Sub (bx b T z) w'→djK (bx b T z) K→Fresh B (bx b T z)→GT P n ops anc src ρ0 E (m+1) (rm U a) ((a,.pointer (some ⟨b,0,none⟩)) :: A) L w':=fun w' b x s dj f =>
    .inr ⟨H,h3,fun j hj=>by
      obtain ⟨o,ho,hk,hg,run⟩:=h.get j hj
      have hja:Nat.beq j a=false:=by simpa using List.all_eq_true.1 h4 j hj
      obtain ⟨k2,hne,k3,k4⟩:=okIn_rm hm hk hja
      exact ⟨o,ho,k2,by rw [gOn_skip k4]; exact hg,fun ρ w2 y hn=>(run _ ρ w2 (x.trans y) (s.ext y) dj (needs_skip k3 hn)).mono fun u w3 ⟨q1,K',q2,q3,q4⟩=>⟨q1,by rw [rm_comm]; exact GT.congr hE (look_swap (Ne.symm hne) _ _) (q4.made w3 b (Ext.refl _) q2 q3 f)⟩⟩⟩
  refine ⟨hm,.inr ⟨a :: H,h2,fun j hj=>?_⟩,made⟩
  by_cases e:j=a
  · subst e
    exact ⟨oa,hoa,hka,by unfold gOn; rw [hga],fun ρ w' x _=>GD_mk hop hd hi hc hkp hs hB made x⟩
  · have hj:j∈H:=(List.mem_cons.1 hj).resolve_left e
    obtain ⟨o,ho,hk,hg,run⟩:=h.get j hj
    exact ⟨o,ho,hk,hg,fun ρ w2 y hn=>(run emp ρ w2 y (emp_sub _) djK.emp hn).mono fun u w3 ⟨q1,K',q2,q3,q4⟩=>⟨q1,q4.pend⟩⟩
end
/-- What comes last depends on what has been found alone. -/
theorem look_last {P:Program} {n:Nat} {ops:Array Oper} {ρ0:Env} {Q:Exit→Act→World→Prop} {k:Nat} {fin:List (Nat×Option Nat)}:∀ (A A':Asg) (w:World),look A=look A'→(∀ ρ,needs ρ0 (look A) ρ fin→AP P n ops Q k ρ w)→∀ ρ,needs ρ0 (look A') ρ fin→AP P n ops Q k ρ w :=
  fun _ _ _ h e ρ hn=>e ρ (by rw [h]; exact hn)
end Go.Gv
instance Go.Gv.dm:Go.Gv.DM:=⟨False⟩
