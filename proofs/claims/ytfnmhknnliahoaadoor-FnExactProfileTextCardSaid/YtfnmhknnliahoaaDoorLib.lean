/- The layer, further: open regions, owned structures, closures, recursion, maps, arguments as they come in. -/
import Derived.Test.YtfnmhknnliahoaaDoorLibA
import Derived.Laws.BytesString
import Derived.WideLaws
import Derived.WideMake
import Derived.MapKept
import Derived.IntWalk
import Derived.ProofKit
import Derived.OpenShut
import Derived.ChangeOld
import Derived.Below
/- Regions whose order is open: one order is walked; what only reads comes to the same in all of them, what makes or writes stands in a chain. -/
namespace Go.Gv
open Go Go.RowKit
abbrev Asg:=List (Nat×Value)
def look:Asg→Nat→Value
  | [],_=>undef
  | (j,v) :: r,i=>if Nat.beq i j then v else look r i
theorem look_ne {A:Asg} {i j:Nat} {v:Value} (h:i≠j):look ((j,v) :: A) i=look A i:=by
  show (if Nat.beq i j=true then v else look A i)=look A i
  rw [beq_no h]; simp
theorem look_eq {A:Asg} {i:Nat} {v:Value}:look ((i,v) :: A) i=v:=by
  show (if Nat.beq i i=true then v else look A i)=v
  rw [show Nat.beq i i=true from Nat.beq_refl i]; simp
def gOn (A:Asg) (o:Oper):Option Bool :=
  match o.guard with
  | none=>some true
  | some (j,want)=>match look A j with | .bool b=>some (b==want) | .tuple _=>some false | _=>none
/-- What an operation leaves behind: nothing, if it has no slot. -/
def dv (o:Oper) (u:Value):Value:=match o.dst with | none=>undef | some _=>u
theorem dv_some {o:Oper} {u:Value} {d:Nat} (h:o.dst=some d):dv o u=u:=by unfold dv; rw [h]
def QX [DM] (P:Program) (n:Nat) (o:Oper) (ρ:Env) (w:World) (v:Value):Prop :=
  (execOp (opd n ρ) o).run P w = .ok (.value v) w∨∃ f args,(execOp (opd n ρ) o).run P w = .ok (.enter f args) w∧CallsTo P f args w fun u w'=>u=v∧Ext w w'
def CX (P:Program) (n:Nat) (o:Oper) (ρ:Env) (w:World) (K:Value→World→Prop):Prop :=
  (∃ u w',(execOp (opd n ρ) o).run P w = .ok (.value u) w'∧K u w')∨(∃ w',(execOp (opd n ρ) o).run P w = .ok .skip w'∧K undef w') ∨
    (∃ f args w',(execOp (opd n ρ) o).run P w = .ok (.enter f args) w'∧CallsTo P f args w' K)∨∃ row args w',(execOp (opd n ρ) o).run P w = .ok (.row row args) w'∧Rows P row args w' K
def kept (anc:List Nat) (w:World):List (Nat×PH)→Prop
  | []=>True
  | (i,h) :: l=>(anc.contains i=true∨Sub h w)∧kept anc w l
theorem kept.get {anc:List Nat} {w:World}:∀ {L:List (Nat×PH)},kept anc w L→∀ p∈L,p.1∈anc∨Sub p.2 w
  | [],_,p,hp=>by cases hp
  | (i,h) :: l,⟨h1,h2⟩,p,hp=>by
    rcases List.mem_cons.1 hp with rfl | hp
    · exact h1.imp (fun h=>by simpa using h) id
    · exact h2.get p hp
section
variable {P:Program} {n:Nat} {N:Asn} {X:Nat→Asn} {R:Asn} {ops:Array Oper} {k:Nat} {anc:List (List Nat)} {src:List (List (Nat×Option Nat))} {fin:List (Nat×Option Nat)}
def GS [DM] (P:Program) (n:Nat) (ops:Array Oper) (anc:List (List Nat)) (src:List (List (Nat×Option Nat))) (ρ0:Env) (E:Asg→World→Prop):List (Nat×Bool)→Asg→List (Nat×PH)→World→Prop
  | [],A,_,w=>∀ w',Ext w w'→E A w'
  | (i,c) :: r,A,L,w=>∃ o,ops.toList[i]?=some o ∧
     ((gOn A o=some false∧GS P n ops anc src ρ0 E r ((i,undef) :: A) L w) ∨
      (gOn A o=some true∧c=false∧∃ (v:Value) (hs:List PH),(∀ ρ w',needs ρ0 (look A) ρ (src.getD i [])→(∀ h∈hs,Sub h w')→QX P n o ρ w' v)∧(∀ h∈hs,Sub h w)∧GS P n ops anc src ρ0 E r ((i,v) :: A) (hs.map (fun h=>(i,h))++L) w) ∨
      (gOn A o=some true∧c=true∧∀ ρ w',Ext w w'→needs ρ0 (look A) ρ (src.getD i [])→CX P n o ρ w' fun u w''=>kept (anc.getD i []) w'' L∧GS P n ops anc src ρ0 E r ((i,dv o u) :: A) L w''))
theorem GS.ext [DM] {ρ0:Env} {E:Asg→World→Prop}:∀ {pi:List (Nat×Bool)} {A:Asg} {L:List (Nat×PH)} {w w':World},GS P n ops anc src ρ0 E pi A L w→Ext w w'→GS P n ops anc src ρ0 E pi A L w'
  | [],_,_,_,_,h,x=>fun w'' y=>h w'' (x.trans y)
  | (i,c) :: r,A,L,w,w',⟨o,ho,h⟩,x=>⟨o,ho,by
    rcases h with ⟨g,h⟩ | ⟨g,hc,v,hs,h1,h2,h3⟩ | ⟨g,hc,h⟩
    · exact .inl ⟨g,h.ext x⟩
    · exact .inr (.inl ⟨g,hc,v,hs,h1,fun a ha=>(h2 a ha).ext x,h3.ext x⟩)
    · exact .inr (.inr ⟨g,hc,fun ρ w'' y=>h ρ w'' (x.trans y)⟩)⟩
/-- The parts that are held by looking. -/
def gChk (ops:Array Oper) (k:Nat) (anc:List (List Nat)) (src:List (List (Nat×Option Nat))) (fin:List (Nat×Option Nat)):Bool :=
  (List.range ops.size).all (fun i =>
    match ops.toList[i]? with
    | none=>false
    | some o =>
      (match o.guard with | none=>true | some (j,_)=>(anc.getD i []).contains j&&(dstOf ops j).isSome) &&
      o.after.toList.all (fun e => !Region.binds .any e || Nat.blt e.on i) &&
      (anc.getD i []).all (fun j=>o.after.toList.any fun e=>Region.binds .any e&&(Nat.beq e.on j || (anc.getD e.on []).contains j)) &&
      (Nat.blt i k || (List.range k).all (fun j=>(anc.getD i []).contains j))) &&
  (List.range k).all (fun i =>
    (src.getD i []).all (fun p =>
      match p.2 with
      | none=>(List.range k).all (fun m => !(dstOf ops m==some p.1) || (anc.getD m []).contains i)
      | some j=>(anc.getD i []).contains j&&dstOf ops j==some p.1&&Nat.blt j k)) &&
  (List.range k).all (fun i=>(List.range k).all fun m=>Nat.beq i m || (dstOf ops i).isNone || !(dstOf ops i==dstOf ops m)) &&
  fin.all (fun p =>
    match p.2 with
    | none=>(List.range k).all (fun m => !(dstOf ops m==some p.1))
    | some j=>dstOf ops j==some p.1&&Nat.blt j k) &&
  Nat.ble k ops.size&&(List.range k).all (fun i=>match dstOf ops i with | none=>true | some d=>Nat.blt d n)
structure GOk (n:Nat) (ops:Array Oper) (k:Nat) (anc:List (List Nat)) (src:List (List (Nat×Option Nat))) (fin:List (Nat×Option Nat)):Prop where
  guard:∀ (i:Nat) (o:Oper),ops[i]?=some o→∀ j b,o.guard=some (j,b)→j∈anc.getD i []∧∃ d,dstOf ops j=some d
  edge:∀ (i:Nat) (o:Oper),ops[i]?=some o→∀ e∈o.after,Region.binds .any e=true→e.on<i
  up:∀ (i:Nat) (o:Oper),ops[i]?=some o→∀ j∈anc.getD i [],∃ e∈o.after,Region.binds .any e=true∧(e.on=j∨j∈anc.getD e.on [])
  tail:∀ i,i<ops.size→k≤i→∀ j,j<k→j∈anc.getD i []
  base:∀ i,i<k→∀ t,(t,none)∈src.getD i []→∀ m,m<k→dstOf ops m=some t→i∈anc.getD m []
  from_:∀ i,i<k→∀ t j,(t,some j)∈src.getD i []→j∈anc.getD i []∧dstOf ops j=some t∧j<k
  uniq:∀ i,i<k→∀ m,m<k→i≠m→∀ t,dstOf ops i=some t→dstOf ops m≠some t
  finb:∀ t,(t,none)∈fin→∀ m,m<k→dstOf ops m≠some t
  finf:∀ t j,(t,some j)∈fin→dstOf ops j=some t∧j<k
  size:k≤ops.size
  low:∀ i,i<k→∀ d,dstOf ops i=some d→d<n
theorem GOk.of (h:gChk (n:=n) ops k anc src fin=true):GOk n ops k anc src fin:=by
  unfold gChk at h
  simp only [Bool.and_eq_true] at h
  obtain ⟨⟨⟨⟨⟨h1,h2⟩,h3⟩,h4⟩,h5⟩,h6⟩:=h
  have g:∀ i o,ops[i]?=some o→i<ops.size∧ops.toList[i]?=some o:=fun i o ho=>⟨(Array.getElem?_eq_some_iff.1 ho).1,by rw [Array.getElem?_toList]; exact ho⟩
  have h1':∀ i o,ops[i]?=some o→_:=fun i o ho=>by
    have:=List.all_eq_true.1 h1 i (List.mem_range.2 (g i o ho).1)
    rw [(g i o ho).2] at this
    simp only [Bool.and_eq_true] at this
    exact this
  refine ⟨fun i o ho j b hg=>?_,fun i o ho e he hb=>?_,fun i o ho j hj=>?_,fun i hi hk j hj=>?_,fun i hi t ht m hm hd=>?_,fun i hi t j ht=>?_,fun i hi m hm hne t hd=>?_,fun t ht m hm=>?_,fun t j ht=>?_,Nat.le_of_ble_eq_true h5,fun i hi d hd=>?_⟩
  · have:=(h1' i o ho).1.1.1
    rw [hg] at this
    simp only [Bool.and_eq_true] at this
    refine ⟨by simpa using this.1,?_⟩
    cases hd:dstOf ops j with
    | none=>rw [hd] at this; simp at this
    | some d=>exact ⟨d,rfl⟩
  · have:=List.all_eq_true.1 (h1' i o ho).1.1.2 e (Array.mem_toList_iff.2 he)
    simp only [hb,Bool.not_true,Bool.false_or] at this
    exact nblt this
  · have:=List.all_eq_true.1 (h1' i o ho).1.2 j hj
    obtain ⟨e,he,hb⟩:=List.any_eq_true.1 this
    simp only [Bool.and_eq_true,Bool.or_eq_true] at hb
    exact ⟨e,Array.mem_toList_iff.1 he,hb.1,hb.2.imp (fun h=>Nat.eq_of_beq_eq_true h) (fun h=>by simpa using h)⟩
  · have ho:ops[i]?=some ops[i]:=by simp [hi]
    have:=(h1' i _ ho).2
    simp only [Bool.or_eq_true] at this
    rcases this with h | h
    · have:=nblt h; omega
    · have:=List.all_eq_true.1 h j (List.mem_range.2 hj); simpa using this
  · have:=List.all_eq_true.1 (List.all_eq_true.1 h2 i (List.mem_range.2 hi)) _ ht
    have:=List.all_eq_true.1 this m (List.mem_range.2 hm)
    simpa [hd] using this
  · have:=List.all_eq_true.1 (List.all_eq_true.1 h2 i (List.mem_range.2 hi)) _ ht
    simp only [Bool.and_eq_true] at this
    exact ⟨by simpa using this.1.1,by simpa using this.1.2,nblt this.2⟩
  · have:=List.all_eq_true.1 (List.all_eq_true.1 h3 i (List.mem_range.2 hi)) m (List.mem_range.2 hm)
    simp only [Bool.or_eq_true] at this
    rcases this with (h | h) | h
    · exact absurd (Nat.eq_of_beq_eq_true h) hne
    · rw [hd] at h; cases h
    · intro hd'
      rw [hd,hd'] at h; simp at h
  · have:=List.all_eq_true.1 (List.all_eq_true.1 h4 _ ht) m (List.mem_range.2 hm)
    simpa using this
  · have:=List.all_eq_true.1 h4 _ ht
    simp only [Bool.and_eq_true] at this
    exact ⟨by simpa using this.1,nblt this.2⟩
  · have:=List.all_eq_true.1 h6 i (List.mem_range.2 hi)
    rw [hd] at this; exact nblt this
def ordGo (ops:Array Oper) (anc:List (List Nat)) (src:List (List (Nat×Option Nat))):List (Nat×Bool)→List Nat→Bool
  | [],_=>true
  | (i,c) :: r,D=>(src.getD i []).all (fun p=>match p.2 with | some j=>D.contains j | none=>true) &&
      (match (ops.toList[i]?).bind (·.guard) with | some (j,_)=>D.contains j | none=>true) &&
      (!c || r.all (fun q=>(anc.getD q.1 []).contains i))&&!D.contains i&&ordGo ops anc src r (i :: D)
def ordChk (ops:Array Oper) (k:Nat) (anc:List (List Nat)) (src:List (List (Nat×Option Nat))) (pi:List (Nat×Bool)):Bool :=
  ordGo ops anc src pi []&&pi.all (fun p=>Nat.blt p.1 k)&&(List.range k).all (fun i=>pi.any fun p=>Nat.beq p.1 i)
theorem ordGo_out:∀ {r:List (Nat×Bool)} {D:List Nat},ordGo ops anc src r D=true→∀ p∈r,p.1 ∉ D
  | [],_,_,p,hp=>by cases hp
  | (i,c) :: r,D,h,p,hp=>by
    unfold ordGo at h
    simp only [Bool.and_eq_true] at h
    rcases List.mem_cons.1 hp with rfl | hp
    · simpa using h.1.2
    · have:=ordGo_out h.2 p hp
      intro hd; exact this (by simp [hd])
/-- How matters stand in the midst: A: what has been settled; rest: what has not. -/
structure InvG [DM] (P:Program) (n:Nat) (ops:Array Oper) (k:Nat) (anc:List (List Nat)) (src:List (List (Nat×Option Nat))) (ρ0:Env) (E:Asg→World→Prop) (rest:List (Nat×Bool)) (D:List Nat) (A:Asg) (L:List (Nat×PH)) (listed:Array Bool) (ρ:Env) (w:World):Prop where
  gs:GS P n ops anc src ρ0 E rest A L w
  ord:ordGo ops anc src rest D=true
  hD:∀ j,j∈D↔(j<k∧∀ p∈rest,p.1≠j)
  low:∀ p∈rest,p.1<k
  und:∀ p∈rest,listed.getD p.1 false=false
  srcD:∀ i∈D,∀ t j,(t,some j)∈src.getD i []→j∈D
  grdD:∀ i∈D,∀ o,ops.toList[i]?=some o→∀ j b,o.guard=some (j,b)→j∈D
  dec:∀ i∈D,∃ o,ops.toList[i]?=some o∧((gOn A o=some false∧look A i=undef) ∨
    (gOn A o=some true∧(listed.getD i false=true∨∃ (hs:List PH),(∀ h∈hs,(i,h)∈L)∧∀ ρ w',needs ρ0 (look A) ρ (src.getD i [])→(∀ h∈hs,Sub h w')→QX P n o ρ w' (look A i))))
  slot:∀ i,i<k→listed.getD i false=true→∀ d,dstOf ops i=some d→ρ d=look A i
  old:∀ t,(∀ i,i<k→listed.getD i false=true→dstOf ops i≠some t)→ρ t=ρ0 t
  lq:∀ p∈L,listed.getD p.1 false=true∨Sub p.2 w
  closed:∀ i,listed.getD i false=true→∀ j∈anc.getD i [],listed.getD j false=true
  small:∀ i,listed.getD i false=true→i<k
theorem needs_congr {ρ0 ρ:Env} {a b:Nat→Value}:∀ {l:List (Nat×Option Nat)},(∀ t j,(t,some j)∈l→a j=b j)→needs ρ0 a ρ l→needs ρ0 b ρ l
  | [],_,_=>trivial
  | (t,none) :: l,h,⟨h1,h2⟩=>⟨h1,needs_congr (fun t j hj=>h t j (by simp [hj])) h2⟩
  | (t,some j) :: l,h,⟨h1,h2⟩=>⟨by rw [h1]; exact h t j (by simp),needs_congr (fun t j hj=>h t j (by simp [hj])) h2⟩
theorem gOn_congr {A B:Asg} {o:Oper} (h:∀ j b,o.guard=some (j,b)→look A j=look B j):gOn A o=gOn B o:=by
  unfold gOn
  cases hg:o.guard with
  | none=>rfl
  | some p=>obtain ⟨j,b⟩:=p; simp only; rw [h j b hg]
section
variable {ρ0:Env} {E:Asg→World→Prop} {rest:List (Nat×Bool)} {D:List Nat} {A:Asg} {L:List (Nat×PH)} {listed:Array Bool} {ρ:Env} {w:World}
/-- A move that settles an operation which has not come up. -/
theorem InvG.settle [DM] {i:Nat} {c:Bool} {o:Oper} {v:Value} {hs:List PH} (I:InvG P n ops k anc src ρ0 E ((i,c) :: rest) D A L listed ρ w) (ho:ops.toList[i]?=some o)
    (hgs:GS P n ops anc src ρ0 E rest ((i,v) :: A) (hs.map (fun h=>(i,h))++L) w) (hsub:∀ h∈hs,Sub h w)
    (hd:(gOn A o=some false∧v=undef)∨(gOn A o=some true∧∀ ρ w',needs ρ0 (look A) ρ (src.getD i [])→(∀ h∈hs,Sub h w')→QX P n o ρ w' v)) :
    InvG P n ops k anc src ρ0 E rest (i :: D) ((i,v) :: A) (hs.map (fun h=>(i,h))++L) listed ρ w:=by
  have hord:=I.ord
  unfold ordGo at hord
  simp only [Bool.and_eq_true] at hord
  obtain ⟨⟨⟨⟨o1,o2⟩,o3⟩,o4⟩,o5⟩:=hord
  have hiD:i ∉ D:=by simpa using o4
  have hout:=ordGo_out o5
  have hir:∀ p∈rest,p.1≠i:=fun p hp e=>hout p hp (by simp [e])
  have hiu:listed.getD i false=false:=I.und (i,c) (by simp)
  have hlk:∀ j,j∈D→look ((i,v) :: A) j=look A j:=fun j hj=>look_ne fun e=>hiD (e ▸ hj)
  have hsrc:∀ t j,(t,some j)∈src.getD i []→j∈D:=fun t j hj=>by
    have:=List.all_eq_true.1 o1 _ hj; simpa using this
  have hgrd:∀ o,ops.toList[i]?=some o→∀ j b,o.guard=some (j,b)→j∈D:=fun o' ho' j b hg=>by
    rw [ho'] at o2; simp only [Option.bind_some,hg] at o2; simpa using o2
  refine ⟨hgs,o5,fun j=>?_,fun p hp=>I.low p (by simp [hp]),fun p hp=>I.und p (by simp [hp]),fun m hm t j hj=>?_,fun m hm o' ho' j b hg=>?_,fun m hm=>?_,fun m hm hl d hd=>?_,I.old,fun p hp=>?_,I.closed,I.small⟩
  · constructor
    · intro hj
      rcases List.mem_cons.1 hj with rfl | hj
      · exact ⟨I.low (j,c) (by simp),hir⟩
      · exact ⟨((I.hD j).1 hj).1,fun p hp=>((I.hD j).1 hj).2 p (by simp [hp])⟩
    · rintro ⟨h1,h2⟩
      by_cases e:j=i
      · simp [e]
      · refine List.mem_cons.2 (.inr ((I.hD j).2 ⟨h1,fun p hp=>?_⟩))
        rcases List.mem_cons.1 hp with rfl | hp
        · exact fun e'=>e e'.symm
        · exact h2 p hp
  · rcases List.mem_cons.1 hm with rfl | hm
    · exact List.mem_cons.2 (.inr (hsrc t j hj))
    · exact List.mem_cons.2 (.inr (I.srcD m hm t j hj))
  · rcases List.mem_cons.1 hm with rfl | hm
    · exact List.mem_cons.2 (.inr (hgrd o' ho' j b hg))
    · exact List.mem_cons.2 (.inr (I.grdD m hm o' ho' j b hg))
  · rcases List.mem_cons.1 hm with rfl | hm
    · refine ⟨o,ho,?_⟩
      have hg:gOn ((m,v) :: A) o=gOn A o:=gOn_congr fun j b hg=>hlk j (hgrd o ho j b hg)
      rw [hg,look_eq]
      refine hd.imp id fun ⟨h1,h2⟩=>⟨h1,.inr ⟨hs,fun h hh=>List.mem_append.2 (.inl (List.mem_map.2 ⟨h,hh,rfl⟩)),fun ρ w' hn=>h2 ρ w' (needs_congr (fun t j hj=>hlk j (hsrc t j hj)) hn)⟩⟩
    · obtain ⟨o',ho',h⟩:=I.dec m hm
      refine ⟨o',ho',?_⟩
      have hg:gOn ((i,v) :: A) o'=gOn A o':=gOn_congr fun j b hg=>hlk j (I.grdD m hm o' ho' j b hg)
      rw [hg,hlk m hm]
      refine h.imp id fun ⟨h1,h2⟩=>⟨h1,h2.imp id fun ⟨hs',h3,h4⟩=>⟨hs',fun h hh=>List.mem_append.2 (.inr (h3 h hh)),fun ρ w' hn=>h4 ρ w' (needs_congr (fun t j hj=>hlk j (I.srcD m hm t j hj)) hn)⟩⟩
  · rw [I.slot m hm hl d hd,look_ne]
    rintro rfl; rw [hiu] at hl; cases hl
  · rcases List.mem_append.1 hp with hp | hp
    · obtain ⟨h,hh,rfl⟩:=List.mem_map.1 hp
      exact .inr (hsub h hh)
    · exact I.lq p hp
/-- All that can be settled without waiting is settled. -/
theorem InvG.norm [DM]:∀ {rest:List (Nat×Bool)} {D:List Nat} {A:Asg} {L:List (Nat×PH)},InvG P n ops k anc src ρ0 E rest D A L listed ρ w →
    ∃ rest' D' A' L',InvG P n ops k anc src ρ0 E rest' D' A' L' listed ρ w∧(rest'=[]∨∃ i r o,rest'=(i,true) :: r∧ops.toList[i]?=some o∧gOn A' o=some true ∧
      ∀ ρ w',Ext w w'→needs ρ0 (look A') ρ (src.getD i [])→CX P n o ρ w' fun u w''=>kept (anc.getD i []) w'' L'∧GS P n ops anc src ρ0 E r ((i,dv o u) :: A') L' w'')
  | [],D,A,L,I=>⟨[],D,A,L,I,.inl rfl⟩
  | (i,c) :: r,D,A,L,I=>by
    obtain ⟨o,ho,h⟩:=I.gs
    rcases h with ⟨g,h⟩ | ⟨g,hc,v,hs,h1,h2,h3⟩ | ⟨g,hc,h⟩
    · exact (I.settle (hs:=[]) ho (by simpa using h) (fun _ hh=>by cases hh) (.inl ⟨g,rfl⟩)).norm
    · exact (I.settle ho h3 h2 (.inr ⟨g,h1⟩)).norm
    · subst hc
      exact ⟨_,D,A,L,I,.inr ⟨i,r,o,rfl,ho,g,h⟩⟩
end
theorem AP_game [DM] {Q:Exit→Act→World→Prop} {ρ0:Env} {w0:World} (k:Nat) (anc:List (List Nat)) (src:List (List (Nat×Option Nat))) (fin:List (Nat×Option Nat)) (pi:List (Nat×Bool))
    (chk:gChk (n:=n) ops k anc src fin=true) (chk2:ordChk ops k anc src pi=true)
    (h:GS P n ops anc src ρ0 (fun A w=>∀ ρ,needs ρ0 (look A) ρ fin→AP P n ops Q k ρ w) pi [] [] w0):AP P n ops Q 0 ρ0 w0:=by
  have c:=GOk.of chk
  unfold ordChk at chk2
  simp only [Bool.and_eq_true] at chk2
  obtain ⟨⟨k1,k2⟩,k3⟩:=chk2
  let E:Asg→World→Prop:=fun A w=>∀ ρ,needs ρ0 (look A) ρ fin→AP P n ops Q k ρ w
  intro fuel0 listed0 hsz0 hf0 hl0
  have main:∀ (fuel:Nat) (listed:Array Bool) (rest:List (Nat×Bool)) (D:List Nat) (A:Asg) (L:List (Nat×PH)) (ρ:Env) (w:World),listed.size=ops.size→((List.range k).filter (fun i => !listed.getD i false)).length+(ops.size-k)≤fuel →
      InvG P n ops k anc src ρ0 E rest D A L listed ρ w→wpAny P .any ops Q fuel listed (act n ρ) w:=by
    intro fuel
    have done:∀ (fuel:Nat) (listed:Array Bool) (rest:List (Nat×Bool)) (D:List Nat) (A:Asg) (L:List (Nat×PH)) (ρ:Env) (w:World),listed.size=ops.size→ops.size-k≤fuel →
        InvG P n ops k anc src ρ0 E rest D A L listed ρ w→(∀ i,i<k→listed.getD i false=true)→wpAny P .any ops Q fuel listed (act n ρ) w:=by
      intro fuel listed rest D A L ρ w hsz hf I hall
      have hr:rest=[]:=by
        cases rest with
        | nil=>rfl
        | cons p r=>have:=I.und p (by simp); rw [hall _ (I.low p (by simp))] at this; cases this
      subst hr
      have hE:E A w:=I.gs w (Ext.refl _)
      refine hE ρ ?_ fuel listed hsz (by have:=c.size; omega) fun i hi=>⟨I.small i,hall i⟩
      have key:∀ l,(∀ p∈l,p∈fin)→needs ρ0 (look A) ρ l:=by
        intro l
        induction l with
        | nil=>intro _; trivial
        | cons p l ih =>
          intro h
          obtain ⟨t,q⟩:=p
          have hp:=h (t,q) (by simp)
          have hl:=ih fun x hx=>h x (by simp [hx])
          cases q with
          | none=>exact ⟨I.old t fun m hm _=>c.finb t hp m hm,hl⟩
          | some j=>exact ⟨I.slot j (c.finf t j hp).2 (hall j (c.finf t j hp).2) t (c.finf t j hp).1,hl⟩
      exact key _ fun p hp=>hp
    induction fuel with
    | zero =>
      intro listed rest D A L ρ w hsz hf I
      refine done 0 listed rest D A L ρ w hsz (by omega) I fun i hi=>?_
      cases hh:listed.getD i false
      · exfalso
        have:i∈(List.range k).filter (fun i => !listed.getD i false):=List.mem_filter.2 ⟨List.mem_range.2 hi,by simp [hh]⟩
        have:=List.length_pos_of_mem this
        omega
      · rfl
    | succ fuel ih =>
      intro listed rest D A L ρ w hsz hf I
      by_cases hall:∀ i,i<k→listed.getD i false=true
      · exact done _ listed rest D A L ρ w hsz (by omega) I hall
      obtain ⟨rest,D,A,L,I,hn⟩:=I.norm
      have hks:=c.size
      refine ⟨fun h0=>?_,fun i hi=>?_⟩
      · exfalso
        obtain ⟨i,hik,hi⟩:∃ i,i<k∧listed.getD i false=false:=by
          refine Classical.byContradiction fun hn=>hall fun i hi=>?_
          cases hh:listed.getD i false
          · exact absurd ⟨i,hi,hh⟩ hn
          · rfl
        have least:∀ m,m<k→listed.getD m false=false→∃ j,j<k∧listed.getD j false=false∧∀ x,x<j→listed.getD x false=true:=by
          intro m
          induction m using Nat.strongRecOn with
          | _ m ihm =>
            intro hm hl
            by_cases h:∀ x,x<m→listed.getD x false=true
            · exact ⟨m,hm,hl,h⟩
            · obtain ⟨x,hx⟩:=Classical.not_forall.1 h
              obtain ⟨hxm,hxl⟩:=Classical.not_imp.1 hx
              exact ihm x hxm (by omega) (by simpa using hxl)
        obtain ⟨j,hjk',hjl,hjx⟩:=least i hik hi
        have ho:ops[j]?=some ops[j]:=by simp [show j<ops.size by omega]
        have:j∈Region.ready .any ops listed:=ready_of ho (by
          have h3:j<listed.size:=by omega
          simpa [Array.getD_eq_getD_getElem?,h3] using hjl) fun e he hb=>hjx e.on (c.edge j _ ho e he hb)
        rw [h0] at this; cases this
      · obtain ⟨h1,h2,o,hio,he⟩:=mem_ready' hi
        have h3:i<listed.size:=by omega
        have hu:listed.getD i false=false:=by simpa [Array.getD_eq_getD_getElem?,h3] using h2
        have hanc:∀ j∈anc.getD i [],listed.getD j false=true:=fun j hj=>by
          obtain ⟨e,hee,hb,hx⟩:=c.up i o hio j hj
          rcases hx with hx | hx
          · rw [← hx]; exact he e hee hb
          · exact I.closed e.on (he e hee hb) j hx
        have hik:i<k:=by
          refine Classical.byContradiction fun hn=>hall fun m hm=>hanc m (c.tail i h1 (by omega) m hm)
        have hol:ops.toList[i]?=some o:=by rw [Array.getElem?_toList]; exact hio
        have hdst:dstOf ops i=o.dst:=by simp [dstOf,hol]
        have hneeds:needs ρ0 (look A) ρ (src.getD i []):=by
          have key:∀ l,(∀ p∈l,p∈src.getD i [])→needs ρ0 (look A) ρ l:=by
            intro l
            induction l with
            | nil=>intro _; trivial
            | cons p l ih =>
              intro h
              obtain ⟨t,q⟩:=p
              have hp:=h (t,q) (by simp)
              have hl:=ih fun x hx=>h x (by simp [hx])
              cases q with
              | none =>
                refine ⟨I.old t fun m hm hml hd=>?_,hl⟩
                have:=c.base i hik t hp m hm hd
                have:=I.closed m hml i this
                rw [hu] at this; cases this
              | some j =>
                obtain ⟨h4,h5,h6⟩:=c.from_ i hik t j hp
                exact ⟨I.slot j h6 (hanc j h4) t h5,hl⟩
          exact key _ fun p hp=>hp
        have hwant:∀ b,gOn A o=some b→Region.wanted o (yielded ops (act n ρ).tmps)=b:=fun b hb=>by
          unfold gOn at hb
          unfold Region.wanted
          split at hb
          · rename_i hg; simp only [hg]; exact Option.some.inj hb
          · rename_i j want hg
            simp only [hg]
            obtain ⟨hja,d,hjd⟩:=c.guard i o hio j want hg
            have hjl:=hanc j hja
            have hjk:=I.small j hjl
            have hsl:=I.slot j hjk hjl d hjd
            have hlt:=c.low j hjk d hjd
            have hdo:(ops[j]?).bind (·.dst)=some d:=by
              have:=hjd; unfold dstOf at this; rwa [Array.getElem?_toList] at this
            have hy:yielded ops (act n ρ).tmps j=(match ρ d with | .bool b=>some b | _=>none):=by
              unfold yielded
              rw [hdo]
              simp only [Option.bind_some]
              rw [act_get,if_pos hlt]
              cases ρ d <;> rfl
            rw [hy,hsl]
            split at hb
            · rename_i b' hb'
              rw [hb']
              have:=Option.some.inj hb
              rw [← this]
              cases b' <;> cases want <;> rfl
            · rename_i vs hvs
              rw [hvs]
              have:=Option.some.inj hb
              rw [← this]; rfl
            · cases hb
        have hmeas:((List.range k).filter (fun m => !(listed.setIfInBounds i true).getD m false)).length+(ops.size-k)≤fuel:=by
          have:=filter_lt (l:=List.range k) (p:=fun m => !listed.getD m false) (q:=fun m => !(listed.setIfInBounds i true).getD m false) (fun x hx=>by
            cases hh:listed.getD x false
            · rfl
            · have:=(listed_set (m:=x) h3).2 (.inr hh)
              simp [this] at hx) (List.mem_range.2 hik) (by simp [hu]) (by have:=(listed_set (m:=i) h3).2 (.inl rfl); simp [this])
          omega
        have hclosed:∀ m,(listed.setIfInBounds i true).getD m false=true→∀ j∈anc.getD m [],(listed.setIfInBounds i true).getD j false=true:=fun m hml j hj=>by
          rw [listed_set h3] at hml ⊢
          rcases hml with rfl | hml
          · exact .inr (hanc j hj)
          · exact .inr (I.closed m hml j hj)
        have hsmall:∀ m,(listed.setIfInBounds i true).getD m false=true→m<k:=fun m hml=>by
          rw [listed_set h3] at hml
          rcases hml with rfl | hml
          · exact hik
          · exact I.small m hml
        have slots:∀ (A':Asg) (u:Value),(∀ d,o.dst=some d→u=look A' i)→(∀ m,listed.getD m false=true→look A' m=look A m) →
            (∀ m,m<k→(listed.setIfInBounds i true).getD m false=true→∀ d,dstOf ops m=some d→updO ρ o.dst u d=look A' m) ∧
            (∀ t,(∀ m,m<k→(listed.setIfInBounds i true).getD m false=true→dstOf ops m≠some t)→updO ρ o.dst u t=ρ0 t):=by
          intro A' u hu' hb'
          constructor
          · intro m hm hml d hd
            rw [listed_set h3] at hml
            by_cases hmi:m=i
            · subst hmi
              rw [hdst] at hd
              rw [hd]; simp [updO,upd,hu' d hd]
            · have hml:=hml.resolve_left hmi
              have hs:=I.slot m hm hml d hd
              cases hod:o.dst with
              | none=>simp only [updO]; rw [hs,hb' m hml]
              | some d' =>
                have hne:d≠d':=fun e=>c.uniq m hm i hik hmi d hd (by rw [hdst,hod,e])
                simp only [updO,upd,if_neg hne]; rw [hs,hb' m hml]
          · intro t ht
            have h4:=I.old t fun m hm hml=>ht m hm ((listed_set h3).2 (.inr hml))
            cases hod:o.dst with
            | none=>exact h4
            | some d' =>
              have hne:t≠d':=fun e=>ht i hik ((listed_set h3).2 (.inl rfl)) (by rw [hdst,hod,e])
              simp only [updO,upd,if_neg hne]; exact h4
        unfold wpOp
        rw [hio]
        simp only
        by_cases hiD:i∈D
        · -- settled already
          have hund:∀ p∈rest,(listed.setIfInBounds i true).getD p.1 false=false:=fun p hp=>by
            have h4:=I.und p hp
            have h5:p.1≠i:=((I.hD i).1 hiD).2 p hp
            cases hh:(listed.setIfInBounds i true).getD p.1 false
            · rfl
            · rcases (listed_set h3).1 hh with e | e
              · exact absurd e h5
              · rw [h4] at e; cases e
          obtain ⟨s1,s2⟩:=slots A (look A i) (fun _ _=>rfl) (fun _ _=>rfl)
          have next:∀ w',Ext w w'→wpAny P .any ops Q fuel (listed.setIfInBounds i true) (act n (updO ρ o.dst (look A i))) w':=fun w' x =>
            ih _ rest D A L _ w' (by simpa using hsz) hmeas ⟨I.gs.ext x,I.ord,I.hD,I.low,hund,I.srcD,I.grdD,fun m hm=>by
              obtain ⟨o',ho',hd⟩:=I.dec m hm
              exact ⟨o',ho',hd.imp id fun ⟨g,hd⟩=>⟨g,hd.imp (fun hl=>(listed_set h3).2 (.inr hl)) id⟩⟩,s1,s2,fun p hp=>(I.lq p hp).imp (fun hl=>(listed_set h3).2 (.inr hl)) fun e=>e.ext x,hclosed,hsmall⟩
          obtain ⟨o',ho',hd⟩:=I.dec i hiD
          rw [hol] at ho'; cases ho'
          rcases hd with ⟨g,hv⟩ | ⟨g,hd⟩
          · rw [hwant false g,if_neg (by decide),act_putO,← hv]
            exact next w (Ext.refl _)
          · rw [hwant true g,if_pos rfl]
            left
            rcases hd with hl | ⟨hs,hs1,hs2⟩
            · rw [hu] at hl; cases hl
            unfold Oper.wp
            rw [act_eval']
            have hq:=hs2 ρ w hneeds fun h hh=>(I.lq _ (hs1 h hh)).resolve_left (by rw [hu]; simp)
            rcases hq with hr | ⟨f,args,hr,hc⟩
            · rw [hr]; simp only [Oper.upon]; rw [act_putO]; exact next w (Ext.refl _)
            · rw [hr]; simp only [Oper.upon]
              refine Calls.mono hc fun e w'' h'=>?_
              cases e with
              | returned u=>obtain ⟨rfl,x⟩:=h'; simp only; rw [act_putO]; exact next w'' x
              | panicked _=>exact h'.elim
              | outgrown=>exact h'.elim
        · -- the next of the chain
          have hin:∃ p∈rest,p.1=i:=by
            refine Classical.byContradiction fun hn=>hiD ((I.hD i).2 ⟨hik,fun p hp e=>hn ⟨p,hp,e⟩⟩)
          rcases hn with rfl | ⟨i',r,o',rfl,ho',g,hcx⟩
          · obtain ⟨p,hp,_⟩:=hin; cases hp
          have hord:=I.ord
          unfold ordGo at hord
          simp only [Bool.and_eq_true,Bool.not_true,Bool.false_or] at hord
          obtain ⟨⟨⟨⟨o1,o2⟩,o3⟩,o4⟩,o5⟩:=hord
          have hii:i=i':=by
            obtain ⟨p,hp,hpi⟩:=hin
            rcases List.mem_cons.1 hp with rfl | hp
            · exact hpi.symm
            · exfalso
              have:=List.all_eq_true.1 o3 p hp
              have h4:i'∈anc.getD i []:=by rw [← hpi]; simpa using this
              have h5:=hanc i' h4
              rw [I.und (i',true) (by simp)] at h5; cases h5
          subst hii
          rw [hol] at ho'; cases ho'
          rw [hwant true g,if_pos rfl]
          left
          have hout:=ordGo_out o5
          have hir:∀ p∈r,p.1≠i:=fun p hp e=>hout p hp (by simp [e])
          have hlk:∀ u j,j∈D→look ((i,u) :: A) j=look A j:=fun u j hj=>look_ne fun e=>hiD (e ▸ hj)
          have hsrc:∀ t j,(t,some j)∈src.getD i []→j∈D:=fun t j hj=>by
            have:=List.all_eq_true.1 o1 _ hj; simpa using this
          have hgrd:∀ j b,o.guard=some (j,b)→j∈D:=fun j b hg=>by
            rw [hol] at o2; simp only [Option.bind_some,hg] at o2; simpa using o2
          have lisD:∀ m,listed.getD m false=true→m∈D:=fun m hm=>(I.hD m).2 ⟨I.small m hm,fun p hp e=>by have:=I.und p hp; rw [e,hm] at this; cases this⟩
          have next:∀ u w',kept (anc.getD i []) w' L→GS P n ops anc src ρ0 E r ((i,dv o u) :: A) L w'→wpAny P .any ops Q fuel (listed.setIfInBounds i true) (act n (updO ρ o.dst u)) w':=fun u w' hk hg=>by
            obtain ⟨s1,s2⟩:=slots ((i,dv o u) :: A) u (fun d hd=>by rw [look_eq,dv_some hd]) (fun m hm=>hlk _ m (lisD m hm))
            refine ih _ r (i :: D) ((i,dv o u) :: A) L _ w' (by simpa using hsz) hmeas ⟨hg,o5,fun j=>?_,fun p hp=>I.low p (by simp [hp]),fun p hp=>?_,fun m hm t j hj=>?_,fun m hm o' ho' j b hg'=>?_,fun m hm=>?_,s1,s2,fun p hp=>?_,hclosed,hsmall⟩
            · constructor
              · intro hj
                rcases List.mem_cons.1 hj with rfl | hj
                · exact ⟨hik,hir⟩
                · exact ⟨((I.hD j).1 hj).1,fun p hp=>((I.hD j).1 hj).2 p (by simp [hp])⟩
              · rintro ⟨h4,h5⟩
                by_cases e:j=i
                · simp [e]
                · refine List.mem_cons.2 (.inr ((I.hD j).2 ⟨h4,fun p hp=>?_⟩))
                  rcases List.mem_cons.1 hp with rfl | hp
                  · exact fun e'=>e e'.symm
                  · exact h5 p hp
            · have h4:=I.und p (by simp [hp])
              cases hh:(listed.setIfInBounds i true).getD p.1 false
              · rfl
              · rcases (listed_set h3).1 hh with e | e
                · exact absurd e (hir p hp)
                · rw [h4] at e; cases e
            · rcases List.mem_cons.1 hm with rfl | hm
              · exact List.mem_cons.2 (.inr (hsrc t j hj))
              · exact List.mem_cons.2 (.inr (I.srcD m hm t j hj))
            · rcases List.mem_cons.1 hm with rfl | hm
              · rw [hol] at ho'; cases ho'
                exact List.mem_cons.2 (.inr (hgrd j b hg'))
              · exact List.mem_cons.2 (.inr (I.grdD m hm o' ho' j b hg'))
            · rcases List.mem_cons.1 hm with rfl | hm
              · refine ⟨o,hol,.inr ⟨?_,.inl ((listed_set h3).2 (.inl rfl))⟩⟩
                rw [← g]; exact gOn_congr fun j b hg'=>hlk _ j (hgrd j b hg')
              · obtain ⟨o',ho',h⟩:=I.dec m hm
                refine ⟨o',ho',?_⟩
                have hg:gOn ((i,dv o u) :: A) o'=gOn A o':=gOn_congr fun j b hg=>hlk _ j (I.grdD m hm o' ho' j b hg)
                rw [hg,hlk _ m hm]
                exact h.imp id fun ⟨h1,h2⟩=>⟨h1,h2.imp (fun hl=>(listed_set h3).2 (.inr hl)) fun ⟨hs',h3,h4⟩=>⟨hs',h3,fun ρ w' hn=>h4 ρ w' (needs_congr (fun t j hj=>hlk _ j (I.srcD m hm t j hj)) hn)⟩⟩
            · rcases hk.get p hp with e | e
              · exact .inl ((listed_set h3).2 (.inr (hanc _ e)))
              · exact .inr e
          unfold Oper.wp
          rw [act_eval']
          rcases hcx ρ w (Ext.refl _) hneeds with ⟨u,w',hr,hk,hg⟩ | ⟨w',hr,hk,hg⟩ | ⟨f,args,w',hr,hc⟩ | ⟨row,args,w',hr,hc⟩
          · rw [hr]; simp only [Oper.upon]; rw [act_putO]; exact next u w' hk hg
          · rw [hr]; simp only [Oper.upon]; rw [act_putO]; exact next undef w' hk hg
          · rw [hr]; simp only [Oper.upon]
            refine Calls.mono hc fun e w'' h'=>?_
            cases e with
            | returned u=>simp only; rw [act_putO]; exact next u w'' h'.1 h'.2
            | panicked _=>exact h'.elim
            | outgrown=>exact h'.elim
          · rw [hr]; simp only [Oper.upon]
            refine Rows.mono hc fun u w'' h'=>?_
            rw [act_putO]; exact next u w'' h'.1 h'.2
  have hks:=c.size
  have l0:∀ i,listed0.getD i false=false:=fun i=>by
    by_cases hi:i<ops.size
    · cases hh:listed0.getD i false
      · rfl
      · have:=(hl0 i hi).1 hh; omega
    · have:¬ i<listed0.size:=by omega
      simp [Array.getD_eq_getD_getElem?,this]
  have no:∀ i,¬ listed0.getD i false=true:=fun i h=>by rw [l0 i] at h; cases h
  refine main fuel0 listed0 pi [] [] [] ρ0 _ hsz0 ?_ ⟨h,k1,fun j=>⟨fun hj=>(by cases hj),fun ⟨h1,h2⟩=>?_⟩,fun p hp=>nblt (List.all_eq_true.1 k2 p hp),fun p _=>l0 _,fun m hm=>by (cases hm),fun m hm=>by (cases hm),fun m hm=>by (cases hm),
    fun i _ hl=>absurd hl (no i),fun t _=>rfl,fun p hp=>by (cases hp),fun i hl=>absurd hl (no i),fun i hl=>absurd hl (no i)⟩
  · have:((List.range k).filter (fun i => !listed0.getD i false)).length≤k:=by
      have:=List.length_filter_le (fun i => !listed0.getD i false) (List.range k); simpa using this
    omega
  · exfalso
    have:=List.all_eq_true.1 k3 j (List.mem_range.2 h1)
    obtain ⟨p,hp,e⟩:=List.any_eq_true.1 this
    exact h2 p hp (Nat.eq_of_beq_eq_true e)
section
variable {ρ0:Env} {E:Asg→World→Prop} {r:List (Nat×Bool)} {A:Asg} {L:List (Nat×PH)} {w:World} {T:Ty}
/-- No memory is read. -/
theorem GS_r0 [DM] {i:Nat} {o:Oper} (l:List (Nat×Value)) (v:Value) (ho:ops.toList[i]?=some o) (hg:gOn A o=some true) (hl:∀ ρ,needs ρ0 (look A) ρ (src.getD i [])→agrees ρ l)
    (h:∀ ρ w',(execOp (opd n (setAll l ρ)) o).run P w' = .ok (.value v) w') (H:GS P n ops anc src ρ0 E r ((i,v) :: A) L w):GS P n ops anc src ρ0 E ((i,false) :: r) A L w :=
  ⟨o,ho,.inr (.inl ⟨hg,rfl,v,[],fun ρ w' hn _ => .inl (forget (R:=fun ρ=>(execOp (opd n ρ) o).run P w' = .ok (.value v) w') l (hl ρ hn) fun ρ=>h ρ w'),fun _ hh=>(by cases hh),H⟩)⟩
theorem GS_ev [DM] (ok:TyOk P T) {i:Nat} {o:Oper} (l:List (Nat×Value)) (v:Value) (ho:ops.toList[i]?=some o) (hg:gOn A o=some true) (hl:∀ ρ,needs ρ0 (look A) ρ (src.getD i [])→agrees ρ l)
    (h:∀ ρ,evOp T n (setAll l ρ) o.op=some v) (H:GS P n ops anc src ρ0 E r ((i,v) :: A) L w):GS P n ops anc src ρ0 E ((i,false) :: r) A L w :=
  GS_r0 l v ho hg hl (fun ρ _=>run_evOp ok (h ρ)) H
theorem GS_r1 [DM] {i:Nat} {o:Oper} {h:PH} (l:List (Nat×Value)) (v:Value) (ho:ops.toList[i]?=some o) (hg:gOn A o=some true) (hl:∀ ρ,needs ρ0 (look A) ρ (src.getD i [])→agrees ρ l)
    (hr:∀ ρ w',Sub h w'→(execOp (opd n (setAll l ρ)) o).run P w' = .ok (.value v) w') (e:Sub h w) (H:GS P n ops anc src ρ0 E r ((i,v) :: A) ((i,h) :: L) w):GS P n ops anc src ρ0 E ((i,false) :: r) A L w :=
  ⟨o,ho,.inr (.inl ⟨hg,rfl,v,[h],fun ρ w' hn hs => .inl (forget (R:=fun ρ=>(execOp (opd n ρ) o).run P w' = .ok (.value v) w') l (hl ρ hn) fun ρ=>hr ρ w' (hs h (by simp))),fun a hh=>(by simp at hh; subst hh; exact e),H⟩)⟩
def subAll:List PH→World→Prop
  | [],_=>True
  | h :: hs,w=>Sub h w∧subAll hs w
theorem subAll_iff:∀ {hs:List PH} {w:World},subAll hs w↔∀ h∈hs,Sub h w
  | [],w=>⟨fun _ h hh=>(by cases hh),fun _=>trivial⟩
  | h :: hs,w=>by simp [subAll,subAll_iff (hs:=hs) (w:=w)]
/-- A call that comes to the same whatever the world: what it reads stands. -/
theorem GS_q [DM] {i:Nat} {f:FuncId} {o:Oper} {args:Array Operand} {tys:Array TypeId} (l:List (Nat×Value)) (v:Value) (hs:List PH) (vals:List Value) (ho:ops.toList[i]?=some o) (hg:gOn A o=some true) (hl:∀ ρ,needs ρ0 (look A) ρ (src.getD i [])→agrees ρ l)
    (hop:o.op = .call ⟨.value (.func f),args,tys⟩) (hf:Callable P f) (ha:∀ ρ,args.toList.map (opd n (setAll l ρ))=vals) (hc:∀ w',subAll hs w'→CallsTo P f vals.toArray w' fun u w''=>u=v∧Ext w' w'') (e:subAll hs w)
    (H:GS P n ops anc src ρ0 E r ((i,v) :: A) (hs.map (fun h=>(i,h))++L) w):GS P n ops anc src ρ0 E ((i,false) :: r) A L w :=
  ⟨o,ho,.inr (.inl ⟨hg,rfl,v,hs,fun ρ w' hn hs' => .inr ⟨f,vals.toArray,forget (R:=fun ρ=>(execOp (opd n ρ) o).run P w' = .ok (.enter f vals.toArray) w') l (hl ρ hn) fun ρ=>ex_call hop hf (ha ρ) w',hc w' (subAll_iff.2 hs')⟩,subAll_iff.1 e,H⟩)⟩
/-- The operation alone, without its guard. -/
def solo (o:Oper):Oper:=⟨o.dst,o.op,o.type,o.pos,o.after,none⟩
def QK (n:Nat) (o:Oper) (ρ:Env) (K:Value→World→Prop):Exit→Act→World→Prop
  | .normal,a,w=>∃ u,a=act n (updO ρ o.dst u)∧K (dv o u) w
  | _,_,_=>False
def dOk (n:Nat):Option Nat→Bool
  | none=>true
  | some d=>Nat.blt d n
theorem put_inj {ρ:Env} {d:Option Nat} {u v:Value} {o:Oper} (hd:o.dst=d) (hk:dOk n d=true) (h:act n (updO ρ d u)=act n (updO ρ d v)):dv o u=dv o v:=by
  subst hd
  cases hod:o.dst with
  | none=>simp [dv,hod]
  | some d =>
    rw [hod] at h hk
    rw [dv_some hod,dv_some hod]
    have hlt:d<n:=nblt hk
    have h1:=congrArg (fun a:Act=>a.tmps[d]?) h
    simp only [act_get,if_pos hlt,updO,upd,if_true,Option.some.injEq] at h1
    exact h1
/-- An operation that makes or writes: walked by itself. -/
theorem GS_lp [DM] {i:Nat} {o:Oper} (l:List (Nat×Value)) (ho:ops.toList[i]?=some o) (hg:gOn A o=some true) (hl:∀ ρ,needs ρ0 (look A) ρ (src.getD i [])→agrees ρ l) (hd:dOk n o.dst=true)
    (H:∀ ρ w',Ext w w'→LP P n #[solo o] (QK n o (setAll l ρ) fun u w''=>kept (anc.getD i []) w'' L∧GS P n ops anc src ρ0 E r ((i,u) :: A) L w'') 0 (setAll l ρ) w'):GS P n ops anc src ρ0 E ((i,true) :: r) A L w:=by
  refine ⟨o,ho,.inr (.inr ⟨hg,rfl,fun ρ w' x hn=>?_⟩)⟩
  refine forget (R:=fun ρ=>CX P n o ρ w' fun u w''=>kept (anc.getD i []) w'' L∧GS P n ops anc src ρ0 E r ((i,dv o u) :: A) L w'') l (hl ρ hn) fun ρ=>?_
  have h:=H ρ w' x
  generalize setAll l ρ=ρ at h
  unfold LP at h
  simp only [List.drop_zero] at h
  unfold wpList at h
  have hw:Region.wanted (solo o) (yielded #[solo o] (act n ρ).tmps)=true:=rfl
  rw [hw,if_pos rfl] at h
  rcases h with h | ⟨_,h⟩
  · unfold Oper.wp at h
    rw [act_eval'] at h
    have hs:execOp (opd n ρ) (solo o)=execOp (opd n ρ) o:=rfl
    rw [hs] at h
    unfold CX
    generalize (execOp (opd n ρ) o).run P w'=res at h ⊢
    cases res with
    | ok nx w'' =>
      cases nx
      case value v =>
        simp only [Oper.upon] at h
        left
        simp only [wpList,QK] at h
        obtain ⟨u,h1,h2⟩:=h
        rw [act_putO] at h1
        have:=put_inj (o:=o) rfl hd h1
        rw [← this] at h2
        exact ⟨v,w'',rfl,h2⟩
      case skip =>
        simp only [Oper.upon] at h
        right; left
        simp only [wpList,QK] at h
        obtain ⟨u,h1,h2⟩:=h
        rw [act_putO] at h1
        have:=put_inj (o:=o) rfl hd h1
        rw [← this] at h2
        exact ⟨w'',rfl,h2⟩
      case enter f args =>
        simp only [Oper.upon] at h
        right; right; left
        refine ⟨f,args,w'',rfl,Calls.mono h fun e w3 h'=>?_⟩
        cases e with
        | returned v =>
          simp only [wpList,QK] at h' ⊢
          obtain ⟨u,h1,h2⟩:=h'
          rw [act_putO] at h1
          have:=put_inj (o:=o) rfl hd h1
          rw [← this] at h2
          exact h2
        | panicked _=>simp [QK] at h'
        | outgrown=>simp [LetsOut,QK] at h'
      case row row args =>
        simp only [Oper.upon] at h
        right; right; right
        refine ⟨row,args,w'',rfl,Rows.mono h fun v w3 h'=>?_⟩
        simp only [wpList,QK] at h' ⊢
        obtain ⟨u,h1,h2⟩:=h'
        rw [act_putO] at h1
        have:=put_inj (o:=o) rfl hd h1
        rw [← this] at h2
        exact h2
      case defer d =>
        simp only [Oper.upon,wpList,QK] at h
        obtain ⟨u,h1,_⟩:=h
        have:=congrArg (fun a:Act=>a.defers) h1
        cases hq:(solo o).dst <;> simp [hq,Act.put,act] at this
      all_goals simp [Oper.upon] at h
    | halt e w''=>cases e <;> simp [Oper.upon,QK] at h
  · simp [LetsOut,QK] at h
theorem LP_gs {o:Oper} {ρ:Env} {u:Value} {K:Value→World→Prop} (h:K (dv o u) w):LP P n #[solo o] (QK n o ρ K) 1 (updO ρ (solo o).dst u) w:=by
  unfold LP; exact ⟨u,rfl,h⟩
end
/-- What is left stands one behind the other. -/
def tailChk (ops:Array Oper) (k:Nat) (anc:List (List Nat)):Bool :=
  (List.range ops.size).all (fun i =>
    match ops.toList[i]? with
    | none=>false
    | some o =>
      o.after.toList.all (fun e => !Region.binds .any e || Nat.blt e.on i) &&
      (anc.getD i []).all (fun j=>o.after.toList.any fun e=>Region.binds .any e&&(Nat.beq e.on j || (anc.getD e.on []).contains j)) &&
      (Nat.blt i k || (List.range i).all (fun j=>(anc.getD i []).contains j)))&&Nat.ble k ops.size
theorem AP_tail {ρ:Env} {w:World} {Q:Exit→Act→World→Prop} (k:Nat) (anc:List (List Nat)) (chk:tailChk ops k anc=true) (h:LP P n ops Q k ρ w):AP P n ops Q k ρ w:=by
  unfold tailChk at chk
  simp only [Bool.and_eq_true] at chk
  obtain ⟨chk,hks⟩:=chk
  have hks:=Nat.le_of_ble_eq_true hks
  have g:∀ i o,ops[i]?=some o→_:=fun i o ho=>by
    have hi:i<ops.size:=(Array.getElem?_eq_some_iff.1 ho).1
    have:=List.all_eq_true.1 chk i (List.mem_range.2 hi)
    rw [show ops.toList[i]?=some o by rw [Array.getElem?_toList]; exact ho] at this
    simp only [Bool.and_eq_true] at this
    exact this
  have edge:∀ (i:Nat) (o:Oper),ops[i]?=some o→∀ e∈o.after,Region.binds .any e=true→e.on<i:=fun i o ho e he hb=>by
    have:=List.all_eq_true.1 (g i o ho).1.1 e (Array.mem_toList_iff.2 he)
    simp only [hb,Bool.not_true,Bool.false_or] at this
    exact nblt this
  have up:∀ (i:Nat) (o:Oper),ops[i]?=some o→∀ j∈anc.getD i [],∃ e∈o.after,Region.binds .any e=true∧(e.on=j∨j∈anc.getD e.on []):=fun i o ho j hj=>by
    have:=List.all_eq_true.1 (g i o ho).1.2 j hj
    obtain ⟨e,he,hb⟩:=List.any_eq_true.1 this
    simp only [Bool.and_eq_true,Bool.or_eq_true] at hb
    exact ⟨e,Array.mem_toList_iff.1 he,hb.1,hb.2.imp (fun h=>Nat.eq_of_beq_eq_true h) (fun h=>by simpa using h)⟩
  have tail:∀ i,i<ops.size→k≤i→∀ j,j<i→j∈anc.getD i []:=fun i hi hk j hj=>by
    have ho:ops[i]?=some ops[i]:=by simp [hi]
    have:=(g i _ ho).2
    simp only [Bool.or_eq_true] at this
    rcases this with h | h
    · have:=nblt h; omega
    · have:=List.all_eq_true.1 h j (List.mem_range.2 hj); simpa using this
  have small:∀ m,m<ops.size→∀ x∈anc.getD m [],x<m:=by
    intro m
    induction m using Nat.strongRecOn with
    | _ m ihm =>
      intro hm x hx
      obtain ⟨e,hee,hb,hx'⟩:=up m ops[m] (by simp [hm]) x hx
      have:=edge m _ (by simp [hm]) e hee hb
      rcases hx' with hx' | hx'
      · omega
      · have:=ihm e.on this (by omega) x hx'; omega
  have main:∀ (fuel j:Nat) (listed:Array Bool) (a:Act) (w:World),ops.size≤j+fuel→k≤j→listed.size=ops.size →
      (∀ i,i<ops.size→(listed.getD i false=true↔i<j))→wpList P ops Q (ops.toList.drop j) a w→wpAny P .any ops Q fuel listed a w:=by
    intro fuel
    have fin_:∀ (j:Nat) (listed:Array Bool) (a:Act) (w:World),ops.size≤j→listed.size=ops.size→(∀ i,i<ops.size→(listed.getD i false=true↔i<j))→wpList P ops Q (ops.toList.drop j) a w →
        Region.ready .any ops listed=[]∧Q .normal a w:=by
      intro j listed a w hj hsz hl h
      have hd:ops.toList.drop j=[]:=List.drop_eq_nil_of_le (by simp; omega)
      rw [hd] at h
      refine ⟨List.eq_nil_iff_forall_not_mem.2 fun i hi=>?_,h⟩
      obtain ⟨h1,h2,_⟩:=mem_ready' hi
      have h3:i<listed.size:=by omega
      have h4:listed.getD i true=listed.getD i false:=by simp [Array.getD_eq_getD_getElem?,h3]
      rw [h4,(hl i h1).2 (by omega)] at h2; cases h2
    induction fuel with
    | zero=>intro j listed a w hj hk hsz hl h; exact fin_ j listed a w (by omega) hsz hl h
    | succ fuel ih =>
      intro j listed a w hj hk hsz hl h
      by_cases hjs:j<ops.size
      case neg =>
        obtain ⟨h1,h2⟩:=fin_ j listed a w (by omega) hsz hl h
        exact ⟨fun _=>h2,fun i hi=>by rw [h1] at hi; cases hi⟩
      have ho:ops[j]?=some ops[j]:=by simp [hjs]
      have hrj:j∈Region.ready .any ops listed:=by
        refine ready_of ho ?_ fun e he hb=>(hl e.on (by have:=edge j _ ho e he hb; omega)).2 (edge j _ ho e he hb)
        have h3:j<listed.size:=by omega
        have h4:listed.getD j true=listed.getD j false:=by simp [Array.getD_eq_getD_getElem?,h3]
        rw [h4]
        cases hh:listed.getD j false
        · rfl
        · have:=(hl j hjs).1 hh; omega
      refine ⟨fun h0=>(by rw [h0] at hrj; cases hrj),fun i hi=>?_⟩
      obtain ⟨h1,h2,o,hio,he⟩:=mem_ready' hi
      have h3:i<listed.size:=by omega
      have h4:listed.getD i true=listed.getD i false:=by simp [Array.getD_eq_getD_getElem?,h3]
      rw [h4] at h2
      have hij:i=j:=by
        rcases Nat.lt_trichotomy i j with h5 | h5 | h5
        · have:=(hl i h1).2 h5; rw [h2] at this; cases this
        · exact h5
        · exfalso
          have ha:=tail i h1 (by omega) j h5
          obtain ⟨e,hee,hb,hx⟩:=up i o hio j ha
          have hlt:=edge i _ hio e hee hb
          have hel:=(hl e.on (by omega)).1 (he e hee hb)
          rcases hx with hx | hx
          · omega
          · have:=small e.on (by omega) j hx; omega
      subst hij
      have hdrop:ops.toList.drop i=ops[i] :: ops.toList.drop (i+1):=drop_cons (by simp [hjs])
      rw [hdrop] at h
      have hl':∀ m,m<ops.size→((listed.setIfInBounds i true).getD m false=true↔m<i+1):=fun m hm=>by
        rw [listed_set h3,hl m hm]; omega
      have next:∀ a' w',wpList P ops Q (ops.toList.drop (i+1)) a' w'→wpAny P .any ops Q fuel (listed.setIfInBounds i true) a' w':=fun a' w' h' =>
        ih (i+1) _ a' w' (by omega) (by omega) (by simpa using hsz) hl' h'
      unfold wpOp
      rw [ho]
      simp only [wpList] at h
      split at h
      · rename_i hw; simp only [hw,if_true]; exact h.imp (Oper.wp_mono next) id
      · rename_i hw; simp only [hw]; exact next _ _ h
  intro fuel listed hsz hf hl
  exact main fuel k listed _ _ hf (Nat.le_refl _) hsz hl (by unfold LP at h; exact h)
end
end Go.Gv
/- Open regions in which several operations that make or write may come first: each of them is walked. -/
namespace Go.Gv
open Go Go.RowKit
section
variable {P:Program} {n:Nat} {N:Asn} {X:Nat→Asn} {R:Asn} {ops:Array Oper} {k:Nat} {anc:List (List Nat)} {src:List (List (Nat×Option Nat))} {fin:List (Nat×Option Nat)}
end
end Go.Gv
/- Open regions: several operations that make something new stand in no order; what they make does not depend on it. -/
namespace Go.Gv
open Go Go.RowKit
end Go.Gv
/- Slices that the call owns whole: the row, and what its elements lead to. -/
namespace Go.Gv
open Go Go.RowKit
class Deep (α:Type) extends Enc α where
  own:PH→List Value→α→Prop
  ord:∀ {h cs x},own h cs x→rd h cs x
instance deepFlat {α:Type} [i:Flat α]:Deep α where
  own h cs x:=h=emp∧Enc.rd emp cs x
  ord:=fun ⟨e,r⟩=>by subst e; exact r
theorem Le.un_r {h g:PH} (d:Dj h g):Le g (un h g):=fun b o e=>by
  unfold un
  rcases d b with x | x
  · rw [x]; exact e
  · rw [x] at e; cases e
/-- Where h ends, h' ends. -/
def Dom (h h':PH):Prop:=∀ b,h b=none→h' b=none
theorem Dom.refl (h:PH):Dom h h:=fun _ x=>x
theorem Dom.le {h h':PH} (d:Dom h h') (n:Nat):DomLe h n h':=fun b e _=>d b e
theorem DomLe.dom {a b c:PH} {n:Nat} (x:Dom a b) (y:DomLe b n c):DomLe a n c:=fun k e hk=>y k (x k e) hk
def ownL {α:Type} [Deep α]:PH→List Value→List α→Prop
  | r,cells,[]=>cells=[]∧r=emp
  | r,cells,x :: xs=>∃ c cr h1 h2,cells=c++cr∧r=un h1 h2∧Dj h1 h2∧Deep.own h1 c x∧ownL h2 cr xs
/-- v is a slice whose row, and all that its elements lead to, h holds: each part apart from the others. -/
def OD {α:Type} [Deep α] (h:PH) (v:Value) (xs:List α):Prop :=
  ∃ cells hr r,OwnC 0 (Enc.n α) hr v xs.length cells∧h=un hr r∧Dj hr r∧ownL r cells xs
section
variable {α:Type} [Deep α] {h r:PH} {v:Value} {xs ys:List α} {cells:List Value}
theorem ownL.rd (o:ownL r cells xs):rdL r cells xs:=by
  induction xs generalizing r cells with
  | nil=>exact o.1
  | cons x xs ih =>
    obtain ⟨c,cr,h1,h2,rfl,rfl,d,hx,ho⟩:=o
    exact ⟨c,cr,rfl,Enc.le (Le.un_left _ _) (Deep.ord hx),(ih ho).le (Le.un_r d)⟩
theorem OD.os (o:OD h v xs):∃ hr r,h=un hr r∧Dj hr r∧OS 0 hr r v xs :=
  let ⟨cells,hr,r,h1,h2,h3,h4⟩:=o; ⟨hr,r,h2,h3,cells,h1,h4.rd⟩
theorem OD.readf (o:OD h v xs):RS h v xs:=by
  obtain ⟨hr,r,rfl,d,o⟩:=o.os
  exact o.read (Le.un_left _ _) (Le.un_r d)
instance:Deep (List α) where
  own h cs xs:=∃ v,cs=[v]∧OD h v xs
  ord:=fun ⟨v,h,o⟩=>⟨v,h,o.readf⟩
end
end Go.Gv
/- Structures: the cells of their fields one behind the other. -/
namespace Go.Gv
open Go Go.RowKit
instance encProd {α β:Type} [Enc α] [Enc β]:Enc (α×β) where
  n:=Enc.n α+Enc.n β
  agg:=true
  rd h cs x:=∃ a b,cs=a++b∧Enc.rd h a x.1∧Enc.rd h b x.2
  len:=fun ⟨a,b,e,p,q⟩=>by subst e; rw [List.length_append,Enc.len p,Enc.len q]
  le l:=fun ⟨a,b,e,p,q⟩=>⟨a,b,e,Enc.le l p,Enc.le l q⟩
  one:=fun ⟨a,b,e,p,q⟩ c hc=>by
    subst e
    rcases List.mem_append.1 hc with hc | hc
    · exact Enc.one p c hc
    · exact Enc.one q c hc
  sing h:=by cases h
@[reducible] def Enc.via {S T:Type} [Enc T] (f:S→T):Enc S where
  n:=Enc.n T
  agg:=true
  rd h cs x:=Enc.rd h cs (f x)
  len h:=Enc.len h
  le l h:=Enc.le l h
  one h:=Enc.one h
  sing h:=by cases h
instance deepProd {α β:Type} [Deep α] [Deep β]:Deep (α×β) where
  own h cs x:=∃ a b h1 h2,cs=a++b∧h=un h1 h2∧Dj h1 h2∧Deep.own h1 a x.1∧Deep.own h2 b x.2
  ord:=fun ⟨a,b,h1,h2,e,e2,d,p,q⟩=>by
    subst e e2
    exact ⟨a,b,rfl,Enc.le (Le.un_left _ _) (Deep.ord p),Enc.le (Le.un_r d) (Deep.ord q)⟩
@[reducible] def Deep.via {S T:Type} [Deep T] (f:S→T):Deep S :=
  { Enc.via f with
    own:=fun h cs x=>Deep.own h cs (f x)
    ord:=fun h=>Deep.ord h }
section
variable {P:Program} {n:Nat} {ρ:Env} {w:World} {ops:Array Oper} {Q:Exit→Act→World→Prop} {K:Env→Prop}
theorem QP_slice [DM] {α:Type} [Enc α] {h:PH} {v:Value} {xs:List α} {t e:TypeId} {bytes:Nat} {z:Value} {o:Oper} {x:Operand} {lo up:Option Operand} {lv uv:Option Value} (k:Nat) (l u:Int)
    (at0:At n ops ρ k o (.slice t x lo up none)) (hu:P.underlying t=some (.slice e)) (hi:TyI P e (Enc.n α) bytes z)
    (hx:opd n ρ x=v) (hl:lo.map (opd n ρ)=lv) (huv:up.map (opd n ρ)=uv) (r:RS h v xs) (hlo:(lv=none∧l=0)∨lv=some (I l)) (hup:(uv=none∧u=(xs.length:Int))∨uv=some (I u))
    (h0:0≤l) (h1:l≤u) (h2:u≤(xs.length:Int))
    (H:∀ v',RS h v' ((xs.drop l.toNat).take (u.toNat-l.toNat))→QP P n ops w K (k+1) (updO ρ o.dst v')):QP P n ops w K k ρ:=by
  obtain ⟨v',h3,h4⟩:=run_slice_RS hu hi r lv uv l u hlo hup h0 h1 h2
  exact QP_val k o at0.o at0.g (fun w' _=>ex_slice at0.op hx hl huv (h3 w')) (H v' h4)
/-- string(b). -/
def b2s (xs:List B8):ByteArray:=xs.foldl (fun s x=>s.push (UInt8.ofNat x.v.toNat)) .empty
theorem run_b2s {src dst e:TypeId} {h:PH} {v:Value} {xs:List B8} (hs:P.underlying src=some (.slice e)) (he:P.underlying e=some (.int .u8)) (hd:P.underlying dst=some .string) (r:RS h v xs) (w:World) (e':Sub h w) :
    (convert src dst v).run P w = .ok (.string (b2s xs)) w:=by
  have hb:b2s xs=(xs.map (·.v)).foldl (fun r n=>r.push (UInt8.ofNat n.toNat)) ByteArray.empty:=by unfold b2s; rw [List.foldl_map]
  rcases r with ⟨rfl,rfl⟩ | ⟨a,cap,rfl,hc,hsp,hx⟩
  · rw [run_convert_bytes_string w src dst e _ _ _ hs he hd]; rfl
  · rw [run_convert_bytes_string w src dst e _ _ _ hs he hd,hb]
    refine run_bytesToString w a xs.length cap _ ?_
    have:=loadCells_run (P:=P) (w:=w) a (xs.map fun x=>Value.int .u8 x.v) 0 #[] fun j c hj=>by
      rw [List.getElem?_map] at hj
      obtain ⟨x,hx1,rfl⟩:=Option.map_eq_some_iff.1 hj
      obtain ⟨cs,h1,h2⟩:=hx j x hx1
      have h2:cs=[.int .u8 x.v]:=h2
      subst h2
      have h3:=h1 0 _ rfl
      rw [addr_add0,show Enc.n B8=1 from rfl,Nat.mul_one] at h3
      rw [Nat.zero_add]; exact cellH_world e' h3
    rw [List.length_map] at this
    simp only [loadCells]
    rw [this]; simp
theorem ex_b2s {o:Oper} {src dst e:TypeId} {x:Operand} {h:PH} {v:Value} {xs:List B8} (hop:o.op = .convert src dst x) (hs:P.underlying src=some (.slice e)) (he:P.underlying e=some (.int .u8)) (hd:P.underlying dst=some .string) (hx:opd n ρ x=v) (r:RS h v xs) (w:World) (e':Sub h w) :
    (execOp (opd n ρ) o).run P w = .ok (.value (.string (b2s xs))) w:=by
  simp only [execOp,hop,hx,Sem.run_bind,run_b2s hs he hd r w e']; rfl
end
end Go.Gv
/- Closures, recursion, maps, slices held against nil, a slice that is only appended to. -/
namespace Go.Gv
open Go Go.RowKit
def Rec1 {A Q:Type} (body:(A→Q→Prop)→A→Q→Prop) (a_:A) (q:Q):Prop :=
  ∃ (Sp:A→Q→Prop) (μ:A→Nat),Sp a_ q∧∀ a_ q,Sp a_ q→body (fun a' q'=>Sp a' q'∧μ a'<μ a_) a_ q
end Go.Gv
/- A store to a field of an element that holds owned slices. -/
namespace Go.Gv
open Go Go.RowKit
theorem bb7 {A1 A2 A3 A4 A5 A6 A7 Z:Prop} (k:A1→A2→A3→A4→A5→A6→A7→Z):A1∧A2∧A3∧A4∧A5∧A6∧A7→Z:=fun h=>k h.1 h.2.1 h.2.2.1 h.2.2.2.1 h.2.2.2.2.1 h.2.2.2.2.2.1 h.2.2.2.2.2.2
/-- A slice whose length is that of its list. -/
abbrev sl {α:Type} (a:Option Addr) (xs:List α) (c:Nat):Value := .slice a xs.length c
/-- The address of a box. -/
abbrev pb (b:Nat):Value := .pointer (some ⟨b,0,none⟩)
end Go.Gv
/- A slice taken out of a field of an element, and another put in its place. -/
namespace Go.Gv
open Go Go.RowKit
end Go.Gv
/- Arguments as they come in, read as plain data. -/
namespace Go.Gv
open Go Go.RowKit Go.ChangeShapes Go.WideShapes Go.ChangeAt
/-- All of a world's heap. -/
def pw (w:World):PH:=fun b=>w.heap[b]?
theorem pw_sub (w:World):Sub (pw w) w:=fun _ _ h=>h
theorem cellH_pw {w:World} {a:Addr} {v:Value} (h:w.cell? a=some v):cellH (pw w) a=some v:=h
class Wf (α:Type) where
  wf:α→Prop
instance:Wf Int:=⟨fun x => -9223372036854775808≤x∧x≤9223372036854775807⟩
instance:Wf Bool:=⟨fun _=>True⟩
instance:Wf ByteArray:=⟨fun x=>x.size≤maxLen⟩
instance:Wf B8:=⟨fun x=>0≤x.v∧x.v≤255⟩
instance {α:Type} [Wf α]:Wf (List α):=⟨fun xs=>xs.length≤maxLen∧∀ x∈xs,Wf.wf x⟩
structure OpnT (P:Program) (t:TypeId) (α:Type) [Enc α] [Wf α]:Prop where
  sz:P.cellsOf t=Enc.n α
  rd:∀ {H:Type} {enc:TypeId×Value→H} {w:World} {base:Nat} {spare:Nat→Bool} {held:Bool} {fuel:Nat} {cs:List Value} {x:DataW H×List MemPlace},
    DataW.trod enc P w base spare held fuel t cs=some x→∃ y:α,Enc.rd (pw w) cs y∧Wf.wf y
  shape:∀ {w:World} {r:Reach} {base:Nat} {v:Value},Value.okWide P w r base t v→v=vOf (Enc.agg α) v.cells.toList
section
variable {P:Program} {t:TypeId} {H:Type} {enc:TypeId×Value→H} {W:World} {r:Reach} {b0 base:Nat} {spare:Nat→Bool} {held:Bool} {v:Value} {d:DataW H} {ps:List MemPlace}
theorem OpnT.open {α:Type} [Enc α] [Wf α] (o:OpnT P t α) (hval:Value.okWide P W r b0 t v) (h:DataW.Trod enc P W base spare held t v d ps):∃ y:α,RV (pw W) v y∧Wf.wf y:=by
  obtain ⟨fuel,hf⟩:=h
  obtain ⟨y,h1,h2⟩:=o.rd hf
  exact ⟨y,⟨_,h1,o.shape hval⟩,h2⟩
theorem trod_lt' (h:DataW.Trod enc P W base spare held t v d ps):∀ x∈ps,x.block<W.heap.size:=by
  obtain ⟨m,hm⟩:=h; exact DataW.trod_lt m _ _ _ hm
theorem opn_int (ht:P.underlying t=some (.int .i64)) (hs:P.cellsOf t=1):OpnT P t Int where
  sz:=hs
  rd h:=by
    obtain ⟨n,rfl,_,hw⟩:=DataW.trod_int ht h
    exact ⟨n,rfl,bounds_i64 hw⟩
  shape h:=by obtain ⟨n,rfl⟩:=okWide_int ht h; rfl
theorem opn_str (ht:P.underlying t=some .string) (hs:P.cellsOf t=1):OpnT P t ByteArray where
  sz:=hs
  rd h:=by
    obtain ⟨s,rfl,_,hw⟩:=DataW.trod_string ht h
    exact ⟨s,rfl,hw⟩
  shape h:=by obtain ⟨b,rfl⟩:=okWide_string ht h; rfl
theorem list_of {α:Type} {p:Nat→α→Prop}:∀ {n:Nat},(∀ i,i<n→∃ y,p i y)→∃ ys:List α,ys.length=n∧∀ i y,ys[i]?=some y→p i y
  | 0,_=>⟨[],rfl,fun i y h=>by simp at h⟩
  | n+1,h=>by
    obtain ⟨ys,h1,h2⟩:=list_of (n:=n) fun i hi=>h i (by omega)
    obtain ⟨y,hy⟩:=h n (by omega)
    refine ⟨ys++[y],by simp [h1],fun i z hz=>?_⟩
    by_cases hi:i<n
    · rw [List.getElem?_append_left (by omega)] at hz; exact h2 i z hz
    · have hlt:=(List.getElem?_eq_some_iff.1 hz).1
      rw [List.length_append] at hlt
      simp at hlt
      have:i=ys.length:=by omega
      subst this
      rw [List.getElem?_append_right (by omega)] at hz
      simp at hz; subst hz; rw [h1]; exact hy
theorem cells_get {w:World} {base n:Nat} {a:Addr} {cs:List Value} (h:w.cells? base a n=some cs) (j:Nat) (c:Value) (hj:cs[j]?=some c):w.cell? (a.add j)=some c:=by
  unfold World.cells? at h
  split at h
  · have hlen:cs.length=n:=by simpa using mapM_some_length h
    have hjn:j<n:=by have:=(List.getElem?_eq_some_iff.1 hj).1; omega
    have:=mapM_some_get h j j (by simp [hjn])
    rw [this,hj]
  · cases h
theorem opn_slice {α:Type} [Enc α] [Wf α] {e:TypeId} (ht:P.underlying t=some (.slice e)) (hs:P.cellsOf t=1) (o:OpnT P e α) (hp:0<Enc.n α):OpnT P t (List α) where
  sz:=hs
  shape h:=by obtain ⟨a,l,c,rfl⟩:=okWide_slice ht h; rfl
  rd {H enc w base spare held fuel cs x} h:=by
    rcases DataW.trod_slice ht h with ⟨rfl,_⟩ | ⟨a,len,cap,elems,rest,n,_,rfl,_,hb,hl,hm,hlen,hel,_,_⟩
    · exact ⟨[],⟨_,rfl,.inl ⟨rfl,rfl⟩⟩,Nat.zero_le _,fun x hx=>by simp at hx⟩
    · have each:∀ i,i<len→∃ y:α,(∃ cs,rdAt (pw w) (a.add (i * Enc.n α)) cs∧Enc.rd (pw w) cs y)∧Wf.wf y:=fun i hi=>by
        have h1:=hel i hi
        have h2:elems[i]?=some elems[i]:=by simp [show i<elems.length by omega]
        rw [h2] at h1
        obtain ⟨cs,hc,ht'⟩:=Option.bind_eq_some_iff.1 h1
        obtain ⟨y,hy,hw⟩:=o.rd ht'
        rw [o.sz] at hc
        exact ⟨y,⟨cs,fun j c hj=>cellH_pw (cells_get hc j c hj),hy⟩,hw⟩
      obtain ⟨ys,h1,h2⟩:=list_of each
      refine ⟨ys,⟨_,rfl,.inr ⟨a,cap,by rw [h1],by omega,?_,fun i x hx=>(h2 i x hx).1⟩⟩,by omega,fun x hx=>?_⟩
      · cases ys with
        | nil=>exact .inl rfl
        | cons y ys =>
          right
          obtain ⟨⟨cs,hr,hd⟩,_⟩:=h2 0 y rfl
          have hcl:=Enc.len hd
          have:=hr 0 cs[0] (by simp [show 0<cs.length by omega])
          rw [Nat.zero_mul,addr_add0,addr_add0] at this
          exact World.cell?_spot (cellH_world (pw_sub w) this)
      · obtain ⟨i,hi,rfl⟩:=List.mem_iff_getElem.1 hx
        exact (h2 i ys[i] (by simp [hi])).2
theorem opn_fld {fs:Array Field} (ht:P.underlying t=some (.struct fs)) {w:World} {fuel:Nat} {cs:List Value} {x:DataW H×List MemPlace} (h:DataW.trod enc P w base spare held fuel t cs=some x) :
    cs.length=P.cellsOf t∧∀ (i:Nat) (f:Field),fs[i]?=some f→∀ (α:Type) [Enc α] [Wf α],OpnT P f.type α→∃ y:α,Enc.rd (pw w) ((cs.drop f.offset).take (Enc.n α)) y∧Wf.wf y:=by
  obtain ⟨xs,n,_,_,hl,hn,hx⟩:=DataW.trod_struct ht h
  refine ⟨hl,fun i f hf α _ _ o=>?_⟩
  have hi:i<fs.size:=(Array.getElem?_eq_some_iff.1 hf).1
  have h1:=hx i f hf
  have h2:xs[i]?=some xs[i]:=by simp [show i<xs.length by omega]
  rw [h2,o.sz] at h1
  exact o.rd h1
end
end Go.Gv
/- An owned row looked at from behind its front: what is taken off the front stays in the block. Elements that lead nowhere. -/
namespace Go.Gv
open Go Go.RowKit
end Go.Gv
/- Short names for what walks say most often. -/
namespace Go.Gv
open Go Go.RowKit
def agv (E:Env):List (Nat×Value)→List Value
  | []=>[]
  | (i,_) :: r=>E i :: agv E r
def vls:List (Nat×Value)→List Value
  | []=>[]
  | (_,v) :: r=>v :: vls r
theorem ag_of {E:Env}:∀ {l:List (Nat×Value)},agv E l=vls l→agrees E l
  | [],_=>trivial
  | (_,_) :: _,h=>⟨(List.cons.inj h).1,ag_of (List.cons.inj h).2⟩
theorem Ee {E:Env} {l:List (Nat×Value)} (h:agv E l=vls l):E=setAll l E:=env_eq (ag_of h)
def enumA:Nat→List Value→List (Nat×Value)
  | _,[]=>[]
  | k,v :: r=>(k,v) :: enumA (k+1) r
theorem enumA_ag:∀ (args pre:List Value),agrees (argEnv (pre++args)) (enumA pre.length args)
  | [],_=>trivial
  | v :: r,pre=>by
    have h:=enumA_ag r (pre++[v])
    rw [List.append_assoc,List.length_append] at h
    exact ⟨by simp [argEnv],h⟩
def resv (n:Nat) (ρ:Env):List ResultVar→Option (List Value)
  | []=>some []
  | .tmp t :: r=>match Nat.blt t n with | true=>(resv n ρ r).map (ρ t :: ·) | false=>none
  | _=>none
section
variable {P:Program} {T:Ty} {n:Nat} {N:Asn} {X:Nat→Asn} {R:Asn} {ρ:Env} {w:World} {ops:Array Oper}
theorem Wo {c:Code} (l:List (Nat×Value)) (h:agv ρ l=vls l) (H:∀ ρ,WP P n c N X R (setAll l ρ) w):WP P n c N X R ρ w:=W_forget l (ag_of h) H
theorem evList_len:∀ {r:List Oper} {ρ:Env} {l u:List (Nat×Value)},evList T n ops r ρ l=some u→r.length=l.length
  | [],_,[],_,_=>rfl
  | [],_,_ :: _,_,h=>by simp [evList] at h
  | _ :: _,_,[],_,h=>by simp [evList] at h
  | o :: r,ρ,(i,v) :: l,u,h=>by
    have key:∀ {us},evList T n ops r (upd ρ i v) l=some us→(o :: r).length=((i,v) :: l).length:=fun e=>by simp [evList_len e]
    unfold evList at h
    split at h
    · split at h
      · split at h
        · rename_i e; exact key e
        · cases h
      · split at h
        · rename_i e; exact key e
        · cases h
      · cases h
    · cases h
/-- A region, all of it at once. -/
theorem Wm {id:Nat} (ok:TyOk P T) (l:List (Nat×Value)) (h:evList T n ops ops.toList ρ l=some l) (H:N (updL ρ l) w):WP P n (.region id ops false) N X R ρ w:=by
  refine W_region (LP_ev_aux ok ops.toList 0 ρ l (fun j o hj=>by simpa using hj) h (LP_end _ ?_ H))
  rw [Nat.zero_add,← evList_len h,List.drop_length]
theorem Wl {id:Nat} (ok:TyOk P T) (l:List (Nat×Value)) (k':Nat) (h:(evList T n ops (ops.toList.take l.length) ρ l,l.length)=(some l,k')) (H:LP P n ops (pst n N X R) k' (updL ρ l) w):WP P n (.region id ops false) N X R ρ w :=
  W_region (LP_ev ok 0 l k' (by simpa using h) H)
end
theorem Rt {P:Program} {fn:Func} {n:Nat} {ρ:Env} {w:World} {vs:List Value} (h:resv n ρ fn.results.toList=some vs):Ret P fn n ρ w (tup vs):=by
  refine Ret_of vs ?_
  generalize fn.results.toList=l at h
  induction l generalizing vs with
  | nil=>cases h; trivial
  | cons a r ih =>
    cases a with
    | tmp t =>
      unfold resv at h
      split at h
      · rename_i ht
        cases hr:resv n ρ r with
        | none=>rw [hr] at h; cases h
        | some us=>rw [hr] at h; cases h; exact ⟨⟨ht,rfl⟩,ih hr⟩
      · cases h
    | cell a t=>cases h
/-- A function, entered. -/
theorem En {P:Program} {f:FuncId} {fn:Func} {c:Code} {args:List Value} {w:World} {R:Value→World→Prop} (n:Nat) (hf:P.funcs[f]?=some fn) (h:(fn.body,fn.ntmps,Nat.ble args.length n)=(some c,n,true))
    (H:∀ ρ,WP P n c (fun ρ w=>∃ v,Ret P fn n ρ w v∧R v w) (fun _ _ _=>False) (fun ρ w=>∃ v,Ret P fn n ρ w v∧R v w) (setAll (enumA 0 args) ρ) w):CallsTo P f args.toArray w R:=by
  have h1:=congrArg Prod.fst h
  have h2:=congrArg (·.2.1) h
  have h3:=congrArg (·.2.2) h
  exact enter n hf h1 h2 h3 (W_forget _ (enumA_ag args []) H)
abbrev Wg:=@W_region
abbrev Lv:=@LP_ev
abbrev Ln:=@LP_end
abbrev Wq:=@W_seq
abbrev Lb:=@LP_ldbox
abbrev Lc:=@LP_call
abbrev Lx [DM]:=@LP_stbox
abbrev Wc:=@W_cond
abbrev Wk:=@W_skip
abbrev Df:=@Dj.of_fresh
abbrev Db:=@Dj.box
abbrev Br [DM]:=@But.refl
abbrev Or:=@Dom.refl
abbrev Mt:=@DomLe.trans
abbrev Md:=@DomLe.dom
abbrev Li:=@LP_index
abbrev Lo:=@LP_load
abbrev Ly [DM]:=@LP_box
abbrev Oe:=@Dom.le
abbrev La [DM]:=@LP_alloc
end Go.Gv
/- A variable that is made at an open time beside a chain of calls: it is walked once, not at each place where it may come. -/
namespace Go.Gv
open Go Go.RowKit
end Go.Gv
instance Go.Gv.dm:Go.Gv.DM:=⟨False⟩
