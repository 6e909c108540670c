/- The layer, further: open regions, owned structures, closures, recursion, maps, arguments as they come in. -/
import Derived.Test.YtbgnaamdlcggjaaLibA
import Derived.Laws.BytesString
import Derived.WideLaws
import Derived.WideMake
import Derived.MapKept
import Derived.IntWalk
import Derived.ProofKit
import Derived.OpenShut
import Derived.ChangeOld
import Derived.Below
import Derived.Shelf.SlSortCmp.NoneTotal
/- Regions whose order is open: one order is walked; what only reads comes to the same in all of them, what makes or writes stands in a chain. -/
namespace Go.Gv
open Go Go.RowKit
section
variable {P:Program} {n:Nat} {N:Asn} {X:Nat→Asn} {R:Asn} {ops:Array Oper} {k:Nat} {anc:List (List Nat)} {src:List (List (Nat×Option Nat))} {fin:List (Nat×Option Nat)}
end
end Go.Gv
/- Open regions in which several operations that make or write may come first: each of them is walked. -/
namespace Go.Gv
open Go Go.RowKit
section
variable {P:Program} {n:Nat} {N:Asn} {X:Nat→Asn} {R:Asn} {ops:Array Oper} {k:Nat} {anc:List (List Nat)} {src:List (List (Nat×Option Nat))} {fin:List (Nat×Option Nat)}
end
end Go.Gv
/- Open regions: several operations that make something new stand in no order; what they make does not depend on it. -/
namespace Go.Gv
open Go Go.RowKit
end Go.Gv
/- Slices that the call owns whole: the row, and what its elements lead to. -/
namespace Go.Gv
open Go Go.RowKit
class Deep (α:Type) extends Enc α where
  own:PH→List Value→α→Prop
  ord:∀ {h cs x},own h cs x→rd h cs x
instance deepFlat {α:Type} [i:Flat α]:Deep α where
  own h cs x:=h=emp∧Enc.rd emp cs x
  ord:=fun ⟨e,r⟩=>by subst e; exact r
theorem un_none {h g:PH} {b:Nat}:un h g b=none↔h b=none∧g b=none:=by unfold un; cases h b <;> simp
theorem un_emp (h:PH):un h emp=h:=by funext b; unfold un emp; cases h b <;> rfl
theorem emp_un (h:PH):un emp h=h:=by funext b; rfl
theorem un_assoc (a b c:PH):un (un a b) c=un a (un b c):=by funext k; unfold un; cases a k <;> rfl
theorem Dj.comm {h g:PH} (d:Dj h g):un h g=un g h:=by
  funext b; unfold un
  rcases d b with e | e <;> rw [e]
  · cases g b <;> rfl
  · cases h b <;> rfl
theorem Dj.un_r {h a b:PH} (x:Dj h a) (y:Dj h b):Dj h (un a b):=fun k=>by
  rcases x k with e | e
  · exact .inl e
  · rcases y k with e' | e'
    · exact .inl e'
    · exact .inr (un_none.2 ⟨e,e'⟩)
theorem Dj.of_l {h a b:PH} (x:Dj h (un a b)):Dj h a:=fun k=>(x k).imp id fun e=>(un_none.1 e).1
theorem Dj.of_r {h a b:PH} (x:Dj h (un a b)):Dj h b:=fun k=>(x k).imp id fun e=>(un_none.1 e).2
theorem Dj.emp_r (h:PH):Dj h emp:=fun _ => .inr rfl
theorem Dj.emp_l (h:PH):Dj emp h:=fun _ => .inl rfl
theorem Le.un_r {h g:PH} (d:Dj h g):Le g (un h g):=fun b o e=>by
  unfold un
  rcases d b with x | x
  · rw [x]; exact e
  · rw [x] at e; cases e
/-- Where h ends, h' ends. -/
def Dom (h h':PH):Prop:=∀ b,h b=none→h' b=none
theorem Dom.refl (h:PH):Dom h h:=fun _ x=>x
theorem Dom.le {h h':PH} (d:Dom h h') (n:Nat):DomLe h n h':=fun b e _=>d b e
def ownL {α:Type} [Deep α]:PH→List Value→List α→Prop
  | r,cells,[]=>cells=[]∧r=emp
  | r,cells,x :: xs=>∃ c cr h1 h2,cells=c++cr∧r=un h1 h2∧Dj h1 h2∧Deep.own h1 c x∧ownL h2 cr xs
/-- v is a slice whose row, and all that its elements lead to, h holds: each part apart from the others. -/
def OD {α:Type} [Deep α] (h:PH) (v:Value) (xs:List α):Prop :=
  ∃ cells hr r,OwnC 0 (Enc.n α) hr v xs.length cells∧h=un hr r∧Dj hr r∧ownL r cells xs
section
variable {α:Type} [Deep α] {h r:PH} {v:Value} {xs ys:List α} {cells:List Value}
theorem ownL.rd (o:ownL r cells xs):rdL r cells xs:=by
  induction xs generalizing r cells with
  | nil=>exact o.1
  | cons x xs ih =>
    obtain ⟨c,cr,h1,h2,rfl,rfl,d,hx,ho⟩:=o
    exact ⟨c,cr,rfl,Enc.le (Le.un_left _ _) (Deep.ord hx),(ih ho).le (Le.un_r d)⟩
theorem OD.os (o:OD h v xs):∃ hr r,h=un hr r∧Dj hr r∧OS 0 hr r v xs :=
  let ⟨cells,hr,r,h1,h2,h3,h4⟩:=o; ⟨hr,r,h2,h3,cells,h1,h4.rd⟩
theorem OD.readf (o:OD h v xs):RS h v xs:=by
  obtain ⟨hr,r,rfl,d,o⟩:=o.os
  exact o.read (Le.un_left _ _) (Le.un_r d)
instance:Deep (List α) where
  own h cs xs:=∃ v,cs=[v]∧OD h v xs
  ord:=fun ⟨v,h,o⟩=>⟨v,h,o.readf⟩
end
section
variable {β:Type} [Flat β] {h r:PH} {v:Value} {xs:List β}
theorem ownL.flat {cells:List Value} (o:ownL r cells xs):r=emp∧rdL emp cells xs:=by
  induction xs generalizing r cells with
  | nil=>exact ⟨o.2,o.1⟩
  | cons x xs ih =>
    obtain ⟨c,cr,h1,h2,rfl,rfl,d,⟨rfl,hx⟩,ho⟩:=o
    obtain ⟨rfl,h3⟩:=ih ho
    exact ⟨emp_un _,c,cr,rfl,hx,h3⟩
theorem rdL.ownL {cells:List Value} (o:rdL emp cells xs):ownL emp cells xs:=by
  induction xs generalizing cells with
  | nil=>exact ⟨o,rfl⟩
  | cons x xs ih =>
    obtain ⟨c,cr,rfl,hx,ho⟩:=o
    exact ⟨c,cr,emp,emp,rfl,(emp_un _).symm,Dj.emp_l _,⟨rfl,hx⟩,ih ho⟩
theorem OD.flat (o:OD h v xs):OS 0 h emp v xs:=by
  obtain ⟨cells,hr,r,h1,rfl,d,ho⟩:=o
  obtain ⟨rfl,h3⟩:=ho.flat
  rw [un_emp]; exact ⟨cells,h1,h3⟩
theorem OS.od (o:OS 0 h emp v xs):OD h v xs:=by
  obtain ⟨cells,h1,h2⟩:=o
  exact ⟨cells,h,emp,h1,(un_emp _).symm,Dj.emp_r _,h2.ownL⟩
end
end Go.Gv
/- Structures: the cells of their fields one behind the other. -/
namespace Go.Gv
open Go Go.RowKit
instance encProd {α β:Type} [Enc α] [Enc β]:Enc (α×β) where
  n:=Enc.n α+Enc.n β
  agg:=true
  rd h cs x:=∃ a b,cs=a++b∧Enc.rd h a x.1∧Enc.rd h b x.2
  len:=fun ⟨a,b,e,p,q⟩=>by subst e; rw [List.length_append,Enc.len p,Enc.len q]
  le l:=fun ⟨a,b,e,p,q⟩=>⟨a,b,e,Enc.le l p,Enc.le l q⟩
  one:=fun ⟨a,b,e,p,q⟩ c hc=>by
    subst e
    rcases List.mem_append.1 hc with hc | hc
    · exact Enc.one p c hc
    · exact Enc.one q c hc
  sing h:=by cases h
instance deepProd {α β:Type} [Deep α] [Deep β]:Deep (α×β) where
  own h cs x:=∃ a b h1 h2,cs=a++b∧h=un h1 h2∧Dj h1 h2∧Deep.own h1 a x.1∧Deep.own h2 b x.2
  ord:=fun ⟨a,b,h1,h2,e,e2,d,p,q⟩=>by
    subst e e2
    exact ⟨a,b,rfl,Enc.le (Le.un_left _ _) (Deep.ord p),Enc.le (Le.un_r d) (Deep.ord q)⟩
section
variable {P:Program} {n:Nat} {ρ:Env} {w:World} {ops:Array Oper} {Q:Exit→Act→World→Prop} {K:Env→Prop}
/-- A slice held against nil: only that of an empty one nothing is known. -/
theorem nil_of {α:Type} [Enc α] {h:PH} {b:Option Addr} {len cap:Nat} {xs:List α} (r:RS h (.slice b len cap) xs):b.isNone=true→xs=[]:=fun hb=>by
  rcases r with ⟨_,e⟩ | ⟨a,c,e,_⟩
  · exact e
  · cases e; cases hb
theorem run_eqnil {t e:TypeId} {b:Option Addr} {len cap:Nat} (ht:P.underlying t=some (.slice e)) (w:World):(Op.equal t (.slice b len cap) (.slice none 0 0)).run P w = .ok b.isNone w:=by
  have h:∀ (d:Nat) (b:Option Addr),(Op.equalIn (d+1) t (.slice b len cap) (.slice none 0 0)).run P w = .ok b.isNone w:=fun d b=>by
    cases b <;> simp [Op.equalIn,run_underlying ht]
  exact h 9999 b
theorem ex_eqnil {o:Oper} {t u e:TypeId} {x y:Operand} {b:Option Addr} {len cap:Nat} (hop:o.op = .binOp .eql t x y u) (ht:P.underlying t=some (.slice e)) (hx:opd n ρ x = .slice b len cap) (hy:opd n ρ y = .slice none 0 0) (w:World) :
    (execOp (opd n ρ) o).run P w = .ok (.value (.bool b.isNone)) w:=by
  simp only [execOp,hop,hx,hy,Sem.run_bind]
  simp [binOp,eqGuard,run_eqnil ht]
end
end Go.Gv
/- Closures, recursion, maps, slices held against nil, a slice that is only appended to. -/
namespace Go.Gv
open Go Go.RowKit
end Go.Gv
/- A store to a field of an element that holds owned slices. -/
namespace Go.Gv
open Go Go.RowKit
/-- A slice whose length is that of its list. -/
abbrev sl {α:Type} (a:Option Addr) (xs:List α) (c:Nat):Value := .slice a xs.length c
/-- The address of a box. -/
abbrev pb (b:Nat):Value := .pointer (some ⟨b,0,none⟩)
end Go.Gv
/- A slice taken out of a field of an element, and another put in its place. -/
namespace Go.Gv
open Go Go.RowKit
end Go.Gv
/- Arguments as they come in, read as plain data. -/
namespace Go.Gv
open Go Go.RowKit Go.ChangeShapes Go.WideShapes Go.ChangeAt
/-- All of a world's heap. -/
def pw (w:World):PH:=fun b=>w.heap[b]?
theorem pw_sub (w:World):Sub (pw w) w:=fun _ _ h=>h
theorem cellH_pw {w:World} {a:Addr} {v:Value} (h:w.cell? a=some v):cellH (pw w) a=some v:=h
class Wf (α:Type) where
  wf:α→Prop
instance:Wf Int:=⟨fun x => -9223372036854775808≤x∧x≤9223372036854775807⟩
instance:Wf Bool:=⟨fun _=>True⟩
instance:Wf ByteArray:=⟨fun x=>x.size≤maxLen⟩
instance:Wf B8:=⟨fun x=>0≤x.v∧x.v≤255⟩
instance {α:Type} [Wf α]:Wf (List α):=⟨fun xs=>xs.length≤maxLen∧∀ x∈xs,Wf.wf x⟩
structure OpnT (P:Program) (t:TypeId) (α:Type) [Enc α] [Wf α]:Prop where
  sz:P.cellsOf t=Enc.n α
  rd:∀ {H:Type} {enc:TypeId×Value→H} {w:World} {base:Nat} {spare:Nat→Bool} {held:Bool} {fuel:Nat} {cs:List Value} {x:DataW H×List MemPlace},
    DataW.trod enc P w base spare held fuel t cs=some x→∃ y:α,Enc.rd (pw w) cs y∧Wf.wf y
  shape:∀ {w:World} {r:Reach} {base:Nat} {v:Value},Value.okWide P w r base t v→v=vOf (Enc.agg α) v.cells.toList
section
variable {P:Program} {t:TypeId} {H:Type} {enc:TypeId×Value→H} {W:World} {r:Reach} {b0 base:Nat} {spare:Nat→Bool} {held:Bool} {v:Value} {d:DataW H} {ps:List MemPlace}
theorem OpnT.open {α:Type} [Enc α] [Wf α] (o:OpnT P t α) (hval:Value.okWide P W r b0 t v) (h:DataW.Trod enc P W base spare held t v d ps):∃ y:α,RV (pw W) v y∧Wf.wf y:=by
  obtain ⟨fuel,hf⟩:=h
  obtain ⟨y,h1,h2⟩:=o.rd hf
  exact ⟨y,⟨_,h1,o.shape hval⟩,h2⟩
theorem trod_lt' (h:DataW.Trod enc P W base spare held t v d ps):∀ x∈ps,x.block<W.heap.size:=by
  obtain ⟨m,hm⟩:=h; exact DataW.trod_lt m _ _ _ hm
theorem opn_int (ht:P.underlying t=some (.int .i64)) (hs:P.cellsOf t=1):OpnT P t Int where
  sz:=hs
  rd h:=by
    obtain ⟨n,rfl,_,hw⟩:=DataW.trod_int ht h
    exact ⟨n,rfl,bounds_i64 hw⟩
  shape h:=by obtain ⟨n,rfl⟩:=okWide_int ht h; rfl
theorem list_of {α:Type} {p:Nat→α→Prop}:∀ {n:Nat},(∀ i,i<n→∃ y,p i y)→∃ ys:List α,ys.length=n∧∀ i y,ys[i]?=some y→p i y
  | 0,_=>⟨[],rfl,fun i y h=>by simp at h⟩
  | n+1,h=>by
    obtain ⟨ys,h1,h2⟩:=list_of (n:=n) fun i hi=>h i (by omega)
    obtain ⟨y,hy⟩:=h n (by omega)
    refine ⟨ys++[y],by simp [h1],fun i z hz=>?_⟩
    by_cases hi:i<n
    · rw [List.getElem?_append_left (by omega)] at hz; exact h2 i z hz
    · have hlt:=(List.getElem?_eq_some_iff.1 hz).1
      rw [List.length_append] at hlt
      simp at hlt
      have:i=ys.length:=by omega
      subst this
      rw [List.getElem?_append_right (by omega)] at hz
      simp at hz; subst hz; rw [h1]; exact hy
theorem cells_get {w:World} {base n:Nat} {a:Addr} {cs:List Value} (h:w.cells? base a n=some cs) (j:Nat) (c:Value) (hj:cs[j]?=some c):w.cell? (a.add j)=some c:=by
  unfold World.cells? at h
  split at h
  · have hlen:cs.length=n:=by simpa using mapM_some_length h
    have hjn:j<n:=by have:=(List.getElem?_eq_some_iff.1 hj).1; omega
    have:=mapM_some_get h j j (by simp [hjn])
    rw [this,hj]
  · cases h
theorem opn_slice {α:Type} [Enc α] [Wf α] {e:TypeId} (ht:P.underlying t=some (.slice e)) (hs:P.cellsOf t=1) (o:OpnT P e α) (hp:0<Enc.n α):OpnT P t (List α) where
  sz:=hs
  shape h:=by obtain ⟨a,l,c,rfl⟩:=okWide_slice ht h; rfl
  rd {H enc w base spare held fuel cs x} h:=by
    rcases DataW.trod_slice ht h with ⟨rfl,_⟩ | ⟨a,len,cap,elems,rest,n,_,rfl,_,hb,hl,hm,hlen,hel,_,_⟩
    · exact ⟨[],⟨_,rfl,.inl ⟨rfl,rfl⟩⟩,Nat.zero_le _,fun x hx=>by simp at hx⟩
    · have each:∀ i,i<len→∃ y:α,(∃ cs,rdAt (pw w) (a.add (i * Enc.n α)) cs∧Enc.rd (pw w) cs y)∧Wf.wf y:=fun i hi=>by
        have h1:=hel i hi
        have h2:elems[i]?=some elems[i]:=by simp [show i<elems.length by omega]
        rw [h2] at h1
        obtain ⟨cs,hc,ht'⟩:=Option.bind_eq_some_iff.1 h1
        obtain ⟨y,hy,hw⟩:=o.rd ht'
        rw [o.sz] at hc
        exact ⟨y,⟨cs,fun j c hj=>cellH_pw (cells_get hc j c hj),hy⟩,hw⟩
      obtain ⟨ys,h1,h2⟩:=list_of each
      refine ⟨ys,⟨_,rfl,.inr ⟨a,cap,by rw [h1],by omega,?_,fun i x hx=>(h2 i x hx).1⟩⟩,by omega,fun x hx=>?_⟩
      · cases ys with
        | nil=>exact .inl rfl
        | cons y ys =>
          right
          obtain ⟨⟨cs,hr,hd⟩,_⟩:=h2 0 y rfl
          have hcl:=Enc.len hd
          have:=hr 0 cs[0] (by simp [show 0<cs.length by omega])
          rw [Nat.zero_mul,addr_add0,addr_add0] at this
          exact World.cell?_spot (cellH_world (pw_sub w) this)
      · obtain ⟨i,hi,rfl⟩:=List.mem_iff_getElem.1 hx
        exact (h2 i ys[i] (by simp [hi])).2
theorem opn_fld {fs:Array Field} (ht:P.underlying t=some (.struct fs)) {w:World} {fuel:Nat} {cs:List Value} {x:DataW H×List MemPlace} (h:DataW.trod enc P w base spare held fuel t cs=some x) :
    cs.length=P.cellsOf t∧∀ (i:Nat) (f:Field),fs[i]?=some f→∀ (α:Type) [Enc α] [Wf α],OpnT P f.type α→∃ y:α,Enc.rd (pw w) ((cs.drop f.offset).take (Enc.n α)) y∧Wf.wf y:=by
  obtain ⟨xs,n,_,_,hl,hn,hx⟩:=DataW.trod_struct ht h
  refine ⟨hl,fun i f hf α _ _ o=>?_⟩
  have hi:i<fs.size:=(Array.getElem?_eq_some_iff.1 hf).1
  have h1:=hx i f hf
  have h2:xs[i]?=some xs[i]:=by simp [show i<xs.length by omega]
  rw [h2,o.sz] at h1
  exact o.rd h1
end
end Go.Gv
/- An owned row looked at from behind its front: what is taken off the front stays in the block. Elements that lead nowhere. -/
namespace Go.Gv
open Go Go.RowKit
def OT {α:Type} [Flat α] (h:PH) (v:Value) (xs:List α):Prop :=
  ∃ cells,cells.length=xs.length * Enc.n α∧rdL emp cells xs∧((v = .slice none 0 0∧xs=[]∧h=emp) ∨
   ∃ b off cap cur E',v = .slice (some ⟨b,off,none⟩) xs.length cap∧h=single b (.cells cur E' (0,0))∧xs.length≤cap∧cap≤maxLen∧off+cap * Enc.n α≤cur.size ∧
     (cur.toList.drop off).take (xs.length * Enc.n α)=cells)
section
variable {α:Type} [Flat α] {E:TypeId} {h g:PH} {v:Value} {xs:List α}
theorem OT.readf (o:OT h v xs):RS h v xs:=by
  obtain ⟨cells,hl,r,o⟩:=o
  rcases o with ⟨rfl,rfl,rfl⟩ | ⟨b,off,cap,cur,E',rfl,rfl,hc,hm,hs,ht⟩
  · exact .inl ⟨rfl,rfl⟩
  · refine .inr ⟨_,cap,rfl,hc,.inr rfl,fun i x hx=>?_⟩
    obtain ⟨cs,h1,h2⟩:=r.get i x hx
    refine ⟨cs,?_,Enc.le (emp_le _) h1⟩
    have hi:i<xs.length:=(List.getElem?_eq_some_iff.1 hx).1
    have hn:i * Enc.n α+Enc.n α≤xs.length * Enc.n α:=by
      have:=Nat.mul_le_mul_right (Enc.n α) (Nat.succ_le_of_lt hi); rwa [Nat.succ_mul] at this
    rw [addr_at]
    intro j c hj
    have hcl:=Enc.len h1
    have hjl:j<cs.length:=(List.getElem?_eq_some_iff.1 hj).1
    rw [addr_at]
    simp only [cellH,single,if_true,Option.isSome_none,Bool.false_eq_true,if_false]
    rw [← h2,List.getElem?_take,if_pos (by omega),List.getElem?_drop,← ht,List.getElem?_take,if_pos (by omega),List.getElem?_drop] at hj
    rw [← Array.getElem?_toList,Nat.add_assoc]; exact hj
end
end Go.Gv
/- Short names for what walks say most often. -/
namespace Go.Gv
open Go Go.RowKit
def agv (E:Env):List (Nat×Value)→List Value
  | []=>[]
  | (i,_) :: r=>E i :: agv E r
def vls:List (Nat×Value)→List Value
  | []=>[]
  | (_,v) :: r=>v :: vls r
theorem ag_of {E:Env}:∀ {l:List (Nat×Value)},agv E l=vls l→agrees E l
  | [],_=>trivial
  | (_,_) :: _,h=>⟨(List.cons.inj h).1,ag_of (List.cons.inj h).2⟩
theorem Ee {E:Env} {l:List (Nat×Value)} (h:agv E l=vls l):E=setAll l E:=env_eq (ag_of h)
def enumA:Nat→List Value→List (Nat×Value)
  | _,[]=>[]
  | k,v :: r=>(k,v) :: enumA (k+1) r
theorem enumA_ag:∀ (args pre:List Value),agrees (argEnv (pre++args)) (enumA pre.length args)
  | [],_=>trivial
  | v :: r,pre=>by
    have h:=enumA_ag r (pre++[v])
    rw [List.append_assoc,List.length_append] at h
    exact ⟨by simp [argEnv],h⟩
def resv (n:Nat) (ρ:Env):List ResultVar→Option (List Value)
  | []=>some []
  | .tmp t :: r=>match Nat.blt t n with | true=>(resv n ρ r).map (ρ t :: ·) | false=>none
  | _=>none
section
variable {P:Program} {T:Ty} {n:Nat} {N:Asn} {X:Nat→Asn} {R:Asn} {ρ:Env} {w:World} {ops:Array Oper}
theorem Wo {c:Code} (l:List (Nat×Value)) (h:agv ρ l=vls l) (H:∀ ρ,WP P n c N X R (setAll l ρ) w):WP P n c N X R ρ w:=W_forget l (ag_of h) H
theorem evList_len:∀ {r:List Oper} {ρ:Env} {l u:List (Nat×Value)},evList T n ops r ρ l=some u→r.length=l.length
  | [],_,[],_,_=>rfl
  | [],_,_ :: _,_,h=>by simp [evList] at h
  | _ :: _,_,[],_,h=>by simp [evList] at h
  | o :: r,ρ,(i,v) :: l,u,h=>by
    have key:∀ {us},evList T n ops r (upd ρ i v) l=some us→(o :: r).length=((i,v) :: l).length:=fun e=>by simp [evList_len e]
    unfold evList at h
    split at h
    · split at h
      · split at h
        · rename_i e; exact key e
        · cases h
      · split at h
        · rename_i e; exact key e
        · cases h
      · cases h
    · cases h
/-- A region, all of it at once. -/
theorem Wm {id:Nat} (ok:TyOk P T) (l:List (Nat×Value)) (h:evList T n ops ops.toList ρ l=some l) (H:N (updL ρ l) w):WP P n (.region id ops false) N X R ρ w:=by
  refine W_region (LP_ev_aux ok ops.toList 0 ρ l (fun j o hj=>by simpa using hj) h (LP_end _ ?_ H))
  rw [Nat.zero_add,← evList_len h,List.drop_length]
theorem Wl {id:Nat} (ok:TyOk P T) (l:List (Nat×Value)) (k':Nat) (h:(evList T n ops (ops.toList.take l.length) ρ l,l.length)=(some l,k')) (H:LP P n ops (pst n N X R) k' (updL ρ l) w):WP P n (.region id ops false) N X R ρ w :=
  W_region (LP_ev ok 0 l k' (by simpa using h) H)
end
theorem Rt {P:Program} {fn:Func} {n:Nat} {ρ:Env} {w:World} {vs:List Value} (h:resv n ρ fn.results.toList=some vs):Ret P fn n ρ w (tup vs):=by
  refine Ret_of vs ?_
  generalize fn.results.toList=l at h
  induction l generalizing vs with
  | nil=>cases h; trivial
  | cons a r ih =>
    cases a with
    | tmp t =>
      unfold resv at h
      split at h
      · rename_i ht
        cases hr:resv n ρ r with
        | none=>rw [hr] at h; cases h
        | some us=>rw [hr] at h; cases h; exact ⟨⟨ht,rfl⟩,ih hr⟩
      · cases h
    | cell a t=>cases h
/-- A function, entered. -/
theorem En {P:Program} {f:FuncId} {fn:Func} {c:Code} {args:List Value} {w:World} {R:Value→World→Prop} (n:Nat) (hf:P.funcs[f]?=some fn) (h:(fn.body,fn.ntmps,Nat.ble args.length n)=(some c,n,true))
    (H:∀ ρ,WP P n c (fun ρ w=>∃ v,Ret P fn n ρ w v∧R v w) (fun _ _ _=>False) (fun ρ w=>∃ v,Ret P fn n ρ w v∧R v w) (setAll (enumA 0 args) ρ) w):CallsTo P f args.toArray w R:=by
  have h1:=congrArg Prod.fst h
  have h2:=congrArg (·.2.1) h
  have h3:=congrArg (·.2.2) h
  exact enter n hf h1 h2 h3 (W_forget _ (enumA_ag args []) H)
abbrev Wg:=@W_region
abbrev Lv:=@LP_ev
abbrev Ln:=@LP_end
abbrev Wq:=@W_seq
abbrev Lb:=@LP_ldbox
abbrev Lc:=@LP_call
abbrev Lx [DM]:=@LP_stbox
abbrev Wc:=@W_cond
abbrev Wk:=@W_skip
abbrev Df:=@Dj.of_fresh
abbrev Db:=@Dj.box
abbrev Br [DM]:=@But.refl
abbrev Or:=@Dom.refl
abbrev Mt:=@DomLe.trans
abbrev Li:=@LP_index
abbrev Lo:=@LP_load
abbrev Ly [DM]:=@LP_box
abbrev Oe:=@Dom.le
abbrev La [DM]:=@LP_alloc
end Go.Gv
/- slices.SortFunc: its contract, turned to partial heaps. -/
namespace Go.Gv
open Go Go.RowKit
structure SwoOn {α:Type} (V:α→Prop) (cf:α→α→Int):Prop where
  irrefl:∀ x,V x→¬ cf x x<0
  trans:∀ x y z,V x→V y→V z→cf x y<0→cf y z<0→cf x z<0
  ntrans:∀ x y z,V x→V y→V z→¬ cf x y<0→¬ cf y z<0→¬ cf x z<0
/-- What sorting comes to: every permutation that is sorted will do. -/
def sortq {α:Type} (cm:α→α→(Int→Prop)→Prop) (xs:List α) (Q:List α→Prop):Prop :=
  ∃ (V:α→Prop) (cf:α→α→Int),(∀ x∈xs,V x)∧(∀ x y,V x→V y→cm x y (fun r=>r=cf x y))∧SwoOn V cf∧xs.length<4611686018427387904 ∧
    ∀ ys,ys.Perm xs→ys.Pairwise (fun a b=>¬ cf b a<0)→Q ys
theorem Ext.grow {w w':World} (x : @Ext ⟨True⟩ w w'):∃ q os,w'=Sort.grow (w.drewN q) os:=by
  letI:DM:=⟨True⟩
  refine ⟨w'.drawn-w.drawn,w'.heap.extract w.heap.size,?_⟩
  have hh:w'.heap=w.heap++w'.heap.extract w.heap.size:=by
    apply Array.ext_getElem?
    intro k
    rw [Array.getElem?_append]
    by_cases hk:k<w.heap.size
    · rw [if_pos hk]; exact x.block k hk
    · rw [if_neg hk,Array.getElem?_extract]
      have hs:=x.size
      by_cases h2:k<w'.heap.size
      · rw [if_pos (by omega)]; congr 1; omega
      · rw [if_neg (by omega),Array.getElem?_eq_none (by omega)]
  have hd:=x.drawn trivial
  have h1:=x.os; have h2:=x.tape; have h3:=x.output
  obtain ⟨hp,tp,dr,os,ou⟩:=w'
  simp only at hh hd h1 h2 h3 ⊢
  unfold Sort.grow World.drewN
  simp only
  subst h1 h2 h3
  rw [← hh,show w.drawn+(dr-w.drawn)=dr from by omega]
section
variable {α:Type} [Deep α]
def ownP:PH→List (List Value×α)→Prop
  | r,[]=>r=emp
  | r,p :: ps=>∃ h1 h2,r=un h1 h2∧Dj h1 h2∧Deep.own h1 p.1 p.2∧ownP h2 ps
theorem ownL.pairs {r:PH} {cells:List Value} {xs:List α} (o:ownL r cells xs):∃ ps:List (List Value×α),ownP r ps∧cells=(ps.map Prod.fst).flatten∧xs=ps.map Prod.snd:=by
  induction xs generalizing r cells with
  | nil=>exact ⟨[],o.2,o.1,rfl⟩
  | cons x xs ih =>
    obtain ⟨c,cr,h1,h2,rfl,rfl,d,hx,ho⟩:=o
    obtain ⟨ps,h3,h4,h5⟩:=ih ho
    exact ⟨(c,x) :: ps,⟨h1,h2,rfl,d,hx,h3⟩,by simp [h4],by simp [h5]⟩
theorem ownP.ownL {r:PH} {ps:List (List Value×α)} (o:ownP r ps):ownL r (ps.map Prod.fst).flatten (ps.map Prod.snd):=by
  induction ps generalizing r with
  | nil=>exact ⟨rfl,o⟩
  | cons p ps ih =>
    obtain ⟨h1,h2,rfl,d,hx,ho⟩:=o
    exact ⟨p.1,_,h1,h2,by simp,rfl,d,hx,ih ho⟩
theorem ownP.perm {ps qs:List (List Value×α)} (p:ps.Perm qs):∀ {r:PH},ownP r ps→ownP r qs:=by
  induction p with
  | nil=>exact id
  | cons x _ ih=>rintro r ⟨h1,h2,e,d,hx,ho⟩; exact ⟨h1,h2,e,d,hx,ih ho⟩
  | swap x y l =>
    rintro r ⟨h1,h2,rfl,d,hx,h3,h4,rfl,d',hy,ho⟩
    exact ⟨h3,un h1 h4,by rw [← un_assoc,← un_assoc,d.of_l.comm],d.of_l.symm.un_r d',hy,h1,h4,rfl,d.of_r,hx,ho⟩
  | trans _ _ ih1 ih2=>exact fun o=>ih2 (ih1 o)
theorem ownP.rd {r:PH} {ps:List (List Value×α)} (o:ownP r ps):∀ p∈ps,Enc.rd r p.1 p.2:=by
  induction ps generalizing r with
  | nil=>intro p hp; cases hp
  | cons q ps ih =>
    obtain ⟨h1,h2,rfl,d,hx,ho⟩:=o
    intro p hp
    rcases List.mem_cons.1 hp with rfl | hp
    · exact Enc.le (Le.un_left _ _) (Deep.ord hx)
    · exact Enc.le (Le.un_r d) (ih ho p hp)
end
theorem flat_get {β:Type} {k:Nat} (hk:0<k):∀ (l:List (List β)),(∀ x∈l,x.length=k)→∀ t,l.flatten[t]?=(l[t / k]?).bind (·[t % k]?)
  | [],_,t=>by simp
  | c :: l,h,t=>by
    have hc:=h c (by simp)
    rw [List.flatten_cons,List.getElem?_append]
    by_cases ht:t<c.length
    · rw [if_pos ht,Nat.div_eq_of_lt (by omega),Nat.mod_eq_of_lt (by omega)]; simp
    · rw [if_neg ht,flat_get hk l (fun x hx=>h x (by simp [hx])),hc]
      have e1:t / k=(t-k) / k+1:=Nat.div_eq_sub_div hk (by omega)
      have e2:t % k=(t-k) % k:=Nat.mod_eq_sub_mod (by omega)
      rw [e1,e2]; simp
theorem toArr_at {l:List Value} {i:Nat} {v:Value} (h:l[i]?=some v):l.toArray[i]! = v:=by
  obtain ⟨hi,rfl⟩:=List.getElem?_eq_some_iff.1 h
  exact getElem!_pos l.toArray i (by simpa using hi)
theorem flatK_eq {β:Type} [Inhabited β] {k:Nat} (enc:β→List Value) (hk:∀ x,(enc x).length=k) (d:Array β):Sort.flatK enc k d=((d.toList.map enc).flatten).toArray:=by
  have hlen:((d.toList.map enc).flatten).length=d.size * k:=by
    rw [List.length_flatten,List.map_map]
    rw [show (List.length ∘ enc)=fun _=>k from funext hk]
    rw [← Array.length_toList]
    induction d.toList with
    | nil=>simp
    | cons a l ih=>rw [List.map_cons,List.sum_cons,ih,List.length_cons,Nat.succ_mul,Nat.add_comm]
  refine Sort.ext_get! (by simp only [Sort.size_flatK,List.size_toArray]; exact hlen.symm) fun t ht=>?_
  rw [Sort.size_flatK] at ht
  have k0:0<k:=by
    rcases Nat.eq_zero_or_pos k with h | h
    · subst h; simp at ht
    · exact h
  rw [Sort.get_flatK _ _ _ _ ht]
  have hq:t / k<d.size:=Nat.div_lt_of_lt_mul (by rw [Nat.mul_comm]; exact ht)
  have h2:=flat_get k0 (d.toList.map enc) (fun x hx=>by obtain ⟨y,_,rfl⟩:=List.mem_map.1 hx; exact hk y) t
  rw [List.getElem?_map,List.getElem?_eq_getElem (show t / k<d.toList.length from by rw [Array.length_toList]; exact hq),Array.getElem_toList] at h2
  simp only [Option.map_some,Option.bind_some] at h2
  have hm:t % k<(enc d[t / k]).length:=by rw [hk]; exact Nat.mod_lt _ k0
  rw [List.getElem?_eq_getElem hm] at h2
  rw [getElem!_pos d _ hq,getElem!_pos (enc d[t / k]) _ hm,toArr_at h2]
section
variable {P:Program} {ρ:Shelf.Ren} {α:Type} [Deep α]
theorem sort_w [DM] (L:Go.Proofs.SlLaysF0.n6 P ρ) {f:FuncId} (hf:ρ.f 6=f) {bytes:Nat} {z:Value} (hE:TyI P (ρ.t 24) (Enc.n α) bytes z) (hA:AggT P (ρ.t 24) true) (ha:Enc.agg α=true) {g:FuncId} (hg:Callable P g)
    {cm:α→α→(Int→Prop)→Prop}
    (hcm:∀ (x y:α) K,cm x y K→∀ (w:World) (h:PH) (v1 v2:Value),RV h v1 x→RV h v2 y→Sub h w→CallsTo P g #[v1,v2] w fun v w'=>∃ r,K r∧v=I r∧@Ext ⟨True⟩ w w')
    {xs:List α} {Q:List α→Prop} (H:sortq cm xs Q) (w:World) {v:Value} {h:PH} (o:OD h v xs) (e:Sub h w) :
    CallsTo P f #[v,.func (.func g) #[] #[]] w fun u w'=>∃ ys h',Q ys∧u = .tuple #[]∧But h w w'∧OD h' v ys∧Sub h' w'∧∀ n,DomLe h n h':=by
  subst hf
  obtain ⟨V,cf,hV,hc,hO,hlen,hQ⟩:=H
  obtain ⟨cells,hr,r,⟨ol,oc⟩,rfl,dj,oo⟩:=o
  by_cases hx:xs=[]
  · subst hx
    obtain ⟨p,cap,rfl⟩:∃ p cap,v = .slice p 0 cap:=by
      rcases oc with ⟨rfl,_,_⟩ | ⟨b,cap,cur,E',rfl,_⟩ <;> exact ⟨_,_,rfl⟩
    unfold CallsTo
    refine Calls.mono (Go.Proofs.AnyF.slices_SortFunc_none L p cap _ w) ?_
    rintro e1 w' ⟨rfl,rfl⟩
    exact ⟨[],_,hQ [] (List.Perm.refl _) List.Pairwise.nil,rfl,But.refl _ _,⟨cells,hr,r,⟨ol,oc⟩,rfl,dj,oo⟩,e,fun n=>DomLe.refl _ _⟩
  rcases oc with ⟨_,h0,_⟩ | ⟨b,cap,cur,E',rfl,rfl,hcap,hmax,hsz,htake⟩
  · exact absurd (List.eq_nil_of_length_eq_zero h0) hx
  obtain ⟨ps,hp,hcells,hxs⟩:=oo.pairs
  have hS:∀ p∈ps,V p.2∧Enc.rd r p.1 p.2:=fun p hm=>⟨hV _ (by rw [hxs]; exact List.mem_map_of_mem hm),hp.rd p hm⟩
  let β:Type:={p:List Value×α // V p.2∧Enc.rd r p.1 p.2}
  obtain ⟨ds,hds⟩:∃ ds:List β,ds.map Subtype.val=ps:=⟨ps.pmap (fun p h=>⟨p,h⟩) hS,by rw [List.map_pmap]; simp⟩
  have hps:ps≠[]:=by rintro rfl; exact hx (by rw [hxs]; rfl)
  have hne:ds≠[]:=by rintro rfl; exact hps hds.symm
  letI:Inhabited β:=⟨ds.head hne⟩
  let enc:β→List Value:=fun p=>p.1.1
  have hk:∀ x:β,(enc x).length=Enc.n α:=fun x=>Enc.len x.2.2
  have h1:∀ x:β,∀ v∈enc x,v.oneCell'=true:=fun x=>Enc.one x.2.2
  let cf':β→β→Int:=fun x y=>cf x.1.2 y.1.2
  have hO':Sort.SWO (Go.Proofs.ltOf cf') :=
    ⟨fun x=>decide_eq_false (hO.irrefl _ x.2.1),fun x y z h1 h2=>decide_eq_true (hO.trans _ _ _ x.2.1 y.2.1 z.2.1 (of_decide_eq_true h1) (of_decide_eq_true h2)),
      fun x y z h1 h2=>decide_eq_false (hO.ntrans _ _ _ x.2.1 y.2.1 z.2.1 (of_decide_eq_false h1) (of_decide_eq_false h2))⟩
  have hdl:ds.length=xs.length:=by rw [hxs,List.length_map,← hds,List.length_map]
  have hcd:cells=(ds.map enc).flatten:=by rw [hcells,← hds,List.map_map]; rfl
  have hwb:w.heap[b]?=some (.cells cur E' (0,0)):=e b _ (by simp [un,single])
  have hblk:b<w.heap.size:=by
    rcases Nat.lt_or_ge b w.heap.size with h2 | h2
    · exact h2
    · rw [Array.getElem?_eq_none h2] at hwb; cases hwb
  have hfk:∀ d:Array β,Sort.flatK enc (Enc.n α) d=((d.toList.map enc).flatten).toArray:=flatK_eq enc hk
  have hH:Sort.HoldsK enc (Enc.n α) w b 0 ds.toArray:=by
    intro j hj
    rw [Sort.size_flatK,List.size_toArray,hdl] at hj
    refine ⟨?_,?_⟩
    · rw [hfk]
      show w.cell? ⟨b,0+j,none⟩=some (((ds.map enc).flatten).toArray[j]!)
      rw [← hcd,Nat.zero_add]
      have hjl:j<cells.length:=by rw [ol]; exact hj
      rw [getElem!_def,List.getElem?_toArray,List.getElem?_eq_getElem hjl]
      simp only [World.cell?,hwb,Option.isSome_none,Bool.false_eq_true,if_false]
      have:=List.getElem?_eq_getElem hjl
      rw [← Array.getElem?_toList,← this,← htake,List.getElem?_take,if_pos hj]
    · simp [World.frozen?,hwb]
  have hsub:∀ (m:Nat) (dk:Array β) (os:Array Obj),∀ c,c≠b→c<w.heap.size→(Go.Proofs.sortWorldK enc (Enc.n α) w b 0 m dk os).heap[c]?=w.heap[c]?:=fun m dk os c hcb hcl=>by
    unfold Go.Proofs.sortWorldK
    rw [Sort.heap_grow_old]
    · unfold Sort.putRowK Sort.putRow Sort.mapBlock
      simp only [Array.getElem?_modify]
      rw [if_neg (Ne.symm hcb)]; rfl
    · rw [Sort.size_putRowK]; exact hcl
  have hrb:r b=none:=(dj b).resolve_left (by simp [single])
  have hSr:∀ (m:Nat) (dk:Array β) (os:Array Obj),Sub r (Go.Proofs.sortWorldK enc (Enc.n α) w b 0 m dk os):=fun m dk os c ob hc=>by
    have hcb:c≠b:=by rintro rfl; rw [hrb] at hc; cases hc
    have hcw:w.heap[c]?=some ob:=e c ob (by simp [un,single,hcb,hc])
    rw [hsub m dk os c hcb (by
      rcases Nat.lt_or_ge c w.heap.size with h2 | h2
      · exact h2
      · rw [Array.getElem?_eq_none h2] at hcw; cases hcw)]
    exact hcw
  have hcmp:Go.Proofs.CmpLays P g #[] enc (Enc.n α) cf' b 0 ds.toArray.size w:=fun m os dk _ x y=>by
    have h2:=hcm x.1.2 y.1.2 _ (hc _ _ x.2.1 y.2.1) (Go.Proofs.sortWorldK enc (Enc.n α) w b 0 m dk os) r (.agg (enc x).toArray) (.agg (enc y).toArray) ⟨_,x.2.2,by simp [vOf,ha,enc]⟩ ⟨_,y.2.2,by simp [vOf,ha,enc]⟩ (hSr m dk os)
    unfold CallsTo at h2
    refine Calls.mono h2 fun e1 w' h3=>?_
    cases e1 with
    | returned v=>obtain ⟨q,rfl,rfl,x⟩:=h3; exact ⟨rfl,x.grow⟩
    | panicked _=>exact h3.elim
    | outgrown=>exact h3.elim
  obtain ⟨inf,hinf,hszE,_⟩:=hE.ok
  have key:=Go.Proofs.AnyQ.slices_SortFunc L (Enc.n α) (fun w=>run_isAgg hA) (fun w=>by simp [sizeOf,typeInfo,hinf,hszE]) enc hk h1 cf' hO' g #[] b 0 cap ds.toArray w (fun args w=>hg args w) hcmp hH hblk (by rw [List.size_toArray,hdl]; exact hlen)
  unfold CallsTo
  rw [show xs.length=ds.toArray.size from by rw [List.size_toArray,hdl]]
  refine Calls.mono key ?_
  rintro e1 w' ⟨rfl,d',n,os,⟨hd1,_,hd3⟩,hd4,rfl⟩
  have hperm:d'.toList.Perm ds:=by
    rw [show (d'.extract 0 ds.toArray.size)=d' from by rw [← hd1]; simp,show (ds.toArray.extract 0 ds.toArray.size)=ds.toArray from by simp] at hd3
    exact hd3
  have hperm2:(d'.toList.map Subtype.val).Perm ps:=by rw [← hds]; exact hperm.map _
  have hlen':d'.toList.length=xs.length:=by rw [hperm.length_eq,hdl]
  have hnew:(Go.Proofs.sortWorldK enc (Enc.n α) w b 0 n d' os).heap[b]?=some (.cells (Sort.putCells id 0 (Sort.flatK enc (Enc.n α) d') cur) E' (0,0)):=by
    unfold Go.Proofs.sortWorldK
    rw [Sort.heap_grow_old]
    · unfold Sort.putRowK Sort.putRow Sort.mapBlock
      simp only [Array.getElem?_modify,if_true]
      show (w.heap[b]?).map _=_
      rw [hwb]; rfl
    · rw [Sort.size_putRowK]; exact hblk
  have hsn:Sub (un (single b (.cells (Sort.putCells id 0 (Sort.flatK enc (Enc.n α) d') cur) E' (0,0))) r) (Go.Proofs.sortWorldK enc (Enc.n α) w b 0 n d' os):=(single_sub.2 hnew).un (hSr _ _ _)
  have hcl:((d'.toList.map enc).flatten).length=xs.length * Enc.n α:=by
    have:=Sort.size_flatK enc (Enc.n α) d'
    rw [hfk,List.size_toArray,← Array.length_toList,hlen'] at this
    exact this
  refine ⟨d'.toList.map (·.1.2),_,hQ _ ?_ ?_,rfl,⟨rfl,rfl,rfl,?_,fun c hcl hcn=>?_,?_⟩,⟨(d'.toList.map enc).flatten,_,r,⟨?_,.inr ⟨b,cap,_,E',?_,rfl,?_,hmax,?_,?_⟩⟩,rfl,?_,?_⟩,hsn,fun m c hcn _=>?_⟩
  · rw [hxs,← hds,List.map_map]; exact hperm.map _
  · rw [List.pairwise_map,List.pairwise_iff_getElem]
    intro i j hi hj hij
    have:=hd4 i j (Nat.zero_le _) hij (by rw [List.size_toArray,hdl,← hlen']; exact hj)
    have h2:=of_decide_eq_false this
    rw [Array.length_toList] at hi hj
    rw [getElem!_pos d' j hj,getElem!_pos d' i hi] at h2
    exact h2
  · have:=Sort.size_grow (Sort.putRowK enc (Enc.n α) (Sort.ahead w n) b 0 d') os
    show w.heap.size≤(Sort.grow (Sort.putRowK enc (Enc.n α) (Sort.ahead w n) b 0 d') os).heap.size
    rw [this,Sort.size_putRowK]; exact Nat.le_add_right _ _
  · refine hsub _ _ _ c ?_ hcl
    rintro rfl; simp [un,single] at hcn
  · exact fun _=>Nat.le_add_right _ _
  · rw [List.length_map,hlen',hcl]
  · rw [List.length_map,hlen',List.size_toArray,hdl]
  · rw [List.length_map,hlen']; exact hcap
  · simp [Sort.putCells,hsz]
  · rw [List.length_map,hlen']
    apply List.ext_getElem?
    intro t
    rw [List.getElem?_take]
    by_cases ht:t<xs.length * Enc.n α
    · rw [if_pos ht]
      simp only [Sort.putCells,Array.getElem?_toList,Array.getElem?_mapIdx]
      have htc:t<cur.size:=by
        have:=Nat.mul_le_mul_right (Enc.n α) hcap
        rw [hsz]; omega
      rw [Array.getElem?_eq_getElem htc,Option.map_some,Sort.size_flatK,← Array.length_toList,hlen',if_pos ⟨Nat.zero_le _,by omega⟩,hfk]
      have htl:t<((d'.toList.map enc).flatten).length:=by rw [hcl]; exact ht
      rw [List.getElem?_eq_getElem htl,Nat.sub_zero,getElem!_def,List.getElem?_toArray,List.getElem?_eq_getElem htl]
      rfl
    · rw [if_neg ht,List.getElem?_eq_none (by rw [hcl]; omega)]
  · intro c
    rcases dj c with h | h
    · left; unfold single at *; split at h
      · cases h
      · rename_i hne; rw [if_neg hne]
    · exact .inr h
  · have:=(hp.perm hperm2.symm).ownL
    rw [List.map_map,List.map_map] at this
    exact this
  · obtain ⟨h2,h3⟩:=un_none.1 hcn
    refine un_none.2 ⟨?_,h3⟩
    unfold single at *; split at h2
    · cases h2
    · rename_i hne; rw [if_neg hne]
end
/-- .. at flat elements. -/
theorem sort_wf [DM] {P:Program} {ρ:Shelf.Ren} {α:Type} [Flat α] (L:Go.Proofs.SlLaysF0.n6 P ρ) {f:FuncId} (hf:ρ.f 6=f) {bytes:Nat} {z:Value} (hE:TyI P (ρ.t 24) (Enc.n α) bytes z) (hA:AggT P (ρ.t 24) true) (ha:Enc.agg α=true) {g:FuncId} (hg:Callable P g)
    {cm:α→α→(Int→Prop)→Prop} (hcm:∀ (x y:α) K,cm x y K→∀ (w:World),CallsTo P g #[vOf true (Flat.enc x),vOf true (Flat.enc y)] w fun v w'=>∃ r,K r∧v=I r∧@Ext ⟨True⟩ w w')
    {xs:List α} {Q:List α→Prop} (H:sortq cm xs Q) (w:World) {E:TypeId} {v:Value} {h:PH} (o:OS E h emp v xs) (e:Sub h w) :
    CallsTo P f #[v,.func (.func g) #[] #[]] w fun u w'=>∃ ys h',Q ys∧u = .tuple #[]∧But h w w'∧OS E h' emp v ys∧Sub h' w'∧∀ n,DomLe h n h':=by
  refine CallsTo.mono (sort_w L hf hE hA ha hg (cm:=cm) (fun x y K hK w h v1 v2 r1 r2 _=>?_) H w (OS.od o) e) ?_
  · obtain ⟨c1,h1,rfl⟩:=r1
    obtain ⟨c2,h2,rfl⟩:=r2
    rw [Flat.flat.1 h1,Flat.flat.1 h2,ha]
    exact hcm x y K hK w
  · rintro u w' ⟨ys,h',h1,h2,h3,h4,h5,h6⟩
    exact ⟨ys,h',h1,h2,h3,OD.flat h4,h5,h6⟩
end Go.Gv
instance Go.Gv.dm:Go.Gv.DM:=⟨False⟩
