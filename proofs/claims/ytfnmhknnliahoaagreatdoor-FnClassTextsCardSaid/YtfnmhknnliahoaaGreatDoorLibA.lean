/- A layer of its own for walks over Go functions: environments, weakest preconditions, memory as partial heaps, the steps of a walk. -/
import Derived.WalkKit
import Derived.WalkSpells
import Derived.WalkLawsBesides
import Derived.Deep.Quiet
import Derived.Deep.QuietTactic
import Derived.BigQuiet
/- The walk's own layer: environments as functions, weakest preconditions with three continuations, operations evaluated by reduction. -/
namespace Go.Gv
open Go Go.RowKit
abbrev Env:=Nat→Value
def upd (ρ:Env) (i:Nat) (v:Value):Env:=fun j=>if j=i then v else ρ j
def setAll:List (Nat×Value)→Env→Env
  | [],ρ=>ρ
  | (i,v) :: l,ρ=>upd (setAll l ρ) i v
def agrees (E:Env):List (Nat×Value)→Prop
  | []=>True
  | (i,v) :: l=>E i=v∧agrees E l
theorem upd_self {E:Env} {i:Nat} {v:Value} (h:E i=v):upd E i v=E:=by
  funext j; unfold upd; split
  · rename_i h'; rw [h',h]
  · rfl
theorem setAll_self {E:Env}:∀ l,agrees E l→setAll l E=E
  | [],_=>rfl
  | (i,v) :: l,h=>by
    have h2:=setAll_self l h.2
    unfold setAll; rw [h2]; exact upd_self h.1
/-- Forget all slots but the listed ones. -/
theorem forget {R:Env→Prop} (l:List (Nat×Value)) {E:Env} (h:agrees E l) (H:∀ ρ,R (setAll l ρ)):R E:=by
  have:=setAll_self l h
  rw [← this]; exact H E
theorem env_eq {E:Env} {l:List (Nat×Value)} (h:agrees E l):E=setAll l E:=(setAll_self l h).symm
def act (n:Nat) (ρ:Env):Act:=⟨(List.ofFn (n:=n) fun i=>ρ i.val).toArray,[]⟩
def opd (n:Nat) (ρ:Env):Operand→Value
  | .tmp t=>if t<n then ρ t else undef
  | .const v=>v
  | .global g => .pointer (some ⟨g,0,none⟩)
  | .func f => .func (.func f) #[] #[]
theorem act_get (n:Nat) (ρ:Env) (t:Nat):(act n ρ).tmps[t]?=if t<n then some (ρ t) else none:=by
  simp only [act,List.getElem?_toArray,List.getElem?_ofFn]
  split <;> rfl
theorem act_eval (n:Nat) (ρ:Env) (x:Operand):(act n ρ).eval x=opd n ρ x:=by
  cases x <;> simp only [Act.eval,opd]
  rename_i t
  rw [Array.getD_eq_getD_getElem?,act_get]
  split <;> rfl
theorem act_eval' (n:Nat) (ρ:Env):(act n ρ).eval=opd n ρ:=funext (act_eval n ρ)
theorem act_put (n:Nat) (ρ:Env) (d:Nat) (v:Value):(act n ρ).put (some d) v=act n (upd ρ d v):=by
  simp only [act,Act.put]
  congr 1
  apply Array.ext'
  simp only [Array.toList_setIfInBounds]
  apply List.ext_getElem?
  intro i
  simp only [List.getElem?_set,List.getElem?_ofFn,upd]
  by_cases h:d=i
  · subst h; simp
  · simp only [if_neg h]
    split
    · rw [if_neg (by omega)]
    · rfl
def updO (ρ:Env):Option Nat→Value→Env
  | some d,v=>upd ρ d v
  | none,_=>ρ
theorem act_putO (n:Nat) (ρ:Env) (d:Option Nat) (v:Value):(act n ρ).put d v=act n (updO ρ d v):=by
  cases d
  · rfl
  · exact act_put n ρ _ v
abbrev Asn:=Env→World→Prop
def pst (n:Nat) (N:Asn) (X:Nat→Asn) (R:Asn):Exit→Act→World→Prop
  | .normal,a,w=>∃ ρ,a=act n ρ∧N ρ w
  | .exit i,a,w=>∃ ρ,a=act n ρ∧X i ρ w
  | .ret,a,w=>∃ ρ,a=act n ρ∧R ρ w
  | _,_,_=>False
def WP (P:Program) (n:Nat) (c:Code) (N:Asn) (X:Nat→Asn) (R:Asn) (ρ:Env) (w:World):Prop:=c.wp P (pst n N X R) (act n ρ) w
section
variable {P:Program} {n:Nat} {N:Asn} {X:Nat→Asn} {R:Asn} {ρ:Env} {w:World}
theorem W_mono {c:Code} {N':Asn} (h:WP P n c N X R ρ w) (hn:∀ ρ w,N ρ w→N' ρ w):WP P n c N' X R ρ w :=
  wp_mono h fun e a w h=>by
    cases e <;> first | exact h | (obtain ⟨ρ,ha,h⟩:=h; exact ⟨ρ,ha,hn _ _ h⟩)
theorem W_seq {x y:Code} (h:WP P n x (fun ρ w=>WP P n y N X R ρ w) X R ρ w):WP P n (.seq x y) N X R ρ w :=
  wp_seq (wp_mono h fun e a w h=>by
    cases e <;> first | exact h | (obtain ⟨ρ,rfl,h⟩:=h; exact h))
/-- Two or more ways meet behind x: J says what holds there. -/
theorem W_join {x y:Code} {S:Type} (J:S→Asn) (hK:∀ s ρ w,J s ρ w→WP P n y N X R ρ w) (h:WP P n x (fun ρ w=>∃ s,J s ρ w) X R ρ w) :
    WP P n (.seq x y) N X R ρ w :=
  W_seq (W_mono h fun ρ w ⟨s,hs⟩=>hK s ρ w hs)
theorem W_join2 {x y:Code} {S:Type} (J:S→Asn) (h:WP P n x (fun ρ w=>∃ s,J s ρ w) X R ρ w) (hK:∀ s ρ w,J s ρ w→WP P n y N X R ρ w) :
    WP P n (.seq x y) N X R ρ w:=W_join J hK h
/-- Forget all slots but the listed ones. -/
theorem W_forget {c:Code} (l:List (Nat×Value)) (h:agrees ρ l) (H:∀ ρ,WP P n c N X R (setAll l ρ) w):WP P n c N X R ρ w :=
  forget (R:=fun ρ=>WP P n c N X R ρ w) l h H
theorem W_skip (h:N ρ w):WP P n .skip N X R ρ w:=wp_skip ⟨ρ,rfl,h⟩
theorem W_exit {i:Nat} (h:X i ρ w):WP P n (.exit i) N X R ρ w:=wp_exit ⟨ρ,rfl,h⟩
theorem W_ret (h:R ρ w):WP P n .ret N X R ρ w:=wp_ret ⟨ρ,rfl,h⟩
theorem W_cond {c:Operand} {x y:Code} (b:Bool) (hc:opd n ρ c = .bool b) (ht:b=true→WP P n x N X R ρ w) (hf:b=false→WP P n y N X R ρ w) :
    WP P n (.cond c x y) N X R ρ w:=by
  refine wp_cond (t:=b) (by rw [act_eval]; exact hc) ?_
  cases b
  · exact hf rfl
  · exact ht rfl
theorem W_block {i:Nat} {c:Code} (h:WP P n c N (fun j ρ w=>if j=i then N ρ w else X j ρ w) R ρ w):WP P n (.block i c) N X R ρ w:=by
  refine wp_block (wp_mono h fun e a w h=>?_)
  cases e <;> try exact h
  rename_i j
  obtain ⟨ρ,rfl,h⟩:=h
  simp only [Exit.inBlock]
  split at h
  · rename_i hj; rw [if_pos hj]; exact ⟨ρ,rfl,h⟩
  · rename_i hj; rw [if_neg hj]; exact ⟨ρ,rfl,h⟩
/-- A loop, its state s: J s holds at each round's head. -/
theorem W_loop {c:Code} {S:Type} (J:S→Asn) (μ:S→Nat) (s:S) (h0:J s ρ w)
    (round:∀ s ρ w,J s ρ w→WP P n c (fun ρ' w'=>∃ s',J s' ρ' w'∧μ s'<μ s) X R ρ w):WP P n (.loop c) N X R ρ w:=by
  intro b k cs
  have key:∀ m s ρ w,μ s=m→J s ρ w →
      ∃ e a' w',pst n N X R e a' w'∧Arrives P (lone (b.at (act n ρ) (.code c :: .inLoop c :: k)) cs w) b k cs e a' w':=by
    intro m
    induction m using Nat.strongRecOn with
    | _ m ih =>
      intro s ρ w hm hJ
      obtain ⟨e,a₁,w₁,hq,harr⟩:=round s ρ w hJ b (.inLoop c :: k) cs
      cases e with
      | normal =>
        obtain ⟨ρ₁,rfl,s',hJ',hlt⟩:=hq
        obtain ⟨e₂,a₂,w₂,hq₂,harr₂⟩:=ih (μ s') (hm ▸ hlt) s' ρ₁ w₁ rfl hJ'
        exact ⟨e₂,a₂,w₂,hq₂,.of_steps (Steps.trans harr (.one step_inLoop)) harr₂⟩
      | exit id=>exact ⟨(.exit id),a₁,w₁,(by exact hq),.pass (x := .inLoop c) rfl (fun _ _ => .inl (by simp)) harr⟩
      | goto l=>exact ⟨(.goto l),a₁,w₁,(by exact hq),.pass (x := .inLoop c) rfl (fun _ _ => .inl (by simp)) harr⟩
      | ret=>exact ⟨.ret,a₁,w₁,(by exact hq),.pass (x := .inLoop c) rfl (fun _ _ => .inl (by simp)) harr⟩
      | panic ch=>exact ⟨(.panic ch),a₁,w₁,(by exact hq),.pass (x := .inLoop c) rfl (fun _ _ => .inl (by simp)) harr⟩
      | outgrown=>exact ⟨.outgrown,a₁,w₁,(by exact hq),.pass (x := .inLoop c) rfl (fun _ _ => .inl (by simp)) harr⟩
  obtain ⟨e,a',w',hq,harr⟩:=key _ s ρ w rfl h0
  exact ⟨e,a',w',hq,.of_steps (.one step_loop) harr⟩
end
def LP (P:Program) (n:Nat) (ops:Array Oper) (Q:Exit→Act→World→Prop) (k:Nat) (ρ:Env) (w:World):Prop :=
  wpList P ops Q (ops.toList.drop k) (act n ρ) w
section
variable {P:Program} {n:Nat} {N:Asn} {X:Nat→Asn} {R:Asn} {ρ:Env} {w:World} {ops:Array Oper} {Q:Exit→Act→World→Prop}
theorem W_region {id:Nat} (h:LP P n ops (pst n N X R) 0 ρ w):WP P n (.region id ops false) N X R ρ w :=
  wp_region_list h
theorem LP_end (k:Nat) (hk:ops.toList.drop k=[]) (h:N ρ w):LP P n ops (pst n N X R) k ρ w:=by
  unfold LP; rw [hk]; exact ⟨ρ,rfl,h⟩
/-- What the guard of an operation says: some true: it runs. -/
def gd (n:Nat) (ops:Array Oper) (ρ:Env) (o:Oper):Option Bool :=
  match o.guard with
  | none=>some true
  | some (j,want) =>
    match (ops.toList[j]?).bind (·.dst) with
    | some d=>if d<n then (match ρ d with | .bool b=>some (b==want) | .tuple _=>some false | _=>none) else none
    | none=>none
/-- The k-th operation, which runs, and what it does. -/
def At (n:Nat) (ops:Array Oper) (ρ:Env) (k:Nat) (o:Oper) (x:Op):Prop :=
  (ops.toList[k]?).bind (fun o=>match gd n ops ρ o with | some true=>some (o,o.op) | _=>none)=some (o,x)
theorem At.all {n:Nat} {ops:Array Oper} {ρ:Env} {k:Nat} {o:Oper} {x:Op} (h:At n ops ρ k o x):ops.toList[k]?=some o∧o.op=x∧gd n ops ρ o=some true:=by
  unfold At at h
  cases hk:ops.toList[k]? with
  | none=>rw [hk] at h; cases h
  | some o' =>
    rw [hk] at h
    simp only [Option.bind_some] at h
    split at h
    · rename_i hg; cases h; exact ⟨rfl,rfl,hg⟩
    · cases h
theorem At.o {n:Nat} {ops:Array Oper} {ρ:Env} {k:Nat} {o:Oper} {x:Op} (h:At n ops ρ k o x):ops.toList[k]?=some o:=h.all.1
theorem At.op {n:Nat} {ops:Array Oper} {ρ:Env} {k:Nat} {o:Oper} {x:Op} (h:At n ops ρ k o x):o.op=x:=h.all.2.1
theorem At.g {n:Nat} {ops:Array Oper} {ρ:Env} {k:Nat} {o:Oper} {x:Op} (h:At n ops ρ k o x):gd n ops ρ o=some true:=h.all.2.2
theorem gd_wanted {o:Oper} {b:Bool} (h:gd n ops ρ o=some b):Region.wanted o (yielded ops (act n ρ).tmps)=b:=by
  unfold gd at h
  unfold Region.wanted
  split at h
  · rename_i hg; simp only [hg]; exact (Option.some.inj h)
  · rename_i j want hg
    simp only [hg]
    split at h
    · rename_i d hd
      split at h
      · rename_i hlt
        split at h
        · rename_i b' hb'
          have hy:yielded ops (act n ρ).tmps j=some b':=by
            unfold yielded
            rw [Array.getElem?_toList] at hd
            rw [hd]
            simp only [Option.bind_some]
            rw [act_get,if_pos hlt,hb']
          rw [hy]
          have:=Option.some.inj h
          rw [← this]
          cases b' <;> cases want <;> rfl
        · rename_i vs hvs
          have hy:yielded ops (act n ρ).tmps j=none:=by
            unfold yielded
            rw [Array.getElem?_toList] at hd
            rw [hd]
            simp only [Option.bind_some]
            rw [act_get,if_pos hlt,hvs]
          rw [hy]
          have:=Option.some.inj h
          rw [← this]
          rfl
        · cases h
      · cases h
    · cases h
theorem drop_cons {α:Type} {l:List α} {k:Nat} {o:α} (h:l[k]?=some o):l.drop k=o :: l.drop (k+1):=by
  obtain ⟨hk,rfl⟩:=List.getElem?_eq_some_iff.1 h
  exact List.drop_eq_getElem_cons hk
/-- An operation that yields a value. -/
theorem LP_val (k:Nat) (o:Oper) {v:Value} {w':World} (ho:ops.toList[k]?=some o) (hg:gd n ops ρ o=some true)
    (hr:(execOp (opd n ρ) o).run P w = .ok (.value v) w') (h:LP P n ops Q (k+1) (updO ρ o.dst v) w'):LP P n ops Q k ρ w:=by
  unfold LP at *
  rw [drop_cons ho]
  unfold wpList
  rw [gd_wanted hg,if_pos rfl]
  left
  unfold Oper.wp
  rw [act_eval',hr]
  simp only [Oper.upon]
  rw [act_putO]; exact h
theorem LP_unit (k:Nat) (o:Oper) {w':World} (ho:ops.toList[k]?=some o) (hg:gd n ops ρ o=some true)
    (hr:(execOp (opd n ρ) o).run P w = .ok .skip w') (h:LP P n ops Q (k+1) (updO ρ o.dst undef) w'):LP P n ops Q k ρ w:=by
  unfold LP at *
  rw [drop_cons ho]
  unfold wpList
  rw [gd_wanted hg,if_pos rfl]
  left
  unfold Oper.wp
  rw [act_eval',hr]
  simp only [Oper.upon]
  rw [act_putO]; exact h
/-- An operation whose guard says no. -/
theorem LP_off (k:Nat) (o:Oper) (ho:ops.toList[k]?=some o) (hg:gd n ops ρ o=some false)
    (h:LP P n ops Q (k+1) (updO ρ o.dst undef) w):LP P n ops Q k ρ w:=by
  unfold LP at *
  rw [drop_cons ho]
  unfold wpList
  rw [gd_wanted hg,if_neg (by decide),act_putO]; exact h
/-- What a call comes to: it returns a value. -/
def CallsTo (P:Program) (f:FuncId) (args:Array Value) (w:World) (R:Value→World→Prop):Prop :=
  Calls P f args w fun e w'=>match e with | .returned v=>R v w' | _=>False
theorem CallsTo.mono {f:FuncId} {args:Array Value} {R R':Value→World→Prop} (h:CallsTo P f args w R) (hr:∀ v w',R v w'→R' v w'):CallsTo P f args w R' :=
  Calls.mono h fun e w' h=>by cases e <;> first | exact hr _ _ h | exact h
theorem LP_enter (k:Nat) (o:Oper) {f:FuncId} {args:Array Value} {w':World} (ho:ops.toList[k]?=some o) (hg:gd n ops ρ o=some true)
    (hr:(execOp (opd n ρ) o).run P w = .ok (.enter f args) w') (h:CallsTo P f args w' fun v w'=>LP P n ops Q (k+1) (updO ρ o.dst v) w'):LP P n ops Q k ρ w:=by
  unfold LP at *
  rw [drop_cons ho]
  unfold wpList
  rw [gd_wanted hg,if_pos rfl]
  left
  unfold Oper.wp
  rw [act_eval',hr]
  simp only [Oper.upon]
  refine Calls.mono h fun e w' h=>?_
  cases e
  · simp only at h ⊢; rw [act_putO]; exact h
  · exact h.elim
  · exact h.elim
end
end Go.Gv
/- Operations: what they yield, by reduction; memory as partial heaps. -/
namespace Go.Gv
open Go Go.RowKit
/-- Whether a walk keeps count of the draws (what sorts compare by does; what stands over the kit's contracts of strings does not). -/
class DM where
  d:Prop
abbrev PH:=Nat→Option Obj
def Sub (h:PH) (w:World):Prop:=∀ b o,h b=some o→w.heap[b]?=some o
def Le (h h':PH):Prop:=∀ b o,h b=some o→h' b=some o
def Dj (h h':PH):Prop:=∀ b,h b=none∨h' b=none
def Fresh (B:Nat) (h:PH):Prop:=∀ b,b<B→h b=none
def single (b:Nat) (o:Obj):PH:=fun k=>if k=b then some o else none
def emp:PH:=fun _=>none
def cellH (h:PH) (a:Addr):Option Value :=
  match h a.block with
  | some (.cells c _ _)=>if a.spot.isSome then none else c[a.off]?
  | _=>none
theorem cellH_world {h:PH} {w:World} {a:Addr} {v:Value} (e:Sub h w) (hc:cellH h a=some v):w.cell? a=some v:=by
  unfold cellH at hc
  unfold World.cell?
  cases hb:h a.block with
  | none=>rw [hb] at hc; cases hc
  | some o=>rw [e _ _ hb]; rw [hb] at hc; exact hc
theorem cellH_le {h h':PH} {a:Addr} {v:Value} (e:Le h h') (hc:cellH h a=some v):cellH h' a=some v:=by
  unfold cellH at *
  cases hb:h a.block with
  | none=>rw [hb] at hc; cases hc
  | some o=>rw [e _ _ hb]; rw [hb] at hc; exact hc
/-- The world has only grown. -/
structure Ext [DM] (w w':World):Prop where
  os:w'.os=w.os
  tape:w'.tape=w.tape
  output:w'.output=w.output
  size:w.heap.size≤w'.heap.size
  block:∀ k,k<w.heap.size→w'.heap[k]?=w.heap[k]?
  drawn:DM.d→w.drawn≤w'.drawn
theorem Ext.below [DM] {w w':World} (x:Ext w w'):Below w.heap.size w w':=⟨x.os,x.tape,x.output,x.size,x.block⟩
theorem Sub.ext [DM] {h:PH} {w w':World} (e:Sub h w) (x:Ext w w'):Sub h w':=fun b o hb=>by
  have h1:=e b o hb
  rw [x.block b (by
    rcases Nat.lt_or_ge b w.heap.size with h2 | h2
    · exact h2
    · rw [Array.getElem?_eq_none h2] at h1; cases h1)]
  exact h1
theorem Sub.lt {h:PH} {w:World} (e:Sub h w) {b:Nat} {o:Obj} (hb:h b=some o):b<w.heap.size:=by
  have h1:=e b o hb
  rcases Nat.lt_or_ge b w.heap.size with h2 | h2
  · exact h2
  · rw [Array.getElem?_eq_none h2] at h1; cases h1
theorem Ext.refl [DM] (w:World):Ext w w:=⟨rfl,rfl,rfl,Nat.le_refl _,fun _ _=>rfl,fun _=>Nat.le_refl _⟩
theorem Ext.trans [DM] {a b c:World} (h:Ext a b) (k:Ext b c):Ext a c :=
  ⟨k.os.trans h.os,k.tape.trans h.tape,k.output.trans h.output,Nat.le_trans h.size k.size,fun i hi=>(k.block i (Nat.lt_of_lt_of_le hi h.size)).trans (h.block i hi),fun d=>Nat.le_trans (h.drawn d) (k.drawn d)⟩
theorem Ext.alloc [DM] (w:World) (o:Obj):Ext w (w.alloc o):=⟨rfl,rfl,rfl,by simp,fun k hk=>Below.heap_alloc _ _ _ hk,fun _=>Nat.le_refl _⟩
theorem Ext.drew [DM] {a w:World} (h:Ext a w):Ext a w.drew:=⟨h.os,h.tape,h.output,h.size,h.block,fun d=>Nat.le_succ_of_le (h.drawn d)⟩
theorem Dj.of_fresh {h h':PH} {w:World} (e:Sub h w) (f:Fresh w.heap.size h'):Dj h h':=fun b=>by
  rcases Nat.lt_or_ge b w.heap.size with h2 | h2
  · exact .inr (f b h2)
  · left
    cases hb:h b with
    | none=>rfl
    | some o=>have:=e.lt hb; omega
theorem Dj.symm {h h':PH} (d:Dj h h'):Dj h' h:=fun b=>(d b).symm
/-- Blocks outside h are as they were. -/
structure But [DM] (h:PH) (w w':World):Prop where
  os:w'.os=w.os
  tape:w'.tape=w.tape
  output:w'.output=w.output
  size:w.heap.size≤w'.heap.size
  block:∀ k,k<w.heap.size→h k=none→w'.heap[k]?=w.heap[k]?
  drawn:DM.d→w.drawn≤w'.drawn
theorem Sub.but [DM] {h m:PH} {w w':World} (e:Sub h w) (x:But m w w') (d:Dj m h):Sub h w':=fun b o hb=>by
  rw [x.block b (e.lt hb) ((d b).resolve_right (by rw [hb]; simp))]
  exact e b o hb
theorem But.of_ext [DM] {m:PH} {w w':World} (x:Ext w w'):But m w w':=⟨x.os,x.tape,x.output,x.size,fun k hk _=>x.block k hk,x.drawn⟩
theorem But.trans [DM] {m:PH} {a b c:World} (x:But m a b) (y:But m b c):But m a c :=
  ⟨y.os.trans x.os,y.tape.trans x.tape,y.output.trans x.output,Nat.le_trans x.size y.size,fun k hk hm=>by
    rw [y.block k (Nat.lt_of_lt_of_le hk x.size) hm]; exact x.block k hk hm,fun d=>Nat.le_trans (x.drawn d) (y.drawn d)⟩
structure TyI (P:Program) (t:TypeId) (sz bytes:Nat) (z:Value):Prop where
  ok:∃ i,P.info? t=some i∧i.size=sz∧i.bytes=bytes∧i.zero=some z∧z.cells.size=sz
theorem TyI.mk' {P:Program} {t:TypeId} {sz bytes:Nat} {z:Value} (h:(P.info? t).map (fun i=>(i.zero,i.size,i.bytes))=some (some z,sz,bytes)) (hz:z.cells.size=sz):TyI P t sz bytes z:=by
  cases hi:P.info? t with
  | none=>rw [hi] at h; cases h
  | some i =>
    rw [hi] at h
    simp only [Option.map_some,Option.some.injEq,Prod.mk.injEq] at h
    exact ⟨i,hi,h.2.1,h.2.2,h.1,hz⟩
structure Ty where
  und:TypeId→Option TypeDesc
  fld:TypeId→Nat→Option Nat
  str:TypeId→Option (List Value×List (Nat×Nat))
def setCells:List Value→Nat→List Value→List Value
  | cs,_,[]=>cs
  | cs,off,c :: r=>setCells (cs.set off c) (off+1) r
def fillL (pl:List (Nat×Nat)):List Value→List (Nat×Value)→Option (List Value)
  | cs,[]=>some cs
  | cs,(i,v) :: r =>
    match pl[i]? with
    | none=>none
    | some (off,size)=>if v.cells.toList.length=size∧off+size≤cs.length then fillL pl (setCells cs off v.cells.toList) r else none
structure TyOk (P:Program) (T:Ty):Prop where
  und:∀ t d,T.und t=some d→P.underlying t=some d
  fld:∀ s f off,T.fld s f=some off→∀ a w,(Instr.fieldAt s (.pointer (some a)) f).run P w = .ok (.pointer (some (a.add off))) w
  str:∀ t z pl,T.str t=some (z,pl)→∀ parts cells w,fillL pl z parts.toList=some cells→(Instr.build t parts).run P w = .ok (.agg cells.toArray) w
def lk {α:Type}:List (Nat×α)→Nat→Option α
  | [],_=>none
  | (i,a) :: l,t=>if t=i then some a else lk l t
def lk2 {α:Type}:List ((Nat×Nat)×α)→Nat→Nat→Option α
  | [],_,_=>none
  | ((i,j),a) :: l,t,u=>if t=i then (if u=j then some a else lk2 l t u) else lk2 l t u
def allU (P:Program):List (Nat×TypeDesc)→Prop
  | []=>True
  | (t,d) :: l=>P.underlying t=some d∧allU P l
def FldOk (P:Program) (s f off:Nat):Prop:=∀ a w,(Instr.fieldAt s (.pointer (some a)) f).run P w = .ok (.pointer (some (a.add off))) w
def StrOk (P:Program) (t:Nat) (z:List Value) (pl:List (Nat×Nat)):Prop :=
  ∀ parts cells w,fillL pl z parts.toList=some cells→(Instr.build t parts).run P w = .ok (.agg cells.toArray) w
def allF (P:Program):List ((Nat×Nat)×Nat)→Prop
  | []=>True
  | ((s,f),off) :: l=>FldOk P s f off∧allF P l
def allS (P:Program):List (Nat×(List Value×List (Nat×Nat)))→Prop
  | []=>True
  | (t,z,pl) :: l=>StrOk P t z pl∧allS P l
theorem lk_allU {P:Program}:∀ {l:List (Nat×TypeDesc)} {t:Nat} {d:TypeDesc},allU P l→lk l t=some d→P.underlying t=some d
  | (i,a) :: l,t,d,h,e=>by
    unfold lk at e; split at e
    · rename_i ht; cases e; rw [ht]; exact h.1
    · exact lk_allU h.2 e
theorem lk_allF {P:Program}:∀ {l:List ((Nat×Nat)×Nat)} {t f:Nat} {d:Nat},allF P l→lk2 l t f=some d→FldOk P t f d
  | ((i,j),a) :: l,t,f,d,h,e=>by
    unfold lk2 at e; split at e
    · rename_i ht
      split at e
      · rename_i hf; cases e; rw [ht,hf]; exact h.1
      · exact lk_allF h.2 e
    · exact lk_allF h.2 e
theorem lk_allS {P:Program}:∀ {l:List (Nat×(List Value×List (Nat×Nat)))} {t:Nat} {d:List Value×List (Nat×Nat)},allS P l→lk l t=some d→StrOk P t d.1 d.2
  | (i,z,pl) :: l,t,d,h,e=>by
    unfold lk at e; split at e
    · rename_i ht; cases e; rw [ht]; exact h.1
    · exact lk_allS h.2 e
def Ty.of (u:List (Nat×TypeDesc)) (f:List ((Nat×Nat)×Nat)) (s:List (Nat×(List Value×List (Nat×Nat)))):Ty:=⟨lk u,lk2 f,lk s⟩
theorem TyOk.of {P:Program} {u:List (Nat×TypeDesc)} {f:List ((Nat×Nat)×Nat)} {s:List (Nat×(List Value×List (Nat×Nat)))} (hu:allU P u) (hf:allF P f) (hs:allS P s):TyOk P (Ty.of u f s) where
  und _ _ h:=lk_allU hu h
  fld _ _ _ h:=lk_allF hf h
  str _ _ _ h:=lk_allS hs h
def evInt (op:BinOp) (k:IntKind) (a b:Int):Option Value :=
  match op with
  | .add=>some (.int k (k.wrap (a+b)))
  | .sub=>some (.int k (k.wrap (a-b)))
  | .mul=>some (.int k (k.wrap (a * b)))
  | .eql=>some (.bool (a==b))
  | .neq=>some (.bool (a != b))
  | .shl=>if 0≤b then some (.int k (k.wrap (a * 2 ^ (min b.toNat k.bits)))) else none
  | .shr=>if 0≤b then some (.int k (a.fdiv (2 ^ (min b.toNat k.bits)))) else none
  | .lss=>some (.bool (decide (a<b)))
  | .leq=>some (.bool (decide (a≤b)))
  | .gtr=>some (.bool (decide (a>b)))
  | .geq=>some (.bool (decide (a≥b)))
  | .and=>some (.int k (bits .and k a b))
  | .or=>some (.int k (bits .or k a b))
  | .xor=>some (.int k (bits .xor k a b))
  | .andNot=>some (.int k (bits .andNot k a b))
  | _=>none
def evBin (T:Ty) (op:BinOp) (t:TypeId) (x y:Value):Option Value :=
  match x,y with
  | .int .i64 a,.int .i64 b=>evInt op .i64 a b
  | .int .u8 a,.int .u8 b=>evInt op .u8 a b
  | .int .i32 a,.int .i32 b=>evInt op .i32 a b
  | .int .u64 a,.int .u64 b=>evInt op .u64 a b
  | .int .i64 a,.int _ b =>
    match op with
    | .shl=>if 0≤b then some (.int .i64 (IntKind.i64.wrap (a * 2 ^ (min b.toNat 64)))) else none
    | .shr=>if 0≤b then some (.int .i64 (a.fdiv (2 ^ (min b.toNat 64)))) else none
    | _=>none
  | .int .u64 a,.int _ b =>
    match op with
    | .shl=>if 0≤b then some (.int .u64 (IntKind.u64.wrap (a * 2 ^ (min b.toNat 64)))) else none
    | .shr=>if 0≤b then some (.int .u64 (a.fdiv (2 ^ (min b.toNat 64)))) else none
    | _=>none
  | .bool a,.bool b =>
    match T.und t with
    | some .bool=>match op with | .eql=>some (.bool (a==b)) | .neq=>some (.bool (a != b)) | _=>none
    | _=>none
  | .string a,.string b=>match op with | .eql=>some (.bool (a.toList==b.toList)) | .neq=>some (.bool !(a.toList==b.toList)) | _=>none
  | _,_=>none
def evUn (op:UnOp) (x:Value):Option Value :=
  match op,x with
  | .neg,.int k n=>some (.int k (k.wrap (0-n)))
  | .not,.bool b=>some (.bool !b)
  | _,_=>none
def evOp (T:Ty) (n:Nat) (ρ:Env) (op:Op):Option Value :=
  match op with
  | .move x | .assign x=>some (opd n ρ x)
  | .pick c a b=>match opd n ρ c with | .bool true=>some (opd n ρ a) | .bool false=>some (opd n ρ b) | _=>none
  | .binOp op t x y _=>evBin T op t (opd n ρ x) (opd n ρ y)
  | .unOp op _ x=>evUn op (opd n ρ x)
  | .nilCheck x=>match opd n ρ x with | .pointer (some a)=>some (.pointer (some a)) | _=>none
  | .extract x i=>match opd n ρ x with | .tuple vs=>vs.toList[i]? | _=>none
  | .call ⟨.builtin .len,⟨[x]⟩,⟨[t]⟩⟩ =>
    match T.und t,opd n ρ x with
    | some (.slice _),.slice _ l _=>some (.int .i64 l)
    | some .string,.string s=>some (.int .i64 s.size)
    | _,_=>none
  | .call ⟨.builtin .max,⟨[x,y]⟩,_⟩ =>
    match opd n ρ x,opd n ρ y with
    | .int k a,.int _ b=>some (.int k (if b>a then b else a))
    | _,_=>none
  | .call ⟨.builtin .min,⟨[x,y]⟩,_⟩ =>
    match opd n ρ x,opd n ρ y with
    | .int k a,.int _ b=>some (.int k (if b<a then b else a))
    | _,_=>none
  | .fieldAddr s x f=>match T.fld s f,opd n ρ x with | some off,.pointer (some a)=>some (.pointer (some (a.add off))) | _,_=>none
  | .build t parts =>
    match T.str t with
    | some (z,pl)=>match fillL pl z (parts.toList.map fun p=>(p.1,opd n ρ p.2)) with | some cells=>some (.agg cells.toArray) | none=>none
    | none=>none
  | .convert s d x =>
    match T.und s,T.und d,opd n ρ x with
    | some (.int _),some (.int k),.int _ m=>some (.int k (k.wrap m))
    | _,_,_=>none
  | .makeFunc (.func f) ⟨[]⟩ caps=>some (.func (.func f) #[] (caps.toList.map (opd n ρ)).toArray)
  | _=>none
section
variable {P:Program} {T:Ty} {n:Nat} {ρ:Env} {w:World}
theorem run_evInt {op:BinOp} {t:TypeId} {k:IntKind} {a b:Int} {v:Value} (h:evInt op k a b=some v) :
    (binOp op t (.int k a) (.int k b)).run P w = .ok v w:=by
  cases op <;> simp only [evInt] at h
  case shl =>
    split at h
    · rename_i hb; cases h; simp [binOp,Op.shift,Int.not_lt.2 hb]
    · cases h
  case shr =>
    split at h
    · rename_i hb; cases h; simp [binOp,Op.shift,Int.not_lt.2 hb]
    · cases h
  all_goals first | (cases h; done) | (cases h; simp [binOp,Op.intArith,Op.intCmp]; done) | (cases h; simp [binOp,Op.intBits,bits]; done)
theorem run_guard_int {op:BinOp} {t:TypeId} {x y:Operand} {k k':IntKind} {a b:Int}:(eqGuard op t x y (.int k a) (.int k' b)).run P w = .ok () w:=by
  unfold eqGuard; cases op <;> rfl
theorem run_evBin (ok:TyOk P T) {op:BinOp} {t:TypeId} {p q:Operand} {x y v:Value} (h:evBin T op t x y=some v) :
    (do eqGuard op t p q x y; binOp op t x y:Sem Value).run P w = .ok v w:=by
  unfold evBin at h
  split at h
  · simp only [Sem.run_bind,run_guard_int,Result.andThen_ok]; exact run_evInt h
  · simp only [Sem.run_bind,run_guard_int,Result.andThen_ok]; exact run_evInt h
  · simp only [Sem.run_bind,run_guard_int,Result.andThen_ok]; exact run_evInt h
  · simp only [Sem.run_bind,run_guard_int,Result.andThen_ok]; exact run_evInt h
  · rename_i k a b _
    simp only [Sem.run_bind,run_guard_int,Result.andThen_ok]
    split at h
    · split at h
      · rename_i hb; cases h; simp [binOp,Op.shift,Int.not_lt.2 hb,IntKind.bits]
      · cases h
    · split at h
      · rename_i hb; cases h; simp [binOp,Op.shift,Int.not_lt.2 hb,IntKind.bits]
      · cases h
    · cases h
  · rename_i k a b _
    simp only [Sem.run_bind,run_guard_int,Result.andThen_ok]
    split at h
    · split at h
      · rename_i hb; cases h; simp [binOp,Op.shift,Int.not_lt.2 hb,IntKind.bits]
      · cases h
    · split at h
      · rename_i hb; cases h; simp [binOp,Op.shift,Int.not_lt.2 hb,IntKind.bits]
      · cases h
    · cases h
  · rename_i a b
    split at h
    · rename_i hu
      have hu:=ok.und _ _ hu
      have he1:∀ (d:Nat) (a b:Bool),(Op.equalIn (d+1) t (.bool a) (.bool b)).run P w = .ok (a==b) w:=fun d a b=>by
        simp [Op.equalIn,run_underlying hu]
      have he:∀ a b:Bool,(Op.equal t (.bool a) (.bool b)).run P w = .ok (a==b) w:=fun a b=>he1 9999 a b
      cases op <;> simp only [reduceCtorEq,Option.some.injEq] at h
      · subst h; simp [eqGuard,binOp,he]
      · subst h; simp [eqGuard,binOp,he,bne]
    · cases h
  · rename_i a b
    cases op <;> simp only [reduceCtorEq,Option.some.injEq] at h
    · subst h; simp [eqGuard,binOp,Op.stringOp]
    · subst h; simp [eqGuard,binOp,Op.stringOp]
  · cases h
theorem run_evUn {op:UnOp} {x v:Value} (h:evUn op x=some v):(Op.unary op x).run P w = .ok v w:=by
  unfold evUn at h
  split at h
  · cases h; simp [Op.unary,Op.intArith]
  · cases h; simp [Op.unary]
  · cases h
theorem run_evOp (ok:TyOk P T) {o:Oper} {v:Value} (h:evOp T n ρ o.op=some v):(execOp (opd n ρ) o).run P w = .ok (.value v) w:=by
  obtain ⟨dst,op,type,pos,after,guard⟩:=o
  simp only at h
  unfold evOp at h
  split at h
  · cases h; simp [execOp]
  · cases h; simp [execOp]
  · rename_i c a b
    simp only [execOp]
    split at h
    · rename_i hb; cases h; simp [asBool,hb]
    · rename_i hb; cases h; simp [asBool,hb]
    · cases h
  · simp only [execOp,Sem.run_bind]; rw [← Sem.run_bind]; rw [run_evBin ok h]; rfl
  · simp only [execOp,Sem.run_bind,run_evUn h]; rfl
  · split at h
    · rename_i hv; cases h; simp [execOp,hv]
    · cases h
  · rename_i x i
    split at h
    · rename_i vs hv
      simp only [execOp,hv,Instr.extract,Sem.run_bind]
      rw [← Array.getElem?_toList,h]; rfl
    · cases h
  · rename_i x t
    split at h
    · rename_i hu hv
      cases h
      have hu:=ok.und _ _ hu
      simp [execOp,resolve,invoke,builtin,Builtin.len_,hv,run_underlying hu,goInt]
    · rename_i hu hv
      cases h
      have hu:=ok.und _ _ hu
      simp [execOp,resolve,invoke,builtin,Builtin.len_,hv,run_underlying hu,goInt]
    · cases h
  · split at h
    · rename_i hv hv'
      cases h
      simp [execOp,resolve,invoke,builtin,Builtin.max_,Builtin.max2,hv,hv']
    · cases h
  · split at h
    · rename_i hv hv'
      cases h
      simp [execOp,resolve,invoke,builtin,Builtin.min_,Builtin.min2,hv,hv']
    · cases h
  · split at h
    · rename_i hf hv
      cases h
      simp only [execOp,hv,Sem.run_bind,ok.fld _ _ _ hf]; rfl
    · cases h
  · rename_i t parts
    split at h
    · rename_i z pl hs
      split at h
      · rename_i cells hf
        cases h
        have:=ok.str _ _ _ hs (Array.map (fun (p:Nat×Operand)=>(p.1,opd n ρ p.2)) parts) cells w (by simpa using hf)
        simp only [execOp,Sem.run_bind]
        rw [this]; rfl
      · cases h
    · cases h
  · split at h
    · rename_i hs hd hv
      cases h
      have hs:=ok.und _ _ hs
      have hd:=ok.und _ _ hd
      simp [execOp,convert,hv,run_underlying hs,run_underlying hd,Conv.intToInt]
    · cases h
  · cases h
    simp only [execOp,Instr.makeFunc]
    simp
    apply Array.ext'; simp
  · cases h
end
end Go.Gv
/- Data as read in memory, and the operations that touch memory. -/
namespace Go.Gv
open Go Go.RowKit
section
variable {P:Program} {T:Ty} {n:Nat} {ρ:Env} {w:World} {ops:Array Oper} {Q:Exit→Act→World→Prop}
def updL (ρ:Env):List (Nat×Value)→Env
  | []=>ρ
  | (i,v) :: l=>updL (upd ρ i v) l
/-- The operations of a list, one by one, held against the values that are said. -/
def evList (T:Ty) (n:Nat) (ops:Array Oper):List Oper→Env→List (Nat×Value)→Option (List (Nat×Value))
  | [],_,[]=>some []
  | o :: r,ρ,(i,v) :: l =>
    match o.dst with
    | some d =>
      match gd n ops ρ o with
      | some true=>match evOp T n ρ o.op,evList T n ops r (upd ρ i v) l with | some u,some us=>some ((d,u) :: us) | _,_=>none
      | some false=>match evList T n ops r (upd ρ i v) l with | some us=>some ((d,undef) :: us) | _=>none
      | none=>none
    | none=>none
  | _,_,_=>none
theorem LP_ev_aux (ok:TyOk P T):∀ (r:List Oper) (k:Nat) (ρ:Env) (l:List (Nat×Value)),(∀ j o,r[j]?=some o→ops.toList[k+j]?=some o)→evList T n ops r ρ l=some l →
    LP P n ops Q (k+l.length) (updL ρ l) w→LP P n ops Q k ρ w
  | [],k,ρ,[],_,h,H=>H
  | [],k,ρ,_ :: _,_,h,H=>by simp [evList] at h
  | _ :: _,k,ρ,[],_,h,H=>by simp [evList] at h
  | o :: r,k,ρ,(i,v) :: l,hl,h,H=>by
    have h0:ops.toList[k]?=some o:=by simpa using hl 0 o rfl
    have hr:∀ j o',r[j]?=some o'→ops.toList[k+1+j]?=some o':=fun j o' hj=>by
      have:=hl (j+1) o' (by simpa using hj)
      rwa [show k+(j+1)=k+1+j from by omega] at this
    have H':LP P n ops Q (k+1+l.length) (updL (upd ρ i v) l) w:=by
      rw [List.length_cons,show k+(l.length+1)=k+1+l.length from by omega] at H; exact H
    simp only [evList] at h
    split at h
    · rename_i d hd
      split at h
      · rename_i hg
        split at h
        · rename_i u us hu hus
          simp only [Option.some.injEq,List.cons.injEq,Prod.mk.injEq] at h
          obtain ⟨⟨rfl,rfl⟩,rfl⟩:=h
          refine LP_val k o h0 hg (run_evOp ok hu) ?_
          rw [hd]
          exact LP_ev_aux ok r (k+1) _ _ hr hus H'
        · cases h
      · rename_i hg
        split at h
        · rename_i us hus
          simp only [Option.some.injEq,List.cons.injEq,Prod.mk.injEq] at h
          obtain ⟨⟨rfl,rfl⟩,rfl⟩:=h
          refine LP_off k o h0 hg ?_
          rw [hd]
          exact LP_ev_aux ok r (k+1) _ _ hr hus H'
        · cases h
      · cases h
    · cases h
/-- Several operations at once, by reduction: each slot and what it comes to hold. -/
theorem LP_ev (ok:TyOk P T) (k:Nat) (l:List (Nat×Value)) (k':Nat) (h:(evList T n ops ((ops.toList.drop k).take l.length) ρ l,k+l.length)=(some l,k'))
    (H:LP P n ops Q k' (updL ρ l) w):LP P n ops Q k ρ w:=by
  have hk:=congrArg Prod.snd h
  have h1:=congrArg Prod.fst h
  simp only at hk h1
  clear h
  subst hk
  refine LP_ev_aux ok _ k ρ l (fun j o hj=>?_) h1 H
  rw [List.getElem?_take] at hj
  split at hj
  · rw [List.getElem?_drop] at hj; exact hj
  · cases hj
end
section
variable {P:Program} {T:Ty} {n:Nat} {N:Asn} {X:Nat→Asn} {R:Asn} {ρ:Env} {w:World} {ops:Array Oper}
def QP [DM] (P:Program) (n:Nat) (ops:Array Oper) (w:World) (K:Env→Prop) (k:Nat) (ρ:Env):Prop :=
  wpQuiet P ops (fun w'=>Ext w w') (fun a=>∃ ρ,a=act n ρ∧K ρ) (ops.toList.drop k) (act n ρ)
theorem ext_drew [DM] (w:World):Ext w { w with drawn:=w.drawn+1 }:=(Ext.refl _).drew
theorem W_quiet [DM] {id:Nat} (hm:P.follows .mixedOrders=true) (hB:Region.lexB .any ops=true)
    (h:QP P n ops w (fun ρ=>∀ w',Ext w w'→N ρ w') 0 ρ):WP P n (.region id ops true) N X R ρ w:=by
  refine wp_region_quiet (C:=fun w'=>Ext w w') hm hB (ext_drew w) ?_
  have key:∀ (l:List Oper) (a:Act),wpQuiet P ops (fun w'=>Ext w w') (fun a=>∃ ρ,a=act n ρ∧∀ w',Ext w w'→N ρ w') l a →
      wpQuiet P ops (fun w'=>Ext w w') (fun a'=>∀ w',Ext w w'→pst n N X R .normal a' w') l a:=by
    intro l
    induction l with
    | nil=>intro a h; obtain ⟨ρ,rfl,h⟩:=h; exact fun w' x=>⟨ρ,rfl,h w' x⟩
    | cons o l ih =>
      intro a h
      unfold wpQuiet at h ⊢
      split
      · rename_i hw; rw [if_pos hw] at h; obtain ⟨v,h1,h2⟩:=h; exact ⟨v,h1,ih _ h2⟩
      · rename_i hw; rw [if_neg hw] at h; exact ih _ h
  exact key _ _ h
theorem QP_end [DM] {K:Env→Prop} (k:Nat) (hk:ops.toList.drop k=[]) (h:K ρ):QP P n ops w K k ρ:=by
  unfold QP; rw [hk]; exact ⟨ρ,rfl,h⟩
theorem QP_off [DM] {K:Env→Prop} (k:Nat) (o:Oper) (ho:ops.toList[k]?=some o) (hg:gd n ops ρ o=some false)
    (h:QP P n ops w K (k+1) (updO ρ o.dst undef)):QP P n ops w K k ρ:=by
  unfold QP at *
  rw [drop_cons ho]
  unfold wpQuiet
  rw [gd_wanted hg,if_neg (by decide),act_putO]; exact h
theorem QP_val [DM] {K:Env→Prop} (k:Nat) (o:Oper) {v:Value} (ho:ops.toList[k]?=some o) (hg:gd n ops ρ o=some true)
    (hr:∀ w',Ext w w'→(execOp (opd n ρ) o).run P w' = .ok (.value v) w') (h:QP P n ops w K (k+1) (updO ρ o.dst v)):QP P n ops w K k ρ:=by
  unfold QP at *
  rw [drop_cons ho]
  unfold wpQuiet
  rw [gd_wanted hg,if_pos rfl]
  refine ⟨v,fun w' x=>?_,by rw [act_putO]; exact h⟩
  unfold Oper.quietAt
  rw [act_eval',hr w' x]
  exact ⟨rfl,rfl⟩
theorem QP_enter [DM] {K:Env→Prop} (k:Nat) (o:Oper) {f:FuncId} {args:Array Value} (v:Value) (ho:ops.toList[k]?=some o) (hg:gd n ops ρ o=some true)
    (hr:∀ w',(execOp (opd n ρ) o).run P w' = .ok (.enter f args) w')
    (hc:∀ w',Ext w w'→CallsTo P f args w' fun u w''=>u=v∧Ext w' w'') (h:QP P n ops w K (k+1) (updO ρ o.dst v)):QP P n ops w K k ρ:=by
  unfold QP at *
  rw [drop_cons ho]
  unfold wpQuiet
  rw [gd_wanted hg,if_pos rfl]
  refine ⟨v,fun w' x=>?_,by rw [act_putO]; exact h⟩
  unfold Oper.quietAt
  rw [act_eval',hr w']
  refine ⟨rfl,Calls.mono (hc w' x) fun e w'' he=>?_⟩
  cases e with
  | returned u=>obtain ⟨rfl,x'⟩:=he; exact ⟨rfl,x.trans x'⟩
  | panicked c=>exact he.elim
  | outgrown=>exact he.elim
theorem QP_ev_aux [DM] (ok:TyOk P T) {K:Env→Prop}:∀ (r:List Oper) (k:Nat) (ρ:Env) (l:List (Nat×Value)),(∀ j o,r[j]?=some o→ops.toList[k+j]?=some o)→evList T n ops r ρ l=some l →
    QP P n ops w K (k+l.length) (updL ρ l)→QP P n ops w K k ρ
  | [],k,ρ,[],_,h,H=>H
  | [],k,ρ,_ :: _,_,h,H=>by simp [evList] at h
  | _ :: _,k,ρ,[],_,h,H=>by simp [evList] at h
  | o :: r,k,ρ,(i,v) :: l,hl,h,H=>by
    have h0:ops.toList[k]?=some o:=by simpa using hl 0 o rfl
    have hr:∀ j o',r[j]?=some o'→ops.toList[k+1+j]?=some o':=fun j o' hj=>by
      have:=hl (j+1) o' (by simpa using hj)
      rwa [show k+(j+1)=k+1+j from by omega] at this
    have H':QP P n ops w K (k+1+l.length) (updL (upd ρ i v) l):=by
      rw [List.length_cons,show k+(l.length+1)=k+1+l.length from by omega] at H; exact H
    simp only [evList] at h
    split at h
    · rename_i d hd
      split at h
      · rename_i hg
        split at h
        · rename_i u us hu hus
          simp only [Option.some.injEq,List.cons.injEq,Prod.mk.injEq] at h
          obtain ⟨⟨rfl,rfl⟩,rfl⟩:=h
          refine QP_val k o h0 hg (fun w' _=>run_evOp ok hu) ?_
          rw [hd]
          exact QP_ev_aux ok r (k+1) _ _ hr hus H'
        · cases h
      · rename_i hg
        split at h
        · rename_i us hus
          simp only [Option.some.injEq,List.cons.injEq,Prod.mk.injEq] at h
          obtain ⟨⟨rfl,rfl⟩,rfl⟩:=h
          refine QP_off k o h0 hg ?_
          rw [hd]
          exact QP_ev_aux ok r (k+1) _ _ hr hus H'
        · cases h
      · cases h
    · cases h
/-- Several operations at once, by reduction: each slot and what it comes to hold. -/
theorem QP_ev [DM] (ok:TyOk P T) {K:Env→Prop} (k:Nat) (l:List (Nat×Value)) (k':Nat) (h:(evList T n ops ((ops.toList.drop k).take l.length) ρ l,k+l.length)=(some l,k'))
    (H:QP P n ops w K k' (updL ρ l)):QP P n ops w K k ρ:=by
  have hk:=congrArg Prod.snd h
  have h1:=congrArg Prod.fst h
  simp only at hk h1
  clear h
  subst hk
  refine QP_ev_aux ok _ k ρ l (fun j o hj=>?_) h1 H
  rw [List.getElem?_take] at hj
  split at hj
  · rw [List.getElem?_drop] at hj; exact hj
  · cases hj
end
class Enc (α:Type) where
  n:Nat
  agg:Bool
  rd:PH→List Value→α→Prop
  len:∀ {h cs x},rd h cs x→cs.length=n
  le:∀ {h h':PH} {cs x},Le h h'→rd h cs x→rd h' cs x
  one:∀ {h cs x},rd h cs x→∀ c∈cs,c.oneCell'=true
  sing:agg=false→n=1
class Flat (α:Type) extends Enc α where
  enc:α→List Value
  flat:∀ {h cs x},rd h cs x↔cs=enc x
def vOf (agg:Bool) (cs:List Value):Value:=if agg then .agg cs.toArray else cs.headD undef
abbrev I (x:Int):Value := .int .i64 x
instance:Flat Int where
  n:=1
  agg:=false
  rd _ cs x:=cs=[I x]
  enc x:=[I x]
  len h:=by subst h; rfl
  le _ h:=h
  one h c hc:=by subst h; simp at hc; subst hc; rfl
  sing _:=rfl
  flat:=Iff.rfl
instance:Flat Bool where
  n:=1
  agg:=false
  rd _ cs x:=cs=[.bool x]
  enc x:=[.bool x]
  len h:=by subst h; rfl
  le _ h:=h
  one h c hc:=by subst h; simp at hc; subst hc; rfl
  sing _:=rfl
  flat:=Iff.rfl
/-- A byte as an element. -/
structure B8 where
  v:Int
instance:Flat B8 where
  n:=1
  agg:=false
  rd _ cs x:=cs=[.int .u8 x.v]
  enc x:=[.int .u8 x.v]
  len h:=by subst h; rfl
  le _ h:=h
  one h c hc:=by subst h; simp at hc; subst hc; rfl
  sing _:=rfl
  flat:=Iff.rfl
instance:Flat ByteArray where
  n:=1
  agg:=false
  rd _ cs x:=cs=[.string x]
  enc x:=[.string x]
  len h:=by subst h; rfl
  le _ h:=h
  one h c hc:=by subst h; simp at hc; subst hc; rfl
  sing _:=rfl
  flat:=Iff.rfl
/-- The cells at address a are cs. -/
def rdAt (h:PH) (a:Addr) (cs:List Value):Prop:=∀ j c,cs[j]?=some c→cellH h (a.add j)=some c
/-- A slice value reads as the list xs. -/
def RS {α:Type} [Enc α] (h:PH) (v:Value) (xs:List α):Prop :=
  (v = .slice none 0 0∧xs=[]) ∨
  ∃ a cap,v = .slice (some a) xs.length cap∧xs.length≤cap∧(xs=[]∨a.spot=none)∧∀ i x,xs[i]?=some x→∃ cs,rdAt h (a.add (i * Enc.n α)) cs∧Enc.rd h cs x
theorem rdAt.le {h h':PH} {a:Addr} {cs:List Value} (l:Le h h') (r:rdAt h a cs):rdAt h' a cs:=fun j c hj=>cellH_le l (r j c hj)
theorem RS.le {α:Type} [Enc α] {h h':PH} {v:Value} {xs:List α} (l:Le h h') (r:RS h v xs):RS h' v xs:=by
  rcases r with r | ⟨a,cap,hv,hc,hs,hx⟩
  · exact .inl r
  · exact .inr ⟨a,cap,hv,hc,hs,fun i x hi=>let ⟨cs,h1,h2⟩:=hx i x hi; ⟨cs,h1.le l,Enc.le l h2⟩⟩
theorem RS.shape {α:Type} [Enc α] {h:PH} {v:Value} {xs:List α} (r:RS h v xs):∃ a cap,v = .slice a xs.length cap:=by
  rcases r with ⟨rfl,rfl⟩ | ⟨a,cap,hv,_⟩
  · exact ⟨_,_,rfl⟩
  · exact ⟨_,_,hv⟩
instance {α:Type} [Enc α]:Enc (List α) where
  n:=1
  agg:=false
  rd h cs xs:=∃ v,cs=[v]∧RS h v xs
  len:=fun ⟨_,h,_⟩=>by subst h; rfl
  le l:=fun ⟨v,h,r⟩=>⟨v,h,r.le l⟩
  one:=fun ⟨v,h,r⟩ c hc=>by
    subst h; simp at hc; subst hc
    obtain ⟨a,cap,rfl⟩:=r.shape
    rfl
  sing _:=rfl
/-- A value (of one or more cells) reads as x. -/
def RV {α:Type} [Enc α] (h:PH) (v:Value) (x:α):Prop:=∃ cs,Enc.rd h cs x∧v=vOf (Enc.agg α) cs
theorem RV.slice {α:Type} [Enc α] {h:PH} {v:Value} {xs:List α} (r:RV h v xs):RS h v xs:=by
  obtain ⟨cs,⟨u,rfl,r⟩,rfl⟩:=r; exact r
theorem RV.int {h:PH} {v:Value} {x:Int} (r:RV h v x):v=I x:=by obtain ⟨cs,rfl,rfl⟩:=r; rfl
theorem RV.b8 {h:PH} {v:Value} {x:B8} (r:RV h v x):v = .int .u8 x.v:=by obtain ⟨cs,rfl,rfl⟩:=r; rfl
theorem RV.str {h:PH} {v:Value} {x:ByteArray} (r:RV h v x):v = .string x:=by obtain ⟨cs,rfl,rfl⟩:=r; rfl
section
variable {P:Program} {w:World}
theorem addr_add0 (a:Addr):a.add 0=a:=by simp [Addr.add]
theorem addr_add_add (a:Addr) (hs:a.spot=none) (i j:Nat):(a.add i).add j=a.add (i+j):=by
  obtain ⟨b,o,s⟩:=a
  simp only at hs; subst hs
  simp only [Addr.add]
  by_cases hi:i=0 <;> by_cases hj:j=0 <;> simp [hi,hj] <;> try omega
/-- 'x[i]', the address: within bounds. -/
theorem run_indexAt {α:Type} [Enc α] {h:PH} {v:Value} {xs:List α} {t e:TypeId} {bytes:Nat} {z:Value} (hu:P.underlying t=some (.slice e)) (hi:TyI P e (Enc.n α) bytes z)
    (r:RS h v xs) (k:IntKind) (i:Int) (x:α) (h0:0≤i) (hx:xs[i.toNat]?=some x) :
    ∃ a cs,(∀ w,(Instr.indexAt t v (.int k i)).run P w = .ok (.pointer (some a)) w)∧rdAt h a cs∧Enc.rd h cs x:=by
  obtain ⟨hlt,_⟩:=List.getElem?_eq_some_iff.1 hx
  rcases r with ⟨rfl,rfl⟩ | ⟨a,cap,rfl,hcap,hs,hr⟩
  · simp at hx
  · obtain ⟨cs,h1,h2⟩:=hr _ _ hx
    obtain ⟨inf,hinf,hsz,_⟩:=hi.ok
    refine ⟨_,cs,fun w=>?_,h1,h2⟩
    have hb:0≤i∧i<(xs.length:Int):=⟨h0,by omega⟩
    simp [Instr.indexAt,asIntOf,run_underlying hu,hb,sizeOf,typeInfo,hinf,hsz]
theorem loadCells_run (a:Addr) (cs:List Value):∀ (i:Nat) (acc:Array Value),(∀ j c,cs[j]?=some c→w.cell? (a.add (i+j))=some c) →
    (loadCellsFrom a i cs.length acc).run P w = .ok (acc++cs.toArray) w:=by
  induction cs with
  | nil=>intro i acc _; simp [loadCellsFrom]
  | cons c cs ih =>
    intro i acc h
    have h0:=h 0 c rfl
    have h1:=ih (i+1) (acc.push c) (fun j c' hj=>by
      have:=h (j+1) c' (by simpa using hj)
      rwa [show i+(j+1)=i+1+j from by omega] at this)
    simp only [List.length_cons,loadCellsFrom,Sem.run_bind,run_load]
    simp only [Nat.add_zero] at h0
    rw [h0]
    simp only [Result.andThen_ok]
    rw [h1]
    simp
structure AggT (P:Program) (t:TypeId) (agg:Bool):Prop where
  ok:∃ d,P.underlying t=some d∧(agg=true↔((∃ f,d = .struct f)∨∃ l e,d = .array l e))
theorem run_isAgg {t:TypeId} {agg:Bool} (h:AggT P t agg):(isAgg t).run P w = .ok agg w:=by
  obtain ⟨d,hd,hi⟩:=h.ok
  unfold isAgg
  simp only [Sem.run_bind,run_underlying hd,Result.andThen_ok]
  cases agg
  · cases d <;> first | rfl | (have:=hi.2 (.inl ⟨_,rfl⟩); cases this) | (have:=hi.2 (.inr ⟨_,_,rfl⟩); cases this)
  · rcases hi.1 rfl with ⟨f,rfl⟩ | ⟨l,e,rfl⟩ <;> rfl
theorem run_loadVar {t:TypeId} {sz bytes:Nat} {z:Value} {agg:Bool} (hi:TyI P t sz bytes z) (hg:AggT P t agg) (hs1:agg=false→sz=1) (h:PH) (e:Sub h w) (a:Addr) (cs:List Value) (hl:cs.length=sz) (hr:rdAt h a cs) :
    (loadVar t a).run P w = .ok (vOf agg cs) w:=by
  obtain ⟨inf,hinf,hsz,_⟩:=hi.ok
  unfold loadVar
  simp only [Sem.run_bind,run_isAgg hg,Result.andThen_ok]
  cases agg
  · have h1:=hs1 rfl
    match cs,hl with
    | [c],_ =>
      have:=cellH_world e (hr 0 c rfl)
      rw [addr_add0] at this
      simp [vOf,this]
    | [],hl=>simp at hl; omega
    | _ :: _ :: _,hl=>simp at hl; omega
  · have:=loadCells_run (P:=P) a cs 0 #[] (fun j c hj=>by rw [Nat.zero_add]; exact cellH_world e (hr j c hj))
    rw [hl] at this
    simp [sizeOf,typeInfo,hinf,hsz,loadCells,this,vOf]
theorem run_loadAt {α:Type} [Enc α] {t:TypeId} {bytes:Nat} {z:Value} (hi:TyI P t (Enc.n α) bytes z) (hg:AggT P t (Enc.agg α)) {h:PH} {a:Addr} {cs:List Value} {x:α}
    (hr:rdAt h a cs) (hx:Enc.rd h cs x):∃ v,(∀ w,Sub h w→(Instr.loadAt t (.pointer (some a))).run P w = .ok v w)∧RV h v x:=by
  refine ⟨_,fun w e=>?_,cs,hx,rfl⟩
  simp only [Instr.loadAt,Instr.sureAddr,Sem.run_bind,Sem.run_pure,Result.andThen_ok]
  exact run_loadVar hi hg (Enc.sing (α:=α)) h e a cs (Enc.len hx) hr
theorem add_spot {a:Addr} (h:a.spot=none) (k:Nat):(a.add k).spot=none:=by unfold Addr.add; split <;> simp [h]
theorem RS.sub {α:Type} [Enc α] {h:PH} {b:Option Addr} {len cap:Nat} {xs:List α} (r:RS h (.slice b len cap) xs) (l u:Nat) (hl:l≤u) (hu:u≤xs.length) :
    RS h (sliced b l u cap (Enc.n α)) ((xs.drop l).take (u-l)):=by
  rcases r with ⟨e,rfl⟩ | ⟨a,cap',e,hc,hs,hx⟩
  · cases e
    simp at hu; subst hu
    have:l=0:=by omega
    subst this
    exact .inl ⟨rfl,by simp⟩
  · cases e
    have hlen:((xs.drop l).take (u-l)).length=u-l:=by rw [List.length_take,List.length_drop]; omega
    by_cases hcl:cap=l
    · have h0:u-l=0:=by omega
      refine .inr ⟨a,cap-l,by simp [sliced,hcl,hlen],by rw [hlen]; omega,.inl (by rw [h0]; simp),fun i x hi=>?_⟩
      rw [h0] at hi; simp at hi
    · refine .inr ⟨a.add (l * Enc.n α),cap-l,by simp [sliced,hcl,hlen],by rw [hlen]; omega,?_,fun i x hi=>?_⟩
      · rcases hs with rfl | hs
        · exact .inl (by simp)
        · exact .inr (add_spot hs _)
      · have hi':i<u-l:=by have:=(List.getElem?_eq_some_iff.1 hi).1; omega
        rw [List.getElem?_take,if_pos hi',List.getElem?_drop] at hi
        obtain ⟨cs,h1,h2⟩:=hx (l+i) x hi
        rcases hs with rfl | hs
        · simp at hi
        · refine ⟨cs,?_,h2⟩
          rw [addr_add_add a hs,← Nat.add_mul]; exact h1
/-- x[l:u]. -/
theorem run_slice_RS {α:Type} [Enc α] {h:PH} {v:Value} {xs:List α} {t e:TypeId} {bytes:Nat} {z:Value} (hu:P.underlying t=some (.slice e)) (hi:TyI P e (Enc.n α) bytes z) (r:RS h v xs)
    (lo up:Option Value) (l u:Int) (hlo:(lo=none∧l=0)∨lo=some (I l)) (hup:(up=none∧u=(xs.length:Int))∨up=some (I u)) (h0:0≤l) (h1:l≤u) (h2:u≤(xs.length:Int)) :
    ∃ v',(∀ w,(Instr.sliceAt t v lo up none).run P w = .ok v' w)∧RS h v' ((xs.drop l.toNat).take (u.toNat-l.toNat)):=by
  obtain ⟨b,cap,rfl⟩:=r.shape
  have hcap:xs.length≤cap:=by
    rcases r with ⟨e,rfl⟩ | ⟨a,cap',e,hc,_⟩
    · simp
    · cases e; exact hc
  obtain ⟨inf,hinf,hsz,_⟩:=hi.ok
  refine ⟨_,fun w=>?_,r.sub l.toNat u.toNat (by omega) (by omega)⟩
  have e2:P.elem t=e:=by simp [Program.elem,hu]
  rw [run_sliceAt_slice w t _ lo up none (by rw [e2]; exact hu)]
  have hsb:∀ w,(Instr.sliceBounds true xs.length cap lo up none).run P w = .ok (l.toNat,u.toNat,cap) w:=fun w=>by
    have hu0:0≤u:=by omega
    have huc:u≤(cap:Int):=by omega
    have hm:max u 0=u:=by omega
    rcases hlo with ⟨rfl,e1⟩ | rfl <;> rcases hup with ⟨rfl,e3⟩ | rfl
    · simp [Instr.sliceBounds]; omega
    · simp [Instr.sliceBounds,Instr.sliceBound,asIntOf,hu0,huc]; omega
    · have:l≤(xs.length:Int):=by omega
      simp [Instr.sliceBounds,Instr.sliceBound,asIntOf,h0,this]; omega
    · simp [Instr.sliceBounds,Instr.sliceBound,asIntOf,h0,h1,hu0,huc,hm]
  simp [Instr.slice,run_underlying hu,hsb w,sizeOf,typeInfo,hinf,hsz,sliced]
end
end Go.Gv
/- Functions: entering, returning; the forms that a function's meaning is written in. -/
namespace Go.Gv
open Go Go.RowKit
section
variable {P:Program}
def Ret (P:Program) (fn:Func) (n:Nat) (ρ:Env) (w:World) (v:Value):Prop:=(results fn (act n ρ).tmps).run P w = .ok v w
def argEnv (args:List Value):Env:=fun i=>args.getD i undef
theorem act_args (n:Nat) (args:List Value) (h:args.length≤n) :
    ({ tmps:=args.toArray++Array.replicate (n-args.toArray.size) undef,defers:=[] }:Act)=act n (argEnv args):=by
  unfold act
  congr 1
  apply Array.ext'
  simp only [Array.toList_append,Array.toList_replicate,List.size_toArray]
  apply List.ext_getElem?
  intro i
  simp only [List.getElem?_ofFn,argEnv]
  by_cases hi:i<args.length
  · rw [List.getElem?_append_left hi,dif_pos (by omega)]
    simp [hi]
  · rw [List.getElem?_append_right (by omega),List.getElem?_replicate]
    split
    · rw [dif_pos (by omega)]; simp; rw [List.getElem?_eq_none (by omega)]; rfl
    · rw [dif_neg (by omega)]
theorem enter {f:FuncId} {fn:Func} {c:Code} {args:List Value} {w:World} {R:Value→World→Prop} (n:Nat)
    (hf:P.funcs[f]?=some fn) (hb:fn.body=some c) (hn:fn.ntmps=n) (hl:Nat.ble args.length n=true)
    (h:WP P n c (fun ρ w=>∃ v,Ret P fn n ρ w v∧R v w) (fun _ _ _=>False) (fun ρ w=>∃ v,Ret P fn n ρ w v∧R v w) (argEnv args) w) :
    CallsTo P f args.toArray w R:=by
  refine calls_of_wp hf hb ?_
  rw [hn,act_args n args (Nat.le_of_ble_eq_true hl)]
  refine wp_mono h fun e a w h=>?_
  cases e with
  | normal=>obtain ⟨ρ,rfl,v,hv,hr⟩:=h; exact ⟨rfl,v,hv,hr⟩
  | ret=>obtain ⟨ρ,rfl,v,hv,hr⟩:=h; exact ⟨rfl,v,hv,hr⟩
  | exit i=>obtain ⟨ρ,rfl,h⟩:=h; exact h.elim
  | goto l=>exact h.elim
  | panic c=>exact h.elim
  | outgrown=>exact h.elim
def resOK (P:Program) (n:Nat) (ρ:Env) (w:World):List ResultVar→List Value→Prop
  | [],[]=>True
  | .tmp t :: r,v :: vs=>(Nat.blt t n=true∧ρ t=v)∧resOK P n ρ w r vs
  | .cell a t :: r,v :: vs=>(∃ ad,Nat.blt a n=true∧ρ a = .pointer (some ad)∧(loadVar t ad).run P w = .ok v w)∧resOK P n ρ w r vs
  | _,_=>False
def tup (vs:List Value):Value:=match vs with | [v]=>v | vs => .tuple vs.toArray
def resF (n:Nat) (ρ:Env) (r:ResultVar):Sem Value :=
  match r with
  | .tmp t=>pure ((act n ρ).tmps.getD t undef)
  | .cell a t=>(asAddr ((act n ρ).tmps.getD a undef)).bind (loadVar t)
theorem getD_act (n:Nat) (ρ:Env) (t:Nat) (h:t<n):(act n ρ).tmps.getD t undef=ρ t:=by
  rw [Array.getD_eq_getD_getElem?,act_get,if_pos h]; rfl
theorem resF_list {n:Nat} {ρ:Env} {w:World}:∀ (l:List ResultVar) (vs:List Value),resOK P n ρ w l vs→(l.mapM (resF n ρ)).run P w = .ok vs w
  | [],[],_=>by simp
  | [],_ :: _,h=>by simp [resOK] at h
  | .tmp t :: r,[],h=>by simp [resOK] at h
  | .cell _ _ :: r,[],h=>by simp [resOK] at h
  | .tmp t :: r,v :: vs,⟨⟨ht,hv⟩,h2⟩=>by
    have ih:=resF_list r vs h2
    have h3:(resF n ρ (.tmp t)).run P w = .ok v w:=by
      unfold resF; simp only
      rw [getD_act n ρ t (by simp [Nat.blt] at ht; omega),hv]; rfl
    simp only [List.mapM_cons,Sem.run_bind,ih,h3,Result.andThen_ok]
    simp
  | .cell a t :: r,v :: vs,⟨⟨ad,ha,hp,hl⟩,h2⟩=>by
    have ih:=resF_list r vs h2
    have h3:(resF n ρ (.cell a t)).run P w = .ok v w:=by
      unfold resF; simp only
      rw [getD_act n ρ a (by simp [Nat.blt] at ha; omega),hp]
      exact hl
    simp only [List.mapM_cons,Sem.run_bind,ih,h3,Result.andThen_ok]
    simp
theorem results_eq (fn:Func) (n:Nat) (ρ:Env):results fn (act n ρ).tmps=(do let vs ← fn.results.mapM (resF n ρ); pure (if h:vs.size=1 then vs[0] else .tuple vs)):=by
  unfold results
  congr 1
theorem Ret_of {fn:Func} {n:Nat} {ρ:Env} {w:World} (vs:List Value) (h:resOK P n ρ w fn.results.toList vs):Ret P fn n ρ w (tup vs):=by
  unfold Ret
  rw [results_eq,Array.mapM_eq_mapM_toList]
  simp only [Sem.run_bind,Sem.run_map,resF_list _ vs h,Result.andThen_ok,Sem.run_pure]
  congr 1
  match vs with
  | []=>rfl
  | [v]=>rfl
  | _ :: _ :: _=>simp [tup]
end
def br (b:Bool) (A B:Prop):Prop:=(b=true→A)∧(b=false→B)
def shl (k:IntKind) (a b:Int):Int:=k.wrap (a * 2 ^ (min b.toNat k.bits))
def shr (k:IntKind) (a b:Int):Int:=a.fdiv (2 ^ (min b.toNat k.bits))
/-- What is known of a comparison with nil, where only the list is known. -/
def nilq {α:Type} (xs:List α) (K:Bool→Prop):Prop:=∀ b,(b=true→xs=[])→K b
def sln (s:ByteArray):Int:=s.size
def streq (a b:ByteArray):Bool:=a.toList==b.toList
def sidx (s:ByteArray) (i:Int) (K:Int→Prop):Prop:=∃ b:UInt8,0≤i∧s[i.toNat]?=some b∧K (b.toNat:Int)
def idx {α:Type} (xs:List α) (i:Int) (K:α→Prop):Prop:=∃ x,0≤i∧xs[i.toNat]?=some x∧K x
abbrev ln {α:Type} (xs:List α):Int:=xs.length
abbrev wr (x:Int):Int:=IntKind.i64.wrap x
def jn {κ:Type} (f:κ→Prop) (k:κ):Prop:=f k
theorem jn_elim {κ:Type} {f:κ→Prop} {k:κ} (h:jn f k):∃ K,K=k∧f K:=⟨k,rfl,h⟩
def det1 {A:Type} (f:(A→Prop)→Prop) (k:A→Prop):Prop:=∃ a,f (fun x=>x=a)∧k a
def Loop1 {A:Type} (body:A→(A→Prop)→Prop) (a:A):Prop :=
  ∃ (J:A→Prop) (μ:A→Nat),J a∧∀ a,J a→body a (fun a'=>J a'∧μ a'<μ a)
def Loop2 {A B:Type} (body:A→B→(A→B→Prop)→Prop) (a:A) (b:B):Prop :=
  ∃ (J:A→B→Prop) (μ:A→B→Nat),J a b∧∀ a b,J a b→body a b (fun a' b'=>J a' b'∧μ a' b'<μ a b)
def Loop3 {A B C:Type} (body:A→B→C→(A→B→C→Prop)→Prop) (a:A) (b:B) (c:C):Prop :=
  ∃ (J:A→B→C→Prop) (μ:A→B→C→Nat),J a b c∧∀ a b c,J a b c→body a b c (fun a' b' c'=>J a' b' c'∧μ a' b' c'<μ a b c)
def Loop4 {A B C D:Type} (body:A→B→C→D→(A→B→C→D→Prop)→Prop) (a:A) (b:B) (c:C) (d:D):Prop :=
  ∃ (J:A→B→C→D→Prop) (μ:A→B→C→D→Nat),J a b c d∧∀ a b c d,J a b c d→body a b c d (fun a' b' c' d'=>J a' b' c' d'∧μ a' b' c' d'<μ a b c d)
/- loops over many variables -/
end Go.Gv
/- Steps: one operation that reads, in an ordered region (L..) and in a quiet one (Q..). -/
namespace Go.Gv
open Go Go.RowKit
section
variable {P:Program} {T:Ty} {n:Nat} {ρ:Env} {w:World} {ops:Array Oper} {Q:Exit→Act→World→Prop} {K:Env→Prop}
theorem ex_index {t:TypeId} {x y:Operand} {o:Oper} {v u:Value} {r:Value} (hop:o.op = .indexAddr t x y) (hx:opd n ρ x=v) (hy:opd n ρ y=u) {w:World}
    (h:(Instr.indexAt t v u).run P w = .ok r w):(execOp (opd n ρ) o).run P w = .ok (.value r) w:=by
  simp only [execOp,hop,hx,hy,Sem.run_bind,h]; rfl
theorem ex_load {t:TypeId} {x:Operand} {o:Oper} {v:Value} {r:Value} (hop:o.op = .load t x) (hx:opd n ρ x=v) {w:World}
    (h:(Instr.loadAt t v).run P w = .ok r w):(execOp (opd n ρ) o).run P w = .ok (.value r) w:=by
  simp only [execOp,hop,hx,Sem.run_bind,h]; rfl
theorem LP_index {α:Type} [Enc α] {h:PH} {v:Value} {xs:List α} {t e:TypeId} {bytes:Nat} {z:Value} {o:Oper} {x y:Operand} (k:Nat)
    (at0:At n ops ρ k o (.indexAddr t x y)) (hu:P.underlying t=some (.slice e)) (hi:TyI P e (Enc.n α) bytes z)
    (hx:opd n ρ x=v) {i:Int} (hy:opd n ρ y=I i) (r:RS h v xs) {el:α} (h0:0≤i) (he:xs[i.toNat]?=some el)
    (H:∀ a cs,rdAt h a cs→Enc.rd h cs el→LP P n ops Q (k+1) (updO ρ o.dst (.pointer (some a))) w):LP P n ops Q k ρ w:=by
  obtain ⟨a,cs,h1,h2,h3⟩:=run_indexAt hu hi r .i64 i el h0 he
  exact LP_val k o at0.o at0.g (ex_index at0.op hx hy (h1 _)) (H a cs h2 h3)
theorem LP_load {α:Type} [Enc α] {h:PH} {t:TypeId} {bytes:Nat} {z:Value} {o:Oper} {x:Operand} (k:Nat)
    (at0:At n ops ρ k o (.load t x)) (hi:TyI P t (Enc.n α) bytes z) (ha:AggT P t (Enc.agg α))
    {a:Addr} (hx:opd n ρ x = .pointer (some a)) {cs:List Value} {el:α} (r:rdAt h a cs) (rd:Enc.rd h cs el) (e:Sub h w)
    (H:∀ v,RV h v el→LP P n ops Q (k+1) (updO ρ o.dst v) w):LP P n ops Q k ρ w:=by
  obtain ⟨v,h1,h2⟩:=run_loadAt hi ha r rd
  exact LP_val k o at0.o at0.g (ex_load at0.op hx (h1 _ e)) (H v h2)
theorem QP_index [DM] {α:Type} [Enc α] {h:PH} {v:Value} {xs:List α} {t e:TypeId} {bytes:Nat} {z:Value} {o:Oper} {x y:Operand} (k:Nat)
    (at0:At n ops ρ k o (.indexAddr t x y)) (hu:P.underlying t=some (.slice e)) (hi:TyI P e (Enc.n α) bytes z)
    (hx:opd n ρ x=v) {i:Int} (hy:opd n ρ y=I i) (r:RS h v xs) {el:α} (h0:0≤i) (he:xs[i.toNat]?=some el)
    (H:∀ a cs,rdAt h a cs→Enc.rd h cs el→QP P n ops w K (k+1) (updO ρ o.dst (.pointer (some a)))):QP P n ops w K k ρ:=by
  obtain ⟨a,cs,h1,h2,h3⟩:=run_indexAt hu hi r .i64 i el h0 he
  exact QP_val k o at0.o at0.g (fun w' x'=>ex_index at0.op hx hy (h1 _)) (H a cs h2 h3)
theorem QP_load [DM] {α:Type} [Enc α] {h:PH} {t:TypeId} {bytes:Nat} {z:Value} {o:Oper} {x:Operand} (k:Nat)
    (at0:At n ops ρ k o (.load t x)) (hi:TyI P t (Enc.n α) bytes z) (ha:AggT P t (Enc.agg α))
    {a:Addr} (hx:opd n ρ x = .pointer (some a)) {cs:List Value} {el:α} (r:rdAt h a cs) (rd:Enc.rd h cs el) (e:Sub h w)
    (H:∀ v,RV h v el→QP P n ops w K (k+1) (updO ρ o.dst v)):QP P n ops w K k ρ:=by
  obtain ⟨v,h1,h2⟩:=run_loadAt hi ha r rd
  exact QP_val k o at0.o at0.g (fun w' x'=>ex_load at0.op hx (h1 _ (e.ext x'))) (H v h2)
theorem ex_slice {o:Oper} {t:TypeId} {x:Operand} {lo up:Option Operand} {v r:Value} {lv uv:Option Value} {w:World} (hop:o.op = .slice t x lo up none) (hx:opd n ρ x=v) (hl:lo.map (opd n ρ)=lv) (hu:up.map (opd n ρ)=uv)
    (h:(Instr.sliceAt t v lv uv none).run P w = .ok r w):(execOp (opd n ρ) o).run P w = .ok (.value r) w:=by
  subst hl hu
  simp only [execOp,hop,hx,Option.map_none,Sem.run_bind,h]; rfl
theorem LP_slice {α:Type} [Enc α] {h:PH} {v:Value} {xs:List α} {t e:TypeId} {bytes:Nat} {z:Value} {o:Oper} {x:Operand} {lo up:Option Operand} {lv uv:Option Value} (k:Nat) (l u:Int)
    (at0:At n ops ρ k o (.slice t x lo up none)) (hu:P.underlying t=some (.slice e)) (hi:TyI P e (Enc.n α) bytes z)
    (hx:opd n ρ x=v) (hl:lo.map (opd n ρ)=lv) (huv:up.map (opd n ρ)=uv) (r:RS h v xs) (hlo:(lv=none∧l=0)∨lv=some (I l)) (hup:(uv=none∧u=(xs.length:Int))∨uv=some (I u))
    (h0:0≤l) (h1:l≤u) (h2:u≤(xs.length:Int))
    (H:∀ v',RS h v' ((xs.drop l.toNat).take (u.toNat-l.toNat))→LP P n ops Q (k+1) (updO ρ o.dst v') w):LP P n ops Q k ρ w:=by
  obtain ⟨v',h3,h4⟩:=run_slice_RS hu hi r lv uv l u hlo hup h0 h1 h2
  exact LP_val k o at0.o at0.g (ex_slice at0.op hx hl huv (h3 w)) (H v' h4)
end
end Go.Gv
/- Memory that the call itself makes: boxes (variables in memory) and rows (slices that it owns). -/
namespace Go.Gv
open Go Go.RowKit
def DomLe (h:PH) (n:Nat) (h':PH):Prop:=∀ b,h b=none→b<n→h' b=none
theorem DomLe.dj {h h' q:PH} {w:World} (d:DomLe h w.heap.size h') (j:Dj h q) (e:Sub q w):Dj h' q:=fun b=>by
  cases hq:q b with
  | none=>exact .inr rfl
  | some o=>exact .inl (d b ((j b).resolve_right (by rw [hq]; simp)) (e.lt hq))
theorem DomLe.refl (h:PH) (n:Nat):DomLe h n h:=fun _ hb _=>hb
theorem DomLe.fresh {h h':PH} {n B:Nat} (d:DomLe h n h') (f:Fresh B h) (hB:B≤n):Fresh B h':=fun b hb=>d b (f b hb) (Nat.lt_of_lt_of_le hb hB)
theorem DomLe.trans {h h' h'':PH} {n m:Nat} (d:DomLe h n h') (e:DomLe h' m h'') (hm:n≤m):DomLe h n h'':=fun b hb hn=>e b (d b hb hn) (Nat.lt_of_lt_of_le hn hm)
theorem Fresh.mono {h:PH} {B B':Nat} (f:Fresh B h) (hB:B'≤B):Fresh B' h:=fun b hb=>f b (Nat.lt_of_lt_of_le hb hB)
/-- A step that writes m alone, within M or what is new since w0. -/
theorem But.step [DM] {M m:PH} {w0 w w':World} (x:But M w0 w) (y:But m w w') (d:DomLe M w0.heap.size m):But M w0 w' :=
  ⟨y.os.trans x.os,y.tape.trans x.tape,y.output.trans x.output,Nat.le_trans x.size y.size,fun k hk hm=>by
    rw [y.block k (Nat.lt_of_lt_of_le hk x.size) (d k hm hk)]; exact x.block k hk hm,fun d=>Nat.le_trans (x.drawn d) (y.drawn d)⟩
theorem But.refl [DM] (M:PH) (w:World):But M w w:=⟨rfl,rfl,rfl,Nat.le_refl _,fun _ _ _=>rfl,fun _=>Nat.le_refl _⟩
theorem But.stepx [DM] {M:PH} {w0 w w':World} (x:But M w0 w) (y:Ext w w'):But M w0 w':=x.trans (.of_ext y)
theorem But.ext [DM] {w w':World} (x:But emp w w'):Ext w w':=⟨x.os,x.tape,x.output,x.size,fun k hk=>x.block k hk rfl,x.drawn⟩
theorem Fresh.dom {h:PH} {n:Nat} (f:Fresh n h) (M:PH):DomLe M n h:=fun b _ hb=>f b hb
theorem emp_sub (w:World):Sub emp w:=fun b o h=>by cases h
theorem emp_fresh (n:Nat):Fresh n emp:=fun _ _=>rfl
theorem single_sub {b:Nat} {o:Obj} {w:World}:Sub (single b o) w↔w.heap[b]?=some o:=by
  constructor
  · intro h; exact h b o (by simp [single])
  · intro h k o' hk
    unfold single at hk; split at hk
    · rename_i e; cases hk; rw [e]; exact h
    · cases hk
theorem single_fresh {b n:Nat} {o:Obj} (h:n≤b):Fresh n (single b o):=fun k hk=>by unfold single; rw [if_neg (by omega)]
theorem single_dom {b n:Nat} {o o':Obj}:DomLe (single b o) n (single b o'):=fun k hk _=>by
  unfold single at *; split at hk
  · cases hk
  · rename_i h; rw [if_neg h]
theorem Dj.box {b:Nat} {o o':Obj} {q:PH} (d:Dj (single b o) q):Dj (single b o') q:=fun k=>(d k).imp (fun h=>by unfold single at *; split at h <;> simp_all) id
theorem Fresh.box {b n:Nat} {o o':Obj} (f:Fresh n (single b o)):Fresh n (single b o'):=fun k hk=>by have:=f k hk; unfold single at *; split at this <;> simp_all
def bx (b:Nat) (T:TypeId) (cs:List Value):PH:=single b (.cells cs.toArray T (0,0))
theorem cellH_bx (b:Nat) (T:TypeId) (cs:List Value) (j:Nat):cellH (bx b T cs) ⟨b,j,none⟩=cs[j]?:=by
  simp [cellH,bx,single]
def spl (cs:List Value) (off:Nat) (vs:List Value):List Value:=cs.take off++vs++cs.drop (off+vs.length)
theorem addr_at (b off j:Nat):(⟨b,off,none⟩:Addr).add j=⟨b,off+j,none⟩:=by
  unfold Addr.add; split <;> simp_all
theorem rdAt_bx (b:Nat) (T:TypeId) (cs:List Value) (off:Nat) (vs:List Value) (h:(cs.drop off).take vs.length=vs):rdAt (bx b T cs) ⟨b,off,none⟩ vs:=fun j c hj=>by
  rw [addr_at,cellH_bx]
  have hl:j<vs.length:=(List.getElem?_eq_some_iff.1 hj).1
  rw [← h,List.getElem?_take,if_pos hl,List.getElem?_drop] at hj
  exact hj
section
variable {P:Program} {w:World}
theorem run_store_row {b off T0:Nat} {cur:Array Value} {t sz bytes:Nat} {z:Value} {v:Value} {vs:List Value} (hi:TyI P t sz bytes z) (hv:v.cells.toList=vs) (hl:vs.length=sz)
    (hone:∀ c∈vs,c.oneCell'=true) (hw:w.heap[b]?=some (.cells cur T0 (0,0))) (hf:off+vs.length≤cur.size) :
    (Instr.storeAt t (.pointer (some ⟨b,off,none⟩)) v).run P w = .ok () (w.setRow b (spl cur.toList off vs).toArray):=by
  obtain ⟨inf,hinf,hsz,_⟩:=hi.ok
  have h:=run_storeCells_at P b off T0 vs 0 cur w hw (by omega) hone
  simp only [Nat.add_zero] at h
  have hcs:v.cells.size=sz:=by rw [← Array.length_toList,hv,hl]
  simp [Instr.storeAt,Instr.sureAddr,storeVar,sizeOf,typeInfo,hinf,hsz,hcs,hv,h,spl]
theorem setRow_but [DM] (b:Nat) (o:Obj) (cs:Array Value):But (single b o) w (w.setRow b cs) :=
  ⟨rfl,rfl,rfl,by simp,fun k _ hk=>setRow_other w b k cs (fun e=>by subst e; simp [single] at hk),fun _=>Nat.le_refl _⟩
theorem setRow_sub {b T0:Nat} {cur cs:Array Value} (hw:w.heap[b]?=some (.cells cur T0 (0,0))):Sub (single b (.cells cs T0 (0,0))) (w.setRow b cs) :=
  single_sub.2 (setRow_heap w b cur cs T0 _ hw)
theorem newRow_ok [DM] (T:TypeId) (cs:Array Value):Ext w (w.alloc (.cells cs T))∧Sub (single w.heap.size (.cells cs T (0,0))) (w.alloc (.cells cs T))∧Fresh w.heap.size (single w.heap.size (.cells cs T (0,0))) :=
  ⟨Ext.alloc _ _,single_sub.2 (heap_alloc_new w _),single_fresh (Nat.le_refl _)⟩
end
section
variable {P:Program} {T:Ty} {n:Nat} {ρ:Env} {w:World} {ops:Array Oper} {Q:Exit→Act→World→Prop}
/-- 'var x T': a new block of zero cells. -/
theorem LP_alloc [DM] {t sz bytes:Nat} {z:Value} {o:Oper} {cs:List Value} (k:Nat) (at0:At n ops ρ k o (.alloc t)) (hi:TyI P t sz bytes z) (hc:z.cells.toList=cs)
    (H:∀ b w',Ext w w'→Sub (bx b t cs) w'→Fresh w.heap.size (bx b t cs)→LP P n ops Q (k+1) (updO ρ o.dst (.pointer (some ⟨b,0,none⟩))) w'):LP P n ops Q k ρ w:=by
  obtain ⟨inf,hinf,hsz,_,hz,_⟩:=hi.ok
  have hcs:z.cells=cs.toArray:=by rw [← hc]
  obtain ⟨x,e,f⟩:=newRow_ok (w:=w) t cs.toArray
  refine LP_val k o at0.o at0.g (v := .pointer (some ⟨w.heap.size,0,none⟩)) (w':=w.alloc (.cells cs.toArray t)) ?_ (H _ _ x e f)
  simp [execOp,at0.op,Instr.alloc,zeroValue,typeInfo,hinf,hz,newVar,newRow,hcs]
theorem LP_box [DM] {t:Nat} {o:Oper} {x:Operand} {v:Value} {cs:List Value} (k:Nat) (at0:At n ops ρ k o (.box t x)) (hx:opd n ρ x=v) (hc:v.cells.toList=cs)
    (H:∀ b w',Ext w w'→Sub (bx b t cs) w'→Fresh w.heap.size (bx b t cs)→LP P n ops Q (k+1) (updO ρ o.dst (.pointer (some ⟨b,0,none⟩))) w'):LP P n ops Q k ρ w:=by
  have hcs:v.cells=cs.toArray:=by rw [← hc]
  obtain ⟨x',e,f⟩:=newRow_ok (w:=w) t cs.toArray
  refine LP_val k o at0.o at0.g (v := .pointer (some ⟨w.heap.size,0,none⟩)) (w':=w.alloc (.cells cs.toArray t)) ?_ (H _ _ x' e f)
  simp [execOp,at0.op,hx,Instr.box,newVar,newRow,hcs]
theorem LP_stbox [DM] {t sz bytes b off t0:Nat} {z v:Value} {o:Oper} {a x:Operand} {cs vs cs':List Value} (k:Nat) (at0:At n ops ρ k o (.store t a x))
    (hi:TyI P t sz bytes z) (ha:opd n ρ a = .pointer (some ⟨b,off,none⟩)) (hx:opd n ρ x=v) (hv:v.cells.toList=vs) (hl:vs.length=sz) (hone:vs.all (·.oneCell')=true)
    (e:Sub (bx b t0 cs) w) (hf:Nat.ble (off+vs.length) cs.length=true) (hs:spl cs off vs=cs')
    (H:∀ w',Sub (bx b t0 cs') w'→But (bx b t0 cs) w w'→LP P n ops Q (k+1) (updO ρ o.dst undef) w'):LP P n ops Q k ρ w:=by
  have hw:=single_sub.1 e
  subst hs
  have hr:=run_store_row (P:=P) (off:=off) hi hv hl (fun c hc=>List.all_eq_true.1 hone c hc) hw (by have:=Nat.le_of_ble_eq_true hf; simpa using this)
  refine LP_unit k o at0.o at0.g ?_ (H _ (setRow_sub hw) (setRow_but _ _ _))
  simp only [execOp,at0.op,ha,hx,Sem.run_bind,hr]; rfl
end
/-- A load from a box. -/
theorem ex_ldbox {P:Program} {n:Nat} {ρ:Env} {w:World} {t sz bytes b off t0:Nat} {z v:Value} {agg:Bool} {o:Oper} {a:Operand} {cs:List Value} (hop:o.op = .load t a) (hi:TyI P t sz bytes z) (hg:AggT P t agg)
    (hs1:agg=false→sz=1) (ha:opd n ρ a = .pointer (some ⟨b,off,none⟩)) (e:Sub (bx b t0 cs) w) (hl:((cs.drop off).take sz).length=sz) (hv:vOf agg ((cs.drop off).take sz)=v) :
    (execOp (opd n ρ) o).run P w = .ok (.value v) w:=by
  have:=run_loadVar (w:=w) hi hg hs1 (bx b t0 cs) e ⟨b,off,none⟩ ((cs.drop off).take sz) hl (rdAt_bx _ _ _ _ _ (by rw [hl]))
  subst hv
  simp only [execOp,hop,ha,Instr.loadAt,Instr.sureAddr,Sem.run_bind,Sem.run_pure,Result.andThen_ok,this]
section
variable {P:Program} {T:Ty} {n:Nat} {ρ:Env} {w:World} {ops:Array Oper} {Q:Exit→Act→World→Prop} {K:Env→Prop}
theorem LP_ldbox {t sz bytes b off t0:Nat} {z v:Value} {agg:Bool} {o:Oper} {a:Operand} {cs:List Value} (k:Nat) (at0:At n ops ρ k o (.load t a)) (hi:TyI P t sz bytes z) (hA:AggT P t agg)
    (hs1:agg=false→sz=1) (ha:opd n ρ a = .pointer (some ⟨b,off,none⟩)) (e:Sub (bx b t0 cs) w) (hl:((cs.drop off).take sz).length=sz) (hv:vOf agg ((cs.drop off).take sz)=v)
    (H:LP P n ops Q (k+1) (updO ρ o.dst v) w):LP P n ops Q k ρ w:=LP_val k o at0.o at0.g (ex_ldbox at0.op hi hA hs1 ha e hl hv) H
theorem QP_ldbox [DM] {t sz bytes b off t0:Nat} {z v:Value} {agg:Bool} {o:Oper} {a:Operand} {cs:List Value} (k:Nat) (at0:At n ops ρ k o (.load t a)) (hi:TyI P t sz bytes z) (hA:AggT P t agg)
    (hs1:agg=false→sz=1) (ha:opd n ρ a = .pointer (some ⟨b,off,none⟩)) (e:Sub (bx b t0 cs) w) (hl:((cs.drop off).take sz).length=sz) (hv:vOf agg ((cs.drop off).take sz)=v)
    (H:QP P n ops w K (k+1) (updO ρ o.dst v)):QP P n ops w K k ρ:=QP_val k o at0.o at0.g (fun _ x=>ex_ldbox at0.op hi hA hs1 ha (e.ext x) hl hv) H
def Callable (P:Program) (f:FuncId):Prop:=∀ args w,(callFunc f args).run P w = .ok (.enter f args) w
theorem Callable.mk {f:FuncId} {fn:Func} (h:P.funcs[f]?=some fn) (hb:fn.body.isNone=false) (hn:(fn.name == "runtime.NumGoroutine")=false):Callable P f:=fun args w=>by
  simp only [callFunc,Sem.run_bind,run_program,Result.andThen_ok,h,hn,hb,Bool.false_eq_true,if_false]
  rfl
theorem ex_call {f:FuncId} {o:Oper} {args:Array Operand} {tys:Array TypeId} {vals:List Value} (hop:o.op = .call ⟨.value (.func f),args,tys⟩) (hf:Callable P f) (ha:args.toList.map (opd n ρ)=vals) (w:World) :
    (execOp (opd n ρ) o).run P w = .ok (.enter f vals.toArray) w:=by
  have:args.map (opd n ρ)=vals.toArray:=by rw [← ha]; apply Array.ext'; simp
  simp [execOp,hop,resolve,opd,Deferred.ofValue,invoke,this,hf vals.toArray w]
theorem LP_call {f:FuncId} {o:Oper} {args:Array Operand} {tys:Array TypeId} {vals:List Value} {R:Value→World→Prop} (k:Nat) (at0:At n ops ρ k o (.call ⟨.value (.func f),args,tys⟩))
    (hf:Callable P f) (ha:args.toList.map (opd n ρ)=vals) (hc:CallsTo P f vals.toArray w R) (H:∀ v w',R v w'→LP P n ops Q (k+1) (updO ρ o.dst v) w'):LP P n ops Q k ρ w :=
  LP_enter k o at0.o at0.g (ex_call at0.op hf ha w) (hc.mono H)
theorem QP_call [DM] {f:FuncId} {o:Oper} {args:Array Operand} {tys:Array TypeId} {vals:List Value} (v:Value) (k:Nat) (at0:At n ops ρ k o (.call ⟨.value (.func f),args,tys⟩))
    (hf:Callable P f) (ha:args.toList.map (opd n ρ)=vals) (hc:∀ w',Ext w w'→CallsTo P f vals.toArray w' fun u w''=>u=v∧Ext w' w'') (H:QP P n ops w K (k+1) (updO ρ o.dst v)):QP P n ops w K k ρ :=
  QP_enter k o v at0.o at0.g (ex_call at0.op hf ha) hc H
/-- A call of a function that a slot holds. -/
theorem ex_callv {f:FuncId} {o:Oper} {x:Operand} {args:Array Operand} {tys:Array TypeId} {vals:List Value} (hop:o.op = .call ⟨.value x,args,tys⟩) (hx:opd n ρ x = .func (.func f) #[] #[]) (hf:Callable P f) (ha:args.toList.map (opd n ρ)=vals) (w:World) :
    (execOp (opd n ρ) o).run P w = .ok (.enter f vals.toArray) w:=by
  have:args.map (opd n ρ)=vals.toArray:=by rw [← ha]; apply Array.ext'; simp
  simp [execOp,hop,resolve,hx,Deferred.ofValue,invoke,this,hf vals.toArray w]
theorem LP_callv {f:FuncId} {o:Oper} {x:Operand} {args:Array Operand} {tys:Array TypeId} {vals:List Value} {R:Value→World→Prop} (k:Nat) (ho:ops.toList[k]?=some o) (hop:o.op = .call ⟨.value x,args,tys⟩) (hx:opd n ρ x = .func (.func f) #[] #[]) (hg:gd n ops ρ o=some true)
    (hf:Callable P f) (ha:args.toList.map (opd n ρ)=vals) (hc:CallsTo P f vals.toArray w R) (H:∀ v w',R v w'→LP P n ops Q (k+1) (updO ρ o.dst v) w'):LP P n ops Q k ρ w :=
  LP_enter k o ho hg (ex_callv hop hx hf ha w) (hc.mono H)
structure Eq2 (P:Program) (t:TypeId):Prop where
  und:P.underlying t=some (.struct (P.fieldsOf t))
  guard:P.eqGuardType P.depth t=false
  held:P.stoodInHeld t=false
  flds:∃ f1 f2:Field,(P.fieldsOf t).toList=[f1,f2]∧f1.name ≠ "_" ∧ f2.name ≠ "_" ∧ P.underlying f1.type=some (.int .i64)∧P.underlying f2.type=some (.int .i64) ∧
    (∀ a b w,(part f1.type #[I a,I b] f1.offset).run P w = .ok (I a) w)∧∀ a b w,(part f2.type #[I a,I b] f2.offset).run P w = .ok (I b) w
theorem Eq2.run {t:TypeId} (e:Eq2 P t) (a b c d:Int) (w:World):(Op.equalIn 10000 t (.agg #[I a,I b]) (.agg #[I c,I d])).run P w = .ok (a==c&&b==d) w:=by
  obtain ⟨f1,f2,hf,n1,n2,u1,u2,p1,p2⟩:=e.flds
  rw [run_equalIn_struct w 9999 t _ _ e.und e.held,hf]
  have k1:(Op.equalIn 9999 f1.type (I a) (I c)).run P w = .ok (a==c) w:=run_equalIn_int (P:=P) w 9998 f1.type .i64 .i64 a c u1
  have k2:(Op.equalIn 9999 f2.type (I b) (I d)).run P w = .ok (b==d) w:=run_equalIn_int (P:=P) w 9998 f2.type .i64 .i64 b d u2
  simp only [Op.eqFields,n1,n2,ne_eq,not_false_eq_true,if_true,Sem.run_bind,p1,k1,Result.andThen_ok]
  cases h1:a==c <;> cases h2:b==d <;> simp [p2,k2,h2]
theorem ex_eq2n {o:Oper} {t u:TypeId} {x y:Operand} {a b c d:Int} (e:Eq2 P t) (hop:o.op = .binOp .neq t x y u) (hx:opd n ρ x = .agg #[I a,I b]) (hy:opd n ρ y = .agg #[I c,I d]) (w:World) :
    (execOp (opd n ρ) o).run P w = .ok (.value (.bool (!((a==c)&&(b==d))))) w:=by
  simp only [execOp,hop,hx,hy,Sem.run_bind,run_eqGuard_agg w .neq t x y _ _ e.guard,Result.andThen_ok,run_neq_struct,e.run]
  rfl
theorem ex_quo {o:Oper} {t u:TypeId} {x y:Operand} {a b:Int} (hop:o.op = .binOp .quo t x y u) (hx:opd n ρ x=I a) (hy:opd n ρ y=I b) (hb:b≠0) (w:World) :
    (execOp (opd n ρ) o).run P w = .ok (.value (I (wr (a.tdiv b)))) w:=by
  simp only [execOp,hop,hx,hy,Sem.run_bind,run_guard_int,Result.andThen_ok]
  simp [binOp,Op.intDiv,hb]
theorem ex_rem {o:Oper} {t u:TypeId} {x y:Operand} {a b:Int} (hop:o.op = .binOp .rem t x y u) (hx:opd n ρ x=I a) (hy:opd n ρ y=I b) (hb:b≠0) (w:World) :
    (execOp (opd n ρ) o).run P w = .ok (.value (I (a.tmod b))) w:=by
  simp only [execOp,hop,hx,hy,Sem.run_bind,run_guard_int,Result.andThen_ok]
  simp [binOp,Op.intDiv,hb]
theorem ex_shl {o:Oper} {t u:TypeId} {x y:Operand} {k k':IntKind} {a b:Int} (hop:o.op = .binOp .shl t x y u) (hx:opd n ρ x = .int k a) (hy:opd n ρ y = .int k' b) (hb:0≤b) (w:World) :
    (execOp (opd n ρ) o).run P w = .ok (.value (.int k (shl k a b))) w:=by
  simp only [execOp,hop,hx,hy,Sem.run_bind,run_guard_int,Result.andThen_ok]
  simp [binOp,Op.shift,Int.not_lt.2 hb,shl]
theorem ex_shr {o:Oper} {t u:TypeId} {x y:Operand} {k k':IntKind} {a b:Int} (hop:o.op = .binOp .shr t x y u) (hx:opd n ρ x = .int k a) (hy:opd n ρ y = .int k' b) (hb:0≤b) (w:World) :
    (execOp (opd n ρ) o).run P w = .ok (.value (.int k (shr k a b))) w:=by
  simp only [execOp,hop,hx,hy,Sem.run_bind,run_guard_int,Result.andThen_ok]
  simp [binOp,Op.shift,Int.not_lt.2 hb,shr]
theorem ex_sidx {o:Oper} {t:TypeId} {x y:Operand} {s:ByteArray} {i:Int} {b:UInt8} (hop:o.op = .index t x y) (hx:opd n ρ x = .string s) (hy:opd n ρ y=I i) (hu:P.underlying t=some .string) (h0:0≤i) (hb:s[i.toNat]?=some b) (w:World) :
    (execOp (opd n ρ) o).run P w = .ok (.value (.int .u8 (b.toNat:Int))) w:=by
  simp [execOp,hop,hx,hy,Instr.index,asIntOf,run_underlying hu,h0,hb]
theorem ex_sadd {o:Oper} {t u:TypeId} {x y:Operand} {a b:ByteArray} (hop:o.op = .binOp .add t x y u) (hx:opd n ρ x = .string a) (hy:opd n ρ y = .string b) (hb:sln a+sln b≤9223372036854775807) (w:World) :
    (execOp (opd n ρ) o).run P w = .ok (.value (.string (a++b))) w:=by
  simp only [execOp,hop,hx,hy,Sem.run_bind]
  simp [binOp,Op.stringOp,eqGuard]
  unfold sln at hb; omega
/-- Split on a Bool in a slot. -/
theorem LP_split {k:Nat} (d:Nat) (b:Bool) (hd:ρ d = .bool b) (ht:b=true→LP P n ops Q k (upd ρ d (.bool true)) w) (hf:b=false→LP P n ops Q k (upd ρ d (.bool false)) w):LP P n ops Q k ρ w:=by
  cases b
  · have:=hf rfl; rwa [upd_self hd] at this
  · have:=ht rfl; rwa [upd_self hd] at this
theorem QP_split [DM] {k:Nat} (d:Nat) (b:Bool) (hd:ρ d = .bool b) (ht:b=true→QP P n ops w K k (upd ρ d (.bool true))) (hf:b=false→QP P n ops w K k (upd ρ d (.bool false))):QP P n ops w K k ρ:=by
  cases b
  · have:=hf rfl; rwa [upd_self hd] at this
  · have:=ht rfl; rwa [upd_self hd] at this
end
end Go.Gv
/- Slices that the call itself owns: make, append, a store to an element. -/
namespace Go.Gv
open Go Go.RowKit
def OwnC (_E:TypeId) (sz:Nat) (h:PH) (v:Value) (len:Nat) (cells:List Value):Prop :=
  cells.length=len * sz∧((v = .slice none 0 0∧len=0∧h=emp) ∨
   ∃ b cap cur E',v = .slice (some ⟨b,0,none⟩) len cap∧h=single b (.cells cur E' (0,0))∧len≤cap∧cap≤maxLen∧cur.size=cap * sz∧cur.toList.take (len * sz)=cells)
def rdL {α:Type} [Enc α] (g:PH):List Value→List α→Prop
  | cells,[]=>cells=[]
  | cells,x :: xs=>∃ c r,cells=c++r∧Enc.rd g c x∧rdL g r xs
/-- v is a slice that owns its row (the only block of h); its elements' cells read as xs by way of g. -/
def OS {α:Type} [Enc α] (E:TypeId) (h g:PH) (v:Value) (xs:List α):Prop:=∃ cells,OwnC E (Enc.n α) h v xs.length cells∧rdL g cells xs
section
variable {α:Type} [Enc α] {E:TypeId} {h g:PH} {v:Value} {xs:List α}
theorem rdL.length {cells:List Value} (r:rdL g cells xs):cells.length=xs.length * Enc.n α:=by
  induction xs generalizing cells with
  | nil=>simp [rdL] at r; simp [r]
  | cons x xs ih =>
    obtain ⟨c,r',rfl,hc,hr⟩:=r
    rw [List.length_append,Enc.len hc,ih hr,List.length_cons,Nat.succ_mul,Nat.add_comm]
theorem rdL.get {cells:List Value} (r:rdL g cells xs) (i:Nat) (x:α) (hx:xs[i]?=some x):∃ cs,Enc.rd g cs x∧(cells.drop (i * Enc.n α)).take (Enc.n α)=cs:=by
  induction xs generalizing cells i with
  | nil=>simp at hx
  | cons y xs ih =>
    obtain ⟨c,r',rfl,hc,hr⟩:=r
    have hl:=Enc.len hc
    cases i with
    | zero=>simp at hx; subst hx; exact ⟨c,hc,by simp [← hl]⟩
    | succ i =>
      obtain ⟨cs,h1,h2⟩:=ih hr i (by simpa using hx)
      refine ⟨cs,h1,?_⟩
      rw [Nat.succ_mul,Nat.add_comm,← List.drop_drop]
      have:List.drop (Enc.n α) (c++r')=r':=by rw [← hl]; simp
      rw [this]; exact h2
theorem rdL.one {cells:List Value} (r:rdL g cells xs):∀ c∈cells,c.oneCell'=true:=by
  induction xs generalizing cells with
  | nil=>simp [rdL] at r; subst r; simp
  | cons x xs ih =>
    obtain ⟨c,r',rfl,hc,hr⟩:=r
    intro u hu
    rcases List.mem_append.1 hu with hu | hu
    · exact Enc.one hc u hu
    · exact ih hr u hu
theorem rdL.le {g':PH} {cells:List Value} (l:Le g g') (r:rdL g cells xs):rdL g' cells xs:=by
  induction xs generalizing cells with
  | nil=>exact r
  | cons x xs ih=>obtain ⟨c,r',h1,h2,h3⟩:=r; exact ⟨c,r',h1,Enc.le l h2,ih h3⟩
theorem rdL.append {ys:List α} {c1 c2:List Value} (r:rdL g c1 xs) (s:rdL g c2 ys):rdL g (c1++c2) (xs++ys):=by
  induction xs generalizing c1 with
  | nil=>simp [rdL] at r; subst r; simpa using s
  | cons x xs ih =>
    obtain ⟨c,r',rfl,hc,hr⟩:=r
    exact ⟨c,r'++c2,by simp,hc,ih hr⟩
theorem rdL.set {cells:List Value} (r:rdL g cells xs) (i:Nat) (hi:i<xs.length) (x:α) (c:List Value) (hc:Enc.rd g c x):rdL g (spl cells (i * Enc.n α) c) (xs.set i x):=by
  induction xs generalizing cells i with
  | nil=>simp at hi
  | cons y xs ih =>
    obtain ⟨d,r',rfl,hd,hr⟩:=r
    have hl:=Enc.len hd
    have hcl:=Enc.len hc
    cases i with
    | zero=>exact ⟨c,r',by simp [spl,hcl,← hl],hc,hr⟩
    | succ i =>
      refine ⟨d,spl r' (i * Enc.n α) c,?_,hd,ih hr i (by simpa using hi)⟩
      simp only [spl,Nat.succ_mul]
      have e1:List.take (i * Enc.n α+Enc.n α) (d++r')=d++List.take (i * Enc.n α) r':=by
        rw [List.take_append,hl,List.take_of_length_le (by omega)]
        congr 2; omega
      have e2:List.drop (i * Enc.n α+Enc.n α+c.length) (d++r')=List.drop (i * Enc.n α+c.length) r':=by
        rw [List.drop_append,hl,List.drop_eq_nil_of_le (by omega),List.nil_append]
        congr 1; omega
      rw [e1,e2]; simp
theorem rdL.replicate (m:Nat) {c:List Value} {x:α} (hc:Enc.rd g c x):rdL g ((List.replicate m c).flatten) (List.replicate m x):=by
  induction m with
  | zero=>rfl
  | succ m ih=>exact ⟨c,(List.replicate m c).flatten,by simp [List.replicate_succ],hc,ih⟩
theorem OwnC.shape {sz len:Nat} {cells:List Value} (o:OwnC E sz h v len cells):∃ a cap,v = .slice a len cap:=by
  rcases o.2 with ⟨rfl,rfl,_⟩ | ⟨b,cap,cur,E',rfl,_⟩
  · exact ⟨_,_,rfl⟩
  · exact ⟨_,_,rfl⟩
theorem OS.shape (o:OS E h g v xs):∃ a cap,v = .slice a xs.length cap:=o.choose_spec.1.shape
theorem OS.nil:OS E emp g (.slice none 0 0) ([]:List α):=⟨[],⟨by simp,.inl ⟨rfl,rfl,rfl⟩⟩,rfl⟩
def un (h g:PH):PH:=fun b=>(h b).or (g b)
theorem Le.un_left (h g:PH):Le h (un h g):=fun b o e=>by simp [un,e]
theorem Sub.un {w:World} (e:Sub h w) (e':Sub g w):Sub (un h g) w:=fun b o ho=>by
  unfold Gv.un at ho
  cases hb:h b with
  | none=>rw [hb] at ho; exact e' b o (by simpa using ho)
  | some o'=>rw [hb] at ho; cases ho; exact e b _ hb
theorem Le.refl (h:PH):Le h h:=fun _ _ e=>e
theorem emp_le (h:PH):Le emp h:=fun _ _ e=>by cases e
/-- An owned slice, read. q holds both its row and what its elements lead to. -/
theorem OS.read {q:PH} (o:OS E h g v xs) (l:Le h q) (l':Le g q):RS q v xs:=by
  obtain ⟨cells,⟨hl,o⟩,r⟩:=o
  rcases o with ⟨rfl,h0,rfl⟩ | ⟨b,cap,cur,E',rfl,rfl,hc,hm,hs,ht⟩
  · exact .inl ⟨rfl,List.eq_nil_of_length_eq_zero h0⟩
  · refine .inr ⟨_,cap,rfl,hc,.inr rfl,fun i x hx=>?_⟩
    obtain ⟨cs,h1,h2⟩:=r.get i x hx
    refine ⟨cs,rdAt.le l ?_,Enc.le l' h1⟩
    have hi:i<xs.length:=(List.getElem?_eq_some_iff.1 hx).1
    have hn:i * Enc.n α+Enc.n α≤xs.length * Enc.n α:=by
      have:=Nat.mul_le_mul_right (Enc.n α) (Nat.succ_le_of_lt hi); rwa [Nat.succ_mul] at this
    rw [addr_at,Nat.zero_add]
    intro j c hj
    have hcl:=Enc.len h1
    have hjl:j<cs.length:=(List.getElem?_eq_some_iff.1 hj).1
    rw [addr_at]
    simp only [cellH,single,if_true,Option.isSome_none,Bool.false_eq_true,if_false]
    rw [← h2,List.getElem?_take,if_pos (by omega),List.getElem?_drop,← ht,List.getElem?_take,if_pos (by omega)] at hj
    rw [← Array.getElem?_toList]; exact hj
/-- Flat elements lead nowhere. -/
theorem OS.flat {β:Type} [Flat β] {E:TypeId} {h g g':PH} {v:Value} {xs:List β} (o:OS E h g v xs):OS E h g' v xs:=by
  obtain ⟨cells,o,r⟩:=o
  refine ⟨cells,o,?_⟩
  clear o
  induction xs generalizing cells with
  | nil=>exact r
  | cons x xs ih=>obtain ⟨c,r',h1,h2,h3⟩:=r; exact ⟨c,r',h1,Flat.flat.2 (Flat.flat.1 h2),ih _ h3⟩
theorem OS.readf {β:Type} [Flat β] {E:TypeId} {h g:PH} {v:Value} {xs:List β} (o:OS E h g v xs):RS h v xs:=(o.flat (g':=emp)).read (Le.refl h) (emp_le h)
end
section
variable {P:Program} {w:World}
theorem madeCells_eq (z:Array Value) (m:Nat):(madeCells z (m * z.size)).toList=(List.replicate m z.toList).flatten:=by
  apply List.ext_getElem?
  intro i
  have hl:((List.replicate m z.toList).flatten).length=m * z.size:=by simp [List.length_flatten]
  by_cases hi:i<m * z.size
  · have h1:(madeCells z (m * z.size)).toList[i]?=some (z[i % z.size]!):=by
      simp [madeCells,hi]
    rw [h1]
    clear h1
    induction m generalizing i with
    | zero=>simp at hi
    | succ m ih =>
      rw [List.replicate_succ,List.flatten_cons]
      by_cases h2:i<z.size
      · rw [List.getElem?_append_left (by simpa using h2),Nat.mod_eq_of_lt h2]
        simp [h2]
      · rw [List.getElem?_append_right (by simp; omega)]
        have h3:=ih (i-z.size) (by simp [List.length_flatten]) (by rw [Nat.succ_mul] at hi; omega)
        simp only [Array.length_toList]
        rw [← h3]
        congr 2
        rw [← Nat.mod_eq_sub_mod (by omega)]
  · rw [List.getElem?_eq_none (by simp [madeCells]; omega),List.getElem?_eq_none (by omega)]
theorem run_make_OS [DM] {α:Type} [Enc α] {t e:TypeId} {bytes:Nat} {z:Value} {x:α} (g:PH) (hu:P.underlying t=some (.slice e)) (hi:TyI P e (Enc.n α) bytes z)
    (hx:Enc.rd g z.cells.toList x) (m:Int) (h0:0≤m) (hb:(bytes:Int) * m≤140737488355328) (hm:m≤140737488355328) :
    ∃ h v,(Instr.makeSlice t (I m) (I m)).run P w = .ok v (w.alloc (.cells (madeCells z.cells (m.toNat * Enc.n α)) e))∧OS e h g v (List.replicate m.toNat x) ∧
      Sub h (w.alloc (.cells (madeCells z.cells (m.toNat * Enc.n α)) e))∧Fresh w.heap.size h:=by
  obtain ⟨i,hinf,hsz,hby,hz,hzs⟩:=hi.ok
  have hr:=run_make (P:=P) w t e i z hu hinf hz .i64 .i64 m m h0 (Int.le_refl _) (by rw [hby]; omega) (by omega)
  rw [hsz] at hr
  obtain ⟨_,e',f'⟩:=newRow_ok (w:=w) e (madeCells z.cells (m.toNat * Enc.n α))
  refine ⟨single w.heap.size (.cells (madeCells z.cells (m.toNat * Enc.n α)) e (0,0)),.slice (some ⟨w.heap.size,0,none⟩) m.toNat m.toNat,hr,
    ⟨(List.replicate m.toNat z.cells.toList).flatten,⟨?_,.inr ⟨w.heap.size,m.toNat,madeCells z.cells (m.toNat * Enc.n α),_,by simp,rfl,by simp,?_,size_madeCells _ _,?_⟩⟩,rdL.replicate _ hx⟩,e',f'⟩
  · simp [List.length_flatten,hzs]
  · simp only [maxLen]; omega
  · rw [List.length_replicate,List.take_of_length_le (by simp [size_madeCells])]
    have:=madeCells_eq z.cells m.toNat
    rw [hzs] at this; exact this
theorem run_append_room' (w:World) (t ty e e':TypeId) (i:TypeInfo) (ht:P.underlying t=some (.slice e)) (hi:P.info? e=some i)
    (g sLen sCap:Nat) (cur:Array Value) (hg:w.heap[g]?=some (.cells cur e' (0,0)))
    (a:Addr) (m c:Nat) (news:List Value) (hl:news.length=m * i.size) (hnews:∀ j u,news[j]?=some u→w.cell? (a.add j)=some u) (h1:∀ u∈news,u.oneCell'=true)
    (hroom:sLen+m≤sCap) (hfit:sLen * i.size+news.length≤cur.size) :
    (Builtin.append_ #[t,t] ty #[.slice (some ⟨g,0,none⟩) sLen sCap,.slice (some a) m c]).run P w =
      .ok (.slice (some ⟨g,0,none⟩) (sLen+m) sCap) (w.setRow g (cur.toList.take (sLen * i.size)++news++cur.toList.drop (sLen * i.size+news.length)).toArray):=by
  have hf:=run_firstCells_some (P:=P) w i.size m a m c news hl hnews
  have hst:=run_storeCells_at P g (sLen * i.size) e' news 0 cur w hg (by simpa using hfit) h1
  simp only [Nat.add_zero] at hst
  simp [Builtin.append_,run_underlying ht,sizeOf,typeInfo,hi,Builtin.lenOf,hroom,hf,Addr.add_lit,hst]
theorem run_append_OwnC' [DM] {E t ty:TypeId} {sz bytes:Nat} {z:Value} {h:PH} {v:Value} {len:Nat} {cells:List Value} (hu:P.underlying t=some (.slice E)) (hi:TyI P E sz bytes z) (hp:0<sz)
    (o:OwnC E sz h v len cells) (e:Sub h w) (a:Option Addr) (m c:Nat) (news:List Value) (hl:news.length=m * sz) (hnil:a=none→m=0)
    (hnews:∀ ad,a=some ad→∀ j u,news[j]?=some u→w.cell? (ad.add j)=some u) (h1:∀ u∈news,u.oneCell'=true)
    (h63:len+m≤maxLen) (hby:(len+m) * bytes≤140737488355328) :
    ∃ v' w' h',(Builtin.append_ #[t,t] ty #[v,.slice a m c]).run P w = .ok v' w'∧OwnC E sz h' v' (len+m) (cells++news)∧Sub h' w'∧But h w w'∧DomLe h w.heap.size h' ∧
      ((h'=h∧v'=v)∨(Fresh w.heap.size h'∧Ext w w')∨(∃ b cap cur cur' E',v = .slice (some ⟨b,0,none⟩) len cap∧v' = .slice (some ⟨b,0,none⟩) (len+m) cap∧h=single b (.cells cur E' (0,0))∧h'=single b (.cells cur' E' (0,0)))):=by
  obtain ⟨i,hinf,hsz,hbb,hz,hzs⟩:=hi.ok
  subst hsz hbb
  have hsmall:len+m≤9223372036854775807:=by simp only [maxLen] at h63; omega
  have hlen:(cells++news).length=(len+m) * i.size:=by rw [List.length_append,o.1,hl,Nat.add_mul]
  cases a with
  | none =>
    have hm:=hnil rfl
    subst hm
    have hn:news=[]:=List.eq_nil_of_length_eq_zero (by simpa using hl)
    subst hn
    refine ⟨v,w,h,?_,by simpa using o,e,But.refl _ _,DomLe.refl _ _,.inl ⟨rfl,rfl⟩⟩
    obtain ⟨ad,cap,rfl⟩:=o.shape
    have hroom:len≤cap:=by
      rcases o.2 with ⟨hv,rfl,_⟩ | ⟨b,cap',cur,E',hv,_,hc,_⟩
      · omega
      · cases hv; exact hc
    cases ad <;> simp [Builtin.append_,run_underlying hu,sizeOf,typeInfo,hinf,Builtin.lenOf,Builtin.firstCells,hroom,storeCells]
  | some ad =>
    have hnews:=hnews ad rfl
    have grown:∀ (old:Nat),old<len+m →
        OwnC E i.size (single w.heap.size (.cells (cells.toArray++news.toArray++Builtin.zeroCells z.cells (grownCap w (len+m) old E-(len+m))) E (0,0)))
          (.slice (some ⟨w.heap.size,0,none⟩) (len+m) (grownCap w (len+m) old E)) (len+m) (cells++news):=by
      intro old ho
      have hge:=grownCap_ge w (len+m) old E
      have hcm:grownCap w (len+m) old E≤maxLen:=grownCap_le_maxLen w (len+m) old E h63
      refine ⟨hlen,.inr ⟨w.heap.size,_,_,_,rfl,rfl,hge,hcm,?_,?_⟩⟩
      · simp only [Array.size_append,List.size_toArray,size_zeroCells,hzs,o.1,hl,← Nat.add_mul]
        congr 1
        omega
      · simp only [Array.toList_append,List.append_assoc]
        rw [← List.append_assoc,← hlen]
        exact List.take_left
    have fr:∀ o':Obj,Sub (single w.heap.size o') (w.drew.alloc o')∧But h w (w.drew.alloc o')∧DomLe h w.heap.size (single w.heap.size o')∧Fresh w.heap.size (single w.heap.size o')∧Ext w (w.drew.alloc o'):=fun o' =>
      ⟨single_sub.2 (heap_alloc_new w.drew _),⟨rfl,rfl,rfl,by simp,fun k hk _=>(Below.heap_alloc w.drew o' k hk),fun _=>Nat.le_succ _⟩,(single_fresh (Nat.le_refl _)).dom _,single_fresh (Nat.le_refl _),⟨rfl,rfl,rfl,by simp,fun k hk=>(Below.heap_alloc w.drew o' k hk),fun _=>Nat.le_succ _⟩⟩
    rcases o.2 with ⟨rfl,rfl,rfl⟩ | ⟨b,cap,cur,E',rfl,rfl,hc,hm,hs,ht⟩
    · have hx:cells=[]:=List.eq_nil_of_length_eq_zero (by simpa using o.1)
      subst hx
      by_cases hm:m=0
      · subst hm
        have hn:news=[]:=List.eq_nil_of_length_eq_zero (by simpa using hl)
        subst hn
        refine ⟨_,w,emp,?_,by simpa using o,e,But.refl _ _,DomLe.refl _ _,.inl ⟨rfl,rfl⟩⟩
        simp [Builtin.append_,run_underlying hu,sizeOf,typeInfo,hinf,Builtin.lenOf,Builtin.firstCells,loadCells,loadCellsFrom]
      · have hr:=run_append_nil (P:=P) w t ty E i z hu hinf hz ad m c news hl hnews (by omega) (by omega) (by simp only [Nat.zero_add] at hby; omega)
        have hgr:=grown 0 (by omega)
        simp only [Nat.zero_add,List.nil_append,Array.empty_append] at hgr ⊢
        obtain ⟨f1,f2,f3,f4,f5⟩:=fr (.cells (news.toArray++Builtin.zeroCells z.cells (grownCap w m 0 E-m)) E (0,0))
        exact ⟨_,_,_,hr,hgr,f1,f2,f3,.inr (.inl ⟨f4,f5⟩)⟩
    · have hw:=single_sub.1 e
      by_cases hroom:len+m≤cap
      · have hfit:len * i.size+news.length≤cur.size:=by rw [hl,hs,← Nat.add_mul]; exact Nat.mul_le_mul_right _ hroom
        have hr:=run_append_room' w t ty E E' i hu hinf b len cap cur hw ad m c news hl hnews h1 hroom hfit
        refine ⟨_,_,_,hr,⟨hlen,.inr ⟨b,cap,_,_,rfl,rfl,hroom,hm,?_,?_⟩⟩,setRow_sub hw,setRow_but _ _ _,single_dom,.inr (.inr ⟨b,cap,_,_,_,rfl,rfl,rfl,rfl⟩)⟩
        · simp only [List.size_toArray,List.length_append,List.length_take,List.length_drop,Array.length_toList]
          omega
        · rw [ht,← hlen]
          exact List.take_left
      · have holds:∀ j u,cells[j]?=some u→w.cell? ((⟨b,0,none⟩:Addr).add j)=some u:=fun j u hj=>by
          rw [addr_at,cell_of_row w b _ cur E' _ hw,Nat.zero_add]
          have hjl:j<len * i.size:=by
            have:=(List.getElem?_eq_some_iff.1 hj).1; rw [o.1] at this; exact this
          rw [← ht,List.getElem?_take,if_pos hjl] at hj
          rw [← Array.getElem?_toList]; exact hj
        have hr:=run_append_grow (P:=P) w t ty E i z hu hinf hz ⟨b,0,none⟩ len cap cells o.1 holds ad m c news hl hnews (by omega) (by omega) (growslice_fits (by omega) hby)
        obtain ⟨f1,f2,f3,f4,f5⟩:=fr (.cells (cells.toArray++news.toArray++Builtin.zeroCells z.cells (grownCap w (len+m) cap E-(len+m))) E (0,0))
        exact ⟨_,_,_,hr,grown cap (by omega),f1,f2,f3,.inr (.inl ⟨f4,f5⟩)⟩
theorem run_append_OwnC [DM] {E t ty:TypeId} {sz bytes:Nat} {z:Value} {h:PH} {v:Value} {len:Nat} {cells:List Value} (hu:P.underlying t=some (.slice E)) (hi:TyI P E sz bytes z) (hp:0<sz)
    (o:OwnC E sz h v len cells) (e:Sub h w) (a:Option Addr) (m c:Nat) (news:List Value) (hl:news.length=m * sz) (hnil:a=none→m=0)
    (hnews:∀ ad,a=some ad→∀ j u,news[j]?=some u→w.cell? (ad.add j)=some u) (h1:∀ u∈news,u.oneCell'=true)
    (h63:len+m≤maxLen) (hby:(len+m) * bytes≤140737488355328) :
    ∃ v' w' h',(Builtin.append_ #[t,t] ty #[v,.slice a m c]).run P w = .ok v' w'∧OwnC E sz h' v' (len+m) (cells++news)∧Sub h' w'∧But h w w'∧DomLe h w.heap.size h' :=
  let ⟨v',w',h',a,b,c,d,f,_⟩:=run_append_OwnC' hu hi hp o e a m c news hl hnil hnews h1 h63 hby
  ⟨v',w',h',a,b,c,d,f⟩
theorem spl_append (A B:List Value) (off:Nat) (cs:List Value) (h:off+cs.length≤A.length):spl (A++B) off cs=spl A off cs++B:=by
  unfold spl
  rw [List.take_append_of_le_length (by omega),List.drop_append_of_le_length (by omega)]; simp
/-- x[i] = y at an owned row. -/
theorem run_set_OS [DM] {α:Type} [Enc α] {E:TypeId} {bytes:Nat} {z:Value} {h g:PH} {v:Value} {xs:List α} (hi:TyI P E (Enc.n α) bytes z)
    (o:OS E h g v xs) (e:Sub h w) (i:Nat) (hl:i<xs.length) {y:α} {u:Value} (hu:RV g u y) :
    ∃ b h',v.ownBlock=some b∧(∃ w',(Instr.storeAt E (.pointer (some ⟨b,i * Enc.n α,none⟩)) u).run P w = .ok () w'∧OS E h' g v (xs.set i y)∧Sub h' w'∧But h w w'∧∀ n,DomLe h n h'):=by
  obtain ⟨cells,⟨hcl,o⟩,r⟩:=o
  rcases o with ⟨rfl,h0,rfl⟩ | ⟨b,cap,cur,E',rfl,rfl,hc,hm,hs,ht⟩
  · omega
  · obtain ⟨cs,h1,rfl⟩:=hu
    have hcs:=Enc.len h1
    have hone:=Enc.one h1
    have hvc:(vOf (Enc.agg α) cs).cells.toList=cs:=by
      cases ha:Enc.agg α
      · have h2:=Enc.sing (α:=α) ha
        match cs,hcs with
        | [c],_ =>
          have:=hone c (by simp)
          cases c <;> first | rfl | (simp [Value.oneCell'] at this)
        | [],hcs=>simp at hcs; omega
        | _ :: _ :: _,hcs=>simp at hcs; omega
      · rfl
    have hn:i * Enc.n α+Enc.n α≤xs.length * Enc.n α:=by
      have:=Nat.mul_le_mul_right (Enc.n α) (Nat.succ_le_of_lt hl); rwa [Nat.succ_mul] at this
    have hcap:xs.length * Enc.n α≤cap * Enc.n α:=Nat.mul_le_mul_right _ hc
    have hr:=run_store_row (P:=P) (w:=w) (off:=i * Enc.n α) hi hvc hcs hone (single_sub.1 e) (by rw [hs,hcs]; omega)
    refine ⟨b,_,rfl,_,hr,⟨spl cells (i * Enc.n α) cs,⟨?_,.inr ⟨b,cap,_,_,by simp,rfl,by simpa using hc,hm,?_,?_⟩⟩,r.set i hl y cs h1⟩,setRow_sub (single_sub.1 e),setRow_but _ _ _,fun _=>single_dom⟩
    · simp only [spl,List.length_append,List.length_take,List.length_drop,List.length_set,hcl,hcs]; omega
    · simp only [spl,List.size_toArray,List.length_append,List.length_take,List.length_drop,Array.length_toList,hcs]; omega
    · rw [List.length_set,← ht]
      have hsz:xs.length * Enc.n α≤cur.toList.length:=by have:=Array.length_toList (xs:=cur); omega
      have h2:=spl_append (cur.toList.take (xs.length * Enc.n α)) (cur.toList.drop (xs.length * Enc.n α)) (i * Enc.n α) cs (by rw [List.length_take,hcs]; omega)
      rw [List.take_append_drop] at h2
      rw [h2,List.take_append_of_le_length (by simp only [spl,List.length_append,List.length_take,List.length_drop,hcs]; omega),List.take_of_length_le]
      simp only [spl,List.length_append,List.length_take,List.length_drop,hcs]; omega
end
end Go.Gv
/- Steps at owned slices. -/
namespace Go.Gv
open Go Go.RowKit
theorem RS.cells {α:Type} [Enc α] {q:PH} {u:Value} {ys:List α} (r:RS q u ys) :
    ∃ a cap cells,u = .slice a ys.length cap∧rdL q cells ys∧(a=none→ys=[])∧∀ ad,a=some ad→rdAt q ad cells:=by
  rcases r with ⟨rfl,rfl⟩ | ⟨a,cap,rfl,hcap,hs,h⟩
  · exact ⟨none,0,[],rfl,rfl,fun _=>rfl,fun _ h=>by cases h⟩
  · rcases hs with rfl | hs
    · exact ⟨some a,cap,[],rfl,rfl,(fun h=>by cases h),fun ad _ j c hj=>by simp at hj⟩
    have key:∀ (zs:List α) (k:Nat),(∀ i x,zs[i]?=some x→∃ cs,rdAt q (a.add ((k+i) * Enc.n α)) cs∧Enc.rd q cs x)→∃ cells,rdL q cells zs∧rdAt q (a.add (k * Enc.n α)) cells:=by
      intro zs
      induction zs with
      | nil=>intro k _; exact ⟨[],rfl,fun j c hj=>by simp at hj⟩
      | cons z zs ih =>
        intro k hz
        obtain ⟨cs,h1,h2⟩:=hz 0 z rfl
        obtain ⟨cells,h3,h4⟩:=ih (k+1) (fun i x hi=>by
          have:=hz (i+1) x (by simpa using hi)
          rwa [show k+(i+1)=k+1+i from by omega] at this)
        refine ⟨cs++cells,⟨cs,cells,rfl,h2,h3⟩,fun j c hj=>?_⟩
        have hl:=Enc.len h2
        by_cases hj1:j<cs.length
        · rw [List.getElem?_append_left hj1] at hj
          simpa using h1 j c hj
        · rw [List.getElem?_append_right (by omega)] at hj
          have:=h4 _ c hj
          rw [addr_add_add a hs] at this ⊢
          rw [show (k+1) * Enc.n α+(j-cs.length)=k * Enc.n α+j from by rw [Nat.succ_mul]; omega] at this
          exact this
    obtain ⟨cells,h1,h2⟩:=key ys 0 (fun i x hi=>by rw [Nat.zero_add]; exact h i x hi)
    refine ⟨some a,cap,cells,rfl,h1,(fun h=>by cases h),fun ad h=>?_⟩
    cases h
    simpa [addr_add0] using h2
/-- What a store at this address does to an owned slice. -/
def WAddr [DM] {α:Type} [Enc α] (P:Program) (E:TypeId) (h g:PH) (v:Value) (xs:List α) (i:Nat) (ad:Addr):Prop :=
  ∀ (y:α) (u:Value) (w:World) (g':PH),Le g g'→RV g' u y→Sub h w→∃ w' h',(Instr.storeAt E (.pointer (some ad)) u).run P w = .ok () w'∧OS E h' g' v (xs.set i y)∧Sub h' w'∧But h w w'∧∀ n,DomLe h n h'
theorem OS.le {α:Type} [Enc α] {E:TypeId} {h g g':PH} {v:Value} {xs:List α} (o:OS E h g v xs) (l:Le g g'):OS E h g' v xs :=
  let ⟨cells,o,r⟩:=o; ⟨cells,o,r.le l⟩
section
variable {P:Program} {T:Ty} {n:Nat} {ρ:Env} {w:World} {ops:Array Oper} {Q:Exit→Act→World→Prop} {K:Env→Prop}
theorem run_indexw [DM] {α:Type} [Enc α] {t E:TypeId} {bytes:Nat} {z:Value} {h g:PH} {v:Value} {xs:List α} (hu:P.underlying t=some (.slice E)) (hi:TyI P E (Enc.n α) bytes z)
    (o:OS E h g v xs) (i:Int) (h0:0≤i) (hl:i.toNat<xs.length) :
    ∃ ad,(∀ w,(Instr.indexAt t v (I i)).run P w = .ok (.pointer (some ad)) w)∧WAddr P E h g v xs i.toNat ad:=by
  have o0:=o
  obtain ⟨cells,⟨hcl,o⟩,r⟩:=o
  rcases o with ⟨rfl,h1,rfl⟩ | ⟨b,cap,cur,E',rfl,rfl,hc,hm,hs,ht⟩
  · omega
  · obtain ⟨inf,hinf,hsz,_⟩:=hi.ok
    refine ⟨⟨b,i.toNat * Enc.n α,none⟩,fun w=>?_,fun y u w g' lg hr e=>?_⟩
    · have hb:0≤i∧i<(xs.length:Int):=⟨h0,by omega⟩
      have ha:=addr_at b 0 (i.toNat * Enc.n α)
      rw [Nat.zero_add] at ha
      simp [Instr.indexAt,asIntOf,run_underlying hu,hb,sizeOf,typeInfo,hinf,hsz,ha]
    · obtain ⟨b',h',hob,w',h2,h3,h4,h5,h6⟩:=run_set_OS hi (o0.le lg) e i.toNat hl hr
      cases hob
      exact ⟨w',h',h2,h3,h4,h5,h6⟩
theorem LP_indexw [DM] {α:Type} [Enc α] {t E:TypeId} {bytes:Nat} {z:Value} {h g:PH} {v:Value} {xs:List α} {o:Oper} {x y:Operand} (k:Nat)
    (at0:At n ops ρ k o (.indexAddr t x y)) (hu:P.underlying t=some (.slice E)) (hi:TyI P E (Enc.n α) bytes z)
    (hx:opd n ρ x=v) {i:Int} (hy:opd n ρ y=I i) (os:OS E h g v xs) (h0:0≤i) (hl:i.toNat<xs.length)
    (H:∀ ad,WAddr P E h g v xs i.toNat ad→LP P n ops Q (k+1) (updO ρ o.dst (.pointer (some ad))) w):LP P n ops Q k ρ w:=by
  obtain ⟨ad,h1,h2⟩:=run_indexw hu hi os i h0 hl
  exact LP_val k o at0.o at0.g (ex_index at0.op hx hy (h1 _)) (H ad h2)
theorem LP_set [DM] {α:Type} [Enc α] {E:TypeId} {h g g':PH} {v:Value} {xs:List α} {i:Nat} {ad:Addr} {y:α} {u:Value} {o:Oper} {a x:Operand} (k:Nat)
    (at0:At n ops ρ k o (.store E a x)) (ha:opd n ρ a = .pointer (some ad)) (hx:opd n ρ x=u)
    (wa:WAddr P E h g v xs i ad) (lg:Le g g') (hu:RV g' u y) (e:Sub h w)
    (H:∀ h' w',OS E h' g' v (xs.set i y)→Sub h' w'→But h w w'→(∀ n,DomLe h n h')→LP P n ops Q (k+1) (updO ρ o.dst undef) w'):LP P n ops Q k ρ w:=by
  obtain ⟨w',h',h1,h2,h3,h4,h5⟩:=wa y u w g' lg hu e
  refine LP_unit k o at0.o at0.g ?_ (H h' w' h2 h3 h4 h5)
  simp only [execOp,at0.op,ha,hx,Sem.run_bind,h1]; rfl
theorem LP_make [DM] {α:Type} [Enc α] {t E:TypeId} {bytes:Nat} {z:Value} {x0:α} {o:Oper} {x:Operand} (k:Nat)
    (at0:At n ops ρ k o (.makeSlice t x x)) (hu:P.underlying t=some (.slice E)) (hi:TyI P E (Enc.n α) bytes z)
    {m:Int} (hx:opd n ρ x=I m) (hz:Enc.rd emp z.cells.toList x0) (h0:0≤m) (hb:(bytes:Int) * m≤140737488355328) (hm:m≤140737488355328)
    (H:∀ h v w',Ext w w'→OS E h emp v (List.replicate m.toNat x0)→Sub h w'→Fresh w.heap.size h→LP P n ops Q (k+1) (updO ρ o.dst v) w'):LP P n ops Q k ρ w:=by
  obtain ⟨h,v,h1,h2,h3,h4⟩:=run_make_OS (w:=w) emp hu hi hz m h0 hb hm
  refine LP_val k o at0.o at0.g ?_ (H h v _ (Ext.alloc _ _) h2 h3 h4)
  simp only [execOp,at0.op,hx,Sem.run_bind,h1]; rfl
theorem run_appendO [DM] {α:Type} [Enc α] {t E ty:TypeId} {bytes:Nat} {z:Value} {h g q:PH} {v u:Value} {xs ys:List α} (hu:P.underlying t=some (.slice E)) (hi:TyI P E (Enc.n α) bytes z) (hp:0<Enc.n α)
    (os:OS E h g v xs) (e:Sub h w) (rs:RS q u ys) (eq:Sub q w) (g':PH) (l1:Le g g') (l2:Le q g') (hm:ln xs+ln ys≤140737488355328) (hb:(ln xs+ln ys) * bytes≤140737488355328) :
    ∃ v' w' h',(Builtin.append_ #[t,t] ty #[v,u]).run P w = .ok v' w'∧OS E h' g' v' (xs++ys)∧Sub h' w'∧But h w w'∧DomLe h w.heap.size h':=by
  obtain ⟨cells,o,r⟩:=os
  obtain ⟨a,cap,news,rfl,r2,hnil,hat⟩:=rs.cells
  have hb':(xs.length+ys.length) * bytes≤140737488355328:=by
    have h:(((xs.length+ys.length) * bytes:Nat):Int)≤140737488355328:=by
      rw [Int.natCast_mul,Int.natCast_add]; exact hb
    omega
  obtain ⟨v',w',h',h1,h2,h3,h4,h5⟩:=run_append_OwnC (ty:=ty) hu hi hp o e a ys.length cap news r2.length (fun h=>by rw [hnil h]; rfl)
    (fun ad had j c hj=>cellH_world eq (hat ad had j c hj)) r2.one (by simp only [maxLen]; simp only [ln] at hm; omega) hb'
  exact ⟨v',w',h',h1,⟨_,by rw [List.length_append]; exact h2,(r.le l1).append (r2.le l2)⟩,h3,h4,h5⟩
theorem ex_append {o:Oper} {s x:Operand} {t:TypeId} {v u r:Value} {w':World} (hop:o.op = .call ⟨.builtin .append,⟨[s,x]⟩,⟨[t,t]⟩⟩) (hs:opd n ρ s=v) (hx:opd n ρ x=u)
    (h:(Builtin.append_ #[t,t] o.type #[v,u]).run P w = .ok r w'):(execOp (opd n ρ) o).run P w = .ok (.value r) w':=by
  simp only [execOp,hop,resolve,invoke,builtin,Sem.run_bind,Sem.run_pure,Result.andThen_ok,List.map_toArray,List.map_cons,List.map_nil,hs,hx,h]
theorem LP_append [DM] {α:Type} [Enc α] {t E:TypeId} {bytes:Nat} {z:Value} {h g q:PH} {v u:Value} {xs ys:List α} {o:Oper} {s x:Operand} (k:Nat)
    (at0:At n ops ρ k o (.call ⟨.builtin .append,⟨[s,x]⟩,⟨[t,t]⟩⟩)) (hu:P.underlying t=some (.slice E)) (hi:TyI P E (Enc.n α) bytes z) (hp:Nat.blt 0 (Enc.n α)=true)
    (hs:opd n ρ s=v) (hx:opd n ρ x=u) (os:OS E h g v xs) (e:Sub h w) (rs:RS q u ys) (eq:Sub q w) {g':PH} (l1:Le g g') (l2:Le q g')
    (hm:ln xs+ln ys≤140737488355328) (hb:(ln xs+ln ys) * bytes≤140737488355328)
    (H:∀ h' v' w',OS E h' g' v' (xs++ys)→Sub h' w'→But h w w'→DomLe h w.heap.size h'→LP P n ops Q (k+1) (updO ρ o.dst v') w'):LP P n ops Q k ρ w:=by
  obtain ⟨v',w',h',h1,h2,h3,h4,h5⟩:=run_appendO (ty:=o.type) hu hi (by simp [Nat.blt] at hp; omega) os e rs eq g' l1 l2 hm hb
  exact LP_val k o at0.o at0.g (ex_append at0.op hs hx h1) (H h' v' w' h2 h3 h4 h5)
/-- Flat elements. -/
theorem LP_appendf [DM] {α:Type} [Flat α] {t E:TypeId} {bytes:Nat} {z:Value} {h q:PH} {v u:Value} {xs ys:List α} {o:Oper} {s x:Operand} (k:Nat)
    (at0:At n ops ρ k o (.call ⟨.builtin .append,⟨[s,x]⟩,⟨[t,t]⟩⟩)) (hu:P.underlying t=some (.slice E)) (hi:TyI P E (Enc.n α) bytes z) (hp:Nat.blt 0 (Enc.n α)=true)
    (hs:opd n ρ s=v) (hx:opd n ρ x=u) (os:OS E h emp v xs) (e:Sub h w) (rs:RS q u ys) (eq:Sub q w)
    (hm:ln xs+ln ys≤140737488355328) (hb:(ln xs+ln ys) * bytes≤140737488355328)
    (H:∀ h' v' w',OS E h' emp v' (xs++ys)→Sub h' w'→But h w w'→DomLe h w.heap.size h'→LP P n ops Q (k+1) (updO ρ o.dst v') w'):LP P n ops Q k ρ w :=
  LP_append k at0 hu hi hp hs hx os e rs eq (emp_le q) (Le.refl q) hm hb fun h' v' w' o'=>H h' v' w' o'.flat
theorem foldl_set (l:List Value):∀ (pre mid post:List Value) (j:Nat),mid.length=l.length →
    ((l.zipIdx j).foldl (fun (cs:Array Value) (p:Value×Nat)=>cs.setIfInBounds (pre.length-j+p.2) p.1) (pre++mid++post).toArray)=(pre++l++post).toArray∨pre.length<j:=by
  induction l with
  | nil=>intro pre mid post j h; left; simp at h; subst h; simp
  | cons c l ih =>
    intro pre mid post j h
    by_cases hj:pre.length<j
    · exact .inr hj
    left
    match mid,h with
    | m :: mid,h =>
      have h1:=ih (pre++[c]) mid post (j+1) (by simpa using h)
      rcases h1 with h1 | h1
      · simp only [List.zipIdx_cons,List.foldl_cons]
        have e1:(pre++m :: mid++post).toArray.setIfInBounds (pre.length-j+j) c=(pre++[c]++mid++post).toArray:=by
          rw [Nat.sub_add_cancel (by omega)]
          apply Array.ext'
          simp
        rw [e1]
        have e2:(pre++[c]).length-(j+1)=pre.length-j:=by simp
        rw [e2] at h1
        rw [h1]; simp
      · simp at h1; omega
theorem fill_all (sz:Nat):∀ (vs:List Value) (k:Nat) (pre post:List Value),(∀ v∈vs,v.cells.size=sz)→pre.length=k * sz→post.length=vs.length * sz →
    Instr.fill (fun i=>some (i * sz,sz)) (pre++post).toArray ((vs.zipIdx k).map fun p=>(p.2,p.1))=some (pre++vs.flatMap (·.cells.toList)).toArray
  | [],k,pre,post,_,_,hp=>by
    have:post=[]:=List.eq_nil_of_length_eq_zero (by simpa using hp)
    subst this; simp [Instr.fill]
  | v :: vs,k,pre,post,hv,hk,hp=>by
    have h1:=hv v (by simp)
    simp only [List.zipIdx_cons,List.map_cons,Instr.fill]
    have hs:sz≤post.length:=by rw [hp,List.length_cons,Nat.succ_mul]; omega
    rw [if_neg (by simp only [h1,List.size_toArray,List.length_append,hk]; simp; omega)]
    have e:pre++post=pre++post.take sz++post.drop sz:=by rw [List.append_assoc,List.take_append_drop]
    have h2:=foldl_set v.cells.toList pre (post.take sz) (post.drop sz) 0 (by simp [h1]; omega)
    have h3:=h2.resolve_right (by omega)
    have e3:v.cells.zipIdx.foldl (fun (cs:Array Value) (p:Value×Nat)=>cs.setIfInBounds (k * sz+p.2) p.1) (pre++post).toArray=(pre++v.cells.toList++post.drop sz).toArray:=by
      rw [e,← h3,← Array.foldl_toList,Array.toList_zipIdx,hk]; simp
    rw [e3]
    have h4:=fill_all sz vs (k+1) (pre++v.cells.toList) (post.drop sz) (fun u hu=>hv u (by simp [hu])) (by simp [h1,hk,Nat.succ_mul]) (by simp [hp,Nat.succ_mul])
    rw [h4]; simp
/-- Values that read as the elements. -/
def allRV {α:Type} [Enc α] (g:PH):List Value→List α→Prop
  | [],[]=>True
  | v :: vs,x :: xs=>RV g v x∧allRV g vs xs
  | _,_=>False
theorem RV.cells {α:Type} [Enc α] {g:PH} {v:Value} {x:α} (r:RV g v x):Enc.rd g v.cells.toList x:=by
  obtain ⟨cs,h,rfl⟩:=r
  have hl:=Enc.len h
  have hone:=Enc.one h
  cases ha:Enc.agg α
  · have h2:=Enc.sing (α:=α) ha
    match cs,hl with
    | [c],_ =>
      have:=hone c (by simp)
      have hc:(vOf false [c]).cells.toList=[c]:=by cases c <;> first | rfl | (simp [Value.oneCell'] at this)
      rw [hc]; exact h
    | [],hl=>simp at hl; omega
    | _ :: _ :: _,hl=>simp at hl; omega
  · exact h
theorem allRV.rdL {α:Type} [Enc α] {g:PH}:∀ {vs:List Value} {xs:List α},allRV g vs xs→rdL g (vs.flatMap (·.cells.toList)) xs∧(∀ v∈vs,v.cells.size=Enc.n α)∧vs.length=xs.length
  | [],[],_=>⟨rfl,by simp,rfl⟩
  | [],_ :: _,h=>h.elim
  | _ :: _,[],h=>h.elim
  | v :: vs,x :: xs,⟨h1,h2⟩=>by
    obtain ⟨a,b,c⟩:=allRV.rdL h2
    refine ⟨⟨_,_,rfl,h1.cells,a⟩,fun u hu=>?_,by simp [c]⟩
    rcases List.mem_cons.1 hu with rfl | hu
    · rw [← Array.length_toList]; exact Enc.len h1.cells
    · exact b u hu
theorem LP_lit [DM] {α:Type} [Enc α] {t E:TypeId} {bytes len:Nat} {z:Value} {parts:Array (Nat×Operand)} {vs:List Value} {xs:List α} {g:PH} {o:Oper} (k:Nat)
    (at0:At n ops ρ k o (.buildSlice t len parts)) (hu:P.underlying t=some (.slice E)) (hi:TyI P E (Enc.n α) bytes z)
    (hp:parts.toList.map (fun p=>(p.1,opd n ρ p.2))=vs.zipIdx.map fun p=>(p.2,p.1)) (hl:vs.length=len) (hv:allRV g vs xs) (hs:Nat.ble (len * Enc.n α) 16777216=true) (hm:Nat.ble len 140737488355328=true)
    (H:∀ h v w',Ext w w'→OS E h g v xs→Sub h w'→Fresh w.heap.size h→LP P n ops Q (k+1) (updO ρ o.dst v) w'):LP P n ops Q k ρ w:=by
  obtain ⟨inf,hinf,hsz,_,hz,hzs⟩:=hi.ok
  obtain ⟨r,hc,hlx⟩:=hv.rdL
  have hs:=Nat.le_of_ble_eq_true hs
  have hm:=Nat.le_of_ble_eq_true hm
  have hfl:(vs.flatMap (·.cells.toList)).length=len * Enc.n α:=by rw [r.length,← hlx,hl]
  have hfill:=fill_all (Enc.n α) vs 0 [] ((Array.range (len * Enc.n α)).map (z.cells[· % z.cells.size]!)).toList hc (by simp) (by simp [hl])
  simp only [List.nil_append,Array.toArray_toList] at hfill
  obtain ⟨x,e,f⟩:=newRow_ok (w:=w) E (vs.flatMap (·.cells.toList)).toArray
  refine LP_val k o at0.o at0.g (v := .slice (some ⟨w.heap.size,0,none⟩) len len) (w':=w.alloc (.cells (vs.flatMap (·.cells.toList)).toArray E)) ?_
    (H _ _ _ x ⟨_,⟨by rw [r.length],.inr ⟨w.heap.size,len,_,_,by rw [← hlx,hl],rfl,by rw [← hlx,hl]; exact Nat.le_refl _,by simp only [maxLen]; omega,by simp [hfl],?_⟩⟩,r⟩ e f)
  · have hle:¬ (2 ^ 24<len * Enc.n α):=by omega
    simp only [execOp,at0.op,Sem.run_bind,Instr.buildSlice,run_underlying hu,Result.andThen_ok,sizeOf,typeInfo,run_program,hinf,Sem.run_pure,hsz]
    by_cases h0:len * Enc.n α=0
    · have hf0:=hfill
      have hz0:∀ g:Nat→Value,(Array.range 0).map g=#[]:=fun g=>by rw [Array.range_zero',Array.map_empty]
      rw [h0,hz0] at hf0
      simp [h0,hp,hz0,hf0,newRow]
    · simp [hle,h0,zeroValue,typeInfo,hinf,hz,hp,hfill,newRow]
  · refine List.take_of_length_le ?_
    have:xs.length=len:=by rw [← hlx,hl]
    rw [this]; simp only []; omega
theorem setCells_eq (v:List Value):∀ (cs:List Value) (off j:Nat),
    ((v.zipIdx j).foldl (fun (cs:Array Value) (p:Value×Nat)=>cs.setIfInBounds (off+p.2) p.1) cs.toArray)=(setCells cs (off+j) v).toArray:=by
  induction v with
  | nil=>intro cs off j; rfl
  | cons c v ih =>
    intro cs off j
    simp only [List.zipIdx_cons,List.foldl_cons,setCells]
    have:=ih (cs.set (off+j) c) off (j+1)
    rw [← Nat.add_assoc] at this
    rw [← this]; simp
theorem fill_of (pl:List (Nat×Nat)):∀ (parts:List (Nat×Value)) (cs cells:List Value),fillL pl cs parts=some cells→Instr.fill (fun i=>pl.toArray[i]?) cs.toArray parts=some cells.toArray
  | [],cs,cells,h=>by cases h; rfl
  | (i,v) :: r,cs,cells,h=>by
    simp only [fillL] at h
    simp only [Instr.fill,List.getElem?_toArray]
    cases hp:pl[i]? with
    | none=>rw [hp] at h; cases h
    | some os =>
      obtain ⟨off,size⟩:=os
      rw [hp] at h
      simp only at h
      split at h
      · rename_i hc
        have h1:=fill_of pl r _ cells h
        have h2:v.cells.size=size:=by rw [← Array.length_toList]; exact hc.1
        simp only [h2]
        rw [if_neg (by simp; exact hc.2)]
        have h3:=setCells_eq v.cells.toList cs off 0
        rw [Nat.add_zero] at h3
        rw [← h1,← h3,← Array.foldl_toList,Array.toList_zipIdx]
        simp only [List.getElem?_toArray]
      · cases h
theorem StrOk.of {t:TypeId} {z:List Value} {pl:List (Nat×Nat)} {zc:Array Value} {fields:Array Field} (hu:P.underlying t=some (.struct fields))
    (hz:∀ w,(zeroValue t).run P w = .ok (.agg zc) w) (hzc:zc.toList=z) (hp:∀ w,(fields.mapM fun f=>do pure (f.offset,← sizeOf f.type):Sem (Array (Nat×Nat))).run P w = .ok pl.toArray w):StrOk P t z pl:=by
  intro parts cells w h
  have hzc':zc=z.toArray:=by rw [← hzc]
  have h1:=fill_of pl parts.toList z cells h
  have hc:(Value.agg zc).cells=z.toArray:=by rw [hzc']; rfl
  simp only [Instr.build,Sem.run_bind,hz,Result.andThen_ok,run_underlying hu,hp,hc,h1]
  rfl
theorem ld_res {t sz bytes b t0:Nat} {z v:Value} {agg:Bool} {cs:List Value} (hi:TyI P t sz bytes z) (hA:AggT P t agg) (hs1:agg=false→sz=1) (e:Sub (bx b t0 cs) w) (hl:cs.length=sz) (hv:vOf agg cs=v) :
    (loadVar t ⟨b,0,none⟩).run P w = .ok v w:=by
  subst hv
  exact run_loadVar hi hA hs1 _ e _ cs hl (rdAt_bx _ _ _ _ _ (by simp))
/-- What a store to a field of this element does. -/
def FAddr [DM] {α:Type} [Flat α] (P:Program) (E:TypeId) (h:PH) (v:Value) (xs:List α) (i:Nat) (x:α) (a:Addr):Prop :=
  a.spot=none∧∀ (y:α) (t sz bytes off:Nat) (z u:Value) (vs:List Value) (w:World),TyI P t sz bytes z→u.cells.toList=vs→vs.length=sz→(∀ c∈vs,c.oneCell'=true)→off+vs.length≤Enc.n α →
    spl (Flat.enc x) off vs=Flat.enc y→Sub h w→∃ w' h',(Instr.storeAt t (.pointer (some (a.add off))) u).run P w = .ok () w'∧OS E h' emp v (xs.set i y)∧Sub h' w'∧But h w w'∧∀ n,DomLe h n h'
theorem run_indexf [DM] {α:Type} [Flat α] {t E:TypeId} {bytes:Nat} {z:Value} {h:PH} {v:Value} {xs:List α} (hu:P.underlying t=some (.slice E)) (hi:TyI P E (Enc.n α) bytes z)
    (o:OS E h emp v xs) (i:Int) (h0:0≤i) {x:α} (hx:xs[i.toNat]?=some x) :
    ∃ a,(∀ w,(Instr.indexAt t v (I i)).run P w = .ok (.pointer (some a)) w)∧FAddr P E h v xs i.toNat x a:=by
  have hlt:i.toNat<xs.length:=(List.getElem?_eq_some_iff.1 hx).1
  obtain ⟨cells,⟨hcl,o⟩,r⟩:=o
  rcases o with ⟨rfl,h1,rfl⟩ | ⟨b,cap,cur,E',rfl,rfl,hc,hm,hs,ht⟩
  · omega
  · obtain ⟨inf,hinf,hsz,_⟩:=hi.ok
    refine ⟨⟨b,i.toNat * Enc.n α,none⟩,fun w=>?_,rfl,fun y t' sz bytes' off z' u vs w hti hv hl hone hfit hsp e=>?_⟩
    · have hb:0≤i∧i<(xs.length:Int):=⟨h0,by omega⟩
      have ha:=addr_at b 0 (i.toNat * Enc.n α)
      rw [Nat.zero_add] at ha
      simp [Instr.indexAt,asIntOf,run_underlying hu,hb,sizeOf,typeInfo,hinf,hsz,ha]
    · have hn:i.toNat * Enc.n α+Enc.n α≤xs.length * Enc.n α:=by
        have:=Nat.mul_le_mul_right (Enc.n α) (Nat.succ_le_of_lt hlt); rwa [Nat.succ_mul] at this
      have hcap:xs.length * Enc.n α≤cap * Enc.n α:=Nat.mul_le_mul_right _ hc
      have hr:=run_store_row (P:=P) (w:=w) (off:=i.toNat * Enc.n α+off) hti hv hl hone (single_sub.1 e) (by rw [hs]; omega)
      obtain ⟨cs,g1,g2⟩:=r.get _ _ hx
      have hcs:=Flat.flat.1 g1
      have hlen:(Flat.enc x).length=Enc.n α:=by rw [← hcs]; exact Enc.len g1
      have hy:Enc.rd emp (Flat.enc y) y:=Flat.flat.2 rfl
      have hylen:=Enc.len hy
      -- the store, seen as one of the whole element
      have hsz2:xs.length * Enc.n α≤cur.toList.length:=by have:=Array.length_toList (xs:=cur); omega
      have hel:(cur.toList.drop (i.toNat * Enc.n α)).take (Enc.n α)=Flat.enc x:=by
        rw [← hcs,← g2,← ht,List.drop_take,List.take_take,Nat.min_eq_left (by omega)]
      have hspl:spl cur.toList (i.toNat * Enc.n α+off) vs=spl cur.toList (i.toNat * Enc.n α) (Flat.enc y):=by
        rw [← hsp]
        have h3:=List.take_append_drop (i.toNat * Enc.n α) cur.toList
        have h4:=List.take_append_drop (Enc.n α) (cur.toList.drop (i.toNat * Enc.n α))
        rw [hel,List.drop_drop] at h4
        have h5:cur.toList=cur.toList.take (i.toNat * Enc.n α)++(Flat.enc x++cur.toList.drop (i.toNat * Enc.n α+Enc.n α)):=by rw [h4,h3]
        have hp:(cur.toList.take (i.toNat * Enc.n α)).length=i.toNat * Enc.n α:=by rw [List.length_take]; omega
        generalize cur.toList.take (i.toNat * Enc.n α)=A at h5 hp
        generalize cur.toList.drop (i.toNat * Enc.n α+Enc.n α)=B at h5
        rw [h5]
        simp only [spl,← hp]
        have hvl:off+vs.length≤(Flat.enc x).length:=by omega
        have e1:List.take (A.length+off) (A++(Flat.enc x++B))=A++List.take off (Flat.enc x):=by
          rw [List.take_length_add_append,List.take_append_of_le_length (by omega)]
        have e2:List.drop (A.length+off+vs.length) (A++(Flat.enc x++B))=List.drop (off+vs.length) (Flat.enc x)++B:=by
          rw [Nat.add_assoc,List.drop_length_add_append,List.drop_append_of_le_length hvl]
        have e3:(List.take off (Flat.enc x)++vs++List.drop (off+vs.length) (Flat.enc x)).length=(Flat.enc x).length:=by
          simp only [List.length_append,List.length_take,List.length_drop]; omega
        have e4:List.drop (A.length+(List.take off (Flat.enc x)++vs++List.drop (off+vs.length) (Flat.enc x)).length) (A++(Flat.enc x++B))=B:=by
          rw [e3,List.drop_length_add_append,List.drop_left]
        rw [e1,e2,e4,List.take_left]
        simp
      rw [hspl] at hr
      have haddr:(⟨b,i.toNat * Enc.n α,none⟩:Addr).add off=⟨b,i.toNat * Enc.n α+off,none⟩:=addr_at _ _ _
      rw [haddr]
      refine ⟨_,_,hr,⟨spl cells (i.toNat * Enc.n α) (Flat.enc y),⟨?_,.inr ⟨b,cap,_,_,by simp,rfl,by simpa using hc,hm,?_,?_⟩⟩,r.set i.toNat hlt y _ hy⟩,setRow_sub (single_sub.1 e),setRow_but _ _ _,fun _=>single_dom⟩
      · simp only [spl,List.length_append,List.length_take,List.length_drop,List.length_set,hcl,hylen]; omega
      · simp only [spl,List.size_toArray,List.length_append,List.length_take,List.length_drop,Array.length_toList,hylen]; omega
      · rw [List.length_set,← ht]
        have h2:=spl_append (cur.toList.take (xs.length * Enc.n α)) (cur.toList.drop (xs.length * Enc.n α)) (i.toNat * Enc.n α) (Flat.enc y) (by rw [List.length_take,hylen]; omega)
        rw [List.take_append_drop] at h2
        rw [h2,List.take_append_of_le_length (by simp only [spl,List.length_append,List.length_take,List.length_drop,hylen]; omega),List.take_of_length_le]
        simp only [spl,List.length_append,List.length_take,List.length_drop,hylen]; omega
theorem LP_indexf [DM] {α:Type} [Flat α] {t E:TypeId} {bytes:Nat} {z:Value} {h:PH} {v:Value} {xs:List α} {o:Oper} {x y:Operand} (k:Nat)
    (at0:At n ops ρ k o (.indexAddr t x y)) (hu:P.underlying t=some (.slice E)) (hi:TyI P E (Enc.n α) bytes z)
    (hx:opd n ρ x=v) {i:Int} (hy:opd n ρ y=I i) (os:OS E h emp v xs) (h0:0≤i) {el:α} (hl:xs[i.toNat]?=some el)
    (H:∀ a,FAddr P E h v xs i.toNat el a→LP P n ops Q (k+1) (updO ρ o.dst (.pointer (some a))) w):LP P n ops Q k ρ w:=by
  obtain ⟨a,h1,h2⟩:=run_indexf hu hi os i h0 hl
  exact LP_val k o at0.o at0.g (ex_index at0.op hx hy (h1 _)) (H a h2)
theorem LP_setf [DM] {α:Type} [Flat α] {E t sz bytes off:Nat} {z:Value} {h:PH} {v:Value} {xs:List α} {i:Nat} {a:Addr} {x y:α} {u:Value} {vs:List Value} {o:Oper} {p q:Operand} (k:Nat)
    (at0:At n ops ρ k o (.store t p q)) (hi:TyI P t sz bytes z) (ha:opd n ρ p = .pointer (some (a.add off))) (hx:opd n ρ q=u) (hv:u.cells.toList=vs) (hl:vs.length=sz) (hone:vs.all (·.oneCell')=true)
    (hs:spl (Flat.enc x) off vs=Flat.enc y) (fa:FAddr P E h v xs i x a) (e:Sub h w) (hfit:Nat.ble (off+vs.length) (Enc.n α)=true)
    (H:∀ h' w',OS E h' emp v (xs.set i y)→Sub h' w'→But h w w'→(∀ n,DomLe h n h')→LP P n ops Q (k+1) (updO ρ o.dst undef) w'):LP P n ops Q k ρ w:=by
  obtain ⟨w',h',h1,h2,h3,h4,h5⟩:=fa.2 y t sz bytes off z u vs w hi hv hl (fun c hc=>List.all_eq_true.1 hone c hc) (Nat.le_of_ble_eq_true hfit) hs e
  refine LP_unit k o at0.o at0.g ?_ (H h' w' h2 h3 h4 h5)
  simp only [execOp,at0.op,ha,hx,Sem.run_bind,h1]; rfl
end
end Go.Gv
/- Regions whose order is open and that make a block: any order comes to the same. -/
namespace Go.Gv
open Go Go.RowKit
def dstOf (ops:Array Oper) (i:Nat):Option Nat:=(ops.toList[i]?).bind (·.dst)
def needs (ρ0:Env) (val:Nat→Value) (ρ:Env):List (Nat×Option Nat)→Prop
  | []=>True
  | (t,none) :: l=>ρ t=ρ0 t∧needs ρ0 val ρ l
  | (t,some j) :: l=>ρ t=val j∧needs ρ0 val ρ l
section
variable {P:Program} {n:Nat} {N:Asn} {X:Nat→Asn} {R:Asn} {ops:Array Oper} {k:Nat} {anc:List (List Nat)} {src:List (List (Nat×Option Nat))} {fin:List (Nat×Option Nat)}
theorem mem_ready' {listed:Array Bool} {i:Nat} (h:i∈Region.ready .any ops listed):i<ops.size∧listed.getD i true=false∧∃ o,ops[i]?=some o∧∀ e∈o.after,Region.binds .any e=true→listed.getD e.on false=true:=by
  unfold Region.ready at h
  simp only [List.mem_filter,List.mem_range,Bool.and_eq_true,Bool.not_eq_true'] at h
  obtain ⟨h1,h2,h3⟩:=h
  refine ⟨h1,h2,ops[i],by simp [h1],fun e he hb=>?_⟩
  simp only [h1,getElem?_pos,Option.map_some,Option.getD_some] at h3
  have:=Array.all_eq_true_iff_forall_mem.1 h3 e he
  simpa [hb] using this
theorem ready_of {listed:Array Bool} {i:Nat} {o:Oper} (ho:ops[i]?=some o) (hl:listed.getD i true=false) (he:∀ e∈o.after,Region.binds .any e=true→listed.getD e.on false=true) :
    i∈Region.ready .any ops listed:=by
  unfold Region.ready
  have hi:=(Array.getElem?_eq_some_iff.1 ho).1
  simp only [List.mem_filter,List.mem_range,Bool.and_eq_true,Bool.not_eq_true']
  refine ⟨hi,hl,?_⟩
  rw [ho]
  simp only [Option.map_some,Option.getD_some]
  refine Array.all_eq_true_iff_forall_mem.2 fun e h=>?_
  cases hb:Region.binds .any e
  · simp
  · simpa using he e h hb
theorem filter_lt {l:List Nat} {p q:Nat→Bool} (hpq:∀ x,q x=true→p x=true) {x:Nat} (hx:x∈l) (hp:p x=true) (hq:q x=false):(l.filter q).length<(l.filter p).length:=by
  have le:∀ l:List Nat,(l.filter q).length≤(l.filter p).length:=by
    intro l
    induction l with
    | nil=>simp
    | cons a l ih =>
      simp only [List.filter_cons]
      cases h1:q a
      · cases h2:p a <;> simp [ih]; omega
      · simp [hpq a h1,ih]
  induction l with
  | nil=>cases hx
  | cons a l ih =>
    simp only [List.filter_cons]
    rcases List.mem_cons.1 hx with rfl | hx
    · simp only [hp,hq,if_true,Bool.false_eq_true,if_false,List.length_cons]; have:=le l; omega
    · have:=ih hx
      cases h1:q a
      · cases h2:p a <;> simp [this]; omega
      · simp [hpq a h1,this]
theorem listed_set {listed:Array Bool} {i m:Nat} (hi:i<listed.size):(listed.setIfInBounds i true).getD m false=true↔m=i∨listed.getD m false=true:=by
  by_cases h:i=m
  · subst h; simp [Array.getD_eq_getD_getElem?,hi]
  · simp only [Array.getD_eq_getD_getElem?,Array.getElem?_setIfInBounds_ne h]
    constructor
    · exact .inr
    · rintro (h' | h')
      · exact absurd h'.symm h
      · exact h'
end
end Go.Gv
/- Regions whose order is open, stage by stage: behind each cut stands all that lies ahead of it. In a stage calls that hand back what they have made stand in a chain, all else is quiet. -/
namespace Go.Gv
open Go Go.RowKit
theorem beq_no {i j:Nat} (h:i≠j):Nat.beq i j=false:=by
  cases e:Nat.beq i j with
  | false=>rfl
  | true=>exact absurd (Nat.eq_of_beq_eq_true e) h
def pick:List Nat→List Value→Nat→Value→Value
  | j :: js,u :: us,i,d=>if Nat.beq i j then u else pick js us i d
  | _,_,_,d=>d
section
variable {P:Program} {n:Nat} {N:Asn} {X:Nat→Asn} {R:Asn} {ops:Array Oper} {k:Nat} {anc:List (List Nat)} {src:List (List (Nat×Option Nat))} {fin:List (Nat×Option Nat)}
theorem nblt {a b:Nat} (h:Nat.blt a b=true):a<b:=by have:=Nat.le_of_ble_eq_true h; omega
/-- The first k operations have been done, in whatever order; the rest is open. -/
def AP (P:Program) (n:Nat) (ops:Array Oper) (Q:Exit→Act→World→Prop) (k:Nat) (ρ:Env) (w:World):Prop :=
  ∀ (fuel:Nat) (listed:Array Bool),listed.size=ops.size→ops.size≤k+fuel→(∀ i,i<ops.size→(listed.getD i false=true↔i<k))→wpAny P .any ops Q fuel listed (act n ρ) w
theorem W_open [DM] {id:Nat} {ρ:Env} {w:World} (hm:P.follows .mixedOrders=true) (h:∀ w',Ext w w'→AP P n ops (pst n N X R) 0 ρ w'):WP P n (.region id ops true) N X R ρ w:=by
  refine wp_region_any hm (h _ (ext_drew w) ops.size _ (by simp) (by omega) fun i hi=>?_)
  constructor
  · intro hl
    simp only [Array.getD_eq_getD_getElem?,Array.getElem?_replicate] at hl
    split at hl <;> cases hl
  · intro h; omega
theorem AP_forget {ρ:Env} {w:World} {Q:Exit→Act→World→Prop} (l:List (Nat×Value)) (h:agrees ρ l) (H:∀ ρ,AP P n ops Q k (setAll l ρ) w):AP P n ops Q k ρ w:=forget (R:=fun ρ=>AP P n ops Q k ρ w) l h H
end
end Go.Gv
attribute [irreducible] Go.Gv.WP Go.Gv.LP Go.Gv.QP
