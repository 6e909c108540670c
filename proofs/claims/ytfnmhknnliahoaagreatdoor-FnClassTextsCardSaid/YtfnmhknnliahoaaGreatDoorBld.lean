import Derived.Test.YtfnmhknnliahoaaGreatDoorLib
import Derived.Lib.OthersKept
import Derived.Lib.LaidTab
import Derived.Lib.ItoaMem
import Derived.Lib.RepeatB
/- A strings.Builder that the call makes itself; strings.Repeat and strconv.Itoa; the table that Itoa reads. -/
namespace Go.Gv
open Go Go.RowKit
/-- A builder (variable of type T, bytes of type e) in block b; s: what it holds; nothing of its own lies below b. -/
def BO (T e:TypeId) (b:Nat) (s:ByteArray) (w:World):Prop:=Lib.IsBuilderF T e b b (Lib.strCells s) w∧b≤w.heap.size
/-- All that lies from block b on. -/
def Top (b:Nat) (w:World):PH:=fun k=>if k<b then none else w.heap[k]?
theorem Top.dj {b:Nat} {h:PH} {w v:World} (hb:b=w.heap.size) (e:Sub h w):Dj (Top b v) h:=fun k=>by
  unfold Top
  by_cases hk:k<b
  · exact .inl (by rw [if_pos hk])
  · right
    cases hh:h k with
    | none=>rfl
    | some o=>exact absurd (e.lt hh) (by omega)
theorem Top.fresh {b n:Nat} {w:World} (hb:b=w.heap.size) (hn:n≤w.heap.size) (v:World):Fresh n (Top b v):=fun k hk=>by
  unfold Top; rw [if_pos (by omega)]
theorem Top.dom (b:Nat) (v v':World):DomLe (Top b v) v.heap.size (Top b v'):=fun k hk hl=>by
  unfold Top at *
  by_cases h:k<b
  · rw [if_pos h]
  · rw [if_neg h] at hk
    rw [Array.getElem?_eq_getElem hl] at hk; cases hk
section
variable {T e:TypeId} {b:Nat} {s:ByteArray} {w w':World}
theorem bAt_ext [DM] {p:Value} {bs:List Value} (h:Lib.BuilderAtF T e b b p bs w) (x:Ext w w'):Lib.BuilderAtF T e b b p bs w':=by
  have hlt:=h.lt
  obtain ⟨hB,v,hb,hown,hne⟩:=h
  exact ⟨hB,v,(x.block b hlt).trans hb,hown.kept (row:=none) ⟨x.os,x.tape,x.output,x.size,fun k hk _=>x.block k hk⟩ (by cases hv:v.ownBlock <;> simp),hne⟩
theorem BO.ext [DM] (h:BO T e b s w) (x:Ext w w'):BO T e b s w' :=
  ⟨h.1.elim (fun y => .inl (bAt_ext y x)) (fun y => .inr (bAt_ext y x)),Nat.le_trans h.2 x.size⟩
theorem Top.but {b:Nat} {w w':World} (h:Below b w w') : @But ⟨False⟩ (Top b w) w w' :=
  letI:DM:=⟨False⟩
  ⟨h.os,h.tape,h.output,h.size,fun k hk hn=>h.block k (by
    unfold Top at hn
    by_cases hb:k<b
    · exact hb
    · rw [if_neg hb,Array.getElem?_eq_getElem hk] at hn; cases hn),fun h=>h.elim⟩
theorem below_ext {w w':World} (h:Below w.heap.size w w') : @Ext ⟨False⟩ w w' :=
  letI:DM:=⟨False⟩
  ⟨h.os,h.tape,h.output,h.size,h.block,fun h=>h.elim⟩
end
theorem strCells_app (a b:ByteArray):Lib.strCells (a++b)=Lib.strCells a++Lib.strCells b:=by
  rw [Lib.strCells_eq,Lib.strCells_eq,Lib.strCells_eq]
  simp [Lib.byteCells,ByteArray.data_append]
def WrS (P:Program) (T e:TypeId) (f:FuncId):Prop:=∀ (b:Nat) (t s:ByteArray) (w:World),BO T e b t w→sln t+sln s≤140737488355328 →
  CallsTo P f #[.pointer (some ⟨b,0,none⟩),.string s] w fun v w'=>v = .tuple #[I (sln s),.nilIface]∧BO T e b (t++s) w'∧@But ⟨False⟩ (Top b w) w w'
def WrB (P:Program) (T e:TypeId) (f:FuncId):Prop:=∀ (b:Nat) (t:ByteArray) (c:UInt8) (w:World),BO T e b t w→sln t+1≤140737488355328 →
  CallsTo P f #[.pointer (some ⟨b,0,none⟩),.int .u8 (c.toNat:Int)] w fun v w'=>v = .nilIface∧BO T e b (t++ByteArray.mk #[c]) w'∧@But ⟨False⟩ (Top b w) w w'
def StrOf (P:Program) (T e:TypeId) (f:FuncId):Prop:=∀ (b:Nat) (t:ByteArray) (w:World),BO T e b t w →
  CallsTo P f #[.pointer (some ⟨b,0,none⟩)] w fun v w'=>v = .string t∧BO T e b t w'∧@But ⟨False⟩ (Top b w) w w'
theorem calls_to {P:Program} {f:FuncId} {args:Array Value} {w:World} {v:Value} {R:World→Prop} {R':Value→World→Prop} (h:Calls P f args w fun e w'=>e = .returned v∧R w') (k:∀ w',R w'→R' v w'):CallsTo P f args w R':=by
  unfold CallsTo
  refine Calls.mono h ?_
  rintro e w' ⟨rfl,h⟩
  exact k w' h
theorem WrS.of {P:Program} {T e:TypeId} {f:FuncId} (h:∀ (B b:Nat) (bs:List Value) (s:ByteArray) (w:World),Lib.IsBuilderF T e B b bs w→bs.length+s.size≤140737488355328→B≤w.heap.size →
    Calls P f #[.pointer (some ⟨b,0,none⟩),.string s] w fun en w'=>en = .returned (.tuple #[.int .i64 s.size,.nilIface])∧(Lib.BuilderAtF T e B b (.pointer (some ⟨b,0,none⟩)) (bs++Lib.strCells s) w'∧Below B w w'∧Lib.OthersKept e (some b) w w')) :
    WrS P T e f:=fun b t s w hb hn=>by
  refine calls_to (h b b _ s w hb.1 (by rw [Lib.strCells_length]; unfold sln at hn; omega) hb.2) fun w' hw=>?_
  obtain ⟨h1,h2,_⟩:=hw
  exact ⟨rfl,⟨.inr (by rw [strCells_app]; exact h1),Nat.le_trans hb.2 h2.size⟩,Top.but h2⟩
theorem WrB.of {P:Program} {T e:TypeId} {f:FuncId} (h:∀ (B b:Nat) (bs:List Value) (c:Int) (w:World),Lib.IsBuilderF T e B b bs w→bs.length+1≤140737488355328→B≤w.heap.size →
    Calls P f #[.pointer (some ⟨b,0,none⟩),.int .u8 c] w fun en w'=>en = .returned .nilIface∧(Lib.BuilderAtF T e B b (.pointer (some ⟨b,0,none⟩)) (bs++[.int .u8 c]) w'∧Below B w w'∧Lib.OthersKept e (some b) w w')) :
    WrB P T e f:=fun b t c w hb hn=>by
  refine calls_to (h b b _ _ w hb.1 (by rw [Lib.strCells_length]; unfold sln at hn; omega) hb.2) fun w' hw=>?_
  obtain ⟨h1,h2,_⟩:=hw
  exact ⟨rfl,⟨.inr (by rw [strCells_app,show Lib.strCells (ByteArray.mk #[c])=[.int .u8 (c.toNat:Int)] from by rw [Lib.strCells_eq]; rfl]; exact h1),Nat.le_trans hb.2 h2.size⟩,Top.but h2⟩
theorem StrOf.of {P:Program} {T e:TypeId} {f:FuncId} (h:∀ (B b:Nat) (l:List UInt8) (w:World),Lib.IsBuilderF T e B b (Lib.byteCells l) w→B≤w.heap.size →
    Calls P f #[.pointer (some ⟨b,0,none⟩)] w fun en w'=>en = .returned (.string ⟨l.toArray⟩)∧(Lib.IsBuilderF T e B b (Lib.byteCells l) w'∧Below B w w'∧Lib.OthersKept e (some b) w w')) :
    StrOf P T e f:=fun b t w hb=>by
  have h0:=hb.1
  rw [Lib.strCells_eq] at h0
  refine calls_to (h b b _ w h0 hb.2) fun w' hw=>?_
  obtain ⟨h1,h2,_⟩:=hw
  exact ⟨rfl,⟨by rw [Lib.strCells_eq]; exact h1,Nat.le_trans hb.2 h2.size⟩,Top.but h2⟩
def rpt (s:ByteArray) (c:Int):ByteArray:=⟨(Lib.repeatL s.data.toList c.toNat).toArray⟩
def itoaB (n:Int):ByteArray:=⟨(Lib.itoa n).toArray⟩
def repeatM (s:ByteArray) (c:Int) (Q:ByteArray→Prop):Prop:=0≤c∧sln s * c≤140737488355328∧c≤9223372036854775807∧Q (rpt s c)
def itoaM (n:Int) (Q:ByteArray→Prop):Prop := -9223372036854775808≤n∧n≤9223372036854775807∧Q (itoaB n)
theorem repeat_of {P:Program} {f:FuncId} (h:∀ (s:ByteArray) (c:Nat) (w:World),c≤9223372036854775807→s.size * c≤140737488355328 →
    Calls P f #[.string s,.int .i64 c] w fun e w'=>e = .returned (.string ⟨(Lib.repeatL s.data.toList c).toArray⟩)∧Below w.heap.size w w')
    (s:ByteArray) (c:Int) (Q:ByteArray→Prop) (H:repeatM s c Q) (w:World):CallsTo P f #[.string s,I c] w fun v w'=>∃ r0,Q r0∧v = .string r0∧@Ext ⟨False⟩ w w':=by
  obtain ⟨h0,h1,h2,hQ⟩:=H
  obtain ⟨n,rfl⟩:∃ n:Nat,c=n:=⟨c.toNat,by omega⟩
  refine calls_to (h s n w (by omega) (Int.ofNat_le.1 (show ((s.size * n:Nat):Int)≤((140737488355328:Nat):Int) from by rw [Int.natCast_mul]; exact h1))) fun w' hw=>?_
  exact ⟨_,hQ,rfl,below_ext hw⟩
/-- The table of powers of ten, held in h. -/
def TabH (P:Program) (h:PH):Prop:=∀ w,Sub h w→Lib.TabIs P w "internal/strconv.uint64pow10" .u64 Lib.pow10Tab
theorem itoa_of {P:Program} {f:FuncId} (h:∀ (n:Int) (w:World),-9223372036854775808≤n→n≤9223372036854775807→Lib.TabIs P w "internal/strconv.uint64pow10" .u64 Lib.pow10Tab →
    Calls P f #[.int .i64 n] w fun e w'=>e = .returned (.string ⟨(Lib.itoa n).toArray⟩)∧∃ k os,w'=Sort.grow (w.drewN k) os)
    (n:Int) (Q:ByteArray→Prop) (H:itoaM n Q) (w:World) {hT:PH} (tT:TabH P hT) (eT:Sub hT w):CallsTo P f #[I n] w fun v w'=>∃ r0,Q r0∧v = .string r0∧@Ext ⟨False⟩ w w':=by
  obtain ⟨h0,h1,hQ⟩:=H
  refine calls_to (h n w h0 h1 (tT w eT)) fun w' hw=>?_
  obtain ⟨k,os,rfl⟩:=hw
  letI:DM:=⟨False⟩
  exact ⟨_,hQ,rfl,rfl,rfl,rfl,by rw [Sort.size_grow]; exact Nat.le_add_right _ _,fun i hi=>Sort.heap_grow_old _ _ hi,fun h=>h.elim⟩
theorem TabH.of {P:Program} {W:World} (h:Lib.TabIs P W "internal/strconv.uint64pow10" .u64 Lib.pow10Tab):TabH P (pw W):=fun w e=>by
  unfold Lib.TabIs World.var? at *
  cases hg:P.globalNamed "internal/strconv.uint64pow10" with
  | none=>rw [hg] at h; cases h
  | some g =>
    rw [hg] at h
    simp only [Option.bind_some] at h ⊢
    cases hw:W.heap[g]? with
    | none=>rw [hw] at h; cases h
    | some o=>rw [hw] at h; rw [e g o hw]; exact h
section
variable {P:Program} {n:Nat} {ρ:Env} {w:World} {ops:Array Oper} {Q:Exit→Act→World→Prop} {T e:TypeId} {b:Nat} {t s:ByteArray} {f:FuncId} {o:Oper} {args:Array Operand} {tys:Array TypeId}
/-- 'var b strings.Builder'. -/
theorem LP_bld [DM] (e:TypeId) {bytes:Nat} (k:Nat) (at0:At n ops ρ k o (.alloc T)) (hi:TyI P T 2 bytes (.agg #[.pointer none,.slice none 0 0]))
    (H:∀ b w',b=w.heap.size→Ext w w'→BO T e b (ByteArray.mk #[]) w'→LP P n ops Q (k+1) (updO ρ o.dst (.pointer (some ⟨b,0,none⟩))) w'):LP P n ops Q k ρ w:=by
  obtain ⟨inf,hinf,hsz,_,hz,_⟩:=hi.ok
  have hx:w.heap.size≤(w.alloc (.cells #[.pointer none,.slice none 0 0] T)).heap.size:=(newRow_ok (w:=w) T #[.pointer none,.slice none 0 0]).1.size
  refine LP_val k o at0.o at0.g (v := .pointer (some ⟨w.heap.size,0,none⟩)) (w':=w.alloc (.cells #[.pointer none,.slice none 0 0] T)) ?_
    (H _ _ rfl (newRow_ok (w:=w) T #[.pointer none,.slice none 0 0]).1 ⟨.inl ⟨Nat.le_refl _,.slice none 0 0,heap_alloc_new w _,⟨rfl,.inl ⟨rfl,rfl⟩⟩,by simp [Value.ownBlock]⟩,hx⟩)
  simp [execOp,at0.op,Instr.alloc,zeroValue,typeInfo,hinf,hz,newVar,newRow,Value.cells]
theorem LP_bws (k:Nat) (at0:At n ops ρ k o (.call ⟨.value (.func f),args,tys⟩)) (hf:Callable P f) (ha:args.toList.map (opd n ρ)=[.pointer (some ⟨b,0,none⟩),.string s]) (c:WrS P T e f) (hb:BO T e b t w) (hn:sln t+sln s≤140737488355328)
    (H:∀ w',BO T e b (t++s) w'→@But ⟨False⟩ (Top b w) w w'→LP P n ops Q (k+1) (updO ρ o.dst (.tuple #[I (sln s),.nilIface])) w'):LP P n ops Q k ρ w :=
  LP_call k at0 hf ha (c b t s w hb hn) fun v w' ⟨hv,h1,h2⟩=>by subst hv; exact H w' h1 h2
theorem LP_bwb (c:UInt8) (k:Nat) (at0:At n ops ρ k o (.call ⟨.value (.func f),args,tys⟩)) (hf:Callable P f) (ha:args.toList.map (opd n ρ)=[.pointer (some ⟨b,0,none⟩),.int .u8 (c.toNat:Int)]) (cn:WrB P T e f) (hb:BO T e b t w) (hn:sln t+1≤140737488355328)
    (H:∀ w',BO T e b (t++ByteArray.mk #[c]) w'→@But ⟨False⟩ (Top b w) w w'→LP P n ops Q (k+1) (updO ρ o.dst .nilIface) w'):LP P n ops Q k ρ w :=
  LP_call k at0 hf ha (cn b t c w hb hn) fun v w' ⟨hv,h1,h2⟩=>by subst hv; exact H w' h1 h2
theorem LP_bst (k:Nat) (at0:At n ops ρ k o (.call ⟨.value (.func f),args,tys⟩)) (hf:Callable P f) (ha:args.toList.map (opd n ρ)=[.pointer (some ⟨b,0,none⟩)]) (cn:StrOf P T e f) (hb:BO T e b t w)
    (H:∀ w',BO T e b t w'→@But ⟨False⟩ (Top b w) w w'→LP P n ops Q (k+1) (updO ρ o.dst (.string t)) w'):LP P n ops Q k ρ w :=
  LP_call k at0 hf ha (cn b t w hb) fun v w' ⟨hv,h1,h2⟩=>by subst hv; exact H w' h1 h2
end
end Go.Gv
