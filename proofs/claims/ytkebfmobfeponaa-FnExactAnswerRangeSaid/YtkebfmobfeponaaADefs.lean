/- What each Go function means: a definition over numbers and lists; Q: what is to hold of its results. -/
import Derived.Test.YtkebfmobfeponaaLib
set_option linter.unusedVariables false
set_option autoImplicit false
namespace Go.Proofs.Ytkebfmobfeponaa
open Go Go.RowKit Go.Gv

structure Geo where
  Parents : List Int
instance : Wf Geo := ⟨fun x => Wf.wf x.Parents⟩
instance : Deep Geo := Deep.via (fun x => x.Parents)
theorem Geo_rd {h : PH} {cs : List Value} {x : Geo} (r : Enc.rd h cs x) : ∃ u0, cs = [u0] ∧ RS h u0 x.Parents := by
  obtain ⟨u0, rfl, r0⟩ := r; exact ⟨_, rfl, r0⟩
theorem Geo_rv {h : PH} {v : Value} {x : Geo} (r : RV h v x) : ∃ u0, v = .agg #[u0] ∧ RS h u0 x.Parents := by
  obtain ⟨cs, hr, rfl⟩ := r; obtain ⟨u0, rfl, r0⟩ := Geo_rd hr; exact ⟨_, rfl, r0⟩
theorem Geo_tk {h : PH} {c : List Value} {x : Geo} (b : Deep.own h c x) : ∃ u, c = [u] ∧ OD h u x.Parents := by
  have o := b
  obtain ⟨u, rfl, q⟩ := o
  refine ⟨u, rfl, ?_⟩
  simpa only [emp_un, un_emp] using q
theorem Geo_bw0 {h hi rest : PH} {v : Value} {xs : List Geo} {i : Nat} {c : List Value} {x : Geo} (b : Bw h v xs i hi rest c x) : ∃ u0 hl rs, c = [u0] ∧ BwG h v xs hl rs u0 x.Parents (fun y => xs.set i {x with Parents := y}) := by
  have o := b.own
  obtain ⟨u0, rfl, q0⟩ := o
  exact ⟨_, _, _, rfl, b.fc (Fc.via (fun x : Geo => x.Parents) (Fc.here q0) fun _ => rfl)⟩
structure Variable where
  Name : ByteArray
  Levels : Int
instance : Wf Variable := ⟨fun x => Wf.wf x.Name ∧ Wf.wf x.Levels⟩
instance : Flat Variable where
  n := 2
  agg := true
  rd _ cs x := cs = [.string x.Name, I x.Levels]
  enc x := [.string x.Name, I x.Levels]
  len h := by subst h; rfl
  le _ h := h
  one h c hc := by subst h; simp at hc; rcases hc with rfl | rfl <;> rfl
  sing h := by cases h
  flat := Iff.rfl
theorem Variable_rv {h : PH} {v : Value} {x : Variable} (r : RV h v x) : v = .agg #[.string x.Name, I x.Levels] := by obtain ⟨cs, rfl, rfl⟩ := r; rfl
structure Table where
  Level : Int
  Vars : List Int
  Where : List Int
  Sum : Int
instance : Wf Table := ⟨fun x => Wf.wf x.Level ∧ Wf.wf x.Vars ∧ Wf.wf x.Where ∧ Wf.wf x.Sum⟩
instance : Deep Table := Deep.via (fun x => (x.Level, x.Vars, x.Where, x.Sum))
theorem Table_rd {h : PH} {cs : List Value} {x : Table} (r : Enc.rd h cs x) : ∃ u0 u1, cs = [I x.Level, u0, u1, I x.Sum] ∧ RS h u0 x.Vars ∧ RS h u1 x.Where := by
  obtain ⟨_, _, rfl, rfl, ⟨_, _, rfl, ⟨u0, rfl, r0⟩, ⟨_, _, rfl, ⟨u1, rfl, r1⟩, rfl⟩⟩⟩ := r; exact ⟨_, _, rfl, r0, r1⟩
theorem Table_rv {h : PH} {v : Value} {x : Table} (r : RV h v x) : ∃ u0 u1, v = .agg #[I x.Level, u0, u1, I x.Sum] ∧ RS h u0 x.Vars ∧ RS h u1 x.Where := by
  obtain ⟨cs, hr, rfl⟩ := r; obtain ⟨u0, u1, rfl, r0, r1⟩ := Table_rd hr; exact ⟨_, _, rfl, r0, r1⟩
theorem Table_ft0 {x : Table} {k : Int} : FTurn x {x with Level := k} 0 [I k] := by
  intro _ _ o
  obtain ⟨_, _, _, _, rfl, rfl, d0, p0, n0⟩ := o
  obtain ⟨rfl, rfl⟩ := own_flat p0
  obtain ⟨_, _, _, _, rfl, rfl, d1, p1, n1⟩ := n0
  obtain ⟨u0, rfl, q0⟩ := p1
  obtain ⟨_, _, _, _, rfl, rfl, d2, p2, n2⟩ := n1
  obtain ⟨u1, rfl, q1⟩ := p2
  obtain ⟨rfl, rfl⟩ := own_flat n2
  exact ⟨[I k], [u0, u1, I x.Sum], _, _, rfl, rfl, d0, (flat_own k), ⟨[u0], [u1, I x.Sum], _, _, rfl, rfl, d1, ⟨u0, rfl, q0⟩, ⟨[u1], [I x.Sum], _, _, rfl, rfl, d2, ⟨u1, rfl, q1⟩, (flat_own x.Sum)⟩⟩⟩
theorem Table_bw1 {h hi rest : PH} {v : Value} {xs : List Table} {i : Nat} {c : List Value} {x : Table} (b : Bw h v xs i hi rest c x) : ∃ u0 u1 hl rs, c = [I x.Level, u0, u1, I x.Sum] ∧ BwG h v xs hl rs u0 x.Vars (fun y => xs.set i {x with Vars := y}) := by
  have o := b.own
  obtain ⟨_, _, _, _, rfl, rfl, d0, p0, n0⟩ := o
  obtain ⟨rfl, rfl⟩ := own_flat p0
  obtain ⟨_, _, _, _, rfl, rfl, d1, p1, n1⟩ := n0
  obtain ⟨u0, rfl, q0⟩ := p1
  obtain ⟨_, _, _, _, rfl, rfl, d2, p2, n2⟩ := n1
  obtain ⟨u1, rfl, q1⟩ := p2
  obtain ⟨rfl, rfl⟩ := own_flat n2
  exact ⟨_, _, _, _, rfl, b.fc (Fc.via (fun x : Table => (x.Level, x.Vars, x.Where, x.Sum)) (Fc.right (flat_own x.Level) (Fc.left (Fc.here q0) ⟨[u1], [I x.Sum], _, _, rfl, rfl, d2, ⟨u1, rfl, q1⟩, (flat_own x.Sum)⟩ d1) d0) fun _ => rfl)⟩
theorem Table_bw2 {h hi rest : PH} {v : Value} {xs : List Table} {i : Nat} {c : List Value} {x : Table} (b : Bw h v xs i hi rest c x) : ∃ u0 u1 hl rs, c = [I x.Level, u0, u1, I x.Sum] ∧ BwG h v xs hl rs u1 x.Where (fun y => xs.set i {x with Where := y}) := by
  have o := b.own
  obtain ⟨_, _, _, _, rfl, rfl, d0, p0, n0⟩ := o
  obtain ⟨rfl, rfl⟩ := own_flat p0
  obtain ⟨_, _, _, _, rfl, rfl, d1, p1, n1⟩ := n0
  obtain ⟨u0, rfl, q0⟩ := p1
  obtain ⟨_, _, _, _, rfl, rfl, d2, p2, n2⟩ := n1
  obtain ⟨u1, rfl, q1⟩ := p2
  obtain ⟨rfl, rfl⟩ := own_flat n2
  exact ⟨_, _, _, _, rfl, b.fc (Fc.via (fun x : Table => (x.Level, x.Vars, x.Where, x.Sum)) (Fc.right (flat_own x.Level) (Fc.right ⟨u0, rfl, q0⟩ (Fc.left (Fc.here q1) (flat_own x.Sum) d2) d1) d0) fun _ => rfl)⟩
theorem Table_ft3 {x : Table} {k : Int} : FTurn x {x with Sum := k} 3 [I k] := by
  intro _ _ o
  obtain ⟨_, _, _, _, rfl, rfl, d0, p0, n0⟩ := o
  obtain ⟨rfl, rfl⟩ := own_flat p0
  obtain ⟨_, _, _, _, rfl, rfl, d1, p1, n1⟩ := n0
  obtain ⟨u0, rfl, q0⟩ := p1
  obtain ⟨_, _, _, _, rfl, rfl, d2, p2, n2⟩ := n1
  obtain ⟨u1, rfl, q1⟩ := p2
  obtain ⟨rfl, rfl⟩ := own_flat n2
  exact ⟨[I x.Level], [u0, u1, I k], _, _, rfl, rfl, d0, (flat_own x.Level), ⟨[u0], [u1, I k], _, _, rfl, rfl, d1, ⟨u0, rfl, q0⟩, ⟨[u1], [I k], _, _, rfl, rfl, d2, ⟨u1, rfl, q1⟩, (flat_own k)⟩⟩⟩
structure Published where
  Table : Table
  Cells : List Int
instance : Wf Published := ⟨fun x => Wf.wf x.Table ∧ Wf.wf x.Cells⟩
instance : Deep Published := Deep.via (fun x => (x.Table, x.Cells))
theorem Published_rd {h : PH} {cs : List Value} {x : Published} (r : Enc.rd h cs x) : ∃ u0 u1 u2, cs = [I x.Table.Level, u0, u1, I x.Table.Sum, u2] ∧ RS h u0 x.Table.Vars ∧ RS h u1 x.Table.Where ∧ RS h u2 x.Cells := by
  obtain ⟨_, _, rfl, ⟨_, _, rfl, rfl, ⟨_, _, rfl, ⟨u0, rfl, r0⟩, ⟨_, _, rfl, ⟨u1, rfl, r1⟩, rfl⟩⟩⟩, ⟨u2, rfl, r2⟩⟩ := r; exact ⟨_, _, _, rfl, r0, r1, r2⟩
theorem Published_rv {h : PH} {v : Value} {x : Published} (r : RV h v x) : ∃ u0 u1 u2, v = .agg #[I x.Table.Level, u0, u1, I x.Table.Sum, u2] ∧ RS h u0 x.Table.Vars ∧ RS h u1 x.Table.Where ∧ RS h u2 x.Cells := by
  obtain ⟨cs, hr, rfl⟩ := r; obtain ⟨u0, u1, u2, rfl, r0, r1, r2⟩ := Published_rd hr; exact ⟨_, _, _, rfl, r0, r1, r2⟩
theorem Published_ft0 {x : Published} {k : Int} : FTurn x {x with Table.Level := k} 0 [I k] := by
  intro _ _ o
  obtain ⟨_, _, _, _, rfl, rfl, d0, p0, n0⟩ := o
  obtain ⟨_, _, _, _, rfl, rfl, d1, p1, n1⟩ := p0
  obtain ⟨rfl, rfl⟩ := own_flat p1
  obtain ⟨_, _, _, _, rfl, rfl, d2, p2, n2⟩ := n1
  obtain ⟨u0, rfl, q0⟩ := p2
  obtain ⟨_, _, _, _, rfl, rfl, d3, p3, n3⟩ := n2
  obtain ⟨u1, rfl, q1⟩ := p3
  obtain ⟨rfl, rfl⟩ := own_flat n3
  obtain ⟨u2, rfl, q2⟩ := n0
  exact ⟨[I k, u0, u1, I x.Table.Sum], [u2], _, _, rfl, rfl, d0, ⟨[I k], [u0, u1, I x.Table.Sum], _, _, rfl, rfl, d1, (flat_own k), ⟨[u0], [u1, I x.Table.Sum], _, _, rfl, rfl, d2, ⟨u0, rfl, q0⟩, ⟨[u1], [I x.Table.Sum], _, _, rfl, rfl, d3, ⟨u1, rfl, q1⟩, (flat_own x.Table.Sum)⟩⟩⟩, ⟨u2, rfl, q2⟩⟩
theorem Published_bw1 {h hi rest : PH} {v : Value} {xs : List Published} {i : Nat} {c : List Value} {x : Published} (b : Bw h v xs i hi rest c x) : ∃ u0 u1 u2 hl rs, c = [I x.Table.Level, u0, u1, I x.Table.Sum, u2] ∧ BwG h v xs hl rs u0 x.Table.Vars (fun y => xs.set i {x with Table.Vars := y}) := by
  have o := b.own
  obtain ⟨_, _, _, _, rfl, rfl, d0, p0, n0⟩ := o
  obtain ⟨_, _, _, _, rfl, rfl, d1, p1, n1⟩ := p0
  obtain ⟨rfl, rfl⟩ := own_flat p1
  obtain ⟨_, _, _, _, rfl, rfl, d2, p2, n2⟩ := n1
  obtain ⟨u0, rfl, q0⟩ := p2
  obtain ⟨_, _, _, _, rfl, rfl, d3, p3, n3⟩ := n2
  obtain ⟨u1, rfl, q1⟩ := p3
  obtain ⟨rfl, rfl⟩ := own_flat n3
  obtain ⟨u2, rfl, q2⟩ := n0
  exact ⟨_, _, _, _, _, rfl, b.fc (Fc.via (fun x : Published => (x.Table, x.Cells)) (Fc.left (Fc.via (mk' := fun y => {x.Table with Vars := y}) (fun x : Table => (x.Level, x.Vars, x.Where, x.Sum)) (Fc.right (flat_own x.Table.Level) (Fc.left (Fc.here q0) ⟨[u1], [I x.Table.Sum], _, _, rfl, rfl, d3, ⟨u1, rfl, q1⟩, (flat_own x.Table.Sum)⟩ d2) d1) fun _ => rfl) ⟨u2, rfl, q2⟩ d0) fun _ => rfl)⟩
theorem Published_bw2 {h hi rest : PH} {v : Value} {xs : List Published} {i : Nat} {c : List Value} {x : Published} (b : Bw h v xs i hi rest c x) : ∃ u0 u1 u2 hl rs, c = [I x.Table.Level, u0, u1, I x.Table.Sum, u2] ∧ BwG h v xs hl rs u1 x.Table.Where (fun y => xs.set i {x with Table.Where := y}) := by
  have o := b.own
  obtain ⟨_, _, _, _, rfl, rfl, d0, p0, n0⟩ := o
  obtain ⟨_, _, _, _, rfl, rfl, d1, p1, n1⟩ := p0
  obtain ⟨rfl, rfl⟩ := own_flat p1
  obtain ⟨_, _, _, _, rfl, rfl, d2, p2, n2⟩ := n1
  obtain ⟨u0, rfl, q0⟩ := p2
  obtain ⟨_, _, _, _, rfl, rfl, d3, p3, n3⟩ := n2
  obtain ⟨u1, rfl, q1⟩ := p3
  obtain ⟨rfl, rfl⟩ := own_flat n3
  obtain ⟨u2, rfl, q2⟩ := n0
  exact ⟨_, _, _, _, _, rfl, b.fc (Fc.via (fun x : Published => (x.Table, x.Cells)) (Fc.left (Fc.via (mk' := fun y => {x.Table with Where := y}) (fun x : Table => (x.Level, x.Vars, x.Where, x.Sum)) (Fc.right (flat_own x.Table.Level) (Fc.right ⟨u0, rfl, q0⟩ (Fc.left (Fc.here q1) (flat_own x.Table.Sum) d3) d2) d1) fun _ => rfl) ⟨u2, rfl, q2⟩ d0) fun _ => rfl)⟩
theorem Published_ft3 {x : Published} {k : Int} : FTurn x {x with Table.Sum := k} 3 [I k] := by
  intro _ _ o
  obtain ⟨_, _, _, _, rfl, rfl, d0, p0, n0⟩ := o
  obtain ⟨_, _, _, _, rfl, rfl, d1, p1, n1⟩ := p0
  obtain ⟨rfl, rfl⟩ := own_flat p1
  obtain ⟨_, _, _, _, rfl, rfl, d2, p2, n2⟩ := n1
  obtain ⟨u0, rfl, q0⟩ := p2
  obtain ⟨_, _, _, _, rfl, rfl, d3, p3, n3⟩ := n2
  obtain ⟨u1, rfl, q1⟩ := p3
  obtain ⟨rfl, rfl⟩ := own_flat n3
  obtain ⟨u2, rfl, q2⟩ := n0
  exact ⟨[I x.Table.Level, u0, u1, I k], [u2], _, _, rfl, rfl, d0, ⟨[I x.Table.Level], [u0, u1, I k], _, _, rfl, rfl, d1, (flat_own x.Table.Level), ⟨[u0], [u1, I k], _, _, rfl, rfl, d2, ⟨u0, rfl, q0⟩, ⟨[u1], [I k], _, _, rfl, rfl, d3, ⟨u1, rfl, q1⟩, (flat_own k)⟩⟩⟩, ⟨u2, rfl, q2⟩⟩
theorem Published_bw4 {h hi rest : PH} {v : Value} {xs : List Published} {i : Nat} {c : List Value} {x : Published} (b : Bw h v xs i hi rest c x) : ∃ u0 u1 u2 hl rs, c = [I x.Table.Level, u0, u1, I x.Table.Sum, u2] ∧ BwG h v xs hl rs u2 x.Cells (fun y => xs.set i {x with Cells := y}) := by
  have o := b.own
  obtain ⟨_, _, _, _, rfl, rfl, d0, p0, n0⟩ := o
  obtain ⟨_, _, _, _, rfl, rfl, d1, p1, n1⟩ := p0
  obtain ⟨rfl, rfl⟩ := own_flat p1
  obtain ⟨_, _, _, _, rfl, rfl, d2, p2, n2⟩ := n1
  obtain ⟨u0, rfl, q0⟩ := p2
  obtain ⟨_, _, _, _, rfl, rfl, d3, p3, n3⟩ := n2
  obtain ⟨u1, rfl, q1⟩ := p3
  obtain ⟨rfl, rfl⟩ := own_flat n3
  obtain ⟨u2, rfl, q2⟩ := n0
  exact ⟨_, _, _, _, _, rfl, b.fc (Fc.via (fun x : Published => (x.Table, x.Cells)) (Fc.right ⟨[I x.Table.Level], [u0, u1, I x.Table.Sum], _, _, rfl, rfl, d1, (flat_own x.Table.Level), ⟨[u0], [u1, I x.Table.Sum], _, _, rfl, rfl, d2, ⟨u0, rfl, q0⟩, ⟨[u1], [I x.Table.Sum], _, _, rfl, rfl, d3, ⟨u1, rfl, q1⟩, (flat_own x.Table.Sum)⟩⟩⟩ (Fc.here q2) d0) fun _ => rfl)⟩
structure ARule where
  Amounts : List Int
  Sum : Int
instance : Wf ARule := ⟨fun x => Wf.wf x.Amounts ∧ Wf.wf x.Sum⟩
instance : Deep ARule := Deep.via (fun x => (x.Amounts, x.Sum))
theorem ARule_rd {h : PH} {cs : List Value} {x : ARule} (r : Enc.rd h cs x) : ∃ u0, cs = [u0, I x.Sum] ∧ RS h u0 x.Amounts := by
  obtain ⟨_, _, rfl, ⟨u0, rfl, r0⟩, rfl⟩ := r; exact ⟨_, rfl, r0⟩
theorem ARule_rv {h : PH} {v : Value} {x : ARule} (r : RV h v x) : ∃ u0, v = .agg #[u0, I x.Sum] ∧ RS h u0 x.Amounts := by
  obtain ⟨cs, hr, rfl⟩ := r; obtain ⟨u0, rfl, r0⟩ := ARule_rd hr; exact ⟨_, rfl, r0⟩
theorem ARule_tk {h : PH} {c : List Value} {x : ARule} (b : Deep.own h c x) : ∃ u, c = [u, I x.Sum] ∧ OD h u x.Amounts := by
  have o := b
  obtain ⟨_, _, _, _, rfl, rfl, d0, p0, n0⟩ := o
  obtain ⟨u, rfl, q⟩ := p0
  obtain ⟨rfl, rfl⟩ := own_flat n0
  refine ⟨u, rfl, ?_⟩
  simpa only [emp_un, un_emp] using q
theorem ARule_bw0 {h hi rest : PH} {v : Value} {xs : List ARule} {i : Nat} {c : List Value} {x : ARule} (b : Bw h v xs i hi rest c x) : ∃ u0 hl rs, c = [u0, I x.Sum] ∧ BwG h v xs hl rs u0 x.Amounts (fun y => xs.set i {x with Amounts := y}) := by
  have o := b.own
  obtain ⟨_, _, _, _, rfl, rfl, d0, p0, n0⟩ := o
  obtain ⟨u0, rfl, q0⟩ := p0
  obtain ⟨rfl, rfl⟩ := own_flat n0
  exact ⟨_, _, _, rfl, b.fc (Fc.via (fun x : ARule => (x.Amounts, x.Sum)) (Fc.left (Fc.here q0) (flat_own x.Sum) d0) fun _ => rfl)⟩
theorem ARule_ft1 {x : ARule} {k : Int} : FTurn x {x with Sum := k} 1 [I k] := by
  intro _ _ o
  obtain ⟨_, _, _, _, rfl, rfl, d0, p0, n0⟩ := o
  obtain ⟨u0, rfl, q0⟩ := p0
  obtain ⟨rfl, rfl⟩ := own_flat n0
  exact ⟨[u0], [I k], _, _, rfl, rfl, d0, ⟨u0, rfl, q0⟩, (flat_own k)⟩
structure Record where
  Area : Int
  House : Int
  Values : List Int
instance : Wf Record := ⟨fun x => Wf.wf x.Area ∧ Wf.wf x.House ∧ Wf.wf x.Values⟩
instance : Deep Record := Deep.via (fun x => (x.Area, x.House, x.Values))
theorem Record_rd {h : PH} {cs : List Value} {x : Record} (r : Enc.rd h cs x) : ∃ u0, cs = [I x.Area, I x.House, u0] ∧ RS h u0 x.Values := by
  obtain ⟨_, _, rfl, rfl, ⟨_, _, rfl, rfl, ⟨u0, rfl, r0⟩⟩⟩ := r; exact ⟨_, rfl, r0⟩
theorem Record_rv {h : PH} {v : Value} {x : Record} (r : RV h v x) : ∃ u0, v = .agg #[I x.Area, I x.House, u0] ∧ RS h u0 x.Values := by
  obtain ⟨cs, hr, rfl⟩ := r; obtain ⟨u0, rfl, r0⟩ := Record_rd hr; exact ⟨_, rfl, r0⟩
theorem Record_tk {h : PH} {c : List Value} {x : Record} (b : Deep.own h c x) : ∃ u, c = [I x.Area, I x.House, u] ∧ OD h u x.Values := by
  have o := b
  obtain ⟨_, _, _, _, rfl, rfl, d0, p0, n0⟩ := o
  obtain ⟨rfl, rfl⟩ := own_flat p0
  obtain ⟨_, _, _, _, rfl, rfl, d1, p1, n1⟩ := n0
  obtain ⟨rfl, rfl⟩ := own_flat p1
  obtain ⟨u, rfl, q⟩ := n1
  refine ⟨u, rfl, ?_⟩
  simpa only [emp_un, un_emp] using q
theorem Record_ft0 {x : Record} {k : Int} : FTurn x {x with Area := k} 0 [I k] := by
  intro _ _ o
  obtain ⟨_, _, _, _, rfl, rfl, d0, p0, n0⟩ := o
  obtain ⟨rfl, rfl⟩ := own_flat p0
  obtain ⟨_, _, _, _, rfl, rfl, d1, p1, n1⟩ := n0
  obtain ⟨rfl, rfl⟩ := own_flat p1
  obtain ⟨u0, rfl, q0⟩ := n1
  exact ⟨[I k], [I x.House, u0], _, _, rfl, rfl, d0, (flat_own k), ⟨[I x.House], [u0], _, _, rfl, rfl, d1, (flat_own x.House), ⟨u0, rfl, q0⟩⟩⟩
theorem Record_ft1 {x : Record} {k : Int} : FTurn x {x with House := k} 1 [I k] := by
  intro _ _ o
  obtain ⟨_, _, _, _, rfl, rfl, d0, p0, n0⟩ := o
  obtain ⟨rfl, rfl⟩ := own_flat p0
  obtain ⟨_, _, _, _, rfl, rfl, d1, p1, n1⟩ := n0
  obtain ⟨rfl, rfl⟩ := own_flat p1
  obtain ⟨u0, rfl, q0⟩ := n1
  exact ⟨[I x.Area], [I k, u0], _, _, rfl, rfl, d0, (flat_own x.Area), ⟨[I k], [u0], _, _, rfl, rfl, d1, (flat_own k), ⟨u0, rfl, q0⟩⟩⟩
theorem Record_bw2 {h hi rest : PH} {v : Value} {xs : List Record} {i : Nat} {c : List Value} {x : Record} (b : Bw h v xs i hi rest c x) : ∃ u0 hl rs, c = [I x.Area, I x.House, u0] ∧ BwG h v xs hl rs u0 x.Values (fun y => xs.set i {x with Values := y}) := by
  have o := b.own
  obtain ⟨_, _, _, _, rfl, rfl, d0, p0, n0⟩ := o
  obtain ⟨rfl, rfl⟩ := own_flat p0
  obtain ⟨_, _, _, _, rfl, rfl, d1, p1, n1⟩ := n0
  obtain ⟨rfl, rfl⟩ := own_flat p1
  obtain ⟨u0, rfl, q0⟩ := n1
  exact ⟨_, _, _, rfl, b.fc (Fc.via (fun x : Record => (x.Area, x.House, x.Values)) (Fc.right (flat_own x.Area) (Fc.right (flat_own x.House) (Fc.here q0) d1) d0) fun _ => rfl)⟩
structure ASearch where
  Rules : List ARule
  Types : Int
  Most : Int
  Out : List (List Int)
instance : Wf ASearch := ⟨fun x => Wf.wf x.Rules ∧ Wf.wf x.Types ∧ Wf.wf x.Most ∧ Wf.wf x.Out⟩
instance : Deep ASearch := Deep.via (fun x => (x.Rules, x.Types, x.Most, x.Out))
theorem ASearch_rd {h : PH} {cs : List Value} {x : ASearch} (r : Enc.rd h cs x) : ∃ u0 u1, cs = [u0, I x.Types, I x.Most, u1] ∧ RS h u0 x.Rules ∧ RS h u1 x.Out := by
  obtain ⟨_, _, rfl, ⟨u0, rfl, r0⟩, ⟨_, _, rfl, rfl, ⟨_, _, rfl, rfl, ⟨u1, rfl, r1⟩⟩⟩⟩ := r; exact ⟨_, _, rfl, r0, r1⟩
theorem ASearch_rv {h : PH} {v : Value} {x : ASearch} (r : RV h v x) : ∃ u0 u1, v = .agg #[u0, I x.Types, I x.Most, u1] ∧ RS h u0 x.Rules ∧ RS h u1 x.Out := by
  obtain ⟨cs, hr, rfl⟩ := r; obtain ⟨u0, u1, rfl, r0, r1⟩ := ASearch_rd hr; exact ⟨_, _, rfl, r0, r1⟩
theorem ASearch_bw0 {h hi rest : PH} {v : Value} {xs : List ASearch} {i : Nat} {c : List Value} {x : ASearch} (b : Bw h v xs i hi rest c x) : ∃ u0 u1 hl rs, c = [u0, I x.Types, I x.Most, u1] ∧ BwG h v xs hl rs u0 x.Rules (fun y => xs.set i {x with Rules := y}) := by
  have o := b.own
  obtain ⟨_, _, _, _, rfl, rfl, d0, p0, n0⟩ := o
  obtain ⟨u0, rfl, q0⟩ := p0
  obtain ⟨_, _, _, _, rfl, rfl, d1, p1, n1⟩ := n0
  obtain ⟨rfl, rfl⟩ := own_flat p1
  obtain ⟨_, _, _, _, rfl, rfl, d2, p2, n2⟩ := n1
  obtain ⟨rfl, rfl⟩ := own_flat p2
  obtain ⟨u1, rfl, q1⟩ := n2
  exact ⟨_, _, _, _, rfl, b.fc (Fc.via (fun x : ASearch => (x.Rules, x.Types, x.Most, x.Out)) (Fc.left (Fc.here q0) ⟨[I x.Types], [I x.Most, u1], _, _, rfl, rfl, d1, (flat_own x.Types), ⟨[I x.Most], [u1], _, _, rfl, rfl, d2, (flat_own x.Most), ⟨u1, rfl, q1⟩⟩⟩ d0) fun _ => rfl)⟩
theorem ASearch_ft1 {x : ASearch} {k : Int} : FTurn x {x with Types := k} 1 [I k] := by
  intro _ _ o
  obtain ⟨_, _, _, _, rfl, rfl, d0, p0, n0⟩ := o
  obtain ⟨u0, rfl, q0⟩ := p0
  obtain ⟨_, _, _, _, rfl, rfl, d1, p1, n1⟩ := n0
  obtain ⟨rfl, rfl⟩ := own_flat p1
  obtain ⟨_, _, _, _, rfl, rfl, d2, p2, n2⟩ := n1
  obtain ⟨rfl, rfl⟩ := own_flat p2
  obtain ⟨u1, rfl, q1⟩ := n2
  exact ⟨[u0], [I k, I x.Most, u1], _, _, rfl, rfl, d0, ⟨u0, rfl, q0⟩, ⟨[I k], [I x.Most, u1], _, _, rfl, rfl, d1, (flat_own k), ⟨[I x.Most], [u1], _, _, rfl, rfl, d2, (flat_own x.Most), ⟨u1, rfl, q1⟩⟩⟩⟩
theorem ASearch_ft2 {x : ASearch} {k : Int} : FTurn x {x with Most := k} 2 [I k] := by
  intro _ _ o
  obtain ⟨_, _, _, _, rfl, rfl, d0, p0, n0⟩ := o
  obtain ⟨u0, rfl, q0⟩ := p0
  obtain ⟨_, _, _, _, rfl, rfl, d1, p1, n1⟩ := n0
  obtain ⟨rfl, rfl⟩ := own_flat p1
  obtain ⟨_, _, _, _, rfl, rfl, d2, p2, n2⟩ := n1
  obtain ⟨rfl, rfl⟩ := own_flat p2
  obtain ⟨u1, rfl, q1⟩ := n2
  exact ⟨[u0], [I x.Types, I k, u1], _, _, rfl, rfl, d0, ⟨u0, rfl, q0⟩, ⟨[I x.Types], [I k, u1], _, _, rfl, rfl, d1, (flat_own x.Types), ⟨[I k], [u1], _, _, rfl, rfl, d2, (flat_own k), ⟨u1, rfl, q1⟩⟩⟩⟩
theorem ASearch_bw3 {h hi rest : PH} {v : Value} {xs : List ASearch} {i : Nat} {c : List Value} {x : ASearch} (b : Bw h v xs i hi rest c x) : ∃ u0 u1 hl rs, c = [u0, I x.Types, I x.Most, u1] ∧ BwG h v xs hl rs u1 x.Out (fun y => xs.set i {x with Out := y}) := by
  have o := b.own
  obtain ⟨_, _, _, _, rfl, rfl, d0, p0, n0⟩ := o
  obtain ⟨u0, rfl, q0⟩ := p0
  obtain ⟨_, _, _, _, rfl, rfl, d1, p1, n1⟩ := n0
  obtain ⟨rfl, rfl⟩ := own_flat p1
  obtain ⟨_, _, _, _, rfl, rfl, d2, p2, n2⟩ := n1
  obtain ⟨rfl, rfl⟩ := own_flat p2
  obtain ⟨u1, rfl, q1⟩ := n2
  exact ⟨_, _, _, _, rfl, b.fc (Fc.via (fun x : ASearch => (x.Rules, x.Types, x.Most, x.Out)) (Fc.right ⟨u0, rfl, q0⟩ (Fc.right (flat_own x.Types) (Fc.right (flat_own x.Most) (Fc.here q1) d2) d1) d0) fun _ => rfl)⟩
structure Condition where
  Amounts : List Int
  Value : Int
instance : Wf Condition := ⟨fun x => Wf.wf x.Amounts ∧ Wf.wf x.Value⟩
instance : Deep Condition := Deep.via (fun x => (x.Amounts, x.Value))
theorem Condition_rd {h : PH} {cs : List Value} {x : Condition} (r : Enc.rd h cs x) : ∃ u0, cs = [u0, I x.Value] ∧ RS h u0 x.Amounts := by
  obtain ⟨_, _, rfl, ⟨u0, rfl, r0⟩, rfl⟩ := r; exact ⟨_, rfl, r0⟩
theorem Condition_rv {h : PH} {v : Value} {x : Condition} (r : RV h v x) : ∃ u0, v = .agg #[u0, I x.Value] ∧ RS h u0 x.Amounts := by
  obtain ⟨cs, hr, rfl⟩ := r; obtain ⟨u0, rfl, r0⟩ := Condition_rd hr; exact ⟨_, rfl, r0⟩
theorem Condition_tk {h : PH} {c : List Value} {x : Condition} (b : Deep.own h c x) : ∃ u, c = [u, I x.Value] ∧ OD h u x.Amounts := by
  have o := b
  obtain ⟨_, _, _, _, rfl, rfl, d0, p0, n0⟩ := o
  obtain ⟨u, rfl, q⟩ := p0
  obtain ⟨rfl, rfl⟩ := own_flat n0
  refine ⟨u, rfl, ?_⟩
  simpa only [emp_un, un_emp] using q
theorem Condition_bw0 {h hi rest : PH} {v : Value} {xs : List Condition} {i : Nat} {c : List Value} {x : Condition} (b : Bw h v xs i hi rest c x) : ∃ u0 hl rs, c = [u0, I x.Value] ∧ BwG h v xs hl rs u0 x.Amounts (fun y => xs.set i {x with Amounts := y}) := by
  have o := b.own
  obtain ⟨_, _, _, _, rfl, rfl, d0, p0, n0⟩ := o
  obtain ⟨u0, rfl, q0⟩ := p0
  obtain ⟨rfl, rfl⟩ := own_flat n0
  exact ⟨_, _, _, rfl, b.fc (Fc.via (fun x : Condition => (x.Amounts, x.Value)) (Fc.left (Fc.here q0) (flat_own x.Value) d0) fun _ => rfl)⟩
theorem Condition_ft1 {x : Condition} {k : Int} : FTurn x {x with Value := k} 1 [I k] := by
  intro _ _ o
  obtain ⟨_, _, _, _, rfl, rfl, d0, p0, n0⟩ := o
  obtain ⟨u0, rfl, q0⟩ := p0
  obtain ⟨rfl, rfl⟩ := own_flat n0
  exact ⟨[u0], [I k], _, _, rfl, rfl, d0, ⟨u0, rfl, q0⟩, (flat_own k)⟩
structure Search where
  Conditions : List Condition
  Counts : List Int
  Sums : List Int

def laws_szIntS (a : List Int) (left : Int) (Q : Int → Prop) : Prop :=
  br (decide ((wr (left - (ln a))) < 0)) (Q ((-1))) <|
  Q (wr (left - (ln a)))

def laws_szGeo (a : Geo) (left : Int) (Q : Int → Prop) : Prop :=
  laws_szIntS a.Parents left fun r3 =>
  br (decide (r3 < 0)) (Q ((-1))) <|
  Q r3

def laws_szVariable (a : Variable) (left : Int) (Q : Int → Prop) : Prop :=
  br (decide ((wr (left - (sln a.Name))) < 0)) (Q ((-1))) <|
  Q (wr (left - (sln a.Name)))

def laws_szVariableS (a : List Variable) (left : Int) (Q : Int → Prop) : Prop :=
  br (decide ((wr (left - (ln a))) < 0)) (Q ((-1))) <|
  Loop2 (fun (left2 : Int) (i : Int) nx =>
  br (decide (i < (ln a))) (idx a i fun x =>
  laws_szVariable x left2 fun r11 =>
  br (decide (r11 < 0)) (Q ((-1))) <|
  nx r11 (wr (i + 1))) <|
  Q left2) (wr (left - (ln a))) 0

def laws_szTable (a : Table) (left : Int) (Q : Int → Prop) : Prop :=
  laws_szIntS a.Vars left fun r9 =>
  br (decide (r9 < 0)) (Q ((-1))) <|
  laws_szIntS a.Where r9 fun r15 =>
  br (decide (r15 < 0)) (Q ((-1))) <|
  Q r15

def laws_szPublished (a : Published) (left : Int) (Q : Int → Prop) : Prop :=
  laws_szTable ((Table.mk a.Table.Level a.Table.Vars a.Table.Where a.Table.Sum)) left fun r15 =>
  br (decide (r15 < 0)) (Q ((-1))) <|
  laws_szIntS a.Cells r15 fun r22 =>
  br (decide (r22 < 0)) (Q ((-1))) <|
  Q r22

def laws_szPublishedS (a : List Published) (left : Int) (Q : Int → Prop) : Prop :=
  br (decide ((wr (left - (ln a))) < 0)) (Q ((-1))) <|
  Loop2 (fun (left2 : Int) (i : Int) nx =>
  br (decide (i < (ln a))) (idx a i fun x =>
  laws_szPublished x left2 fun r35 =>
  br (decide (r35 < 0)) (Q ((-1))) <|
  nx r35 (wr (i + 1))) <|
  Q left2) (wr (left - (ln a))) 0

def laws_toIntS (a : List Int) (Q : (List Int) → Prop) : Prop :=
  (0 : Int) ≤ (ln a) ∧ 8 * (ln a) ≤ 140737488355328 ∧ (
  Loop2 (fun (out : List Int) (i : Int) nx =>
  br (decide (i < (ln a))) (idx a i fun x18 =>
  (0 : Int) ≤ i ∧ Int.toNat i < List.length out ∧ (
  nx (List.set out (Int.toNat i) x18) (wr (i + 1)))) <|
  Q out) (List.replicate (Int.toNat (ln a)) ((0 : Int))) 0)

def laws_toGeo (a : Geo) (Q : Geo → Prop) : Prop :=
  laws_toIntS a.Parents fun r14 =>
  Q ((Geo.mk r14))

def laws_toVariable (a : Variable) (Q : Variable → Prop) : Prop :=
  Q ((Variable.mk a.Name a.Levels))

def laws_toVariableS (a : List Variable) (Q : (List Variable) → Prop) : Prop :=
  (0 : Int) ≤ (ln a) ∧ 24 * (ln a) ≤ 140737488355328 ∧ (
  Loop2 (fun (out : List Variable) (i : Int) nx =>
  br (decide (i < (ln a))) (idx a i fun x18 =>
  laws_toVariable x18 fun r25 =>
  (0 : Int) ≤ i ∧ Int.toNat i < List.length out ∧ (
  nx (List.set out (Int.toNat i) r25) (wr (i + 1)))) <|
  Q out) (List.replicate (Int.toNat (ln a)) ((Variable.mk ((ByteArray.mk #[])) ((0 : Int))))) 0)

def laws_toTable (a : Table) (Q : Table → Prop) : Prop :=
  laws_toIntS a.Vars fun r24 =>
  laws_toIntS a.Where fun r40 =>
  Q ((Table.mk a.Level r24 r40 a.Sum))

def laws_toPublished (a : Published) (Q : Published → Prop) : Prop :=
  laws_toTable ((Table.mk a.Table.Level a.Table.Vars a.Table.Where a.Table.Sum)) fun r26 =>
  laws_toIntS a.Cells fun r49 =>
  Q ((Published.mk ((Table.mk r26.Level r26.Vars r26.Where r26.Sum)) r49))

def laws_toPublishedS (a : List Published) (Q : (List Published) → Prop) : Prop :=
  (0 : Int) ≤ (ln a) ∧ 88 * (ln a) ≤ 140737488355328 ∧ (
  Loop2 (fun (out : List Published) (i : Int) nx =>
  br (decide (i < (ln a))) (idx a i fun x18 =>
  laws_toPublished x18 fun r49 =>
  (0 : Int) ≤ i ∧ Int.toNat i < List.length out ∧ (
  nx (List.set out (Int.toNat i) (((Published.mk ((Table.mk r49.Table.Level r49.Table.Vars r49.Table.Where r49.Table.Sum)) r49.Cells) : Published))) (wr (i + 1)))) <|
  Q out) (List.replicate (Int.toNat (ln a)) ((Published.mk ((Table.mk ((0 : Int)) (([] : List Int)) (([] : List Int)) ((0 : Int)))) (([] : List Int))))) 0)

def spec_l1In (n : Int) (lo : Int) (hi : Int) (Q : Bool → Prop) : Prop :=
  jn (fun (k : Bool → Prop) => br (decide (n ≥ lo)) (k (decide (n ≤ hi))) <|
  k false) <|
  fun (x : Bool) =>
  Q x

def spec_gGood (g : Geo) (Q : Bool → Prop) : Prop :=
  jn (fun (k : Bool → Prop) => spec_l1In (ln g.Parents) 1 30 fun r7 =>
  br (!r7) (k true) <|
  idx g.Parents 0 fun x14 =>
  k (x14 != ((-1)))) <|
  fun (x2 : Bool) =>
  br (x2) (Q false) <|
  Loop1 (fun (x23 : Int) nx =>
  br (decide (x23 < (ln g.Parents))) (idx g.Parents x23 fun x28 =>
  jn (fun (k41 : Bool → Prop) => br (decide (x23 > 0)) (spec_l1In x28 0 (wr (x23 - 1)) fun r44 =>
  k41 (!r44)) <|
  k41 false) <|
  fun (x37 : Bool) =>
  br (x37) (Q false) <|
  nx (wr (x23 + 1))) <|
  Q true) 0

def spec_sName (sx : ByteArray) (Q : Bool → Prop) : Prop :=
  Loop1 (fun (i : Int) nx =>
  br (decide (i < (sln sx))) (jn (fun (k : Bool → Prop) => sidx sx i fun c =>
  br (decide ((c) < 97)) (k true) <|
  sidx sx i fun c3 =>
  k (decide ((c3) > 122))) <|
  fun (x : Bool) =>
  br (x) (Q false) <|
  nx (wr (i + 1))) <|
  spec_l1In (sln sx) 1 8 fun r =>
  Q r) 0

def spec_sFind (sx : List Variable) (name : ByteArray) (Q : Int → Prop) : Prop :=
  Loop1 (fun (x : Int) nx =>
  br (decide (x < (ln sx))) (idx sx x fun x3 =>
  br (streq x3.Name name) (Q x) <|
  nx (wr (x + 1))) <|
  Q ((-1))) 0

def spec_sGood (sx : List Variable) (Q : Bool → Prop) : Prop :=
  spec_l1In (ln sx) 1 6 fun r1 =>
  br (!r1) (Q false) <|
  Loop1 (fun (x3 : Int) nx =>
  br (decide (x3 < (ln sx))) (idx sx x3 fun x10 =>
  jn (fun (k : Bool → Prop) => det1 (spec_sName x10.Name) fun r25 =>
  br (!r25) (k true) <|
  det1 (spec_l1In x10.Levels 2 8) fun r34 =>
  br (!r34) (k true) <|
  (0 : Int) ≤ 0 ∧ 0 ≤ x3 ∧ x3 ≤ ln sx ∧ (
  det1 (spec_sFind (List.take (Int.toNat x3 - Int.toNat 0) (List.drop (Int.toNat 0) sx)) x10.Name) fun r48 =>
  k (decide (r48 ≥ 0)))) <|
  fun (x21 : Bool) =>
  br (x21) (Q false) <|
  nx (wr (x3 + 1))) <|
  Q true) 0

def spec_gChildren (g : Geo) (i : Int) (Q : (List Int) → Prop) : Prop :=
  Loop2 (fun (out : List Int) (x6 : Int) nx =>
  br (decide (x6 < (ln g.Parents))) (jn (fun (k : (List Int) → Prop) => idx g.Parents x6 fun x26 =>
  br (x26 == i) ((ln out + ln ([x6])) * 8 ≤ 140737488355328 ∧ (
  k (out ++ ([x6])))) <|
  k out) <|
  fun (out14 : List Int) =>
  nx out14 (wr (x6 + 1))) <|
  Q out) ([]) 0

def spec_gLeaves (g : Geo) (Q : (List Int) → Prop) : Prop :=
  Loop2 (fun (out : List Int) (x6 : Int) nx =>
  br (decide (x6 < (ln g.Parents))) (jn (fun (k : (List Int) → Prop) => spec_gChildren ((Geo.mk g.Parents)) x6 fun r30 =>
  br ((ln r30) == 0) ((ln out + ln ([x6])) * 8 ≤ 140737488355328 ∧ (
  k (out ++ ([x6])))) <|
  k out) <|
  fun (out16 : List Int) =>
  nx out16 (wr (x6 + 1))) <|
  Q out) ([]) 0

def spec_sCount (sx : List Variable) (Q : Int → Prop) : Prop :=
  Loop2 (fun (n : Int) (x : Int) nx =>
  br (decide (x < (ln sx))) (idx sx x fun x3 =>
  nx (wr (n * x3.Levels)) (wr (x + 1))) <|
  Q n) 1 0

def spec_aTypes (g : Geo) (sx : List Variable) (Q : Int → Prop) : Prop :=
  spec_gLeaves ((Geo.mk g.Parents)) fun r8 =>
  spec_sCount sx fun r18 =>
  Q (wr ((ln r8) * r18))

def spec_aGood (g : Geo) (sx : List Variable) (Q : Bool → Prop) : Prop :=
  jn (fun (k : Bool → Prop) => spec_gGood ((Geo.mk g.Parents)) fun r11 =>
  br (r11) (spec_sGood sx fun r15 =>
  br (r15) (spec_aTypes ((Geo.mk g.Parents)) sx fun r21 =>
  k (decide (r21 ≤ 12))) <|
  k false) <|
  k false) <|
  fun (x8 : Bool) =>
  Q x8

def spec_gDepth (g : Geo) (i : Int) (Q : Int → Prop) : Prop :=
  Loop2 (fun (i2 : Int) (n : Int) nx =>
  idx g.Parents i2 fun x4 =>
  br (decide (x4 ≥ 0)) (idx g.Parents i2 fun x11 =>
  nx x11 (wr (n + 1))) <|
  Q n) i 0

def spec_gLevel (g : Geo) (level : Int) (Q : (List Int) → Prop) : Prop :=
  Loop2 (fun (out : List Int) (x6 : Int) nx =>
  br (decide (x6 < (ln g.Parents))) (jn (fun (k : (List Int) → Prop) => spec_gDepth ((Geo.mk g.Parents)) x6 fun r30 =>
  br (r30 == level) ((ln out + ln ([x6])) * 8 ≤ 140737488355328 ∧ (
  k (out ++ ([x6])))) <|
  k out) <|
  fun (out16 : List Int) =>
  nx out16 (wr (x6 + 1))) <|
  Q out) ([]) 0

def spec_l1Rising (l : List Int) (lo : Int) (hi : Int) (Q : Bool → Prop) : Prop :=
  Loop1 (fun (x : Int) nx =>
  br (decide (x < (ln l))) (idx l x fun x3 =>
  jn (fun (k : Bool → Prop) => spec_l1In x3 lo hi fun r14 =>
  br (!r14) (k true) <|
  br (decide (x > 0)) (idx l (wr (x - 1)) fun x21 =>
  k (decide (x21 ≥ x3))) <|
  k false) <|
  fun (x10 : Bool) =>
  br (x10) (Q false) <|
  nx (wr (x + 1))) <|
  Q true) 0

def spec_uWhere (sx : List Variable) (wherex : List Int) (Q : Bool → Prop) : Prop :=
  br ((ln wherex) != (ln sx)) (Q false) <|
  Loop1 (fun (x : Int) nx =>
  br (decide (x < (ln sx))) (idx sx x fun x11 =>
  idx wherex x fun x22 =>
  (0 : Int) ≤ (IntKind.u64.wrap (x11.Levels)) ∧ (
  det1 (spec_l1In x22 0 (wr ((shl .i64 1 (IntKind.u64.wrap (x11.Levels))) - 1))) fun r32 =>
  br (!r32) (Q false) <|
  nx (wr (x + 1)))) <|
  Q true) 0

def spec_sPart (sx : List Variable) (vars : List Int) (Q : (List Variable) → Prop) : Prop :=
  Loop2 (fun (out : List Variable) (x : Int) nx =>
  br (decide (x < (ln vars))) (idx vars x fun x16 =>
  idx sx x16 fun x23 =>
  (ln out + ln ([x23])) * 24 ≤ 140737488355328 ∧ (
  nx (out ++ ([x23])) (wr (x + 1)))) <|
  Q out) ([]) 0

def spec_uCount (g : Geo) (sx : List Variable) (t : Table) (Q : Int → Prop) : Prop :=
  spec_gLevel ((Geo.mk g.Parents)) t.Level fun r31 =>
  spec_sPart sx t.Vars fun r44 =>
  det1 (spec_sCount r44) fun r56 =>
  Q (wr ((ln r31) * r56))

def spec_uGood (g : Geo) (sx : List Variable) (t : Table) (Q : Bool → Prop) : Prop :=
  jn (fun (k : Bool → Prop) => spec_gGood ((Geo.mk g.Parents)) fun r35 =>
  br (!r35) (k true) <|
  spec_sGood sx fun r46 =>
  br (!r46) (k true) <|
  spec_gLevel ((Geo.mk g.Parents)) t.Level fun r60 =>
  br ((ln r60) == 0) (k true) <|
  spec_l1Rising t.Vars 0 (wr ((ln sx) - 1)) fun r79 =>
  br (!r79) (k true) <|
  spec_uWhere sx t.Where fun r92 =>
  br (!r92) (k true) <|
  spec_l1In t.Sum ((-1)) (wr ((ln sx) - 1)) fun r106 =>
  k (!r106)) <|
  fun (x25 : Bool) =>
  br (x25) (Q false) <|
  spec_uCount ((Geo.mk g.Parents)) sx ((Table.mk t.Level t.Vars t.Where t.Sum)) fun r117 =>
  Q (decide (r117 ≤ 600))

def spec_l1All (l : List Int) (lo : Int) (hi : Int) (Q : Bool → Prop) : Prop :=
  Loop1 (fun (x : Int) nx =>
  br (decide (x < (ln l))) (idx l x fun x3 =>
  spec_l1In x3 lo hi fun r10 =>
  br (!r10) (Q false) <|
  nx (wr (x + 1))) <|
  Q true) 0

def spec_aPublished (g : Geo) (sx : List Variable) (pubs : List Published) (Q : Bool → Prop) : Prop :=
  Loop1 (fun (x14 : Int) nx =>
  br (decide (x14 < (ln pubs))) (idx pubs x14 fun x25 =>
  jn (fun (k : Bool → Prop) => det1 (spec_uGood ((Geo.mk g.Parents)) sx ((Table.mk x25.Table.Level x25.Table.Vars x25.Table.Where x25.Table.Sum))) fun r70 =>
  br (!r70) (k true) <|
  det1 (spec_uCount ((Geo.mk g.Parents)) sx ((Table.mk x25.Table.Level x25.Table.Vars x25.Table.Where x25.Table.Sum))) fun r85 =>
  br ((ln x25.Cells) != r85) (k true) <|
  det1 (spec_l1All x25.Cells ((-1)) 1000000) fun r98 =>
  k (!r98)) <|
  fun (x62 : Bool) =>
  br (x62) (Q false) <|
  nx (wr (x14 + 1))) <|
  Q (decide ((ln pubs) ≤ 20))) 0

def spec_aAsked (g : Geo) (sx : List Variable) (pubs : List Published) (n : Int) (Q : Bool → Prop) : Prop :=
  jn (fun (k : Bool → Prop) => spec_aGood ((Geo.mk g.Parents)) sx fun r17 =>
  br (r17) (spec_aPublished ((Geo.mk g.Parents)) sx pubs fun r23 =>
  br (r23) (spec_l1In n 0 8 fun r30 =>
  k r30) <|
  k false) <|
  k false) <|
  fun (x14 : Bool) =>
  Q x14

def spec_sAt (sx : List Variable) (i : Int) (Q : (List Int) → Prop) : Prop :=
  (0 : Int) ≤ (ln sx) ∧ 8 * (ln sx) ≤ 140737488355328 ∧ (
  Loop3 (fun (i6 : Int) (out : List Int) (k : Int) nx =>
  br (decide (k ≥ 0)) (idx sx k fun x18 =>
  x18.Levels ≠ 0 ∧ (
  (0 : Int) ≤ k ∧ Int.toNat k < List.length out ∧ (
  idx sx k fun x29 =>
  x29.Levels ≠ 0 ∧ (
  nx (wr (Int.tdiv i6 x29.Levels)) (List.set out (Int.toNat k) (Int.tmod i6 x18.Levels)) (wr (k - 1)))))) <|
  Q out) i (List.replicate (Int.toNat (ln sx)) ((0 : Int))) (wr ((ln sx) - 1)))

def spec_aRecord (g : Geo) (sx : List Variable) (i : Int) (Q : Record → Prop) : Prop :=
  spec_sCount sx fun r13 =>
  r13 ≠ 0 ∧ (
  r13 ≠ 0 ∧ (
  spec_gLeaves ((Geo.mk g.Parents)) fun r23 =>
  idx r23 (wr (Int.tdiv i r13)) fun x33 =>
  spec_sAt sx (Int.tmod i r13) fun r43 =>
  Q ((Record.mk x33 0 r43))))

def spec_gUp (g : Geo) (i : Int) (level : Int) (Q : Int → Prop) : Prop :=
  spec_gDepth ((Geo.mk g.Parents)) i fun r2 =>
  br (decide (level < 0)) (Q ((-1))) <|
  Loop2 (fun (i7 : Int) (d : Int) nx =>
  br (decide (d > level)) (idx g.Parents i7 fun x11 =>
  nx x11 (wr (d - 1))) <|
  br (decide (d < level)) (Q ((-1))) <|
  Q i7) i r2

def spec_uMeets (t : Table) (values : List Int) (Q : Bool → Prop) : Prop :=
  Loop1 (fun (x14 : Int) nx =>
  br (decide (x14 < (ln t.Where))) (idx t.Where x14 fun x16 =>
  jn (fun (k : Bool → Prop) => br (x16 != 0) (idx values x14 fun x26 =>
  (0 : Int) ≤ (IntKind.u64.wrap (x26)) ∧ (
  k ((bits .and .i64 (shr .i64 x16 (IntKind.u64.wrap (x26))) 1) == 0))) <|
  k false) <|
  fun (x23 : Bool) =>
  br (x23) (Q false) <|
  nx (wr (x14 + 1))) <|
  Q true) 0

def spec_l1Find (l : List Int) (n : Int) (Q : Int → Prop) : Prop :=
  Loop1 (fun (x : Int) nx =>
  br (decide (x < (ln l))) (idx l x fun x1 =>
  br (x1 == n) (Q x) <|
  nx (wr (x + 1))) <|
  Q ((-1))) 0

def spec_sPick (values : List Int) (vars : List Int) (Q : (List Int) → Prop) : Prop :=
  Loop2 (fun (out : List Int) (x : Int) nx =>
  br (decide (x < (ln vars))) (idx vars x fun x16 =>
  idx values x16 fun x23 =>
  (ln out + ln ([x23])) * 8 ≤ 140737488355328 ∧ (
  nx (out ++ ([x23])) (wr (x + 1)))) <|
  Q out) ([]) 0

def spec_sIndex (sx : List Variable) (values : List Int) (Q : Int → Prop) : Prop :=
  Loop2 (fun (n : Int) (x : Int) nx =>
  br (decide (x < (ln sx))) (idx sx x fun x10 =>
  idx values x fun x21 =>
  nx (wr ((wr (n * x10.Levels)) + x21)) (wr (x + 1))) <|
  Q n) 0 0

def spec_uCell (g : Geo) (sx : List Variable) (t : Table) (r19 : Record) (Q : Int → Int → Prop) : Prop :=
  spec_gUp ((Geo.mk g.Parents)) r19.Area t.Level fun r39 =>
  jn (fun (k : Bool → Prop) => br (decide (r39 < 0)) (k true) <|
  spec_uMeets ((Table.mk t.Level t.Vars t.Where t.Sum)) r19.Values fun r65 =>
  k (!r65)) <|
  fun (x43 : Bool) =>
  br (x43) (Q ((-1)) 0) <|
  spec_sPart sx t.Vars fun r81 =>
  spec_gLevel ((Geo.mk g.Parents)) t.Level fun r97 =>
  det1 (spec_l1Find r97 r39) fun r110 =>
  det1 (spec_sCount r81) fun r111 =>
  spec_sPick r19.Values t.Vars fun r116 =>
  det1 (spec_sIndex r81 r116) fun r128 =>
  br (decide (t.Sum < 0)) (Q (wr ((wr (r110 * r111)) + r128)) 1) <|
  idx r19.Values t.Sum fun x137 =>
  Q (wr ((wr (r110 * r111)) + r128)) x137

def spec_aRules (g : Geo) (sx : List Variable) (pubs : List Published) (Q : (List ARule) → Prop) : Prop :=
  Loop2 (fun (out : List ARule) (x18 : Int) nx =>
  br (decide (x18 < (ln pubs))) (idx pubs x18 fun x34 =>
  Loop2 (fun (out72 : List ARule) (x78 : Int) nx103 =>
  br (decide (x78 < (ln x34.Cells))) (jn (fun (k : (List ARule) → Prop) => idx x34.Cells x78 fun x125 =>
  br (decide (x125 < 0)) (k out72) <|
  spec_aTypes ((Geo.mk g.Parents)) sx fun r135 =>
  (0 : Int) ≤ r135 ∧ 8 * r135 ≤ 140737488355328 ∧ (
  Loop2 (fun (x155 : Int) (amounts : List Int) nx204 =>
  br (decide (x155 < (ln (List.replicate (Int.toNat r135) ((0 : Int)))))) (jn (fun (k228 : (List Int) → Prop) => spec_aRecord ((Geo.mk g.Parents)) sx x155 fun r236 =>
  det2 (spec_uCell ((Geo.mk g.Parents)) sx ((Table.mk x34.Table.Level x34.Table.Vars x34.Table.Where x34.Table.Sum)) ((Record.mk r236.Area r236.House r236.Values))) fun r250 r251 =>
  br (r250 == x78) ((0 : Int) ≤ x155 ∧ Int.toNat x155 < List.length amounts ∧ (
  k228 (List.set amounts (Int.toNat x155) r251))) <|
  k228 amounts) <|
  fun (amounts206 : List Int) =>
  nx204 (wr (x155 + 1)) amounts206) <|
  (ln out72 + ln ([((ARule.mk amounts x125) : ARule)])) * 32 ≤ 140737488355328 ∧ (
  k (out72 ++ ([((ARule.mk amounts x125) : ARule)])))) 0 (List.replicate (Int.toNat r135) ((0 : Int))))) <|
  fun (out105 : List ARule) =>
  nx103 out105 (wr (x78 + 1))) <|
  nx out72 (wr (x18 + 1))) out 0) <|
  Q out) ([]) 0

def spec_aSum (amounts : List Int) (counts : List Int) (Q : Int → Prop) : Prop :=
  Loop2 (fun (n : Int) (x : Int) nx =>
  br (decide (x < (ln counts))) (idx counts x fun x7 =>
  idx amounts x fun x13 =>
  nx (wr (n + (wr (x13 * x7)))) (wr (x + 1))) <|
  Q n) 0 0

def spec_l1Own (l : List Int) (Q : (List Int) → Prop) : Prop :=
  (ln (([] : List Int)) + ln l) * 8 ≤ 140737488355328 ∧ (
  Q ((([] : List Int)) ++ l))

def spec_aSearch_run (x : ASearch) (counts : List Int) (left : Int) (Q : (List (List Int)) → Int → Int → Prop) : Prop :=
  Rec3 (fun (self : ASearch → (List Int) → Int → ((List (List Int)) → Int → Int → Prop) → Prop) (x : ASearch) (counts : List Int) (left : Int) (Q : (List (List Int)) → Int → Int → Prop) =>
  br (decide ((ln x.Out) > x.Most)) (Q x.Out x.Types x.Most) <|
  Loop1 (fun (x24 : Int) nx =>
  br (decide (x24 < (ln x.Rules))) (idx x.Rules x24 fun x37 =>
  spec_aSum x37.Amounts counts fun r58 =>
  jn (fun (k : Bool → Prop) => br (decide (r58 > x37.Sum)) (k true) <|
  br ((ln counts) == x.Types) (k (decide (r58 < x37.Sum))) <|
  k false) <|
  fun (x63 : Bool) =>
  br (x63) (Q x.Out x.Types x.Most) <|
  nx (wr (x24 + 1))) <|
  br ((ln counts) == x.Types) (jn (fun (k92 : (List (List Int)) → Prop) => br (left == 0) (spec_l1Own counts fun r100 =>
  (ln x.Out + ln ([r100])) * 24 ≤ 140737488355328 ∧ (
  k92 (x.Out ++ ([r100])))) <|
  k92 x.Out) <|
  fun (out : List (List Int)) =>
  Q out x.Types x.Most) <|
  jn (fun (k160 : Int → Prop) => br ((ln counts) == (wr (x.Types - 1))) (k160 left) <|
  k160 0) <|
  fun (least : Int) =>
  Loop4 (fun (k163 : Int) (types : Int) (most : Int) (out164 : List (List Int)) nx183 =>
  br (decide (k163 ≤ left)) (spec_l1Own counts fun r185 =>
  (ln r185 + ln ([k163])) * 8 ≤ 140737488355328 ∧ (
  self ((ASearch.mk x.Rules types most out164)) (r185 ++ ([k163])) (wr (left - k163)) fun r217 r218 r219 =>
  nx183 (wr (k163 + 1)) r218 r219 r217)) <|
  Q out164 types most) least x.Types x.Most x.Out) 0) x counts left Q

def spec_aSolve (g : Geo) (sx : List Variable) (pubs : List Published) (n : Int) (most : Int) (Q : (List (List Int)) → Prop) : Prop :=
  spec_aRules ((Geo.mk g.Parents)) sx pubs fun r19 =>
  det1 (spec_aTypes ((Geo.mk g.Parents)) sx) fun r32 =>
  spec_aSearch_run ((ASearch.mk r19 r32 most ([]))) ([]) n fun r43 r44 r45 =>
  Q r43

def spec_aAll (g : Geo) (sx : List Variable) (pubs : List Published) (n : Int) (Q : (List (List Int)) → Bool → Prop) : Prop :=
  spec_aAsked ((Geo.mk g.Parents)) sx pubs n fun r14 =>
  br (!r14) (Q ([]) false) <|
  spec_aSolve ((Geo.mk g.Parents)) sx pubs n 20000 fun r22 =>
  spec_l1In (ln r22) 1 20000 fun r34 =>
  Q r22 r34

def spec_l1Least (a : Int) (b : Int) (Q : Int → Prop) : Prop :=
  br (decide (a < b)) (Q a) <|
  Q b

def spec_l1Most (a : Int) (b : Int) (Q : Int → Prop) : Prop :=
  br (decide (a > b)) (Q a) <|
  Q b

def spec_AnswerRange (g : Geo) (sx : List Variable) (pubs : List Published) (n : Int) (t : Table) (i : Int) (Q : Int → Int → Bool → Prop) : Prop :=
  spec_aAll ((Geo.mk g.Parents)) sx pubs n fun r32 r33 =>
  jn (fun (k : Bool → Prop) => br (!r33) (k true) <|
  spec_uGood ((Geo.mk g.Parents)) sx ((Table.mk t.Level t.Vars t.Where t.Sum)) fun r64 =>
  br (!r64) (k true) <|
  spec_uCount ((Geo.mk g.Parents)) sx ((Table.mk t.Level t.Vars t.Where t.Sum)) fun r82 =>
  spec_l1In i 0 (wr (r82 - 1)) fun r89 =>
  k (!r89)) <|
  fun (x45 : Bool) =>
  br (x45) (Q 0 0 false) <|
  spec_aTypes ((Geo.mk g.Parents)) sx fun r101 =>
  (0 : Int) ≤ r101 ∧ 8 * r101 ≤ 140737488355328 ∧ (
  Loop2 (fun (amounts : List Int) (x118 : Int) nx =>
  br (decide (x118 < (ln (List.replicate (Int.toNat r101) ((0 : Int)))))) (jn (fun (k174 : (List Int) → Prop) => spec_aRecord ((Geo.mk g.Parents)) sx x118 fun r182 =>
  det2 (spec_uCell ((Geo.mk g.Parents)) sx ((Table.mk t.Level t.Vars t.Where t.Sum)) ((Record.mk r182.Area r182.House r182.Values))) fun r196 r197 =>
  br (r196 == i) ((0 : Int) ≤ x118 ∧ Int.toNat x118 < List.length amounts ∧ (
  k174 (List.set amounts (Int.toNat x118) r197))) <|
  k174 amounts) <|
  fun (amounts152 : List Int) =>
  nx amounts152 (wr (x118 + 1))) <|
  idx r32 0 fun x238 =>
  spec_aSum amounts x238 fun r249 =>
  Loop3 (fun (lo : Int) (hi252 : Int) (x253 : Int) nx264 =>
  br (decide (x253 < (ln r32))) (idx r32 x253 fun x266 =>
  spec_aSum amounts x266 fun r278 =>
  spec_l1Least lo r278 fun r281 =>
  spec_aSum amounts x266 fun r284 =>
  spec_l1Most hi252 r284 fun r289 =>
  nx264 r281 r289 (wr (x253 + 1))) <|
  Q lo hi252 true) r249 r249 0) (List.replicate (Int.toNat r101) ((0 : Int))) 0)

def impl_IsGeo (g : Geo) (Q : Bool → Prop) : Prop :=
  jn (fun (k : Bool → Prop) => br (decide ((ln g.Parents) < 1)) (k true) <|
  br (decide ((ln g.Parents) > 30)) (k true) <|
  idx g.Parents 0 fun x5 =>
  k (x5 != ((-1)))) <|
  fun (x2 : Bool) =>
  br (x2) (Q false) <|
  Loop1 (fun (i : Int) nx =>
  br (decide (i < (ln g.Parents))) (jn (fun (k18 : Bool → Prop) => idx g.Parents i fun x20 =>
  br (decide (x20 < 0)) (k18 true) <|
  idx g.Parents i fun x31 =>
  k18 (decide (x31 ≥ i))) <|
  fun (x16 : Bool) =>
  br (x16) (Q false) <|
  nx (wr (i + 1))) <|
  Q true) 1

def impl_isWord (sx : ByteArray) (Q : Bool → Prop) : Prop :=
  jn (fun (k : Bool → Prop) => br (decide ((sln sx) < 1)) (k true) <|
  k (decide ((sln sx) > 8))) <|
  fun (x : Bool) =>
  br (x) (Q false) <|
  Loop1 (fun (x2 : Int) nx =>
  br (decide (x2 < (sln sx))) (jn (fun (k7 : Bool → Prop) => sidx sx x2 fun c =>
  br (decide ((c) < 97)) (k7 true) <|
  sidx sx x2 fun c10 =>
  k7 (decide ((c10) > 122))) <|
  fun (x5 : Bool) =>
  br (x5) (Q false) <|
  nx (wr (x2 + 1))) <|
  Q true) 0

def impl_IsSchema (sx : List Variable) (Q : Bool → Prop) : Prop :=
  jn (fun (k : Bool → Prop) => br (decide ((ln sx) < 1)) (k true) <|
  k (decide ((ln sx) > 6))) <|
  fun (x : Bool) =>
  br (x) (Q false) <|
  Loop1 (fun (x2 : Int) nx =>
  br (decide (x2 < (ln sx))) (idx sx x2 fun x7 =>
  jn (fun (k23 : Bool → Prop) => impl_isWord x7.Name fun r25 =>
  br (!r25) (k23 true) <|
  br (decide (x7.Levels < 2)) (k23 true) <|
  k23 (decide (x7.Levels > 8))) <|
  fun (x18 : Bool) =>
  br (x18) (Q false) <|
  (0 : Int) ≤ 0 ∧ 0 ≤ x2 ∧ x2 ≤ ln sx ∧ (
  Loop1 (fun (x46 : Int) nx54 =>
  br (decide (x46 < (ln (List.take (Int.toNat x2 - Int.toNat 0) (List.drop (Int.toNat 0) sx))))) (idx (List.take (Int.toNat x2 - Int.toNat 0) (List.drop (Int.toNat 0) sx)) x46 fun x56 =>
  br (streq x56.Name x7.Name) (Q false) <|
  nx54 (wr (x46 + 1))) <|
  nx (wr (x2 + 1))) 0)) <|
  Q true) 0

def slices_Index_int_int (sx : List Int) (vx1 : Int) (Q : Int → Prop) : Prop :=
  Loop1 (fun (x : Int) nx =>
  br (decide (x < (ln sx))) (idx sx x fun x2 =>
  br (vx1 == x2) (Q x) <|
  nx (wr (x + 1))) <|
  Q ((-1))) 0

def slices_Contains_int_int (sx : List Int) (vx1 : Int) (Q : Bool → Prop) : Prop :=
  slices_Index_int_int sx vx1 fun r2 =>
  Q (decide (r2 ≥ 0))

def impl_isLeaf (g : Geo) (i : Int) (Q : Bool → Prop) : Prop :=
  slices_Contains_int_int g.Parents i fun r2 =>
  Q (!r2)

def impl_leavesOf (g : Geo) (Q : (List Int) → Prop) : Prop :=
  Loop2 (fun (list : List Int) (x6 : Int) nx =>
  br (decide (x6 < (ln g.Parents))) (jn (fun (k : (List Int) → Prop) => impl_isLeaf ((Geo.mk g.Parents)) x6 fun r30 =>
  br (r30) ((ln list + ln ([x6])) * 8 ≤ 140737488355328 ∧ (
  k (list ++ ([x6])))) <|
  k list) <|
  fun (list16 : List Int) =>
  nx list16 (wr (x6 + 1))) <|
  Q list) ([]) 0

def impl_combinations (sx : List Variable) (Q : Int → Prop) : Prop :=
  Loop2 (fun (n : Int) (x : Int) nx =>
  br (decide (x < (ln sx))) (idx sx x fun x3 =>
  nx (wr (n * x3.Levels)) (wr (x + 1))) <|
  Q n) 1 0

def impl_typeCount (g : Geo) (sx : List Variable) (Q : Int → Prop) : Prop :=
  impl_leavesOf ((Geo.mk g.Parents)) fun r8 =>
  impl_combinations sx fun r18 =>
  Q (wr ((ln r8) * r18))

def impl_areTyped (g : Geo) (sx : List Variable) (Q : Bool → Prop) : Prop :=
  jn (fun (k : Bool → Prop) => impl_IsGeo ((Geo.mk g.Parents)) fun r11 =>
  br (r11) (impl_IsSchema sx fun r15 =>
  br (r15) (impl_typeCount ((Geo.mk g.Parents)) sx fun r21 =>
  k (decide (r21 ≤ 12))) <|
  k false) <|
  k false) <|
  fun (x8 : Bool) =>
  Q x8

def impl_areVars (sx : List Variable) (vars : List Int) (Q : Bool → Prop) : Prop :=
  Loop2 (fun (last : Int) (x : Int) nx =>
  br (decide (x < (ln vars))) (idx vars x fun x7 =>
  jn (fun (k : Bool → Prop) => br (decide (x7 ≤ last)) (k true) <|
  k (decide (x7 ≥ (ln sx)))) <|
  fun (x13 : Bool) =>
  br (x13) (Q false) <|
  nx x7 (wr (x + 1))) <|
  Q true) ((-1)) 0

def impl_fullSet (vx : Variable) (Q : Int → Prop) : Prop :=
  (0 : Int) ≤ vx.Levels ∧ (
  Q (wr ((shl .i64 1 vx.Levels) - 1)))

def impl_isWhere (sx : List Variable) (wherex : List Int) (Q : Bool → Prop) : Prop :=
  br ((ln wherex) != (ln sx)) (Q false) <|
  Loop1 (fun (x : Int) nx =>
  br (decide (x < (ln wherex))) (idx wherex x fun x11 =>
  jn (fun (k : Bool → Prop) => br (decide (x11 < 0)) (k true) <|
  idx sx x fun x23 =>
  impl_fullSet x23 fun r32 =>
  k (decide (x11 > r32))) <|
  fun (x17 : Bool) =>
  br (x17) (Q false) <|
  nx (wr (x + 1))) <|
  Q true) 0

def impl_depthOf (g : Geo) (i : Int) (Q : Int → Prop) : Prop :=
  Loop2 (fun (i2 : Int) (d : Int) nx =>
  br (decide (i2 > 0)) (idx g.Parents i2 fun x4 =>
  nx x4 (wr (d + 1))) <|
  Q d) i 0

def impl_areasAt (g : Geo) (level : Int) (Q : (List Int) → Prop) : Prop :=
  Loop2 (fun (list : List Int) (x6 : Int) nx =>
  br (decide (x6 < (ln g.Parents))) (jn (fun (k : (List Int) → Prop) => impl_depthOf ((Geo.mk g.Parents)) x6 fun r30 =>
  br (r30 == level) ((ln list + ln ([x6])) * 8 ≤ 140737488355328 ∧ (
  k (list ++ ([x6])))) <|
  k list) <|
  fun (list16 : List Int) =>
  nx list16 (wr (x6 + 1))) <|
  Q list) ([]) 0

def impl_crossed (sx : List Variable) (t : Table) (Q : (List Variable) → Prop) : Prop :=
  (0 : Int) ≤ (ln t.Vars) ∧ 24 * (ln t.Vars) ≤ 140737488355328 ∧ (
  Loop2 (fun (out : List Variable) (x28 : Int) nx =>
  br (decide (x28 < (ln t.Vars))) (idx t.Vars x28 fun x41 =>
  idx sx x41 fun x48 =>
  (0 : Int) ≤ x28 ∧ Int.toNat x28 < List.length out ∧ (
  nx (List.set out (Int.toNat x28) x48) (wr (x28 + 1)))) <|
  Q out) (List.replicate (Int.toNat (ln t.Vars)) ((Variable.mk ((ByteArray.mk #[])) ((0 : Int))))) 0)

def impl_cellCount (g : Geo) (sx : List Variable) (t : Table) (Q : Int → Prop) : Prop :=
  impl_areasAt ((Geo.mk g.Parents)) t.Level fun r31 =>
  impl_crossed sx ((Table.mk t.Level t.Vars t.Where t.Sum)) fun r44 =>
  det1 (impl_combinations r44) fun r57 =>
  Q (wr ((ln r31) * r57))

def impl_isTable (g : Geo) (sx : List Variable) (t : Table) (Q : Bool → Prop) : Prop :=
  jn (fun (k : Bool → Prop) => impl_areVars sx t.Vars fun r34 =>
  br (!r34) (k true) <|
  impl_isWhere sx t.Where fun r47 =>
  br (!r47) (k true) <|
  br (decide (t.Sum < ((-1)))) (k true) <|
  k (decide (t.Sum ≥ (ln sx)))) <|
  fun (x25 : Bool) =>
  br (x25) (Q false) <|
  impl_cellCount ((Geo.mk g.Parents)) sx ((Table.mk t.Level t.Vars t.Where t.Sum)) fun r75 =>
  jn (fun (k80 : Bool → Prop) => br (decide (r75 > 0)) (k80 (decide (r75 ≤ 600))) <|
  k80 false) <|
  fun (x78 : Bool) =>
  Q x78

def impl_areWithin (l : List Int) (lo : Int) (hi : Int) (Q : Bool → Prop) : Prop :=
  Loop1 (fun (x : Int) nx =>
  br (decide (x < (ln l))) (idx l x fun x1 =>
  jn (fun (k : Bool → Prop) => br (decide (x1 < lo)) (k true) <|
  k (decide (x1 > hi))) <|
  fun (x8 : Bool) =>
  br (x8) (Q false) <|
  nx (wr (x + 1))) <|
  Q true) 0

def impl_arePublished (g : Geo) (sx : List Variable) (pubs : List Published) (Q : Bool → Prop) : Prop :=
  br (decide ((ln pubs) > 20)) (Q false) <|
  Loop1 (fun (x15 : Int) nx =>
  br (decide (x15 < (ln pubs))) (idx pubs x15 fun x27 =>
  jn (fun (k : Bool → Prop) => det1 (impl_isTable ((Geo.mk g.Parents)) sx ((Table.mk x27.Table.Level x27.Table.Vars x27.Table.Where x27.Table.Sum))) fun r72 =>
  br (!r72) (k true) <|
  det1 (impl_cellCount ((Geo.mk g.Parents)) sx ((Table.mk x27.Table.Level x27.Table.Vars x27.Table.Where x27.Table.Sum))) fun r87 =>
  br ((ln x27.Cells) != r87) (k true) <|
  det1 (impl_areWithin x27.Cells ((-1)) 1000000) fun r100 =>
  k (!r100)) <|
  fun (x64 : Bool) =>
  br (x64) (Q false) <|
  nx (wr (x15 + 1))) <|
  Q true) 0

def impl_areAttacked (g : Geo) (sx : List Variable) (pubs : List Published) (Q : Bool → Prop) : Prop :=
  jn (fun (k : Bool → Prop) => impl_areTyped ((Geo.mk g.Parents)) sx fun r17 =>
  br (r17) (impl_arePublished ((Geo.mk g.Parents)) sx pubs fun r23 =>
  k r23) <|
  k false) <|
  fun (x14 : Bool) =>
  Q x14

def impl_isPersons (n : Int) (Q : Bool → Prop) : Prop :=
  jn (fun (k : Bool → Prop) => br (decide (n ≥ 0)) (k (decide (n ≤ 8))) <|
  k false) <|
  fun (x : Bool) =>
  Q x

def impl_valuesAt (sx : List Variable) (i : Int) (Q : (List Int) → Prop) : Prop :=
  (0 : Int) ≤ (ln sx) ∧ 8 * (ln sx) ≤ 140737488355328 ∧ (
  Loop3 (fun (i6 : Int) (values : List Int) (k : Int) nx =>
  br (decide (k ≥ 0)) (idx sx k fun x18 =>
  x18.Levels ≠ 0 ∧ (
  (0 : Int) ≤ k ∧ Int.toNat k < List.length values ∧ (
  idx sx k fun x29 =>
  x29.Levels ≠ 0 ∧ (
  nx (wr (Int.tdiv i6 x29.Levels)) (List.set values (Int.toNat k) (Int.tmod i6 x18.Levels)) (wr (k - 1)))))) <|
  Q values) i (List.replicate (Int.toNat (ln sx)) ((0 : Int))) (wr ((ln sx) - 1)))

def impl_typeAt (g : Geo) (sx : List Variable) (i : Int) (Q : Record → Prop) : Prop :=
  impl_combinations sx fun r13 =>
  r13 ≠ 0 ∧ (
  r13 ≠ 0 ∧ (
  impl_leavesOf ((Geo.mk g.Parents)) fun r23 =>
  idx r23 (wr (Int.tdiv i r13)) fun x33 =>
  impl_valuesAt sx (Int.tmod i r13) fun r43 =>
  Q ((Record.mk x33 0 r43))))

def impl_ancestorAt (g : Geo) (i : Int) (level : Int) (Q : Int → Prop) : Prop :=
  impl_depthOf ((Geo.mk g.Parents)) i fun r2 =>
  jn (fun (k : Bool → Prop) => br (decide (level < 0)) (k true) <|
  k (decide (r2 < level))) <|
  fun (x6 : Bool) =>
  br (x6) (Q ((-1))) <|
  Loop2 (fun (i10 : Int) (d : Int) nx =>
  br (decide (d > level)) (idx g.Parents i10 fun x14 =>
  nx x14 (wr (d - 1))) <|
  Q i10) i r2

def impl_meetsWhere (t : Table) (r7 : Record) (Q : Bool → Prop) : Prop :=
  Loop1 (fun (x21 : Int) nx =>
  br (decide (x21 < (ln t.Where))) (idx t.Where x21 fun x23 =>
  jn (fun (k : Bool → Prop) => br (x23 != 0) (idx r7.Values x21 fun x33 =>
  (0 : Int) ≤ x33 ∧ (
  k ((bits .and .i64 (shr .i64 x23 x33) 1) == 0))) <|
  k false) <|
  fun (x30 : Bool) =>
  br (x30) (Q false) <|
  nx (wr (x21 + 1))) <|
  Q true) 0

def cmp_isNaN_int (x : Int) (Q : Bool → Prop) : Prop :=
  Q (x != x)

def cmp_Less_int (x : Int) (y : Int) (Q : Bool → Prop) : Prop :=
  jn (fun (k : Bool → Prop) => cmp_isNaN_int x fun r =>
  br (r) (cmp_isNaN_int y fun r5 =>
  br (!r5) (k true) <|
  k (decide (x < y))) <|
  k (decide (x < y))) <|
  fun (x1 : Bool) =>
  Q x1

def slices_isNaN_int (x : Int) (Q : Bool → Prop) : Prop :=
  Q (x != x)

def slices_BinarySearch_int_int (x : List Int) (target : Int) (Q : Int → Bool → Prop) : Prop :=
  Loop2 (fun (i : Int) (j : Int) nx =>
  br (decide (i < j)) (idx x (wr (Int.fdiv (IntKind.u64.wrap (wr (i + j))) (2 ^ 1))) fun x3 =>
  cmp_Less_int x3 target fun r9 =>
  br (r9) (nx (wr ((wr (Int.fdiv (IntKind.u64.wrap (wr (i + j))) (2 ^ 1))) + 1)) j) <|
  nx i (wr (Int.fdiv (IntKind.u64.wrap (wr (i + j))) (2 ^ 1)))) <|
  jn (fun (k : Int → Bool → Prop) => br (decide (i < (ln x))) (idx x i fun x22 =>
  br (x22 == target) (k i true) <|
  idx x i fun x32 =>
  slices_isNaN_int x32 fun r41 =>
  br (r41) (slices_isNaN_int target fun r45 =>
  k i r45) <|
  k i false) <|
  k i false) <|
  fun (x17 : Int) (x18 : Bool) =>
  Q x17 x18) 0 (ln x)

def impl_indexOfValues (sx : List Variable) (values : List Int) (Q : Int → Prop) : Prop :=
  Loop2 (fun (i : Int) (x : Int) nx =>
  br (decide (x < (ln values))) (idx values x fun x7 =>
  idx sx x fun x13 =>
  nx (wr ((wr (i * x13.Levels)) + x7)) (wr (x + 1))) <|
  Q i) 0 0

def impl_cellIndex (g : Geo) (sx : List Variable) (t : Table) (area : Int) (values : List Int) (Q : Int → Prop) : Prop :=
  impl_areasAt ((Geo.mk g.Parents)) t.Level fun r32 =>
  slices_BinarySearch_int_int r32 area fun r42 r43 =>
  br (!r43) (Q ((-1))) <|
  impl_crossed sx ((Table.mk t.Level t.Vars t.Where t.Sum)) fun r48 =>
  impl_combinations r48 fun r61 =>
  impl_indexOfValues r48 values fun r64 =>
  Q (wr ((wr (r42 * r61)) + r64))

def impl_contribution (g : Geo) (sx : List Variable) (t : Table) (r19 : Record) (Q : Int → Int → Prop) : Prop :=
  impl_ancestorAt ((Geo.mk g.Parents)) r19.Area t.Level fun r39 =>
  jn (fun (k : Bool → Prop) => br (decide (r39 < 0)) (k true) <|
  impl_meetsWhere ((Table.mk t.Level t.Vars t.Where t.Sum)) ((Record.mk r19.Area r19.House r19.Values)) fun r65 =>
  k (!r65)) <|
  fun (x43 : Bool) =>
  br (x43) (Q ((-1)) 0) <|
  (0 : Int) ≤ (ln t.Vars) ∧ 8 * (ln t.Vars) ≤ 140737488355328 ∧ (
  Loop2 (fun (values : List Int) (x95 : Int) nx =>
  br (decide (x95 < (ln t.Vars))) (idx t.Vars x95 fun x123 =>
  idx r19.Values x123 fun x130 =>
  (0 : Int) ≤ x95 ∧ Int.toNat x95 < List.length values ∧ (
  nx (List.set values (Int.toNat x95) x130) (wr (x95 + 1)))) <|
  jn (fun (k156 : Int → Prop) => br (decide (t.Sum ≥ 0)) (idx r19.Values t.Sum fun x159 =>
  k156 x159) <|
  k156 1) <|
  fun (amount : Int) =>
  impl_cellIndex ((Geo.mk g.Parents)) sx ((Table.mk t.Level t.Vars t.Where t.Sum)) r39 values fun r168 =>
  Q r168 amount) (List.replicate (Int.toNat (ln t.Vars)) ((0 : Int))) 0)

def impl_conditionsOf (g : Geo) (sx : List Variable) (pubs : List Published) (Q : (List Condition) → Prop) : Prop :=
  impl_typeCount ((Geo.mk g.Parents)) sx fun r14 =>
  Loop2 (fun (out : List Condition) (x23 : Int) nx =>
  br (decide (x23 < (ln pubs))) (idx pubs x23 fun x40 =>
  (0 : Int) ≤ (ln x40.Cells) ∧ 8 * (ln x40.Cells) ≤ 140737488355328 ∧ (
  Loop3 (fun (out88 : List Condition) (atx : List Int) (x99 : Int) nx137 =>
  br (decide (x99 < (ln x40.Cells))) (jn (fun (k : (List Condition) → (List Int) → Prop) => idx x40.Cells x99 fun x171 =>
  (0 : Int) ≤ x99 ∧ Int.toNat x99 < List.length atx ∧ (
  br (decide (x171 ≥ 0)) ((0 : Int) ≤ x99 ∧ Int.toNat x99 < List.length (List.set atx (Int.toNat x99) ((-1))) ∧ (
  (0 : Int) ≤ r14 ∧ 8 * r14 ≤ 140737488355328 ∧ (
  (ln out88 + ln ([((Condition.mk (List.replicate (Int.toNat r14) ((0 : Int))) x171) : Condition)])) * 32 ≤ 140737488355328 ∧ (
  k (out88 ++ ([((Condition.mk (List.replicate (Int.toNat r14) ((0 : Int))) x171) : Condition)])) (List.set (List.set atx (Int.toNat x99) ((-1))) (Int.toNat x99) (ln out88)))))) <|
  k out88 (List.set atx (Int.toNat x99) ((-1))))) <|
  fun (out139 : List Condition) (atx145 : List Int) =>
  nx137 out139 atx145 (wr (x99 + 1))) <|
  Loop2 (fun (out279 : List Condition) (x285 : Int) nx303 =>
  br (decide (x285 < r14)) (jn (fun (k325 : (List Condition) → Prop) => impl_typeAt ((Geo.mk g.Parents)) sx x285 fun r333 =>
  det2 (impl_contribution ((Geo.mk g.Parents)) sx ((Table.mk x40.Table.Level x40.Table.Vars x40.Table.Where x40.Table.Sum)) ((Record.mk r333.Area r333.House r333.Values))) fun r347 r348 =>
  jn (fun (k357 : Bool → Prop) => br (decide (r347 ≥ 0)) (idx atx r347 fun x360 =>
  k357 (decide (x360 ≥ 0))) <|
  k357 false) <|
  fun (x355 : Bool) =>
  br (x355) (idx atx r347 fun x371 =>
  idx out279 x371 fun x381 =>
  (0 : Int) ≤ x285 ∧ Int.toNat x285 < List.length x381.Amounts ∧ (
  k325 (List.set out279 (Int.toNat x371) ({x381 with Amounts := List.set x381.Amounts (Int.toNat x285) r348} : Condition)))) <|
  k325 out279) <|
  fun (out305 : List Condition) =>
  nx303 out305 (wr (x285 + 1))) <|
  nx out279 (wr (x23 + 1))) out88 0) out (List.replicate (Int.toNat (ln x40.Cells)) ((0 : Int))) 0)) <|
  Q out) ([]) 0

def impl_AnswerRange_1 (counts : List Int) (c1 : List Int) (Q : (List Int) → Prop) : Prop :=
  Loop2 (fun (sum : Int) (x : Int) nx =>
  br (decide (x < (ln counts))) (idx counts x fun x9 =>
  idx c1 x fun x15 =>
  nx (wr (sum + (wr (x9 * x15)))) (wr (x + 1))) <|
  Q ([sum])) 0 0

def impl_ranges_1_impl_AnswerRange_1 (counts : List Int) (c1 : List Int) (c11 : List Int) (c20 : List Int) (Q : (List Int) → (List Int) → Prop) : Prop :=
  impl_AnswerRange_1 counts c1 fun r53 =>
  jn (fun (k : (List Int) → (List Int) → Prop) => br (ln c11 == 0) ((ln (([] : List Int)) + ln r53) * 8 ≤ 140737488355328 ∧ (
  (ln (([] : List Int)) + ln r53) * 8 ≤ 140737488355328 ∧ (
  (0 : Int) < ln ((([] : List Int)) ++ r53) ∧ k ((([] : List Int)) ++ r53) ((([] : List Int)) ++ r53)))) <|
  k c11 c20) <|
  fun (x59 : List Int) (x65 : List Int) =>
  Loop3 (fun (x160 : Int) (x161 : List Int) (x167 : List Int) nx =>
  br (decide (x160 < (ln r53))) (idx r53 x160 fun x187 =>
  idx x161 x160 fun x198 =>
  idx x167 x160 fun x210 =>
  (0 : Int) ≤ x160 ∧ Int.toNat x160 < List.length x161 ∧ (
  (0 : Int) ≤ x160 ∧ Int.toNat x160 < List.length x167 ∧ (
  nx (wr (x160 + 1)) (List.set x161 (Int.toNat x160) (mn x198 x187)) (List.set x167 (Int.toNat x160) (mx x210 x187))))) <|
  Q x161 x167) 0 x59 x65

def impl_solutions_1_impl_ranges_1_impl_AnswerRange_1 (counts : List Int) (c1 : Int) (c3 : List Int) (c14 : List Int) (c23 : List Int) (c34 : Int) (Q : Bool → Int → (List Int) → (List Int) → Prop) : Prop :=
  impl_ranges_1_impl_AnswerRange_1 counts c3 c14 c23 fun r82 r83 =>
  Q (decide ((wr (c1 + 1)) < c34)) (wr (c1 + 1)) r82 r83

def impl_search_add_impl_solutions_1_impl_ranges_1_impl_AnswerRange_1 (x : Search) (c13 : Int) (c15 : List Int) (c26 : List Int) (c35 : List Int) (c46 : Int) (k : Int) (n : Int) (Q : (List Int) → (List Int) → Prop) : Prop :=
  idx x.Counts k fun x88 =>
  (0 : Int) ≤ k ∧ Int.toNat k < List.length x.Counts ∧ (
  Loop2 (fun (x100 : Int) (sums : List Int) nx =>
  br (decide (x100 < (ln x.Conditions))) (idx x.Conditions x100 fun x146 =>
  idx sums x100 fun x174 =>
  idx x146.Amounts k fun x187 =>
  (0 : Int) ≤ x100 ∧ Int.toNat x100 < List.length sums ∧ (
  nx (wr (x100 + 1)) (List.set sums (Int.toNat x100) (wr (x174 + (wr (n * x187))))))) <|
  Q (List.set x.Counts (Int.toNat k) (wr (x88 + n))) sums) 0 x.Sums)

def impl_search_from_impl_solutions_1_impl_ranges_1_impl_AnswerRange_1 (x : Search) (c13 : Int) (c15 : List Int) (c26 : List Int) (c35 : List Int) (c46 : Int) (k : Int) (left : Int) (Q : Bool → (List Int) → (List Int) → Int → (List Int) → (List Int) → Prop) : Prop :=
  Rec8 (fun (self : Search → Int → (List Int) → (List Int) → (List Int) → Int → Int → Int → (Bool → (List Int) → (List Int) → Int → (List Int) → (List Int) → Prop) → Prop) (x : Search) (c13 : Int) (c15 : List Int) (c26 : List Int) (c35 : List Int) (c46 : Int) (k : Int) (left : Int) (Q : Bool → (List Int) → (List Int) → Int → (List Int) → (List Int) → Prop) =>
  br (k == (ln x.Counts)) (br (decide (left > 0)) (Q true x.Counts x.Sums c13 c26 c35) <|
  Loop1 (fun (x134 : Int) nx =>
  br (decide (x134 < (ln x.Conditions))) (idx x.Conditions x134 fun x152 =>
  idx x.Sums x134 fun x174 =>
  br (x174 != x152.Value) (Q true x.Counts x.Sums c13 c26 c35) <|
  nx (wr (x134 + 1))) <|
  impl_solutions_1_impl_ranges_1_impl_AnswerRange_1 x.Counts c13 c15 c26 c35 c46 fun r218 r219 r220 r221 =>
  Q r218 x.Counts x.Sums r219 r220 r221) 0) <|
  jn (fun (k355 : Int → (List Int) → (List Int) → (List Int) → (List Int) → Prop) => Loop6 (fun (n : Int) (x356 : Int) (x357 : List Int) (x363 : List Int) (counts369 : List Int) (sums375 : List Int) nx451 =>
  br (decide (n ≤ left)) (Loop2 (fun (fits : Bool) (x453 : Int) nx473 =>
  br (decide (x453 < (ln x.Conditions))) (jn (fun (k492 : Bool → Prop) => idx x.Conditions x453 fun x494 =>
  br (fits) (idx sums375 x453 fun x522 =>
  idx x494.Amounts k fun x532 =>
  k492 (decide ((wr (x522 + (wr (n * x532)))) ≤ x494.Value))) <|
  k492 false) <|
  fun (fits475 : Bool) =>
  nx473 fits475 (wr (x453 + 1))) <|
  br (!fits) (k355 x356 x357 x363 counts369 sums375) <|
  impl_search_add_impl_solutions_1_impl_ranges_1_impl_AnswerRange_1 ((Search.mk x.Conditions counts369 sums375)) x356 c15 x357 x363 c46 k n fun r579 r580 =>
  self ((Search.mk x.Conditions r579 r580)) x356 c15 x357 x363 c46 (wr (k + 1)) (wr (left - n)) fun r601 r602 r603 r604 r605 r606 =>
  impl_search_add_impl_solutions_1_impl_ranges_1_impl_AnswerRange_1 ((Search.mk x.Conditions r602 r603)) r604 c15 r605 r606 c46 k (wr (0 - n)) fun r675 r676 =>
  br (!r601) (Q false r675 r676 r604 r605 r606) <|
  nx451 (wr (n + 1)) r604 r605 r606 r675 r676) true 0) <|
  k355 x356 x357 x363 counts369 sums375) 0 c13 c26 c35 x.Counts x.Sums) <|
  fun (x265 : Int) (x266 : List Int) (x272 : List Int) (counts : List Int) (sums : List Int) =>
  Q true counts sums x265 x266 x272) x c13 c15 c26 c35 c46 k left Q

def impl_solutions_impl_ranges_1_impl_AnswerRange_1 (g : Geo) (sx : List Variable) (pubs : List Published) (n : Int) (most : Int) (c13 : List Int) (c23 : List Int) (c32 : List Int) (Q : Int → (List Int) → (List Int) → Prop) : Prop :=
  impl_conditionsOf ((Geo.mk g.Parents)) sx pubs fun r86 =>
  det1 (impl_typeCount ((Geo.mk g.Parents)) sx) fun r109 =>
  (
  (0 : Int) ≤ r109 ∧ 8 * r109 ≤ 140737488355328 ∧ (
  (0 : Int) ≤ (ln r86) ∧ 8 * (ln r86) ≤ 140737488355328 ∧ (
  impl_search_from_impl_solutions_1_impl_ranges_1_impl_AnswerRange_1 ((Search.mk r86 (List.replicate (Int.toNat r109) ((0 : Int))) (List.replicate (Int.toNat (ln r86)) ((0 : Int))))) 0 c13 c23 c32 most 0 n fun r215 r216 r217 r218 r219 r220 =>
  Q r218 r219 r220))) ∧ (
  (0 : Int) ≤ (ln r86) ∧ 8 * (ln r86) ≤ 140737488355328 ∧ (
  (0 : Int) ≤ r109 ∧ 8 * r109 ≤ 140737488355328 ∧ (
  impl_search_from_impl_solutions_1_impl_ranges_1_impl_AnswerRange_1 ((Search.mk r86 (List.replicate (Int.toNat r109) ((0 : Int))) (List.replicate (Int.toNat (ln r86)) ((0 : Int))))) 0 c13 c23 c32 most 0 n fun r403 r404 r405 r406 r407 r408 =>
  Q r406 r407 r408))) ∧ (
  (
  (0 : Int) ≤ r109 ∧ 8 * r109 ≤ 140737488355328 ∧ (
  (0 : Int) ≤ (ln r86) ∧ 8 * (ln r86) ≤ 140737488355328 ∧ (
  impl_search_from_impl_solutions_1_impl_ranges_1_impl_AnswerRange_1 ((Search.mk r86 (List.replicate (Int.toNat r109) ((0 : Int))) (List.replicate (Int.toNat (ln r86)) ((0 : Int))))) 0 c13 c23 c32 most 0 n fun r592 r593 r594 r595 r596 r597 =>
  Q r595 r596 r597))) ∧ (
  (0 : Int) ≤ (ln r86) ∧ 8 * (ln r86) ≤ 140737488355328 ∧ (
  (0 : Int) ≤ r109 ∧ 8 * r109 ≤ 140737488355328 ∧ (
  impl_search_from_impl_solutions_1_impl_ranges_1_impl_AnswerRange_1 ((Search.mk r86 (List.replicate (Int.toNat r109) ((0 : Int))) (List.replicate (Int.toNat (ln r86)) ((0 : Int))))) 0 c13 c23 c32 most 0 n fun r771 r772 r773 r774 r775 r776 =>
  Q r774 r775 r776))))

def impl_ranges_impl_AnswerRange_1 (g : Geo) (sx : List Variable) (pubs : List Published) (n : Int) (c13 : List Int) (Q : (List Int) → (List Int) → Bool → Prop) : Prop :=
  impl_solutions_impl_ranges_1_impl_AnswerRange_1 ((Geo.mk g.Parents)) sx pubs n 20001 c13 ([]) ([]) fun r50 r51 r52 =>
  jn (fun (k : Bool → Prop) => br (r50 == 0) (k true) <|
  k (decide (r50 > 20000))) <|
  fun (x80 : Bool) =>
  br (x80) (Q ([]) ([]) false) <|
  Q r51 r52 true

def impl_AnswerRange (g : Geo) (sx : List Variable) (pubs : List Published) (n : Int) (t : Table) (i : Int) (Q : Int → Int → Bool → Prop) : Prop :=
  jn (fun (k : Bool → Prop) => impl_areAttacked ((Geo.mk g.Parents)) sx pubs fun r42 =>
  br (!r42) (k true) <|
  impl_isPersons n fun r56 =>
  br (!r56) (k true) <|
  impl_isTable ((Geo.mk g.Parents)) sx ((Table.mk t.Level t.Vars t.Where t.Sum)) fun r70 =>
  br (!r70) (k true) <|
  br (decide (i < 0)) (k true) <|
  impl_cellCount ((Geo.mk g.Parents)) sx ((Table.mk t.Level t.Vars t.Where t.Sum)) fun r97 =>
  k (decide (i ≥ r97))) <|
  fun (x31 : Bool) =>
  br (x31) (Q 0 0 false) <|
  impl_typeCount ((Geo.mk g.Parents)) sx fun r113 =>
  (0 : Int) ≤ r113 ∧ 8 * r113 ≤ 140737488355328 ∧ (
  Loop2 (fun (x131 : Int) (x132 : List Int) nx =>
  br (decide (x131 < (ln (List.replicate (Int.toNat r113) ((0 : Int)))))) (jn (fun (k207 : (List Int) → Prop) => impl_typeAt ((Geo.mk g.Parents)) sx x131 fun r215 =>
  det2 (impl_contribution ((Geo.mk g.Parents)) sx ((Table.mk t.Level t.Vars t.Where t.Sum)) ((Record.mk r215.Area r215.House r215.Values))) fun r229 r230 =>
  br (r229 == i) ((0 : Int) ≤ x131 ∧ Int.toNat x131 < List.length x132 ∧ (
  k207 (List.set x132 (Int.toNat x131) r230))) <|
  k207 x132) <|
  fun (x183 : List Int) =>
  nx (wr (x131 + 1)) x183) <|
  impl_ranges_impl_AnswerRange_1 ((Geo.mk g.Parents)) sx pubs n x132 fun r275 r276 r277 =>
  br (!r277) (Q 0 0 false) <|
  idx r275 0 fun x297 =>
  idx r276 0 fun x305 =>
  Q x297 x305 true) 0 (List.replicate (Int.toNat r113) ((0 : Int))))

def laws_eqIntS (a : List Int) (b : List Int) (Q : Bool → Prop) : Prop :=
  br ((ln a) != (ln b)) (Q false) <|
  Loop1 (fun (i : Int) nx =>
  br (decide (i < (ln a))) (idx a i fun x =>
  idx b i fun x17 =>
  br (x != x17) (Q false) <|
  nx (wr (i + 1))) <|
  Q true) 0

def laws_eqGeo (a : Geo) (b : Geo) (Q : Bool → Prop) : Prop :=
  laws_eqIntS a.Parents b.Parents fun r16 =>
  br (!r16) (Q false) <|
  Q true

def laws_eqVariable (a : Variable) (b : Variable) (Q : Bool → Prop) : Prop :=
  br (!streq a.Name b.Name) (Q false) <|
  br (a.Levels != b.Levels) (Q false) <|
  Q true

def laws_eqVariableS (a : List Variable) (b : List Variable) (Q : Bool → Prop) : Prop :=
  br ((ln a) != (ln b)) (Q false) <|
  Loop1 (fun (i : Int) nx =>
  br (decide (i < (ln a))) (idx a i fun x =>
  idx b i fun x17 =>
  det1 (laws_eqVariable x x17) fun r26 =>
  br (!r26) (Q false) <|
  nx (wr (i + 1))) <|
  Q true) 0

def laws_eqTable (a : Table) (b : Table) (Q : Bool → Prop) : Prop :=
  br (a.Level != b.Level) (Q false) <|
  laws_eqIntS a.Vars b.Vars fun r29 =>
  br (!r29) (Q false) <|
  laws_eqIntS a.Where b.Where fun r38 =>
  br (!r38) (Q false) <|
  br (a.Sum != b.Sum) (Q false) <|
  Q true

def laws_eqPublished (a : Published) (b : Published) (Q : Bool → Prop) : Prop :=
  laws_eqTable ((Table.mk a.Table.Level a.Table.Vars a.Table.Where a.Table.Sum)) ((Table.mk b.Table.Level b.Table.Vars b.Table.Where b.Table.Sum)) fun r40 =>
  br (!r40) (Q false) <|
  laws_eqIntS a.Cells b.Cells fun r50 =>
  br (!r50) (Q false) <|
  Q true

def laws_eqPublishedS (a : List Published) (b : List Published) (Q : Bool → Prop) : Prop :=
  br ((ln a) != (ln b)) (Q false) <|
  Loop1 (fun (i : Int) nx =>
  br (decide (i < (ln a))) (idx a i fun x =>
  idx b i fun x41 =>
  det1 (laws_eqPublished x x41) fun r75 =>
  br (!r75) (Q false) <|
  nx (wr (i + 1))) <|
  Q true) 0

def laws_FnExactAnswerRange (aG : Geo) (aS : List Variable) (aPubs : List Published) (aN : Int) (aT : Table) (aI : Int) (Q : Bool → Prop) : Prop :=
  laws_szGeo ((Geo.mk aG.Parents)) 1048576 fun r32 =>
  br (decide (r32 < 0)) (Q true) <|
  laws_szVariableS aS r32 fun r37 =>
  br (decide (r37 < 0)) (Q true) <|
  laws_szPublishedS aPubs r37 fun r43 =>
  br (decide (r43 < 0)) (Q true) <|
  laws_szTable ((Table.mk aT.Level aT.Vars aT.Where aT.Sum)) r43 fun r50 =>
  br (decide (r50 < 0)) (Q true) <|
  laws_toGeo ((Geo.mk aG.Parents)) fun r63 =>
  laws_toVariableS aS fun r76 =>
  laws_toPublishedS aPubs fun r90 =>
  laws_toTable ((Table.mk aT.Level aT.Vars aT.Where aT.Sum)) fun r104 =>
  det3 (spec_AnswerRange ((Geo.mk r63.Parents)) r76 r90 aN ((Table.mk r104.Level r104.Vars r104.Where r104.Sum)) aI) fun r123 r124 r125 =>
  laws_toGeo ((Geo.mk aG.Parents)) fun r132 =>
  laws_toVariableS aS fun r150 =>
  laws_toPublishedS aPubs fun r162 =>
  laws_toTable ((Table.mk aT.Level aT.Vars aT.Where aT.Sum)) fun r176 =>
  impl_AnswerRange ((Geo.mk r132.Parents)) r150 r162 aN ((Table.mk r176.Level r176.Vars r176.Where r176.Sum)) aI fun r208 r209 r210 =>
  jn (fun (k : Bool → Prop) => br (r208 != r123) (k true) <|
  br (r209 != r124) (k true) <|
  k (r210 != r125)) <|
  fun (x221 : Bool) =>
  br (x221) (Q false) <|
  laws_toGeo ((Geo.mk aG.Parents)) fun r239 =>
  laws_eqGeo ((Geo.mk r132.Parents)) ((Geo.mk r239.Parents)) fun r256 =>
  br (!r256) (Q false) <|
  laws_toVariableS aS fun r267 =>
  laws_eqVariableS r150 r267 fun r279 =>
  br (!r279) (Q false) <|
  laws_toPublishedS aPubs fun r289 =>
  laws_eqPublishedS r162 r289 fun r301 =>
  br (!r301) (Q false) <|
  laws_toTable ((Table.mk aT.Level aT.Vars aT.Where aT.Sum)) fun r318 =>
  laws_eqTable ((Table.mk r176.Level r176.Vars r176.Where r176.Sum)) ((Table.mk r318.Level r318.Vars r318.Where r318.Sum)) fun r344 =>
  br (!r344) (Q false) <|
  Q true

end Go.Proofs.Ytkebfmobfeponaa
