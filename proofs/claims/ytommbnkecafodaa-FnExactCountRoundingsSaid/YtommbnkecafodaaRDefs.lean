/- What each Go function means: a definition over numbers and lists; Q: what is to hold of its results. -/
import Derived.Test.YtommbnkecafodaaLib
set_option linter.unusedVariables false
set_option autoImplicit false
namespace Go.Proofs.Ytommbnkecafodaa
open Go Go.RowKit Go.Gv

structure Transport where
  Rows : List Int
  Cols : List Int
  Lo : List (List Int)
  Hi : List (List Int)
instance : Wf Transport := ⟨fun x => Wf.wf x.Rows ∧ Wf.wf x.Cols ∧ Wf.wf x.Lo ∧ Wf.wf x.Hi⟩
instance : Deep Transport := Deep.via (fun x => (x.Rows, x.Cols, x.Lo, x.Hi))
theorem Transport_rd {h : PH} {cs : List Value} {x : Transport} (r : Enc.rd h cs x) : ∃ u0 u1 u2 u3, cs = [u0, u1, u2, u3] ∧ RS h u0 x.Rows ∧ RS h u1 x.Cols ∧ RS h u2 x.Lo ∧ RS h u3 x.Hi := by
  obtain ⟨_, _, rfl, ⟨u0, rfl, r0⟩, ⟨_, _, rfl, ⟨u1, rfl, r1⟩, ⟨_, _, rfl, ⟨u2, rfl, r2⟩, ⟨u3, rfl, r3⟩⟩⟩⟩ := r; exact ⟨_, _, _, _, rfl, r0, r1, r2, r3⟩
theorem Transport_rv {h : PH} {v : Value} {x : Transport} (r : RV h v x) : ∃ u0 u1 u2 u3, v = .agg #[u0, u1, u2, u3] ∧ RS h u0 x.Rows ∧ RS h u1 x.Cols ∧ RS h u2 x.Lo ∧ RS h u3 x.Hi := by
  obtain ⟨cs, hr, rfl⟩ := r; obtain ⟨u0, u1, u2, u3, rfl, r0, r1, r2, r3⟩ := Transport_rd hr; exact ⟨_, _, _, _, rfl, r0, r1, r2, r3⟩
theorem Transport_bw0 {h hi rest : PH} {v : Value} {xs : List Transport} {i : Nat} {c : List Value} {x : Transport} (b : Bw h v xs i hi rest c x) : ∃ u0 u1 u2 u3 hl rs, c = [u0, u1, u2, u3] ∧ BwG h v xs hl rs u0 x.Rows (fun y => xs.set i {x with Rows := y}) := by
  have o := b.own
  obtain ⟨_, _, _, _, rfl, rfl, d0, p0, n0⟩ := o
  obtain ⟨u0, rfl, q0⟩ := p0
  obtain ⟨_, _, _, _, rfl, rfl, d1, p1, n1⟩ := n0
  obtain ⟨u1, rfl, q1⟩ := p1
  obtain ⟨_, _, _, _, rfl, rfl, d2, p2, n2⟩ := n1
  obtain ⟨u2, rfl, q2⟩ := p2
  obtain ⟨u3, rfl, q3⟩ := n2
  exact ⟨_, _, _, _, _, _, rfl, b.fc (Fc.via (fun x : Transport => (x.Rows, x.Cols, x.Lo, x.Hi)) (Fc.left (Fc.here q0) ⟨[u1], [u2, u3], _, _, rfl, rfl, d1, ⟨u1, rfl, q1⟩, ⟨[u2], [u3], _, _, rfl, rfl, d2, ⟨u2, rfl, q2⟩, ⟨u3, rfl, q3⟩⟩⟩ d0) fun _ => rfl)⟩
theorem Transport_bw1 {h hi rest : PH} {v : Value} {xs : List Transport} {i : Nat} {c : List Value} {x : Transport} (b : Bw h v xs i hi rest c x) : ∃ u0 u1 u2 u3 hl rs, c = [u0, u1, u2, u3] ∧ BwG h v xs hl rs u1 x.Cols (fun y => xs.set i {x with Cols := y}) := by
  have o := b.own
  obtain ⟨_, _, _, _, rfl, rfl, d0, p0, n0⟩ := o
  obtain ⟨u0, rfl, q0⟩ := p0
  obtain ⟨_, _, _, _, rfl, rfl, d1, p1, n1⟩ := n0
  obtain ⟨u1, rfl, q1⟩ := p1
  obtain ⟨_, _, _, _, rfl, rfl, d2, p2, n2⟩ := n1
  obtain ⟨u2, rfl, q2⟩ := p2
  obtain ⟨u3, rfl, q3⟩ := n2
  exact ⟨_, _, _, _, _, _, rfl, b.fc (Fc.via (fun x : Transport => (x.Rows, x.Cols, x.Lo, x.Hi)) (Fc.right ⟨u0, rfl, q0⟩ (Fc.left (Fc.here q1) ⟨[u2], [u3], _, _, rfl, rfl, d2, ⟨u2, rfl, q2⟩, ⟨u3, rfl, q3⟩⟩ d1) d0) fun _ => rfl)⟩
theorem Transport_bw2 {h hi rest : PH} {v : Value} {xs : List Transport} {i : Nat} {c : List Value} {x : Transport} (b : Bw h v xs i hi rest c x) : ∃ u0 u1 u2 u3 hl rs, c = [u0, u1, u2, u3] ∧ BwG h v xs hl rs u2 x.Lo (fun y => xs.set i {x with Lo := y}) := by
  have o := b.own
  obtain ⟨_, _, _, _, rfl, rfl, d0, p0, n0⟩ := o
  obtain ⟨u0, rfl, q0⟩ := p0
  obtain ⟨_, _, _, _, rfl, rfl, d1, p1, n1⟩ := n0
  obtain ⟨u1, rfl, q1⟩ := p1
  obtain ⟨_, _, _, _, rfl, rfl, d2, p2, n2⟩ := n1
  obtain ⟨u2, rfl, q2⟩ := p2
  obtain ⟨u3, rfl, q3⟩ := n2
  exact ⟨_, _, _, _, _, _, rfl, b.fc (Fc.via (fun x : Transport => (x.Rows, x.Cols, x.Lo, x.Hi)) (Fc.right ⟨u0, rfl, q0⟩ (Fc.right ⟨u1, rfl, q1⟩ (Fc.left (Fc.here q2) ⟨u3, rfl, q3⟩ d2) d1) d0) fun _ => rfl)⟩
theorem Transport_bw3 {h hi rest : PH} {v : Value} {xs : List Transport} {i : Nat} {c : List Value} {x : Transport} (b : Bw h v xs i hi rest c x) : ∃ u0 u1 u2 u3 hl rs, c = [u0, u1, u2, u3] ∧ BwG h v xs hl rs u3 x.Hi (fun y => xs.set i {x with Hi := y}) := by
  have o := b.own
  obtain ⟨_, _, _, _, rfl, rfl, d0, p0, n0⟩ := o
  obtain ⟨u0, rfl, q0⟩ := p0
  obtain ⟨_, _, _, _, rfl, rfl, d1, p1, n1⟩ := n0
  obtain ⟨u1, rfl, q1⟩ := p1
  obtain ⟨_, _, _, _, rfl, rfl, d2, p2, n2⟩ := n1
  obtain ⟨u2, rfl, q2⟩ := p2
  obtain ⟨u3, rfl, q3⟩ := n2
  exact ⟨_, _, _, _, _, _, rfl, b.fc (Fc.via (fun x : Transport => (x.Rows, x.Cols, x.Lo, x.Hi)) (Fc.right ⟨u0, rfl, q0⟩ (Fc.right ⟨u1, rfl, q1⟩ (Fc.right ⟨u2, rfl, q2⟩ (Fc.here q3) d2) d1) d0) fun _ => rfl)⟩
structure Rounding where
  Cells : List (List Int)
  Rows : List Int
  Cols : List Int
  Total : Int
instance : Wf Rounding := ⟨fun x => Wf.wf x.Cells ∧ Wf.wf x.Rows ∧ Wf.wf x.Cols ∧ Wf.wf x.Total⟩
instance : Deep Rounding := Deep.via (fun x => (x.Cells, x.Rows, x.Cols, x.Total))
theorem Rounding_rd {h : PH} {cs : List Value} {x : Rounding} (r : Enc.rd h cs x) : ∃ u0 u1 u2, cs = [u0, u1, u2, I x.Total] ∧ RS h u0 x.Cells ∧ RS h u1 x.Rows ∧ RS h u2 x.Cols := by
  obtain ⟨_, _, rfl, ⟨u0, rfl, r0⟩, ⟨_, _, rfl, ⟨u1, rfl, r1⟩, ⟨_, _, rfl, ⟨u2, rfl, r2⟩, rfl⟩⟩⟩ := r; exact ⟨_, _, _, rfl, r0, r1, r2⟩
theorem Rounding_rv {h : PH} {v : Value} {x : Rounding} (r : RV h v x) : ∃ u0 u1 u2, v = .agg #[u0, u1, u2, I x.Total] ∧ RS h u0 x.Cells ∧ RS h u1 x.Rows ∧ RS h u2 x.Cols := by
  obtain ⟨cs, hr, rfl⟩ := r; obtain ⟨u0, u1, u2, rfl, r0, r1, r2⟩ := Rounding_rd hr; exact ⟨_, _, _, rfl, r0, r1, r2⟩
theorem Rounding_bw0 {h hi rest : PH} {v : Value} {xs : List Rounding} {i : Nat} {c : List Value} {x : Rounding} (b : Bw h v xs i hi rest c x) : ∃ u0 u1 u2 hl rs, c = [u0, u1, u2, I x.Total] ∧ BwG h v xs hl rs u0 x.Cells (fun y => xs.set i {x with Cells := y}) := by
  have o := b.own
  obtain ⟨_, _, _, _, rfl, rfl, d0, p0, n0⟩ := o
  obtain ⟨u0, rfl, q0⟩ := p0
  obtain ⟨_, _, _, _, rfl, rfl, d1, p1, n1⟩ := n0
  obtain ⟨u1, rfl, q1⟩ := p1
  obtain ⟨_, _, _, _, rfl, rfl, d2, p2, n2⟩ := n1
  obtain ⟨u2, rfl, q2⟩ := p2
  obtain ⟨rfl, rfl⟩ := own_flat n2
  exact ⟨_, _, _, _, _, rfl, b.fc (Fc.via (fun x : Rounding => (x.Cells, x.Rows, x.Cols, x.Total)) (Fc.left (Fc.here q0) ⟨[u1], [u2, I x.Total], _, _, rfl, rfl, d1, ⟨u1, rfl, q1⟩, ⟨[u2], [I x.Total], _, _, rfl, rfl, d2, ⟨u2, rfl, q2⟩, (flat_own x.Total)⟩⟩ d0) fun _ => rfl)⟩
theorem Rounding_bw1 {h hi rest : PH} {v : Value} {xs : List Rounding} {i : Nat} {c : List Value} {x : Rounding} (b : Bw h v xs i hi rest c x) : ∃ u0 u1 u2 hl rs, c = [u0, u1, u2, I x.Total] ∧ BwG h v xs hl rs u1 x.Rows (fun y => xs.set i {x with Rows := y}) := by
  have o := b.own
  obtain ⟨_, _, _, _, rfl, rfl, d0, p0, n0⟩ := o
  obtain ⟨u0, rfl, q0⟩ := p0
  obtain ⟨_, _, _, _, rfl, rfl, d1, p1, n1⟩ := n0
  obtain ⟨u1, rfl, q1⟩ := p1
  obtain ⟨_, _, _, _, rfl, rfl, d2, p2, n2⟩ := n1
  obtain ⟨u2, rfl, q2⟩ := p2
  obtain ⟨rfl, rfl⟩ := own_flat n2
  exact ⟨_, _, _, _, _, rfl, b.fc (Fc.via (fun x : Rounding => (x.Cells, x.Rows, x.Cols, x.Total)) (Fc.right ⟨u0, rfl, q0⟩ (Fc.left (Fc.here q1) ⟨[u2], [I x.Total], _, _, rfl, rfl, d2, ⟨u2, rfl, q2⟩, (flat_own x.Total)⟩ d1) d0) fun _ => rfl)⟩
theorem Rounding_bw2 {h hi rest : PH} {v : Value} {xs : List Rounding} {i : Nat} {c : List Value} {x : Rounding} (b : Bw h v xs i hi rest c x) : ∃ u0 u1 u2 hl rs, c = [u0, u1, u2, I x.Total] ∧ BwG h v xs hl rs u2 x.Cols (fun y => xs.set i {x with Cols := y}) := by
  have o := b.own
  obtain ⟨_, _, _, _, rfl, rfl, d0, p0, n0⟩ := o
  obtain ⟨u0, rfl, q0⟩ := p0
  obtain ⟨_, _, _, _, rfl, rfl, d1, p1, n1⟩ := n0
  obtain ⟨u1, rfl, q1⟩ := p1
  obtain ⟨_, _, _, _, rfl, rfl, d2, p2, n2⟩ := n1
  obtain ⟨u2, rfl, q2⟩ := p2
  obtain ⟨rfl, rfl⟩ := own_flat n2
  exact ⟨_, _, _, _, _, rfl, b.fc (Fc.via (fun x : Rounding => (x.Cells, x.Rows, x.Cols, x.Total)) (Fc.right ⟨u0, rfl, q0⟩ (Fc.right ⟨u1, rfl, q1⟩ (Fc.left (Fc.here q2) (flat_own x.Total) d2) d1) d0) fun _ => rfl)⟩
theorem Rounding_ft3 {x : Rounding} {k : Int} : FTurn x {x with Total := k} 3 [I k] := by
  intro _ _ o
  obtain ⟨_, _, _, _, rfl, rfl, d0, p0, n0⟩ := o
  obtain ⟨u0, rfl, q0⟩ := p0
  obtain ⟨_, _, _, _, rfl, rfl, d1, p1, n1⟩ := n0
  obtain ⟨u1, rfl, q1⟩ := p1
  obtain ⟨_, _, _, _, rfl, rfl, d2, p2, n2⟩ := n1
  obtain ⟨u2, rfl, q2⟩ := p2
  obtain ⟨rfl, rfl⟩ := own_flat n2
  exact ⟨[u0], [u1, u2, I k], _, _, rfl, rfl, d0, ⟨u0, rfl, q0⟩, ⟨[u1], [u2, I k], _, _, rfl, rfl, d1, ⟨u1, rfl, q1⟩, ⟨[u2], [I k], _, _, rfl, rfl, d2, ⟨u2, rfl, q2⟩, (flat_own k)⟩⟩⟩
structure TFill where
  T : Transport
  X : List (List Int)
  Rows : List Int
  Cols : List Int
instance : Wf TFill := ⟨fun x => Wf.wf x.T ∧ Wf.wf x.X ∧ Wf.wf x.Rows ∧ Wf.wf x.Cols⟩
instance : Deep TFill := Deep.via (fun x => (x.T, x.X, x.Rows, x.Cols))
theorem TFill_rd {h : PH} {cs : List Value} {x : TFill} (r : Enc.rd h cs x) : ∃ u0 u1 u2 u3 u4 u5 u6, cs = [u0, u1, u2, u3, u4, u5, u6] ∧ RS h u0 x.T.Rows ∧ RS h u1 x.T.Cols ∧ RS h u2 x.T.Lo ∧ RS h u3 x.T.Hi ∧ RS h u4 x.X ∧ RS h u5 x.Rows ∧ RS h u6 x.Cols := by
  obtain ⟨_, _, rfl, ⟨_, _, rfl, ⟨u0, rfl, r0⟩, ⟨_, _, rfl, ⟨u1, rfl, r1⟩, ⟨_, _, rfl, ⟨u2, rfl, r2⟩, ⟨u3, rfl, r3⟩⟩⟩⟩, ⟨_, _, rfl, ⟨u4, rfl, r4⟩, ⟨_, _, rfl, ⟨u5, rfl, r5⟩, ⟨u6, rfl, r6⟩⟩⟩⟩ := r; exact ⟨_, _, _, _, _, _, _, rfl, r0, r1, r2, r3, r4, r5, r6⟩
theorem TFill_rv {h : PH} {v : Value} {x : TFill} (r : RV h v x) : ∃ u0 u1 u2 u3 u4 u5 u6, v = .agg #[u0, u1, u2, u3, u4, u5, u6] ∧ RS h u0 x.T.Rows ∧ RS h u1 x.T.Cols ∧ RS h u2 x.T.Lo ∧ RS h u3 x.T.Hi ∧ RS h u4 x.X ∧ RS h u5 x.Rows ∧ RS h u6 x.Cols := by
  obtain ⟨cs, hr, rfl⟩ := r; obtain ⟨u0, u1, u2, u3, u4, u5, u6, rfl, r0, r1, r2, r3, r4, r5, r6⟩ := TFill_rd hr; exact ⟨_, _, _, _, _, _, _, rfl, r0, r1, r2, r3, r4, r5, r6⟩
theorem TFill_bw0 {h hi rest : PH} {v : Value} {xs : List TFill} {i : Nat} {c : List Value} {x : TFill} (b : Bw h v xs i hi rest c x) : ∃ u0 u1 u2 u3 u4 u5 u6 hl rs, c = [u0, u1, u2, u3, u4, u5, u6] ∧ BwG h v xs hl rs u0 x.T.Rows (fun y => xs.set i {x with T.Rows := y}) := by
  have o := b.own
  obtain ⟨_, _, _, _, rfl, rfl, d0, p0, n0⟩ := o
  obtain ⟨_, _, _, _, rfl, rfl, d1, p1, n1⟩ := p0
  obtain ⟨u0, rfl, q0⟩ := p1
  obtain ⟨_, _, _, _, rfl, rfl, d2, p2, n2⟩ := n1
  obtain ⟨u1, rfl, q1⟩ := p2
  obtain ⟨_, _, _, _, rfl, rfl, d3, p3, n3⟩ := n2
  obtain ⟨u2, rfl, q2⟩ := p3
  obtain ⟨u3, rfl, q3⟩ := n3
  obtain ⟨_, _, _, _, rfl, rfl, d4, p4, n4⟩ := n0
  obtain ⟨u4, rfl, q4⟩ := p4
  obtain ⟨_, _, _, _, rfl, rfl, d5, p5, n5⟩ := n4
  obtain ⟨u5, rfl, q5⟩ := p5
  obtain ⟨u6, rfl, q6⟩ := n5
  exact ⟨_, _, _, _, _, _, _, _, _, rfl, b.fc (Fc.via (fun x : TFill => (x.T, x.X, x.Rows, x.Cols)) (Fc.left (Fc.via (mk' := fun y => {x.T with Rows := y}) (fun x : Transport => (x.Rows, x.Cols, x.Lo, x.Hi)) (Fc.left (Fc.here q0) ⟨[u1], [u2, u3], _, _, rfl, rfl, d2, ⟨u1, rfl, q1⟩, ⟨[u2], [u3], _, _, rfl, rfl, d3, ⟨u2, rfl, q2⟩, ⟨u3, rfl, q3⟩⟩⟩ d1) fun _ => rfl) ⟨[u4], [u5, u6], _, _, rfl, rfl, d4, ⟨u4, rfl, q4⟩, ⟨[u5], [u6], _, _, rfl, rfl, d5, ⟨u5, rfl, q5⟩, ⟨u6, rfl, q6⟩⟩⟩ d0) fun _ => rfl)⟩
theorem TFill_bw1 {h hi rest : PH} {v : Value} {xs : List TFill} {i : Nat} {c : List Value} {x : TFill} (b : Bw h v xs i hi rest c x) : ∃ u0 u1 u2 u3 u4 u5 u6 hl rs, c = [u0, u1, u2, u3, u4, u5, u6] ∧ BwG h v xs hl rs u1 x.T.Cols (fun y => xs.set i {x with T.Cols := y}) := by
  have o := b.own
  obtain ⟨_, _, _, _, rfl, rfl, d0, p0, n0⟩ := o
  obtain ⟨_, _, _, _, rfl, rfl, d1, p1, n1⟩ := p0
  obtain ⟨u0, rfl, q0⟩ := p1
  obtain ⟨_, _, _, _, rfl, rfl, d2, p2, n2⟩ := n1
  obtain ⟨u1, rfl, q1⟩ := p2
  obtain ⟨_, _, _, _, rfl, rfl, d3, p3, n3⟩ := n2
  obtain ⟨u2, rfl, q2⟩ := p3
  obtain ⟨u3, rfl, q3⟩ := n3
  obtain ⟨_, _, _, _, rfl, rfl, d4, p4, n4⟩ := n0
  obtain ⟨u4, rfl, q4⟩ := p4
  obtain ⟨_, _, _, _, rfl, rfl, d5, p5, n5⟩ := n4
  obtain ⟨u5, rfl, q5⟩ := p5
  obtain ⟨u6, rfl, q6⟩ := n5
  exact ⟨_, _, _, _, _, _, _, _, _, rfl, b.fc (Fc.via (fun x : TFill => (x.T, x.X, x.Rows, x.Cols)) (Fc.left (Fc.via (mk' := fun y => {x.T with Cols := y}) (fun x : Transport => (x.Rows, x.Cols, x.Lo, x.Hi)) (Fc.right ⟨u0, rfl, q0⟩ (Fc.left (Fc.here q1) ⟨[u2], [u3], _, _, rfl, rfl, d3, ⟨u2, rfl, q2⟩, ⟨u3, rfl, q3⟩⟩ d2) d1) fun _ => rfl) ⟨[u4], [u5, u6], _, _, rfl, rfl, d4, ⟨u4, rfl, q4⟩, ⟨[u5], [u6], _, _, rfl, rfl, d5, ⟨u5, rfl, q5⟩, ⟨u6, rfl, q6⟩⟩⟩ d0) fun _ => rfl)⟩
theorem TFill_bw2 {h hi rest : PH} {v : Value} {xs : List TFill} {i : Nat} {c : List Value} {x : TFill} (b : Bw h v xs i hi rest c x) : ∃ u0 u1 u2 u3 u4 u5 u6 hl rs, c = [u0, u1, u2, u3, u4, u5, u6] ∧ BwG h v xs hl rs u2 x.T.Lo (fun y => xs.set i {x with T.Lo := y}) := by
  have o := b.own
  obtain ⟨_, _, _, _, rfl, rfl, d0, p0, n0⟩ := o
  obtain ⟨_, _, _, _, rfl, rfl, d1, p1, n1⟩ := p0
  obtain ⟨u0, rfl, q0⟩ := p1
  obtain ⟨_, _, _, _, rfl, rfl, d2, p2, n2⟩ := n1
  obtain ⟨u1, rfl, q1⟩ := p2
  obtain ⟨_, _, _, _, rfl, rfl, d3, p3, n3⟩ := n2
  obtain ⟨u2, rfl, q2⟩ := p3
  obtain ⟨u3, rfl, q3⟩ := n3
  obtain ⟨_, _, _, _, rfl, rfl, d4, p4, n4⟩ := n0
  obtain ⟨u4, rfl, q4⟩ := p4
  obtain ⟨_, _, _, _, rfl, rfl, d5, p5, n5⟩ := n4
  obtain ⟨u5, rfl, q5⟩ := p5
  obtain ⟨u6, rfl, q6⟩ := n5
  exact ⟨_, _, _, _, _, _, _, _, _, rfl, b.fc (Fc.via (fun x : TFill => (x.T, x.X, x.Rows, x.Cols)) (Fc.left (Fc.via (mk' := fun y => {x.T with Lo := y}) (fun x : Transport => (x.Rows, x.Cols, x.Lo, x.Hi)) (Fc.right ⟨u0, rfl, q0⟩ (Fc.right ⟨u1, rfl, q1⟩ (Fc.left (Fc.here q2) ⟨u3, rfl, q3⟩ d3) d2) d1) fun _ => rfl) ⟨[u4], [u5, u6], _, _, rfl, rfl, d4, ⟨u4, rfl, q4⟩, ⟨[u5], [u6], _, _, rfl, rfl, d5, ⟨u5, rfl, q5⟩, ⟨u6, rfl, q6⟩⟩⟩ d0) fun _ => rfl)⟩
theorem TFill_bw3 {h hi rest : PH} {v : Value} {xs : List TFill} {i : Nat} {c : List Value} {x : TFill} (b : Bw h v xs i hi rest c x) : ∃ u0 u1 u2 u3 u4 u5 u6 hl rs, c = [u0, u1, u2, u3, u4, u5, u6] ∧ BwG h v xs hl rs u3 x.T.Hi (fun y => xs.set i {x with T.Hi := y}) := by
  have o := b.own
  obtain ⟨_, _, _, _, rfl, rfl, d0, p0, n0⟩ := o
  obtain ⟨_, _, _, _, rfl, rfl, d1, p1, n1⟩ := p0
  obtain ⟨u0, rfl, q0⟩ := p1
  obtain ⟨_, _, _, _, rfl, rfl, d2, p2, n2⟩ := n1
  obtain ⟨u1, rfl, q1⟩ := p2
  obtain ⟨_, _, _, _, rfl, rfl, d3, p3, n3⟩ := n2
  obtain ⟨u2, rfl, q2⟩ := p3
  obtain ⟨u3, rfl, q3⟩ := n3
  obtain ⟨_, _, _, _, rfl, rfl, d4, p4, n4⟩ := n0
  obtain ⟨u4, rfl, q4⟩ := p4
  obtain ⟨_, _, _, _, rfl, rfl, d5, p5, n5⟩ := n4
  obtain ⟨u5, rfl, q5⟩ := p5
  obtain ⟨u6, rfl, q6⟩ := n5
  exact ⟨_, _, _, _, _, _, _, _, _, rfl, b.fc (Fc.via (fun x : TFill => (x.T, x.X, x.Rows, x.Cols)) (Fc.left (Fc.via (mk' := fun y => {x.T with Hi := y}) (fun x : Transport => (x.Rows, x.Cols, x.Lo, x.Hi)) (Fc.right ⟨u0, rfl, q0⟩ (Fc.right ⟨u1, rfl, q1⟩ (Fc.right ⟨u2, rfl, q2⟩ (Fc.here q3) d3) d2) d1) fun _ => rfl) ⟨[u4], [u5, u6], _, _, rfl, rfl, d4, ⟨u4, rfl, q4⟩, ⟨[u5], [u6], _, _, rfl, rfl, d5, ⟨u5, rfl, q5⟩, ⟨u6, rfl, q6⟩⟩⟩ d0) fun _ => rfl)⟩
theorem TFill_bw4 {h hi rest : PH} {v : Value} {xs : List TFill} {i : Nat} {c : List Value} {x : TFill} (b : Bw h v xs i hi rest c x) : ∃ u0 u1 u2 u3 u4 u5 u6 hl rs, c = [u0, u1, u2, u3, u4, u5, u6] ∧ BwG h v xs hl rs u4 x.X (fun y => xs.set i {x with X := y}) := by
  have o := b.own
  obtain ⟨_, _, _, _, rfl, rfl, d0, p0, n0⟩ := o
  obtain ⟨_, _, _, _, rfl, rfl, d1, p1, n1⟩ := p0
  obtain ⟨u0, rfl, q0⟩ := p1
  obtain ⟨_, _, _, _, rfl, rfl, d2, p2, n2⟩ := n1
  obtain ⟨u1, rfl, q1⟩ := p2
  obtain ⟨_, _, _, _, rfl, rfl, d3, p3, n3⟩ := n2
  obtain ⟨u2, rfl, q2⟩ := p3
  obtain ⟨u3, rfl, q3⟩ := n3
  obtain ⟨_, _, _, _, rfl, rfl, d4, p4, n4⟩ := n0
  obtain ⟨u4, rfl, q4⟩ := p4
  obtain ⟨_, _, _, _, rfl, rfl, d5, p5, n5⟩ := n4
  obtain ⟨u5, rfl, q5⟩ := p5
  obtain ⟨u6, rfl, q6⟩ := n5
  exact ⟨_, _, _, _, _, _, _, _, _, rfl, b.fc (Fc.via (fun x : TFill => (x.T, x.X, x.Rows, x.Cols)) (Fc.right ⟨[u0], [u1, u2, u3], _, _, rfl, rfl, d1, ⟨u0, rfl, q0⟩, ⟨[u1], [u2, u3], _, _, rfl, rfl, d2, ⟨u1, rfl, q1⟩, ⟨[u2], [u3], _, _, rfl, rfl, d3, ⟨u2, rfl, q2⟩, ⟨u3, rfl, q3⟩⟩⟩⟩ (Fc.left (Fc.here q4) ⟨[u5], [u6], _, _, rfl, rfl, d5, ⟨u5, rfl, q5⟩, ⟨u6, rfl, q6⟩⟩ d4) d0) fun _ => rfl)⟩
theorem TFill_bw5 {h hi rest : PH} {v : Value} {xs : List TFill} {i : Nat} {c : List Value} {x : TFill} (b : Bw h v xs i hi rest c x) : ∃ u0 u1 u2 u3 u4 u5 u6 hl rs, c = [u0, u1, u2, u3, u4, u5, u6] ∧ BwG h v xs hl rs u5 x.Rows (fun y => xs.set i {x with Rows := y}) := by
  have o := b.own
  obtain ⟨_, _, _, _, rfl, rfl, d0, p0, n0⟩ := o
  obtain ⟨_, _, _, _, rfl, rfl, d1, p1, n1⟩ := p0
  obtain ⟨u0, rfl, q0⟩ := p1
  obtain ⟨_, _, _, _, rfl, rfl, d2, p2, n2⟩ := n1
  obtain ⟨u1, rfl, q1⟩ := p2
  obtain ⟨_, _, _, _, rfl, rfl, d3, p3, n3⟩ := n2
  obtain ⟨u2, rfl, q2⟩ := p3
  obtain ⟨u3, rfl, q3⟩ := n3
  obtain ⟨_, _, _, _, rfl, rfl, d4, p4, n4⟩ := n0
  obtain ⟨u4, rfl, q4⟩ := p4
  obtain ⟨_, _, _, _, rfl, rfl, d5, p5, n5⟩ := n4
  obtain ⟨u5, rfl, q5⟩ := p5
  obtain ⟨u6, rfl, q6⟩ := n5
  exact ⟨_, _, _, _, _, _, _, _, _, rfl, b.fc (Fc.via (fun x : TFill => (x.T, x.X, x.Rows, x.Cols)) (Fc.right ⟨[u0], [u1, u2, u3], _, _, rfl, rfl, d1, ⟨u0, rfl, q0⟩, ⟨[u1], [u2, u3], _, _, rfl, rfl, d2, ⟨u1, rfl, q1⟩, ⟨[u2], [u3], _, _, rfl, rfl, d3, ⟨u2, rfl, q2⟩, ⟨u3, rfl, q3⟩⟩⟩⟩ (Fc.right ⟨u4, rfl, q4⟩ (Fc.left (Fc.here q5) ⟨u6, rfl, q6⟩ d5) d4) d0) fun _ => rfl)⟩
theorem TFill_bw6 {h hi rest : PH} {v : Value} {xs : List TFill} {i : Nat} {c : List Value} {x : TFill} (b : Bw h v xs i hi rest c x) : ∃ u0 u1 u2 u3 u4 u5 u6 hl rs, c = [u0, u1, u2, u3, u4, u5, u6] ∧ BwG h v xs hl rs u6 x.Cols (fun y => xs.set i {x with Cols := y}) := by
  have o := b.own
  obtain ⟨_, _, _, _, rfl, rfl, d0, p0, n0⟩ := o
  obtain ⟨_, _, _, _, rfl, rfl, d1, p1, n1⟩ := p0
  obtain ⟨u0, rfl, q0⟩ := p1
  obtain ⟨_, _, _, _, rfl, rfl, d2, p2, n2⟩ := n1
  obtain ⟨u1, rfl, q1⟩ := p2
  obtain ⟨_, _, _, _, rfl, rfl, d3, p3, n3⟩ := n2
  obtain ⟨u2, rfl, q2⟩ := p3
  obtain ⟨u3, rfl, q3⟩ := n3
  obtain ⟨_, _, _, _, rfl, rfl, d4, p4, n4⟩ := n0
  obtain ⟨u4, rfl, q4⟩ := p4
  obtain ⟨_, _, _, _, rfl, rfl, d5, p5, n5⟩ := n4
  obtain ⟨u5, rfl, q5⟩ := p5
  obtain ⟨u6, rfl, q6⟩ := n5
  exact ⟨_, _, _, _, _, _, _, _, _, rfl, b.fc (Fc.via (fun x : TFill => (x.T, x.X, x.Rows, x.Cols)) (Fc.right ⟨[u0], [u1, u2, u3], _, _, rfl, rfl, d1, ⟨u0, rfl, q0⟩, ⟨[u1], [u2, u3], _, _, rfl, rfl, d2, ⟨u1, rfl, q1⟩, ⟨[u2], [u3], _, _, rfl, rfl, d3, ⟨u2, rfl, q2⟩, ⟨u3, rfl, q3⟩⟩⟩⟩ (Fc.right ⟨u4, rfl, q4⟩ (Fc.right ⟨u5, rfl, q5⟩ (Fc.here q6) d5) d4) d0) fun _ => rfl)⟩
structure TCounter where
  N : Int
  Most : Int
instance : Wf TCounter := ⟨fun x => Wf.wf x.N ∧ Wf.wf x.Most⟩
instance : Flat TCounter where
  n := 2
  agg := true
  rd _ cs x := cs = [I x.N, I x.Most]
  enc x := [I x.N, I x.Most]
  len h := by subst h; rfl
  le _ h := h
  one h c hc := by subst h; simp at hc; rcases hc with rfl | rfl <;> rfl
  sing h := by cases h
  flat := Iff.rfl
theorem TCounter_rv {h : PH} {v : Value} {x : TCounter} (r : RV h v x) : v = .agg #[I x.N, I x.Most] := by obtain ⟨cs, rfl, rfl⟩ := r; rfl

def laws_szIntS (a : List Int) (left : Int) (Q : Int → Prop) : Prop :=
  br (decide ((wr (left - (ln a))) < 0)) (Q ((-1))) <|
  Q (wr (left - (ln a)))

def laws_szIntSS (a : List (List Int)) (left : Int) (Q : Int → Prop) : Prop :=
  br (decide ((wr (left - (ln a))) < 0)) (Q ((-1))) <|
  Loop2 (fun (left2 : Int) (i : Int) nx =>
  br (decide (i < (ln a))) (idx a i fun x =>
  laws_szIntS x left2 fun r14 =>
  br (decide (r14 < 0)) (Q ((-1))) <|
  nx r14 (wr (i + 1))) <|
  Q left2) (wr (left - (ln a))) 0

def laws_toIntS (a : List Int) (Q : (List Int) → Prop) : Prop :=
  (0 : Int) ≤ (ln a) ∧ 8 * (ln a) ≤ 140737488355328 ∧ (
  Loop2 (fun (out : List Int) (i : Int) nx =>
  br (decide (i < (ln a))) (idx a i fun x14 =>
  (0 : Int) ≤ i ∧ Int.toNat i < List.length out ∧ (
  nx (List.set out (Int.toNat i) x14) (wr (i + 1)))) <|
  Q out) (List.replicate (Int.toNat (ln a)) ((0 : Int))) 0)

def laws_toIntSS (a : List (List Int)) (Q : (List (List Int)) → Prop) : Prop :=
  (0 : Int) ≤ (ln a) ∧ 24 * (ln a) ≤ 140737488355328 ∧ (
  Loop2 (fun (out : List (List Int)) (i : Int) nx =>
  br (decide (i < (ln a))) (idx a i fun x14 =>
  laws_toIntS x14 fun r24 =>
  (0 : Int) ≤ i ∧ Int.toNat i < List.length out ∧ (
  nx (List.set out (Int.toNat i) r24) (wr (i + 1)))) <|
  Q out) (List.replicate (Int.toNat (ln a)) (([] : List Int))) 0)

def spec_l1In (n : Int) (lo : Int) (hi : Int) (Q : Bool → Prop) : Prop :=
  jn (fun (k : Bool → Prop) => br (decide (n ≥ lo)) (k (decide (n ≤ hi))) <|
  k false) <|
  fun (x : Bool) =>
  Q x

def spec_l1All (l : List Int) (lo : Int) (hi : Int) (Q : Bool → Prop) : Prop :=
  Loop1 (fun (x : Int) nx =>
  br (decide (x < (ln l))) (idx l x fun x2 =>
  spec_l1In x2 lo hi fun r10 =>
  br (!r10) (Q false) <|
  nx (wr (x + 1))) <|
  Q true) 0

def spec_oMatrix (x : List (List Int)) (Q : Bool → Prop) : Prop :=
  jn (fun (k : Bool → Prop) => spec_l1In (ln x) 1 7 fun r3 =>
  br (!r3) (k true) <|
  idx x 0 fun x6 =>
  spec_l1In (ln x6) 1 7 fun r16 =>
  k (!r16)) <|
  fun (x1 : Bool) =>
  br (x1) (Q false) <|
  Loop1 (fun (x21 : Int) nx =>
  br (decide (x21 < (ln x))) (idx x x21 fun x25 =>
  jn (fun (k43 : Bool → Prop) => idx x 0 fun x45 =>
  br ((ln x25) != (ln x45)) (k43 true) <|
  spec_l1All x25 0 10000 fun r58 =>
  k43 (!r58)) <|
  fun (x40 : Bool) =>
  br (x40) (Q false) <|
  nx (wr (x21 + 1))) <|
  Q true) 0

def spec_oGood (x : List (List Int)) (base : Int) (Q : Bool → Prop) : Prop :=
  jn (fun (k : Bool → Prop) => spec_l1In base 2 100 fun r3 =>
  br (r3) (spec_oMatrix x fun r6 =>
  k r6) <|
  k false) <|
  fun (x1 : Bool) =>
  Q x1

def spec_l1Own (l : List Int) (Q : (List Int) → Prop) : Prop :=
  (ln (([] : List Int)) + ln l) * 8 ≤ 140737488355328 ∧ (
  Q ((([] : List Int)) ++ l))

def spec_tOwn (x : List (List Int)) (Q : (List (List Int)) → Prop) : Prop :=
  Loop2 (fun (out : List (List Int)) (x4 : Int) nx =>
  br (decide (x4 < (ln x))) (idx x x4 fun x8 =>
  spec_l1Own x8 fun r18 =>
  (ln out + ln ([r18])) * 24 ≤ 140737488355328 ∧ (
  nx (out ++ ([r18])) (wr (x4 + 1)))) <|
  Q out) ([]) 0

def spec_tSum (l : List Int) (Q : Int → Prop) : Prop :=
  Loop2 (fun (sum : Int) (x : Int) nx =>
  br (decide (x < (ln l))) (idx l x fun x1 =>
  nx (wr (sum + x1)) (wr (x + 1))) <|
  Q sum) 0 0

def spec_tColumn (x : List (List Int)) (j : Int) (Q : (List Int) → Prop) : Prop :=
  Loop2 (fun (out : List Int) (x4 : Int) nx =>
  br (decide (x4 < (ln x))) (idx x x4 fun x8 =>
  idx x8 j fun x18 =>
  (ln out + ln ([x18])) * 8 ≤ 140737488355328 ∧ (
  nx (out ++ ([x18])) (wr (x4 + 1)))) <|
  Q out) ([]) 0

def spec_oMargins (x : List (List Int)) (Q : Rounding → Prop) : Prop :=
  spec_tOwn x fun r3 =>
  Loop2 (fun (x20 : Int) (rows : List Int) nx =>
  br (decide (x20 < (ln x))) (idx x x20 fun x31 =>
  det1 (spec_tSum x31) fun r47 =>
  (ln rows + ln ([r47])) * 8 ≤ 140737488355328 ∧ (
  nx (wr (x20 + 1)) (rows ++ ([r47])))) <|
  idx x 0 fun x86 =>
  Loop2 (fun (x103 : Int) (cols : List Int) nx118 =>
  br (decide (x103 < (ln x86))) (spec_tColumn x x103 fun r125 =>
  det1 (spec_tSum r125) fun r140 =>
  (ln cols + ln ([r140])) * 8 ≤ 140737488355328 ∧ (
  nx118 (wr (x103 + 1)) (cols ++ ([r140])))) <|
  spec_tSum rows fun r184 =>
  Q ((Rounding.mk r3 rows cols r184))) 0 ([])) 0 ([])

def spec_oDown (n : Int) (base : Int) (Q : Int → Prop) : Prop :=
  base ≠ 0 ∧ (
  Q (wr (Int.tdiv n base)))

def spec_oUp (n : Int) (base : Int) (Q : Int → Prop) : Prop :=
  base ≠ 0 ∧ (
  Q (wr (Int.tdiv (wr ((wr (n + base)) - 1)) base)))

def spec_oNetwork (x : List (List Int)) (base : Int) (Q : Transport → Prop) : Prop :=
  spec_oMargins x fun r3 =>
  det1 (spec_oDown r3.Total base) fun r63 =>
  det1 (spec_oDown r3.Total base) fun r66 =>
  Loop5 (fun (cols : Int) (x72 : Int) (rows : List Int) (lo : List (List Int)) (hi : List (List Int)) nx =>
  br (decide (x72 < (ln x))) (idx x x72 fun x105 =>
  Loop3 (fun (lo124 : List Int) (hi130 : List Int) (x136 : Int) nx147 =>
  br (decide (x136 < (ln x105))) (idx x105 x136 fun x149 =>
  spec_oDown x149 base fun r159 =>
  (ln lo124 + ln ([r159])) * 8 ≤ 140737488355328 ∧ (
  spec_oUp x149 base fun r181 =>
  (ln hi130 + ln ([r181])) * 8 ≤ 140737488355328 ∧ (
  nx147 (lo124 ++ ([r159])) (hi130 ++ ([r181])) (wr (x136 + 1))))) <|
  idx r3.Rows x72 fun x215 =>
  (ln lo124 + ln ([0])) * 8 ≤ 140737488355328 ∧ (
  (ln lo + ln ([lo124 ++ ([0])])) * 24 ≤ 140737488355328 ∧ (
  det1 (spec_oUp x215 base) fun r306 =>
  det1 (spec_oDown x215 base) fun r308 =>
  (ln hi130 + ln ([wr (r306 - r308)])) * 8 ≤ 140737488355328 ∧ (
  (ln hi + ln ([hi130 ++ ([wr (r306 - r308)])])) * 24 ≤ 140737488355328 ∧ (
  det1 (spec_oUp x215 base) fun r388 =>
  (ln rows + ln ([r388])) * 8 ≤ 140737488355328 ∧ (
  spec_oUp x215 base fun r426 =>
  nx (wr (cols + r426)) (wr (x72 + 1)) (rows ++ ([r388])) (lo ++ ([lo124 ++ ([0])])) (hi ++ ([hi130 ++ ([wr (r306 - r308)])])))))))) ([]) ([]) 0) <|
  Loop5 (fun (lastLo : List Int) (lastHi : List Int) (rows527 : Int) (x528 : Int) (cols529 : List Int) nx563 =>
  br (decide (x528 < (ln r3.Cols))) (idx r3.Cols x528 fun x565 =>
  (ln lastLo + ln ([0])) * 8 ≤ 140737488355328 ∧ (
  spec_oUp x565 base fun r607 =>
  spec_oDown x565 base fun r610 =>
  (ln lastHi + ln ([wr (r607 - r610)])) * 8 ≤ 140737488355328 ∧ (
  det1 (spec_oUp x565 base) fun r637 =>
  (ln cols529 + ln ([r637])) * 8 ≤ 140737488355328 ∧ (
  spec_oUp x565 base fun r673 =>
  nx563 (lastLo ++ ([0])) (lastHi ++ ([wr (r607 - r610)])) (wr (rows527 + r673)) (wr (x528 + 1)) (cols529 ++ ([r637])))))) <|
  (ln lastLo + ln ([0])) * 8 ≤ 140737488355328 ∧ (
  (ln lo + ln ([lastLo ++ ([0])])) * 24 ≤ 140737488355328 ∧ (
  det1 (spec_oUp r3.Total base) fun r805 =>
  det1 (spec_oDown r3.Total base) fun r807 =>
  (ln lastHi + ln ([wr (r805 - r807)])) * 8 ≤ 140737488355328 ∧ (
  (ln hi + ln ([lastHi ++ ([wr (r805 - r807)])])) * 24 ≤ 140737488355328 ∧ (
  (ln rows + ln ([rows527])) * 8 ≤ 140737488355328 ∧ (
  (ln cols529 + ln ([cols])) * 8 ≤ 140737488355328 ∧ (
  Q ((Transport.mk (rows ++ ([rows527])) (cols529 ++ ([cols])) (lo ++ ([lastLo ++ ([0])])) (hi ++ ([lastHi ++ ([wr (r805 - r807)])]))))))))))) (([] : List Int)) (([] : List Int)) (wr (0 - r63)) 0 ([])) (wr (0 - r66)) 0 ([]) ([]) ([])

def spec_tSize (t : Transport) (x : List (List Int)) (Q : Bool → Prop) : Prop :=
  br ((ln x) != (ln t.Rows)) (Q false) <|
  Loop1 (fun (x28 : Int) nx =>
  br (decide (x28 < (ln x))) (idx x x28 fun x31 =>
  br ((ln x31) != (ln t.Cols)) (Q false) <|
  nx (wr (x28 + 1))) <|
  Q true) 0

def spec_tGood (t : Transport) (Q : Bool → Prop) : Prop :=
  jn (fun (k : Bool → Prop) => spec_l1In (ln t.Rows) 1 8 fun r29 =>
  br (!r29) (k true) <|
  spec_l1In (ln t.Cols) 1 8 fun r33 =>
  br (!r33) (k true) <|
  spec_l1All t.Rows 0 100000 fun r38 =>
  br (!r38) (k true) <|
  spec_l1All t.Cols 0 100000 fun r46 =>
  br (!r46) (k true) <|
  spec_tSize ((Transport.mk t.Rows t.Cols t.Lo t.Hi)) t.Lo fun r54 =>
  br (!r54) (k true) <|
  spec_tSize ((Transport.mk t.Rows t.Cols t.Lo t.Hi)) t.Hi fun r66 =>
  k (!r66)) <|
  fun (x26 : Bool) =>
  br (x26) (Q false) <|
  Loop1 (fun (x77 : Int) nx =>
  br (decide (x77 < (ln t.Lo))) (idx t.Lo x77 fun x82 =>
  Loop1 (fun (x93 : Int) nx99 =>
  br (decide (x93 < (ln x82))) (jn (fun (k111 : Bool → Prop) => idx t.Hi x77 fun x113 =>
  idx x113 x93 fun x125 =>
  det1 (spec_l1In x125 0 100000) fun r134 =>
  br (!r134) (k111 true) <|
  idx t.Lo x77 fun x140 =>
  idx x140 x93 fun x152 =>
  idx t.Hi x77 fun x161 =>
  idx x161 x93 fun x173 =>
  det1 (spec_l1In x152 0 x173) fun r182 =>
  k111 (!r182)) <|
  fun (x108 : Bool) =>
  br (x108) (Q false) <|
  nx99 (wr (x93 + 1))) <|
  nx (wr (x77 + 1))) 0) <|
  Q true) 0

def spec_tStart (t : Transport) (Q : TFill → Bool → Prop) : Prop :=
  spec_tOwn t.Lo fun r28 =>
  Loop2 (fun (x49 : Int) (rows : List Int) nx =>
  br (decide (x49 < (ln t.Rows))) (idx t.Rows x49 fun x60 =>
  idx t.Lo x49 fun x78 =>
  det1 (spec_tSum x78) fun r97 =>
  (ln rows + ln ([wr (x60 - r97)])) * 8 ≤ 140737488355328 ∧ (
  nx (wr (x49 + 1)) (rows ++ ([wr (x60 - r97)])))) <|
  Loop2 (fun (x141 : Int) (cols : List Int) nx156 =>
  br (decide (x141 < (ln t.Cols))) (idx t.Cols x141 fun x158 =>
  spec_tColumn t.Lo x141 fun r180 =>
  det1 (spec_tSum r180) fun r199 =>
  (ln cols + ln ([wr (x158 - r199)])) * 8 ≤ 140737488355328 ∧ (
  nx156 (wr (x141 + 1)) (cols ++ ([wr (x158 - r199)])))) <|
  jn (fun (k : Bool → Prop) => spec_l1All rows 0 100000 fun r284 =>
  br (r284) (spec_l1All cols 0 100000 fun r289 =>
  k r289) <|
  k false) <|
  fun (x281 : Bool) =>
  Q ((TFill.mk ((Transport.mk t.Rows t.Cols t.Lo t.Hi)) r28 rows cols)) x281) 0 ([])) 0 ([])

def spec_tFill_room (f : TFill) (vx38 : Int) (k : Int) (Q : Int → Prop) : Prop :=
  jn (fun (k39 : Bool → Prop) => br (decide (vx38 < (ln f.Rows))) (k39 (decide (k ≥ (ln f.Rows)))) <|
  k39 false) <|
  fun (x : Bool) =>
  br (x) (idx f.T.Hi vx38 fun x41 =>
  idx x41 (wr (k - (ln f.Rows))) fun x50 =>
  idx f.X vx38 fun x59 =>
  idx x59 (wr (k - (ln f.Rows))) fun x71 =>
  Q (wr (x50 - x71))) <|
  jn (fun (k85 : Bool → Prop) => br (decide (vx38 ≥ (ln f.Rows))) (k85 (decide (k < (ln f.Rows)))) <|
  k85 false) <|
  fun (x83 : Bool) =>
  br (x83) (idx f.X k fun x89 =>
  idx x89 (wr (vx38 - (ln f.Rows))) fun x101 =>
  idx f.T.Lo k fun x110 =>
  idx x110 (wr (vx38 - (ln f.Rows))) fun x122 =>
  Q (wr (x101 - x122))) <|
  Q 0

def spec_l1Least (a : Int) (b : Int) (Q : Int → Prop) : Prop :=
  br (decide (a < b)) (Q a) <|
  Q b

def spec_tFill_push (f : TFill) (fromx : List Int) (endx : Int) (Q : (List (List Int)) → (List Int) → (List Int) → Prop) : Prop :=
  idx f.Cols (wr (endx - (ln f.Rows))) fun x =>
  Loop2 (fun (most : Int) (start : Int) nx =>
  idx fromx start fun x79 =>
  br (decide (x79 ≥ 0)) (idx fromx start fun x89 =>
  spec_tFill_room ((TFill.mk ((Transport.mk f.T.Rows f.T.Cols f.T.Lo f.T.Hi)) f.X f.Rows f.Cols)) x89 start fun r98 =>
  spec_l1Least most r98 fun r109 =>
  idx fromx start fun x112 =>
  nx r109 x112) <|
  idx f.Rows start fun x124 =>
  spec_l1Least most x124 fun r134 =>
  Loop2 (fun (vx137 : Int) (x138 : List (List Int)) nx155 =>
  idx fromx vx137 fun x156 =>
  br (decide (x156 ≥ 0)) (jn (fun (k : (List (List Int)) → Prop) => br (decide (vx137 ≥ (ln f.Rows))) (idx fromx vx137 fun x199 =>
  idx x138 x199 fun x211 =>
  idx x211 (wr (vx137 - (ln f.Rows))) fun x224 =>
  (0 : Int) ≤ (wr (vx137 - (ln f.Rows))) ∧ Int.toNat (wr (vx137 - (ln f.Rows))) < List.length x211 ∧ (
  k (List.set x138 (Int.toNat x199) (List.set x211 (Int.toNat (wr (vx137 - (ln f.Rows)))) (wr (x224 + r134)))))) <|
  idx x138 vx137 fun x256 =>
  idx fromx vx137 fun x272 =>
  idx x256 (wr (x272 - (ln f.Rows))) fun x284 =>
  (0 : Int) ≤ (wr (x272 - (ln f.Rows))) ∧ Int.toNat (wr (x272 - (ln f.Rows))) < List.length x256 ∧ (
  k (List.set x138 (Int.toNat vx137) (List.set x256 (Int.toNat (wr (x272 - (ln f.Rows)))) (wr (x284 - r134)))))) <|
  fun (x181 : List (List Int)) =>
  idx fromx vx137 fun x319 =>
  nx155 x319 x181) <|
  idx f.Rows start fun x336 =>
  (0 : Int) ≤ start ∧ Int.toNat start < List.length f.Rows ∧ (
  idx f.Cols (wr (endx - (ln f.Rows))) fun x358 =>
  (0 : Int) ≤ (wr (endx - (ln f.Rows))) ∧ Int.toNat (wr (endx - (ln f.Rows))) < List.length f.Cols ∧ (
  Q x138 (List.set f.Rows (Int.toNat start) (wr (x336 - r134))) (List.set f.Cols (Int.toNat (wr (endx - (ln f.Rows)))) (wr (x358 - r134)))))) endx f.X) x endx

def spec_tFill_augment (f : TFill) (Q : Bool → (List (List Int)) → (List Int) → (List Int) → Prop) : Prop :=
  (0 : Int) ≤ (wr ((ln f.Rows) + (ln f.Cols))) ∧ 8 * (wr ((ln f.Rows) + (ln f.Cols))) ≤ 140737488355328 ∧ (
  Loop3 (fun (fromx : List Int) (queue : List Int) (x80 : Int) nx =>
  br (decide (x80 < (ln (List.replicate (Int.toNat (wr ((ln f.Rows) + (ln f.Cols)))) ((0 : Int)))))) (jn (fun (k : (List Int) → (List Int) → Prop) => (0 : Int) ≤ x80 ∧ Int.toNat x80 < List.length fromx ∧ (
  jn (fun (k167 : Bool → Prop) => br (decide (x80 < (ln f.Rows))) (idx f.Rows x80 fun x170 =>
  k167 (decide (x170 > 0))) <|
  k167 false) <|
  fun (x165 : Bool) =>
  br (x165) ((0 : Int) ≤ x80 ∧ Int.toNat x80 < List.length (List.set fromx (Int.toNat x80) ((-2))) ∧ (
  (ln queue + ln ([x80])) * 8 ≤ 140737488355328 ∧ (
  k (List.set (List.set fromx (Int.toNat x80) ((-2))) (Int.toNat x80) ((-1))) (queue ++ ([x80]))))) <|
  k (List.set fromx (Int.toNat x80) ((-2))) queue)) <|
  fun (fromx115 : List Int) (queue121 : List Int) =>
  nx fromx115 queue121 (wr (x80 + 1))) <|
  Loop3 (fun (fromx223 : List Int) (queue229 : List Int) (atx : Int) nx247 =>
  br (decide (atx < (ln queue229))) (idx queue229 atx fun x249 =>
  jn (fun (k328 : Bool → Prop) => br (decide (x249 ≥ (ln f.Rows))) (idx f.Cols (wr (x249 - (ln f.Rows))) fun x331 =>
  k328 (decide (x331 > 0))) <|
  k328 false) <|
  fun (x326 : Bool) =>
  br (x326) (spec_tFill_push ((TFill.mk ((Transport.mk f.T.Rows f.T.Cols f.T.Lo f.T.Hi)) f.X f.Rows f.Cols)) fromx223 x249 fun r349 r350 r351 =>
  Q true r349 r350 r351) <|
  Loop3 (fun (fromx386 : List Int) (queue392 : List Int) (k398 : Int) nx411 =>
  br (decide (k398 < (wr ((ln f.Rows) + (ln f.Cols))))) (jn (fun (k478 : (List Int) → (List Int) → Prop) => jn (fun (k483 : Bool → Prop) => idx fromx386 k398 fun x485 =>
  br (x485 == ((-2))) (spec_tFill_room ((TFill.mk ((Transport.mk f.T.Rows f.T.Cols f.T.Lo f.T.Hi)) f.X f.Rows f.Cols)) x249 k398 fun r495 =>
  k483 (decide (r495 > 0))) <|
  k483 false) <|
  fun (x480 : Bool) =>
  br (x480) ((0 : Int) ≤ k398 ∧ Int.toNat k398 < List.length fromx386 ∧ (
  (ln queue392 + ln ([k398])) * 8 ≤ 140737488355328 ∧ (
  k478 (List.set fromx386 (Int.toNat k398) x249) (queue392 ++ ([k398]))))) <|
  k478 fromx386 queue392) <|
  fun (fromx457 : List Int) (queue463 : List Int) =>
  nx411 fromx457 queue463 (wr (k398 + 1))) <|
  nx247 fromx386 queue392 (wr (atx + 1))) fromx223 queue229 0) <|
  Q false f.X f.Rows f.Cols) fromx queue 0) (List.replicate (Int.toNat (wr ((ln f.Rows) + (ln f.Cols)))) ((0 : Int))) ([]) 0)

def spec_tFilled (t : Transport) (Q : TFill → Bool → Prop) : Prop :=
  spec_tStart ((Transport.mk t.Rows t.Cols t.Lo t.Hi)) fun r23 r24 =>
  br (!r24) (Q ((TFill.mk ((Transport.mk r23.T.Rows r23.T.Cols r23.T.Lo r23.T.Hi)) r23.X r23.Rows r23.Cols)) false) <|
  Loop3 (fun (x109 : List (List Int)) (rows : List Int) (cols : List Int) nx =>
  spec_tFill_augment ((TFill.mk ((Transport.mk r23.T.Rows r23.T.Cols r23.T.Lo r23.T.Hi)) x109 rows cols)) fun r167 r168 r169 r170 =>
  br (r167) (nx r168 r169 r170) <|
  Q ((TFill.mk ((Transport.mk r23.T.Rows r23.T.Cols r23.T.Lo r23.T.Hi)) r168 r169 r170)) true) r23.X r23.Rows r23.Cols

def spec_tFeasible (t : Transport) (Q : (List (List Int)) → Bool → Prop) : Prop :=
  det1 (spec_tSum t.Rows) fun r20 =>
  det1 (spec_tSum t.Cols) fun r24 =>
  br (r20 != r24) (Q ([]) false) <|
  spec_tFilled ((Transport.mk t.Rows t.Cols t.Lo t.Hi)) fun r33 r34 =>
  jn (fun (k : Bool → Prop) => br (!r34) (k true) <|
  spec_tSum r33.Rows fun r125 =>
  k (decide (r125 > 0))) <|
  fun (x121 : Bool) =>
  br (x121) (Q ([]) false) <|
  Q r33.X true

def spec_tWith (t : Transport) (i : Int) (j : Int) (lo : Int) (hi : Int) (Q : Transport → Prop) : Prop :=
  jn (fun (k : (List Int) → (List Int) → (List (List Int)) → (List (List Int)) → Prop) => (
  spec_tOwn t.Lo fun r88 =>
  (
  spec_tOwn t.Hi fun r106 =>
  k t.Rows t.Cols r88 r106) ∧ (
  spec_tOwn t.Hi fun r189 =>
  k t.Rows t.Cols r88 r189)) ∧ (
  spec_tOwn t.Lo fun r260 =>
  spec_tOwn t.Hi fun r278 =>
  k t.Rows t.Cols r260 r278)) <|
  fun (rows : List Int) (cols : List Int) (lo50 : List (List Int)) (hi55 : List (List Int)) =>
  idx lo50 i fun x336 =>
  (0 : Int) ≤ j ∧ Int.toNat j < List.length x336 ∧ (
  idx hi55 i fun x359 =>
  (0 : Int) ≤ j ∧ Int.toNat j < List.length x359 ∧ (
  Q ((Transport.mk rows cols (List.set lo50 (Int.toNat i) (List.set x336 (Int.toNat j) lo)) (List.set hi55 (Int.toNat i) (List.set x359 (Int.toNat j) hi))))))

def spec_tLow (t : Transport) (i : Int) (j : Int) (Q : Int → Prop) : Prop :=
  idx t.Lo i fun x20 =>
  idx x20 j fun x30 =>
  idx t.Hi i fun x39 =>
  idx x39 j fun x52 =>
  Loop2 (fun (lo : Int) (hi63 : Int) nx =>
  br (decide (lo < hi63)) (idx t.Lo i fun x69 =>
  idx x69 j fun x84 =>
  spec_tWith ((Transport.mk t.Rows t.Cols t.Lo t.Hi)) i j x84 (wr (Int.tdiv (wr (lo + hi63)) 2)) fun r97 =>
  spec_tFeasible ((Transport.mk r97.Rows r97.Cols r97.Lo r97.Hi)) fun r140 r141 =>
  br (r141) (nx lo (wr (Int.tdiv (wr (lo + hi63)) 2))) <|
  nx (wr ((wr (Int.tdiv (wr (lo + hi63)) 2)) + 1)) hi63) <|
  Q lo) x30 x52

def spec_tCounter_run (c : TCounter) (t : Transport) (k : Int) (Q : Int → Int → Prop) : Prop :=
  Rec3 (fun (self : TCounter → Transport → Int → (Int → Int → Prop) → Prop) (c : TCounter) (t : Transport) (k : Int) (Q : Int → Int → Prop) =>
  br (k == (wr ((ln t.Rows) * (ln t.Cols)))) (Q (wr (c.N + 1)) c.Most) <|
  (ln t.Cols) ≠ 0 ∧ (
  (ln t.Cols) ≠ 0 ∧ (
  spec_tLow ((Transport.mk t.Rows t.Cols t.Lo t.Hi)) (wr (Int.tdiv k (ln t.Cols))) (Int.tmod k (ln t.Cols)) fun r34 =>
  Loop3 (fun (vx41 : Int) (n : Int) (most : Int) nx =>
  jn (fun (k59 : Bool → Prop) => idx t.Hi (wr (Int.tdiv k (ln t.Cols))) fun x60 =>
  idx x60 (Int.tmod k (ln t.Cols)) fun x70 =>
  br (decide (vx41 ≤ x70)) (k59 (decide (n ≤ most))) <|
  k59 false) <|
  fun (x56 : Bool) =>
  br (x56) (spec_tWith ((Transport.mk t.Rows t.Cols t.Lo t.Hi)) (wr (Int.tdiv k (ln t.Cols))) (Int.tmod k (ln t.Cols)) vx41 vx41 fun r86 =>
  spec_tFeasible ((Transport.mk r86.Rows r86.Cols r86.Lo r86.Hi)) fun r133 r134 =>
  br (!r134) (Q n most) <|
  self ((TCounter.mk n most)) ((Transport.mk r86.Rows r86.Cols r86.Lo r86.Hi)) (wr (k + 1)) fun r173 r174 =>
  nx (wr (vx41 + 1)) r173 r174) <|
  Q n most) r34 c.N c.Most))) c t k Q

def spec_CountFlows (t : Transport) (Q : Int → Bool → Prop) : Prop :=
  jn (fun (k : Bool → Prop) => spec_tGood ((Transport.mk t.Rows t.Cols t.Lo t.Hi)) fun r29 =>
  br (!r29) (k true) <|
  k (decide ((wr ((ln t.Rows) * (ln t.Cols))) > 16))) <|
  fun (x26 : Bool) =>
  br (x26) (Q 0 false) <|
  spec_tFeasible ((Transport.mk t.Rows t.Cols t.Lo t.Hi)) fun r36 r37 =>
  br (!r37) (Q 0 true) <|
  spec_tCounter_run ((TCounter.mk 0 2000)) ((Transport.mk t.Rows t.Cols t.Lo t.Hi)) 0 fun r66 r67 =>
  br (decide (r66 > 2000)) (Q 0 false) <|
  Q r66 true

def spec_CountRoundings (x : List (List Int)) (base : Int) (Q : Int → Bool → Prop) : Prop :=
  spec_oGood x base fun r1 =>
  br (!r1) (Q 0 false) <|
  spec_oNetwork x base fun r4 =>
  spec_CountFlows ((Transport.mk r4.Rows r4.Cols r4.Lo r4.Hi)) fun r39 r40 =>
  Q r39 r40

def impl_hasShape (x : List (List Int)) (rows : Int) (cols : Int) (Q : Bool → Prop) : Prop :=
  br ((ln x) != rows) (Q false) <|
  Loop1 (fun (x1 : Int) nx =>
  br (decide (x1 < (ln x))) (idx x x1 fun x3 =>
  br ((ln x3) != cols) (Q false) <|
  nx (wr (x1 + 1))) <|
  Q true) 0

def impl_isGridOf (x : List (List Int)) (most : Int) (Q : Bool → Prop) : Prop :=
  jn (fun (k : Bool → Prop) => br ((ln x) == 0) (k true) <|
  idx x 0 fun x3 =>
  br ((ln x3) == 0) (k true) <|
  idx x 0 fun x13 =>
  impl_hasShape x (ln x) (ln x13) fun r25 =>
  k (!r25)) <|
  fun (x1 : Bool) =>
  br (x1) (Q false) <|
  Loop1 (fun (x30 : Int) nx =>
  br (decide (x30 < (ln x))) (idx x x30 fun x33 =>
  Loop1 (fun (x46 : Int) nx51 =>
  br (decide (x46 < (ln x33))) (idx x33 x46 fun x53 =>
  jn (fun (k65 : Bool → Prop) => br (decide (x53 < 0)) (k65 true) <|
  k65 (decide (x53 > most))) <|
  fun (x63 : Bool) =>
  br (x63) (Q false) <|
  nx51 (wr (x46 + 1))) <|
  nx (wr (x30 + 1))) 0) <|
  Q true) 0

def impl_isMatrix (x : List (List Int)) (Q : Bool → Prop) : Prop :=
  jn (fun (k : Bool → Prop) => br (decide ((ln x) < 1)) (k true) <|
  br (decide ((ln x) > 7)) (k true) <|
  idx x 0 fun x3 =>
  k (decide ((ln x3) > 7))) <|
  fun (x1 : Bool) =>
  br (x1) (Q false) <|
  impl_isGridOf x 10000 fun r13 =>
  Q r13

def impl_isBaseOf (base : Int) (Q : Bool → Prop) : Prop :=
  jn (fun (k : Bool → Prop) => br (decide (base ≥ 2)) (k (decide (base ≤ 100))) <|
  k false) <|
  fun (x : Bool) =>
  Q x

def impl_roundingNetwork_1 (n : Int) (c : Int) (Q : Int → Prop) : Prop :=
  c ≠ 0 ∧ (
  Q (wr (Int.tdiv n c)))

def impl_roundingNetwork_2 (n : Int) (c : Int) (Q : Int → Prop) : Prop :=
  c ≠ 0 ∧ (
  Q (wr (Int.tdiv (wr ((wr (n + c)) - 1)) c)))

def impl_rowSums (x : List (List Int)) (Q : (List Int) → Prop) : Prop :=
  (0 : Int) ≤ (ln x) ∧ 8 * (ln x) ≤ 140737488355328 ∧ (
  Loop2 (fun (sums : List Int) (x12 : Int) nx =>
  br (decide (x12 < (ln x))) (idx x x12 fun x15 =>
  Loop2 (fun (sums25 : List Int) (x31 : Int) nx37 =>
  br (decide (x31 < (ln x15))) (idx x15 x31 fun x39 =>
  idx sums25 x12 fun x50 =>
  (0 : Int) ≤ x12 ∧ Int.toNat x12 < List.length sums25 ∧ (
  nx37 (List.set sums25 (Int.toNat x12) (wr (x50 + x39))) (wr (x31 + 1)))) <|
  nx sums25 (wr (x12 + 1))) sums 0) <|
  Q sums) (List.replicate (Int.toNat (ln x)) ((0 : Int))) 0)

def impl_colSums (x : List (List Int)) (Q : (List Int) → Prop) : Prop :=
  idx x 0 fun x1 =>
  (0 : Int) ≤ (ln x1) ∧ 8 * (ln x1) ≤ 140737488355328 ∧ (
  Loop2 (fun (sums : List Int) (x21 : Int) nx =>
  br (decide (x21 < (ln x))) (idx x x21 fun x24 =>
  Loop2 (fun (sums37 : List Int) (x43 : Int) nx49 =>
  br (decide (x43 < (ln x24))) (idx x24 x43 fun x51 =>
  idx sums37 x43 fun x62 =>
  (0 : Int) ≤ x43 ∧ Int.toNat x43 < List.length sums37 ∧ (
  nx49 (List.set sums37 (Int.toNat x43) (wr (x62 + x51))) (wr (x43 + 1)))) <|
  nx sums37 (wr (x21 + 1))) sums 0) <|
  Q sums) (List.replicate (Int.toNat (ln x1)) ((0 : Int))) 0)

def impl_total (l : List Int) (Q : Int → Prop) : Prop :=
  Loop2 (fun (sum : Int) (x : Int) nx =>
  br (decide (x < (ln l))) (idx l x fun x1 =>
  nx (wr (sum + x1)) (wr (x + 1))) <|
  Q sum) 0 0

def impl_roundingNetwork (x : List (List Int)) (base : Int) (Q : Transport → Prop) : Prop :=
  idx x 0 fun x8 =>
  (0 : Int) ≤ (wr ((ln x) + 1)) ∧ 8 * (wr ((ln x) + 1)) ≤ 140737488355328 ∧ (
  (0 : Int) ≤ (wr ((ln x8) + 1)) ∧ 8 * (wr ((ln x8) + 1)) ≤ 140737488355328 ∧ (
  (0 : Int) ≤ (wr ((ln x) + 1)) ∧ 24 * (wr ((ln x) + 1)) ≤ 140737488355328 ∧ (
  (0 : Int) ≤ (wr ((ln x) + 1)) ∧ 24 * (wr ((ln x) + 1)) ≤ 140737488355328 ∧ (
  Loop3 (fun (x102 : Int) (lo : List (List Int)) (hi108 : List (List Int)) nx =>
  br (decide (x102 < (ln (List.replicate (Int.toNat (wr ((ln x) + 1))) (([] : List Int)))))) ((
  (0 : Int) ≤ (wr ((ln x8) + 1)) ∧ 8 * (wr ((ln x8) + 1)) ≤ 140737488355328 ∧ (
  (
  (0 : Int) ≤ (wr ((ln x8) + 1)) ∧ 8 * (wr ((ln x8) + 1)) ≤ 140737488355328 ∧ (
  (0 : Int) ≤ x102 ∧ Int.toNat x102 < List.length lo ∧ (
  (0 : Int) ≤ x102 ∧ Int.toNat x102 < List.length hi108 ∧ (
  nx (wr (x102 + 1)) (List.set lo (Int.toNat x102) (List.replicate (Int.toNat (wr ((ln x8) + 1))) ((0 : Int)))) (List.set hi108 (Int.toNat x102) (List.replicate (Int.toNat (wr ((ln x8) + 1))) ((0 : Int)))))))) ∧ (
  (0 : Int) ≤ x102 ∧ Int.toNat x102 < List.length lo ∧ (
  (0 : Int) ≤ (wr ((ln x8) + 1)) ∧ 8 * (wr ((ln x8) + 1)) ≤ 140737488355328 ∧ (
  (0 : Int) ≤ x102 ∧ Int.toNat x102 < List.length hi108 ∧ (
  nx (wr (x102 + 1)) (List.set lo (Int.toNat x102) (List.replicate (Int.toNat (wr ((ln x8) + 1))) ((0 : Int)))) (List.set hi108 (Int.toNat x102) (List.replicate (Int.toNat (wr ((ln x8) + 1))) ((0 : Int)))))))))) ∧ (
  (0 : Int) ≤ (wr ((ln x8) + 1)) ∧ 8 * (wr ((ln x8) + 1)) ≤ 140737488355328 ∧ (
  (0 : Int) ≤ (wr ((ln x8) + 1)) ∧ 8 * (wr ((ln x8) + 1)) ≤ 140737488355328 ∧ (
  (0 : Int) ≤ x102 ∧ Int.toNat x102 < List.length lo ∧ (
  (0 : Int) ≤ x102 ∧ Int.toNat x102 < List.length hi108 ∧ (
  nx (wr (x102 + 1)) (List.set lo (Int.toNat x102) (List.replicate (Int.toNat (wr ((ln x8) + 1))) ((0 : Int)))) (List.set hi108 (Int.toNat x102) (List.replicate (Int.toNat (wr ((ln x8) + 1))) ((0 : Int)))))))))) <|
  Loop3 (fun (x468 : Int) (lo469 : List (List Int)) (hi475 : List (List Int)) nx495 =>
  br (decide (x468 < (ln x))) (idx x x468 fun x497 =>
  Loop3 (fun (x523 : Int) (lo524 : List (List Int)) (hi530 : List (List Int)) nx550 =>
  br (decide (x523 < (ln x497))) (idx x497 x523 fun x552 =>
  idx lo524 x468 fun x571 =>
  idx hi530 x468 fun x584 =>
  impl_roundingNetwork_1 x552 base fun r602 =>
  impl_roundingNetwork_2 x552 base fun r632 =>
  (0 : Int) ≤ x523 ∧ Int.toNat x523 < List.length x571 ∧ (
  (0 : Int) ≤ x523 ∧ Int.toNat x523 < List.length x584 ∧ (
  nx550 (wr (x523 + 1)) (List.set lo524 (Int.toNat x468) (List.set x571 (Int.toNat x523) r602)) (List.set hi530 (Int.toNat x468) (List.set x584 (Int.toNat x523) r632))))) <|
  nx495 (wr (x468 + 1)) lo524 hi530) 0 lo469 hi475) <|
  impl_rowSums x fun r702 =>
  impl_colSums x fun r726 =>
  Loop3 (fun (x737 : Int) (rows : List Int) (hi743 : List (List Int)) nx775 =>
  br (decide (x737 < (ln r702))) (idx r702 x737 fun x777 =>
  impl_roundingNetwork_2 x777 base fun r803 =>
  (0 : Int) ≤ x737 ∧ Int.toNat x737 < List.length rows ∧ (
  idx hi743 x737 fun x848 =>
  impl_roundingNetwork_2 x777 base fun r866 =>
  impl_roundingNetwork_1 x777 base fun r879 =>
  (0 : Int) ≤ (ln x8) ∧ Int.toNat (ln x8) < List.length x848 ∧ (
  nx775 (wr (x737 + 1)) (List.set rows (Int.toNat x737) r803) (List.set hi743 (Int.toNat x737) (List.set x848 (Int.toNat (ln x8)) (wr (r866 - r879))))))) <|
  Loop3 (fun (x923 : Int) (cols : List Int) (hi929 : List (List Int)) nx962 =>
  br (decide (x923 < (ln r726))) (idx r726 x923 fun x964 =>
  impl_roundingNetwork_2 x964 base fun r1004 =>
  (0 : Int) ≤ x923 ∧ Int.toNat x923 < List.length cols ∧ (
  idx hi929 (ln x) fun x1055 =>
  impl_roundingNetwork_2 x964 base fun r1073 =>
  impl_roundingNetwork_1 x964 base fun r1086 =>
  (0 : Int) ≤ x923 ∧ Int.toNat x923 < List.length x1055 ∧ (
  nx962 (wr (x923 + 1)) (List.set cols (Int.toNat x923) r1004) (List.set hi929 (Int.toNat (ln x)) (List.set x1055 (Int.toNat x923) (wr (r1073 - r1086))))))) <|
  impl_total r702 fun r1130 =>
  idx hi929 (ln x) fun x1161 =>
  impl_roundingNetwork_2 r1130 base fun r1179 =>
  impl_roundingNetwork_1 r1130 base fun r1214 =>
  (0 : Int) ≤ (ln x8) ∧ Int.toNat (ln x8) < List.length x1161 ∧ (
  det1 (impl_total cols) fun r1246 =>
  impl_roundingNetwork_1 r1130 base fun r1251 =>
  (0 : Int) ≤ (ln x) ∧ Int.toNat (ln x) < List.length rows ∧ (
  (0 : Int) ≤ 0 ∧ 0 ≤ (ln x) ∧ (ln x) ≤ ln (List.set rows (Int.toNat (ln x)) (wr (r1246 - r1251))) ∧ (
  det1 (impl_total (List.take (Int.toNat (ln x) - Int.toNat 0) (List.drop (Int.toNat 0) (List.set rows (Int.toNat (ln x)) (wr (r1246 - r1251)))))) fun r1295 =>
  impl_roundingNetwork_1 r1130 base fun r1300 =>
  (0 : Int) ≤ (ln x8) ∧ Int.toNat (ln x8) < List.length cols ∧ (
  Q ((Transport.mk (List.set rows (Int.toNat (ln x)) (wr (r1246 - r1251))) (List.set cols (Int.toNat (ln x8)) (wr (r1295 - r1300))) lo469 (List.set hi929 (Int.toNat (ln x)) (List.set x1161 (Int.toNat (ln x8)) (wr (r1179 - r1214))))))))))) 0 (List.replicate (Int.toNat (wr ((ln x8) + 1))) ((0 : Int))) hi743) 0 (List.replicate (Int.toNat (wr ((ln x) + 1))) ((0 : Int))) hi475) 0 lo hi108) 0 (List.replicate (Int.toNat (wr ((ln x) + 1))) (([] : List Int))) (List.replicate (Int.toNat (wr ((ln x) + 1))) (([] : List Int)))))))

def impl_residual (t : Transport) (x : List (List Int)) (fixed : Int) (Q : (List (List Int)) → Prop) : Prop :=
  (0 : Int) ≤ (wr ((ln t.Rows) + (ln t.Cols))) ∧ 24 * (wr ((ln t.Rows) + (ln t.Cols))) ≤ 140737488355328 ∧ (
  Loop2 (fun (r37 : List (List Int)) (x43 : Int) nx =>
  br (decide (x43 < (ln (List.replicate (Int.toNat (wr ((ln t.Rows) + (ln t.Cols)))) (([] : List Int)))))) ((0 : Int) ≤ (wr ((ln t.Rows) + (ln t.Cols))) ∧ 8 * (wr ((ln t.Rows) + (ln t.Cols))) ≤ 140737488355328 ∧ (
  (0 : Int) ≤ x43 ∧ Int.toNat x43 < List.length r37 ∧ (
  nx (List.set r37 (Int.toNat x43) (List.replicate (Int.toNat (wr ((ln t.Rows) + (ln t.Cols)))) ((0 : Int)))) (wr (x43 + 1))))) <|
  Loop2 (fun (r66 : List (List Int)) (x72 : Int) nx78 =>
  br (decide (x72 < (ln x))) (idx x x72 fun x80 =>
  Loop2 (fun (r94 : List (List Int)) (x100 : Int) nx106 =>
  br (decide (x100 < (ln x80))) (jn (fun (k : (List (List Int)) → Prop) => idx x80 x100 fun x168 =>
  br (decide ((wr ((wr (x72 * (ln t.Cols))) + x100)) > fixed)) (idx r94 x72 fun x180 =>
  idx t.Hi x72 fun x194 =>
  idx x194 x100 fun x209 =>
  (0 : Int) ≤ (wr ((ln t.Rows) + x100)) ∧ Int.toNat (wr ((ln t.Rows) + x100)) < List.length x180 ∧ (
  idx (List.set r94 (Int.toNat x72) (List.set x180 (Int.toNat (wr ((ln t.Rows) + x100))) (wr (x209 - x168)))) (wr ((ln t.Rows) + x100)) fun x241 =>
  idx t.Lo x72 fun x260 =>
  idx x260 x100 fun x278 =>
  (0 : Int) ≤ x72 ∧ Int.toNat x72 < List.length x241 ∧ (
  k (List.set (List.set r94 (Int.toNat x72) (List.set x180 (Int.toNat (wr ((ln t.Rows) + x100))) (wr (x209 - x168)))) (Int.toNat (wr ((ln t.Rows) + x100))) (List.set x241 (Int.toNat x72) (wr (x168 - x278))))))) <|
  k r94) <|
  fun (r160 : List (List Int)) =>
  nx106 r160 (wr (x100 + 1))) <|
  nx78 r94 (wr (x72 + 1))) r66 0) <|
  Q r66) r37 0) (List.replicate (Int.toNat (wr ((ln t.Rows) + (ln t.Cols)))) (([] : List Int))) 0)

def impl_push (r : List (List Int)) (fromx : Int) (to : Int) (limit : Int) (Q : Int → (List (List Int)) → Prop) : Prop :=
  jn (fun (k : Int → (List (List Int)) → Prop) => Loop2 (fun (r7 : List (List Int)) (sent13 : Int) nx =>
  br (decide (sent13 < limit)) ((0 : Int) ≤ (ln r) ∧ 8 * (ln r) ≤ 140737488355328 ∧ (
  Loop2 (fun (back : List Int) (x29 : Int) nx35 =>
  br (decide (x29 < (ln (List.replicate (Int.toNat (ln r)) ((0 : Int)))))) ((0 : Int) ≤ x29 ∧ Int.toNat x29 < List.length back ∧ (
  nx35 (List.set back (Int.toNat x29) ((-1))) (wr (x29 + 1)))) <|
  (0 : Int) ≤ fromx ∧ Int.toNat fromx < List.length back ∧ (
  Loop2 (fun (back62 : List Int) (queue : List Int) nx83 =>
  jn (fun (k110 : Bool → Prop) => br (decide ((ln queue) > 0)) (idx back62 to fun x113 =>
  k110 (decide (x113 < 0))) <|
  k110 false) <|
  fun (x108 : Bool) =>
  br (x108) (idx queue 0 fun x122 =>
  (0 : Int) ≤ 1 ∧ 1 ≤ ln queue ∧ (
  idx r7 x122 fun x136 =>
  Loop3 (fun (back148 : List Int) (queue154 : List Int) (x160 : Int) nx173 =>
  br (decide (x160 < (ln x136))) (jn (fun (k207 : (List Int) → (List Int) → Prop) => idx x136 x160 fun x209 =>
  jn (fun (k220 : Bool → Prop) => br (decide (x209 > 0)) (idx back148 x160 fun x223 =>
  k220 (decide (x223 < 0))) <|
  k220 false) <|
  fun (x218 : Bool) =>
  br (x218) ((0 : Int) ≤ x160 ∧ Int.toNat x160 < List.length back148 ∧ (
  (ln queue154 + ln ([x160])) * 8 ≤ 140737488355328 ∧ (
  k207 (List.set back148 (Int.toNat x160) x122) (queue154 ++ ([x160]))))) <|
  k207 back148 queue154) <|
  fun (back186 : List Int) (queue192 : List Int) =>
  nx173 back186 queue192 (wr (x160 + 1))) <|
  nx83 back148 queue154) back62 (List.drop (Int.toNat 1) queue) 0)) <|
  idx back62 to fun x281 =>
  br (decide (x281 < 0)) (k sent13 r7) <|
  Loop2 (fun (step : Int) (vx298 : Int) nx303 =>
  br (vx298 != fromx) (idx back62 vx298 fun x305 =>
  idx r7 x305 fun x314 =>
  idx x314 vx298 fun x326 =>
  idx back62 vx298 fun x335 =>
  nx303 (mn step x326) x335) <|
  Loop2 (fun (r344 : List (List Int)) (vx350 : Int) nx357 =>
  br (vx350 != fromx) (idx back62 vx350 fun x359 =>
  idx r344 x359 fun x371 =>
  idx x371 vx350 fun x382 =>
  (0 : Int) ≤ vx350 ∧ Int.toNat vx350 < List.length x371 ∧ (
  idx (List.set r344 (Int.toNat x359) (List.set x371 (Int.toNat vx350) (wr (x382 - step)))) vx350 fun x407 =>
  idx back62 vx350 fun x423 =>
  idx x407 x423 fun x436 =>
  (0 : Int) ≤ x423 ∧ Int.toNat x423 < List.length x407 ∧ (
  idx back62 vx350 fun x467 =>
  nx357 (List.set (List.set r344 (Int.toNat x359) (List.set x371 (Int.toNat vx350) (wr (x382 - step)))) (Int.toNat vx350) (List.set x407 (Int.toNat x423) (wr (x436 + step)))) x467))) <|
  nx r344 (wr (sent13 + step))) r7 to) (wr (limit - sent13)) to) (List.set back (Int.toNat fromx) fromx) ([fromx]))) (List.replicate (Int.toNat (ln r)) ((0 : Int))) 0)) <|
  k sent13 r7) r 0) <|
  fun (sent : Int) (r2 : List (List Int)) =>
  Q sent r2

def slices_Clone_int_int (sx : List Int) (Q : (List Int) → Prop) : Prop :=
  nilq sx fun z =>
  br (z) (Q ([])) <|
  (ln (([] : List Int)) + ln sx) * 8 ≤ 140737488355328 ∧ (
  Q ((([] : List Int)) ++ sx))

def impl_copyMatrix (x : List (List Int)) (Q : (List (List Int)) → Prop) : Prop :=
  (0 : Int) ≤ (ln x) ∧ 24 * (ln x) ≤ 140737488355328 ∧ (
  (0 : Int) < ln (List.replicate (Int.toNat (ln x)) (([] : List Int))) ∧ Loop2 (fun (out : List (List Int)) (x12 : Int) nx =>
  br (decide (x12 < (ln x))) (idx x x12 fun x15 =>
  slices_Clone_int_int x15 fun r25 =>
  (0 : Int) ≤ x12 ∧ Int.toNat x12 < List.length out ∧ (
  nx (List.set out (Int.toNat x12) r25) (wr (x12 + 1)))) <|
  Q out) (List.replicate (Int.toNat (ln x)) (([] : List Int))) 0)

def impl_restore (t : Transport) (x : List (List Int)) (r25 : List (List Int)) (fixed : Int) (Q : (List (List Int)) → Prop) : Prop :=
  impl_copyMatrix x fun r36 =>
  Loop2 (fun (out : List (List Int)) (x51 : Int) nx =>
  br (decide (x51 < (ln r36))) (idx out x51 fun x55 =>
  Loop2 (fun (out64 : List (List Int)) (x70 : Int) nx77 =>
  br (decide (x70 < (ln x55))) (jn (fun (k : (List (List Int)) → Prop) => br (decide ((wr ((wr (x51 * (ln t.Cols))) + x70)) > fixed)) (idx out64 x51 fun x130 =>
  idx t.Hi x51 fun x144 =>
  idx x144 x70 fun x159 =>
  idx r25 x51 fun x170 =>
  idx x170 (wr ((ln t.Rows) + x70)) fun x185 =>
  (0 : Int) ≤ x70 ∧ Int.toNat x70 < List.length x130 ∧ (
  k (List.set out64 (Int.toNat x51) (List.set x130 (Int.toNat x70) (wr (x159 - x185)))))) <|
  k out64) <|
  fun (out118 : List (List Int)) =>
  nx77 out118 (wr (x70 + 1))) <|
  nx out64 (wr (x51 + 1))) out 0) <|
  Q out) r36 0

def impl_fill (t : Transport) (Q : (List (List Int)) → Prop) : Prop :=
  impl_residual ((Transport.mk t.Rows t.Cols t.Lo t.Hi)) t.Lo ((-1)) fun r23 =>
  (0 : Int) ≤ (wr ((wr ((ln t.Rows) + (ln t.Cols))) + 2)) ∧ 24 * (wr ((wr ((ln t.Rows) + (ln t.Cols))) + 2)) ≤ 140737488355328 ∧ (
  Loop2 (fun (r45 : List (List Int)) (x51 : Int) nx =>
  br (decide (x51 < (ln (List.replicate (Int.toNat (wr ((wr ((ln t.Rows) + (ln t.Cols))) + 2))) (([] : List Int)))))) (jn (fun (k : (List (List Int)) → Prop) => (0 : Int) ≤ (wr ((wr ((ln t.Rows) + (ln t.Cols))) + 2)) ∧ 8 * (wr ((wr ((ln t.Rows) + (ln t.Cols))) + 2)) ≤ 140737488355328 ∧ (
  (0 : Int) ≤ x51 ∧ Int.toNat x51 < List.length r45 ∧ (
  br (decide (x51 < (wr ((ln t.Rows) + (ln t.Cols))))) (idx (List.set r45 (Int.toNat x51) (List.replicate (Int.toNat (wr ((wr ((ln t.Rows) + (ln t.Cols))) + 2))) ((0 : Int)))) x51 fun x110 =>
  idx r23 x51 fun x123 =>
  k (List.set (List.set r45 (Int.toNat x51) (List.replicate (Int.toNat (wr ((wr ((ln t.Rows) + (ln t.Cols))) + 2))) ((0 : Int)))) (Int.toNat x51) (List.take (List.length x110) x123 ++ List.drop (List.length x123) x110))) <|
  k (List.set r45 (Int.toNat x51) (List.replicate (Int.toNat (wr ((wr ((ln t.Rows) + (ln t.Cols))) + 2))) ((0 : Int))))))) <|
  fun (r81 : List (List Int)) =>
  nx r81 (wr (x51 + 1))) <|
  impl_rowSums t.Lo fun r170 =>
  impl_colSums t.Lo fun r189 =>
  Loop2 (fun (r203 : List (List Int)) (x209 : Int) nx217 =>
  br (decide (x209 < (ln t.Rows))) (idx t.Rows x209 fun x219 =>
  idx r170 x209 fun x234 =>
  br (decide (x219 < x234)) (Q ([])) <|
  idx r203 (wr ((ln t.Rows) + (ln t.Cols))) fun x258 =>
  idx r170 x209 fun x274 =>
  (0 : Int) ≤ x209 ∧ Int.toNat x209 < List.length x258 ∧ (
  nx217 (List.set r203 (Int.toNat (wr ((ln t.Rows) + (ln t.Cols)))) (List.set x258 (Int.toNat x209) (wr (x219 - x274)))) (wr (x209 + 1)))) <|
  Loop2 (fun (r313 : List (List Int)) (x319 : Int) nx325 =>
  br (decide (x319 < (ln t.Cols))) (idx t.Cols x319 fun x327 =>
  idx r189 x319 fun x344 =>
  br (decide (x327 < x344)) (Q ([])) <|
  idx r313 (wr ((ln t.Rows) + x319)) fun x373 =>
  idx r189 x319 fun x389 =>
  (0 : Int) ≤ (wr ((wr ((ln t.Rows) + (ln t.Cols))) + 1)) ∧ Int.toNat (wr ((wr ((ln t.Rows) + (ln t.Cols))) + 1)) < List.length x373 ∧ (
  nx325 (List.set r313 (Int.toNat (wr ((ln t.Rows) + x319))) (List.set x373 (Int.toNat (wr ((wr ((ln t.Rows) + (ln t.Cols))) + 1))) (wr (x327 - x389)))) (wr (x319 + 1)))) <|
  impl_total t.Rows fun r427 =>
  impl_push r313 (wr ((ln t.Rows) + (ln t.Cols))) (wr ((wr ((ln t.Rows) + (ln t.Cols))) + 1)) r427 fun r438 r439 =>
  impl_restore ((Transport.mk t.Rows t.Cols t.Lo t.Hi)) t.Lo r439 ((-1)) fun r449 =>
  Q r449) r203 0) r45 0) (List.replicate (Int.toNat (wr ((wr ((ln t.Rows) + (ln t.Cols))) + 2))) (([] : List Int))) 0)

def slices_Equal_int_int (sx : List Int) (sx1 : List Int) (Q : Bool → Prop) : Prop :=
  br ((ln sx) != (ln sx1)) (Q false) <|
  Loop1 (fun (x : Int) nx =>
  br (decide (x < (ln sx))) (idx sx x fun x10 =>
  idx sx1 x fun x17 =>
  br (x10 != x17) (Q false) <|
  nx (wr (x + 1))) <|
  Q true) 0

def impl_anyFlow (t : Transport) (Q : (List (List Int)) → Prop) : Prop :=
  det1 (impl_total t.Rows) fun r20 =>
  det1 (impl_total t.Cols) fun r24 =>
  br (r20 != r24) (Q ([])) <|
  impl_fill ((Transport.mk t.Rows t.Cols t.Lo t.Hi)) fun r33 =>
  jn (fun (k : Bool → Prop) => br (ln r33 == 0) (k true) <|
  impl_rowSums r33 fun r66 =>
  det1 (slices_Equal_int_int r66 t.Rows) fun r80 =>
  k (!r80)) <|
  fun (x57 : Bool) =>
  br (x57) (Q ([])) <|
  Q r33

def impl_lowered (t : Transport) (x : List (List Int)) (i : Int) (j : Int) (Q : (List (List Int)) → Prop) : Prop :=
  impl_residual ((Transport.mk t.Rows t.Cols t.Lo t.Hi)) x (wr ((wr (i * (ln t.Cols))) + j)) fun r30 =>
  idx x i fun x46 =>
  idx x46 j fun x59 =>
  idx t.Lo i fun x71 =>
  idx x71 j fun x86 =>
  impl_push r30 i (wr ((ln t.Rows) + j)) (wr (x59 - x86)) fun r99 r100 =>
  impl_restore ((Transport.mk t.Rows t.Cols t.Lo t.Hi)) x r100 (wr ((wr (i * (ln t.Cols))) + j)) fun r109 =>
  idx r109 i fun x130 =>
  idx x130 j fun x141 =>
  (0 : Int) ≤ j ∧ Int.toNat j < List.length x130 ∧ (
  Q (List.set r109 (Int.toNat i) (List.set x130 (Int.toNat j) (wr (x141 - r99)))))

def impl_firstFrom (t : Transport) (x : List (List Int)) (fromx : Int) (Q : (List (List Int)) → Prop) : Prop :=
  (0 : Int) < ln x ∧ Loop2 (fun (x31 : List (List Int)) (p : Int) nx =>
  br (decide (p < (wr ((ln t.Rows) * (ln t.Cols))))) ((ln t.Cols) ≠ 0 ∧ (
  (ln t.Cols) ≠ 0 ∧ (
  impl_lowered ((Transport.mk t.Rows t.Cols t.Lo t.Hi)) x31 (wr (Int.tdiv p (ln t.Cols))) (Int.tmod p (ln t.Cols)) fun r50 =>
  nx r50 (wr (p + 1))))) <|
  Q x31) x (wr (fromx + 1))

def impl_firstFlow (t : Transport) (Q : (List (List Int)) → Prop) : Prop :=
  impl_anyFlow ((Transport.mk t.Rows t.Cols t.Lo t.Hi)) fun r23 =>
  br (ln r23 == 0) (Q ([])) <|
  impl_firstFrom ((Transport.mk t.Rows t.Cols t.Lo t.Hi)) r23 ((-1)) fun r38 =>
  Q r38

def impl_nextFlow (t : Transport) (x : List (List Int)) (Q : (List (List Int)) → Prop) : Prop :=
  Loop1 (fun (p : Int) nx =>
  br (decide (p ≥ 0)) (jn (fun (k : Prop) => (ln t.Cols) ≠ 0 ∧ (
  (ln t.Cols) ≠ 0 ∧ (
  idx x (wr (Int.tdiv p (ln t.Cols))) fun x49 =>
  idx x49 (Int.tmod p (ln t.Cols)) fun x59 =>
  idx t.Hi (wr (Int.tdiv p (ln t.Cols))) fun x69 =>
  idx x69 (Int.tmod p (ln t.Cols)) fun x82 =>
  br (x59 == x82) (k) <|
  impl_residual ((Transport.mk t.Rows t.Cols t.Lo t.Hi)) x p fun r96 =>
  impl_push r96 (wr ((ln t.Rows) + (Int.tmod p (ln t.Cols)))) (wr (Int.tdiv p (ln t.Cols))) 1 fun r111 r112 =>
  br (r111 == 0) (k) <|
  impl_restore ((Transport.mk t.Rows t.Cols t.Lo t.Hi)) x r112 p fun r122 =>
  idx r122 (wr (Int.tdiv p (ln t.Cols))) fun x142 =>
  idx x142 (Int.tmod p (ln t.Cols)) fun x153 =>
  (0 : Int) ≤ (Int.tmod p (ln t.Cols)) ∧ Int.toNat (Int.tmod p (ln t.Cols)) < List.length x142 ∧ (
  impl_firstFrom ((Transport.mk t.Rows t.Cols t.Lo t.Hi)) (List.set r122 (Int.toNat (wr (Int.tdiv p (ln t.Cols)))) (List.set x142 (Int.toNat (Int.tmod p (ln t.Cols))) (wr (x153 + 1)))) p fun r175 =>
  Q r175)))) <|
  nx (wr (p - 1))) <|
  Q ([])) (wr ((wr ((ln t.Rows) * (ln t.Cols))) - 1))

def impl_countFlows (t : Transport) (Q : Int → Bool → Prop) : Prop :=
  br (decide ((wr ((ln t.Rows) * (ln t.Cols))) > 16)) (Q 0 false) <|
  impl_firstFlow ((Transport.mk t.Rows t.Cols t.Lo t.Hi)) fun r21 =>
  Loop2 (fun (n : Int) (x34 : List (List Int)) nx =>
  br (!(ln x34 == 0)) (br (decide ((wr (n + 1)) > 2000)) (Q 0 false) <|
  impl_nextFlow ((Transport.mk t.Rows t.Cols t.Lo t.Hi)) x34 fun r53 =>
  nx (wr (n + 1)) r53) <|
  Q n true) 0 r21

def impl_CountRoundings (x : List (List Int)) (base : Int) (Q : Int → Bool → Prop) : Prop :=
  jn (fun (k : Bool → Prop) => impl_isMatrix x fun r3 =>
  br (!r3) (k true) <|
  impl_isBaseOf base fun r6 =>
  k (!r6)) <|
  fun (x1 : Bool) =>
  br (x1) (Q 0 false) <|
  impl_roundingNetwork x base fun r11 =>
  impl_countFlows ((Transport.mk r11.Rows r11.Cols r11.Lo r11.Hi)) fun r46 r47 =>
  Q r46 r47

def laws_eqIntS (a : List Int) (b : List Int) (Q : Bool → Prop) : Prop :=
  br ((ln a) != (ln b)) (Q false) <|
  Loop1 (fun (i : Int) nx =>
  br (decide (i < (ln a))) (idx a i fun x =>
  idx b i fun x16 =>
  br (x != x16) (Q false) <|
  nx (wr (i + 1))) <|
  Q true) 0

def laws_eqIntSS (a : List (List Int)) (b : List (List Int)) (Q : Bool → Prop) : Prop :=
  br ((ln a) != (ln b)) (Q false) <|
  Loop1 (fun (i : Int) nx =>
  br (decide (i < (ln a))) (idx a i fun x =>
  idx b i fun x19 =>
  det1 (laws_eqIntS x x19) fun r32 =>
  br (!r32) (Q false) <|
  nx (wr (i + 1))) <|
  Q true) 0

def laws_FnExactCountRoundings (aX : List (List Int)) (aBase : Int) (Q : Bool → Prop) : Prop :=
  laws_szIntSS aX 1048576 fun r1 =>
  br (decide (r1 < 0)) (Q true) <|
  laws_toIntSS aX fun r3 =>
  spec_CountRoundings r3 aBase fun r12 r13 =>
  laws_toIntSS aX fun r16 =>
  impl_CountRoundings r16 aBase fun r27 r28 =>
  jn (fun (k : Bool → Prop) => br (r27 != r12) (k true) <|
  k (r28 != r13)) <|
  fun (x39 : Bool) =>
  br (x39) (Q false) <|
  laws_toIntSS aX fun r43 =>
  laws_eqIntSS r16 r43 fun r53 =>
  br (!r53) (Q false) <|
  Q true

end Go.Proofs.Ytommbnkecafodaa
