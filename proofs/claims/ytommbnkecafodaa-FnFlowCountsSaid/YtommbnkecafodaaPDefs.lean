/- What each Go function means: a definition over numbers and lists; Q: what is to hold of its results. -/
import Derived.Test.YtommbnkecafodaaLib
set_option linter.unusedVariables false
set_option autoImplicit false
namespace Go.Proofs.Ytommbnkecafodaa
open Go Go.RowKit Go.Gv

structure Transport where
  Rows : List Int
  Cols : List Int
  Lo : List (List Int)
  Hi : List (List Int)
instance : Wf Transport := ⟨fun x => Wf.wf x.Rows ∧ Wf.wf x.Cols ∧ Wf.wf x.Lo ∧ Wf.wf x.Hi⟩
instance : Deep Transport := Deep.via (fun x => (x.Rows, x.Cols, x.Lo, x.Hi))
theorem Transport_rd {h : PH} {cs : List Value} {x : Transport} (r : Enc.rd h cs x) : ∃ u0 u1 u2 u3, cs = [u0, u1, u2, u3] ∧ RS h u0 x.Rows ∧ RS h u1 x.Cols ∧ RS h u2 x.Lo ∧ RS h u3 x.Hi := by
  obtain ⟨_, _, rfl, ⟨u0, rfl, r0⟩, ⟨_, _, rfl, ⟨u1, rfl, r1⟩, ⟨_, _, rfl, ⟨u2, rfl, r2⟩, ⟨u3, rfl, r3⟩⟩⟩⟩ := r; exact ⟨_, _, _, _, rfl, r0, r1, r2, r3⟩
theorem Transport_rv {h : PH} {v : Value} {x : Transport} (r : RV h v x) : ∃ u0 u1 u2 u3, v = .agg #[u0, u1, u2, u3] ∧ RS h u0 x.Rows ∧ RS h u1 x.Cols ∧ RS h u2 x.Lo ∧ RS h u3 x.Hi := by
  obtain ⟨cs, hr, rfl⟩ := r; obtain ⟨u0, u1, u2, u3, rfl, r0, r1, r2, r3⟩ := Transport_rd hr; exact ⟨_, _, _, _, rfl, r0, r1, r2, r3⟩
theorem Transport_bw0 {h hi rest : PH} {v : Value} {xs : List Transport} {i : Nat} {c : List Value} {x : Transport} (b : Bw h v xs i hi rest c x) : ∃ u0 u1 u2 u3 hl rs, c = [u0, u1, u2, u3] ∧ BwG h v xs hl rs u0 x.Rows (fun y => xs.set i {x with Rows := y}) := by
  have o := b.own
  obtain ⟨_, _, _, _, rfl, rfl, d0, p0, n0⟩ := o
  obtain ⟨u0, rfl, q0⟩ := p0
  obtain ⟨_, _, _, _, rfl, rfl, d1, p1, n1⟩ := n0
  obtain ⟨u1, rfl, q1⟩ := p1
  obtain ⟨_, _, _, _, rfl, rfl, d2, p2, n2⟩ := n1
  obtain ⟨u2, rfl, q2⟩ := p2
  obtain ⟨u3, rfl, q3⟩ := n2
  exact ⟨_, _, _, _, _, _, rfl, b.fc (Fc.via (fun x : Transport => (x.Rows, x.Cols, x.Lo, x.Hi)) (Fc.left (Fc.here q0) ⟨[u1], [u2, u3], _, _, rfl, rfl, d1, ⟨u1, rfl, q1⟩, ⟨[u2], [u3], _, _, rfl, rfl, d2, ⟨u2, rfl, q2⟩, ⟨u3, rfl, q3⟩⟩⟩ d0) fun _ => rfl)⟩
theorem Transport_bw1 {h hi rest : PH} {v : Value} {xs : List Transport} {i : Nat} {c : List Value} {x : Transport} (b : Bw h v xs i hi rest c x) : ∃ u0 u1 u2 u3 hl rs, c = [u0, u1, u2, u3] ∧ BwG h v xs hl rs u1 x.Cols (fun y => xs.set i {x with Cols := y}) := by
  have o := b.own
  obtain ⟨_, _, _, _, rfl, rfl, d0, p0, n0⟩ := o
  obtain ⟨u0, rfl, q0⟩ := p0
  obtain ⟨_, _, _, _, rfl, rfl, d1, p1, n1⟩ := n0
  obtain ⟨u1, rfl, q1⟩ := p1
  obtain ⟨_, _, _, _, rfl, rfl, d2, p2, n2⟩ := n1
  obtain ⟨u2, rfl, q2⟩ := p2
  obtain ⟨u3, rfl, q3⟩ := n2
  exact ⟨_, _, _, _, _, _, rfl, b.fc (Fc.via (fun x : Transport => (x.Rows, x.Cols, x.Lo, x.Hi)) (Fc.right ⟨u0, rfl, q0⟩ (Fc.left (Fc.here q1) ⟨[u2], [u3], _, _, rfl, rfl, d2, ⟨u2, rfl, q2⟩, ⟨u3, rfl, q3⟩⟩ d1) d0) fun _ => rfl)⟩
theorem Transport_bw2 {h hi rest : PH} {v : Value} {xs : List Transport} {i : Nat} {c : List Value} {x : Transport} (b : Bw h v xs i hi rest c x) : ∃ u0 u1 u2 u3 hl rs, c = [u0, u1, u2, u3] ∧ BwG h v xs hl rs u2 x.Lo (fun y => xs.set i {x with Lo := y}) := by
  have o := b.own
  obtain ⟨_, _, _, _, rfl, rfl, d0, p0, n0⟩ := o
  obtain ⟨u0, rfl, q0⟩ := p0
  obtain ⟨_, _, _, _, rfl, rfl, d1, p1, n1⟩ := n0
  obtain ⟨u1, rfl, q1⟩ := p1
  obtain ⟨_, _, _, _, rfl, rfl, d2, p2, n2⟩ := n1
  obtain ⟨u2, rfl, q2⟩ := p2
  obtain ⟨u3, rfl, q3⟩ := n2
  exact ⟨_, _, _, _, _, _, rfl, b.fc (Fc.via (fun x : Transport => (x.Rows, x.Cols, x.Lo, x.Hi)) (Fc.right ⟨u0, rfl, q0⟩ (Fc.right ⟨u1, rfl, q1⟩ (Fc.left (Fc.here q2) ⟨u3, rfl, q3⟩ d2) d1) d0) fun _ => rfl)⟩
theorem Transport_bw3 {h hi rest : PH} {v : Value} {xs : List Transport} {i : Nat} {c : List Value} {x : Transport} (b : Bw h v xs i hi rest c x) : ∃ u0 u1 u2 u3 hl rs, c = [u0, u1, u2, u3] ∧ BwG h v xs hl rs u3 x.Hi (fun y => xs.set i {x with Hi := y}) := by
  have o := b.own
  obtain ⟨_, _, _, _, rfl, rfl, d0, p0, n0⟩ := o
  obtain ⟨u0, rfl, q0⟩ := p0
  obtain ⟨_, _, _, _, rfl, rfl, d1, p1, n1⟩ := n0
  obtain ⟨u1, rfl, q1⟩ := p1
  obtain ⟨_, _, _, _, rfl, rfl, d2, p2, n2⟩ := n1
  obtain ⟨u2, rfl, q2⟩ := p2
  obtain ⟨u3, rfl, q3⟩ := n2
  exact ⟨_, _, _, _, _, _, rfl, b.fc (Fc.via (fun x : Transport => (x.Rows, x.Cols, x.Lo, x.Hi)) (Fc.right ⟨u0, rfl, q0⟩ (Fc.right ⟨u1, rfl, q1⟩ (Fc.right ⟨u2, rfl, q2⟩ (Fc.here q3) d2) d1) d0) fun _ => rfl)⟩
structure L1Cur where
  Code : List B8
  At : Int
  Seed : Int
structure TFill where
  T : Transport
  X : List (List Int)
  Rows : List Int
  Cols : List Int
instance : Wf TFill := ⟨fun x => Wf.wf x.T ∧ Wf.wf x.X ∧ Wf.wf x.Rows ∧ Wf.wf x.Cols⟩
instance : Deep TFill := Deep.via (fun x => (x.T, x.X, x.Rows, x.Cols))
theorem TFill_rd {h : PH} {cs : List Value} {x : TFill} (r : Enc.rd h cs x) : ∃ u0 u1 u2 u3 u4 u5 u6, cs = [u0, u1, u2, u3, u4, u5, u6] ∧ RS h u0 x.T.Rows ∧ RS h u1 x.T.Cols ∧ RS h u2 x.T.Lo ∧ RS h u3 x.T.Hi ∧ RS h u4 x.X ∧ RS h u5 x.Rows ∧ RS h u6 x.Cols := by
  obtain ⟨_, _, rfl, ⟨_, _, rfl, ⟨u0, rfl, r0⟩, ⟨_, _, rfl, ⟨u1, rfl, r1⟩, ⟨_, _, rfl, ⟨u2, rfl, r2⟩, ⟨u3, rfl, r3⟩⟩⟩⟩, ⟨_, _, rfl, ⟨u4, rfl, r4⟩, ⟨_, _, rfl, ⟨u5, rfl, r5⟩, ⟨u6, rfl, r6⟩⟩⟩⟩ := r; exact ⟨_, _, _, _, _, _, _, rfl, r0, r1, r2, r3, r4, r5, r6⟩
theorem TFill_rv {h : PH} {v : Value} {x : TFill} (r : RV h v x) : ∃ u0 u1 u2 u3 u4 u5 u6, v = .agg #[u0, u1, u2, u3, u4, u5, u6] ∧ RS h u0 x.T.Rows ∧ RS h u1 x.T.Cols ∧ RS h u2 x.T.Lo ∧ RS h u3 x.T.Hi ∧ RS h u4 x.X ∧ RS h u5 x.Rows ∧ RS h u6 x.Cols := by
  obtain ⟨cs, hr, rfl⟩ := r; obtain ⟨u0, u1, u2, u3, u4, u5, u6, rfl, r0, r1, r2, r3, r4, r5, r6⟩ := TFill_rd hr; exact ⟨_, _, _, _, _, _, _, rfl, r0, r1, r2, r3, r4, r5, r6⟩
theorem TFill_bw0 {h hi rest : PH} {v : Value} {xs : List TFill} {i : Nat} {c : List Value} {x : TFill} (b : Bw h v xs i hi rest c x) : ∃ u0 u1 u2 u3 u4 u5 u6 hl rs, c = [u0, u1, u2, u3, u4, u5, u6] ∧ BwG h v xs hl rs u0 x.T.Rows (fun y => xs.set i {x with T.Rows := y}) := by
  have o := b.own
  obtain ⟨_, _, _, _, rfl, rfl, d0, p0, n0⟩ := o
  obtain ⟨_, _, _, _, rfl, rfl, d1, p1, n1⟩ := p0
  obtain ⟨u0, rfl, q0⟩ := p1
  obtain ⟨_, _, _, _, rfl, rfl, d2, p2, n2⟩ := n1
  obtain ⟨u1, rfl, q1⟩ := p2
  obtain ⟨_, _, _, _, rfl, rfl, d3, p3, n3⟩ := n2
  obtain ⟨u2, rfl, q2⟩ := p3
  obtain ⟨u3, rfl, q3⟩ := n3
  obtain ⟨_, _, _, _, rfl, rfl, d4, p4, n4⟩ := n0
  obtain ⟨u4, rfl, q4⟩ := p4
  obtain ⟨_, _, _, _, rfl, rfl, d5, p5, n5⟩ := n4
  obtain ⟨u5, rfl, q5⟩ := p5
  obtain ⟨u6, rfl, q6⟩ := n5
  exact ⟨_, _, _, _, _, _, _, _, _, rfl, b.fc (Fc.via (fun x : TFill => (x.T, x.X, x.Rows, x.Cols)) (Fc.left (Fc.via (mk' := fun y => {x.T with Rows := y}) (fun x : Transport => (x.Rows, x.Cols, x.Lo, x.Hi)) (Fc.left (Fc.here q0) ⟨[u1], [u2, u3], _, _, rfl, rfl, d2, ⟨u1, rfl, q1⟩, ⟨[u2], [u3], _, _, rfl, rfl, d3, ⟨u2, rfl, q2⟩, ⟨u3, rfl, q3⟩⟩⟩ d1) fun _ => rfl) ⟨[u4], [u5, u6], _, _, rfl, rfl, d4, ⟨u4, rfl, q4⟩, ⟨[u5], [u6], _, _, rfl, rfl, d5, ⟨u5, rfl, q5⟩, ⟨u6, rfl, q6⟩⟩⟩ d0) fun _ => rfl)⟩
theorem TFill_bw1 {h hi rest : PH} {v : Value} {xs : List TFill} {i : Nat} {c : List Value} {x : TFill} (b : Bw h v xs i hi rest c x) : ∃ u0 u1 u2 u3 u4 u5 u6 hl rs, c = [u0, u1, u2, u3, u4, u5, u6] ∧ BwG h v xs hl rs u1 x.T.Cols (fun y => xs.set i {x with T.Cols := y}) := by
  have o := b.own
  obtain ⟨_, _, _, _, rfl, rfl, d0, p0, n0⟩ := o
  obtain ⟨_, _, _, _, rfl, rfl, d1, p1, n1⟩ := p0
  obtain ⟨u0, rfl, q0⟩ := p1
  obtain ⟨_, _, _, _, rfl, rfl, d2, p2, n2⟩ := n1
  obtain ⟨u1, rfl, q1⟩ := p2
  obtain ⟨_, _, _, _, rfl, rfl, d3, p3, n3⟩ := n2
  obtain ⟨u2, rfl, q2⟩ := p3
  obtain ⟨u3, rfl, q3⟩ := n3
  obtain ⟨_, _, _, _, rfl, rfl, d4, p4, n4⟩ := n0
  obtain ⟨u4, rfl, q4⟩ := p4
  obtain ⟨_, _, _, _, rfl, rfl, d5, p5, n5⟩ := n4
  obtain ⟨u5, rfl, q5⟩ := p5
  obtain ⟨u6, rfl, q6⟩ := n5
  exact ⟨_, _, _, _, _, _, _, _, _, rfl, b.fc (Fc.via (fun x : TFill => (x.T, x.X, x.Rows, x.Cols)) (Fc.left (Fc.via (mk' := fun y => {x.T with Cols := y}) (fun x : Transport => (x.Rows, x.Cols, x.Lo, x.Hi)) (Fc.right ⟨u0, rfl, q0⟩ (Fc.left (Fc.here q1) ⟨[u2], [u3], _, _, rfl, rfl, d3, ⟨u2, rfl, q2⟩, ⟨u3, rfl, q3⟩⟩ d2) d1) fun _ => rfl) ⟨[u4], [u5, u6], _, _, rfl, rfl, d4, ⟨u4, rfl, q4⟩, ⟨[u5], [u6], _, _, rfl, rfl, d5, ⟨u5, rfl, q5⟩, ⟨u6, rfl, q6⟩⟩⟩ d0) fun _ => rfl)⟩
theorem TFill_bw2 {h hi rest : PH} {v : Value} {xs : List TFill} {i : Nat} {c : List Value} {x : TFill} (b : Bw h v xs i hi rest c x) : ∃ u0 u1 u2 u3 u4 u5 u6 hl rs, c = [u0, u1, u2, u3, u4, u5, u6] ∧ BwG h v xs hl rs u2 x.T.Lo (fun y => xs.set i {x with T.Lo := y}) := by
  have o := b.own
  obtain ⟨_, _, _, _, rfl, rfl, d0, p0, n0⟩ := o
  obtain ⟨_, _, _, _, rfl, rfl, d1, p1, n1⟩ := p0
  obtain ⟨u0, rfl, q0⟩ := p1
  obtain ⟨_, _, _, _, rfl, rfl, d2, p2, n2⟩ := n1
  obtain ⟨u1, rfl, q1⟩ := p2
  obtain ⟨_, _, _, _, rfl, rfl, d3, p3, n3⟩ := n2
  obtain ⟨u2, rfl, q2⟩ := p3
  obtain ⟨u3, rfl, q3⟩ := n3
  obtain ⟨_, _, _, _, rfl, rfl, d4, p4, n4⟩ := n0
  obtain ⟨u4, rfl, q4⟩ := p4
  obtain ⟨_, _, _, _, rfl, rfl, d5, p5, n5⟩ := n4
  obtain ⟨u5, rfl, q5⟩ := p5
  obtain ⟨u6, rfl, q6⟩ := n5
  exact ⟨_, _, _, _, _, _, _, _, _, rfl, b.fc (Fc.via (fun x : TFill => (x.T, x.X, x.Rows, x.Cols)) (Fc.left (Fc.via (mk' := fun y => {x.T with Lo := y}) (fun x : Transport => (x.Rows, x.Cols, x.Lo, x.Hi)) (Fc.right ⟨u0, rfl, q0⟩ (Fc.right ⟨u1, rfl, q1⟩ (Fc.left (Fc.here q2) ⟨u3, rfl, q3⟩ d3) d2) d1) fun _ => rfl) ⟨[u4], [u5, u6], _, _, rfl, rfl, d4, ⟨u4, rfl, q4⟩, ⟨[u5], [u6], _, _, rfl, rfl, d5, ⟨u5, rfl, q5⟩, ⟨u6, rfl, q6⟩⟩⟩ d0) fun _ => rfl)⟩
theorem TFill_bw3 {h hi rest : PH} {v : Value} {xs : List TFill} {i : Nat} {c : List Value} {x : TFill} (b : Bw h v xs i hi rest c x) : ∃ u0 u1 u2 u3 u4 u5 u6 hl rs, c = [u0, u1, u2, u3, u4, u5, u6] ∧ BwG h v xs hl rs u3 x.T.Hi (fun y => xs.set i {x with T.Hi := y}) := by
  have o := b.own
  obtain ⟨_, _, _, _, rfl, rfl, d0, p0, n0⟩ := o
  obtain ⟨_, _, _, _, rfl, rfl, d1, p1, n1⟩ := p0
  obtain ⟨u0, rfl, q0⟩ := p1
  obtain ⟨_, _, _, _, rfl, rfl, d2, p2, n2⟩ := n1
  obtain ⟨u1, rfl, q1⟩ := p2
  obtain ⟨_, _, _, _, rfl, rfl, d3, p3, n3⟩ := n2
  obtain ⟨u2, rfl, q2⟩ := p3
  obtain ⟨u3, rfl, q3⟩ := n3
  obtain ⟨_, _, _, _, rfl, rfl, d4, p4, n4⟩ := n0
  obtain ⟨u4, rfl, q4⟩ := p4
  obtain ⟨_, _, _, _, rfl, rfl, d5, p5, n5⟩ := n4
  obtain ⟨u5, rfl, q5⟩ := p5
  obtain ⟨u6, rfl, q6⟩ := n5
  exact ⟨_, _, _, _, _, _, _, _, _, rfl, b.fc (Fc.via (fun x : TFill => (x.T, x.X, x.Rows, x.Cols)) (Fc.left (Fc.via (mk' := fun y => {x.T with Hi := y}) (fun x : Transport => (x.Rows, x.Cols, x.Lo, x.Hi)) (Fc.right ⟨u0, rfl, q0⟩ (Fc.right ⟨u1, rfl, q1⟩ (Fc.right ⟨u2, rfl, q2⟩ (Fc.here q3) d3) d2) d1) fun _ => rfl) ⟨[u4], [u5, u6], _, _, rfl, rfl, d4, ⟨u4, rfl, q4⟩, ⟨[u5], [u6], _, _, rfl, rfl, d5, ⟨u5, rfl, q5⟩, ⟨u6, rfl, q6⟩⟩⟩ d0) fun _ => rfl)⟩
theorem TFill_bw4 {h hi rest : PH} {v : Value} {xs : List TFill} {i : Nat} {c : List Value} {x : TFill} (b : Bw h v xs i hi rest c x) : ∃ u0 u1 u2 u3 u4 u5 u6 hl rs, c = [u0, u1, u2, u3, u4, u5, u6] ∧ BwG h v xs hl rs u4 x.X (fun y => xs.set i {x with X := y}) := by
  have o := b.own
  obtain ⟨_, _, _, _, rfl, rfl, d0, p0, n0⟩ := o
  obtain ⟨_, _, _, _, rfl, rfl, d1, p1, n1⟩ := p0
  obtain ⟨u0, rfl, q0⟩ := p1
  obtain ⟨_, _, _, _, rfl, rfl, d2, p2, n2⟩ := n1
  obtain ⟨u1, rfl, q1⟩ := p2
  obtain ⟨_, _, _, _, rfl, rfl, d3, p3, n3⟩ := n2
  obtain ⟨u2, rfl, q2⟩ := p3
  obtain ⟨u3, rfl, q3⟩ := n3
  obtain ⟨_, _, _, _, rfl, rfl, d4, p4, n4⟩ := n0
  obtain ⟨u4, rfl, q4⟩ := p4
  obtain ⟨_, _, _, _, rfl, rfl, d5, p5, n5⟩ := n4
  obtain ⟨u5, rfl, q5⟩ := p5
  obtain ⟨u6, rfl, q6⟩ := n5
  exact ⟨_, _, _, _, _, _, _, _, _, rfl, b.fc (Fc.via (fun x : TFill => (x.T, x.X, x.Rows, x.Cols)) (Fc.right ⟨[u0], [u1, u2, u3], _, _, rfl, rfl, d1, ⟨u0, rfl, q0⟩, ⟨[u1], [u2, u3], _, _, rfl, rfl, d2, ⟨u1, rfl, q1⟩, ⟨[u2], [u3], _, _, rfl, rfl, d3, ⟨u2, rfl, q2⟩, ⟨u3, rfl, q3⟩⟩⟩⟩ (Fc.left (Fc.here q4) ⟨[u5], [u6], _, _, rfl, rfl, d5, ⟨u5, rfl, q5⟩, ⟨u6, rfl, q6⟩⟩ d4) d0) fun _ => rfl)⟩
theorem TFill_bw5 {h hi rest : PH} {v : Value} {xs : List TFill} {i : Nat} {c : List Value} {x : TFill} (b : Bw h v xs i hi rest c x) : ∃ u0 u1 u2 u3 u4 u5 u6 hl rs, c = [u0, u1, u2, u3, u4, u5, u6] ∧ BwG h v xs hl rs u5 x.Rows (fun y => xs.set i {x with Rows := y}) := by
  have o := b.own
  obtain ⟨_, _, _, _, rfl, rfl, d0, p0, n0⟩ := o
  obtain ⟨_, _, _, _, rfl, rfl, d1, p1, n1⟩ := p0
  obtain ⟨u0, rfl, q0⟩ := p1
  obtain ⟨_, _, _, _, rfl, rfl, d2, p2, n2⟩ := n1
  obtain ⟨u1, rfl, q1⟩ := p2
  obtain ⟨_, _, _, _, rfl, rfl, d3, p3, n3⟩ := n2
  obtain ⟨u2, rfl, q2⟩ := p3
  obtain ⟨u3, rfl, q3⟩ := n3
  obtain ⟨_, _, _, _, rfl, rfl, d4, p4, n4⟩ := n0
  obtain ⟨u4, rfl, q4⟩ := p4
  obtain ⟨_, _, _, _, rfl, rfl, d5, p5, n5⟩ := n4
  obtain ⟨u5, rfl, q5⟩ := p5
  obtain ⟨u6, rfl, q6⟩ := n5
  exact ⟨_, _, _, _, _, _, _, _, _, rfl, b.fc (Fc.via (fun x : TFill => (x.T, x.X, x.Rows, x.Cols)) (Fc.right ⟨[u0], [u1, u2, u3], _, _, rfl, rfl, d1, ⟨u0, rfl, q0⟩, ⟨[u1], [u2, u3], _, _, rfl, rfl, d2, ⟨u1, rfl, q1⟩, ⟨[u2], [u3], _, _, rfl, rfl, d3, ⟨u2, rfl, q2⟩, ⟨u3, rfl, q3⟩⟩⟩⟩ (Fc.right ⟨u4, rfl, q4⟩ (Fc.left (Fc.here q5) ⟨u6, rfl, q6⟩ d5) d4) d0) fun _ => rfl)⟩
theorem TFill_bw6 {h hi rest : PH} {v : Value} {xs : List TFill} {i : Nat} {c : List Value} {x : TFill} (b : Bw h v xs i hi rest c x) : ∃ u0 u1 u2 u3 u4 u5 u6 hl rs, c = [u0, u1, u2, u3, u4, u5, u6] ∧ BwG h v xs hl rs u6 x.Cols (fun y => xs.set i {x with Cols := y}) := by
  have o := b.own
  obtain ⟨_, _, _, _, rfl, rfl, d0, p0, n0⟩ := o
  obtain ⟨_, _, _, _, rfl, rfl, d1, p1, n1⟩ := p0
  obtain ⟨u0, rfl, q0⟩ := p1
  obtain ⟨_, _, _, _, rfl, rfl, d2, p2, n2⟩ := n1
  obtain ⟨u1, rfl, q1⟩ := p2
  obtain ⟨_, _, _, _, rfl, rfl, d3, p3, n3⟩ := n2
  obtain ⟨u2, rfl, q2⟩ := p3
  obtain ⟨u3, rfl, q3⟩ := n3
  obtain ⟨_, _, _, _, rfl, rfl, d4, p4, n4⟩ := n0
  obtain ⟨u4, rfl, q4⟩ := p4
  obtain ⟨_, _, _, _, rfl, rfl, d5, p5, n5⟩ := n4
  obtain ⟨u5, rfl, q5⟩ := p5
  obtain ⟨u6, rfl, q6⟩ := n5
  exact ⟨_, _, _, _, _, _, _, _, _, rfl, b.fc (Fc.via (fun x : TFill => (x.T, x.X, x.Rows, x.Cols)) (Fc.right ⟨[u0], [u1, u2, u3], _, _, rfl, rfl, d1, ⟨u0, rfl, q0⟩, ⟨[u1], [u2, u3], _, _, rfl, rfl, d2, ⟨u1, rfl, q1⟩, ⟨[u2], [u3], _, _, rfl, rfl, d3, ⟨u2, rfl, q2⟩, ⟨u3, rfl, q3⟩⟩⟩⟩ (Fc.right ⟨u4, rfl, q4⟩ (Fc.right ⟨u5, rfl, q5⟩ (Fc.here q6) d5) d4) d0) fun _ => rfl)⟩
structure TCounter where
  N : Int
  Most : Int
instance : Wf TCounter := ⟨fun x => Wf.wf x.N ∧ Wf.wf x.Most⟩
instance : Flat TCounter where
  n := 2
  agg := true
  rd _ cs x := cs = [I x.N, I x.Most]
  enc x := [I x.N, I x.Most]
  len h := by subst h; rfl
  le _ h := h
  one h c hc := by subst h; simp at hc; rcases hc with rfl | rfl <;> rfl
  sing h := by cases h
  flat := Iff.rfl
theorem TCounter_rv {h : PH} {v : Value} {x : TCounter} (r : RV h v x) : v = .agg #[I x.N, I x.Most] := by obtain ⟨cs, rfl, rfl⟩ := r; rfl

def laws_big (code : List B8) (more : List B8) (Q : Bool → Prop) : Prop :=
  jn (fun (k : Bool → Prop) => br (decide ((ln code) > 1048576)) (k true) <|
  k (decide ((ln more) > (wr (1048576 - (ln code)))))) <|
  fun (x : Bool) =>
  Q x

def spec_l1Cur_next (c : L1Cur) (Q : Int → Int → Int → Prop) : Prop :=
  jn (fun (k : Int → Prop) => br (decide (c.At < (ln c.Code))) (idx c.Code c.At fun x7 =>
  k (wr (x7.v))) <|
  k 0) <|
  fun (b3 : Int) =>
  br (decide ((wr (c.At + 1)) ≤ (ln c.Code))) (Q b3 (wr (c.At + 1)) (IntKind.u64.wrap ((IntKind.u64.wrap ((IntKind.u64.wrap (c.Seed * 6364136223846793005)) + (IntKind.u64.wrap (b3)))) + 1442695040888963407))) <|
  Q (wr (bits .and .u64 (Int.fdiv (IntKind.u64.wrap ((IntKind.u64.wrap ((IntKind.u64.wrap (c.Seed * 6364136223846793005)) + (IntKind.u64.wrap (b3)))) + 1442695040888963407)) (2 ^ 40)) 255)) (wr (c.At + 1)) (IntKind.u64.wrap ((IntKind.u64.wrap ((IntKind.u64.wrap (c.Seed * 6364136223846793005)) + (IntKind.u64.wrap (b3)))) + 1442695040888963407))

def spec_l1Cur_pick (c : L1Cur) (n : Int) (Q : Int → Int → Int → Prop) : Prop :=
  br (decide (n ≤ 1)) (Q 0 c.At c.Seed) <|
  spec_l1Cur_next ((L1Cur.mk c.Code c.At c.Seed)) fun r3 r4 r5 =>
  jn (fun (k : Int → Int → Int → Prop) => br (decide (n > 200)) (spec_l1Cur_next ((L1Cur.mk c.Code r4 r5)) fun r14 r15 r16 =>
  k (wr ((wr (r3 * 256)) + r14)) r15 r16) <|
  k r3 r4 r5) <|
  fun (x9 : Int) (atx : Int) (seed : Int) =>
  n ≠ 0 ∧ (
  Q (Int.tmod x9 n) atx seed)

def spec_l1Most (a : Int) (b : Int) (Q : Int → Prop) : Prop :=
  br (decide (a > b)) (Q a) <|
  Q b

def spec_l1Cur_transport (c : L1Cur) (Q : Transport → Int → Int → Prop) : Prop :=
  spec_l1Cur_pick ((L1Cur.mk c.Code c.At c.Seed)) 3 fun r5 r6 r7 =>
  spec_l1Cur_pick ((L1Cur.mk c.Code r6 r7)) 3 fun r13 r14 r15 =>
  (0 : Int) ≤ (wr (1 + r5)) ∧ 8 * (wr (1 + r5)) ≤ 140737488355328 ∧ (
  (0 : Int) ≤ (wr (1 + r13)) ∧ 8 * (wr (1 + r13)) ≤ 140737488355328 ∧ (
  Loop7 (fun (i : Int) (atx : Int) (seed : Int) (rows : List Int) (cols : List Int) (lo : List (List Int)) (hi : List (List Int)) nx =>
  br (decide (i < (wr (1 + r5)))) (Loop7 (fun (lo126 : List Int) (hi132 : List Int) (j : Int) (atx138 : Int) (seed139 : Int) (rows140 : List Int) (cols146 : List Int) nx187 =>
  br (decide (j < (wr (1 + r13)))) (spec_l1Cur_pick ((L1Cur.mk c.Code atx138 seed139)) 5 fun r189 r190 r191 =>
  spec_l1Cur_pick ((L1Cur.mk c.Code r190 r191)) 4 fun r211 r212 r213 =>
  spec_l1Most 0 (wr (r189 - r211)) fun r218 =>
  spec_l1Cur_pick ((L1Cur.mk c.Code r212 r213)) 4 fun r221 r222 r223 =>
  (ln lo126 + ln ([r218])) * 8 ≤ 140737488355328 ∧ (
  (ln hi132 + ln ([wr (r189 + r221)])) * 8 ≤ 140737488355328 ∧ (
  idx rows140 i fun x272 =>
  (0 : Int) ≤ i ∧ Int.toNat i < List.length rows140 ∧ (
  idx cols146 j fun x290 =>
  (0 : Int) ≤ j ∧ Int.toNat j < List.length cols146 ∧ (
  nx187 (lo126 ++ ([r218])) (hi132 ++ ([wr (r189 + r221)])) (wr (j + 1)) r222 r223 (List.set rows140 (Int.toNat i) (wr (x272 + r189))) (List.set cols146 (Int.toNat j) (wr (x290 + r189)))))))) <|
  (ln lo + ln ([lo126])) * 24 ≤ 140737488355328 ∧ (
  (ln hi + ln ([hi132])) * 24 ≤ 140737488355328 ∧ (
  nx (wr (i + 1)) atx138 seed139 rows140 cols146 (lo ++ ([lo126])) (hi ++ ([hi132]))))) ([]) ([]) 0 atx seed rows cols) <|
  jn (fun (k : Int → Int → (List Int) → (List Int) → Prop) => spec_l1Cur_pick ((L1Cur.mk c.Code atx seed)) 6 fun r586 r587 r588 =>
  br (r586 == 0) (spec_l1Cur_pick ((L1Cur.mk c.Code r587 r588)) 3 fun r593 r594 r595 =>
  spec_l1Cur_pick ((L1Cur.mk c.Code r594 r595)) (wr (1 + r5)) fun r607 r608 r609 =>
  idx rows r607 fun x618 =>
  (0 : Int) ≤ r607 ∧ Int.toNat r607 < List.length rows ∧ (
  spec_l1Cur_pick ((L1Cur.mk c.Code r608 r609)) (wr (1 + r13)) fun r649 r650 r651 =>
  idx cols r649 fun x662 =>
  (0 : Int) ≤ r649 ∧ Int.toNat r649 < List.length cols ∧ (
  k r650 r651 (List.set rows (Int.toNat r607) (wr (x618 + r593))) (List.set cols (Int.toNat r649) (wr (x662 + r593)))))) <|
  br (r586 == 1) (spec_l1Cur_pick ((L1Cur.mk c.Code r587 r588)) (wr (1 + r5)) fun r720 r721 r722 =>
  idx rows r720 fun x734 =>
  (0 : Int) ≤ r720 ∧ Int.toNat r720 < List.length rows ∧ (
  k r721 r722 (List.set rows (Int.toNat r720) (wr (x734 + 1))) cols)) <|
  k r587 r588 rows cols) <|
  fun (atx555 : Int) (seed556 : Int) (rows557 : List Int) (cols563 : List Int) =>
  Q ((Transport.mk rows557 cols563 lo hi)) atx555 seed556) 0 r14 r15 (List.replicate (Int.toNat (wr (1 + r5))) ((0 : Int))) (List.replicate (Int.toNat (wr (1 + r13))) ((0 : Int))) ([]) ([])))

def spec_l1Cur_among (c : L1Cur) (list : List Int) (Q : Int → Int → Int → Prop) : Prop :=
  spec_l1Cur_pick ((L1Cur.mk c.Code c.At c.Seed)) (ln list) fun r10 r11 r12 =>
  idx list r10 fun x14 =>
  Q x14 r11 r12

def spec_filled (m : Int) (n : Int) (sum : Int) (Q : Transport → Prop) : Prop :=
  (0 : Int) ≤ n ∧ 8 * n ≤ 140737488355328 ∧ (
  Loop5 (fun (i : Int) (rows : List Int) (cols : List Int) (lo : List (List Int)) (hi : List (List Int)) nx =>
  br (decide (i < m)) ((ln rows + ln ([sum])) * 8 ≤ 140737488355328 ∧ (
  jn (fun (k : (List Int) → (List Int) → Prop) => (0 : Int) ≤ n ∧ 8 * n ≤ 140737488355328 ∧ (
  (0 : Int) ≤ n ∧ 8 * n ≤ 140737488355328 ∧ (
  k (List.replicate (Int.toNat n) ((0 : Int))) (List.replicate (Int.toNat n) ((0 : Int)))))) <|
  fun (lo108 : List Int) (hi114 : List Int) =>
  Loop2 (fun (hi173 : List Int) (x179 : Int) nx185 =>
  br (decide (x179 < (ln hi114))) ((0 : Int) ≤ x179 ∧ Int.toNat x179 < List.length hi173 ∧ (
  nx185 (List.set hi173 (Int.toNat x179) 1) (wr (x179 + 1)))) <|
  (ln lo + ln ([lo108])) * 24 ≤ 140737488355328 ∧ (
  (ln hi + ln ([hi173])) * 24 ≤ 140737488355328 ∧ (
  Loop2 (fun (k265 : Int) (cols266 : List Int) nx285 =>
  br (decide (k265 < sum)) (n ≠ 0 ∧ (
  idx cols266 (Int.tmod (wr (i + k265)) n) fun x293 =>
  (0 : Int) ≤ (Int.tmod (wr (i + k265)) n) ∧ Int.toNat (Int.tmod (wr (i + k265)) n) < List.length cols266 ∧ (
  nx285 (wr (k265 + 1)) (List.set cols266 (Int.toNat (Int.tmod (wr (i + k265)) n)) (wr (x293 + 1)))))) <|
  nx (wr (i + 1)) (rows ++ ([sum])) cols266 (lo ++ ([lo108])) (hi ++ ([hi173]))) 0 cols))) hi114 0)) <|
  Q ((Transport.mk rows cols lo hi))) 0 ([]) (List.replicate (Int.toNat n) ((0 : Int))) ([]) ([]))

def spec_l1Cur_anyTransport (c : L1Cur) (Q : Transport → Int → Int → Prop) : Prop :=
  spec_l1Cur_transport ((L1Cur.mk c.Code c.At c.Seed)) fun r5 r6 r7 =>
  jn (fun (k : Int → Int → (List Int) → (List Int) → (List (List Int)) → (List (List Int)) → Prop) => spec_l1Cur_pick ((L1Cur.mk c.Code r6 r7)) 24 fun r133 r134 r135 =>
  br (r133 == 0) (spec_l1Cur_among ((L1Cur.mk c.Code r134 r135)) ([(-1), 100000, 100001]) fun r160 r161 r162 =>
  (0 : Int) ≤ 0 ∧ Int.toNat 0 < List.length r5.Rows ∧ (
  k r161 r162 (List.set r5.Rows (Int.toNat 0) r160) r5.Cols r5.Lo r5.Hi)) <|
  br (r133 == 1) (idx r5.Lo 0 fun x212 =>
  idx r5.Hi 0 fun x225 =>
  idx x225 0 fun x239 =>
  (0 : Int) ≤ 0 ∧ Int.toNat 0 < List.length x212 ∧ (
  k r134 r135 r5.Rows r5.Cols (List.set r5.Lo (Int.toNat 0) (List.set x212 (Int.toNat 0) (wr (x239 + 1)))) r5.Hi)) <|
  br (r133 == 2) ((0 : Int) ≤ 1 ∧ 1 ≤ ((List.length r5.Lo : Int)) ∧ ((List.length r5.Lo : Int)) ≤ ln r5.Lo ∧ (
  k r134 r135 r5.Rows r5.Cols (List.take (Int.toNat ((List.length r5.Lo : Int)) - Int.toNat 1) (List.drop (Int.toNat 1) r5.Lo)) r5.Hi)) <|
  br (r133 == 3) ((ln r5.Cols + ln ([0])) * 8 ≤ 140737488355328 ∧ (
  k r134 r135 r5.Rows (r5.Cols ++ ([0])) r5.Lo r5.Hi)) <|
  br (r133 == 4) (idx r5.Hi 0 fun x379 =>
  spec_l1Cur_among ((L1Cur.mk c.Code r134 r135)) ([100000, 100001]) fun r414 r415 r416 =>
  (0 : Int) ≤ 0 ∧ Int.toNat 0 < List.length x379 ∧ (
  k r415 r416 r5.Rows r5.Cols r5.Lo (List.set r5.Hi (Int.toNat 0) (List.set x379 (Int.toNat 0) r414)))) <|
  br (r133 == 5) (spec_l1Cur_pick ((L1Cur.mk c.Code r134 r135)) 2 fun r470 r471 r472 =>
  spec_filled 4 (wr (4 + r470)) 2 fun r477 =>
  Q ((Transport.mk r477.Rows r477.Cols r477.Lo r477.Hi)) r471 r472) <|
  br (r133 == 6) (spec_l1Cur_pick ((L1Cur.mk c.Code r134 r135)) 2 fun r542 r543 r544 =>
  spec_filled (wr (8 + r542)) 1 1 fun r549 =>
  Q ((Transport.mk r549.Rows r549.Cols r549.Lo r549.Hi)) r543 r544) <|
  k r134 r135 r5.Rows r5.Cols r5.Lo r5.Hi) <|
  fun (atx : Int) (seed : Int) (rows : List Int) (cols : List Int) (lo : List (List Int)) (hi : List (List Int)) =>
  Q ((Transport.mk rows cols lo hi)) atx seed

def spec_DrawIsTransport (code : List B8) (Q : Transport → Prop) : Prop :=
  spec_l1Cur_anyTransport ((L1Cur.mk code 0 0)) fun r8 r9 r10 =>
  Q ((Transport.mk r8.Rows r8.Cols r8.Lo r8.Hi))

def spec_DrawCountFlows (code : List B8) (Q : Transport → Prop) : Prop :=
  spec_DrawIsTransport code fun r2 =>
  Q ((Transport.mk r2.Rows r2.Cols r2.Lo r2.Hi))

def impl_areSums (l : List Int) (Q : Bool → Prop) : Prop :=
  jn (fun (k : Bool → Prop) => br (decide ((ln l) < 1)) (k true) <|
  k (decide ((ln l) > 8))) <|
  fun (x : Bool) =>
  br (x) (Q false) <|
  Loop1 (fun (x2 : Int) nx =>
  br (decide (x2 < (ln l))) (idx l x2 fun x5 =>
  jn (fun (k13 : Bool → Prop) => br (decide (x5 < 0)) (k13 true) <|
  k13 (decide (x5 > 100000))) <|
  fun (x11 : Bool) =>
  br (x11) (Q false) <|
  nx (wr (x2 + 1))) <|
  Q true) 0

def impl_hasShape (x : List (List Int)) (rows : Int) (cols : Int) (Q : Bool → Prop) : Prop :=
  br ((ln x) != rows) (Q false) <|
  Loop1 (fun (x1 : Int) nx =>
  br (decide (x1 < (ln x))) (idx x x1 fun x3 =>
  br ((ln x3) != cols) (Q false) <|
  nx (wr (x1 + 1))) <|
  Q true) 0

def impl_IsTransport (t : Transport) (Q : Bool → Prop) : Prop :=
  jn (fun (k : Bool → Prop) => impl_areSums t.Rows fun r29 =>
  br (!r29) (k true) <|
  impl_areSums t.Cols fun r33 =>
  br (!r33) (k true) <|
  impl_hasShape t.Lo (ln t.Rows) (ln t.Cols) fun r39 =>
  br (!r39) (k true) <|
  impl_hasShape t.Hi (ln t.Rows) (ln t.Cols) fun r47 =>
  k (!r47)) <|
  fun (x26 : Bool) =>
  br (x26) (Q false) <|
  Loop1 (fun (x56 : Int) nx =>
  br (decide (x56 < (ln t.Lo))) (idx t.Lo x56 fun x59 =>
  Loop1 (fun (x69 : Int) nx74 =>
  br (decide (x69 < (ln x59))) (idx x59 x69 fun x76 =>
  jn (fun (k91 : Bool → Prop) => br (decide (x76 < 0)) (k91 true) <|
  idx t.Hi x56 fun x94 =>
  idx x94 x69 fun x106 =>
  br (decide (x76 > x106)) (k91 true) <|
  idx t.Hi x56 fun x116 =>
  idx x116 x69 fun x128 =>
  k91 (decide (x128 > 100000))) <|
  fun (x89 : Bool) =>
  br (x89) (Q false) <|
  nx74 (wr (x69 + 1))) <|
  nx (wr (x56 + 1))) 0) <|
  Q true) 0

def impl_total (l : List Int) (Q : Int → Prop) : Prop :=
  Loop2 (fun (sum : Int) (x : Int) nx =>
  br (decide (x < (ln l))) (idx l x fun x1 =>
  nx (wr (sum + x1)) (wr (x + 1))) <|
  Q sum) 0 0

def impl_residual (t : Transport) (x : List (List Int)) (fixed : Int) (Q : (List (List Int)) → Prop) : Prop :=
  (0 : Int) ≤ (wr ((ln t.Rows) + (ln t.Cols))) ∧ 24 * (wr ((ln t.Rows) + (ln t.Cols))) ≤ 140737488355328 ∧ (
  Loop2 (fun (r37 : List (List Int)) (x43 : Int) nx =>
  br (decide (x43 < (ln (List.replicate (Int.toNat (wr ((ln t.Rows) + (ln t.Cols)))) (([] : List Int)))))) ((0 : Int) ≤ (wr ((ln t.Rows) + (ln t.Cols))) ∧ 8 * (wr ((ln t.Rows) + (ln t.Cols))) ≤ 140737488355328 ∧ (
  (0 : Int) ≤ x43 ∧ Int.toNat x43 < List.length r37 ∧ (
  nx (List.set r37 (Int.toNat x43) (List.replicate (Int.toNat (wr ((ln t.Rows) + (ln t.Cols)))) ((0 : Int)))) (wr (x43 + 1))))) <|
  Loop2 (fun (r66 : List (List Int)) (x72 : Int) nx78 =>
  br (decide (x72 < (ln x))) (idx x x72 fun x80 =>
  Loop2 (fun (r94 : List (List Int)) (x100 : Int) nx106 =>
  br (decide (x100 < (ln x80))) (jn (fun (k : (List (List Int)) → Prop) => idx x80 x100 fun x168 =>
  br (decide ((wr ((wr (x72 * (ln t.Cols))) + x100)) > fixed)) (idx r94 x72 fun x180 =>
  idx t.Hi x72 fun x194 =>
  idx x194 x100 fun x209 =>
  (0 : Int) ≤ (wr ((ln t.Rows) + x100)) ∧ Int.toNat (wr ((ln t.Rows) + x100)) < List.length x180 ∧ (
  idx (List.set r94 (Int.toNat x72) (List.set x180 (Int.toNat (wr ((ln t.Rows) + x100))) (wr (x209 - x168)))) (wr ((ln t.Rows) + x100)) fun x241 =>
  idx t.Lo x72 fun x260 =>
  idx x260 x100 fun x278 =>
  (0 : Int) ≤ x72 ∧ Int.toNat x72 < List.length x241 ∧ (
  k (List.set (List.set r94 (Int.toNat x72) (List.set x180 (Int.toNat (wr ((ln t.Rows) + x100))) (wr (x209 - x168)))) (Int.toNat (wr ((ln t.Rows) + x100))) (List.set x241 (Int.toNat x72) (wr (x168 - x278))))))) <|
  k r94) <|
  fun (r160 : List (List Int)) =>
  nx106 r160 (wr (x100 + 1))) <|
  nx78 r94 (wr (x72 + 1))) r66 0) <|
  Q r66) r37 0) (List.replicate (Int.toNat (wr ((ln t.Rows) + (ln t.Cols)))) (([] : List Int))) 0)

def impl_rowSums (x : List (List Int)) (Q : (List Int) → Prop) : Prop :=
  (0 : Int) ≤ (ln x) ∧ 8 * (ln x) ≤ 140737488355328 ∧ (
  Loop2 (fun (sums : List Int) (x12 : Int) nx =>
  br (decide (x12 < (ln x))) (idx x x12 fun x15 =>
  Loop2 (fun (sums25 : List Int) (x31 : Int) nx37 =>
  br (decide (x31 < (ln x15))) (idx x15 x31 fun x39 =>
  idx sums25 x12 fun x50 =>
  (0 : Int) ≤ x12 ∧ Int.toNat x12 < List.length sums25 ∧ (
  nx37 (List.set sums25 (Int.toNat x12) (wr (x50 + x39))) (wr (x31 + 1)))) <|
  nx sums25 (wr (x12 + 1))) sums 0) <|
  Q sums) (List.replicate (Int.toNat (ln x)) ((0 : Int))) 0)

def impl_colSums (x : List (List Int)) (Q : (List Int) → Prop) : Prop :=
  idx x 0 fun x1 =>
  (0 : Int) ≤ (ln x1) ∧ 8 * (ln x1) ≤ 140737488355328 ∧ (
  Loop2 (fun (sums : List Int) (x21 : Int) nx =>
  br (decide (x21 < (ln x))) (idx x x21 fun x24 =>
  Loop2 (fun (sums37 : List Int) (x43 : Int) nx49 =>
  br (decide (x43 < (ln x24))) (idx x24 x43 fun x51 =>
  idx sums37 x43 fun x62 =>
  (0 : Int) ≤ x43 ∧ Int.toNat x43 < List.length sums37 ∧ (
  nx49 (List.set sums37 (Int.toNat x43) (wr (x62 + x51))) (wr (x43 + 1)))) <|
  nx sums37 (wr (x21 + 1))) sums 0) <|
  Q sums) (List.replicate (Int.toNat (ln x1)) ((0 : Int))) 0)

def impl_push (r : List (List Int)) (fromx : Int) (to : Int) (limit : Int) (Q : Int → (List (List Int)) → Prop) : Prop :=
  jn (fun (k : Int → (List (List Int)) → Prop) => Loop2 (fun (r7 : List (List Int)) (sent13 : Int) nx =>
  br (decide (sent13 < limit)) ((0 : Int) ≤ (ln r) ∧ 8 * (ln r) ≤ 140737488355328 ∧ (
  Loop2 (fun (back : List Int) (x29 : Int) nx35 =>
  br (decide (x29 < (ln (List.replicate (Int.toNat (ln r)) ((0 : Int)))))) ((0 : Int) ≤ x29 ∧ Int.toNat x29 < List.length back ∧ (
  nx35 (List.set back (Int.toNat x29) ((-1))) (wr (x29 + 1)))) <|
  (0 : Int) ≤ fromx ∧ Int.toNat fromx < List.length back ∧ (
  Loop2 (fun (back62 : List Int) (queue : List Int) nx83 =>
  jn (fun (k110 : Bool → Prop) => br (decide ((ln queue) > 0)) (idx back62 to fun x113 =>
  k110 (decide (x113 < 0))) <|
  k110 false) <|
  fun (x108 : Bool) =>
  br (x108) (idx queue 0 fun x122 =>
  (0 : Int) ≤ 1 ∧ 1 ≤ ln queue ∧ (
  idx r7 x122 fun x136 =>
  Loop3 (fun (back148 : List Int) (queue154 : List Int) (x160 : Int) nx173 =>
  br (decide (x160 < (ln x136))) (jn (fun (k207 : (List Int) → (List Int) → Prop) => idx x136 x160 fun x209 =>
  jn (fun (k220 : Bool → Prop) => br (decide (x209 > 0)) (idx back148 x160 fun x223 =>
  k220 (decide (x223 < 0))) <|
  k220 false) <|
  fun (x218 : Bool) =>
  br (x218) ((0 : Int) ≤ x160 ∧ Int.toNat x160 < List.length back148 ∧ (
  (ln queue154 + ln ([x160])) * 8 ≤ 140737488355328 ∧ (
  k207 (List.set back148 (Int.toNat x160) x122) (queue154 ++ ([x160]))))) <|
  k207 back148 queue154) <|
  fun (back186 : List Int) (queue192 : List Int) =>
  nx173 back186 queue192 (wr (x160 + 1))) <|
  nx83 back148 queue154) back62 (List.drop (Int.toNat 1) queue) 0)) <|
  idx back62 to fun x281 =>
  br (decide (x281 < 0)) (k sent13 r7) <|
  Loop2 (fun (step : Int) (vx298 : Int) nx303 =>
  br (vx298 != fromx) (idx back62 vx298 fun x305 =>
  idx r7 x305 fun x314 =>
  idx x314 vx298 fun x326 =>
  idx back62 vx298 fun x335 =>
  nx303 (mn step x326) x335) <|
  Loop2 (fun (r344 : List (List Int)) (vx350 : Int) nx357 =>
  br (vx350 != fromx) (idx back62 vx350 fun x359 =>
  idx r344 x359 fun x371 =>
  idx x371 vx350 fun x382 =>
  (0 : Int) ≤ vx350 ∧ Int.toNat vx350 < List.length x371 ∧ (
  idx (List.set r344 (Int.toNat x359) (List.set x371 (Int.toNat vx350) (wr (x382 - step)))) vx350 fun x407 =>
  idx back62 vx350 fun x423 =>
  idx x407 x423 fun x436 =>
  (0 : Int) ≤ x423 ∧ Int.toNat x423 < List.length x407 ∧ (
  idx back62 vx350 fun x467 =>
  nx357 (List.set (List.set r344 (Int.toNat x359) (List.set x371 (Int.toNat vx350) (wr (x382 - step)))) (Int.toNat vx350) (List.set x407 (Int.toNat x423) (wr (x436 + step)))) x467))) <|
  nx r344 (wr (sent13 + step))) r7 to) (wr (limit - sent13)) to) (List.set back (Int.toNat fromx) fromx) ([fromx]))) (List.replicate (Int.toNat (ln r)) ((0 : Int))) 0)) <|
  k sent13 r7) r 0) <|
  fun (sent : Int) (r2 : List (List Int)) =>
  Q sent r2

def slices_Clone_int_int (sx : List Int) (Q : (List Int) → Prop) : Prop :=
  nilq sx fun z =>
  br (z) (Q ([])) <|
  (ln (([] : List Int)) + ln sx) * 8 ≤ 140737488355328 ∧ (
  Q ((([] : List Int)) ++ sx))

def impl_copyMatrix (x : List (List Int)) (Q : (List (List Int)) → Prop) : Prop :=
  (0 : Int) ≤ (ln x) ∧ 24 * (ln x) ≤ 140737488355328 ∧ (
  (0 : Int) < ln (List.replicate (Int.toNat (ln x)) (([] : List Int))) ∧ Loop2 (fun (out : List (List Int)) (x12 : Int) nx =>
  br (decide (x12 < (ln x))) (idx x x12 fun x15 =>
  slices_Clone_int_int x15 fun r25 =>
  (0 : Int) ≤ x12 ∧ Int.toNat x12 < List.length out ∧ (
  nx (List.set out (Int.toNat x12) r25) (wr (x12 + 1)))) <|
  Q out) (List.replicate (Int.toNat (ln x)) (([] : List Int))) 0)

def impl_restore (t : Transport) (x : List (List Int)) (r25 : List (List Int)) (fixed : Int) (Q : (List (List Int)) → Prop) : Prop :=
  impl_copyMatrix x fun r36 =>
  Loop2 (fun (out : List (List Int)) (x51 : Int) nx =>
  br (decide (x51 < (ln r36))) (idx out x51 fun x55 =>
  Loop2 (fun (out64 : List (List Int)) (x70 : Int) nx77 =>
  br (decide (x70 < (ln x55))) (jn (fun (k : (List (List Int)) → Prop) => br (decide ((wr ((wr (x51 * (ln t.Cols))) + x70)) > fixed)) (idx out64 x51 fun x130 =>
  idx t.Hi x51 fun x144 =>
  idx x144 x70 fun x159 =>
  idx r25 x51 fun x170 =>
  idx x170 (wr ((ln t.Rows) + x70)) fun x185 =>
  (0 : Int) ≤ x70 ∧ Int.toNat x70 < List.length x130 ∧ (
  k (List.set out64 (Int.toNat x51) (List.set x130 (Int.toNat x70) (wr (x159 - x185)))))) <|
  k out64) <|
  fun (out118 : List (List Int)) =>
  nx77 out118 (wr (x70 + 1))) <|
  nx out64 (wr (x51 + 1))) out 0) <|
  Q out) r36 0

def impl_fill (t : Transport) (Q : (List (List Int)) → Prop) : Prop :=
  impl_residual ((Transport.mk t.Rows t.Cols t.Lo t.Hi)) t.Lo ((-1)) fun r23 =>
  (0 : Int) ≤ (wr ((wr ((ln t.Rows) + (ln t.Cols))) + 2)) ∧ 24 * (wr ((wr ((ln t.Rows) + (ln t.Cols))) + 2)) ≤ 140737488355328 ∧ (
  Loop2 (fun (r45 : List (List Int)) (x51 : Int) nx =>
  br (decide (x51 < (ln (List.replicate (Int.toNat (wr ((wr ((ln t.Rows) + (ln t.Cols))) + 2))) (([] : List Int)))))) (jn (fun (k : (List (List Int)) → Prop) => (0 : Int) ≤ (wr ((wr ((ln t.Rows) + (ln t.Cols))) + 2)) ∧ 8 * (wr ((wr ((ln t.Rows) + (ln t.Cols))) + 2)) ≤ 140737488355328 ∧ (
  (0 : Int) ≤ x51 ∧ Int.toNat x51 < List.length r45 ∧ (
  br (decide (x51 < (wr ((ln t.Rows) + (ln t.Cols))))) (idx (List.set r45 (Int.toNat x51) (List.replicate (Int.toNat (wr ((wr ((ln t.Rows) + (ln t.Cols))) + 2))) ((0 : Int)))) x51 fun x110 =>
  idx r23 x51 fun x123 =>
  k (List.set (List.set r45 (Int.toNat x51) (List.replicate (Int.toNat (wr ((wr ((ln t.Rows) + (ln t.Cols))) + 2))) ((0 : Int)))) (Int.toNat x51) (List.take (List.length x110) x123 ++ List.drop (List.length x123) x110))) <|
  k (List.set r45 (Int.toNat x51) (List.replicate (Int.toNat (wr ((wr ((ln t.Rows) + (ln t.Cols))) + 2))) ((0 : Int))))))) <|
  fun (r81 : List (List Int)) =>
  nx r81 (wr (x51 + 1))) <|
  impl_rowSums t.Lo fun r170 =>
  impl_colSums t.Lo fun r189 =>
  Loop2 (fun (r203 : List (List Int)) (x209 : Int) nx217 =>
  br (decide (x209 < (ln t.Rows))) (idx t.Rows x209 fun x219 =>
  idx r170 x209 fun x234 =>
  br (decide (x219 < x234)) (Q ([])) <|
  idx r203 (wr ((ln t.Rows) + (ln t.Cols))) fun x258 =>
  idx r170 x209 fun x274 =>
  (0 : Int) ≤ x209 ∧ Int.toNat x209 < List.length x258 ∧ (
  nx217 (List.set r203 (Int.toNat (wr ((ln t.Rows) + (ln t.Cols)))) (List.set x258 (Int.toNat x209) (wr (x219 - x274)))) (wr (x209 + 1)))) <|
  Loop2 (fun (r313 : List (List Int)) (x319 : Int) nx325 =>
  br (decide (x319 < (ln t.Cols))) (idx t.Cols x319 fun x327 =>
  idx r189 x319 fun x344 =>
  br (decide (x327 < x344)) (Q ([])) <|
  idx r313 (wr ((ln t.Rows) + x319)) fun x373 =>
  idx r189 x319 fun x389 =>
  (0 : Int) ≤ (wr ((wr ((ln t.Rows) + (ln t.Cols))) + 1)) ∧ Int.toNat (wr ((wr ((ln t.Rows) + (ln t.Cols))) + 1)) < List.length x373 ∧ (
  nx325 (List.set r313 (Int.toNat (wr ((ln t.Rows) + x319))) (List.set x373 (Int.toNat (wr ((wr ((ln t.Rows) + (ln t.Cols))) + 1))) (wr (x327 - x389)))) (wr (x319 + 1)))) <|
  impl_total t.Rows fun r427 =>
  impl_push r313 (wr ((ln t.Rows) + (ln t.Cols))) (wr ((wr ((ln t.Rows) + (ln t.Cols))) + 1)) r427 fun r438 r439 =>
  impl_restore ((Transport.mk t.Rows t.Cols t.Lo t.Hi)) t.Lo r439 ((-1)) fun r449 =>
  Q r449) r203 0) r45 0) (List.replicate (Int.toNat (wr ((wr ((ln t.Rows) + (ln t.Cols))) + 2))) (([] : List Int))) 0)

def slices_Equal_int_int (sx : List Int) (sx1 : List Int) (Q : Bool → Prop) : Prop :=
  br ((ln sx) != (ln sx1)) (Q false) <|
  Loop1 (fun (x : Int) nx =>
  br (decide (x < (ln sx))) (idx sx x fun x10 =>
  idx sx1 x fun x17 =>
  br (x10 != x17) (Q false) <|
  nx (wr (x + 1))) <|
  Q true) 0

def impl_anyFlow (t : Transport) (Q : (List (List Int)) → Prop) : Prop :=
  det1 (impl_total t.Rows) fun r20 =>
  det1 (impl_total t.Cols) fun r24 =>
  br (r20 != r24) (Q ([])) <|
  impl_fill ((Transport.mk t.Rows t.Cols t.Lo t.Hi)) fun r33 =>
  jn (fun (k : Bool → Prop) => br (ln r33 == 0) (k true) <|
  impl_rowSums r33 fun r66 =>
  det1 (slices_Equal_int_int r66 t.Rows) fun r80 =>
  k (!r80)) <|
  fun (x57 : Bool) =>
  br (x57) (Q ([])) <|
  Q r33

def impl_lowered (t : Transport) (x : List (List Int)) (i : Int) (j : Int) (Q : (List (List Int)) → Prop) : Prop :=
  impl_residual ((Transport.mk t.Rows t.Cols t.Lo t.Hi)) x (wr ((wr (i * (ln t.Cols))) + j)) fun r30 =>
  idx x i fun x46 =>
  idx x46 j fun x59 =>
  idx t.Lo i fun x71 =>
  idx x71 j fun x86 =>
  impl_push r30 i (wr ((ln t.Rows) + j)) (wr (x59 - x86)) fun r99 r100 =>
  impl_restore ((Transport.mk t.Rows t.Cols t.Lo t.Hi)) x r100 (wr ((wr (i * (ln t.Cols))) + j)) fun r109 =>
  idx r109 i fun x130 =>
  idx x130 j fun x141 =>
  (0 : Int) ≤ j ∧ Int.toNat j < List.length x130 ∧ (
  Q (List.set r109 (Int.toNat i) (List.set x130 (Int.toNat j) (wr (x141 - r99)))))

def impl_firstFrom (t : Transport) (x : List (List Int)) (fromx : Int) (Q : (List (List Int)) → Prop) : Prop :=
  (0 : Int) < ln x ∧ Loop2 (fun (x31 : List (List Int)) (p : Int) nx =>
  br (decide (p < (wr ((ln t.Rows) * (ln t.Cols))))) ((ln t.Cols) ≠ 0 ∧ (
  (ln t.Cols) ≠ 0 ∧ (
  impl_lowered ((Transport.mk t.Rows t.Cols t.Lo t.Hi)) x31 (wr (Int.tdiv p (ln t.Cols))) (Int.tmod p (ln t.Cols)) fun r50 =>
  nx r50 (wr (p + 1))))) <|
  Q x31) x (wr (fromx + 1))

def impl_firstFlow (t : Transport) (Q : (List (List Int)) → Prop) : Prop :=
  impl_anyFlow ((Transport.mk t.Rows t.Cols t.Lo t.Hi)) fun r23 =>
  br (ln r23 == 0) (Q ([])) <|
  impl_firstFrom ((Transport.mk t.Rows t.Cols t.Lo t.Hi)) r23 ((-1)) fun r38 =>
  Q r38

def impl_nextFlow (t : Transport) (x : List (List Int)) (Q : (List (List Int)) → Prop) : Prop :=
  Loop1 (fun (p : Int) nx =>
  br (decide (p ≥ 0)) (jn (fun (k : Prop) => (ln t.Cols) ≠ 0 ∧ (
  (ln t.Cols) ≠ 0 ∧ (
  idx x (wr (Int.tdiv p (ln t.Cols))) fun x49 =>
  idx x49 (Int.tmod p (ln t.Cols)) fun x59 =>
  idx t.Hi (wr (Int.tdiv p (ln t.Cols))) fun x69 =>
  idx x69 (Int.tmod p (ln t.Cols)) fun x82 =>
  br (x59 == x82) (k) <|
  impl_residual ((Transport.mk t.Rows t.Cols t.Lo t.Hi)) x p fun r96 =>
  impl_push r96 (wr ((ln t.Rows) + (Int.tmod p (ln t.Cols)))) (wr (Int.tdiv p (ln t.Cols))) 1 fun r111 r112 =>
  br (r111 == 0) (k) <|
  impl_restore ((Transport.mk t.Rows t.Cols t.Lo t.Hi)) x r112 p fun r122 =>
  idx r122 (wr (Int.tdiv p (ln t.Cols))) fun x142 =>
  idx x142 (Int.tmod p (ln t.Cols)) fun x153 =>
  (0 : Int) ≤ (Int.tmod p (ln t.Cols)) ∧ Int.toNat (Int.tmod p (ln t.Cols)) < List.length x142 ∧ (
  impl_firstFrom ((Transport.mk t.Rows t.Cols t.Lo t.Hi)) (List.set r122 (Int.toNat (wr (Int.tdiv p (ln t.Cols)))) (List.set x142 (Int.toNat (Int.tmod p (ln t.Cols))) (wr (x153 + 1)))) p fun r175 =>
  Q r175)))) <|
  nx (wr (p - 1))) <|
  Q ([])) (wr ((wr ((ln t.Rows) * (ln t.Cols))) - 1))

def impl_countFlows (t : Transport) (Q : Int → Bool → Prop) : Prop :=
  br (decide ((wr ((ln t.Rows) * (ln t.Cols))) > 16)) (Q 0 false) <|
  impl_firstFlow ((Transport.mk t.Rows t.Cols t.Lo t.Hi)) fun r21 =>
  Loop2 (fun (n : Int) (x34 : List (List Int)) nx =>
  br (!(ln x34 == 0)) (br (decide ((wr (n + 1)) > 2000)) (Q 0 false) <|
  impl_nextFlow ((Transport.mk t.Rows t.Cols t.Lo t.Hi)) x34 fun r53 =>
  nx (wr (n + 1)) r53) <|
  Q n true) 0 r21

def impl_CountFlows (t : Transport) (Q : Int → Bool → Prop) : Prop :=
  impl_IsTransport ((Transport.mk t.Rows t.Cols t.Lo t.Hi)) fun r20 =>
  br (!r20) (Q 0 false) <|
  impl_countFlows ((Transport.mk t.Rows t.Cols t.Lo t.Hi)) fun r29 r30 =>
  Q r29 r30

def spec_l1In (n : Int) (lo : Int) (hi : Int) (Q : Bool → Prop) : Prop :=
  jn (fun (k : Bool → Prop) => br (decide (n ≥ lo)) (k (decide (n ≤ hi))) <|
  k false) <|
  fun (x : Bool) =>
  Q x

def spec_l1All (l : List Int) (lo : Int) (hi : Int) (Q : Bool → Prop) : Prop :=
  Loop1 (fun (x : Int) nx =>
  br (decide (x < (ln l))) (idx l x fun x2 =>
  spec_l1In x2 lo hi fun r10 =>
  br (!r10) (Q false) <|
  nx (wr (x + 1))) <|
  Q true) 0

def spec_tSize (t : Transport) (x : List (List Int)) (Q : Bool → Prop) : Prop :=
  br ((ln x) != (ln t.Rows)) (Q false) <|
  Loop1 (fun (x28 : Int) nx =>
  br (decide (x28 < (ln x))) (idx x x28 fun x31 =>
  br ((ln x31) != (ln t.Cols)) (Q false) <|
  nx (wr (x28 + 1))) <|
  Q true) 0

def spec_tGood (t : Transport) (Q : Bool → Prop) : Prop :=
  jn (fun (k : Bool → Prop) => spec_l1In (ln t.Rows) 1 8 fun r29 =>
  br (!r29) (k true) <|
  spec_l1In (ln t.Cols) 1 8 fun r33 =>
  br (!r33) (k true) <|
  spec_l1All t.Rows 0 100000 fun r38 =>
  br (!r38) (k true) <|
  spec_l1All t.Cols 0 100000 fun r46 =>
  br (!r46) (k true) <|
  spec_tSize ((Transport.mk t.Rows t.Cols t.Lo t.Hi)) t.Lo fun r54 =>
  br (!r54) (k true) <|
  spec_tSize ((Transport.mk t.Rows t.Cols t.Lo t.Hi)) t.Hi fun r66 =>
  k (!r66)) <|
  fun (x26 : Bool) =>
  br (x26) (Q false) <|
  Loop1 (fun (x77 : Int) nx =>
  br (decide (x77 < (ln t.Lo))) (idx t.Lo x77 fun x82 =>
  Loop1 (fun (x93 : Int) nx99 =>
  br (decide (x93 < (ln x82))) (jn (fun (k111 : Bool → Prop) => idx t.Hi x77 fun x113 =>
  idx x113 x93 fun x125 =>
  det1 (spec_l1In x125 0 100000) fun r134 =>
  br (!r134) (k111 true) <|
  idx t.Lo x77 fun x140 =>
  idx x140 x93 fun x152 =>
  idx t.Hi x77 fun x161 =>
  idx x161 x93 fun x173 =>
  det1 (spec_l1In x152 0 x173) fun r182 =>
  k111 (!r182)) <|
  fun (x108 : Bool) =>
  br (x108) (Q false) <|
  nx99 (wr (x93 + 1))) <|
  nx (wr (x77 + 1))) 0) <|
  Q true) 0

def spec_tSum (l : List Int) (Q : Int → Prop) : Prop :=
  Loop2 (fun (sum : Int) (x : Int) nx =>
  br (decide (x < (ln l))) (idx l x fun x1 =>
  nx (wr (sum + x1)) (wr (x + 1))) <|
  Q sum) 0 0

def spec_l1Own (l : List Int) (Q : (List Int) → Prop) : Prop :=
  (ln (([] : List Int)) + ln l) * 8 ≤ 140737488355328 ∧ (
  Q ((([] : List Int)) ++ l))

def spec_tOwn (x : List (List Int)) (Q : (List (List Int)) → Prop) : Prop :=
  Loop2 (fun (out : List (List Int)) (x4 : Int) nx =>
  br (decide (x4 < (ln x))) (idx x x4 fun x8 =>
  spec_l1Own x8 fun r18 =>
  (ln out + ln ([r18])) * 24 ≤ 140737488355328 ∧ (
  nx (out ++ ([r18])) (wr (x4 + 1)))) <|
  Q out) ([]) 0

def spec_tColumn (x : List (List Int)) (j : Int) (Q : (List Int) → Prop) : Prop :=
  Loop2 (fun (out : List Int) (x4 : Int) nx =>
  br (decide (x4 < (ln x))) (idx x x4 fun x8 =>
  idx x8 j fun x18 =>
  (ln out + ln ([x18])) * 8 ≤ 140737488355328 ∧ (
  nx (out ++ ([x18])) (wr (x4 + 1)))) <|
  Q out) ([]) 0

def spec_tStart (t : Transport) (Q : TFill → Bool → Prop) : Prop :=
  spec_tOwn t.Lo fun r28 =>
  Loop2 (fun (x49 : Int) (rows : List Int) nx =>
  br (decide (x49 < (ln t.Rows))) (idx t.Rows x49 fun x60 =>
  idx t.Lo x49 fun x78 =>
  det1 (spec_tSum x78) fun r97 =>
  (ln rows + ln ([wr (x60 - r97)])) * 8 ≤ 140737488355328 ∧ (
  nx (wr (x49 + 1)) (rows ++ ([wr (x60 - r97)])))) <|
  Loop2 (fun (x141 : Int) (cols : List Int) nx156 =>
  br (decide (x141 < (ln t.Cols))) (idx t.Cols x141 fun x158 =>
  spec_tColumn t.Lo x141 fun r180 =>
  det1 (spec_tSum r180) fun r199 =>
  (ln cols + ln ([wr (x158 - r199)])) * 8 ≤ 140737488355328 ∧ (
  nx156 (wr (x141 + 1)) (cols ++ ([wr (x158 - r199)])))) <|
  jn (fun (k : Bool → Prop) => spec_l1All rows 0 100000 fun r284 =>
  br (r284) (spec_l1All cols 0 100000 fun r289 =>
  k r289) <|
  k false) <|
  fun (x281 : Bool) =>
  Q ((TFill.mk ((Transport.mk t.Rows t.Cols t.Lo t.Hi)) r28 rows cols)) x281) 0 ([])) 0 ([])

def spec_tFill_room (f : TFill) (vx38 : Int) (k : Int) (Q : Int → Prop) : Prop :=
  jn (fun (k39 : Bool → Prop) => br (decide (vx38 < (ln f.Rows))) (k39 (decide (k ≥ (ln f.Rows)))) <|
  k39 false) <|
  fun (x : Bool) =>
  br (x) (idx f.T.Hi vx38 fun x41 =>
  idx x41 (wr (k - (ln f.Rows))) fun x50 =>
  idx f.X vx38 fun x59 =>
  idx x59 (wr (k - (ln f.Rows))) fun x71 =>
  Q (wr (x50 - x71))) <|
  jn (fun (k85 : Bool → Prop) => br (decide (vx38 ≥ (ln f.Rows))) (k85 (decide (k < (ln f.Rows)))) <|
  k85 false) <|
  fun (x83 : Bool) =>
  br (x83) (idx f.X k fun x89 =>
  idx x89 (wr (vx38 - (ln f.Rows))) fun x101 =>
  idx f.T.Lo k fun x110 =>
  idx x110 (wr (vx38 - (ln f.Rows))) fun x122 =>
  Q (wr (x101 - x122))) <|
  Q 0

def spec_l1Least (a : Int) (b : Int) (Q : Int → Prop) : Prop :=
  br (decide (a < b)) (Q a) <|
  Q b

def spec_tFill_push (f : TFill) (fromx : List Int) (endx : Int) (Q : (List (List Int)) → (List Int) → (List Int) → Prop) : Prop :=
  idx f.Cols (wr (endx - (ln f.Rows))) fun x =>
  Loop2 (fun (most : Int) (start : Int) nx =>
  idx fromx start fun x79 =>
  br (decide (x79 ≥ 0)) (idx fromx start fun x89 =>
  spec_tFill_room ((TFill.mk ((Transport.mk f.T.Rows f.T.Cols f.T.Lo f.T.Hi)) f.X f.Rows f.Cols)) x89 start fun r98 =>
  spec_l1Least most r98 fun r109 =>
  idx fromx start fun x112 =>
  nx r109 x112) <|
  idx f.Rows start fun x124 =>
  spec_l1Least most x124 fun r134 =>
  Loop2 (fun (vx137 : Int) (x138 : List (List Int)) nx155 =>
  idx fromx vx137 fun x156 =>
  br (decide (x156 ≥ 0)) (jn (fun (k : (List (List Int)) → Prop) => br (decide (vx137 ≥ (ln f.Rows))) (idx fromx vx137 fun x199 =>
  idx x138 x199 fun x211 =>
  idx x211 (wr (vx137 - (ln f.Rows))) fun x224 =>
  (0 : Int) ≤ (wr (vx137 - (ln f.Rows))) ∧ Int.toNat (wr (vx137 - (ln f.Rows))) < List.length x211 ∧ (
  k (List.set x138 (Int.toNat x199) (List.set x211 (Int.toNat (wr (vx137 - (ln f.Rows)))) (wr (x224 + r134)))))) <|
  idx x138 vx137 fun x256 =>
  idx fromx vx137 fun x272 =>
  idx x256 (wr (x272 - (ln f.Rows))) fun x284 =>
  (0 : Int) ≤ (wr (x272 - (ln f.Rows))) ∧ Int.toNat (wr (x272 - (ln f.Rows))) < List.length x256 ∧ (
  k (List.set x138 (Int.toNat vx137) (List.set x256 (Int.toNat (wr (x272 - (ln f.Rows)))) (wr (x284 - r134)))))) <|
  fun (x181 : List (List Int)) =>
  idx fromx vx137 fun x319 =>
  nx155 x319 x181) <|
  idx f.Rows start fun x336 =>
  (0 : Int) ≤ start ∧ Int.toNat start < List.length f.Rows ∧ (
  idx f.Cols (wr (endx - (ln f.Rows))) fun x358 =>
  (0 : Int) ≤ (wr (endx - (ln f.Rows))) ∧ Int.toNat (wr (endx - (ln f.Rows))) < List.length f.Cols ∧ (
  Q x138 (List.set f.Rows (Int.toNat start) (wr (x336 - r134))) (List.set f.Cols (Int.toNat (wr (endx - (ln f.Rows)))) (wr (x358 - r134)))))) endx f.X) x endx

def spec_tFill_augment (f : TFill) (Q : Bool → (List (List Int)) → (List Int) → (List Int) → Prop) : Prop :=
  (0 : Int) ≤ (wr ((ln f.Rows) + (ln f.Cols))) ∧ 8 * (wr ((ln f.Rows) + (ln f.Cols))) ≤ 140737488355328 ∧ (
  Loop3 (fun (fromx : List Int) (queue : List Int) (x80 : Int) nx =>
  br (decide (x80 < (ln (List.replicate (Int.toNat (wr ((ln f.Rows) + (ln f.Cols)))) ((0 : Int)))))) (jn (fun (k : (List Int) → (List Int) → Prop) => (0 : Int) ≤ x80 ∧ Int.toNat x80 < List.length fromx ∧ (
  jn (fun (k167 : Bool → Prop) => br (decide (x80 < (ln f.Rows))) (idx f.Rows x80 fun x170 =>
  k167 (decide (x170 > 0))) <|
  k167 false) <|
  fun (x165 : Bool) =>
  br (x165) ((0 : Int) ≤ x80 ∧ Int.toNat x80 < List.length (List.set fromx (Int.toNat x80) ((-2))) ∧ (
  (ln queue + ln ([x80])) * 8 ≤ 140737488355328 ∧ (
  k (List.set (List.set fromx (Int.toNat x80) ((-2))) (Int.toNat x80) ((-1))) (queue ++ ([x80]))))) <|
  k (List.set fromx (Int.toNat x80) ((-2))) queue)) <|
  fun (fromx115 : List Int) (queue121 : List Int) =>
  nx fromx115 queue121 (wr (x80 + 1))) <|
  Loop3 (fun (fromx223 : List Int) (queue229 : List Int) (atx : Int) nx247 =>
  br (decide (atx < (ln queue229))) (idx queue229 atx fun x249 =>
  jn (fun (k328 : Bool → Prop) => br (decide (x249 ≥ (ln f.Rows))) (idx f.Cols (wr (x249 - (ln f.Rows))) fun x331 =>
  k328 (decide (x331 > 0))) <|
  k328 false) <|
  fun (x326 : Bool) =>
  br (x326) (spec_tFill_push ((TFill.mk ((Transport.mk f.T.Rows f.T.Cols f.T.Lo f.T.Hi)) f.X f.Rows f.Cols)) fromx223 x249 fun r349 r350 r351 =>
  Q true r349 r350 r351) <|
  Loop3 (fun (fromx386 : List Int) (queue392 : List Int) (k398 : Int) nx411 =>
  br (decide (k398 < (wr ((ln f.Rows) + (ln f.Cols))))) (jn (fun (k478 : (List Int) → (List Int) → Prop) => jn (fun (k483 : Bool → Prop) => idx fromx386 k398 fun x485 =>
  br (x485 == ((-2))) (spec_tFill_room ((TFill.mk ((Transport.mk f.T.Rows f.T.Cols f.T.Lo f.T.Hi)) f.X f.Rows f.Cols)) x249 k398 fun r495 =>
  k483 (decide (r495 > 0))) <|
  k483 false) <|
  fun (x480 : Bool) =>
  br (x480) ((0 : Int) ≤ k398 ∧ Int.toNat k398 < List.length fromx386 ∧ (
  (ln queue392 + ln ([k398])) * 8 ≤ 140737488355328 ∧ (
  k478 (List.set fromx386 (Int.toNat k398) x249) (queue392 ++ ([k398]))))) <|
  k478 fromx386 queue392) <|
  fun (fromx457 : List Int) (queue463 : List Int) =>
  nx411 fromx457 queue463 (wr (k398 + 1))) <|
  nx247 fromx386 queue392 (wr (atx + 1))) fromx223 queue229 0) <|
  Q false f.X f.Rows f.Cols) fromx queue 0) (List.replicate (Int.toNat (wr ((ln f.Rows) + (ln f.Cols)))) ((0 : Int))) ([]) 0)

def spec_tFilled (t : Transport) (Q : TFill → Bool → Prop) : Prop :=
  spec_tStart ((Transport.mk t.Rows t.Cols t.Lo t.Hi)) fun r23 r24 =>
  br (!r24) (Q ((TFill.mk ((Transport.mk r23.T.Rows r23.T.Cols r23.T.Lo r23.T.Hi)) r23.X r23.Rows r23.Cols)) false) <|
  Loop3 (fun (x109 : List (List Int)) (rows : List Int) (cols : List Int) nx =>
  spec_tFill_augment ((TFill.mk ((Transport.mk r23.T.Rows r23.T.Cols r23.T.Lo r23.T.Hi)) x109 rows cols)) fun r167 r168 r169 r170 =>
  br (r167) (nx r168 r169 r170) <|
  Q ((TFill.mk ((Transport.mk r23.T.Rows r23.T.Cols r23.T.Lo r23.T.Hi)) r168 r169 r170)) true) r23.X r23.Rows r23.Cols

def spec_tFeasible (t : Transport) (Q : (List (List Int)) → Bool → Prop) : Prop :=
  det1 (spec_tSum t.Rows) fun r20 =>
  det1 (spec_tSum t.Cols) fun r24 =>
  br (r20 != r24) (Q ([]) false) <|
  spec_tFilled ((Transport.mk t.Rows t.Cols t.Lo t.Hi)) fun r33 r34 =>
  jn (fun (k : Bool → Prop) => br (!r34) (k true) <|
  spec_tSum r33.Rows fun r125 =>
  k (decide (r125 > 0))) <|
  fun (x121 : Bool) =>
  br (x121) (Q ([]) false) <|
  Q r33.X true

def spec_tWith (t : Transport) (i : Int) (j : Int) (lo : Int) (hi : Int) (Q : Transport → Prop) : Prop :=
  jn (fun (k : (List Int) → (List Int) → (List (List Int)) → (List (List Int)) → Prop) => (
  spec_tOwn t.Lo fun r88 =>
  (
  spec_tOwn t.Hi fun r106 =>
  k t.Rows t.Cols r88 r106) ∧ (
  spec_tOwn t.Hi fun r189 =>
  k t.Rows t.Cols r88 r189)) ∧ (
  spec_tOwn t.Lo fun r260 =>
  spec_tOwn t.Hi fun r278 =>
  k t.Rows t.Cols r260 r278)) <|
  fun (rows : List Int) (cols : List Int) (lo50 : List (List Int)) (hi55 : List (List Int)) =>
  idx lo50 i fun x336 =>
  (0 : Int) ≤ j ∧ Int.toNat j < List.length x336 ∧ (
  idx hi55 i fun x359 =>
  (0 : Int) ≤ j ∧ Int.toNat j < List.length x359 ∧ (
  Q ((Transport.mk rows cols (List.set lo50 (Int.toNat i) (List.set x336 (Int.toNat j) lo)) (List.set hi55 (Int.toNat i) (List.set x359 (Int.toNat j) hi))))))

def spec_tLow (t : Transport) (i : Int) (j : Int) (Q : Int → Prop) : Prop :=
  idx t.Lo i fun x20 =>
  idx x20 j fun x30 =>
  idx t.Hi i fun x39 =>
  idx x39 j fun x52 =>
  Loop2 (fun (lo : Int) (hi63 : Int) nx =>
  br (decide (lo < hi63)) (idx t.Lo i fun x69 =>
  idx x69 j fun x84 =>
  spec_tWith ((Transport.mk t.Rows t.Cols t.Lo t.Hi)) i j x84 (wr (Int.tdiv (wr (lo + hi63)) 2)) fun r97 =>
  spec_tFeasible ((Transport.mk r97.Rows r97.Cols r97.Lo r97.Hi)) fun r140 r141 =>
  br (r141) (nx lo (wr (Int.tdiv (wr (lo + hi63)) 2))) <|
  nx (wr ((wr (Int.tdiv (wr (lo + hi63)) 2)) + 1)) hi63) <|
  Q lo) x30 x52

def spec_tCounter_run (c : TCounter) (t : Transport) (k : Int) (Q : Int → Int → Prop) : Prop :=
  Rec3 (fun (self : TCounter → Transport → Int → (Int → Int → Prop) → Prop) (c : TCounter) (t : Transport) (k : Int) (Q : Int → Int → Prop) =>
  br (k == (wr ((ln t.Rows) * (ln t.Cols)))) (Q (wr (c.N + 1)) c.Most) <|
  (ln t.Cols) ≠ 0 ∧ (
  (ln t.Cols) ≠ 0 ∧ (
  spec_tLow ((Transport.mk t.Rows t.Cols t.Lo t.Hi)) (wr (Int.tdiv k (ln t.Cols))) (Int.tmod k (ln t.Cols)) fun r34 =>
  Loop3 (fun (vx41 : Int) (n : Int) (most : Int) nx =>
  jn (fun (k59 : Bool → Prop) => idx t.Hi (wr (Int.tdiv k (ln t.Cols))) fun x60 =>
  idx x60 (Int.tmod k (ln t.Cols)) fun x70 =>
  br (decide (vx41 ≤ x70)) (k59 (decide (n ≤ most))) <|
  k59 false) <|
  fun (x56 : Bool) =>
  br (x56) (spec_tWith ((Transport.mk t.Rows t.Cols t.Lo t.Hi)) (wr (Int.tdiv k (ln t.Cols))) (Int.tmod k (ln t.Cols)) vx41 vx41 fun r86 =>
  spec_tFeasible ((Transport.mk r86.Rows r86.Cols r86.Lo r86.Hi)) fun r133 r134 =>
  br (!r134) (Q n most) <|
  self ((TCounter.mk n most)) ((Transport.mk r86.Rows r86.Cols r86.Lo r86.Hi)) (wr (k + 1)) fun r173 r174 =>
  nx (wr (vx41 + 1)) r173 r174) <|
  Q n most) r34 c.N c.Most))) c t k Q

def spec_CountFlows (t : Transport) (Q : Int → Bool → Prop) : Prop :=
  jn (fun (k : Bool → Prop) => spec_tGood ((Transport.mk t.Rows t.Cols t.Lo t.Hi)) fun r29 =>
  br (!r29) (k true) <|
  k (decide ((wr ((ln t.Rows) * (ln t.Cols))) > 16))) <|
  fun (x26 : Bool) =>
  br (x26) (Q 0 false) <|
  spec_tFeasible ((Transport.mk t.Rows t.Cols t.Lo t.Hi)) fun r36 r37 =>
  br (!r37) (Q 0 true) <|
  spec_tCounter_run ((TCounter.mk 0 2000)) ((Transport.mk t.Rows t.Cols t.Lo t.Hi)) 0 fun r66 r67 =>
  br (decide (r66 > 2000)) (Q 0 false) <|
  Q r66 true

def impl_FirstFlow (t : Transport) (Q : (List (List Int)) → Bool → Prop) : Prop :=
  impl_IsTransport ((Transport.mk t.Rows t.Cols t.Lo t.Hi)) fun r23 =>
  br (!r23) (Q ([]) false) <|
  impl_firstFlow ((Transport.mk t.Rows t.Cols t.Lo t.Hi)) fun r32 =>
  Q r32 (!(ln r32 == 0))

def impl_IsFlow (t : Transport) (x : List (List Int)) (Q : Bool → Bool → Prop) : Prop :=
  impl_IsTransport ((Transport.mk t.Rows t.Cols t.Lo t.Hi)) fun r27 =>
  br (!r27) (Q false false) <|
  impl_hasShape x (ln t.Rows) (ln t.Cols) fun r36 =>
  br (!r36) (Q false true) <|
  Loop1 (fun (x44 : Int) nx =>
  br (decide (x44 < (ln x))) (idx x x44 fun x47 =>
  Loop1 (fun (x57 : Int) nx62 =>
  br (decide (x57 < (ln x47))) (idx x47 x57 fun x64 =>
  jn (fun (k : Bool → Prop) => idx t.Lo x44 fun x84 =>
  idx x84 x57 fun x96 =>
  br (decide (x64 < x96)) (k true) <|
  idx t.Hi x44 fun x106 =>
  idx x106 x57 fun x118 =>
  k (decide (x64 > x118))) <|
  fun (x82 : Bool) =>
  br (x82) (Q false true) <|
  nx62 (wr (x57 + 1))) <|
  nx (wr (x44 + 1))) 0) <|
  jn (fun (k141 : Bool → Prop) => impl_rowSums x fun r148 =>
  det1 (slices_Equal_int_int r148 t.Rows) fun r161 =>
  br (r161) (impl_colSums x fun r171 =>
  det1 (slices_Equal_int_int r171 t.Cols) fun r185 =>
  k141 r185) <|
  k141 false) <|
  fun (x138 : Bool) =>
  Q x138 true) 0

def impl_NextFlow (t : Transport) (x : List (List Int)) (Q : (List (List Int)) → Bool → Prop) : Prop :=
  impl_IsFlow ((Transport.mk t.Rows t.Cols t.Lo t.Hi)) x fun r31 r32 =>
  jn (fun (k : Bool → Prop) => br (!r31) (k true) <|
  k (!r32)) <|
  fun (x48 : Bool) =>
  br (x48) (Q ([]) false) <|
  impl_nextFlow ((Transport.mk t.Rows t.Cols t.Lo t.Hi)) x fun r51 =>
  Q r51 (!(ln r51 == 0))

def spec_DrawCellRange (code : List B8) (Q : Transport → Int → Int → Prop) : Prop :=
  spec_l1Cur_anyTransport ((L1Cur.mk code 0 0)) fun r8 r9 r10 =>
  spec_l1Cur_pick ((L1Cur.mk code r9 r10)) 4 fun r52 r53 r54 =>
  spec_l1Cur_pick ((L1Cur.mk code r53 r54)) 4 fun r60 r61 r62 =>
  spec_l1Cur_pick ((L1Cur.mk code r61 r62)) 20 fun r68 r69 r70 =>
  Q ((Transport.mk r8.Rows r8.Cols r8.Lo r8.Hi)) r52 (wr (r60 - (wr (Int.tdiv r68 19))))

def impl_rangeOf_1 (c : Transport) (c21 : List (List Int)) (c30 : Int) (c33 : Int) (c36 : Int) (Q : (List (List Int)) → Prop) : Prop :=
  impl_residual ((Transport.mk c.Rows c.Cols c.Lo c.Hi)) c21 ((-1)) fun r39 =>
  idx r39 c30 fun x48 =>
  idx r39 (wr (c33 + c36)) fun x62 =>
  (0 : Int) ≤ (wr (c33 + c36)) ∧ Int.toNat (wr (c33 + c36)) < List.length x48 ∧ (
  idx (List.set r39 (Int.toNat c30) (List.set x48 (Int.toNat (wr (c33 + c36))) 0)) (wr (c33 + c36)) fun x98 =>
  (0 : Int) ≤ c30 ∧ Int.toNat c30 < List.length x98 ∧ (
  Q (List.set (List.set r39 (Int.toNat c30) (List.set x48 (Int.toNat (wr (c33 + c36))) 0)) (Int.toNat (wr (c33 + c36))) (List.set x98 (Int.toNat c30) 0))))

def impl_rangeOf (t : Transport) (x : List (List Int)) (i : Int) (j : Int) (Q : Int → Int → Prop) : Prop :=
  idx x i fun x58 =>
  idx x58 j fun x74 =>
  idx t.Lo i fun x93 =>
  idx x93 j fun x110 =>
  idx t.Hi i fun x121 =>
  idx x121 j fun x138 =>
  impl_rangeOf_1 ((Transport.mk t.Rows t.Cols t.Lo t.Hi)) x i (ln t.Rows) j fun r151 =>
  impl_push r151 i (wr ((ln t.Rows) + j)) (wr (x74 - x110)) fun r194 r195 =>
  impl_rangeOf_1 ((Transport.mk t.Rows t.Cols t.Lo t.Hi)) x i (ln t.Rows) j fun r222 =>
  impl_push r222 (wr ((ln t.Rows) + j)) i (wr (x138 - x74)) fun r259 r260 =>
  Q (wr (x74 - r194)) (wr (x74 + r259))

def impl_CellRange (t : Transport) (i : Int) (j : Int) (Q : Int → Int → Bool → Prop) : Prop :=
  jn (fun (k : Bool → Prop) => impl_IsTransport ((Transport.mk t.Rows t.Cols t.Lo t.Hi)) fun r29 =>
  br (!r29) (k true) <|
  br (decide (i < 0)) (k true) <|
  br (decide (i ≥ (ln t.Rows))) (k true) <|
  br (decide (j < 0)) (k true) <|
  k (decide (j ≥ (ln t.Cols)))) <|
  fun (x26 : Bool) =>
  br (x26) (Q 0 0 false) <|
  impl_anyFlow ((Transport.mk t.Rows t.Cols t.Lo t.Hi)) fun r39 =>
  br (ln r39 == 0) (Q 0 0 false) <|
  impl_rangeOf ((Transport.mk t.Rows t.Cols t.Lo t.Hi)) r39 i j fun r55 r56 =>
  Q r55 r56 true

def spec_tHigh (t : Transport) (i : Int) (j : Int) (Q : Int → Prop) : Prop :=
  idx t.Lo i fun x20 =>
  idx x20 j fun x30 =>
  idx t.Hi i fun x39 =>
  idx x39 j fun x52 =>
  Loop2 (fun (lo : Int) (hi63 : Int) nx =>
  br (decide (lo < hi63)) (idx t.Hi i fun x69 =>
  idx x69 j fun x84 =>
  spec_tWith ((Transport.mk t.Rows t.Cols t.Lo t.Hi)) i j (wr (Int.tdiv (wr ((wr (lo + hi63)) + 1)) 2)) x84 fun r97 =>
  spec_tFeasible ((Transport.mk r97.Rows r97.Cols r97.Lo r97.Hi)) fun r140 r141 =>
  br (r141) (nx (wr (Int.tdiv (wr ((wr (lo + hi63)) + 1)) 2)) hi63) <|
  nx lo (wr ((wr (Int.tdiv (wr ((wr (lo + hi63)) + 1)) 2)) - 1))) <|
  Q lo) x30 x52

def spec_tRange (t : Transport) (i : Int) (j : Int) (Q : Int → Int → Bool → Prop) : Prop :=
  spec_tFeasible ((Transport.mk t.Rows t.Cols t.Lo t.Hi)) fun r20 r21 =>
  br (!r21) (Q 0 0 false) <|
  det1 (spec_tLow ((Transport.mk t.Rows t.Cols t.Lo t.Hi)) i j) fun r36 =>
  det1 (spec_tHigh ((Transport.mk t.Rows t.Cols t.Lo t.Hi)) i j) fun r43 =>
  Q r36 r43 true

def spec_CellRange (t : Transport) (i : Int) (j : Int) (Q : Int → Int → Bool → Prop) : Prop :=
  jn (fun (k : Bool → Prop) => spec_tGood ((Transport.mk t.Rows t.Cols t.Lo t.Hi)) fun r29 =>
  br (!r29) (k true) <|
  spec_l1In i 0 (wr ((ln t.Rows) - 1)) fun r33 =>
  br (!r33) (k true) <|
  spec_l1In j 0 (wr ((ln t.Cols) - 1)) fun r38 =>
  k (!r38)) <|
  fun (x26 : Bool) =>
  br (x26) (Q 0 0 false) <|
  spec_tRange ((Transport.mk t.Rows t.Cols t.Lo t.Hi)) i j fun r45 r46 r47 =>
  Q r45 r46 r47

def impl_allRanges (t : Transport) (x : List (List Int)) (Q : (List (List Int)) → (List (List Int)) → Prop) : Prop :=
  impl_copyMatrix x fun r27 =>
  impl_copyMatrix x fun r37 =>
  Loop3 (fun (lo : List (List Int)) (hi : List (List Int)) (x59 : Int) nx =>
  br (decide (x59 < (ln x))) (idx x x59 fun x66 =>
  Loop3 (fun (lo81 : List (List Int)) (hi87 : List (List Int)) (x93 : Int) nx106 =>
  br (decide (x93 < (ln x66))) (idx lo81 x59 fun x110 =>
  idx hi87 x59 fun x123 =>
  det2 (impl_rangeOf ((Transport.mk t.Rows t.Cols t.Lo t.Hi)) x x59 x93) fun r148 r149 =>
  (0 : Int) ≤ x93 ∧ Int.toNat x93 < List.length x110 ∧ (
  (0 : Int) ≤ x93 ∧ Int.toNat x93 < List.length x123 ∧ (
  nx106 (List.set lo81 (Int.toNat x59) (List.set x110 (Int.toNat x93) r148)) (List.set hi87 (Int.toNat x59) (List.set x123 (Int.toNat x93) r149)) (wr (x93 + 1))))) <|
  nx lo81 hi87 (wr (x59 + 1))) lo hi 0) <|
  Q lo hi) r27 r37 0

def impl_AllRanges (t : Transport) (Q : (List (List Int)) → (List (List Int)) → Bool → Prop) : Prop :=
  impl_IsTransport ((Transport.mk t.Rows t.Cols t.Lo t.Hi)) fun r20 =>
  br (!r20) (Q ([]) ([]) false) <|
  impl_anyFlow ((Transport.mk t.Rows t.Cols t.Lo t.Hi)) fun r29 =>
  br (ln r29 == 0) (Q ([]) ([]) false) <|
  impl_allRanges ((Transport.mk t.Rows t.Cols t.Lo t.Hi)) r29 fun r46 r47 =>
  Q r46 r47 true

def spec_AllRanges (t : Transport) (Q : (List (List Int)) → (List (List Int)) → Bool → Prop) : Prop :=
  spec_tGood ((Transport.mk t.Rows t.Cols t.Lo t.Hi)) fun r20 =>
  br (!r20) (Q ([]) ([]) false) <|
  spec_tFeasible ((Transport.mk t.Rows t.Cols t.Lo t.Hi)) fun r29 r30 =>
  br (!r30) (Q ([]) ([]) false) <|
  spec_tOwn t.Lo fun r52 =>
  spec_tOwn t.Hi fun r68 =>
  Loop3 (fun (lo : List (List Int)) (hi : List (List Int)) (x90 : Int) nx =>
  br (decide (x90 < (ln r52))) (idx lo x90 fun x98 =>
  Loop3 (fun (lo109 : List (List Int)) (hi115 : List (List Int)) (x121 : Int) nx132 =>
  br (decide (x121 < (ln x98))) (idx lo109 x90 fun x136 =>
  det1 (spec_tLow ((Transport.mk t.Rows t.Cols t.Lo t.Hi)) x90 x121) fun r161 =>
  (0 : Int) ≤ x121 ∧ Int.toNat x121 < List.length x136 ∧ (
  idx hi115 x90 fun x219 =>
  det1 (spec_tHigh ((Transport.mk t.Rows t.Cols t.Lo t.Hi)) x90 x121) fun r239 =>
  (0 : Int) ≤ x121 ∧ Int.toNat x121 < List.length x219 ∧ (
  nx132 (List.set lo109 (Int.toNat x90) (List.set x136 (Int.toNat x121) r161)) (List.set hi115 (Int.toNat x90) (List.set x219 (Int.toNat x121) r239)) (wr (x121 + 1))))) <|
  nx lo109 hi115 (wr (x90 + 1))) lo hi 0) <|
  Q lo hi true) r52 r68 0

def laws_sameInts (a : List Int) (b : List Int) (Q : Bool → Prop) : Prop :=
  br ((ln a) != (ln b)) (Q false) <|
  Loop1 (fun (x : Int) nx =>
  br (decide (x < (ln a))) (idx a x fun x10 =>
  idx b x fun x17 =>
  br (x10 != x17) (Q false) <|
  nx (wr (x + 1))) <|
  Q true) 0

def laws_sameLists (a : List (List Int)) (b : List (List Int)) (Q : Bool → Prop) : Prop :=
  br ((ln a) != (ln b)) (Q false) <|
  Loop1 (fun (x : Int) nx =>
  br (decide (x < (ln a))) (idx a x fun x10 =>
  idx b x fun x20 =>
  det1 (laws_sameInts x10 x20) fun r33 =>
  br (!r33) (Q false) <|
  nx (wr (x + 1))) <|
  Q true) 0

def impl_BestFill (t : Transport) (Q : Int → Bool → Prop) : Prop :=
  impl_IsTransport ((Transport.mk t.Rows t.Cols t.Lo t.Hi)) fun r20 =>
  br (!r20) (Q 0 false) <|
  impl_fill ((Transport.mk t.Rows t.Cols t.Lo t.Hi)) fun r29 =>
  br (ln r29 == 0) (Q 0 false) <|
  impl_rowSums r29 fun r45 =>
  impl_total r45 fun r55 =>
  Q r55 true

def spec_BestFill (t : Transport) (Q : Int → Bool → Prop) : Prop :=
  spec_tGood ((Transport.mk t.Rows t.Cols t.Lo t.Hi)) fun r20 =>
  br (!r20) (Q 0 false) <|
  spec_tFilled ((Transport.mk t.Rows t.Cols t.Lo t.Hi)) fun r29 r30 =>
  br (!r30) (Q 0 false) <|
  Loop2 (fun (sum : Int) (x112 : Int) nx =>
  br (decide (x112 < (ln r29.X))) (idx r29.X x112 fun x116 =>
  spec_tSum x116 fun r127 =>
  nx (wr (sum + r127)) (wr (x112 + 1))) <|
  Q sum true) 0 0

def laws_FnFlowCounts (code : List B8) (more : List B8) (Q : Bool → Prop) : Prop :=
  laws_big code more fun r7 =>
  br (r7) (Q true) <|
  spec_DrawCountFlows code fun r9 =>
  impl_CountFlows ((Transport.mk r9.Rows r9.Cols r9.Lo r9.Hi)) fun r50 r51 =>
  spec_CountFlows ((Transport.mk r9.Rows r9.Cols r9.Lo r9.Hi)) fun r62 r63 =>
  jn (fun (k : Bool → Prop) => br (r51 != r63) (k true) <|
  k (r50 != r62)) <|
  fun (x88 : Bool) =>
  br (x88) (Q false) <|
  jn (fun (k94 : Prop) => jn (fun (k98 : Bool → Prop) => br (r51) (k98 (decide (r62 ≤ 30))) <|
  k98 false) <|
  fun (x96 : Bool) =>
  br (x96) (impl_FirstFlow ((Transport.mk r9.Rows r9.Cols r9.Lo r9.Hi)) fun r102 r103 =>
  Loop3 (fun (k113 : Int) (x114 : List (List Int)) (is : Bool) nx =>
  jn (fun (k144 : Bool → Prop) => br (is) (k144 (decide (k113 ≤ r62))) <|
  k144 false) <|
  fun (x142 : Bool) =>
  br (x142) (impl_NextFlow ((Transport.mk r9.Rows r9.Cols r9.Lo r9.Hi)) x114 fun r148 r149 =>
  nx (wr (k113 + 1)) r148 r149) <|
  br (k113 != r62) (Q false) <|
  k94) 0 r102 r103) <|
  k94) <|
  spec_DrawCellRange more fun r171 r172 r173 =>
  impl_CellRange ((Transport.mk r171.Rows r171.Cols r171.Lo r171.Hi)) r172 r173 fun r219 r220 r221 =>
  spec_CellRange ((Transport.mk r171.Rows r171.Cols r171.Lo r171.Hi)) r172 r173 fun r233 r234 r235 =>
  jn (fun (k260 : Bool → Prop) => br (r221 != r235) (k260 true) <|
  br (r219 != r233) (k260 true) <|
  k260 (r220 != r234)) <|
  fun (x258 : Bool) =>
  br (x258) (Q false) <|
  impl_AllRanges ((Transport.mk r171.Rows r171.Cols r171.Lo r171.Hi)) fun r265 r266 r267 =>
  spec_AllRanges ((Transport.mk r171.Rows r171.Cols r171.Lo r171.Hi)) fun r286 r287 r288 =>
  jn (fun (k327 : Bool → Prop) => br (r267 != r288) (k327 true) <|
  laws_sameLists r265 r286 fun r330 =>
  br (!r330) (k327 true) <|
  laws_sameLists r266 r287 fun r334 =>
  k327 (!r334)) <|
  fun (x324 : Bool) =>
  br (x324) (Q false) <|
  impl_BestFill ((Transport.mk r171.Rows r171.Cols r171.Lo r171.Hi)) fun r343 r344 =>
  spec_BestFill ((Transport.mk r171.Rows r171.Cols r171.Lo r171.Hi)) fun r352 r353 =>
  jn (fun (k364 : Bool → Prop) => br (r344 == r353) (k364 (r343 == r352)) <|
  k364 false) <|
  fun (x362 : Bool) =>
  Q x362

end Go.Proofs.Ytommbnkecafodaa
