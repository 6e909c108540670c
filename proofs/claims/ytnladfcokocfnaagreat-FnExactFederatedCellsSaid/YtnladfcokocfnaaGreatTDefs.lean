/- What each Go function means: a definition over numbers and lists; Q: what is to hold of its results. -/
import Derived.Test.YtnladfcokocfnaaGreatLib
set_option linter.unusedVariables false
set_option autoImplicit false
namespace Go.Proofs.YtnladfcokocfnaaGreat
open Go Go.RowKit Go.Gv

structure Geo where
  Parents : List Int
instance : Wf Geo := ⟨fun x => Wf.wf x.Parents⟩
instance : Deep Geo := Deep.via (fun x => x.Parents)
theorem Geo_rd {h : PH} {cs : List Value} {x : Geo} (r : Enc.rd h cs x) : ∃ u0, cs = [u0] ∧ RS h u0 x.Parents := by
  obtain ⟨u0, rfl, r0⟩ := r; exact ⟨_, rfl, r0⟩
theorem Geo_rv {h : PH} {v : Value} {x : Geo} (r : RV h v x) : ∃ u0, v = .agg #[u0] ∧ RS h u0 x.Parents := by
  obtain ⟨cs, hr, rfl⟩ := r; obtain ⟨u0, rfl, r0⟩ := Geo_rd hr; exact ⟨_, rfl, r0⟩
theorem Geo_tk {h : PH} {c : List Value} {x : Geo} (b : Deep.own h c x) : ∃ u, c = [u] ∧ OD h u x.Parents := by
  have o := b
  obtain ⟨u, rfl, q⟩ := o
  refine ⟨u, rfl, ?_⟩
  simpa only [emp_un, un_emp] using q
theorem Geo_bw0 {h hi rest : PH} {v : Value} {xs : List Geo} {i : Nat} {c : List Value} {x : Geo} (b : Bw h v xs i hi rest c x) : ∃ u0 hl rs, c = [u0] ∧ BwG h v xs hl rs u0 x.Parents (fun y => xs.set i {x with Parents := y}) := by
  have o := b.own
  obtain ⟨u0, rfl, q0⟩ := o
  exact ⟨_, _, _, rfl, b.fc (Fc.via (fun x : Geo => x.Parents) (Fc.here q0) fun _ => rfl)⟩
structure Variable where
  Name : ByteArray
  Levels : Int
instance : Wf Variable := ⟨fun x => Wf.wf x.Name ∧ Wf.wf x.Levels⟩
instance : Flat Variable where
  n := 2
  agg := true
  rd _ cs x := cs = [.string x.Name, I x.Levels]
  enc x := [.string x.Name, I x.Levels]
  len h := by subst h; rfl
  le _ h := h
  one h c hc := by subst h; simp at hc; rcases hc with rfl | rfl <;> rfl
  sing h := by cases h
  flat := Iff.rfl
theorem Variable_rv {h : PH} {v : Value} {x : Variable} (r : RV h v x) : v = .agg #[.string x.Name, I x.Levels] := by obtain ⟨cs, rfl, rfl⟩ := r; rfl
structure Table where
  Level : Int
  Vars : List Int
  Where : List Int
  Sum : Int
instance : Wf Table := ⟨fun x => Wf.wf x.Level ∧ Wf.wf x.Vars ∧ Wf.wf x.Where ∧ Wf.wf x.Sum⟩
instance : Deep Table := Deep.via (fun x => (x.Level, x.Vars, x.Where, x.Sum))
theorem Table_rd {h : PH} {cs : List Value} {x : Table} (r : Enc.rd h cs x) : ∃ u0 u1, cs = [I x.Level, u0, u1, I x.Sum] ∧ RS h u0 x.Vars ∧ RS h u1 x.Where := by
  obtain ⟨_, _, rfl, rfl, ⟨_, _, rfl, ⟨u0, rfl, r0⟩, ⟨_, _, rfl, ⟨u1, rfl, r1⟩, rfl⟩⟩⟩ := r; exact ⟨_, _, rfl, r0, r1⟩
theorem Table_rv {h : PH} {v : Value} {x : Table} (r : RV h v x) : ∃ u0 u1, v = .agg #[I x.Level, u0, u1, I x.Sum] ∧ RS h u0 x.Vars ∧ RS h u1 x.Where := by
  obtain ⟨cs, hr, rfl⟩ := r; obtain ⟨u0, u1, rfl, r0, r1⟩ := Table_rd hr; exact ⟨_, _, rfl, r0, r1⟩
theorem Table_ft0 {x : Table} {k : Int} : FTurn x {x with Level := k} 0 [I k] := by
  intro _ _ o
  obtain ⟨_, _, _, _, rfl, rfl, d0, p0, n0⟩ := o
  obtain ⟨rfl, rfl⟩ := own_flat p0
  obtain ⟨_, _, _, _, rfl, rfl, d1, p1, n1⟩ := n0
  obtain ⟨u0, rfl, q0⟩ := p1
  obtain ⟨_, _, _, _, rfl, rfl, d2, p2, n2⟩ := n1
  obtain ⟨u1, rfl, q1⟩ := p2
  obtain ⟨rfl, rfl⟩ := own_flat n2
  exact ⟨[I k], [u0, u1, I x.Sum], _, _, rfl, rfl, d0, (flat_own k), ⟨[u0], [u1, I x.Sum], _, _, rfl, rfl, d1, ⟨u0, rfl, q0⟩, ⟨[u1], [I x.Sum], _, _, rfl, rfl, d2, ⟨u1, rfl, q1⟩, (flat_own x.Sum)⟩⟩⟩
theorem Table_bw1 {h hi rest : PH} {v : Value} {xs : List Table} {i : Nat} {c : List Value} {x : Table} (b : Bw h v xs i hi rest c x) : ∃ u0 u1 hl rs, c = [I x.Level, u0, u1, I x.Sum] ∧ BwG h v xs hl rs u0 x.Vars (fun y => xs.set i {x with Vars := y}) := by
  have o := b.own
  obtain ⟨_, _, _, _, rfl, rfl, d0, p0, n0⟩ := o
  obtain ⟨rfl, rfl⟩ := own_flat p0
  obtain ⟨_, _, _, _, rfl, rfl, d1, p1, n1⟩ := n0
  obtain ⟨u0, rfl, q0⟩ := p1
  obtain ⟨_, _, _, _, rfl, rfl, d2, p2, n2⟩ := n1
  obtain ⟨u1, rfl, q1⟩ := p2
  obtain ⟨rfl, rfl⟩ := own_flat n2
  exact ⟨_, _, _, _, rfl, b.fc (Fc.via (fun x : Table => (x.Level, x.Vars, x.Where, x.Sum)) (Fc.right (flat_own x.Level) (Fc.left (Fc.here q0) ⟨[u1], [I x.Sum], _, _, rfl, rfl, d2, ⟨u1, rfl, q1⟩, (flat_own x.Sum)⟩ d1) d0) fun _ => rfl)⟩
theorem Table_bw2 {h hi rest : PH} {v : Value} {xs : List Table} {i : Nat} {c : List Value} {x : Table} (b : Bw h v xs i hi rest c x) : ∃ u0 u1 hl rs, c = [I x.Level, u0, u1, I x.Sum] ∧ BwG h v xs hl rs u1 x.Where (fun y => xs.set i {x with Where := y}) := by
  have o := b.own
  obtain ⟨_, _, _, _, rfl, rfl, d0, p0, n0⟩ := o
  obtain ⟨rfl, rfl⟩ := own_flat p0
  obtain ⟨_, _, _, _, rfl, rfl, d1, p1, n1⟩ := n0
  obtain ⟨u0, rfl, q0⟩ := p1
  obtain ⟨_, _, _, _, rfl, rfl, d2, p2, n2⟩ := n1
  obtain ⟨u1, rfl, q1⟩ := p2
  obtain ⟨rfl, rfl⟩ := own_flat n2
  exact ⟨_, _, _, _, rfl, b.fc (Fc.via (fun x : Table => (x.Level, x.Vars, x.Where, x.Sum)) (Fc.right (flat_own x.Level) (Fc.right ⟨u0, rfl, q0⟩ (Fc.left (Fc.here q1) (flat_own x.Sum) d2) d1) d0) fun _ => rfl)⟩
theorem Table_ft3 {x : Table} {k : Int} : FTurn x {x with Sum := k} 3 [I k] := by
  intro _ _ o
  obtain ⟨_, _, _, _, rfl, rfl, d0, p0, n0⟩ := o
  obtain ⟨rfl, rfl⟩ := own_flat p0
  obtain ⟨_, _, _, _, rfl, rfl, d1, p1, n1⟩ := n0
  obtain ⟨u0, rfl, q0⟩ := p1
  obtain ⟨_, _, _, _, rfl, rfl, d2, p2, n2⟩ := n1
  obtain ⟨u1, rfl, q1⟩ := p2
  obtain ⟨rfl, rfl⟩ := own_flat n2
  exact ⟨[I x.Level], [u0, u1, I k], _, _, rfl, rfl, d0, (flat_own x.Level), ⟨[u0], [u1, I k], _, _, rfl, rfl, d1, ⟨u0, rfl, q0⟩, ⟨[u1], [I k], _, _, rfl, rfl, d2, ⟨u1, rfl, q1⟩, (flat_own k)⟩⟩⟩
structure Record where
  Area : Int
  House : Int
  Values : List Int
instance : Wf Record := ⟨fun x => Wf.wf x.Area ∧ Wf.wf x.House ∧ Wf.wf x.Values⟩
instance : Deep Record := Deep.via (fun x => (x.Area, x.House, x.Values))
theorem Record_rd {h : PH} {cs : List Value} {x : Record} (r : Enc.rd h cs x) : ∃ u0, cs = [I x.Area, I x.House, u0] ∧ RS h u0 x.Values := by
  obtain ⟨_, _, rfl, rfl, ⟨_, _, rfl, rfl, ⟨u0, rfl, r0⟩⟩⟩ := r; exact ⟨_, rfl, r0⟩
theorem Record_rv {h : PH} {v : Value} {x : Record} (r : RV h v x) : ∃ u0, v = .agg #[I x.Area, I x.House, u0] ∧ RS h u0 x.Values := by
  obtain ⟨cs, hr, rfl⟩ := r; obtain ⟨u0, rfl, r0⟩ := Record_rd hr; exact ⟨_, rfl, r0⟩
theorem Record_tk {h : PH} {c : List Value} {x : Record} (b : Deep.own h c x) : ∃ u, c = [I x.Area, I x.House, u] ∧ OD h u x.Values := by
  have o := b
  obtain ⟨_, _, _, _, rfl, rfl, d0, p0, n0⟩ := o
  obtain ⟨rfl, rfl⟩ := own_flat p0
  obtain ⟨_, _, _, _, rfl, rfl, d1, p1, n1⟩ := n0
  obtain ⟨rfl, rfl⟩ := own_flat p1
  obtain ⟨u, rfl, q⟩ := n1
  refine ⟨u, rfl, ?_⟩
  simpa only [emp_un, un_emp] using q
theorem Record_ft0 {x : Record} {k : Int} : FTurn x {x with Area := k} 0 [I k] := by
  intro _ _ o
  obtain ⟨_, _, _, _, rfl, rfl, d0, p0, n0⟩ := o
  obtain ⟨rfl, rfl⟩ := own_flat p0
  obtain ⟨_, _, _, _, rfl, rfl, d1, p1, n1⟩ := n0
  obtain ⟨rfl, rfl⟩ := own_flat p1
  obtain ⟨u0, rfl, q0⟩ := n1
  exact ⟨[I k], [I x.House, u0], _, _, rfl, rfl, d0, (flat_own k), ⟨[I x.House], [u0], _, _, rfl, rfl, d1, (flat_own x.House), ⟨u0, rfl, q0⟩⟩⟩
theorem Record_ft1 {x : Record} {k : Int} : FTurn x {x with House := k} 1 [I k] := by
  intro _ _ o
  obtain ⟨_, _, _, _, rfl, rfl, d0, p0, n0⟩ := o
  obtain ⟨rfl, rfl⟩ := own_flat p0
  obtain ⟨_, _, _, _, rfl, rfl, d1, p1, n1⟩ := n0
  obtain ⟨rfl, rfl⟩ := own_flat p1
  obtain ⟨u0, rfl, q0⟩ := n1
  exact ⟨[I x.Area], [I k, u0], _, _, rfl, rfl, d0, (flat_own x.Area), ⟨[I k], [u0], _, _, rfl, rfl, d1, (flat_own k), ⟨u0, rfl, q0⟩⟩⟩
theorem Record_bw2 {h hi rest : PH} {v : Value} {xs : List Record} {i : Nat} {c : List Value} {x : Record} (b : Bw h v xs i hi rest c x) : ∃ u0 hl rs, c = [I x.Area, I x.House, u0] ∧ BwG h v xs hl rs u0 x.Values (fun y => xs.set i {x with Values := y}) := by
  have o := b.own
  obtain ⟨_, _, _, _, rfl, rfl, d0, p0, n0⟩ := o
  obtain ⟨rfl, rfl⟩ := own_flat p0
  obtain ⟨_, _, _, _, rfl, rfl, d1, p1, n1⟩ := n0
  obtain ⟨rfl, rfl⟩ := own_flat p1
  obtain ⟨u0, rfl, q0⟩ := n1
  exact ⟨_, _, _, rfl, b.fc (Fc.via (fun x : Record => (x.Area, x.House, x.Values)) (Fc.right (flat_own x.Area) (Fc.right (flat_own x.House) (Fc.here q0) d1) d0) fun _ => rfl)⟩

def laws_szIntS (a : List Int) (left : Int) (Q : Int → Prop) : Prop :=
  br (decide ((wr (left - (ln a))) < 0)) (Q ((-1))) <|
  Q (wr (left - (ln a)))

def laws_szGeo (a : Geo) (left : Int) (Q : Int → Prop) : Prop :=
  laws_szIntS a.Parents left fun r3 =>
  br (decide (r3 < 0)) (Q ((-1))) <|
  Q r3

def laws_szVariable (a : Variable) (left : Int) (Q : Int → Prop) : Prop :=
  br (decide ((wr (left - (sln a.Name))) < 0)) (Q ((-1))) <|
  Q (wr (left - (sln a.Name)))

def laws_szVariableS (a : List Variable) (left : Int) (Q : Int → Prop) : Prop :=
  br (decide ((wr (left - (ln a))) < 0)) (Q ((-1))) <|
  Loop2 (fun (left2 : Int) (i : Int) nx =>
  br (decide (i < (ln a))) (idx a i fun x =>
  laws_szVariable x left2 fun r11 =>
  br (decide (r11 < 0)) (Q ((-1))) <|
  nx r11 (wr (i + 1))) <|
  Q left2) (wr (left - (ln a))) 0

def laws_szTable (a : Table) (left : Int) (Q : Int → Prop) : Prop :=
  laws_szIntS a.Vars left fun r9 =>
  br (decide (r9 < 0)) (Q ((-1))) <|
  laws_szIntS a.Where r9 fun r15 =>
  br (decide (r15 < 0)) (Q ((-1))) <|
  Q r15

def laws_szRecord (a : Record) (left : Int) (Q : Int → Prop) : Prop :=
  laws_szIntS a.Values left fun r3 =>
  br (decide (r3 < 0)) (Q ((-1))) <|
  Q r3

def laws_szRecordS (a : List Record) (left : Int) (Q : Int → Prop) : Prop :=
  br (decide ((wr (left - (ln a))) < 0)) (Q ((-1))) <|
  Loop2 (fun (left2 : Int) (i : Int) nx =>
  br (decide (i < (ln a))) (idx a i fun x =>
  laws_szRecord x left2 fun r19 =>
  br (decide (r19 < 0)) (Q ((-1))) <|
  nx r19 (wr (i + 1))) <|
  Q left2) (wr (left - (ln a))) 0

def laws_szRecordSS (a : List (List Record)) (left : Int) (Q : Int → Prop) : Prop :=
  br (decide ((wr (left - (ln a))) < 0)) (Q ((-1))) <|
  Loop2 (fun (left2 : Int) (i : Int) nx =>
  br (decide (i < (ln a))) (idx a i fun x =>
  laws_szRecordS x left2 fun r14 =>
  br (decide (r14 < 0)) (Q ((-1))) <|
  nx r14 (wr (i + 1))) <|
  Q left2) (wr (left - (ln a))) 0

def laws_szIntSS (a : List (List Int)) (left : Int) (Q : Int → Prop) : Prop :=
  br (decide ((wr (left - (ln a))) < 0)) (Q ((-1))) <|
  Loop2 (fun (left2 : Int) (i : Int) nx =>
  br (decide (i < (ln a))) (idx a i fun x =>
  laws_szIntS x left2 fun r14 =>
  br (decide (r14 < 0)) (Q ((-1))) <|
  nx r14 (wr (i + 1))) <|
  Q left2) (wr (left - (ln a))) 0

def laws_toIntS (a : List Int) (Q : (List Int) → Prop) : Prop :=
  (0 : Int) ≤ (ln a) ∧ 8 * (ln a) ≤ 140737488355328 ∧ (
  Loop2 (fun (out : List Int) (i : Int) nx =>
  br (decide (i < (ln a))) (idx a i fun x18 =>
  (0 : Int) ≤ i ∧ Int.toNat i < List.length out ∧ (
  nx (List.set out (Int.toNat i) x18) (wr (i + 1)))) <|
  Q out) (List.replicate (Int.toNat (ln a)) ((0 : Int))) 0)

def laws_toGeo (a : Geo) (Q : Geo → Prop) : Prop :=
  laws_toIntS a.Parents fun r14 =>
  Q ((Geo.mk r14))

def laws_toVariable (a : Variable) (Q : Variable → Prop) : Prop :=
  Q ((Variable.mk a.Name a.Levels))

def laws_toVariableS (a : List Variable) (Q : (List Variable) → Prop) : Prop :=
  (0 : Int) ≤ (ln a) ∧ 24 * (ln a) ≤ 140737488355328 ∧ (
  Loop2 (fun (out : List Variable) (i : Int) nx =>
  br (decide (i < (ln a))) (idx a i fun x18 =>
  laws_toVariable x18 fun r25 =>
  (0 : Int) ≤ i ∧ Int.toNat i < List.length out ∧ (
  nx (List.set out (Int.toNat i) r25) (wr (i + 1)))) <|
  Q out) (List.replicate (Int.toNat (ln a)) ((Variable.mk ((ByteArray.mk #[])) ((0 : Int))))) 0)

def laws_toTable (a : Table) (Q : Table → Prop) : Prop :=
  laws_toIntS a.Vars fun r24 =>
  laws_toIntS a.Where fun r42 =>
  Q ((Table.mk a.Level r24 r42 a.Sum))

def laws_toRecord (a : Record) (Q : Record → Prop) : Prop :=
  laws_toIntS a.Values fun r22 =>
  Q ((Record.mk a.Area a.House r22))

def laws_toRecordS (a : List Record) (Q : (List Record) → Prop) : Prop :=
  (0 : Int) ≤ (ln a) ∧ 40 * (ln a) ≤ 140737488355328 ∧ (
  Loop2 (fun (out : List Record) (i : Int) nx =>
  br (decide (i < (ln a))) (idx a i fun x18 =>
  laws_toRecord x18 fun r33 =>
  (0 : Int) ≤ i ∧ Int.toNat i < List.length out ∧ (
  nx (List.set out (Int.toNat i) (((Record.mk r33.Area r33.House r33.Values) : Record))) (wr (i + 1)))) <|
  Q out) (List.replicate (Int.toNat (ln a)) ((Record.mk ((0 : Int)) ((0 : Int)) (([] : List Int))))) 0)

def laws_toRecordSS (a : List (List Record)) (Q : (List (List Record)) → Prop) : Prop :=
  (0 : Int) ≤ (ln a) ∧ 24 * (ln a) ≤ 140737488355328 ∧ (
  Loop2 (fun (out : List (List Record)) (i : Int) nx =>
  br (decide (i < (ln a))) (idx a i fun x18 =>
  laws_toRecordS x18 fun r28 =>
  (0 : Int) ≤ i ∧ Int.toNat i < List.length out ∧ (
  nx (List.set out (Int.toNat i) r28) (wr (i + 1)))) <|
  Q out) (List.replicate (Int.toNat (ln a)) (([] : List Record))) 0)

def laws_toIntSS (a : List (List Int)) (Q : (List (List Int)) → Prop) : Prop :=
  (0 : Int) ≤ (ln a) ∧ 24 * (ln a) ≤ 140737488355328 ∧ (
  Loop2 (fun (out : List (List Int)) (i : Int) nx =>
  br (decide (i < (ln a))) (idx a i fun x18 =>
  laws_toIntS x18 fun r28 =>
  (0 : Int) ≤ i ∧ Int.toNat i < List.length out ∧ (
  nx (List.set out (Int.toNat i) r28) (wr (i + 1)))) <|
  Q out) (List.replicate (Int.toNat (ln a)) (([] : List Int))) 0)

def spec_l1In (n : Int) (lo : Int) (hi : Int) (Q : Bool → Prop) : Prop :=
  jn (fun (k : Bool → Prop) => br (decide (n ≥ lo)) (k (decide (n ≤ hi))) <|
  k false) <|
  fun (x : Bool) =>
  Q x

def spec_gGood (g : Geo) (Q : Bool → Prop) : Prop :=
  jn (fun (k : Bool → Prop) => spec_l1In (ln g.Parents) 1 30 fun r7 =>
  br (!r7) (k true) <|
  idx g.Parents 0 fun x14 =>
  k (x14 != ((-1)))) <|
  fun (x2 : Bool) =>
  br (x2) (Q false) <|
  Loop1 (fun (x24 : Int) nx =>
  br (decide (x24 < (ln g.Parents))) (idx g.Parents x24 fun x29 =>
  jn (fun (k42 : Bool → Prop) => br (decide (x24 > 0)) (spec_l1In x29 0 (wr (x24 - 1)) fun r45 =>
  k42 (!r45)) <|
  k42 false) <|
  fun (x38 : Bool) =>
  br (x38) (Q false) <|
  nx (wr (x24 + 1))) <|
  Q true) 0

def spec_sName (sx : ByteArray) (Q : Bool → Prop) : Prop :=
  Loop1 (fun (i : Int) nx =>
  br (decide (i < (sln sx))) (jn (fun (k : Bool → Prop) => sidx sx i fun c =>
  br (decide ((c) < 97)) (k true) <|
  sidx sx i fun c3 =>
  k (decide ((c3) > 122))) <|
  fun (x : Bool) =>
  br (x) (Q false) <|
  nx (wr (i + 1))) <|
  spec_l1In (sln sx) 1 8 fun r =>
  Q r) 0

def spec_sFind (sx : List Variable) (name : ByteArray) (Q : Int → Prop) : Prop :=
  Loop1 (fun (x : Int) nx =>
  br (decide (x < (ln sx))) (idx sx x fun x3 =>
  br (streq x3.Name name) (Q x) <|
  nx (wr (x + 1))) <|
  Q ((-1))) 0

def spec_sGood (sx : List Variable) (Q : Bool → Prop) : Prop :=
  spec_l1In (ln sx) 1 6 fun r1 =>
  br (!r1) (Q false) <|
  Loop1 (fun (x3 : Int) nx =>
  br (decide (x3 < (ln sx))) (idx sx x3 fun x10 =>
  jn (fun (k : Bool → Prop) => det1 (spec_sName x10.Name) fun r25 =>
  br (!r25) (k true) <|
  det1 (spec_l1In x10.Levels 2 8) fun r34 =>
  br (!r34) (k true) <|
  (0 : Int) ≤ 0 ∧ 0 ≤ x3 ∧ x3 ≤ ln sx ∧ (
  det1 (spec_sFind (List.take (Int.toNat x3 - Int.toNat 0) (List.drop (Int.toNat 0) sx)) x10.Name) fun r48 =>
  k (decide (r48 ≥ 0)))) <|
  fun (x21 : Bool) =>
  br (x21) (Q false) <|
  nx (wr (x3 + 1))) <|
  Q true) 0

def spec_gDepth (g : Geo) (i : Int) (Q : Int → Prop) : Prop :=
  Loop2 (fun (i2 : Int) (n : Int) nx =>
  idx g.Parents i2 fun x4 =>
  br (decide (x4 ≥ 0)) (idx g.Parents i2 fun x11 =>
  nx x11 (wr (n + 1))) <|
  Q n) i 0

def spec_gLevel (g : Geo) (level : Int) (Q : (List Int) → Prop) : Prop :=
  Loop2 (fun (out : List Int) (x6 : Int) nx =>
  br (decide (x6 < (ln g.Parents))) (jn (fun (k : (List Int) → Prop) => spec_gDepth ((Geo.mk g.Parents)) x6 fun r30 =>
  br (r30 == level) ((ln out + ln ([x6])) * 8 ≤ 140737488355328 ∧ (
  k (out ++ ([x6])))) <|
  k out) <|
  fun (out16 : List Int) =>
  nx out16 (wr (x6 + 1))) <|
  Q out) ([]) 0

def spec_l1Rising (l : List Int) (lo : Int) (hi : Int) (Q : Bool → Prop) : Prop :=
  Loop1 (fun (x : Int) nx =>
  br (decide (x < (ln l))) (idx l x fun x3 =>
  jn (fun (k : Bool → Prop) => spec_l1In x3 lo hi fun r14 =>
  br (!r14) (k true) <|
  br (decide (x > 0)) (idx l (wr (x - 1)) fun x21 =>
  k (decide (x21 ≥ x3))) <|
  k false) <|
  fun (x10 : Bool) =>
  br (x10) (Q false) <|
  nx (wr (x + 1))) <|
  Q true) 0

def spec_uWhere (sx : List Variable) (wherex : List Int) (Q : Bool → Prop) : Prop :=
  br ((ln wherex) != (ln sx)) (Q false) <|
  Loop1 (fun (x : Int) nx =>
  br (decide (x < (ln sx))) (idx sx x fun x11 =>
  idx wherex x fun x22 =>
  (0 : Int) ≤ (IntKind.u64.wrap (x11.Levels)) ∧ (
  det1 (spec_l1In x22 0 (wr ((shl .i64 1 (IntKind.u64.wrap (x11.Levels))) - 1))) fun r32 =>
  br (!r32) (Q false) <|
  nx (wr (x + 1)))) <|
  Q true) 0

def spec_sPart (sx : List Variable) (vars : List Int) (Q : (List Variable) → Prop) : Prop :=
  Loop2 (fun (out : List Variable) (x : Int) nx =>
  br (decide (x < (ln vars))) (idx vars x fun x16 =>
  idx sx x16 fun x23 =>
  (ln out + ln ([x23])) * 24 ≤ 140737488355328 ∧ (
  nx (out ++ ([x23])) (wr (x + 1)))) <|
  Q out) ([]) 0

def spec_sCount (sx : List Variable) (Q : Int → Prop) : Prop :=
  Loop2 (fun (n : Int) (x : Int) nx =>
  br (decide (x < (ln sx))) (idx sx x fun x3 =>
  nx (wr (n * x3.Levels)) (wr (x + 1))) <|
  Q n) 1 0

def spec_uCount (g : Geo) (sx : List Variable) (t : Table) (Q : Int → Prop) : Prop :=
  spec_gLevel ((Geo.mk g.Parents)) t.Level fun r31 =>
  spec_sPart sx t.Vars fun r46 =>
  det1 (spec_sCount r46) fun r59 =>
  Q (wr ((ln r31) * r59))

def spec_uGood (g : Geo) (sx : List Variable) (t : Table) (Q : Bool → Prop) : Prop :=
  jn (fun (k : Bool → Prop) => spec_gGood ((Geo.mk g.Parents)) fun r35 =>
  br (!r35) (k true) <|
  spec_sGood sx fun r47 =>
  br (!r47) (k true) <|
  spec_gLevel ((Geo.mk g.Parents)) t.Level fun r65 =>
  br ((ln r65) == 0) (k true) <|
  spec_l1Rising t.Vars 0 (wr ((ln sx) - 1)) fun r86 =>
  br (!r86) (k true) <|
  spec_uWhere sx t.Where fun r103 =>
  br (!r103) (k true) <|
  spec_l1In t.Sum ((-1)) (wr ((ln sx) - 1)) fun r122 =>
  k (!r122)) <|
  fun (x25 : Bool) =>
  br (x25) (Q false) <|
  spec_uCount ((Geo.mk g.Parents)) sx ((Table.mk t.Level t.Vars t.Where t.Sum)) fun r137 =>
  Q (decide (r137 ≤ 600))

def spec_sFits (sx : List Variable) (values : List Int) (Q : Bool → Prop) : Prop :=
  br ((ln values) != (ln sx)) (Q false) <|
  Loop1 (fun (x : Int) nx =>
  br (decide (x < (ln sx))) (idx sx x fun x11 =>
  idx values x fun x22 =>
  det1 (spec_l1In x22 0 (wr (x11.Levels - 1))) fun r32 =>
  br (!r32) (Q false) <|
  nx (wr (x + 1))) <|
  Q true) 0

def spec_rGood (sx : List Variable) (r1 : Record) (Q : Bool → Prop) : Prop :=
  jn (fun (k : Bool → Prop) => spec_l1In r1.Area 0 29 fun r12 =>
  br (r12) (spec_l1In r1.House 0 999 fun r16 =>
  br (r16) (spec_sFits sx r1.Values fun r21 =>
  k r21) <|
  k false) <|
  k false) <|
  fun (x9 : Bool) =>
  Q x9

def spec_dGood (sx : List Variable) (l : List Record) (Q : Bool → Prop) : Prop :=
  Loop1 (fun (x : Int) nx =>
  br (decide (x < (ln l))) (idx l x fun x10 =>
  spec_rGood sx ((Record.mk x10.Area x10.House x10.Values)) fun r29 =>
  br (!r29) (Q false) <|
  nx (wr (x + 1))) <|
  Q (decide ((ln l) ≤ 40))) 0

def spec_dInput (sx : List Variable) (l : List Record) (Q : Bool → Prop) : Prop :=
  jn (fun (k : Bool → Prop) => spec_sGood sx fun r8 =>
  br (r8) (spec_dGood sx l fun r11 =>
  k r11) <|
  k false) <|
  fun (x : Bool) =>
  Q x

def spec_gChildren (g : Geo) (i : Int) (Q : (List Int) → Prop) : Prop :=
  Loop2 (fun (out : List Int) (x6 : Int) nx =>
  br (decide (x6 < (ln g.Parents))) (jn (fun (k : (List Int) → Prop) => idx g.Parents x6 fun x26 =>
  br (x26 == i) ((ln out + ln ([x6])) * 8 ≤ 140737488355328 ∧ (
  k (out ++ ([x6])))) <|
  k out) <|
  fun (out14 : List Int) =>
  nx out14 (wr (x6 + 1))) <|
  Q out) ([]) 0

def spec_gLeaves (g : Geo) (Q : (List Int) → Prop) : Prop :=
  Loop2 (fun (out : List Int) (x6 : Int) nx =>
  br (decide (x6 < (ln g.Parents))) (jn (fun (k : (List Int) → Prop) => spec_gChildren ((Geo.mk g.Parents)) x6 fun r30 =>
  br ((ln r30) == 0) ((ln out + ln ([x6])) * 8 ≤ 140737488355328 ∧ (
  k (out ++ ([x6])))) <|
  k out) <|
  fun (out16 : List Int) =>
  nx out16 (wr (x6 + 1))) <|
  Q out) ([]) 0

def spec_l1Has (l : List Int) (n : Int) (Q : Bool → Prop) : Prop :=
  Loop1 (fun (x : Int) nx =>
  br (decide (x < (ln l))) (idx l x fun x1 =>
  br (x1 == n) (Q true) <|
  nx (wr (x + 1))) <|
  Q false) 0

def spec_uSurvey (g : Geo) (sx : List Variable) (l : List Record) (Q : Bool → Prop) : Prop :=
  jn (fun (k : Bool → Prop) => spec_gGood ((Geo.mk g.Parents)) fun r20 =>
  br (!r20) (k true) <|
  spec_dInput sx l fun r28 =>
  k (!r28)) <|
  fun (x14 : Bool) =>
  br (x14) (Q false) <|
  spec_gLeaves ((Geo.mk g.Parents)) fun r41 =>
  Loop1 (fun (x50 : Int) nx =>
  br (decide (x50 < (ln l))) (idx l x50 fun x58 =>
  spec_l1Has r41 x58.Area fun r79 =>
  br (!r79) (Q false) <|
  nx (wr (x50 + 1))) <|
  Q true) 0

def spec_zeSites (g : Geo) (sx : List Variable) (t : Table) (sites : List (List Record)) (Q : Bool → Prop) : Prop :=
  jn (fun (k : Bool → Prop) => spec_uGood ((Geo.mk g.Parents)) sx ((Table.mk t.Level t.Vars t.Where t.Sum)) fun r39 =>
  br (!r39) (k true) <|
  spec_l1In (ln sites) 2 8 fun r52 =>
  k (!r52)) <|
  fun (x31 : Bool) =>
  br (x31) (Q false) <|
  Loop1 (fun (x63 : Int) nx =>
  br (decide (x63 < (ln sites))) (idx sites x63 fun x71 =>
  spec_uSurvey ((Geo.mk g.Parents)) sx x71 fun r80 =>
  br (!r80) (Q false) <|
  nx (wr (x63 + 1))) <|
  Q true) 0

def spec_gUp (g : Geo) (i : Int) (level : Int) (Q : Int → Prop) : Prop :=
  spec_gDepth ((Geo.mk g.Parents)) i fun r2 =>
  br (decide (level < 0)) (Q ((-1))) <|
  Loop2 (fun (i7 : Int) (d : Int) nx =>
  br (decide (d > level)) (idx g.Parents i7 fun x11 =>
  nx x11 (wr (d - 1))) <|
  br (decide (d < level)) (Q ((-1))) <|
  Q i7) i r2

def spec_uMeets (t : Table) (values : List Int) (Q : Bool → Prop) : Prop :=
  Loop1 (fun (x14 : Int) nx =>
  br (decide (x14 < (ln t.Where))) (idx t.Where x14 fun x16 =>
  jn (fun (k : Bool → Prop) => br (x16 != 0) (idx values x14 fun x26 =>
  (0 : Int) ≤ (IntKind.u64.wrap (x26)) ∧ (
  k ((bits .and .i64 (shr .i64 x16 (IntKind.u64.wrap (x26))) 1) == 0))) <|
  k false) <|
  fun (x23 : Bool) =>
  br (x23) (Q false) <|
  nx (wr (x14 + 1))) <|
  Q true) 0

def spec_l1Find (l : List Int) (n : Int) (Q : Int → Prop) : Prop :=
  Loop1 (fun (x : Int) nx =>
  br (decide (x < (ln l))) (idx l x fun x1 =>
  br (x1 == n) (Q x) <|
  nx (wr (x + 1))) <|
  Q ((-1))) 0

def spec_sPick (values : List Int) (vars : List Int) (Q : (List Int) → Prop) : Prop :=
  Loop2 (fun (out : List Int) (x : Int) nx =>
  br (decide (x < (ln vars))) (idx vars x fun x16 =>
  idx values x16 fun x23 =>
  (ln out + ln ([x23])) * 8 ≤ 140737488355328 ∧ (
  nx (out ++ ([x23])) (wr (x + 1)))) <|
  Q out) ([]) 0

def spec_sIndex (sx : List Variable) (values : List Int) (Q : Int → Prop) : Prop :=
  Loop2 (fun (n : Int) (x : Int) nx =>
  br (decide (x < (ln sx))) (idx sx x fun x10 =>
  idx values x fun x21 =>
  nx (wr ((wr (n * x10.Levels)) + x21)) (wr (x + 1))) <|
  Q n) 0 0

def spec_uCell (g : Geo) (sx : List Variable) (t : Table) (r19 : Record) (Q : Int → Int → Prop) : Prop :=
  spec_gUp ((Geo.mk g.Parents)) r19.Area t.Level fun r39 =>
  jn (fun (k : Bool → Prop) => br (decide (r39 < 0)) (k true) <|
  spec_uMeets ((Table.mk t.Level t.Vars t.Where t.Sum)) r19.Values fun r67 =>
  k (!r67)) <|
  fun (x44 : Bool) =>
  br (x44) (Q ((-1)) 0) <|
  spec_sPart sx t.Vars fun r86 =>
  spec_gLevel ((Geo.mk g.Parents)) t.Level fun r103 =>
  det1 (spec_l1Find r103 r39) fun r118 =>
  det1 (spec_sCount r86) fun r119 =>
  spec_sPick r19.Values t.Vars fun r125 =>
  det1 (spec_sIndex r86 r125) fun r138 =>
  br (decide (t.Sum < 0)) (Q (wr ((wr (r118 * r119)) + r138)) 1) <|
  idx r19.Values t.Sum fun x150 =>
  Q (wr ((wr (r118 * r119)) + r138)) x150

def spec_uTable (g : Geo) (sx : List Variable) (t : Table) (l : List Record) (Q : (List Int) → Prop) : Prop :=
  spec_uCount ((Geo.mk g.Parents)) sx ((Table.mk t.Level t.Vars t.Where t.Sum)) fun r32 =>
  (0 : Int) ≤ r32 ∧ 8 * r32 ≤ 140737488355328 ∧ (
  Loop2 (fun (out : List Int) (x52 : Int) nx =>
  br (decide (x52 < (ln l))) (jn (fun (k : (List Int) → Prop) => idx l x52 fun x110 =>
  spec_uCell ((Geo.mk g.Parents)) sx ((Table.mk t.Level t.Vars t.Where t.Sum)) ((Record.mk x110.Area x110.House x110.Values)) fun r134 r135 =>
  br (decide (r134 ≥ 0)) (idx out r134 fun x144 =>
  (0 : Int) ≤ r134 ∧ Int.toNat r134 < List.length out ∧ (
  k (List.set out (Int.toNat r134) (wr (x144 + r135))))) <|
  k out) <|
  fun (out88 : List Int) =>
  nx out88 (wr (x52 + 1))) <|
  Q out) (List.replicate (Int.toNat r32) ((0 : Int))) 0)

def spec_SiteCells (g : Geo) (sx : List Variable) (t : Table) (sites : List (List Record)) (Q : (List (List Int)) → Bool → Prop) : Prop :=
  spec_zeSites ((Geo.mk g.Parents)) sx ((Table.mk t.Level t.Vars t.Where t.Sum)) sites fun r32 =>
  br (!r32) (Q ([]) false) <|
  Loop2 (fun (out : List (List Int)) (x46 : Int) nx =>
  br (decide (x46 < (ln sites))) (idx sites x46 fun x74 =>
  spec_uTable ((Geo.mk g.Parents)) sx ((Table.mk t.Level t.Vars t.Where t.Sum)) x74 fun r84 =>
  (ln out + ln ([r84])) * 24 ≤ 140737488355328 ∧ (
  nx (out ++ ([r84])) (wr (x46 + 1)))) <|
  Q out true) ([]) 0

def spec_l1All (l : List Int) (lo : Int) (hi : Int) (Q : Bool → Prop) : Prop :=
  Loop1 (fun (x : Int) nx =>
  br (decide (x < (ln l))) (idx l x fun x3 =>
  spec_l1In x3 lo hi fun r10 =>
  br (!r10) (Q false) <|
  nx (wr (x + 1))) <|
  Q true) 0

def spec_hDigest (l : List Int) (Q : Bool → Prop) : Prop :=
  spec_l1All l 0 4611686016279904236 fun r1 =>
  Q r1

def spec_zeSeeds (seeds : List (List Int)) (Q : Bool → Prop) : Prop :=
  spec_l1In (ln seeds) 2 8 fun r1 =>
  br (!r1) (Q false) <|
  Loop1 (fun (x3 : Int) nx =>
  br (decide (x3 < (ln seeds))) (idx seeds x3 fun x10 =>
  jn (fun (k : Bool → Prop) => br ((ln x10) != (ln seeds)) (k true) <|
  spec_hDigest x10 fun r24 =>
  k (!r24)) <|
  fun (x19 : Bool) =>
  br (x19) (Q false) <|
  Loop1 (fun (k30 : Int) nx37 =>
  br (decide (k30 < x3)) (idx x10 k30 fun x39 =>
  idx seeds k30 fun x48 =>
  idx x48 x3 fun x60 =>
  br (x39 != x60) (Q false) <|
  nx37 (wr (k30 + 1))) <|
  nx (wr (x3 + 1))) 0) <|
  Q true) 0

def spec_zeModulus (m : Int) (Q : Bool → Prop) : Prop :=
  spec_l1In m 2 1000000007 fun r =>
  Q r

def spec_zeRound (round : Int) (n : Int) (m : Int) (Q : Bool → Prop) : Prop :=
  jn (fun (k : Bool → Prop) => spec_l1In round 0 1000000 fun r =>
  br (r) (spec_l1In n 0 600 fun r4 =>
  br (r4) (spec_zeModulus m fun r8 =>
  k r8) <|
  k false) <|
  k false) <|
  fun (x : Bool) =>
  Q x

def spec_zeValues (m : Int) (l : List Int) (Q : Bool → Prop) : Prop :=
  jn (fun (k : Bool → Prop) => br (decide ((ln l) ≤ 600)) (spec_l1All l 0 (wr (m - 1)) fun r2 =>
  k r2) <|
  k false) <|
  fun (x : Bool) =>
  Q x

def spec_hMod (x : Int) (m : Int) (Q : Int → Prop) : Prop :=
  m ≠ 0 ∧ (
  m ≠ 0 ∧ (
  Q (Int.tmod (wr ((Int.tmod x m) + m)) m)))

def spec_hInts (l : List Int) (Q : Int → Prop) : Prop :=
  Loop3 (fun (a1 : Int) (b : Int) (i : Int) nx =>
  br (decide (i < (wr ((ln l) + 4)))) (jn (fun (k : Int → Prop) => br (decide (i < (ln l))) (idx l i fun x6 =>
  k x6) <|
  k 0) <|
  fun (x : Int) =>
  spec_hMod x 2147483647 fun r12 =>
  spec_hMod x 2147483629 fun r15 =>
  nx (Int.tmod (wr ((wr ((wr (48271 * a1)) + r12)) + 1)) 2147483647) (Int.tmod (wr ((wr ((wr (69621 * b)) + r15)) + (Int.tmod (wr ((wr ((wr (48271 * a1)) + r12)) + 1)) 2147483647))) 2147483629) (wr (i + 1))) <|
  Q (wr ((wr (a1 * 2 ^ 31)) + b))) (ln l) 1 0

def spec_zeMask (seed : Int) (i : Int) (k : Int) (round : Int) (n : Int) (m : Int) (Q : (List Int) → Prop) : Prop :=
  Loop2 (fun (out : List Int) (j : Int) nx =>
  br (decide (j < n)) (spec_hInts ([5, seed, i, k, round, j]) fun r =>
  m ≠ 0 ∧ (
  (ln out + ln ([Int.tmod r m])) * 8 ≤ 140737488355328 ∧ (
  nx (out ++ ([Int.tmod r m])) (wr (j + 1))))) <|
  Q out) ([]) 0

def spec_zeAdd (a : List Int) (b : List Int) (sign : Int) (m : Int) (Q : (List Int) → Prop) : Prop :=
  (0 : Int) ≤ (ln a) ∧ 8 * (ln a) ≤ 140737488355328 ∧ (
  Loop2 (fun (out : List Int) (x18 : Int) nx =>
  br (decide (x18 < (ln a))) (idx a x18 fun x31 =>
  idx b x18 fun x41 =>
  det1 (spec_hMod (wr (x31 + (wr (sign * x41)))) m) fun r53 =>
  (0 : Int) ≤ x18 ∧ Int.toNat x18 < List.length out ∧ (
  nx (List.set out (Int.toNat x18) r53) (wr (x18 + 1)))) <|
  Q out) (List.replicate (Int.toNat (ln a)) ((0 : Int))) 0)

def spec_zeMaskOf (seeds : List (List Int)) (i : Int) (round : Int) (n : Int) (m : Int) (Q : (List Int) → Prop) : Prop :=
  (0 : Int) ≤ n ∧ 8 * n ≤ 140737488355328 ∧ (
  Loop2 (fun (out : List Int) (x11 : Int) nx =>
  br (decide (x11 < (ln seeds))) (jn (fun (k : (List Int) → Prop) => br (decide (x11 > i)) (idx seeds i fun x34 =>
  idx x34 x11 fun x44 =>
  spec_zeMask x44 i x11 round n m fun r53 =>
  spec_zeAdd out r53 1 m fun r63 =>
  k r63) <|
  br (decide (x11 < i)) (idx seeds i fun x80 =>
  idx x80 x11 fun x92 =>
  spec_zeMask x92 x11 i round n m fun r101 =>
  spec_zeAdd out r101 ((-1)) m fun r111 =>
  k r111) <|
  k out) <|
  fun (out21 : List Int) =>
  nx out21 (wr (x11 + 1))) <|
  Q out) (List.replicate (Int.toNat n) ((0 : Int))) 0)

def spec_zeShare (seeds : List (List Int)) (i : Int) (round : Int) (m : Int) (values : List Int) (Q : (List Int) → Prop) : Prop :=
  spec_zeMaskOf seeds i round (ln values) m fun r7 =>
  spec_zeAdd values r7 1 m fun r13 =>
  Q r13

def spec_zeSum (m : Int) (shares : List (List Int)) (Q : (List Int) → Prop) : Prop :=
  idx shares 0 fun x =>
  (0 : Int) ≤ (ln x) ∧ 8 * (ln x) ≤ 140737488355328 ∧ (
  Loop2 (fun (out : List Int) (x20 : Int) nx =>
  br (decide (x20 < (ln shares))) (idx shares x20 fun x31 =>
  spec_zeAdd out x31 1 m fun r43 =>
  nx r43 (wr (x20 + 1))) <|
  Q out) (List.replicate (Int.toNat (ln x)) ((0 : Int))) 0)

def spec_FederatedCells (g : Geo) (sx : List Variable) (t : Table) (sites : List (List Record)) (seeds : List (List Int)) (round : Int) (m : Int) (Q : (List Int) → Bool → Prop) : Prop :=
  spec_SiteCells ((Geo.mk g.Parents)) sx ((Table.mk t.Level t.Vars t.Where t.Sum)) sites fun r38 r39 =>
  jn (fun (k : Bool → Prop) => br (!r39) (k true) <|
  spec_zeSeeds seeds fun r61 =>
  br (!r61) (k true) <|
  br ((ln seeds) != (ln sites)) (k true) <|
  spec_zeRound round 0 m fun r76 =>
  k (!r76)) <|
  fun (x53 : Bool) =>
  br (x53) (Q ([]) false) <|
  Loop2 (fun (shares : List (List Int)) (x90 : Int) nx =>
  br (decide (x90 < (ln r38))) (idx r38 x90 fun x100 =>
  spec_zeValues m x100 fun r110 =>
  br (!r110) (Q ([]) false) <|
  spec_zeShare seeds x90 round m x100 fun r115 =>
  (ln shares + ln ([r115])) * 24 ≤ 140737488355328 ∧ (
  nx (shares ++ ([r115])) (wr (x90 + 1)))) <|
  spec_zeSum m shares fun r161 =>
  Q r161 true) ([]) 0

def impl_IsGeo (g : Geo) (Q : Bool → Prop) : Prop :=
  jn (fun (k : Bool → Prop) => br (decide ((ln g.Parents) < 1)) (k true) <|
  br (decide ((ln g.Parents) > 30)) (k true) <|
  idx g.Parents 0 fun x5 =>
  k (x5 != ((-1)))) <|
  fun (x2 : Bool) =>
  br (x2) (Q false) <|
  Loop1 (fun (i : Int) nx =>
  br (decide (i < (ln g.Parents))) (jn (fun (k18 : Bool → Prop) => idx g.Parents i fun x20 =>
  br (decide (x20 < 0)) (k18 true) <|
  idx g.Parents i fun x31 =>
  k18 (decide (x31 ≥ i))) <|
  fun (x16 : Bool) =>
  br (x16) (Q false) <|
  nx (wr (i + 1))) <|
  Q true) 1

def impl_isWord (sx : ByteArray) (Q : Bool → Prop) : Prop :=
  jn (fun (k : Bool → Prop) => br (decide ((sln sx) < 1)) (k true) <|
  k (decide ((sln sx) > 8))) <|
  fun (x : Bool) =>
  br (x) (Q false) <|
  Loop1 (fun (x2 : Int) nx =>
  br (decide (x2 < (sln sx))) (jn (fun (k7 : Bool → Prop) => sidx sx x2 fun c =>
  br (decide ((c) < 97)) (k7 true) <|
  sidx sx x2 fun c10 =>
  k7 (decide ((c10) > 122))) <|
  fun (x5 : Bool) =>
  br (x5) (Q false) <|
  nx (wr (x2 + 1))) <|
  Q true) 0

def impl_IsSchema (sx : List Variable) (Q : Bool → Prop) : Prop :=
  jn (fun (k : Bool → Prop) => br (decide ((ln sx) < 1)) (k true) <|
  k (decide ((ln sx) > 6))) <|
  fun (x : Bool) =>
  br (x) (Q false) <|
  Loop1 (fun (x2 : Int) nx =>
  br (decide (x2 < (ln sx))) (idx sx x2 fun x7 =>
  jn (fun (k23 : Bool → Prop) => impl_isWord x7.Name fun r25 =>
  br (!r25) (k23 true) <|
  br (decide (x7.Levels < 2)) (k23 true) <|
  k23 (decide (x7.Levels > 8))) <|
  fun (x18 : Bool) =>
  br (x18) (Q false) <|
  (0 : Int) ≤ 0 ∧ 0 ≤ x2 ∧ x2 ≤ ln sx ∧ (
  Loop1 (fun (x46 : Int) nx54 =>
  br (decide (x46 < (ln (List.take (Int.toNat x2 - Int.toNat 0) (List.drop (Int.toNat 0) sx))))) (idx (List.take (Int.toNat x2 - Int.toNat 0) (List.drop (Int.toNat 0) sx)) x46 fun x56 =>
  br (streq x56.Name x7.Name) (Q false) <|
  nx54 (wr (x46 + 1))) <|
  nx (wr (x2 + 1))) 0)) <|
  Q true) 0

def impl_areVars (sx : List Variable) (vars : List Int) (Q : Bool → Prop) : Prop :=
  Loop2 (fun (last : Int) (x : Int) nx =>
  br (decide (x < (ln vars))) (idx vars x fun x7 =>
  jn (fun (k : Bool → Prop) => br (decide (x7 ≤ last)) (k true) <|
  k (decide (x7 ≥ (ln sx)))) <|
  fun (x13 : Bool) =>
  br (x13) (Q false) <|
  nx x7 (wr (x + 1))) <|
  Q true) ((-1)) 0

def impl_fullSet (vx : Variable) (Q : Int → Prop) : Prop :=
  (0 : Int) ≤ vx.Levels ∧ (
  Q (wr ((shl .i64 1 vx.Levels) - 1)))

def impl_isWhere (sx : List Variable) (wherex : List Int) (Q : Bool → Prop) : Prop :=
  br ((ln wherex) != (ln sx)) (Q false) <|
  Loop1 (fun (x : Int) nx =>
  br (decide (x < (ln wherex))) (idx wherex x fun x11 =>
  jn (fun (k : Bool → Prop) => br (decide (x11 < 0)) (k true) <|
  idx sx x fun x23 =>
  impl_fullSet x23 fun r32 =>
  k (decide (x11 > r32))) <|
  fun (x17 : Bool) =>
  br (x17) (Q false) <|
  nx (wr (x + 1))) <|
  Q true) 0

def impl_depthOf (g : Geo) (i : Int) (Q : Int → Prop) : Prop :=
  Loop2 (fun (i2 : Int) (d : Int) nx =>
  br (decide (i2 > 0)) (idx g.Parents i2 fun x4 =>
  nx x4 (wr (d + 1))) <|
  Q d) i 0

def impl_areasAt (g : Geo) (level : Int) (Q : (List Int) → Prop) : Prop :=
  Loop2 (fun (list : List Int) (x6 : Int) nx =>
  br (decide (x6 < (ln g.Parents))) (jn (fun (k : (List Int) → Prop) => impl_depthOf ((Geo.mk g.Parents)) x6 fun r30 =>
  br (r30 == level) ((ln list + ln ([x6])) * 8 ≤ 140737488355328 ∧ (
  k (list ++ ([x6])))) <|
  k list) <|
  fun (list16 : List Int) =>
  nx list16 (wr (x6 + 1))) <|
  Q list) ([]) 0

def impl_crossed (sx : List Variable) (t : Table) (Q : (List Variable) → Prop) : Prop :=
  (0 : Int) ≤ (ln t.Vars) ∧ 24 * (ln t.Vars) ≤ 140737488355328 ∧ (
  Loop2 (fun (out : List Variable) (x28 : Int) nx =>
  br (decide (x28 < (ln t.Vars))) (idx t.Vars x28 fun x41 =>
  idx sx x41 fun x48 =>
  (0 : Int) ≤ x28 ∧ Int.toNat x28 < List.length out ∧ (
  nx (List.set out (Int.toNat x28) x48) (wr (x28 + 1)))) <|
  Q out) (List.replicate (Int.toNat (ln t.Vars)) ((Variable.mk ((ByteArray.mk #[])) ((0 : Int))))) 0)

def impl_combinations (sx : List Variable) (Q : Int → Prop) : Prop :=
  Loop2 (fun (n : Int) (x : Int) nx =>
  br (decide (x < (ln sx))) (idx sx x fun x3 =>
  nx (wr (n * x3.Levels)) (wr (x + 1))) <|
  Q n) 1 0

def impl_cellCount (g : Geo) (sx : List Variable) (t : Table) (Q : Int → Prop) : Prop :=
  impl_areasAt ((Geo.mk g.Parents)) t.Level fun r31 =>
  impl_crossed sx ((Table.mk t.Level t.Vars t.Where t.Sum)) fun r46 =>
  det1 (impl_combinations r46) fun r60 =>
  Q (wr ((ln r31) * r60))

def impl_isTable (g : Geo) (sx : List Variable) (t : Table) (Q : Bool → Prop) : Prop :=
  jn (fun (k : Bool → Prop) => impl_areVars sx t.Vars fun r34 =>
  br (!r34) (k true) <|
  impl_isWhere sx t.Where fun r49 =>
  br (!r49) (k true) <|
  br (decide (t.Sum < ((-1)))) (k true) <|
  k (decide (t.Sum ≥ (ln sx)))) <|
  fun (x25 : Bool) =>
  br (x25) (Q false) <|
  impl_cellCount ((Geo.mk g.Parents)) sx ((Table.mk t.Level t.Vars t.Where t.Sum)) fun r87 =>
  jn (fun (k92 : Bool → Prop) => br (decide (r87 > 0)) (k92 (decide (r87 ≤ 600))) <|
  k92 false) <|
  fun (x90 : Bool) =>
  Q x90

def impl_areTabled (g : Geo) (sx : List Variable) (t : Table) (Q : Bool → Prop) : Prop :=
  jn (fun (k : Bool → Prop) => impl_IsGeo ((Geo.mk g.Parents)) fun r29 =>
  br (r29) (impl_IsSchema sx fun r33 =>
  br (r33) (impl_isTable ((Geo.mk g.Parents)) sx ((Table.mk t.Level t.Vars t.Where t.Sum)) fun r42 =>
  k r42) <|
  k false) <|
  k false) <|
  fun (x25 : Bool) =>
  Q x25

def impl_areValues (sx : List Variable) (values : List Int) (Q : Bool → Prop) : Prop :=
  br ((ln values) != (ln sx)) (Q false) <|
  Loop1 (fun (x : Int) nx =>
  br (decide (x < (ln values))) (idx values x fun x8 =>
  jn (fun (k : Bool → Prop) => br (decide (x8 < 0)) (k true) <|
  idx sx x fun x17 =>
  k (decide (x8 ≥ x17.Levels))) <|
  fun (x14 : Bool) =>
  br (x14) (Q false) <|
  nx (wr (x + 1))) <|
  Q true) 0

def impl_isRecord (sx : List Variable) (r1 : Record) (Q : Bool → Prop) : Prop :=
  jn (fun (k : Bool → Prop) => br (decide (r1.Area ≥ 0)) (br (decide (r1.Area ≤ 29)) (br (decide (r1.House ≥ 0)) (br (decide (r1.House ≤ 999)) (impl_areValues sx r1.Values fun r15 =>
  k r15) <|
  k false) <|
  k false) <|
  k false) <|
  k false) <|
  fun (x9 : Bool) =>
  Q x9

def impl_isData (sx : List Variable) (l : List Record) (Q : Bool → Prop) : Prop :=
  br (decide ((ln l) > 40)) (Q false) <|
  Loop1 (fun (x : Int) nx =>
  br (decide (x < (ln l))) (idx l x fun x11 =>
  impl_isRecord sx ((Record.mk x11.Area x11.House x11.Values)) fun r30 =>
  br (!r30) (Q false) <|
  nx (wr (x + 1))) <|
  Q true) 0

def impl_isArea (g : Geo) (i : Int) (Q : Bool → Prop) : Prop :=
  jn (fun (k : Bool → Prop) => br (decide (i ≥ 0)) (k (decide (i < (ln g.Parents)))) <|
  k false) <|
  fun (x2 : Bool) =>
  Q x2

def slices_Index_int_int (sx : List Int) (vx1 : Int) (Q : Int → Prop) : Prop :=
  Loop1 (fun (x : Int) nx =>
  br (decide (x < (ln sx))) (idx sx x fun x2 =>
  br (vx1 == x2) (Q x) <|
  nx (wr (x + 1))) <|
  Q ((-1))) 0

def slices_Contains_int_int (sx : List Int) (vx1 : Int) (Q : Bool → Prop) : Prop :=
  slices_Index_int_int sx vx1 fun r2 =>
  Q (decide (r2 ≥ 0))

def impl_isLeaf (g : Geo) (i : Int) (Q : Bool → Prop) : Prop :=
  slices_Contains_int_int g.Parents i fun r2 =>
  Q (!r2)

def impl_isSurvey (g : Geo) (sx : List Variable) (l : List Record) (Q : Bool → Prop) : Prop :=
  impl_isData sx l fun r14 =>
  br (!r14) (Q false) <|
  Loop1 (fun (x20 : Int) nx =>
  br (decide (x20 < (ln l))) (idx l x20 fun x32 =>
  jn (fun (k : Bool → Prop) => impl_isArea ((Geo.mk g.Parents)) x32.Area fun r60 =>
  br (!r60) (k true) <|
  impl_isLeaf ((Geo.mk g.Parents)) x32.Area fun r72 =>
  k (!r72)) <|
  fun (x53 : Bool) =>
  br (x53) (Q false) <|
  nx (wr (x20 + 1))) <|
  Q true) 0

def impl_ancestorAt (g : Geo) (i : Int) (level : Int) (Q : Int → Prop) : Prop :=
  impl_depthOf ((Geo.mk g.Parents)) i fun r2 =>
  jn (fun (k : Bool → Prop) => br (decide (level < 0)) (k true) <|
  k (decide (r2 < level))) <|
  fun (x6 : Bool) =>
  br (x6) (Q ((-1))) <|
  Loop2 (fun (i10 : Int) (d : Int) nx =>
  br (decide (d > level)) (idx g.Parents i10 fun x14 =>
  nx x14 (wr (d - 1))) <|
  Q i10) i r2

def impl_meetsWhere (t : Table) (r7 : Record) (Q : Bool → Prop) : Prop :=
  Loop1 (fun (x21 : Int) nx =>
  br (decide (x21 < (ln t.Where))) (idx t.Where x21 fun x23 =>
  jn (fun (k : Bool → Prop) => br (x23 != 0) (idx r7.Values x21 fun x33 =>
  (0 : Int) ≤ x33 ∧ (
  k ((bits .and .i64 (shr .i64 x23 x33) 1) == 0))) <|
  k false) <|
  fun (x30 : Bool) =>
  br (x30) (Q false) <|
  nx (wr (x21 + 1))) <|
  Q true) 0

def cmp_isNaN_int (x : Int) (Q : Bool → Prop) : Prop :=
  Q (x != x)

def cmp_Less_int (x : Int) (y : Int) (Q : Bool → Prop) : Prop :=
  jn (fun (k : Bool → Prop) => cmp_isNaN_int x fun r =>
  br (r) (cmp_isNaN_int y fun r5 =>
  br (!r5) (k true) <|
  k (decide (x < y))) <|
  k (decide (x < y))) <|
  fun (x1 : Bool) =>
  Q x1

def slices_isNaN_int (x : Int) (Q : Bool → Prop) : Prop :=
  Q (x != x)

def slices_BinarySearch_int_int (x : List Int) (target : Int) (Q : Int → Bool → Prop) : Prop :=
  Loop2 (fun (i : Int) (j : Int) nx =>
  br (decide (i < j)) (idx x (wr (Int.fdiv (IntKind.u64.wrap (wr (i + j))) (2 ^ 1))) fun x3 =>
  cmp_Less_int x3 target fun r9 =>
  br (r9) (nx (wr ((wr (Int.fdiv (IntKind.u64.wrap (wr (i + j))) (2 ^ 1))) + 1)) j) <|
  nx i (wr (Int.fdiv (IntKind.u64.wrap (wr (i + j))) (2 ^ 1)))) <|
  jn (fun (k : Int → Bool → Prop) => br (decide (i < (ln x))) (idx x i fun x22 =>
  br (x22 == target) (k i true) <|
  idx x i fun x32 =>
  slices_isNaN_int x32 fun r41 =>
  br (r41) (slices_isNaN_int target fun r45 =>
  k i r45) <|
  k i false) <|
  k i false) <|
  fun (x17 : Int) (x18 : Bool) =>
  Q x17 x18) 0 (ln x)

def impl_indexOfValues (sx : List Variable) (values : List Int) (Q : Int → Prop) : Prop :=
  Loop2 (fun (i : Int) (x : Int) nx =>
  br (decide (x < (ln values))) (idx values x fun x7 =>
  idx sx x fun x13 =>
  nx (wr ((wr (i * x13.Levels)) + x7)) (wr (x + 1))) <|
  Q i) 0 0

def impl_cellIndex (g : Geo) (sx : List Variable) (t : Table) (area : Int) (values : List Int) (Q : Int → Prop) : Prop :=
  impl_areasAt ((Geo.mk g.Parents)) t.Level fun r32 =>
  slices_BinarySearch_int_int r32 area fun r42 r43 =>
  br (!r43) (Q ((-1))) <|
  impl_crossed sx ((Table.mk t.Level t.Vars t.Where t.Sum)) fun r50 =>
  impl_combinations r50 fun r64 =>
  impl_indexOfValues r50 values fun r67 =>
  Q (wr ((wr (r42 * r64)) + r67))

def impl_contribution (g : Geo) (sx : List Variable) (t : Table) (r19 : Record) (Q : Int → Int → Prop) : Prop :=
  impl_ancestorAt ((Geo.mk g.Parents)) r19.Area t.Level fun r39 =>
  jn (fun (k : Bool → Prop) => br (decide (r39 < 0)) (k true) <|
  impl_meetsWhere ((Table.mk t.Level t.Vars t.Where t.Sum)) ((Record.mk r19.Area r19.House r19.Values)) fun r67 =>
  k (!r67)) <|
  fun (x44 : Bool) =>
  br (x44) (Q ((-1)) 0) <|
  (0 : Int) ≤ (ln t.Vars) ∧ 8 * (ln t.Vars) ≤ 140737488355328 ∧ (
  Loop2 (fun (values : List Int) (x100 : Int) nx =>
  br (decide (x100 < (ln t.Vars))) (idx t.Vars x100 fun x128 =>
  idx r19.Values x128 fun x135 =>
  (0 : Int) ≤ x100 ∧ Int.toNat x100 < List.length values ∧ (
  nx (List.set values (Int.toNat x100) x135) (wr (x100 + 1)))) <|
  jn (fun (k161 : Int → Prop) => br (decide (t.Sum ≥ 0)) (idx r19.Values t.Sum fun x164 =>
  k161 x164) <|
  k161 1) <|
  fun (amount : Int) =>
  impl_cellIndex ((Geo.mk g.Parents)) sx ((Table.mk t.Level t.Vars t.Where t.Sum)) r39 values fun r173 =>
  Q r173 amount) (List.replicate (Int.toNat (ln t.Vars)) ((0 : Int))) 0)

def impl_tableOf (g : Geo) (sx : List Variable) (t : Table) (l : List Record) (Q : (List Int) → Prop) : Prop :=
  impl_cellCount ((Geo.mk g.Parents)) sx ((Table.mk t.Level t.Vars t.Where t.Sum)) fun r32 =>
  (0 : Int) ≤ r32 ∧ 8 * r32 ≤ 140737488355328 ∧ (
  Loop2 (fun (cells : List Int) (x52 : Int) nx =>
  br (decide (x52 < (ln l))) (jn (fun (k : (List Int) → Prop) => idx l x52 fun x110 =>
  impl_contribution ((Geo.mk g.Parents)) sx ((Table.mk t.Level t.Vars t.Where t.Sum)) ((Record.mk x110.Area x110.House x110.Values)) fun r134 r135 =>
  br (decide (r134 ≥ 0)) (idx cells r134 fun x144 =>
  (0 : Int) ≤ r134 ∧ Int.toNat r134 < List.length cells ∧ (
  k (List.set cells (Int.toNat r134) (wr (x144 + r135))))) <|
  k cells) <|
  fun (cells88 : List Int) =>
  nx cells88 (wr (x52 + 1))) <|
  Q cells) (List.replicate (Int.toNat r32) ((0 : Int))) 0)

def impl_siteCells (g : Geo) (sx : List Variable) (t : Table) (sites : List (List Record)) (Q : (List (List Int)) → Bool → Prop) : Prop :=
  jn (fun (k : Bool → Prop) => impl_areTabled ((Geo.mk g.Parents)) sx ((Table.mk t.Level t.Vars t.Where t.Sum)) fun r42 =>
  br (!r42) (k true) <|
  br (decide ((ln sites) < 2)) (k true) <|
  k (decide ((ln sites) > 8))) <|
  fun (x31 : Bool) =>
  br (x31) (Q ([]) false) <|
  (0 : Int) ≤ (ln sites) ∧ 24 * (ln sites) ≤ 140737488355328 ∧ (
  Loop2 (fun (out : List (List Int)) (x91 : Int) nx =>
  br (decide (x91 < (ln sites))) (idx sites x91 fun x117 =>
  impl_isSurvey ((Geo.mk g.Parents)) sx x117 fun r127 =>
  br (!r127) (Q ([]) false) <|
  impl_tableOf ((Geo.mk g.Parents)) sx ((Table.mk t.Level t.Vars t.Where t.Sum)) x117 fun r134 =>
  (0 : Int) ≤ x91 ∧ Int.toNat x91 < List.length out ∧ (
  nx (List.set out (Int.toNat x91) r134) (wr (x91 + 1)))) <|
  Q out true) (List.replicate (Int.toNat (ln sites)) (([] : List Int))) 0)

def impl_isSeed (n : Int) (Q : Bool → Prop) : Prop :=
  jn (fun (k : Bool → Prop) => br (decide (n ≥ 0)) (k (decide (n ≤ 4611686016279904236))) <|
  k false) <|
  fun (x : Bool) =>
  Q x

def impl_areSeeds (l : List Int) (Q : Bool → Prop) : Prop :=
  br (decide ((ln l) > 392)) (Q false) <|
  Loop1 (fun (x : Int) nx =>
  br (decide (x < (ln l))) (idx l x fun x4 =>
  impl_isSeed x4 fun r10 =>
  br (!r10) (Q false) <|
  nx (wr (x + 1))) <|
  Q true) 0

def impl_areSeedRows (seeds : List (List Int)) (Q : Bool → Prop) : Prop :=
  jn (fun (k : Bool → Prop) => br (decide ((ln seeds) < 2)) (k true) <|
  k (decide ((ln seeds) > 8))) <|
  fun (x : Bool) =>
  br (x) (Q false) <|
  Loop1 (fun (x2 : Int) nx =>
  br (decide (x2 < (ln seeds))) (idx seeds x2 fun x7 =>
  jn (fun (k20 : Bool → Prop) => br ((ln x7) != (ln seeds)) (k20 true) <|
  impl_areSeeds x7 fun r23 =>
  k20 (!r23)) <|
  fun (x16 : Bool) =>
  br (x16) (Q false) <|
  Loop1 (fun (x29 : Int) nx36 =>
  br (decide (x29 < x2)) (idx x7 x29 fun x38 =>
  idx seeds x29 fun x47 =>
  idx x47 x2 fun x59 =>
  br (x38 != x59) (Q false) <|
  nx36 (wr (x29 + 1))) <|
  nx (wr (x2 + 1))) 0) <|
  Q true) 0

def impl_isRound (round : Int) (Q : Bool → Prop) : Prop :=
  jn (fun (k : Bool → Prop) => br (decide (round ≥ 0)) (k (decide (round ≤ 1000000))) <|
  k false) <|
  fun (x : Bool) =>
  Q x

def impl_isModulus (m : Int) (Q : Bool → Prop) : Prop :=
  jn (fun (k : Bool → Prop) => br (decide (m ≥ 2)) (k (decide (m ≤ 1000000007))) <|
  k false) <|
  fun (x : Bool) =>
  Q x

def impl_areWithin (l : List Int) (lo : Int) (hi : Int) (Q : Bool → Prop) : Prop :=
  Loop1 (fun (x : Int) nx =>
  br (decide (x < (ln l))) (idx l x fun x1 =>
  jn (fun (k : Bool → Prop) => br (decide (x1 < lo)) (k true) <|
  k (decide (x1 > hi))) <|
  fun (x8 : Bool) =>
  br (x8) (Q false) <|
  nx (wr (x + 1))) <|
  Q true) 0

def impl_areResidues (values : List Int) (m : Int) (Q : Bool → Prop) : Prop :=
  jn (fun (k : Bool → Prop) => br (decide ((ln values) ≤ 600)) (impl_areWithin values 0 (wr (m - 1)) fun r2 =>
  k r2) <|
  k false) <|
  fun (x : Bool) =>
  Q x

def impl_step (factor : Int) (n : Int) (x : Int) (more : Int) (p : Int) (Q : Int → Prop) : Prop :=
  p ≠ 0 ∧ (
  jn (fun (k : Int → Prop) => br (decide ((Int.tmod x p) < 0)) (k (wr ((Int.tmod x p) + p))) <|
  k (Int.tmod x p)) <|
  fun (x1 : Int) =>
  p ≠ 0 ∧ (
  Q (Int.tmod (wr ((wr ((wr (factor * n)) + x1)) + more)) p)))

def impl_digest (l : List Int) (Q : Int → Prop) : Prop :=
  Loop3 (fun (a1 : Int) (b : Int) (x : Int) nx =>
  br (decide (x < (wr ((ln l) + 4)))) (jn (fun (k : Int → Prop) => br (decide (x < (ln l))) (idx l x fun x7 =>
  k x7) <|
  k 0) <|
  fun (x4 : Int) =>
  impl_step 48271 a1 x4 1 2147483647 fun r13 =>
  impl_step 69621 b x4 (Int.tmod r13 2147483629) 2147483629 fun r16 =>
  nx r13 r16 (wr (x + 1))) <|
  Q (wr ((wr (a1 * 2 ^ 31)) + b))) (Int.tmod (ln l) 2147483647) 1 0

def impl_pairMask (seed : Int) (i : Int) (k : Int) (round : Int) (n : Int) (m : Int) (Q : (List Int) → Prop) : Prop :=
  (0 : Int) ≤ n ∧ 8 * n ≤ 140737488355328 ∧ (
  Loop2 (fun (out : List Int) (x6 : Int) nx =>
  br (decide (x6 < (ln (List.replicate (Int.toNat n) ((0 : Int)))))) (impl_digest ([5, seed, i, k, round, x6]) fun r =>
  m ≠ 0 ∧ (
  (0 : Int) ≤ x6 ∧ Int.toNat x6 < List.length out ∧ (
  nx (List.set out (Int.toNat x6) (Int.tmod r m)) (wr (x6 + 1))))) <|
  Q out) (List.replicate (Int.toNat n) ((0 : Int))) 0)

def impl_combine (sum : List Int) (l : List Int) (sign : Int) (m : Int) (Q : (List Int) → Prop) : Prop :=
  Loop2 (fun (sum7 : List Int) (x : Int) nx =>
  br (decide (x < (ln l))) (idx l x fun x15 =>
  idx sum7 x fun x22 =>
  m ≠ 0 ∧ (
  (0 : Int) ≤ x ∧ Int.toNat x < List.length sum7 ∧ (
  nx (List.set sum7 (Int.toNat x) (Int.tmod (wr ((wr (x22 + (wr (sign * x15)))) + m)) m)) (wr (x + 1))))) <|
  Q sum7) sum 0

def impl_maskOf (seeds : List (List Int)) (i : Int) (round : Int) (n : Int) (m : Int) (Q : (List Int) → Prop) : Prop :=
  (0 : Int) ≤ n ∧ 8 * n ≤ 140737488355328 ∧ (
  Loop2 (fun (out : List Int) (x11 : Int) nx =>
  br (decide (x11 < (ln seeds))) (jn (fun (k : (List Int) → Prop) => br (decide (x11 > i)) (idx seeds i fun x30 =>
  idx x30 x11 fun x40 =>
  impl_pairMask x40 i x11 round n m fun r49 =>
  impl_combine out r49 1 m fun r59 =>
  k r59) <|
  br (decide (x11 < i)) (idx seeds i fun x72 =>
  idx x72 x11 fun x84 =>
  impl_pairMask x84 x11 i round n m fun r93 =>
  impl_combine out r93 ((-1)) m fun r103 =>
  k r103) <|
  k out) <|
  fun (out19 : List Int) =>
  nx out19 (wr (x11 + 1))) <|
  Q out) (List.replicate (Int.toNat n) ((0 : Int))) 0)

def impl_shareOf (seeds : List (List Int)) (i : Int) (round : Int) (m : Int) (values : List Int) (Q : (List Int) → Prop) : Prop :=
  impl_maskOf seeds i round (ln values) m fun r7 =>
  impl_combine r7 values 1 m fun r13 =>
  Q r13

def impl_sumOfShares (m : Int) (shares : List (List Int)) (Q : (List Int) → Prop) : Prop :=
  idx shares 0 fun x =>
  (0 : Int) ≤ (ln x) ∧ 8 * (ln x) ≤ 140737488355328 ∧ (
  Loop2 (fun (out : List Int) (x20 : Int) nx =>
  br (decide (x20 < (ln shares))) (idx shares x20 fun x29 =>
  impl_combine out x29 1 m fun r41 =>
  nx r41 (wr (x20 + 1))) <|
  Q out) (List.replicate (Int.toNat (ln x)) ((0 : Int))) 0)

def impl_FederatedCells (g : Geo) (sx : List Variable) (t : Table) (sites : List (List Record)) (seeds : List (List Int)) (round : Int) (m : Int) (Q : (List Int) → Bool → Prop) : Prop :=
  impl_siteCells ((Geo.mk g.Parents)) sx ((Table.mk t.Level t.Vars t.Where t.Sum)) sites fun r38 r39 =>
  jn (fun (k : Bool → Prop) => br (!r39) (k true) <|
  impl_areSeedRows seeds fun r61 =>
  br (!r61) (k true) <|
  br ((ln seeds) != (ln sites)) (k true) <|
  impl_isRound round fun r76 =>
  br (!r76) (k true) <|
  impl_isModulus m fun r85 =>
  k (!r85)) <|
  fun (x53 : Bool) =>
  br (x53) (Q ([]) false) <|
  (0 : Int) ≤ (ln r38) ∧ 24 * (ln r38) ≤ 140737488355328 ∧ (
  Loop2 (fun (shares : List (List Int)) (x108 : Int) nx =>
  br (decide (x108 < (ln r38))) (idx r38 x108 fun x120 =>
  impl_areResidues x120 m fun r130 =>
  br (!r130) (Q ([]) false) <|
  impl_shareOf seeds x108 round m x120 fun r135 =>
  (0 : Int) ≤ x108 ∧ Int.toNat x108 < List.length shares ∧ (
  nx (List.set shares (Int.toNat x108) r135) (wr (x108 + 1)))) <|
  impl_sumOfShares m shares fun r163 =>
  Q r163 true) (List.replicate (Int.toNat (ln r38)) (([] : List Int))) 0)

def laws_eqIntS (a : List Int) (b : List Int) (Q : Bool → Prop) : Prop :=
  br ((ln a) != (ln b)) (Q false) <|
  Loop1 (fun (i : Int) nx =>
  br (decide (i < (ln a))) (idx a i fun x =>
  idx b i fun x17 =>
  br (x != x17) (Q false) <|
  nx (wr (i + 1))) <|
  Q true) 0

def laws_eqGeo (a : Geo) (b : Geo) (Q : Bool → Prop) : Prop :=
  laws_eqIntS a.Parents b.Parents fun r16 =>
  br (!r16) (Q false) <|
  Q true

def laws_eqVariable (a : Variable) (b : Variable) (Q : Bool → Prop) : Prop :=
  br (!streq a.Name b.Name) (Q false) <|
  br (a.Levels != b.Levels) (Q false) <|
  Q true

def laws_eqVariableS (a : List Variable) (b : List Variable) (Q : Bool → Prop) : Prop :=
  br ((ln a) != (ln b)) (Q false) <|
  Loop1 (fun (i : Int) nx =>
  br (decide (i < (ln a))) (idx a i fun x =>
  idx b i fun x17 =>
  det1 (laws_eqVariable x x17) fun r26 =>
  br (!r26) (Q false) <|
  nx (wr (i + 1))) <|
  Q true) 0

def laws_eqTable (a : Table) (b : Table) (Q : Bool → Prop) : Prop :=
  br (a.Level != b.Level) (Q false) <|
  laws_eqIntS a.Vars b.Vars fun r29 =>
  br (!r29) (Q false) <|
  laws_eqIntS a.Where b.Where fun r40 =>
  br (!r40) (Q false) <|
  br (a.Sum != b.Sum) (Q false) <|
  Q true

def laws_eqRecord (a : Record) (b : Record) (Q : Bool → Prop) : Prop :=
  br (a.Area != b.Area) (Q false) <|
  br (a.House != b.House) (Q false) <|
  laws_eqIntS a.Values b.Values fun r20 =>
  br (!r20) (Q false) <|
  Q true

def laws_eqRecordS (a : List Record) (b : List Record) (Q : Bool → Prop) : Prop :=
  br ((ln a) != (ln b)) (Q false) <|
  Loop1 (fun (i : Int) nx =>
  br (decide (i < (ln a))) (idx a i fun x =>
  idx b i fun x25 =>
  det1 (laws_eqRecord x x25) fun r43 =>
  br (!r43) (Q false) <|
  nx (wr (i + 1))) <|
  Q true) 0

def laws_eqRecordSS (a : List (List Record)) (b : List (List Record)) (Q : Bool → Prop) : Prop :=
  br ((ln a) != (ln b)) (Q false) <|
  Loop1 (fun (i : Int) nx =>
  br (decide (i < (ln a))) (idx a i fun x =>
  idx b i fun x20 =>
  det1 (laws_eqRecordS x x20) fun r32 =>
  br (!r32) (Q false) <|
  nx (wr (i + 1))) <|
  Q true) 0

def laws_eqIntSS (a : List (List Int)) (b : List (List Int)) (Q : Bool → Prop) : Prop :=
  br ((ln a) != (ln b)) (Q false) <|
  Loop1 (fun (i : Int) nx =>
  br (decide (i < (ln a))) (idx a i fun x =>
  idx b i fun x20 =>
  det1 (laws_eqIntS x x20) fun r32 =>
  br (!r32) (Q false) <|
  nx (wr (i + 1))) <|
  Q true) 0

def laws_markIntS (a : List Int) (k : Int) (Q : Int → (List Int) → Prop) : Prop :=
  Loop3 (fun (a2 : List Int) (k6 : Int) (i : Int) nx =>
  br (decide (i < (ln a))) ((0 : Int) ≤ i ∧ Int.toNat i < List.length a2 ∧ (
  nx (List.set a2 (Int.toNat i) k6) (wr (k6 + 1)) (wr (i + 1)))) <|
  Q k6 a2) a k 0

def laws_markGeo (a : Geo) (k : Int) (Q : Int → (List Int) → Prop) : Prop :=
  laws_markIntS a.Parents k fun r3 r4 =>
  Q r3 r4

def laws_markText (k : Int) (Q : ByteArray → Prop) : Prop :=
  br (decide (k ≤ 0)) (Q ((ByteArray.mk #[109, 48]))) <|
  Loop2 (fun (k1 : Int) (out : ByteArray) nx =>
  br (decide (k1 > 0)) (sln (b2s ([(B8.mk (IntKind.u8.wrap (wr (48 + (Int.tmod k1 10)))))])) + sln out ≤ 9223372036854775807 ∧ (
  nx (wr (Int.tdiv k1 10)) ((b2s ([(B8.mk (IntKind.u8.wrap (wr (48 + (Int.tmod k1 10)))))])) ++ out))) <|
  sln ((ByteArray.mk #[109])) + sln out ≤ 9223372036854775807 ∧ (
  Q (((ByteArray.mk #[109])) ++ out))) k ((ByteArray.mk #[]))

def laws_markVariableS (a : List Variable) (k : Int) (Q : Int → (List Variable) → Prop) : Prop :=
  Loop3 (fun (a2 : List Variable) (k6 : Int) (i : Int) nx =>
  br (decide (i < (ln a))) (laws_markText k6 fun r8 =>
  idx a2 i fun x10 =>
  idx (List.set a2 (Int.toNat i) ({x10 with Name := r8} : Variable)) i fun x18 =>
  nx (List.set (List.set a2 (Int.toNat i) ({x10 with Name := r8} : Variable)) (Int.toNat i) ({x18 with Levels := wr (k6 + 1)} : Variable)) (wr ((wr (k6 + 1)) + 1)) (wr (i + 1))) <|
  Q k6 a2) a k 0

def laws_markTable (a : Table) (k : Int) (Q : Int → (List Int) → (List Int) → Prop) : Prop :=
  laws_markIntS a.Vars k fun r10 r11 =>
  laws_markIntS a.Where r10 fun r18 r19 =>
  Q r18 r11 r19

def laws_markRecordS (a : List Record) (k : Int) (Q : Int → (List Record) → Prop) : Prop :=
  Loop3 (fun (a2 : List Record) (k6 : Int) (i : Int) nx =>
  br (decide (i < (ln a))) (idx a2 i fun x =>
  idx (List.set a2 (Int.toNat i) ({x with Area := k6} : Record)) i fun x14 =>
  idx (List.set (List.set a2 (Int.toNat i) ({x with Area := k6} : Record)) (Int.toNat i) ({x14 with House := wr (k6 + 1)} : Record)) i fun x25 =>
  laws_markIntS x25.Values (wr ((wr (k6 + 1)) + 1)) fun r40 r41 =>
  nx (List.set (List.set (List.set a2 (Int.toNat i) ({x with Area := k6} : Record)) (Int.toNat i) ({x14 with House := wr (k6 + 1)} : Record)) (Int.toNat i) ({x25 with Values := r41} : Record)) r40 (wr (i + 1))) <|
  Q k6 a2) a k 0

def laws_markRecordSS (a : List (List Record)) (k : Int) (Q : Int → (List (List Record)) → Prop) : Prop :=
  Loop3 (fun (a2 : List (List Record)) (k6 : Int) (i : Int) nx =>
  br (decide (i < (ln a))) (idx a2 i fun x =>
  laws_markRecordS x k6 fun r16 r17 =>
  nx (List.set a2 (Int.toNat i) r17) r16 (wr (i + 1))) <|
  Q k6 a2) a k 0

def laws_markIntSS (a : List (List Int)) (k : Int) (Q : Int → (List (List Int)) → Prop) : Prop :=
  Loop3 (fun (a2 : List (List Int)) (k6 : Int) (i : Int) nx =>
  br (decide (i < (ln a))) (idx a2 i fun x =>
  laws_markIntS x k6 fun r17 r18 =>
  nx (List.set a2 (Int.toNat i) r18) r17 (wr (i + 1))) <|
  Q k6 a2) a k 0

def laws_heldIntS (a : List Int) (k : Int) (Q : Int → Prop) : Prop :=
  Loop2 (fun (k2 : Int) (i : Int) nx =>
  br (decide (i < (ln a))) (idx a i fun x =>
  br (x != k2) (Q ((-1))) <|
  nx (wr (k2 + 1)) (wr (i + 1))) <|
  Q k2) k 0

def laws_FnExactFederatedCells (aG : Geo) (aS : List Variable) (aT : Table) (aSites : List (List Record)) (aSeeds : List (List Int)) (aRound : Int) (aM : Int) (Q : Bool → Prop) : Prop :=
  laws_szGeo ((Geo.mk aG.Parents)) 1048576 fun r38 =>
  br (decide (r38 < 0)) (Q true) <|
  laws_szVariableS aS r38 fun r44 =>
  br (decide (r44 < 0)) (Q true) <|
  laws_szTable ((Table.mk aT.Level aT.Vars aT.Where aT.Sum)) r44 fun r54 =>
  br (decide (r54 < 0)) (Q true) <|
  laws_szRecordSS aSites r54 fun r63 =>
  br (decide (r63 < 0)) (Q true) <|
  laws_szIntSS aSeeds r63 fun r71 =>
  br (decide (r71 < 0)) (Q true) <|
  laws_toGeo ((Geo.mk aG.Parents)) fun r87 =>
  laws_toVariableS aS fun r102 =>
  laws_toTable ((Table.mk aT.Level aT.Vars aT.Where aT.Sum)) fun r118 =>
  laws_toRecordSS aSites fun r140 =>
  laws_toIntSS aSeeds fun r154 =>
  spec_FederatedCells ((Geo.mk r87.Parents)) r102 ((Table.mk r118.Level r118.Vars r118.Where r118.Sum)) r140 r154 aRound aM fun r168 r169 =>
  laws_toGeo ((Geo.mk aG.Parents)) fun r193 =>
  laws_toVariableS aS fun r212 =>
  laws_toTable ((Table.mk aT.Level aT.Vars aT.Where aT.Sum)) fun r230 =>
  laws_toRecordSS aSites fun r262 =>
  laws_toIntSS aSeeds fun r279 =>
  impl_FederatedCells ((Geo.mk r193.Parents)) r212 ((Table.mk r230.Level r230.Vars r230.Where r230.Sum)) r262 r279 aRound aM fun r298 r299 =>
  jn (fun (k : Bool → Prop) => laws_eqIntS r298 r168 fun r338 =>
  br (!r338) (k true) <|
  k (r299 != r169)) <|
  fun (x317 : Bool) =>
  br (x317) (Q false) <|
  laws_toGeo ((Geo.mk aG.Parents)) fun r429 =>
  laws_eqGeo ((Geo.mk r193.Parents)) ((Geo.mk r429.Parents)) fun r446 =>
  br (!r446) (Q false) <|
  laws_toVariableS aS fun r455 =>
  laws_eqVariableS r212 r455 fun r467 =>
  br (!r467) (Q false) <|
  laws_toTable ((Table.mk aT.Level aT.Vars aT.Where aT.Sum)) fun r482 =>
  laws_eqTable ((Table.mk r230.Level r230.Vars r230.Where r230.Sum)) ((Table.mk r482.Level r482.Vars r482.Where r482.Sum)) fun r508 =>
  br (!r508) (Q false) <|
  laws_toRecordSS aSites fun r519 =>
  laws_eqRecordSS r262 r519 fun r531 =>
  br (!r531) (Q false) <|
  laws_toIntSS aSeeds fun r539 =>
  laws_eqIntSS r279 r539 fun r551 =>
  br (!r551) (Q false) <|
  laws_markGeo ((Geo.mk r193.Parents)) 1 fun r561 r562 =>
  laws_markVariableS r212 r561 fun r570 r571 =>
  laws_markTable ((Table.mk r230.Level r230.Vars r230.Where r230.Sum)) r570 fun r583 r584 r585 =>
  laws_markRecordSS r262 r583 fun r601 r602 =>
  laws_markIntSS r279 r601 fun r615 r616 =>
  jn (fun (k641 : Bool → Prop) => br (decide (r615 < 0)) (k641 true) <|
  laws_eqIntS r298 r168 fun r729 =>
  br (!r729) (k641 true) <|
  k641 (r299 != r169)) <|
  fun (x628 : Bool) =>
  br (x628) (Q false) <|
  laws_markIntS r298 1 fun r897 r898 =>
  laws_heldIntS r898 1 fun r905 =>
  br (decide (r905 < 0)) (Q false) <|
  br (r905 != r897) (Q false) <|
  laws_toGeo ((Geo.mk aG.Parents)) fun r941 =>
  laws_toVariableS aS fun r960 =>
  laws_toTable ((Table.mk aT.Level aT.Vars aT.Where aT.Sum)) fun r978 =>
  laws_toRecordSS aSites fun r1005 =>
  laws_toIntSS aSeeds fun r1020 =>
  impl_FederatedCells ((Geo.mk r941.Parents)) r960 ((Table.mk r978.Level r978.Vars r978.Where r978.Sum)) r1005 r1020 aRound aM fun r1035 r1036 =>
  jn (fun (k1063 : Bool → Prop) => laws_eqIntS r1035 r168 fun r1065 =>
  br (!r1065) (k1063 true) <|
  k1063 (r1036 != r169)) <|
  fun (x1059 : Bool) =>
  br (x1059) (Q false) <|
  laws_heldIntS r898 1 fun r1100 =>
  br (decide (r1100 < 0)) (Q false) <|
  br (r1100 != r897) (Q false) <|
  Q true

end Go.Proofs.YtnladfcokocfnaaGreat
