/- What each Go function means: a definition over numbers and lists; Q: what is to hold of its results. -/
import Derived.Test.YtdnpmgofkbjigaaLib
set_option linter.unusedVariables false
set_option autoImplicit false
namespace Go.Proofs.Ytdnpmgofkbjigaa
open Go Go.RowKit Go.Gv

structure Variable where
  Name : ByteArray
  Levels : Int
instance : Wf Variable := ⟨fun x => Wf.wf x.Name ∧ Wf.wf x.Levels⟩
instance : Flat Variable where
  n := 2
  agg := true
  rd _ cs x := cs = [.string x.Name, I x.Levels]
  enc x := [.string x.Name, I x.Levels]
  len h := by subst h; rfl
  le _ h := h
  one h c hc := by subst h; simp at hc; rcases hc with rfl | rfl <;> rfl
  sing h := by cases h
  flat := Iff.rfl
theorem Variable_rv {h : PH} {v : Value} {x : Variable} (r : RV h v x) : v = .agg #[.string x.Name, I x.Levels] := by obtain ⟨cs, rfl, rfl⟩ := r; rfl
structure Edit where
  Sets : List Int
instance : Wf Edit := ⟨fun x => Wf.wf x.Sets⟩
instance : Deep Edit := Deep.via (fun x => x.Sets)
theorem Edit_rd {h : PH} {cs : List Value} {x : Edit} (r : Enc.rd h cs x) : ∃ u0, cs = [u0] ∧ RS h u0 x.Sets := by
  obtain ⟨u0, rfl, r0⟩ := r; exact ⟨_, rfl, r0⟩
theorem Edit_rv {h : PH} {v : Value} {x : Edit} (r : RV h v x) : ∃ u0, v = .agg #[u0] ∧ RS h u0 x.Sets := by
  obtain ⟨cs, hr, rfl⟩ := r; obtain ⟨u0, rfl, r0⟩ := Edit_rd hr; exact ⟨_, rfl, r0⟩
theorem Edit_bw0 {h hi rest : PH} {v : Value} {xs : List Edit} {i : Nat} {c : List Value} {x : Edit} (b : Bw h v xs i hi rest c x) : ∃ u0 hl rs, c = [u0] ∧ BwG h v xs hl rs u0 x.Sets (fun y => xs.set i {x with Sets := y}) := by
  have o := b.own
  obtain ⟨u0, rfl, q0⟩ := o
  exact ⟨_, _, _, rfl, b.fc (Fc.via (fun x : Edit => x.Sets) (Fc.here q0) fun _ => rfl)⟩
structure ESearch where
  S : List Variable
  Passing : List (List Int)
  V : Int
  Out : List Edit
instance : Wf ESearch := ⟨fun x => Wf.wf x.S ∧ Wf.wf x.Passing ∧ Wf.wf x.V ∧ Wf.wf x.Out⟩
instance : Deep ESearch := Deep.via (fun x => (x.S, x.Passing, x.V, x.Out))
theorem ESearch_rd {h : PH} {cs : List Value} {x : ESearch} (r : Enc.rd h cs x) : ∃ u0 u1 u2, cs = [u0, u1, I x.V, u2] ∧ RS h u0 x.S ∧ RS h u1 x.Passing ∧ RS h u2 x.Out := by
  obtain ⟨_, _, rfl, ⟨u0, rfl, r0⟩, ⟨_, _, rfl, ⟨u1, rfl, r1⟩, ⟨_, _, rfl, rfl, ⟨u2, rfl, r2⟩⟩⟩⟩ := r; exact ⟨_, _, _, rfl, r0, r1, r2⟩
theorem ESearch_rv {h : PH} {v : Value} {x : ESearch} (r : RV h v x) : ∃ u0 u1 u2, v = .agg #[u0, u1, I x.V, u2] ∧ RS h u0 x.S ∧ RS h u1 x.Passing ∧ RS h u2 x.Out := by
  obtain ⟨cs, hr, rfl⟩ := r; obtain ⟨u0, u1, u2, rfl, r0, r1, r2⟩ := ESearch_rd hr; exact ⟨_, _, _, rfl, r0, r1, r2⟩
theorem ESearch_bw0 {h hi rest : PH} {v : Value} {xs : List ESearch} {i : Nat} {c : List Value} {x : ESearch} (b : Bw h v xs i hi rest c x) : ∃ u0 u1 u3 hl rs, c = [u0, u1, I x.V, u3] ∧ BwG h v xs hl rs u0 x.S (fun y => xs.set i {x with S := y}) := by
  have o := b.own
  obtain ⟨_, _, _, _, rfl, rfl, d0, p0, n0⟩ := o
  obtain ⟨u0, rfl, q0⟩ := p0
  obtain ⟨_, _, _, _, rfl, rfl, d1, p1, n1⟩ := n0
  obtain ⟨u1, rfl, q1⟩ := p1
  obtain ⟨_, _, _, _, rfl, rfl, d2, p2, n2⟩ := n1
  obtain ⟨rfl, rfl⟩ := own_flat p2
  obtain ⟨u3, rfl, q3⟩ := n2
  exact ⟨_, _, _, _, _, rfl, b.fc (Fc.via (fun x : ESearch => (x.S, x.Passing, x.V, x.Out)) (Fc.left (Fc.here q0) ⟨_, _, _, _, rfl, rfl, d1, ⟨u1, rfl, q1⟩, ⟨_, _, _, _, rfl, rfl, d2, (flat_own x.V), ⟨u3, rfl, q3⟩⟩⟩ d0) fun _ => rfl)⟩
theorem ESearch_bw1 {h hi rest : PH} {v : Value} {xs : List ESearch} {i : Nat} {c : List Value} {x : ESearch} (b : Bw h v xs i hi rest c x) : ∃ u0 u1 u3 hl rs, c = [u0, u1, I x.V, u3] ∧ BwG h v xs hl rs u1 x.Passing (fun y => xs.set i {x with Passing := y}) := by
  have o := b.own
  obtain ⟨_, _, _, _, rfl, rfl, d0, p0, n0⟩ := o
  obtain ⟨u0, rfl, q0⟩ := p0
  obtain ⟨_, _, _, _, rfl, rfl, d1, p1, n1⟩ := n0
  obtain ⟨u1, rfl, q1⟩ := p1
  obtain ⟨_, _, _, _, rfl, rfl, d2, p2, n2⟩ := n1
  obtain ⟨rfl, rfl⟩ := own_flat p2
  obtain ⟨u3, rfl, q3⟩ := n2
  exact ⟨_, _, _, _, _, rfl, b.fc (Fc.via (fun x : ESearch => (x.S, x.Passing, x.V, x.Out)) (Fc.right ⟨u0, rfl, q0⟩ (Fc.left (Fc.here q1) ⟨_, _, _, _, rfl, rfl, d2, (flat_own x.V), ⟨u3, rfl, q3⟩⟩ d1) d0) fun _ => rfl)⟩
theorem ESearch_bw3 {h hi rest : PH} {v : Value} {xs : List ESearch} {i : Nat} {c : List Value} {x : ESearch} (b : Bw h v xs i hi rest c x) : ∃ u0 u1 u3 hl rs, c = [u0, u1, I x.V, u3] ∧ BwG h v xs hl rs u3 x.Out (fun y => xs.set i {x with Out := y}) := by
  have o := b.own
  obtain ⟨_, _, _, _, rfl, rfl, d0, p0, n0⟩ := o
  obtain ⟨u0, rfl, q0⟩ := p0
  obtain ⟨_, _, _, _, rfl, rfl, d1, p1, n1⟩ := n0
  obtain ⟨u1, rfl, q1⟩ := p1
  obtain ⟨_, _, _, _, rfl, rfl, d2, p2, n2⟩ := n1
  obtain ⟨rfl, rfl⟩ := own_flat p2
  obtain ⟨u3, rfl, q3⟩ := n2
  exact ⟨_, _, _, _, _, rfl, b.fc (Fc.via (fun x : ESearch => (x.S, x.Passing, x.V, x.Out)) (Fc.right ⟨u0, rfl, q0⟩ (Fc.right ⟨u1, rfl, q1⟩ (Fc.right (flat_own x.V) (Fc.here q3) d2) d1) d0) fun _ => rfl)⟩

def laws_szVariable (a : Variable) (left : Int) (Q : Int → Prop) : Prop :=
  br (decide ((wr (left - (sln a.Name))) < 0)) (Q ((-1))) <|
  Q (wr (left - (sln a.Name)))

def laws_szVariableS (a : List Variable) (left : Int) (Q : Int → Prop) : Prop :=
  br (decide ((wr (left - (ln a))) < 0)) (Q ((-1))) <|
  Loop2 (fun (left2 : Int) (i : Int) nx =>
  br (decide (i < (ln a))) (idx a i fun x =>
  laws_szVariable x left2 fun r11 =>
  br (decide (r11 < 0)) (Q ((-1))) <|
  nx r11 (wr (i + 1))) <|
  Q left2) (wr (left - (ln a))) 0

def laws_szIntS (a : List Int) (left : Int) (Q : Int → Prop) : Prop :=
  br (decide ((wr (left - (ln a))) < 0)) (Q ((-1))) <|
  Q (wr (left - (ln a)))

def laws_szEdit (a : Edit) (left : Int) (Q : Int → Prop) : Prop :=
  laws_szIntS a.Sets left fun r3 =>
  br (decide (r3 < 0)) (Q ((-1))) <|
  Q r3

def laws_szEditS (a : List Edit) (left : Int) (Q : Int → Prop) : Prop :=
  br (decide ((wr (left - (ln a))) < 0)) (Q ((-1))) <|
  Loop2 (fun (left2 : Int) (i : Int) nx =>
  br (decide (i < (ln a))) (idx a i fun x =>
  laws_szEdit x left2 fun r19 =>
  br (decide (r19 < 0)) (Q ((-1))) <|
  nx r19 (wr (i + 1))) <|
  Q left2) (wr (left - (ln a))) 0

def laws_toVariable (a : Variable) (Q : Variable → Prop) : Prop :=
  Q ((Variable.mk a.Name a.Levels))

def laws_toVariableS (a : List Variable) (Q : (List Variable) → Prop) : Prop :=
  (0 : Int) ≤ (ln a) ∧ 24 * (ln a) ≤ 140737488355328 ∧ (
  Loop2 (fun (out : List Variable) (i : Int) nx =>
  br (decide (i < (ln a))) (idx a i fun x18 =>
  laws_toVariable x18 fun r25 =>
  (0 : Int) ≤ i ∧ Int.toNat i < List.length out ∧ (
  nx (List.set out (Int.toNat i) r25) (wr (i + 1)))) <|
  Q out) (List.replicate (Int.toNat (ln a)) ((Variable.mk ((ByteArray.mk #[])) ((0 : Int))))) 0)

def laws_toIntS (a : List Int) (Q : (List Int) → Prop) : Prop :=
  (0 : Int) ≤ (ln a) ∧ 8 * (ln a) ≤ 140737488355328 ∧ (
  Loop2 (fun (out : List Int) (i : Int) nx =>
  br (decide (i < (ln a))) (idx a i fun x18 =>
  (0 : Int) ≤ i ∧ Int.toNat i < List.length out ∧ (
  nx (List.set out (Int.toNat i) x18) (wr (i + 1)))) <|
  Q out) (List.replicate (Int.toNat (ln a)) ((0 : Int))) 0)

def laws_toEdit (a : Edit) (Q : Edit → Prop) : Prop :=
  laws_toIntS a.Sets fun r14 =>
  Q ((Edit.mk r14))

def laws_toEditS (a : List Edit) (Q : (List Edit) → Prop) : Prop :=
  (0 : Int) ≤ (ln a) ∧ 24 * (ln a) ≤ 140737488355328 ∧ (
  Loop2 (fun (out : List Edit) (i : Int) nx =>
  br (decide (i < (ln a))) (idx a i fun x18 =>
  laws_toEdit x18 fun r33 =>
  (0 : Int) ≤ i ∧ Int.toNat i < List.length out ∧ (
  nx (List.set out (Int.toNat i) (((Edit.mk r33.Sets) : Edit))) (wr (i + 1)))) <|
  Q out) (List.replicate (Int.toNat (ln a)) ((Edit.mk (([] : List Int))))) 0)

def spec_l1In (n : Int) (lo : Int) (hi : Int) (Q : Bool → Prop) : Prop :=
  jn (fun (k : Bool → Prop) => br (decide (n ≥ lo)) (k (decide (n ≤ hi))) <|
  k false) <|
  fun (x : Bool) =>
  Q x

def spec_sName (sx : ByteArray) (Q : Bool → Prop) : Prop :=
  Loop1 (fun (i : Int) nx =>
  br (decide (i < (sln sx))) (jn (fun (k : Bool → Prop) => sidx sx i fun c =>
  br (decide ((c) < 97)) (k true) <|
  sidx sx i fun c3 =>
  k (decide ((c3) > 122))) <|
  fun (x : Bool) =>
  br (x) (Q false) <|
  nx (wr (i + 1))) <|
  spec_l1In (sln sx) 1 8 fun r =>
  Q r) 0

def spec_sFind (sx : List Variable) (name : ByteArray) (Q : Int → Prop) : Prop :=
  Loop1 (fun (x : Int) nx =>
  br (decide (x < (ln sx))) (idx sx x fun x3 =>
  br (streq x3.Name name) (Q x) <|
  nx (wr (x + 1))) <|
  Q ((-1))) 0

def spec_sGood (sx : List Variable) (Q : Bool → Prop) : Prop :=
  spec_l1In (ln sx) 1 6 fun r1 =>
  br (!r1) (Q false) <|
  Loop1 (fun (x3 : Int) nx =>
  br (decide (x3 < (ln sx))) (idx sx x3 fun x10 =>
  jn (fun (k : Bool → Prop) => det1 (spec_sName x10.Name) fun r25 =>
  br (!r25) (k true) <|
  det1 (spec_l1In x10.Levels 2 8) fun r34 =>
  br (!r34) (k true) <|
  (0 : Int) ≤ 0 ∧ 0 ≤ x3 ∧ x3 ≤ ln sx ∧ (
  det1 (spec_sFind (List.take (Int.toNat x3 - Int.toNat 0) (List.drop (Int.toNat 0) sx)) x10.Name) fun r48 =>
  k (decide (r48 ≥ 0)))) <|
  fun (x21 : Bool) =>
  br (x21) (Q false) <|
  nx (wr (x3 + 1))) <|
  Q true) 0

def spec_eFull (sx : List Variable) (vx1 : Int) (Q : Int → Prop) : Prop :=
  idx sx vx1 fun x =>
  (0 : Int) ≤ (IntKind.u64.wrap (x.Levels)) ∧ (
  Q (wr ((shl .i64 1 (IntKind.u64.wrap (x.Levels))) - 1)))

def spec_eGood (sx : List Variable) (ex1 : Edit) (Q : Bool → Prop) : Prop :=
  br ((ln ex1.Sets) != (ln sx)) (Q false) <|
  Loop1 (fun (x10 : Int) nx =>
  br (decide (x10 < (ln ex1.Sets))) (idx ex1.Sets x10 fun x19 =>
  spec_eFull sx x10 fun r25 =>
  spec_l1In x19 1 r25 fun r28 =>
  br (!r28) (Q false) <|
  nx (wr (x10 + 1))) <|
  Q true) 0

def spec_eList (sx : List Variable) (l : List Edit) (Q : Bool → Prop) : Prop :=
  jn (fun (k : Bool → Prop) => spec_sGood sx fun r10 =>
  br (!r10) (k true) <|
  k (decide ((ln l) > 40))) <|
  fun (x : Bool) =>
  br (x) (Q false) <|
  Loop1 (fun (x20 : Int) nx =>
  br (decide (x20 < (ln l))) (idx l x20 fun x26 =>
  spec_eGood sx ((Edit.mk x26.Sets)) fun r45 =>
  br (!r45) (Q false) <|
  nx (wr (x20 + 1))) <|
  Q true) 0

def spec_sCount (sx : List Variable) (Q : Int → Prop) : Prop :=
  Loop2 (fun (n : Int) (x : Int) nx =>
  br (decide (x < (ln sx))) (idx sx x fun x3 =>
  nx (wr (n * x3.Levels)) (wr (x + 1))) <|
  Q n) 1 0

def spec_eSmall (sx : List Variable) (l : List Edit) (Q : Bool → Prop) : Prop :=
  jn (fun (k : Bool → Prop) => spec_eList sx l fun r8 =>
  br (r8) (spec_sCount sx fun r11 =>
  k (decide (r11 ≤ 100))) <|
  k false) <|
  fun (x : Bool) =>
  Q x

def spec_sFits (sx : List Variable) (values : List Int) (Q : Bool → Prop) : Prop :=
  br ((ln values) != (ln sx)) (Q false) <|
  Loop1 (fun (x : Int) nx =>
  br (decide (x < (ln sx))) (idx sx x fun x11 =>
  idx values x fun x22 =>
  det1 (spec_l1In x22 0 (wr (x11.Levels - 1))) fun r32 =>
  br (!r32) (Q false) <|
  nx (wr (x + 1))) <|
  Q true) 0

def spec_l1Rising (l : List Int) (lo : Int) (hi : Int) (Q : Bool → Prop) : Prop :=
  Loop1 (fun (x : Int) nx =>
  br (decide (x < (ln l))) (idx l x fun x3 =>
  jn (fun (k : Bool → Prop) => spec_l1In x3 lo hi fun r14 =>
  br (!r14) (k true) <|
  br (decide (x > 0)) (idx l (wr (x - 1)) fun x21 =>
  k (decide (x21 ≥ x3))) <|
  k false) <|
  fun (x10 : Bool) =>
  br (x10) (Q false) <|
  nx (wr (x + 1))) <|
  Q true) 0

def spec_sAt (sx : List Variable) (i : Int) (Q : (List Int) → Prop) : Prop :=
  (0 : Int) ≤ (ln sx) ∧ 8 * (ln sx) ≤ 140737488355328 ∧ (
  Loop3 (fun (i6 : Int) (out : List Int) (k : Int) nx =>
  br (decide (k ≥ 0)) (idx sx k fun x18 =>
  x18.Levels ≠ 0 ∧ (
  (0 : Int) ≤ k ∧ Int.toNat k < List.length out ∧ (
  idx sx k fun x29 =>
  x29.Levels ≠ 0 ∧ (
  nx (wr (Int.tdiv i6 x29.Levels)) (List.set out (Int.toNat k) (Int.tmod i6 x18.Levels)) (wr (k - 1)))))) <|
  Q out) i (List.replicate (Int.toNat (ln sx)) ((0 : Int))) (wr ((ln sx) - 1)))

def spec_eFails (ex : Edit) (values : List Int) (Q : Bool → Prop) : Prop :=
  Loop1 (fun (x9 : Int) nx =>
  br (decide (x9 < (ln values))) (idx values x9 fun x11 =>
  idx ex.Sets x9 fun x18 =>
  (0 : Int) ≤ (IntKind.u64.wrap (x11)) ∧ (
  br ((bits .and .i64 (shr .i64 x18 (IntKind.u64.wrap (x11))) 1) == 0) (Q false) <|
  nx (wr (x9 + 1)))) <|
  Q true) 0

def spec_eFailed (l : List Edit) (values : List Int) (Q : (List Int) → Prop) : Prop :=
  Loop2 (fun (out : List Int) (x : Int) nx =>
  br (decide (x < (ln l))) (jn (fun (k : (List Int) → Prop) => idx l x fun x30 =>
  spec_eFails ((Edit.mk x30.Sets)) values fun r51 =>
  br (r51) ((ln out + ln ([x])) * 8 ≤ 140737488355328 ∧ (
  k (out ++ ([x])))) <|
  k out) <|
  fun (out16 : List Int) =>
  nx out16 (wr (x + 1))) <|
  Q out) ([]) 0

def spec_eSearch_free (x : ESearch) (sets : List Int) (Q : Bool → Prop) : Prop :=
  Loop1 (fun (x20 : Int) nx =>
  br (decide (x20 < (ln x.Passing))) (idx x.Passing x20 fun x24 =>
  spec_eFails ((Edit.mk sets)) x24 fun r33 =>
  br (r33) (Q false) <|
  nx (wr (x20 + 1))) <|
  Q true) 0

def spec_l1Own (l : List Int) (Q : (List Int) → Prop) : Prop :=
  (ln (([] : List Int)) + ln l) * 8 ≤ 140737488355328 ∧ (
  Q ((([] : List Int)) ++ l))

def spec_eSearch_grows (x : ESearch) (sets : List Int) (Q : Bool → Prop) : Prop :=
  Loop1 (fun (x20 : Int) nx =>
  br (decide (x20 < (ln sets))) (Loop1 (fun (level : Int) nx37 =>
  idx x.S x20 fun x38 =>
  br (decide (level < x38.Levels)) (jn (fun (k : Prop) => idx sets x20 fun x50 =>
  (0 : Int) ≤ (IntKind.u64.wrap (level)) ∧ (
  br ((bits .and .i64 (shr .i64 x50 (IntKind.u64.wrap (level))) 1) == 1) (k) <|
  spec_l1Own sets fun r60 =>
  idx r60 x20 fun x68 =>
  (0 : Int) ≤ (IntKind.u64.wrap (level)) ∧ (
  (0 : Int) ≤ x20 ∧ Int.toNat x20 < List.length r60 ∧ (
  spec_eSearch_free ((ESearch.mk x.S x.Passing x.V x.Out)) (List.set r60 (Int.toNat x20) (bits .or .i64 x68 (shl .i64 1 (IntKind.u64.wrap (level))))) fun r84 =>
  br (r84) (Q true) <|
  k)))) <|
  nx37 (wr (level + 1))) <|
  nx (wr (x20 + 1))) 0) <|
  Q false) 0

def spec_eSearch_run (x : ESearch) (k : Int) (sets : List Int) (Q : (List Edit) → Int → Prop) : Prop :=
  Rec3 (fun (self : ESearch → Int → (List Int) → ((List Edit) → Int → Prop) → Prop) (x : ESearch) (k : Int) (sets : List Int) (Q : (List Edit) → Int → Prop) =>
  br (k == (ln x.S)) (jn (fun (k39 : (List Edit) → Prop) => jn (fun (k48 : Bool → Prop) => spec_eSearch_free ((ESearch.mk x.S x.Passing x.V x.Out)) sets fun r50 =>
  br (r50) (spec_eSearch_grows ((ESearch.mk x.S x.Passing x.V x.Out)) sets fun r54 =>
  k48 (!r54)) <|
  k48 false) <|
  fun (x40 : Bool) =>
  br (x40) (spec_l1Own sets fun r80 =>
  (ln x.Out + ln ([((Edit.mk r80) : Edit)])) * 24 ≤ 140737488355328 ∧ (
  k39 (x.Out ++ ([((Edit.mk r80) : Edit)])))) <|
  k39 x.Out) <|
  fun (out : List Edit) =>
  Q out x.V) <|
  jn (fun (k149 : Int → Prop) => br (k == x.V) (spec_eFull x.S k fun r152 =>
  k149 r152) <|
  k149 1) <|
  fun (first : Int) =>
  Loop3 (fun (setx : Int) (vx161 : Int) (out162 : List Edit) nx =>
  spec_eFull x.S k fun r181 =>
  br (decide (setx ≤ r181)) (spec_l1Own sets fun r185 =>
  (ln r185 + ln ([setx])) * 8 ≤ 140737488355328 ∧ (
  self ((ESearch.mk x.S x.Passing vx161 out162)) (wr (k + 1)) (r185 ++ ([setx])) fun r220 r221 =>
  nx (wr (setx + 1)) r221 r220)) <|
  Q out162 vx161) first x.V x.Out) x k sets Q

def spec_eMaximal (sx : List Variable) (l : List Edit) (vx7 : Int) (Q : (List Edit) → Prop) : Prop :=
  Loop2 (fun (i : Int) (passing : List (List Int)) nx =>
  spec_sCount sx fun r25 =>
  br (decide (i < r25)) (jn (fun (k : (List (List Int)) → Prop) => spec_sAt sx i fun r44 =>
  spec_eFailed l r44 fun r55 =>
  br ((ln r55) == 0) ((ln passing + ln ([r44])) * 24 ≤ 140737488355328 ∧ (
  k (passing ++ ([r44])))) <|
  k passing) <|
  fun (passing28 : List (List Int)) =>
  nx (wr (i + 1)) passing28) <|
  spec_eSearch_run ((ESearch.mk sx passing vx7 ([]))) 0 ([]) fun r115 r116 =>
  Q r115) 0 ([])

def spec_eInvolved (sx : List Variable) (ex1 : Edit) (Q : (List Int) → Prop) : Prop :=
  Loop2 (fun (out : List Int) (x13 : Int) nx =>
  br (decide (x13 < (ln ex1.Sets))) (jn (fun (k : (List Int) → Prop) => idx ex1.Sets x13 fun x38 =>
  spec_eFull sx x13 fun r45 =>
  br (x38 != r45) ((ln out + ln ([x13])) * 8 ≤ 140737488355328 ∧ (
  k (out ++ ([x13])))) <|
  k out) <|
  fun (out24 : List Int) =>
  nx out24 (wr (x13 + 1))) <|
  Q out) ([]) 0

def spec_l1Has (l : List Int) (n : Int) (Q : Bool → Prop) : Prop :=
  Loop1 (fun (x : Int) nx =>
  br (decide (x < (ln l))) (idx l x fun x1 =>
  br (x1 == n) (Q true) <|
  nx (wr (x + 1))) <|
  Q false) 0

def spec_iShares (a : List Int) (b : List Int) (Q : Bool → Prop) : Prop :=
  Loop1 (fun (x : Int) nx =>
  br (decide (x < (ln a))) (idx a x fun x11 =>
  spec_l1Has b x11 fun r17 =>
  br (r17) (Q true) <|
  nx (wr (x + 1))) <|
  Q false) 0

def spec_IsCover (sx : List Variable) (l : List Edit) (values : List Int) (vars : List Int) (Q : Bool → Bool → Prop) : Prop :=
  jn (fun (k : Bool → Prop) => spec_eSmall sx l fun r24 =>
  br (!r24) (k true) <|
  spec_sFits sx values fun r32 =>
  br (!r32) (k true) <|
  spec_l1Rising vars 0 (wr ((ln sx) - 1)) fun r43 =>
  k (!r43)) <|
  fun (x : Bool) =>
  br (x) (Q false false) <|
  spec_eMaximal sx l ((-1)) fun r53 =>
  Loop1 (fun (x61 : Int) nx =>
  br (decide (x61 < (ln r53))) (idx r53 x61 fun x73 =>
  jn (fun (k100 : Bool → Prop) => spec_eFails ((Edit.mk x73.Sets)) values fun r102 =>
  br (r102) (spec_eInvolved sx ((Edit.mk x73.Sets)) fun r109 =>
  spec_iShares r109 vars fun r121 =>
  k100 (!r121)) <|
  k100 false) <|
  fun (x93 : Bool) =>
  br (x93) (Q false true) <|
  nx (wr (x61 + 1))) <|
  Q true true) 0

def impl_isWord (sx : ByteArray) (Q : Bool → Prop) : Prop :=
  jn (fun (k : Bool → Prop) => br (decide ((sln sx) < 1)) (k true) <|
  k (decide ((sln sx) > 8))) <|
  fun (x : Bool) =>
  br (x) (Q false) <|
  Loop1 (fun (x2 : Int) nx =>
  br (decide (x2 < (sln sx))) (jn (fun (k7 : Bool → Prop) => sidx sx x2 fun c =>
  br (decide ((c) < 97)) (k7 true) <|
  sidx sx x2 fun c10 =>
  k7 (decide ((c10) > 122))) <|
  fun (x5 : Bool) =>
  br (x5) (Q false) <|
  nx (wr (x2 + 1))) <|
  Q true) 0

def impl_IsSchema (sx : List Variable) (Q : Bool → Prop) : Prop :=
  jn (fun (k : Bool → Prop) => br (decide ((ln sx) < 1)) (k true) <|
  k (decide ((ln sx) > 6))) <|
  fun (x : Bool) =>
  br (x) (Q false) <|
  Loop1 (fun (x2 : Int) nx =>
  br (decide (x2 < (ln sx))) (idx sx x2 fun x7 =>
  jn (fun (k23 : Bool → Prop) => impl_isWord x7.Name fun r25 =>
  br (!r25) (k23 true) <|
  br (decide (x7.Levels < 2)) (k23 true) <|
  k23 (decide (x7.Levels > 8))) <|
  fun (x18 : Bool) =>
  br (x18) (Q false) <|
  (0 : Int) ≤ 0 ∧ 0 ≤ x2 ∧ x2 ≤ ln sx ∧ (
  Loop1 (fun (x46 : Int) nx54 =>
  br (decide (x46 < (ln (List.take (Int.toNat x2 - Int.toNat 0) (List.drop (Int.toNat 0) sx))))) (idx (List.take (Int.toNat x2 - Int.toNat 0) (List.drop (Int.toNat 0) sx)) x46 fun x56 =>
  br (streq x56.Name x7.Name) (Q false) <|
  nx54 (wr (x46 + 1))) <|
  nx (wr (x2 + 1))) 0)) <|
  Q true) 0

def impl_combinations (sx : List Variable) (Q : Int → Prop) : Prop :=
  Loop2 (fun (n : Int) (x : Int) nx =>
  br (decide (x < (ln sx))) (idx sx x fun x3 =>
  nx (wr (n * x3.Levels)) (wr (x + 1))) <|
  Q n) 1 0

def impl_isSmall (sx : List Variable) (Q : Bool → Prop) : Prop :=
  jn (fun (k : Bool → Prop) => impl_IsSchema sx fun r2 =>
  br (r2) (impl_combinations sx fun r5 =>
  k (decide (r5 ≤ 100))) <|
  k false) <|
  fun (x : Bool) =>
  Q x

def impl_fullSet (vx : Variable) (Q : Int → Prop) : Prop :=
  (0 : Int) ≤ vx.Levels ∧ (
  Q (wr ((shl .i64 1 vx.Levels) - 1)))

def impl_isEdit (sx : List Variable) (ex1 : Edit) (Q : Bool → Prop) : Prop :=
  br ((ln ex1.Sets) != (ln sx)) (Q false) <|
  Loop1 (fun (x10 : Int) nx =>
  br (decide (x10 < (ln ex1.Sets))) (idx ex1.Sets x10 fun x19 =>
  jn (fun (k : Bool → Prop) => br (decide (x19 < 1)) (k true) <|
  idx sx x10 fun x31 =>
  impl_fullSet x31 fun r40 =>
  k (decide (x19 > r40))) <|
  fun (x25 : Bool) =>
  br (x25) (Q false) <|
  nx (wr (x10 + 1))) <|
  Q true) 0

def impl_areEdits (sx : List Variable) (l : List Edit) (Q : Bool → Prop) : Prop :=
  br (decide ((ln l) > 40)) (Q false) <|
  Loop1 (fun (x : Int) nx =>
  br (decide (x < (ln l))) (idx l x fun x11 =>
  impl_isEdit sx ((Edit.mk x11.Sets)) fun r30 =>
  br (!r30) (Q false) <|
  nx (wr (x + 1))) <|
  Q true) 0

def impl_areValues (sx : List Variable) (values : List Int) (Q : Bool → Prop) : Prop :=
  br ((ln values) != (ln sx)) (Q false) <|
  Loop1 (fun (x : Int) nx =>
  br (decide (x < (ln values))) (idx values x fun x8 =>
  jn (fun (k : Bool → Prop) => br (decide (x8 < 0)) (k true) <|
  idx sx x fun x17 =>
  k (decide (x8 ≥ x17.Levels))) <|
  fun (x14 : Bool) =>
  br (x14) (Q false) <|
  nx (wr (x + 1))) <|
  Q true) 0

def impl_areVars (sx : List Variable) (vars : List Int) (Q : Bool → Prop) : Prop :=
  Loop2 (fun (last : Int) (x : Int) nx =>
  br (decide (x < (ln vars))) (idx vars x fun x7 =>
  jn (fun (k : Bool → Prop) => br (decide (x7 ≤ last)) (k true) <|
  k (decide (x7 ≥ (ln sx)))) <|
  fun (x13 : Bool) =>
  br (x13) (Q false) <|
  nx x7 (wr (x + 1))) <|
  Q true) ((-1)) 0

def slices_Index_int_int (sx : List Int) (vx1 : Int) (Q : Int → Prop) : Prop :=
  Loop1 (fun (x : Int) nx =>
  br (decide (x < (ln sx))) (idx sx x fun x2 =>
  br (vx1 == x2) (Q x) <|
  nx (wr (x + 1))) <|
  Q ((-1))) 0

def slices_Contains_int_int (sx : List Int) (vx1 : Int) (Q : Bool → Prop) : Prop :=
  slices_Index_int_int sx vx1 fun r2 =>
  Q (decide (r2 ≥ 0))

def impl_otherVars (sx : List Variable) (vars : List Int) (Q : (List Int) → Prop) : Prop :=
  Loop2 (fun (out : List Int) (x : Int) nx =>
  br (decide (x < (ln sx))) (jn (fun (k : (List Int) → Prop) => slices_Contains_int_int vars x fun r26 =>
  br (!r26) ((ln out + ln ([x])) * 8 ≤ 140737488355328 ∧ (
  k (out ++ ([x])))) <|
  k out) <|
  fun (out14 : List Int) =>
  nx out14 (wr (x + 1))) <|
  Q out) ([]) 0

def impl_valuesAt (sx : List Variable) (i : Int) (Q : (List Int) → Prop) : Prop :=
  (0 : Int) ≤ (ln sx) ∧ 8 * (ln sx) ≤ 140737488355328 ∧ (
  Loop3 (fun (i6 : Int) (values : List Int) (k : Int) nx =>
  br (decide (k ≥ 0)) (idx sx k fun x18 =>
  x18.Levels ≠ 0 ∧ (
  (0 : Int) ≤ k ∧ Int.toNat k < List.length values ∧ (
  idx sx k fun x29 =>
  x29.Levels ≠ 0 ∧ (
  nx (wr (Int.tdiv i6 x29.Levels)) (List.set values (Int.toNat k) (Int.tmod i6 x18.Levels)) (wr (k - 1)))))) <|
  Q values) i (List.replicate (Int.toNat (ln sx)) ((0 : Int))) (wr ((ln sx) - 1)))

def impl_fails (ex : Edit) (values : List Int) (Q : Bool → Prop) : Prop :=
  Loop1 (fun (x9 : Int) nx =>
  br (decide (x9 < (ln values))) (idx values x9 fun x11 =>
  idx ex.Sets x9 fun x18 =>
  (0 : Int) ≤ x11 ∧ (
  br ((bits .and .i64 (shr .i64 x18 x11) 1) == 0) (Q false) <|
  nx (wr (x9 + 1)))) <|
  Q true) 0

def impl_failsOne (l : List Edit) (values : List Int) (Q : Bool → Prop) : Prop :=
  Loop1 (fun (x : Int) nx =>
  br (decide (x < (ln l))) (idx l x fun x10 =>
  impl_fails ((Edit.mk x10.Sets)) values fun r29 =>
  br (r29) (Q true) <|
  nx (wr (x + 1))) <|
  Q false) 0

def impl_completionOf_1 (c : List Int) (c2 : List Int) (c10 : List Int) (c19 : List Int) (Q : Bool → (List Int) → Prop) : Prop :=
  Loop1 (fun (x : Int) nx =>
  br (decide (x < (ln c2))) (idx c2 x fun x51 =>
  idx c x51 fun x58 =>
  idx c10 x51 fun x67 =>
  br (x58 != x67) (Q true c19) <|
  nx (wr (x + 1))) <|
  (0 : Int) < ln c ∧ Q false c) 0

def impl_passing_impl_completionOf_1 (sx : List Variable) (l : List Edit) (c7 : List Int) (c15 : List Int) (c24 : List Int) (Q : (List Int) → Prop) : Prop :=
  impl_combinations sx fun r46 =>
  Loop2 (fun (x47 : Int) (x48 : List Int) nx =>
  br (decide (x47 < r46)) (impl_valuesAt sx x47 fun r80 =>
  jn (fun (k : Bool → (List Int) → Prop) => impl_failsOne l r80 fun r116 =>
  br (!r116) (impl_completionOf_1 r80 c7 c15 x48 fun r121 r122 =>
  k (!r121) r122) <|
  k false x48) <|
  fun (x90 : Bool) (x91 : List Int) =>
  br (x90) (Q x91) <|
  nx (wr (x47 + 1)) x91) <|
  Q x48) 0 c24

def impl_completionOf (sx : List Variable) (l : List Edit) (fixed : List Int) (values : List Int) (Q : (List Int) → Prop) : Prop :=
  impl_passing_impl_completionOf_1 sx l fixed values ([]) fun r35 =>
  Q r35

def impl_IsCover (sx : List Variable) (l : List Edit) (values : List Int) (vars : List Int) (Q : Bool → Bool → Prop) : Prop :=
  jn (fun (k : Bool → Prop) => impl_isSmall sx fun r24 =>
  br (!r24) (k true) <|
  impl_areEdits sx l fun r32 =>
  br (!r32) (k true) <|
  impl_areValues sx values fun r43 =>
  br (!r43) (k true) <|
  impl_areVars sx vars fun r54 =>
  k (!r54)) <|
  fun (x : Bool) =>
  br (x) (Q false false) <|
  impl_otherVars sx vars fun r65 =>
  impl_completionOf sx l r65 values fun r73 =>
  Q (!(ln r73 == 0)) true

def laws_eqVariable (a : Variable) (b : Variable) (Q : Bool → Prop) : Prop :=
  br (!streq a.Name b.Name) (Q false) <|
  br (a.Levels != b.Levels) (Q false) <|
  Q true

def laws_eqVariableS (a : List Variable) (b : List Variable) (Q : Bool → Prop) : Prop :=
  br ((ln a) != (ln b)) (Q false) <|
  Loop1 (fun (i : Int) nx =>
  br (decide (i < (ln a))) (idx a i fun x =>
  idx b i fun x17 =>
  det1 (laws_eqVariable x x17) fun r26 =>
  br (!r26) (Q false) <|
  nx (wr (i + 1))) <|
  Q true) 0

def laws_eqIntS (a : List Int) (b : List Int) (Q : Bool → Prop) : Prop :=
  br ((ln a) != (ln b)) (Q false) <|
  Loop1 (fun (i : Int) nx =>
  br (decide (i < (ln a))) (idx a i fun x =>
  idx b i fun x17 =>
  br (x != x17) (Q false) <|
  nx (wr (i + 1))) <|
  Q true) 0

def laws_eqEdit (a : Edit) (b : Edit) (Q : Bool → Prop) : Prop :=
  laws_eqIntS a.Sets b.Sets fun r16 =>
  br (!r16) (Q false) <|
  Q true

def laws_eqEditS (a : List Edit) (b : List Edit) (Q : Bool → Prop) : Prop :=
  br ((ln a) != (ln b)) (Q false) <|
  Loop1 (fun (i : Int) nx =>
  br (decide (i < (ln a))) (idx a i fun x =>
  idx b i fun x25 =>
  det1 (laws_eqEdit x x25) fun r43 =>
  br (!r43) (Q false) <|
  nx (wr (i + 1))) <|
  Q true) 0

def laws_FnExactIsCover (aS : List Variable) (aL : List Edit) (aValues : List Int) (aVars : List Int) (Q : Bool → Prop) : Prop :=
  br (decide ((ln aValues) > 1048576)) (Q true) <|
  br (decide ((ln aVars) > 1048576)) (Q true) <|
  laws_szVariableS aS 1048576 fun r20 =>
  br (decide (r20 < 0)) (Q true) <|
  laws_szEditS aL r20 fun r23 =>
  br (decide (r23 < 0)) (Q true) <|
  laws_toVariableS aS fun r29 =>
  laws_toEditS aL fun r38 =>
  laws_toIntS aValues fun r49 =>
  laws_toIntS aVars fun r60 =>
  spec_IsCover r29 r38 r49 r60 fun r71 r72 =>
  laws_toVariableS aS fun r78 =>
  laws_toEditS aL fun r89 =>
  laws_toIntS aValues fun r100 =>
  laws_toIntS aVars fun r111 =>
  impl_IsCover r78 r89 r100 r111 fun r122 r123 =>
  jn (fun (k : Bool → Prop) => br (r122 != r71) (k true) <|
  k (r123 != r72)) <|
  fun (x129 : Bool) =>
  br (x129) (Q false) <|
  laws_toVariableS aS fun r134 =>
  laws_eqVariableS r78 r134 fun r145 =>
  br (!r145) (Q false) <|
  laws_toEditS aL fun r151 =>
  laws_eqEditS r89 r151 fun r162 =>
  br (!r162) (Q false) <|
  laws_toIntS aValues fun r168 =>
  laws_eqIntS r100 r168 fun r179 =>
  br (!r179) (Q false) <|
  laws_toIntS aVars fun r185 =>
  laws_eqIntS r111 r185 fun r196 =>
  br (!r196) (Q false) <|
  Q true

def spec_EliminateVariable (sx : List Variable) (l : List Edit) (vx7 : Int) (Q : (List Edit) → Bool → Prop) : Prop :=
  jn (fun (k : Bool → Prop) => spec_eSmall sx l fun r11 =>
  br (!r11) (k true) <|
  spec_l1In vx7 0 (wr ((ln sx) - 1)) fun r17 =>
  k (!r17)) <|
  fun (x : Bool) =>
  br (x) (Q ([]) false) <|
  spec_eMaximal sx l vx7 fun r24 =>
  Q r24 true

def impl_failing (sx : List Variable) (l : List Edit) (Q : (List Bool) → Prop) : Prop :=
  impl_combinations sx fun r7 =>
  (0 : Int) ≤ r7 ∧ 1 * r7 ≤ 140737488355328 ∧ (
  Loop2 (fun (out : List Bool) (x20 : Int) nx =>
  br (decide (x20 < (ln (List.replicate (Int.toNat r7) false)))) (impl_valuesAt sx x20 fun r33 =>
  impl_failsOne l r33 fun r43 =>
  (0 : Int) ≤ x20 ∧ Int.toNat x20 < List.length out ∧ (
  nx (List.set out (Int.toNat x20) r43) (wr (x20 + 1)))) <|
  Q out) (List.replicate (Int.toNat r7) false) 0)

def impl_editKey (sx : List Variable) (sets : List Int) (Q : Int → Prop) : Prop :=
  Loop2 (fun (key : Int) (x : Int) nx =>
  br (decide (x < (ln sets))) (idx sets x fun x7 =>
  idx sx x fun x13 =>
  (0 : Int) ≤ x13.Levels ∧ (
  nx (bits .or .i64 (shl .i64 key x13.Levels) x7) (wr (x + 1)))) <|
  Q key) 0 0

def slices_Clone_int_int (sx : List Int) (Q : (List Int) → Prop) : Prop :=
  nilq sx fun z =>
  br (z) (Q ([])) <|
  (ln (([] : List Int)) + ln sx) * 8 ≤ 140737488355328 ∧ (
  Q ((([] : List Int)) ++ sx))

def impl_maximalEdits_1 (sets : List Int) (c1 : List (Int × Bool)) (c8 : List Variable) (c17 : List Edit) (Q : (List (Int × Bool)) → (List Edit) → Prop) : Prop :=
  det1 (impl_editKey c8 sets) fun r44 =>
  slices_Clone_int_int sets fun r58 =>
  (ln c17 + ln ([((Edit.mk r58) : Edit)])) * 24 ≤ 140737488355328 ∧ (
  Q (mput c1 r44 true) (c17 ++ ([((Edit.mk r58) : Edit)])))

def impl_impliedIn_impl_maximalEdits_1 (sx : List Variable) (inx : List Bool) (vx7 : Int) (sets : List Int) (c14 : List (Int × Bool)) (c21 : List Variable) (c30 : List Edit) (Q : (List (Int × Bool)) → (List Edit) → Prop) : Prop :=
  Rec7 (fun (self : (List Variable) → (List Bool) → Int → (List Int) → (List (Int × Bool)) → (List Variable) → (List Edit) → ((List (Int × Bool)) → (List Edit) → Prop) → Prop) (sx : List Variable) (inx : List Bool) (vx7 : Int) (sets : List Int) (c14 : List (Int × Bool)) (c21 : List Variable) (c30 : List Edit) (Q : (List (Int × Bool)) → (List Edit) → Prop) =>
  br ((ln sets) == (ln sx)) (jn (fun (k : (List (Int × Bool)) → (List Edit) → Prop) => idx inx 0 fun x84 =>
  br (x84) (impl_maximalEdits_1 sets c14 c21 c30 fun r92 r93 =>
  k r92 r93) <|
  k c14 c30) <|
  fun (mp : List (Int × Bool)) (x : List Edit) =>
  Q mp x) <|
  idx sx (ln sets) fun x112 =>
  x112.Levels ≠ 0 ∧ (
  jn (fun (k130 : Int → Prop) => br ((ln sets) == vx7) (idx sx (ln sets) fun x133 =>
  impl_fullSet x133 fun r142 =>
  k130 r142) <|
  k130 1) <|
  fun (least : Int) =>
  Loop3 (fun (setx : Int) (mp160 : List (Int × Bool)) (x165 : List Edit) nx =>
  idx sx (ln sets) fun x203 =>
  impl_fullSet x203 fun r212 =>
  br (decide (setx ≤ r212)) (jn (fun (k263 : (List (Int × Bool)) → (List Edit) → Prop) => (0 : Int) ≤ (wr (Int.tdiv (ln inx) x112.Levels)) ∧ 1 * (wr (Int.tdiv (ln inx) x112.Levels)) ≤ 140737488355328 ∧ (
  Loop3 (fun (rest : List Bool) (any : Bool) (x279 : Int) nx324 =>
  br (decide (x279 < (ln (List.replicate (Int.toNat (wr (Int.tdiv (ln inx) x112.Levels))) false)))) (jn (fun (k353 : (List Bool) → Bool → Prop) => (0 : Int) ≤ x279 ∧ Int.toNat x279 < List.length rest ∧ (
  idx sx (ln sets) fun x362 =>
  Loop2 (fun (rest370 : List Bool) (x376 : Int) nx410 =>
  br (decide (x376 < x362.Levels)) (jn (fun (k438 : (List Bool) → Prop) => idx rest370 x279 fun x440 =>
  br (x440) ((0 : Int) ≤ x376 ∧ (
  br ((bits .and .i64 (shr .i64 setx x376) 1) == 0) ((0 : Int) ≤ x279 ∧ Int.toNat x279 < List.length rest370 ∧ (
  k438 (List.set rest370 (Int.toNat x279) true))) <|
  idx inx (wr ((wr (x376 * (wr (Int.tdiv (ln inx) x112.Levels)))) + x279)) fun x473 =>
  (0 : Int) ≤ x279 ∧ Int.toNat x279 < List.length rest370 ∧ (
  k438 (List.set rest370 (Int.toNat x279) x473)))) <|
  (0 : Int) ≤ x279 ∧ Int.toNat x279 < List.length rest370 ∧ (
  k438 (List.set rest370 (Int.toNat x279) false))) <|
  fun (rest412 : List Bool) =>
  nx410 rest412 (wr (x376 + 1))) <|
  br (any) (k353 rest370 true) <|
  idx rest370 x279 fun x525 =>
  k353 rest370 x525) (List.set rest (Int.toNat x279) true) 0)) <|
  fun (rest326 : List Bool) (any332 : Bool) =>
  nx324 rest326 any332 (wr (x279 + 1))) <|
  br (any) ((ln sets + ln ([setx])) * 8 ≤ 140737488355328 ∧ (
  self sx rest vx7 (sets ++ ([setx])) mp160 c21 x165 fun r566 r567 =>
  k263 r566 r567)) <|
  k263 mp160 x165) (List.replicate (Int.toNat (wr (Int.tdiv (ln inx) x112.Levels))) false) false 0)) <|
  fun (mp221 : List (Int × Bool)) (x226 : List Edit) =>
  nx (wr (setx + 1)) mp221 x226) <|
  Q mp160 x165) least c14 c30)) sx inx vx7 sets c14 c21 c30 Q

def impl_canGrow (sx : List Variable) (implied : List (Int × Bool)) (ex5 : Edit) (Q : Bool → Prop) : Prop :=
  slices_Clone_int_int ex5.Sets fun r14 =>
  Loop2 (fun (sets : List Int) (x29 : Int) nx =>
  br (decide (x29 < (ln r14))) (idx sx x29 fun x42 =>
  Loop2 (fun (sets47 : List Int) (x53 : Int) nx63 =>
  br (decide (x53 < x42.Levels)) (jn (fun (k : (List Int) → Prop) => idx sets47 x29 fun x77 =>
  (0 : Int) ≤ x53 ∧ (
  br ((bits .and .i64 (shr .i64 x77 x53) 1) == 1) (k sets47) <|
  idx sets47 x29 fun x89 =>
  (0 : Int) ≤ x53 ∧ (
  (0 : Int) ≤ x29 ∧ Int.toNat x29 < List.length sets47 ∧ (
  impl_editKey sx (List.set sets47 (Int.toNat x29) (bits .or .i64 x89 (shl .i64 1 x53))) fun r111 =>
  idx (List.set sets47 (Int.toNat x29) (bits .or .i64 x89 (shl .i64 1 x53))) x29 fun x118 =>
  (0 : Int) ≤ x53 ∧ (
  (0 : Int) ≤ x29 ∧ Int.toNat x29 < List.length (List.set sets47 (Int.toNat x29) (bits .or .i64 x89 (shl .i64 1 x53))) ∧ (
  br (mget implied r111 false) (Q true) <|
  k (List.set (List.set sets47 (Int.toNat x29) (bits .or .i64 x89 (shl .i64 1 x53))) (Int.toNat x29) (bits .andNot .i64 x118 (shl .i64 1 x53))))))))) <|
  fun (sets65 : List Int) =>
  nx63 sets65 (wr (x53 + 1))) <|
  nx sets47 (wr (x29 + 1))) sets 0) <|
  Q false) r14 0

def impl_maximalEdits (sx : List Variable) (l : List Edit) (vx7 : Int) (Q : (List Edit) → Prop) : Prop :=
  impl_failing sx l fun r33 =>
  impl_impliedIn_impl_maximalEdits_1 sx r33 vx7 ([]) (([] : List (Int × Bool))) sx ([]) fun r56 r57 =>
  Loop2 (fun (out : List Edit) (x95 : Int) nx =>
  br (decide (x95 < (ln r57))) (jn (fun (k : (List Edit) → Prop) => idx r57 x95 fun x152 =>
  impl_canGrow sx r56 ((Edit.mk x152.Sets)) fun r179 =>
  br (!r179) ((ln out + ln ([((Edit.mk x152.Sets) : Edit)])) * 24 ≤ 140737488355328 ∧ (
  k (out ++ ([((Edit.mk x152.Sets) : Edit)])))) <|
  k out) <|
  fun (out125 : List Edit) =>
  nx out125 (wr (x95 + 1))) <|
  Q out) ([]) 0

def impl_EliminateVariable (sx : List Variable) (l : List Edit) (vx7 : Int) (Q : (List Edit) → Bool → Prop) : Prop :=
  jn (fun (k : Bool → Prop) => impl_isSmall sx fun r11 =>
  br (!r11) (k true) <|
  impl_areEdits sx l fun r17 =>
  br (!r17) (k true) <|
  br (decide (vx7 < 0)) (k true) <|
  k (decide (vx7 ≥ (ln sx)))) <|
  fun (x : Bool) =>
  br (x) (Q ([]) false) <|
  impl_maximalEdits sx l vx7 fun r34 =>
  Q r34 true

def laws_markText (k : Int) (Q : ByteArray → Prop) : Prop :=
  br (decide (k ≤ 0)) (Q ((ByteArray.mk #[109, 48]))) <|
  Loop2 (fun (k1 : Int) (out : ByteArray) nx =>
  br (decide (k1 > 0)) (sln (b2s ([(B8.mk (IntKind.u8.wrap (wr (48 + (Int.tmod k1 10)))))])) + sln out ≤ 9223372036854775807 ∧ (
  nx (wr (Int.tdiv k1 10)) ((b2s ([(B8.mk (IntKind.u8.wrap (wr (48 + (Int.tmod k1 10)))))])) ++ out))) <|
  sln ((ByteArray.mk #[109])) + sln out ≤ 9223372036854775807 ∧ (
  Q (((ByteArray.mk #[109])) ++ out))) k ((ByteArray.mk #[]))

def laws_markVariableS (a : List Variable) (k : Int) (Q : Int → (List Variable) → Prop) : Prop :=
  Loop3 (fun (a2 : List Variable) (k6 : Int) (i : Int) nx =>
  br (decide (i < (ln a))) (laws_markText k6 fun r8 =>
  idx a2 i fun x10 =>
  idx (List.set a2 (Int.toNat i) ({x10 with Name := r8} : Variable)) i fun x18 =>
  nx (List.set (List.set a2 (Int.toNat i) ({x10 with Name := r8} : Variable)) (Int.toNat i) ({x18 with Levels := wr (k6 + 1)} : Variable)) (wr ((wr (k6 + 1)) + 1)) (wr (i + 1))) <|
  Q k6 a2) a k 0

def laws_markIntS (a : List Int) (k : Int) (Q : Int → (List Int) → Prop) : Prop :=
  Loop3 (fun (a2 : List Int) (k6 : Int) (i : Int) nx =>
  br (decide (i < (ln a))) ((0 : Int) ≤ i ∧ Int.toNat i < List.length a2 ∧ (
  nx (List.set a2 (Int.toNat i) k6) (wr (k6 + 1)) (wr (i + 1)))) <|
  Q k6 a2) a k 0

def laws_markEditS (a : List Edit) (k : Int) (Q : Int → (List Edit) → Prop) : Prop :=
  Loop3 (fun (a2 : List Edit) (k6 : Int) (i : Int) nx =>
  br (decide (i < (ln a))) (idx a2 i fun x =>
  laws_markIntS x.Sets k6 fun r21 r22 =>
  nx (List.set a2 (Int.toNat i) ({x with Sets := r22} : Edit)) r21 (wr (i + 1))) <|
  Q k6 a2) a k 0

def laws_heldIntS (a : List Int) (k : Int) (Q : Int → Prop) : Prop :=
  Loop2 (fun (k2 : Int) (i : Int) nx =>
  br (decide (i < (ln a))) (idx a i fun x =>
  br (x != k2) (Q ((-1))) <|
  nx (wr (k2 + 1)) (wr (i + 1))) <|
  Q k2) k 0

def laws_heldEditS (a : List Edit) (k : Int) (Q : Int → Prop) : Prop :=
  Loop2 (fun (k2 : Int) (i : Int) nx =>
  br (decide (i < (ln a))) (idx a i fun x =>
  laws_heldIntS x.Sets k2 fun r12 =>
  br (decide (r12 < 0)) (Q ((-1))) <|
  nx r12 (wr (i + 1))) <|
  Q k2) k 0

def laws_FnExactEliminateVariable (aS : List Variable) (aL : List Edit) (aV : Int) (Q : Bool → Prop) : Prop :=
  laws_szVariableS aS 1048576 fun r7 =>
  br (decide (r7 < 0)) (Q true) <|
  laws_szEditS aL r7 fun r9 =>
  br (decide (r9 < 0)) (Q true) <|
  laws_toVariableS aS fun r15 =>
  laws_toEditS aL fun r24 =>
  spec_EliminateVariable r15 r24 aV fun r35 r36 =>
  laws_toVariableS aS fun r47 =>
  laws_toEditS aL fun r58 =>
  impl_EliminateVariable r47 r58 aV fun r69 r70 =>
  jn (fun (k : Bool → Prop) => laws_eqEditS r69 r35 fun r90 =>
  br (!r90) (k true) <|
  k (r70 != r36)) <|
  fun (x81 : Bool) =>
  br (x81) (Q false) <|
  laws_toVariableS aS fun r110 =>
  laws_eqVariableS r47 r110 fun r120 =>
  br (!r120) (Q false) <|
  laws_toEditS aL fun r126 =>
  laws_eqEditS r58 r126 fun r137 =>
  br (!r137) (Q false) <|
  laws_markVariableS r47 1 fun r143 r144 =>
  laws_markEditS r58 r143 fun r151 r152 =>
  jn (fun (k167 : Bool → Prop) => br (decide (r151 < 0)) (k167 true) <|
  laws_eqEditS r69 r35 fun r182 =>
  br (!r182) (k167 true) <|
  k167 (r70 != r36)) <|
  fun (x160 : Bool) =>
  br (x160) (Q false) <|
  laws_markEditS r69 1 fun r212 r213 =>
  laws_heldEditS r213 1 fun r220 =>
  br (decide (r220 < 0)) (Q false) <|
  br (r220 != r212) (Q false) <|
  laws_toVariableS aS fun r231 =>
  laws_toEditS aL fun r243 =>
  impl_EliminateVariable r231 r243 aV fun r255 r256 =>
  jn (fun (k271 : Bool → Prop) => laws_eqEditS r255 r35 fun r273 =>
  br (!r273) (k271 true) <|
  k271 (r256 != r36)) <|
  fun (x267 : Bool) =>
  br (x267) (Q false) <|
  laws_heldEditS r213 1 fun r288 =>
  br (decide (r288 < 0)) (Q false) <|
  br (r288 != r212) (Q false) <|
  Q true

def spec_MaximalEdits (sx : List Variable) (l : List Edit) (Q : (List Edit) → Bool → Prop) : Prop :=
  spec_eSmall sx l fun r7 =>
  br (!r7) (Q ([]) false) <|
  spec_eMaximal sx l ((-1)) fun r9 =>
  Q r9 true

def impl_MaximalEdits (sx : List Variable) (l : List Edit) (Q : (List Edit) → Bool → Prop) : Prop :=
  jn (fun (k : Bool → Prop) => impl_isSmall sx fun r10 =>
  br (!r10) (k true) <|
  impl_areEdits sx l fun r16 =>
  k (!r16)) <|
  fun (x : Bool) =>
  br (x) (Q ([]) false) <|
  impl_maximalEdits sx l ((-1)) fun r25 =>
  Q r25 true

def laws_FnExactMaximalEdits (aS : List Variable) (aL : List Edit) (Q : Bool → Prop) : Prop :=
  laws_szVariableS aS 1048576 fun r7 =>
  br (decide (r7 < 0)) (Q true) <|
  laws_szEditS aL r7 fun r9 =>
  br (decide (r9 < 0)) (Q true) <|
  laws_toVariableS aS fun r15 =>
  laws_toEditS aL fun r24 =>
  spec_MaximalEdits r15 r24 fun r35 r36 =>
  laws_toVariableS aS fun r47 =>
  laws_toEditS aL fun r58 =>
  impl_MaximalEdits r47 r58 fun r69 r70 =>
  jn (fun (k : Bool → Prop) => laws_eqEditS r69 r35 fun r90 =>
  br (!r90) (k true) <|
  k (r70 != r36)) <|
  fun (x81 : Bool) =>
  br (x81) (Q false) <|
  laws_toVariableS aS fun r110 =>
  laws_eqVariableS r47 r110 fun r120 =>
  br (!r120) (Q false) <|
  laws_toEditS aL fun r126 =>
  laws_eqEditS r58 r126 fun r137 =>
  br (!r137) (Q false) <|
  laws_markVariableS r47 1 fun r143 r144 =>
  laws_markEditS r58 r143 fun r151 r152 =>
  jn (fun (k167 : Bool → Prop) => br (decide (r151 < 0)) (k167 true) <|
  laws_eqEditS r69 r35 fun r182 =>
  br (!r182) (k167 true) <|
  k167 (r70 != r36)) <|
  fun (x160 : Bool) =>
  br (x160) (Q false) <|
  laws_markEditS r69 1 fun r212 r213 =>
  laws_heldEditS r213 1 fun r220 =>
  br (decide (r220 < 0)) (Q false) <|
  br (r220 != r212) (Q false) <|
  laws_toVariableS aS fun r231 =>
  laws_toEditS aL fun r243 =>
  impl_MaximalEdits r231 r243 fun r255 r256 =>
  jn (fun (k271 : Bool → Prop) => laws_eqEditS r255 r35 fun r273 =>
  br (!r273) (k271 true) <|
  k271 (r256 != r36)) <|
  fun (x267 : Bool) =>
  br (x267) (Q false) <|
  laws_heldEditS r213 1 fun r288 =>
  br (decide (r288 < 0)) (Q false) <|
  br (r288 != r212) (Q false) <|
  Q true

def spec_EditsOnly (sx : List Variable) (l : List Edit) (vars : List Int) (Q : (List Edit) → Bool → Prop) : Prop :=
  jn (fun (k : Bool → Prop) => spec_eSmall sx l fun r17 =>
  br (!r17) (k true) <|
  spec_l1Rising vars 0 (wr ((ln sx) - 1)) fun r24 =>
  k (!r24)) <|
  fun (x : Bool) =>
  br (x) (Q ([]) false) <|
  spec_eMaximal sx l ((-1)) fun r33 =>
  Loop2 (fun (out : List Edit) (x50 : Int) nx =>
  br (decide (x50 < (ln r33))) (jn (fun (k87 : (List Edit) → Prop) => idx r33 x50 fun x89 =>
  spec_eInvolved sx ((Edit.mk x89.Sets)) fun r112 =>
  Loop2 (fun (inx : Bool) (x124 : Int) nx145 =>
  br (decide (x124 < (ln r112))) (jn (fun (k157 : Bool → Prop) => idx r112 x124 fun x159 =>
  br (inx) (spec_l1Has vars x159 fun r168 =>
  k157 r168) <|
  k157 false) <|
  fun (inx147 : Bool) =>
  nx145 inx147 (wr (x124 + 1))) <|
  br (inx) ((ln out + ln ([((Edit.mk x89.Sets) : Edit)])) * 24 ≤ 140737488355328 ∧ (
  k87 (out ++ ([((Edit.mk x89.Sets) : Edit)])))) <|
  k87 out) true 0) <|
  fun (out66 : List Edit) =>
  nx out66 (wr (x50 + 1))) <|
  Q out true) ([]) 0

def impl_involvedIn (sx : List Variable) (ex1 : Edit) (Q : (List Int) → Prop) : Prop :=
  Loop2 (fun (vars : List Int) (x13 : Int) nx =>
  br (decide (x13 < (ln ex1.Sets))) (jn (fun (k : (List Int) → Prop) => idx ex1.Sets x13 fun x38 =>
  idx sx x13 fun x45 =>
  impl_fullSet x45 fun r54 =>
  br (x38 != r54) ((ln vars + ln ([x13])) * 8 ≤ 140737488355328 ∧ (
  k (vars ++ ([x13])))) <|
  k vars) <|
  fun (vars24 : List Int) =>
  nx vars24 (wr (x13 + 1))) <|
  Q vars) ([]) 0

def impl_EditsOnly (sx : List Variable) (l : List Edit) (vars : List Int) (Q : (List Edit) → Bool → Prop) : Prop :=
  jn (fun (k : Bool → Prop) => impl_isSmall sx fun r17 =>
  br (!r17) (k true) <|
  impl_areEdits sx l fun r24 =>
  br (!r24) (k true) <|
  impl_areVars sx vars fun r34 =>
  k (!r34)) <|
  fun (x : Bool) =>
  br (x) (Q ([]) false) <|
  impl_maximalEdits sx l ((-1)) fun r44 =>
  Loop2 (fun (out : List Edit) (x61 : Int) nx =>
  br (decide (x61 < (ln r44))) (jn (fun (k98 : (List Edit) → Prop) => idx r44 x61 fun x100 =>
  impl_involvedIn sx ((Edit.mk x100.Sets)) fun r123 =>
  Loop2 (fun (only : Bool) (x135 : Int) nx156 =>
  br (decide (x135 < (ln r123))) (jn (fun (k168 : Bool → Prop) => idx r123 x135 fun x170 =>
  br (only) (slices_Contains_int_int vars x170 fun r179 =>
  k168 r179) <|
  k168 false) <|
  fun (only158 : Bool) =>
  nx156 only158 (wr (x135 + 1))) <|
  br (only) ((ln out + ln ([((Edit.mk x100.Sets) : Edit)])) * 24 ≤ 140737488355328 ∧ (
  k98 (out ++ ([((Edit.mk x100.Sets) : Edit)])))) <|
  k98 out) true 0) <|
  fun (out77 : List Edit) =>
  nx out77 (wr (x61 + 1))) <|
  Q out true) ([]) 0

def laws_FnExactEditsOnly (aS : List Variable) (aL : List Edit) (aVars : List Int) (Q : Bool → Prop) : Prop :=
  br (decide ((ln aVars) > 1048576)) (Q true) <|
  laws_szVariableS aS 1048576 fun r13 =>
  br (decide (r13 < 0)) (Q true) <|
  laws_szEditS aL r13 fun r16 =>
  br (decide (r16 < 0)) (Q true) <|
  laws_toVariableS aS fun r22 =>
  laws_toEditS aL fun r31 =>
  laws_toIntS aVars fun r42 =>
  spec_EditsOnly r22 r31 r42 fun r53 r54 =>
  laws_toVariableS aS fun r66 =>
  laws_toEditS aL fun r77 =>
  laws_toIntS aVars fun r88 =>
  impl_EditsOnly r66 r77 r88 fun r99 r100 =>
  jn (fun (k : Bool → Prop) => laws_eqEditS r99 r53 fun r123 =>
  br (!r123) (k true) <|
  k (r100 != r54)) <|
  fun (x112 : Bool) =>
  br (x112) (Q false) <|
  laws_toVariableS aS fun r147 =>
  laws_eqVariableS r66 r147 fun r157 =>
  br (!r157) (Q false) <|
  laws_toEditS aL fun r163 =>
  laws_eqEditS r77 r163 fun r174 =>
  br (!r174) (Q false) <|
  laws_toIntS aVars fun r180 =>
  laws_eqIntS r88 r180 fun r191 =>
  br (!r191) (Q false) <|
  laws_markVariableS r66 1 fun r197 r198 =>
  laws_markEditS r77 r197 fun r205 r206 =>
  laws_markIntS r88 r205 fun r214 r215 =>
  jn (fun (k232 : Bool → Prop) => br (decide (r214 < 0)) (k232 true) <|
  laws_eqEditS r99 r53 fun r255 =>
  br (!r255) (k232 true) <|
  k232 (r100 != r54)) <|
  fun (x224 : Bool) =>
  br (x224) (Q false) <|
  laws_markEditS r99 1 fun r300 r301 =>
  laws_heldEditS r301 1 fun r308 =>
  br (decide (r308 < 0)) (Q false) <|
  br (r308 != r300) (Q false) <|
  laws_toVariableS aS fun r319 =>
  laws_toEditS aL fun r331 =>
  laws_toIntS aVars fun r343 =>
  impl_EditsOnly r319 r331 r343 fun r355 r356 =>
  jn (fun (k372 : Bool → Prop) => laws_eqEditS r355 r53 fun r374 =>
  br (!r374) (k372 true) <|
  k372 (r356 != r54)) <|
  fun (x368 : Bool) =>
  br (x368) (Q false) <|
  laws_heldEditS r301 1 fun r389 =>
  br (decide (r389 < 0)) (Q false) <|
  br (r389 != r300) (Q false) <|
  Q true

def spec_l1All (l : List Int) (lo : Int) (hi : Int) (Q : Bool → Prop) : Prop :=
  Loop1 (fun (x : Int) nx =>
  br (decide (x < (ln l))) (idx l x fun x3 =>
  spec_l1In x3 lo hi fun r10 =>
  br (!r10) (Q false) <|
  nx (wr (x + 1))) <|
  Q true) 0

def spec_iWeights (sx : List Variable) (wx : List Int) (Q : Bool → Prop) : Prop :=
  jn (fun (k : Bool → Prop) => br ((ln wx) == (ln sx)) (spec_l1All wx 1 100 fun r9 =>
  k r9) <|
  k false) <|
  fun (x : Bool) =>
  Q x

def spec_iInput (sx : List Variable) (l : List Edit) (wx : List Int) (values : List Int) (Q : Bool → Prop) : Prop :=
  jn (fun (k : Bool → Prop) => spec_eSmall sx l fun r21 =>
  br (r21) (spec_iWeights sx wx fun r24 =>
  br (r24) (spec_sFits sx values fun r30 =>
  k r30) <|
  k false) <|
  k false) <|
  fun (x : Bool) =>
  Q x

def spec_iBits (mask : Int) (Q : (List Int) → Prop) : Prop :=
  Loop2 (fun (out : List Int) (i : Int) nx =>
  (0 : Int) ≤ (IntKind.u64.wrap (i)) ∧ (
  br (decide ((shr .i64 mask (IntKind.u64.wrap (i))) > 0)) (jn (fun (k : (List Int) → Prop) => (0 : Int) ≤ (IntKind.u64.wrap (i)) ∧ (
  br ((bits .and .i64 (shr .i64 mask (IntKind.u64.wrap (i))) 1) == 1) ((ln out + ln ([i])) * 8 ≤ 140737488355328 ∧ (
  k (out ++ ([i])))) <|
  k out)) <|
  fun (out2 : List Int) =>
  nx out2 (wr (i + 1))) <|
  Q out)) ([]) 0

def spec_l1Least (a : Int) (b : Int) (Q : Int → Prop) : Prop :=
  br (decide (a < b)) (Q a) <|
  Q b

def spec_iLeast (wx : List Int) (vars : List Int) (Q : Int → Prop) : Prop :=
  idx vars 0 fun x =>
  idx wx x fun x12 =>
  Loop2 (fun (best : Int) (x21 : Int) nx =>
  br (decide (x21 < (ln vars))) (idx vars x21 fun x26 =>
  idx wx x26 fun x35 =>
  spec_l1Least best x35 fun r44 =>
  nx r44 (wr (x21 + 1))) <|
  Q best) x12 0

def spec_PackingBound (sx : List Variable) (l : List Edit) (weights : List Int) (values : List Int) (Q : Int → (List Int) → Bool → Prop) : Prop :=
  spec_iInput sx l weights values fun r19 =>
  br (!r19) (Q 0 ([]) false) <|
  spec_eMaximal sx l ((-1)) fun r21 =>
  Loop3 (fun (failed : List Int) (involved : List (List Int)) (x41 : Int) nx =>
  br (decide (x41 < (ln r21))) (jn (fun (k : (List Int) → (List (List Int)) → Prop) => idx r21 x41 fun x96 =>
  spec_eFails ((Edit.mk x96.Sets)) values fun r117 =>
  br (!r117) (k failed involved) <|
  spec_eInvolved sx ((Edit.mk x96.Sets)) fun r132 =>
  br ((ln r132) == 0) (Q 0 ([]) false) <|
  (ln failed + ln ([x41])) * 8 ≤ 140737488355328 ∧ (
  (ln involved + ln ([r132])) * 24 ≤ 140737488355328 ∧ (
  k (failed ++ ([x41])) (involved ++ ([r132]))))) <|
  fun (failed65 : List Int) (involved71 : List (List Int)) =>
  nx failed65 involved71 (wr (x41 + 1))) <|
  br (decide ((ln failed) > 12)) (Q 0 ([]) false) <|
  Loop3 (fun (best : Int) (out : List Int) (mask : Int) nx241 =>
  (0 : Int) ≤ (IntKind.u64.wrap (ln failed)) ∧ (
  br (decide (mask < (shl .i64 1 (IntKind.u64.wrap (ln failed))))) (jn (fun (k260 : Int → (List Int) → Prop) => spec_iBits mask fun r262 =>
  Loop5 (fun (sum : Int) (apart : Bool) (used : List Int) (list : List Int) (x282 : Int) nx313 =>
  br (decide (x282 < (ln r262))) (idx r262 x282 fun x315 =>
  jn (fun (k334 : Bool → Prop) => br (apart) (idx involved x315 fun x337 =>
  spec_iShares x337 used fun r349 =>
  k334 (!r349)) <|
  k334 false) <|
  fun (apart324 : Bool) =>
  idx involved x315 fun x360 =>
  (ln used + ln x360) * 8 ≤ 140737488355328 ∧ (
  idx involved x315 fun x382 =>
  spec_iLeast weights x382 fun r395 =>
  idx failed x315 fun x399 =>
  (ln list + ln ([x399])) * 8 ≤ 140737488355328 ∧ (
  nx313 (wr (sum + r395)) apart324 (used ++ x360) (list ++ ([x399])) (wr (x282 + 1))))) <|
  jn (fun (k447 : Bool → Prop) => br (apart) (k447 (decide (sum > best))) <|
  k447 false) <|
  fun (x445 : Bool) =>
  br (x445) (k260 sum list) <|
  k260 best out) 0 true ([]) ([]) 0) <|
  fun (best243 : Int) (out244 : List Int) =>
  nx241 best243 out244 (wr (mask + 1))) <|
  Q best out true)) 0 ([]) 0) ([]) ([]) 0

def impl_areWeights (sx : List Variable) (weights : List Int) (Q : Bool → Prop) : Prop :=
  br ((ln weights) != (ln sx)) (Q false) <|
  Loop1 (fun (x : Int) nx =>
  br (decide (x < (ln weights))) (idx weights x fun x8 =>
  jn (fun (k : Bool → Prop) => br (decide (x8 < 1)) (k true) <|
  k (decide (x8 > 100))) <|
  fun (x14 : Bool) =>
  br (x14) (Q false) <|
  nx (wr (x + 1))) <|
  Q true) 0

def impl_isMendable (sx : List Variable) (l : List Edit) (weights : List Int) (Q : Bool → Prop) : Prop :=
  jn (fun (k : Bool → Prop) => impl_isSmall sx fun r14 =>
  br (r14) (impl_areEdits sx l fun r17 =>
  br (r17) (impl_areWeights sx weights fun r23 =>
  k r23) <|
  k false) <|
  k false) <|
  fun (x : Bool) =>
  Q x

def impl_membersOf (mask : Int) (Q : (List Int) → Prop) : Prop :=
  Loop2 (fun (out : List Int) (i : Int) nx =>
  (0 : Int) ≤ i ∧ (
  br ((shr .i64 mask i) != 0) (jn (fun (k : (List Int) → Prop) => (0 : Int) ≤ i ∧ (
  br ((bits .and .i64 (shr .i64 mask i) 1) == 1) ((ln out + ln ([i])) * 8 ≤ 140737488355328 ∧ (
  k (out ++ ([i])))) <|
  k out)) <|
  fun (out2 : List Int) =>
  nx out2 (wr (i + 1))) <|
  Q out)) ([]) 0

def impl_PackingBound (sx : List Variable) (l : List Edit) (weights : List Int) (values : List Int) (Q : Int → (List Int) → Bool → Prop) : Prop :=
  jn (fun (k : Bool → Prop) => impl_isMendable sx l weights fun r24 =>
  br (!r24) (k true) <|
  impl_areValues sx values fun r32 =>
  k (!r32)) <|
  fun (x : Bool) =>
  br (x) (Q 0 ([]) false) <|
  impl_maximalEdits sx l ((-1)) fun r43 =>
  Loop4 (fun (failed : List Int) (bounds : List Int) (masks : List Int) (x66 : Int) nx =>
  br (decide (x66 < (ln r43))) (jn (fun (k143 : (List Int) → (List Int) → (List Int) → Prop) => idx r43 x66 fun x145 =>
  impl_fails ((Edit.mk x145.Sets)) values fun r166 =>
  br (!r166) (k143 failed bounds masks) <|
  impl_involvedIn sx ((Edit.mk x145.Sets)) fun r182 =>
  Loop3 (fun (bound : Int) (mask : Int) (x194 : Int) nx199 =>
  br (decide (x194 < (ln r182))) (idx r182 x194 fun x201 =>
  idx weights x201 fun x210 =>
  (0 : Int) ≤ x201 ∧ (
  nx199 (mn bound x210) (bits .or .i64 mask (shl .i64 1 x201)) (wr (x194 + 1)))) <|
  jn (fun (k222 : Bool → Prop) => br (mask == 0) (k222 true) <|
  k222 ((ln failed) == 12)) <|
  fun (x220 : Bool) =>
  br (x220) (Q 0 ([]) false) <|
  (ln failed + ln ([x66])) * 8 ≤ 140737488355328 ∧ (
  (ln bounds + ln ([bound])) * 8 ≤ 140737488355328 ∧ (
  (ln masks + ln ([mask])) * 8 ≤ 140737488355328 ∧ (
  k143 (failed ++ ([x66])) (bounds ++ ([bound])) (masks ++ ([mask])))))) 101 0 0) <|
  fun (failed98 : List Int) (bounds104 : List Int) (masks110 : List Int) =>
  nx failed98 bounds104 masks110 (wr (x66 + 1))) <|
  Loop3 (fun (best : Int) (chosen : Int) (setx : Int) nx326 =>
  (0 : Int) ≤ (ln failed) ∧ (
  br (decide (setx < (shl .i64 1 (ln failed)))) (jn (fun (k336 : Int → Int → Prop) => jn (fun (k343 : Int → Prop) => impl_membersOf setx fun r345 =>
  Loop3 (fun (sum355 : Int) (used : Int) (x356 : Int) nx361 =>
  br (decide (x356 < (ln r345))) (idx r345 x356 fun x363 =>
  idx masks x363 fun x372 =>
  br ((bits .and .i64 used x372) != 0) (k343 ((-1))) <|
  idx masks x363 fun x386 =>
  idx bounds x363 fun x395 =>
  nx361 (wr (sum355 + x395)) (bits .or .i64 used x386) (wr (x356 + 1))) <|
  k343 sum355) 0 0 0) <|
  fun (sum : Int) =>
  br (decide (sum > best)) (k336 sum setx) <|
  k336 best chosen) <|
  fun (best329 : Int) (chosen330 : Int) =>
  nx326 best329 chosen330 (wr (setx + 1))) <|
  impl_membersOf chosen fun r410 =>
  Loop2 (fun (indices : List Int) (x425 : Int) nx439 =>
  br (decide (x425 < (ln r410))) (idx r410 x425 fun x441 =>
  idx failed x441 fun x450 =>
  (ln indices + ln ([x450])) * 8 ≤ 140737488355328 ∧ (
  nx439 (indices ++ ([x450])) (wr (x425 + 1)))) <|
  Q best indices true) ([]) 0)) 0 0 1) ([]) ([]) ([]) 0

def laws_FnExactPackingBound (aS : List Variable) (aL : List Edit) (aWeights : List Int) (aValues : List Int) (Q : Bool → Prop) : Prop :=
  br (decide ((ln aWeights) > 1048576)) (Q true) <|
  br (decide ((ln aValues) > 1048576)) (Q true) <|
  laws_szVariableS aS 1048576 fun r20 =>
  br (decide (r20 < 0)) (Q true) <|
  laws_szEditS aL r20 fun r23 =>
  br (decide (r23 < 0)) (Q true) <|
  laws_toVariableS aS fun r29 =>
  laws_toEditS aL fun r38 =>
  laws_toIntS aWeights fun r49 =>
  laws_toIntS aValues fun r60 =>
  spec_PackingBound r29 r38 r49 r60 fun r71 r72 r73 =>
  laws_toVariableS aS fun r86 =>
  laws_toEditS aL fun r97 =>
  laws_toIntS aWeights fun r108 =>
  laws_toIntS aValues fun r119 =>
  impl_PackingBound r86 r97 r108 r119 fun r130 r131 r132 =>
  jn (fun (k : Bool → Prop) => br (r130 != r71) (k true) <|
  laws_eqIntS r131 r72 fun r169 =>
  br (!r169) (k true) <|
  k (r132 != r73)) <|
  fun (x145 : Bool) =>
  br (x145) (Q false) <|
  laws_toVariableS aS fun r197 =>
  laws_eqVariableS r86 r197 fun r207 =>
  br (!r207) (Q false) <|
  laws_toEditS aL fun r213 =>
  laws_eqEditS r97 r213 fun r224 =>
  br (!r224) (Q false) <|
  laws_toIntS aWeights fun r230 =>
  laws_eqIntS r108 r230 fun r241 =>
  br (!r241) (Q false) <|
  laws_toIntS aValues fun r247 =>
  laws_eqIntS r119 r247 fun r258 =>
  br (!r258) (Q false) <|
  laws_markVariableS r86 1 fun r264 r265 =>
  laws_markEditS r97 r264 fun r272 r273 =>
  laws_markIntS r108 r272 fun r281 r282 =>
  laws_markIntS r119 r281 fun r291 r292 =>
  jn (fun (k311 : Bool → Prop) => br (decide (r291 < 0)) (k311 true) <|
  br (r130 != r71) (k311 true) <|
  laws_eqIntS r131 r72 fun r375 =>
  br (!r375) (k311 true) <|
  k311 (r132 != r73)) <|
  fun (x302 : Bool) =>
  br (x302) (Q false) <|
  laws_markIntS r131 1 fun r439 r440 =>
  laws_heldIntS r440 1 fun r447 =>
  br (decide (r447 < 0)) (Q false) <|
  br (r447 != r439) (Q false) <|
  laws_toVariableS aS fun r458 =>
  laws_toEditS aL fun r470 =>
  laws_toIntS aWeights fun r482 =>
  laws_toIntS aValues fun r494 =>
  impl_PackingBound r458 r470 r482 r494 fun r506 r507 r508 =>
  jn (fun (k525 : Bool → Prop) => br (r506 != r71) (k525 true) <|
  laws_eqIntS r507 r72 fun r532 =>
  br (!r532) (k525 true) <|
  k525 (r508 != r73)) <|
  fun (x521 : Bool) =>
  br (x521) (Q false) <|
  laws_heldIntS r440 1 fun r547 =>
  br (decide (r547 < 0)) (Q false) <|
  br (r547 != r439) (Q false) <|
  Q true

end Go.Proofs.Ytdnpmgofkbjigaa
