/- What each Go function means: a definition over numbers and lists; Q: what is to hold of its results. -/
import Derived.Test.YtklajcbpnpkniaaLib
set_option linter.unusedVariables false
set_option autoImplicit false
namespace Go.Proofs.Ytklajcbpnpkniaa
open Go Go.RowKit Go.Gv

structure Variable where
  Name : ByteArray
  Levels : Int
instance : Wf Variable := ⟨fun x => Wf.wf x.Name ∧ Wf.wf x.Levels⟩
instance : Flat Variable where
  n := 2
  agg := true
  rd _ cs x := cs = [.string x.Name, I x.Levels]
  enc x := [.string x.Name, I x.Levels]
  len h := by subst h; rfl
  le _ h := h
  one h c hc := by subst h; simp at hc; rcases hc with rfl | rfl <;> rfl
  sing h := by cases h
  flat := Iff.rfl
theorem Variable_rv {h : PH} {v : Value} {x : Variable} (r : RV h v x) : v = .agg #[.string x.Name, I x.Levels] := by obtain ⟨cs, rfl, rfl⟩ := r; rfl
structure Edit where
  Sets : List Int
instance : Wf Edit := ⟨fun x => Wf.wf x.Sets⟩
instance : Deep Edit := Deep.via (fun x => x.Sets)
theorem Edit_rd {h : PH} {cs : List Value} {x : Edit} (r : Enc.rd h cs x) : ∃ u0, cs = [u0] ∧ RS h u0 x.Sets := by
  obtain ⟨u0, rfl, r0⟩ := r; exact ⟨_, rfl, r0⟩
theorem Edit_rv {h : PH} {v : Value} {x : Edit} (r : RV h v x) : ∃ u0, v = .agg #[u0] ∧ RS h u0 x.Sets := by
  obtain ⟨cs, hr, rfl⟩ := r; obtain ⟨u0, rfl, r0⟩ := Edit_rd hr; exact ⟨_, rfl, r0⟩
theorem Edit_tk {h : PH} {c : List Value} {x : Edit} (b : Deep.own h c x) : ∃ u, c = [u] ∧ OD h u x.Sets := by
  have o := b
  obtain ⟨u, rfl, q⟩ := o
  refine ⟨u, rfl, ?_⟩
  simpa only [emp_un, un_emp] using q
theorem Edit_bw0 {h hi rest : PH} {v : Value} {xs : List Edit} {i : Nat} {c : List Value} {x : Edit} (b : Bw h v xs i hi rest c x) : ∃ u0 hl rs, c = [u0] ∧ BwG h v xs hl rs u0 x.Sets (fun y => xs.set i {x with Sets := y}) := by
  have o := b.own
  obtain ⟨u0, rfl, q0⟩ := o
  exact ⟨_, _, _, rfl, b.fc (Fc.via (fun x : Edit => x.Sets) (Fc.here q0) fun _ => rfl)⟩
structure L1Cur where
  Code : List B8
  At : Int
  Seed : Int
structure ESearch where
  S : List Variable
  Passing : List (List Int)
  V : Int
  Out : List Edit
instance : Wf ESearch := ⟨fun x => Wf.wf x.S ∧ Wf.wf x.Passing ∧ Wf.wf x.V ∧ Wf.wf x.Out⟩
instance : Deep ESearch := Deep.via (fun x => (x.S, x.Passing, x.V, x.Out))
theorem ESearch_rd {h : PH} {cs : List Value} {x : ESearch} (r : Enc.rd h cs x) : ∃ u0 u1 u2, cs = [u0, u1, I x.V, u2] ∧ RS h u0 x.S ∧ RS h u1 x.Passing ∧ RS h u2 x.Out := by
  obtain ⟨_, _, rfl, ⟨u0, rfl, r0⟩, ⟨_, _, rfl, ⟨u1, rfl, r1⟩, ⟨_, _, rfl, rfl, ⟨u2, rfl, r2⟩⟩⟩⟩ := r; exact ⟨_, _, _, rfl, r0, r1, r2⟩
theorem ESearch_rv {h : PH} {v : Value} {x : ESearch} (r : RV h v x) : ∃ u0 u1 u2, v = .agg #[u0, u1, I x.V, u2] ∧ RS h u0 x.S ∧ RS h u1 x.Passing ∧ RS h u2 x.Out := by
  obtain ⟨cs, hr, rfl⟩ := r; obtain ⟨u0, u1, u2, rfl, r0, r1, r2⟩ := ESearch_rd hr; exact ⟨_, _, _, rfl, r0, r1, r2⟩
theorem ESearch_bw0 {h hi rest : PH} {v : Value} {xs : List ESearch} {i : Nat} {c : List Value} {x : ESearch} (b : Bw h v xs i hi rest c x) : ∃ u0 u1 u2 hl rs, c = [u0, u1, I x.V, u2] ∧ BwG h v xs hl rs u0 x.S (fun y => xs.set i {x with S := y}) := by
  have o := b.own
  obtain ⟨_, _, _, _, rfl, rfl, d0, p0, n0⟩ := o
  obtain ⟨u0, rfl, q0⟩ := p0
  obtain ⟨_, _, _, _, rfl, rfl, d1, p1, n1⟩ := n0
  obtain ⟨u1, rfl, q1⟩ := p1
  obtain ⟨_, _, _, _, rfl, rfl, d2, p2, n2⟩ := n1
  obtain ⟨rfl, rfl⟩ := own_flat p2
  obtain ⟨u2, rfl, q2⟩ := n2
  exact ⟨_, _, _, _, _, rfl, b.fc (Fc.via (fun x : ESearch => (x.S, x.Passing, x.V, x.Out)) (Fc.left (Fc.here q0) ⟨[u1], [I x.V, u2], _, _, rfl, rfl, d1, ⟨u1, rfl, q1⟩, ⟨[I x.V], [u2], _, _, rfl, rfl, d2, (flat_own x.V), ⟨u2, rfl, q2⟩⟩⟩ d0) fun _ => rfl)⟩
theorem ESearch_bw1 {h hi rest : PH} {v : Value} {xs : List ESearch} {i : Nat} {c : List Value} {x : ESearch} (b : Bw h v xs i hi rest c x) : ∃ u0 u1 u2 hl rs, c = [u0, u1, I x.V, u2] ∧ BwG h v xs hl rs u1 x.Passing (fun y => xs.set i {x with Passing := y}) := by
  have o := b.own
  obtain ⟨_, _, _, _, rfl, rfl, d0, p0, n0⟩ := o
  obtain ⟨u0, rfl, q0⟩ := p0
  obtain ⟨_, _, _, _, rfl, rfl, d1, p1, n1⟩ := n0
  obtain ⟨u1, rfl, q1⟩ := p1
  obtain ⟨_, _, _, _, rfl, rfl, d2, p2, n2⟩ := n1
  obtain ⟨rfl, rfl⟩ := own_flat p2
  obtain ⟨u2, rfl, q2⟩ := n2
  exact ⟨_, _, _, _, _, rfl, b.fc (Fc.via (fun x : ESearch => (x.S, x.Passing, x.V, x.Out)) (Fc.right ⟨u0, rfl, q0⟩ (Fc.left (Fc.here q1) ⟨[I x.V], [u2], _, _, rfl, rfl, d2, (flat_own x.V), ⟨u2, rfl, q2⟩⟩ d1) d0) fun _ => rfl)⟩
theorem ESearch_ft2 {x : ESearch} {k : Int} : FTurn x {x with V := k} 2 [I k] := by
  intro _ _ o
  obtain ⟨_, _, _, _, rfl, rfl, d0, p0, n0⟩ := o
  obtain ⟨u0, rfl, q0⟩ := p0
  obtain ⟨_, _, _, _, rfl, rfl, d1, p1, n1⟩ := n0
  obtain ⟨u1, rfl, q1⟩ := p1
  obtain ⟨_, _, _, _, rfl, rfl, d2, p2, n2⟩ := n1
  obtain ⟨rfl, rfl⟩ := own_flat p2
  obtain ⟨u2, rfl, q2⟩ := n2
  exact ⟨[u0], [u1, I k, u2], _, _, rfl, rfl, d0, ⟨u0, rfl, q0⟩, ⟨[u1], [I k, u2], _, _, rfl, rfl, d1, ⟨u1, rfl, q1⟩, ⟨[I k], [u2], _, _, rfl, rfl, d2, (flat_own k), ⟨u2, rfl, q2⟩⟩⟩⟩
theorem ESearch_bw3 {h hi rest : PH} {v : Value} {xs : List ESearch} {i : Nat} {c : List Value} {x : ESearch} (b : Bw h v xs i hi rest c x) : ∃ u0 u1 u2 hl rs, c = [u0, u1, I x.V, u2] ∧ BwG h v xs hl rs u2 x.Out (fun y => xs.set i {x with Out := y}) := by
  have o := b.own
  obtain ⟨_, _, _, _, rfl, rfl, d0, p0, n0⟩ := o
  obtain ⟨u0, rfl, q0⟩ := p0
  obtain ⟨_, _, _, _, rfl, rfl, d1, p1, n1⟩ := n0
  obtain ⟨u1, rfl, q1⟩ := p1
  obtain ⟨_, _, _, _, rfl, rfl, d2, p2, n2⟩ := n1
  obtain ⟨rfl, rfl⟩ := own_flat p2
  obtain ⟨u2, rfl, q2⟩ := n2
  exact ⟨_, _, _, _, _, rfl, b.fc (Fc.via (fun x : ESearch => (x.S, x.Passing, x.V, x.Out)) (Fc.right ⟨u0, rfl, q0⟩ (Fc.right ⟨u1, rfl, q1⟩ (Fc.right (flat_own x.V) (Fc.here q2) d2) d1) d0) fun _ => rfl)⟩

def spec_l1Cur_next (c : L1Cur) (Q : Int → Int → Int → Prop) : Prop :=
  jn (fun (k : Int → Prop) => br (decide (c.At < (ln c.Code))) (idx c.Code c.At fun x9 =>
  k (wr (x9.v))) <|
  k 0) <|
  fun (b3 : Int) =>
  br (decide ((wr (c.At + 1)) ≤ (ln c.Code))) (Q b3 (wr (c.At + 1)) (IntKind.u64.wrap ((IntKind.u64.wrap ((IntKind.u64.wrap (c.Seed * 6364136223846793005)) + (IntKind.u64.wrap (b3)))) + 1442695040888963407))) <|
  Q (wr (bits .and .u64 (Int.fdiv (IntKind.u64.wrap ((IntKind.u64.wrap ((IntKind.u64.wrap (c.Seed * 6364136223846793005)) + (IntKind.u64.wrap (b3)))) + 1442695040888963407)) (2 ^ 40)) 255)) (wr (c.At + 1)) (IntKind.u64.wrap ((IntKind.u64.wrap ((IntKind.u64.wrap (c.Seed * 6364136223846793005)) + (IntKind.u64.wrap (b3)))) + 1442695040888963407))

def spec_l1Cur_pick (c : L1Cur) (n : Int) (Q : Int → Int → Int → Prop) : Prop :=
  br (decide (n ≤ 1)) (Q 0 c.At c.Seed) <|
  spec_l1Cur_next ((L1Cur.mk c.Code c.At c.Seed)) fun r3 r4 r5 =>
  jn (fun (k : Int → Int → Int → Prop) => br (decide (n > 200)) (spec_l1Cur_next ((L1Cur.mk c.Code r4 r5)) fun r15 r16 r17 =>
  k (wr ((wr (r3 * 256)) + r15)) r16 r17) <|
  k r3 r4 r5) <|
  fun (x9 : Int) (atx : Int) (seed : Int) =>
  n ≠ 0 ∧ (
  Q (Int.tmod x9 n) atx seed)

def spec_l1Cur_schema (c : L1Cur) (Q : (List Variable) → Int → Int → Prop) : Prop :=
  Loop4 (fun (out : List Variable) (k : Int) (atx : Int) (seed : Int) nx =>
  spec_l1Cur_pick ((L1Cur.mk c.Code atx seed)) 3 fun r26 r27 r28 =>
  br (decide (k < (wr (1 + r26)))) (idx ([(ByteArray.mk #[115, 101, 120]), (ByteArray.mk #[97, 103, 101]), (ByteArray.mk #[106, 111, 98]), (ByteArray.mk #[104, 111, 109, 101]), (ByteArray.mk #[115, 105, 122, 101]), (ByteArray.mk #[108, 97, 110, 103])]) k fun x34 =>
  spec_l1Cur_pick ((L1Cur.mk c.Code r27 r28)) 3 fun r46 r47 r48 =>
  (ln out + ln ([(Variable.mk x34 (wr (2 + r46)))])) * 24 ≤ 140737488355328 ∧ (
  nx (out ++ ([(Variable.mk x34 (wr (2 + r46)))])) (wr (k + 1)) r47 r48)) <|
  Q out r27 r28) ([]) 0 c.At c.Seed

def spec_l1Cur_among (c : L1Cur) (list : List Int) (Q : Int → Int → Int → Prop) : Prop :=
  spec_l1Cur_pick ((L1Cur.mk c.Code c.At c.Seed)) (ln list) fun r10 r11 r12 =>
  idx list r10 fun x14 =>
  Q x14 r11 r12

def spec_l1Cur_of (c : L1Cur) (list : List ByteArray) (Q : ByteArray → Int → Int → Prop) : Prop :=
  spec_l1Cur_pick ((L1Cur.mk c.Code c.At c.Seed)) (ln list) fun r10 r11 r12 =>
  idx list r10 fun x14 =>
  Q x14 r11 r12

def spec_l1Cur_anySchema (c : L1Cur) (Q : (List Variable) → Int → Int → Prop) : Prop :=
  spec_l1Cur_schema ((L1Cur.mk c.Code c.At c.Seed)) fun r3 r4 r5 =>
  jn (fun (k : (List Variable) → Int → Int → Prop) => spec_l1Cur_pick ((L1Cur.mk c.Code r4 r5)) 24 fun r29 r30 r31 =>
  br (r29 == 0) (spec_l1Cur_among ((L1Cur.mk c.Code r30 r31)) ([1, 8, 9]) fun r44 r45 r46 =>
  idx r3 0 fun x52 =>
  k (List.set r3 (Int.toNat 0) ({x52 with Levels := r44} : Variable)) r45 r46) <|
  br (r29 == 1) (spec_l1Cur_of ((L1Cur.mk c.Code r30 r31)) ([(ByteArray.mk #[]), (ByteArray.mk #[65, 103, 101]), (ByteArray.mk #[97, 98, 99, 100, 101, 102, 103, 104, 105]), (ByteArray.mk #[97, 103, 101]), (ByteArray.mk #[97, 98, 32, 99, 100])]) fun r76 r77 r78 =>
  idx r3 0 fun x84 =>
  k (List.set r3 (Int.toNat 0) ({x84 with Name := r76} : Variable)) r77 r78) <|
  br (r29 == 2) (Q ([]) r30 r31) <|
  br (r29 == 3) (Loop3 (fun (sx105 : List Variable) (atx111 : Int) (seed112 : Int) nx =>
  spec_l1Cur_pick ((L1Cur.mk c.Code atx111 seed112)) 2 fun r124 r125 r126 =>
  br (decide ((ln sx105) < (wr (6 + r124)))) (sln ((ByteArray.mk #[120])) + sln (b2s ([(B8.mk (IntKind.u8.wrap (wr (97 + (ln sx105)))))])) ≤ 9223372036854775807 ∧ (
  (ln sx105 + ln ([(Variable.mk (((ByteArray.mk #[120])) ++ (b2s ([(B8.mk (IntKind.u8.wrap (wr (97 + (ln sx105)))))]))) 2)])) * 24 ≤ 140737488355328 ∧ (
  nx (sx105 ++ ([(Variable.mk (((ByteArray.mk #[120])) ++ (b2s ([(B8.mk (IntKind.u8.wrap (wr (97 + (ln sx105)))))]))) 2)])) r125 r126))) <|
  k sx105 r125 r126) r3 r30 r31) <|
  k r3 r30 r31) <|
  fun (sx : List Variable) (atx : Int) (seed : Int) =>
  Q sx atx seed

def spec_sCount (sx : List Variable) (Q : Int → Prop) : Prop :=
  Loop2 (fun (n : Int) (x : Int) nx =>
  br (decide (x < (ln sx))) (idx sx x fun x3 =>
  nx (wr (n * x3.Levels)) (wr (x + 1))) <|
  Q n) 1 0

def spec_l1Cur_one (c : L1Cur) (n : Int) (Q : Bool → Int → Int → Prop) : Prop :=
  spec_l1Cur_pick ((L1Cur.mk c.Code c.At c.Seed)) n fun r3 r4 r5 =>
  Q (r3 == 0) r4 r5

def spec_l1In (n : Int) (lo : Int) (hi : Int) (Q : Bool → Prop) : Prop :=
  jn (fun (k : Bool → Prop) => br (decide (n ≥ lo)) (k (decide (n ≤ hi))) <|
  k false) <|
  fun (x : Bool) =>
  Q x

def spec_sName (sx : ByteArray) (Q : Bool → Prop) : Prop :=
  Loop1 (fun (i : Int) nx =>
  br (decide (i < (sln sx))) (jn (fun (k : Bool → Prop) => sidx sx i fun c =>
  br (decide ((c) < 97)) (k true) <|
  sidx sx i fun c3 =>
  k (decide ((c3) > 122))) <|
  fun (x : Bool) =>
  br (x) (Q false) <|
  nx (wr (i + 1))) <|
  spec_l1In (sln sx) 1 8 fun r =>
  Q r) 0

def spec_sFind (sx : List Variable) (name : ByteArray) (Q : Int → Prop) : Prop :=
  Loop1 (fun (x : Int) nx =>
  br (decide (x < (ln sx))) (idx sx x fun x3 =>
  br (streq x3.Name name) (Q x) <|
  nx (wr (x + 1))) <|
  Q ((-1))) 0

def spec_sGood (sx : List Variable) (Q : Bool → Prop) : Prop :=
  spec_l1In (ln sx) 1 6 fun r1 =>
  br (!r1) (Q false) <|
  Loop1 (fun (x3 : Int) nx =>
  br (decide (x3 < (ln sx))) (idx sx x3 fun x10 =>
  jn (fun (k : Bool → Prop) => det1 (spec_sName x10.Name) fun r28 =>
  br (!r28) (k true) <|
  det1 (spec_l1In x10.Levels 2 8) fun r36 =>
  br (!r36) (k true) <|
  (0 : Int) ≤ 0 ∧ 0 ≤ x3 ∧ x3 ≤ ln sx ∧ (
  det1 (spec_sFind (List.take (Int.toNat x3 - Int.toNat 0) (List.drop (Int.toNat 0) sx)) x10.Name) fun r49 =>
  k (decide (r49 ≥ 0)))) <|
  fun (x24 : Bool) =>
  br (x24) (Q false) <|
  nx (wr (x3 + 1))) <|
  Q true) 0

def spec_eFull (sx : List Variable) (vx1 : Int) (Q : Int → Prop) : Prop :=
  idx sx vx1 fun x =>
  (0 : Int) ≤ (IntKind.u64.wrap (x.Levels)) ∧ (
  Q (wr ((shl .i64 1 (IntKind.u64.wrap (x.Levels))) - 1)))

def spec_l1Cur_edit (c : L1Cur) (sx : List Variable) (Q : Edit → Int → Int → Prop) : Prop :=
  Loop4 (fun (x19 : Int) (atx : Int) (seed : Int) (sets : List Int) nx =>
  br (decide (x19 < (ln sx))) (spec_eFull sx x19 fun r48 =>
  jn (fun (k : Int → Int → Int → Prop) => spec_l1Cur_one ((L1Cur.mk c.Code atx seed)) 3 fun r70 r71 r72 =>
  br (!r70) (spec_l1Cur_pick ((L1Cur.mk c.Code r71 r72)) r48 fun r77 r78 r79 =>
  k (wr (1 + r77)) r78 r79) <|
  k r48 r71 r72) <|
  fun (x59 : Int) (atx60 : Int) (seed61 : Int) =>
  (ln sets + ln ([x59])) * 8 ≤ 140737488355328 ∧ (
  nx (wr (x19 + 1)) atx60 seed61 (sets ++ ([x59])))) <|
  Q ((Edit.mk sets)) atx seed) 0 c.At c.Seed ([])

def spec_l1Cur_anyEdit (c : L1Cur) (sx : List Variable) (Q : Edit → Int → Int → Prop) : Prop :=
  spec_sGood sx fun r12 =>
  br (!r12) (Q ((Edit.mk ([1]))) c.At c.Seed) <|
  spec_l1Cur_edit ((L1Cur.mk c.Code c.At c.Seed)) sx fun r37 r38 r39 =>
  jn (fun (k : Int → Int → (List Int) → Prop) => spec_l1Cur_pick ((L1Cur.mk c.Code r38 r39)) 24 fun r92 r93 r94 =>
  br (r92 == 0) ((
  spec_l1Cur_pick ((L1Cur.mk c.Code r93 r94)) (ln r37.Sets) fun r109 r110 r111 =>
  spec_l1Cur_among ((L1Cur.mk c.Code r110 r111)) ([0, (-1), 256, 4]) fun r135 r136 r137 =>
  (0 : Int) ≤ r109 ∧ Int.toNat r109 < List.length r37.Sets ∧ (
  k r136 r137 (List.set r37.Sets (Int.toNat r109) r135))) ∧ (
  spec_l1Cur_pick ((L1Cur.mk c.Code r93 r94)) (ln r37.Sets) fun r184 r185 r186 =>
  spec_l1Cur_among ((L1Cur.mk c.Code r185 r186)) ([0, (-1), 256, 4]) fun r197 r198 r199 =>
  (0 : Int) ≤ r184 ∧ Int.toNat r184 < List.length r37.Sets ∧ (
  k r198 r199 (List.set r37.Sets (Int.toNat r184) r197)))) <|
  br (r92 == 1) ((ln r37.Sets + ln ([1])) * 8 ≤ 140737488355328 ∧ (
  k r93 r94 (r37.Sets ++ ([1])))) <|
  k r93 r94 r37.Sets) <|
  fun (atx : Int) (seed : Int) (sets : List Int) =>
  Q ((Edit.mk sets)) atx seed

def spec_l1Own (l : List Int) (Q : (List Int) → Prop) : Prop :=
  (ln (([] : List Int)) + ln l) * 8 ≤ 140737488355328 ∧ (
  Q ((([] : List Int)) ++ l))

def spec_l1Cur_edits (c : L1Cur) (sx : List Variable) (Q : (List Edit) → Int → Int → Prop) : Prop :=
  spec_l1Cur_pick ((L1Cur.mk c.Code c.At c.Seed)) 6 fun r10 r11 r12 =>
  Loop4 (fun (l : List Edit) (k : Int) (atx : Int) (seed : Int) nx =>
  br (decide (k > 0)) (spec_l1Cur_anyEdit ((L1Cur.mk c.Code atx seed)) sx fun r30 r31 r32 =>
  (ln l + ln ([((Edit.mk r30.Sets) : Edit)])) * 24 ≤ 140737488355328 ∧ (
  nx (l ++ ([((Edit.mk r30.Sets) : Edit)])) (wr (k - 1)) r31 r32)) <|
  jn (fun (k92 : (List Edit) → Int → Int → Prop) => spec_l1Cur_one ((L1Cur.mk c.Code atx seed)) 40 fun r93 r94 r95 =>
  br (r93) (spec_l1Cur_anyEdit ((L1Cur.mk c.Code r94 r95)) sx fun r100 r101 r102 =>
  spec_l1Cur_pick ((L1Cur.mk c.Code r101 r102)) 2 fun r124 r125 r126 =>
  Loop1 (fun (l133 : List Edit) nx163 =>
  br (decide ((ln l133) < (wr (40 + r124)))) (spec_l1Own r100.Sets fun r165 =>
  (ln l133 + ln ([((Edit.mk r165) : Edit)])) * 24 ≤ 140737488355328 ∧ (
  nx163 (l133 ++ ([((Edit.mk r165) : Edit)])))) <|
  k92 l133 r125 r126) l) <|
  k92 l r94 r95) <|
  fun (l76 : List Edit) (atx82 : Int) (seed83 : Int) =>
  Q l76 atx82 seed83) ([]) r10 r11 r12

def spec_l1Cur_weights (c : L1Cur) (sx : List Variable) (Q : (List Int) → Int → Int → Prop) : Prop :=
  Loop4 (fun (out : List Int) (x : Int) (atx : Int) (seed : Int) nx =>
  br (decide (x < (ln sx))) (spec_l1Cur_pick ((L1Cur.mk c.Code atx seed)) 4 fun r20 r21 r22 =>
  (ln out + ln ([wr (1 + r20)])) * 8 ≤ 140737488355328 ∧ (
  nx (out ++ ([wr (1 + r20)])) (wr (x + 1)) r21 r22)) <|
  jn (fun (k : (List Int) → Int → Int → Prop) => spec_l1Cur_pick ((L1Cur.mk c.Code atx seed)) 24 fun r66 r67 r68 =>
  br (r66 == 0) ((ln out + ln ([1])) * 8 ≤ 140737488355328 ∧ (
  k (out ++ ([1])) r67 r68)) <|
  br (r66 == 1) (br (decide ((ln out) > 0)) (spec_l1Cur_among ((L1Cur.mk c.Code r67 r68)) ([0, 100, 101]) fun r111 r112 r113 =>
  (0 : Int) ≤ 0 ∧ Int.toNat 0 < List.length out ∧ (
  k (List.set out (Int.toNat 0) r111) r112 r113)) <|
  k out r67 r68) <|
  k out r67 r68) <|
  fun (out50 : List Int) (atx56 : Int) (seed57 : Int) =>
  Q out50 atx56 seed57) ([]) 0 c.At c.Seed

def spec_l1Cur_values (c : L1Cur) (sx : List Variable) (Q : (List Int) → Int → Int → Prop) : Prop :=
  Loop4 (fun (out : List Int) (x : Int) (atx : Int) (seed : Int) nx =>
  br (decide (x < (ln sx))) (idx sx x fun x22 =>
  spec_l1Cur_pick ((L1Cur.mk c.Code atx seed)) x22.Levels fun r36 r37 r38 =>
  (ln out + ln ([r36])) * 8 ≤ 140737488355328 ∧ (
  nx (out ++ ([r36])) (wr (x + 1)) r37 r38)) <|
  Q out atx seed) ([]) 0 c.At c.Seed

def spec_l1Cur_anyValues (c : L1Cur) (sx : List Variable) (Q : (List Int) → Int → Int → Prop) : Prop :=
  spec_l1Cur_values ((L1Cur.mk c.Code c.At c.Seed)) sx fun r10 r11 r12 =>
  jn (fun (k : (List Int) → Int → Int → Prop) => jn (fun (k42 : Bool → Int → Int → Prop) => br (decide ((ln r10) > 0)) (spec_l1Cur_one ((L1Cur.mk c.Code r11 r12)) 16 fun r44 r45 r46 =>
  k42 r44 r45 r46) <|
  k42 false r11 r12) <|
  fun (x34 : Bool) (atx35 : Int) (seed36 : Int) =>
  br (x34) (spec_l1Cur_pick ((L1Cur.mk c.Code atx35 seed36)) (ln r10) fun r54 r55 r56 =>
  spec_l1Cur_among ((L1Cur.mk c.Code r55 r56)) ([(-1), 2, 8]) fun r69 r70 r71 =>
  (0 : Int) ≤ r54 ∧ Int.toNat r54 < List.length r10 ∧ (
  k (List.set r10 (Int.toNat r54) r69) r70 r71)) <|
  spec_l1Cur_one ((L1Cur.mk c.Code atx35 seed36)) 24 fun r89 r90 r91 =>
  br (r89) ((ln r10 + ln ([0])) * 8 ≤ 140737488355328 ∧ (
  Q (r10 ++ ([0])) r90 r91)) <|
  k r10 r90 r91) <|
  fun (out : List Int) (atx : Int) (seed : Int) =>
  Q out atx seed

def spec_l1Cur_mended (c : L1Cur) (Q : (List Variable) → (List Edit) → (List Int) → (List Int) → Int → Int → Prop) : Prop :=
  spec_l1Cur_anySchema ((L1Cur.mk c.Code c.At c.Seed)) fun r3 r4 r5 =>
  jn (fun (k : (List Variable) → Int → Int → Prop) => jn (fun (k37 : Bool → Int → Int → Prop) => spec_sCount r3 fun r39 =>
  br (decide (r39 > 100)) (spec_l1Cur_one ((L1Cur.mk c.Code r4 r5)) 8 fun r42 r43 r44 =>
  k37 (!r42) r43 r44) <|
  k37 false r4 r5) <|
  fun (x29 : Bool) (atx30 : Int) (seed31 : Int) =>
  br (x29) (k ([(Variable.mk ((ByteArray.mk #[115, 101, 120])) 2), (Variable.mk ((ByteArray.mk #[97, 103, 101])) 3), (Variable.mk ((ByteArray.mk #[106, 111, 98])) 3)]) atx30 seed31) <|
  k r3 atx30 seed31) <|
  fun (sx : List Variable) (atx : Int) (seed : Int) =>
  spec_l1Cur_edits ((L1Cur.mk c.Code atx seed)) sx fun r71 r72 r73 =>
  jn (fun (k106 : (List Edit) → Int → Int → Prop) => spec_l1Cur_one ((L1Cur.mk c.Code r72 r73)) 16 fun r108 r109 r110 =>
  br (r108) (spec_l1Cur_anyEdit ((L1Cur.mk c.Code r109 r110)) sx fun r115 r116 r117 =>
  (ln r71 + ln ([((Edit.mk r115.Sets) : Edit)])) * 24 ≤ 140737488355328 ∧ (
  k106 (r71 ++ ([((Edit.mk r115.Sets) : Edit)])) r116 r117)) <|
  k106 r71 r109 r110) <|
  fun (l : List Edit) (atx94 : Int) (seed95 : Int) =>
  spec_l1Cur_weights ((L1Cur.mk c.Code atx94 seed95)) sx fun r169 r170 r171 =>
  spec_l1Cur_anyValues ((L1Cur.mk c.Code r170 r171)) sx fun r183 r184 r185 =>
  Q sx l r169 r183 r184 r185

def spec_DrawCheapestChange (code : List B8) (Q : (List Variable) → (List Edit) → (List Int) → (List Int) → Prop) : Prop :=
  spec_l1Cur_mended ((L1Cur.mk code 0 0)) fun r2 r3 r4 r5 r6 r7 =>
  Q r2 r3 r4 r5

def impl_isWord (sx : ByteArray) (Q : Bool → Prop) : Prop :=
  jn (fun (k : Bool → Prop) => br (decide ((sln sx) < 1)) (k true) <|
  k (decide ((sln sx) > 8))) <|
  fun (x : Bool) =>
  br (x) (Q false) <|
  Loop1 (fun (x2 : Int) nx =>
  br (decide (x2 < (sln sx))) (jn (fun (k7 : Bool → Prop) => sidx sx x2 fun c =>
  br (decide ((c) < 97)) (k7 true) <|
  sidx sx x2 fun c10 =>
  k7 (decide ((c10) > 122))) <|
  fun (x5 : Bool) =>
  br (x5) (Q false) <|
  nx (wr (x2 + 1))) <|
  Q true) 0

def impl_IsSchema (sx : List Variable) (Q : Bool → Prop) : Prop :=
  jn (fun (k : Bool → Prop) => br (decide ((ln sx) < 1)) (k true) <|
  k (decide ((ln sx) > 6))) <|
  fun (x : Bool) =>
  br (x) (Q false) <|
  Loop1 (fun (x2 : Int) nx =>
  br (decide (x2 < (ln sx))) (idx sx x2 fun x7 =>
  jn (fun (k26 : Bool → Prop) => impl_isWord x7.Name fun r28 =>
  br (!r28) (k26 true) <|
  br (decide (x7.Levels < 2)) (k26 true) <|
  k26 (decide (x7.Levels > 8))) <|
  fun (x21 : Bool) =>
  br (x21) (Q false) <|
  (0 : Int) ≤ 0 ∧ 0 ≤ x2 ∧ x2 ≤ ln sx ∧ (
  Loop1 (fun (x46 : Int) nx54 =>
  br (decide (x46 < (ln (List.take (Int.toNat x2 - Int.toNat 0) (List.drop (Int.toNat 0) sx))))) (idx (List.take (Int.toNat x2 - Int.toNat 0) (List.drop (Int.toNat 0) sx)) x46 fun x56 =>
  br (streq x56.Name x7.Name) (Q false) <|
  nx54 (wr (x46 + 1))) <|
  nx (wr (x2 + 1))) 0)) <|
  Q true) 0

def impl_combinations (sx : List Variable) (Q : Int → Prop) : Prop :=
  Loop2 (fun (n : Int) (x : Int) nx =>
  br (decide (x < (ln sx))) (idx sx x fun x3 =>
  nx (wr (n * x3.Levels)) (wr (x + 1))) <|
  Q n) 1 0

def impl_isSmall (sx : List Variable) (Q : Bool → Prop) : Prop :=
  jn (fun (k : Bool → Prop) => impl_IsSchema sx fun r2 =>
  br (r2) (impl_combinations sx fun r5 =>
  k (decide (r5 ≤ 100))) <|
  k false) <|
  fun (x : Bool) =>
  Q x

def impl_fullSet (vx : Variable) (Q : Int → Prop) : Prop :=
  (0 : Int) ≤ vx.Levels ∧ (
  Q (wr ((shl .i64 1 vx.Levels) - 1)))

def impl_isEdit (sx : List Variable) (ex1 : Edit) (Q : Bool → Prop) : Prop :=
  br ((ln ex1.Sets) != (ln sx)) (Q false) <|
  Loop1 (fun (x10 : Int) nx =>
  br (decide (x10 < (ln ex1.Sets))) (idx ex1.Sets x10 fun x19 =>
  jn (fun (k : Bool → Prop) => br (decide (x19 < 1)) (k true) <|
  idx sx x10 fun x31 =>
  impl_fullSet x31 fun r40 =>
  k (decide (x19 > r40))) <|
  fun (x25 : Bool) =>
  br (x25) (Q false) <|
  nx (wr (x10 + 1))) <|
  Q true) 0

def impl_areEdits (sx : List Variable) (l : List Edit) (Q : Bool → Prop) : Prop :=
  br (decide ((ln l) > 40)) (Q false) <|
  Loop1 (fun (x : Int) nx =>
  br (decide (x < (ln l))) (idx l x fun x11 =>
  impl_isEdit sx ((Edit.mk x11.Sets)) fun r30 =>
  br (!r30) (Q false) <|
  nx (wr (x + 1))) <|
  Q true) 0

def impl_areWeights (sx : List Variable) (weights : List Int) (Q : Bool → Prop) : Prop :=
  br ((ln weights) != (ln sx)) (Q false) <|
  Loop1 (fun (x : Int) nx =>
  br (decide (x < (ln weights))) (idx weights x fun x8 =>
  jn (fun (k : Bool → Prop) => br (decide (x8 < 1)) (k true) <|
  k (decide (x8 > 100))) <|
  fun (x14 : Bool) =>
  br (x14) (Q false) <|
  nx (wr (x + 1))) <|
  Q true) 0

def impl_isMendable (sx : List Variable) (l : List Edit) (weights : List Int) (Q : Bool → Prop) : Prop :=
  jn (fun (k : Bool → Prop) => impl_isSmall sx fun r14 =>
  br (r14) (impl_areEdits sx l fun r17 =>
  br (r17) (impl_areWeights sx weights fun r23 =>
  k r23) <|
  k false) <|
  k false) <|
  fun (x : Bool) =>
  Q x

def impl_areValues (sx : List Variable) (values : List Int) (Q : Bool → Prop) : Prop :=
  br ((ln values) != (ln sx)) (Q false) <|
  Loop1 (fun (x : Int) nx =>
  br (decide (x < (ln values))) (idx values x fun x8 =>
  jn (fun (k : Bool → Prop) => br (decide (x8 < 0)) (k true) <|
  idx sx x fun x17 =>
  k (decide (x8 ≥ x17.Levels))) <|
  fun (x14 : Bool) =>
  br (x14) (Q false) <|
  nx (wr (x + 1))) <|
  Q true) 0

def impl_membersOf (mask : Int) (Q : (List Int) → Prop) : Prop :=
  Loop2 (fun (out : List Int) (i : Int) nx =>
  (0 : Int) ≤ i ∧ (
  br ((shr .i64 mask i) != 0) (jn (fun (k : (List Int) → Prop) => (0 : Int) ≤ i ∧ (
  br ((bits .and .i64 (shr .i64 mask i) 1) == 1) ((ln out + ln ([i])) * 8 ≤ 140737488355328 ∧ (
  k (out ++ ([i])))) <|
  k out)) <|
  fun (out2 : List Int) =>
  nx out2 (wr (i + 1))) <|
  Q out)) ([]) 0

def slices_Index_int_int (sx : List Int) (vx1 : Int) (Q : Int → Prop) : Prop :=
  Loop1 (fun (x : Int) nx =>
  br (decide (x < (ln sx))) (idx sx x fun x2 =>
  br (vx1 == x2) (Q x) <|
  nx (wr (x + 1))) <|
  Q ((-1))) 0

def slices_Contains_int_int (sx : List Int) (vx1 : Int) (Q : Bool → Prop) : Prop :=
  slices_Index_int_int sx vx1 fun r2 =>
  Q (decide (r2 ≥ 0))

def impl_otherVars (sx : List Variable) (vars : List Int) (Q : (List Int) → Prop) : Prop :=
  Loop2 (fun (out : List Int) (x : Int) nx =>
  br (decide (x < (ln sx))) (jn (fun (k : (List Int) → Prop) => slices_Contains_int_int vars x fun r26 =>
  br (!r26) ((ln out + ln ([x])) * 8 ≤ 140737488355328 ∧ (
  k (out ++ ([x])))) <|
  k out) <|
  fun (out14 : List Int) =>
  nx out14 (wr (x + 1))) <|
  Q out) ([]) 0

def impl_valuesAt (sx : List Variable) (i : Int) (Q : (List Int) → Prop) : Prop :=
  (0 : Int) ≤ (ln sx) ∧ 8 * (ln sx) ≤ 140737488355328 ∧ (
  Loop3 (fun (i6 : Int) (values : List Int) (k : Int) nx =>
  br (decide (k ≥ 0)) (idx sx k fun x18 =>
  x18.Levels ≠ 0 ∧ (
  (0 : Int) ≤ k ∧ Int.toNat k < List.length values ∧ (
  idx sx k fun x29 =>
  x29.Levels ≠ 0 ∧ (
  nx (wr (Int.tdiv i6 x29.Levels)) (List.set values (Int.toNat k) (Int.tmod i6 x18.Levels)) (wr (k - 1)))))) <|
  Q values) i (List.replicate (Int.toNat (ln sx)) ((0 : Int))) (wr ((ln sx) - 1)))

def impl_fails (ex : Edit) (values : List Int) (Q : Bool → Prop) : Prop :=
  Loop1 (fun (x9 : Int) nx =>
  br (decide (x9 < (ln values))) (idx values x9 fun x11 =>
  idx ex.Sets x9 fun x18 =>
  (0 : Int) ≤ x11 ∧ (
  br ((bits .and .i64 (shr .i64 x18 x11) 1) == 0) (Q false) <|
  nx (wr (x9 + 1)))) <|
  Q true) 0

def impl_failsOne (l : List Edit) (values : List Int) (Q : Bool → Prop) : Prop :=
  Loop1 (fun (x : Int) nx =>
  br (decide (x < (ln l))) (idx l x fun x10 =>
  impl_fails ((Edit.mk x10.Sets)) values fun r29 =>
  br (r29) (Q true) <|
  nx (wr (x + 1))) <|
  Q false) 0

def impl_completionOf_1 (c : List Int) (c2 : List Int) (c10 : List Int) (c19 : List Int) (Q : Bool → (List Int) → Prop) : Prop :=
  Loop1 (fun (x : Int) nx =>
  br (decide (x < (ln c2))) (idx c2 x fun x51 =>
  idx c x51 fun x58 =>
  idx c10 x51 fun x67 =>
  br (x58 != x67) (Q true c19) <|
  nx (wr (x + 1))) <|
  (0 : Int) < ln c ∧ Q false c) 0

def impl_passing_impl_completionOf_1 (sx : List Variable) (l : List Edit) (c7 : List Int) (c15 : List Int) (c24 : List Int) (Q : (List Int) → Prop) : Prop :=
  impl_combinations sx fun r46 =>
  Loop2 (fun (x47 : Int) (x48 : List Int) nx =>
  br (decide (x47 < r46)) (impl_valuesAt sx x47 fun r80 =>
  jn (fun (k : Bool → (List Int) → Prop) => impl_failsOne l r80 fun r126 =>
  br (!r126) (impl_completionOf_1 r80 c7 c15 x48 fun r130 r131 =>
  k (!r130) r131) <|
  k false x48) <|
  fun (x100 : Bool) (x101 : List Int) =>
  br (x100) (Q x101) <|
  nx (wr (x47 + 1)) x101) <|
  Q x48) 0 c24

def impl_completionOf (sx : List Variable) (l : List Edit) (fixed : List Int) (values : List Int) (Q : (List Int) → Prop) : Prop :=
  impl_passing_impl_completionOf_1 sx l fixed values ([]) fun r35 =>
  Q r35

def impl_weightOf (weights : List Int) (vars : List Int) (Q : Int → Prop) : Prop :=
  Loop2 (fun (sum : Int) (x : Int) nx =>
  br (decide (x < (ln vars))) (idx vars x fun x7 =>
  idx weights x7 fun x13 =>
  nx (wr (sum + x13)) (wr (x + 1))) <|
  Q sum) 0 0

def impl_cheapestChange_1 (vars : List Int) (c1 : List Int) (Q : Int → Prop) : Prop :=
  impl_weightOf c1 vars fun r9 =>
  Q r9

def cmp_isNaN_int (x : Int) (Q : Bool → Prop) : Prop :=
  Q (x != x)

def cmp_Compare_int (x : Int) (y : Int) (Q : Int → Prop) : Prop :=
  cmp_isNaN_int x fun r =>
  cmp_isNaN_int y fun r2 =>
  br (r) (br (r2) (Q 0) <|
  Q ((-1))) <|
  br (r2) (Q 1) <|
  br (decide (x < y)) (Q ((-1))) <|
  br (decide (x > y)) (Q 1) <|
  Q 0

def slices_Compare_int_int (sx : List Int) (sx1 : List Int) (Q : Int → Prop) : Prop :=
  Loop1 (fun (x : Int) nx =>
  br (decide (x < (ln sx))) (idx sx x fun x11 =>
  br (decide (x ≥ (ln sx1))) (Q 1) <|
  idx sx1 x fun x18 =>
  cmp_Compare_int x11 x18 fun r27 =>
  br (r27 != 0) (Q r27) <|
  nx (wr (x + 1))) <|
  br (decide ((ln sx) < (ln sx1))) (Q ((-1))) <|
  Q 0) 0

def cmp_Or_int (vals : List Int) (Q : Int → Prop) : Prop :=
  Loop1 (fun (x : Int) nx =>
  br (decide (x < (ln vals))) (idx vals x fun x1 =>
  br (x1 != 0) (Q x1) <|
  nx (wr (x + 1))) <|
  Q 0) 0

def impl_leastCover_impl_cheapestChange_1 (sx : List Variable) (l : List Edit) (values : List Int) (c13 : List Int) (Q : (List Int) → Bool → Prop) : Prop :=
  (0 : Int) ≤ (ln sx) ∧ (
  Loop3 (fun (best : List Int) (found : Bool) (x : Int) nx =>
  br (decide (x < (shl .i64 1 (ln sx)))) (jn (fun (k : (List Int) → Bool → Prop) => impl_membersOf x fun r57 =>
  jn (fun (k85 : Bool → Prop) => br (found) (impl_cheapestChange_1 r57 c13 fun r88 =>
  impl_cheapestChange_1 best c13 fun r91 =>
  cmp_Compare_int r88 r91 fun r97 =>
  cmp_Compare_int (ln r57) (ln best) fun r100 =>
  slices_Compare_int_int r57 best fun r103 =>
  cmp_Or_int ([r97, r100, r103]) fun r118 =>
  k85 (decide (r118 ≥ 0))) <|
  k85 false) <|
  fun (x75 : Bool) =>
  br (x75) (k best found) <|
  impl_otherVars sx r57 fun r133 =>
  impl_completionOf sx l r133 values fun r143 =>
  br (!(ln r143 == 0)) (k r57 true) <|
  k best found) <|
  fun (best36 : List Int) (found42 : Bool) =>
  nx best36 found42 (wr (x + 1))) <|
  Q best found) ([]) false 0)

def impl_cheapestChange (sx : List Variable) (l : List Edit) (weights : List Int) (values : List Int) (Q : (List Int) → Bool → Prop) : Prop :=
  impl_leastCover_impl_cheapestChange_1 sx l values weights fun r20 r21 =>
  Q r20 r21

def impl_CheapestChange (sx : List Variable) (l : List Edit) (weights : List Int) (values : List Int) (Q : (List Int) → Int → Bool → Prop) : Prop :=
  jn (fun (k : Bool → Prop) => impl_isMendable sx l weights fun r24 =>
  br (!r24) (k true) <|
  impl_areValues sx values fun r32 =>
  k (!r32)) <|
  fun (x : Bool) =>
  br (x) (Q ([]) 0 false) <|
  impl_cheapestChange sx l weights values fun r43 r44 =>
  br (!r44) (Q ([]) 0 false) <|
  impl_weightOf weights r43 fun r54 =>
  Q r43 r54 true

def spec_eGood (sx : List Variable) (ex1 : Edit) (Q : Bool → Prop) : Prop :=
  br ((ln ex1.Sets) != (ln sx)) (Q false) <|
  Loop1 (fun (x10 : Int) nx =>
  br (decide (x10 < (ln ex1.Sets))) (idx ex1.Sets x10 fun x19 =>
  spec_eFull sx x10 fun r25 =>
  spec_l1In x19 1 r25 fun r28 =>
  br (!r28) (Q false) <|
  nx (wr (x10 + 1))) <|
  Q true) 0

def spec_eList (sx : List Variable) (l : List Edit) (Q : Bool → Prop) : Prop :=
  jn (fun (k : Bool → Prop) => spec_sGood sx fun r10 =>
  br (!r10) (k true) <|
  k (decide ((ln l) > 40))) <|
  fun (x : Bool) =>
  br (x) (Q false) <|
  Loop1 (fun (x20 : Int) nx =>
  br (decide (x20 < (ln l))) (idx l x20 fun x26 =>
  spec_eGood sx ((Edit.mk x26.Sets)) fun r45 =>
  br (!r45) (Q false) <|
  nx (wr (x20 + 1))) <|
  Q true) 0

def spec_eSmall (sx : List Variable) (l : List Edit) (Q : Bool → Prop) : Prop :=
  jn (fun (k : Bool → Prop) => spec_eList sx l fun r8 =>
  br (r8) (spec_sCount sx fun r11 =>
  k (decide (r11 ≤ 100))) <|
  k false) <|
  fun (x : Bool) =>
  Q x

def spec_l1All (l : List Int) (lo : Int) (hi : Int) (Q : Bool → Prop) : Prop :=
  Loop1 (fun (x : Int) nx =>
  br (decide (x < (ln l))) (idx l x fun x3 =>
  spec_l1In x3 lo hi fun r10 =>
  br (!r10) (Q false) <|
  nx (wr (x + 1))) <|
  Q true) 0

def spec_iWeights (sx : List Variable) (wx : List Int) (Q : Bool → Prop) : Prop :=
  jn (fun (k : Bool → Prop) => br ((ln wx) == (ln sx)) (spec_l1All wx 1 100 fun r9 =>
  k r9) <|
  k false) <|
  fun (x : Bool) =>
  Q x

def spec_sFits (sx : List Variable) (values : List Int) (Q : Bool → Prop) : Prop :=
  br ((ln values) != (ln sx)) (Q false) <|
  Loop1 (fun (x : Int) nx =>
  br (decide (x < (ln sx))) (idx sx x fun x11 =>
  idx values x fun x22 =>
  det1 (spec_l1In x22 0 (wr (x11.Levels - 1))) fun r32 =>
  br (!r32) (Q false) <|
  nx (wr (x + 1))) <|
  Q true) 0

def spec_iInput (sx : List Variable) (l : List Edit) (wx : List Int) (values : List Int) (Q : Bool → Prop) : Prop :=
  jn (fun (k : Bool → Prop) => spec_eSmall sx l fun r21 =>
  br (r21) (spec_iWeights sx wx fun r24 =>
  br (r24) (spec_sFits sx values fun r30 =>
  k r30) <|
  k false) <|
  k false) <|
  fun (x : Bool) =>
  Q x

def spec_iBits (mask : Int) (Q : (List Int) → Prop) : Prop :=
  Loop2 (fun (out : List Int) (i : Int) nx =>
  (0 : Int) ≤ (IntKind.u64.wrap (i)) ∧ (
  br (decide ((shr .i64 mask (IntKind.u64.wrap (i))) > 0)) (jn (fun (k : (List Int) → Prop) => (0 : Int) ≤ (IntKind.u64.wrap (i)) ∧ (
  br ((bits .and .i64 (shr .i64 mask (IntKind.u64.wrap (i))) 1) == 1) ((ln out + ln ([i])) * 8 ≤ 140737488355328 ∧ (
  k (out ++ ([i])))) <|
  k out)) <|
  fun (out2 : List Int) =>
  nx out2 (wr (i + 1))) <|
  Q out)) ([]) 0

def spec_iSum (wx : List Int) (vars : List Int) (Q : Int → Prop) : Prop :=
  Loop2 (fun (n : Int) (x : Int) nx =>
  br (decide (x < (ln vars))) (idx vars x fun x8 =>
  idx wx x8 fun x14 =>
  nx (wr (n + x14)) (wr (x + 1))) <|
  Q n) 0 0

def spec_l1Has (l : List Int) (n : Int) (Q : Bool → Prop) : Prop :=
  Loop1 (fun (x : Int) nx =>
  br (decide (x < (ln l))) (idx l x fun x1 =>
  br (x1 == n) (Q true) <|
  nx (wr (x + 1))) <|
  Q false) 0

def spec_iOthers (sx : List Variable) (vars : List Int) (Q : (List Int) → Prop) : Prop :=
  Loop2 (fun (out : List Int) (x : Int) nx =>
  br (decide (x < (ln sx))) (jn (fun (k : (List Int) → Prop) => spec_l1Has vars x fun r26 =>
  br (!r26) ((ln out + ln ([x])) * 8 ≤ 140737488355328 ∧ (
  k (out ++ ([x])))) <|
  k out) <|
  fun (out14 : List Int) =>
  nx out14 (wr (x + 1))) <|
  Q out) ([]) 0

def spec_sAt (sx : List Variable) (i : Int) (Q : (List Int) → Prop) : Prop :=
  (0 : Int) ≤ (ln sx) ∧ 8 * (ln sx) ≤ 140737488355328 ∧ (
  Loop3 (fun (i6 : Int) (out : List Int) (k : Int) nx =>
  br (decide (k ≥ 0)) (idx sx k fun x18 =>
  x18.Levels ≠ 0 ∧ (
  (0 : Int) ≤ k ∧ Int.toNat k < List.length out ∧ (
  idx sx k fun x29 =>
  x29.Levels ≠ 0 ∧ (
  nx (wr (Int.tdiv i6 x29.Levels)) (List.set out (Int.toNat k) (Int.tmod i6 x18.Levels)) (wr (k - 1)))))) <|
  Q out) i (List.replicate (Int.toNat (ln sx)) ((0 : Int))) (wr ((ln sx) - 1)))

def spec_eFails (ex : Edit) (values : List Int) (Q : Bool → Prop) : Prop :=
  Loop1 (fun (x9 : Int) nx =>
  br (decide (x9 < (ln values))) (idx values x9 fun x11 =>
  idx ex.Sets x9 fun x18 =>
  (0 : Int) ≤ (IntKind.u64.wrap (x11)) ∧ (
  br ((bits .and .i64 (shr .i64 x18 (IntKind.u64.wrap (x11))) 1) == 0) (Q false) <|
  nx (wr (x9 + 1)))) <|
  Q true) 0

def spec_eFailed (l : List Edit) (values : List Int) (Q : (List Int) → Prop) : Prop :=
  Loop2 (fun (out : List Int) (x : Int) nx =>
  br (decide (x < (ln l))) (jn (fun (k : (List Int) → Prop) => idx l x fun x30 =>
  spec_eFails ((Edit.mk x30.Sets)) values fun r51 =>
  br (r51) ((ln out + ln ([x])) * 8 ≤ 140737488355328 ∧ (
  k (out ++ ([x])))) <|
  k out) <|
  fun (out16 : List Int) =>
  nx out16 (wr (x + 1))) <|
  Q out) ([]) 0

def spec_eComplete (sx : List Variable) (l : List Edit) (fixed : List Int) (values : List Int) (Q : (List Int) → Bool → Prop) : Prop :=
  Loop1 (fun (i : Int) nx =>
  spec_sCount sx fun r24 =>
  br (decide (i < r24)) (spec_sAt sx i fun r26 =>
  spec_eFailed l r26 fun r35 =>
  Loop2 (fun (fits : Bool) (x46 : Int) nx65 =>
  br (decide (x46 < (ln fixed))) (jn (fun (k : Bool → Prop) => idx fixed x46 fun x77 =>
  br (fits) (idx r26 x77 fun x84 =>
  idx values x77 fun x93 =>
  k (x84 == x93)) <|
  k false) <|
  fun (fits69 : Bool) =>
  nx65 fits69 (wr (x46 + 1))) <|
  br (fits) (Q r26 true) <|
  nx (wr (i + 1))) ((ln r35) == 0) 0) <|
  Q ([]) false) 0

def spec_l1Sign (n : Int) (Q : Int → Prop) : Prop :=
  br (decide (n < 0)) (Q ((-1))) <|
  br (decide (n > 0)) (Q 1) <|
  Q 0

def spec_l1Less (a : List Int) (b : List Int) (Q : Int → Prop) : Prop :=
  Loop1 (fun (i : Int) nx =>
  jn (fun (k : Bool → Prop) => br (decide (i < (ln a))) (k (decide (i < (ln b)))) <|
  k false) <|
  fun (x : Bool) =>
  br (x) (idx a i fun x13 =>
  idx b i fun x19 =>
  br (x13 != x19) (idx a i fun x31 =>
  idx b i fun x41 =>
  br (decide (x31 < x41)) (Q ((-1))) <|
  Q 1) <|
  nx (wr (i + 1))) <|
  spec_l1Sign (wr ((ln a) - (ln b))) fun r60 =>
  Q r60) 0

def spec_iCheapest (sx : List Variable) (l : List Edit) (wx : List Int) (values : List Int) (Q : (List Int) → Int → Bool → Prop) : Prop :=
  Loop4 (fun (best : List Int) (cost : Int) (found : Bool) (mask : Int) nx =>
  (0 : Int) ≤ (IntKind.u64.wrap (ln sx)) ∧ (
  br (decide (mask < (shl .i64 1 (IntKind.u64.wrap (ln sx))))) (jn (fun (k : (List Int) → Int → Bool → Prop) => spec_iBits mask fun r53 =>
  spec_iSum wx r53 fun r62 =>
  jn (fun (k83 : Bool → Prop) => br (found) (br (decide (r62 > cost)) (k83 true) <|
  br (r62 == cost) (br (decide ((ln r53) > (ln best))) (k83 true) <|
  br ((ln r53) == (ln best)) (spec_l1Less r53 best fun r90 =>
  k83 (decide (r90 ≥ 0))) <|
  k83 false) <|
  k83 false) <|
  k83 false) <|
  fun (x74 : Bool) =>
  br (x74) (k best cost found) <|
  spec_iOthers sx r53 fun r101 =>
  spec_eComplete sx l r101 values fun r111 r112 =>
  br (r112) (k r53 r62 true) <|
  k best cost found) <|
  fun (best33 : List Int) (cost39 : Int) (found40 : Bool) =>
  nx best33 cost39 found40 (wr (mask + 1))) <|
  Q best cost found)) ([]) 0 false 0

def spec_CheapestChange (sx : List Variable) (l : List Edit) (weights : List Int) (values : List Int) (Q : (List Int) → Int → Bool → Prop) : Prop :=
  spec_iInput sx l weights values fun r19 =>
  br (!r19) (Q ([]) 0 false) <|
  spec_iCheapest sx l weights values fun r21 r22 r23 =>
  Q r21 r22 r23

def spec_l1Cur_someVars (c : L1Cur) (sx : List Variable) (Q : (List Int) → Int → Int → Prop) : Prop :=
  Loop4 (fun (out : List Int) (x : Int) (atx : Int) (seed : Int) nx =>
  br (decide (x < (ln sx))) (jn (fun (k : (List Int) → Int → Int → Prop) => spec_l1Cur_one ((L1Cur.mk c.Code atx seed)) 2 fun r36 r37 r38 =>
  br (r36) ((ln out + ln ([x])) * 8 ≤ 140737488355328 ∧ (
  k (out ++ ([x])) r37 r38)) <|
  k out r37 r38) <|
  fun (out20 : List Int) (atx26 : Int) (seed27 : Int) =>
  nx out20 (wr (x + 1)) atx26 seed27) <|
  spec_l1Cur_one ((L1Cur.mk c.Code atx seed)) 16 fun r70 r71 r72 =>
  br (r70) (spec_l1Cur_among ((L1Cur.mk c.Code r71 r72)) ([(-1), 0, 7]) fun r86 r87 r88 =>
  (ln out + ln ([r86])) * 8 ≤ 140737488355328 ∧ (
  Q (out ++ ([r86])) r87 r88)) <|
  Q out r71 r72) ([]) 0 c.At c.Seed

def spec_DrawIsCover (code : List B8) (Q : (List Variable) → (List Edit) → (List Int) → (List Int) → Prop) : Prop :=
  spec_l1Cur_mended ((L1Cur.mk code 0 0)) fun r2 r3 r4 r5 r6 r7 =>
  spec_l1Cur_someVars ((L1Cur.mk code r6 r7)) r2 fun r48 r49 r50 =>
  Q r2 r3 r5 r48

def impl_areVars (sx : List Variable) (vars : List Int) (Q : Bool → Prop) : Prop :=
  Loop2 (fun (last : Int) (x : Int) nx =>
  br (decide (x < (ln vars))) (idx vars x fun x7 =>
  jn (fun (k : Bool → Prop) => br (decide (x7 ≤ last)) (k true) <|
  k (decide (x7 ≥ (ln sx)))) <|
  fun (x13 : Bool) =>
  br (x13) (Q false) <|
  nx x7 (wr (x + 1))) <|
  Q true) ((-1)) 0

def impl_IsCover (sx : List Variable) (l : List Edit) (values : List Int) (vars : List Int) (Q : Bool → Bool → Prop) : Prop :=
  jn (fun (k : Bool → Prop) => impl_isSmall sx fun r24 =>
  br (!r24) (k true) <|
  impl_areEdits sx l fun r32 =>
  br (!r32) (k true) <|
  impl_areValues sx values fun r43 =>
  br (!r43) (k true) <|
  impl_areVars sx vars fun r57 =>
  k (!r57)) <|
  fun (x : Bool) =>
  br (x) (Q false false) <|
  impl_otherVars sx vars fun r72 =>
  impl_completionOf sx l r72 values fun r80 =>
  Q (!(ln r80 == 0)) true

def spec_l1Rising (l : List Int) (lo : Int) (hi : Int) (Q : Bool → Prop) : Prop :=
  Loop1 (fun (x : Int) nx =>
  br (decide (x < (ln l))) (idx l x fun x3 =>
  jn (fun (k : Bool → Prop) => spec_l1In x3 lo hi fun r14 =>
  br (!r14) (k true) <|
  br (decide (x > 0)) (idx l (wr (x - 1)) fun x21 =>
  k (decide (x21 ≥ x3))) <|
  k false) <|
  fun (x10 : Bool) =>
  br (x10) (Q false) <|
  nx (wr (x + 1))) <|
  Q true) 0

def spec_eSearch_free (x : ESearch) (sets : List Int) (Q : Bool → Prop) : Prop :=
  Loop1 (fun (x20 : Int) nx =>
  br (decide (x20 < (ln x.Passing))) (idx x.Passing x20 fun x24 =>
  spec_eFails ((Edit.mk sets)) x24 fun r33 =>
  br (r33) (Q false) <|
  nx (wr (x20 + 1))) <|
  Q true) 0

def spec_eSearch_grows (x : ESearch) (sets : List Int) (Q : Bool → Prop) : Prop :=
  Loop1 (fun (x20 : Int) nx =>
  br (decide (x20 < (ln sets))) (Loop1 (fun (level : Int) nx37 =>
  idx x.S x20 fun x38 =>
  br (decide (level < x38.Levels)) (jn (fun (k : Prop) => idx sets x20 fun x50 =>
  (0 : Int) ≤ (IntKind.u64.wrap (level)) ∧ (
  br ((bits .and .i64 (shr .i64 x50 (IntKind.u64.wrap (level))) 1) == 1) (k) <|
  spec_l1Own sets fun r60 =>
  idx r60 x20 fun x68 =>
  (0 : Int) ≤ (IntKind.u64.wrap (level)) ∧ (
  (0 : Int) ≤ x20 ∧ Int.toNat x20 < List.length r60 ∧ (
  spec_eSearch_free ((ESearch.mk x.S x.Passing x.V x.Out)) (List.set r60 (Int.toNat x20) (bits .or .i64 x68 (shl .i64 1 (IntKind.u64.wrap (level))))) fun r84 =>
  br (r84) (Q true) <|
  k)))) <|
  nx37 (wr (level + 1))) <|
  nx (wr (x20 + 1))) 0) <|
  Q false) 0

def spec_eSearch_run (x : ESearch) (k : Int) (sets : List Int) (Q : (List Edit) → Int → Prop) : Prop :=
  Rec3 (fun (self : ESearch → Int → (List Int) → ((List Edit) → Int → Prop) → Prop) (x : ESearch) (k : Int) (sets : List Int) (Q : (List Edit) → Int → Prop) =>
  br (k == (ln x.S)) (jn (fun (k39 : (List Edit) → Prop) => jn (fun (k48 : Bool → Prop) => spec_eSearch_free ((ESearch.mk x.S x.Passing x.V x.Out)) sets fun r50 =>
  br (r50) (spec_eSearch_grows ((ESearch.mk x.S x.Passing x.V x.Out)) sets fun r54 =>
  k48 (!r54)) <|
  k48 false) <|
  fun (x40 : Bool) =>
  br (x40) (spec_l1Own sets fun r80 =>
  (ln x.Out + ln ([((Edit.mk r80) : Edit)])) * 24 ≤ 140737488355328 ∧ (
  k39 (x.Out ++ ([((Edit.mk r80) : Edit)])))) <|
  k39 x.Out) <|
  fun (out : List Edit) =>
  Q out x.V) <|
  jn (fun (k156 : Int → Prop) => br (k == x.V) (spec_eFull x.S k fun r159 =>
  k156 r159) <|
  k156 1) <|
  fun (first : Int) =>
  Loop3 (fun (setx : Int) (vx168 : Int) (out169 : List Edit) nx =>
  spec_eFull x.S k fun r188 =>
  br (decide (setx ≤ r188)) (spec_l1Own sets fun r192 =>
  (ln r192 + ln ([setx])) * 8 ≤ 140737488355328 ∧ (
  self ((ESearch.mk x.S x.Passing vx168 out169)) (wr (k + 1)) (r192 ++ ([setx])) fun r228 r229 =>
  nx (wr (setx + 1)) r229 r228)) <|
  Q out169 vx168) first x.V x.Out) x k sets Q

def spec_eMaximal (sx : List Variable) (l : List Edit) (vx7 : Int) (Q : (List Edit) → Prop) : Prop :=
  Loop2 (fun (i : Int) (passing : List (List Int)) nx =>
  spec_sCount sx fun r25 =>
  br (decide (i < r25)) (jn (fun (k : (List (List Int)) → Prop) => spec_sAt sx i fun r50 =>
  spec_eFailed l r50 fun r60 =>
  br ((ln r60) == 0) ((ln passing + ln ([r50])) * 24 ≤ 140737488355328 ∧ (
  k (passing ++ ([r50])))) <|
  k passing) <|
  fun (passing34 : List (List Int)) =>
  nx (wr (i + 1)) passing34) <|
  spec_eSearch_run ((ESearch.mk sx passing vx7 ([]))) 0 ([]) fun r118 r119 =>
  Q r118) 0 ([])

def spec_eInvolved (sx : List Variable) (ex1 : Edit) (Q : (List Int) → Prop) : Prop :=
  Loop2 (fun (out : List Int) (x13 : Int) nx =>
  br (decide (x13 < (ln ex1.Sets))) (jn (fun (k : (List Int) → Prop) => idx ex1.Sets x13 fun x38 =>
  spec_eFull sx x13 fun r45 =>
  br (x38 != r45) ((ln out + ln ([x13])) * 8 ≤ 140737488355328 ∧ (
  k (out ++ ([x13])))) <|
  k out) <|
  fun (out24 : List Int) =>
  nx out24 (wr (x13 + 1))) <|
  Q out) ([]) 0

def spec_iShares (a : List Int) (b : List Int) (Q : Bool → Prop) : Prop :=
  Loop1 (fun (x : Int) nx =>
  br (decide (x < (ln a))) (idx a x fun x11 =>
  spec_l1Has b x11 fun r17 =>
  br (r17) (Q true) <|
  nx (wr (x + 1))) <|
  Q false) 0

def spec_IsCover (sx : List Variable) (l : List Edit) (values : List Int) (vars : List Int) (Q : Bool → Bool → Prop) : Prop :=
  jn (fun (k : Bool → Prop) => spec_eSmall sx l fun r24 =>
  br (!r24) (k true) <|
  spec_sFits sx values fun r32 =>
  br (!r32) (k true) <|
  spec_l1Rising vars 0 (wr ((ln sx) - 1)) fun r43 =>
  k (!r43)) <|
  fun (x : Bool) =>
  br (x) (Q false false) <|
  spec_eMaximal sx l ((-1)) fun r56 =>
  Loop1 (fun (x64 : Int) nx =>
  br (decide (x64 < (ln r56))) (idx r56 x64 fun x76 =>
  jn (fun (k110 : Bool → Prop) => spec_eFails ((Edit.mk x76.Sets)) values fun r112 =>
  br (r112) (spec_eInvolved sx ((Edit.mk x76.Sets)) fun r117 =>
  spec_iShares r117 vars fun r129 =>
  k110 (!r129)) <|
  k110 false) <|
  fun (x103 : Bool) =>
  br (x103) (Q false true) <|
  nx (wr (x64 + 1))) <|
  Q true true) 0

def laws_qInts (a : List Int) (b : List Int) (Q : Bool → Prop) : Prop :=
  br ((ln a) != (ln b)) (Q false) <|
  Loop1 (fun (x : Int) nx =>
  br (decide (x < (ln a))) (idx a x fun x12 =>
  idx b x fun x18 =>
  br (x12 != x18) (Q false) <|
  nx (wr (x + 1))) <|
  Q true) 0

def impl_mendValues (sx : List Variable) (l : List Edit) (weights : List Int) (values : List Int) (Q : (List Int) → Bool → Prop) : Prop :=
  impl_cheapestChange sx l weights values fun r19 r20 =>
  br (!r20) (Q ([]) false) <|
  impl_otherVars sx r19 fun r27 =>
  impl_completionOf sx l r27 values fun r38 =>
  Q r38 true

def impl_MendValues (sx : List Variable) (l : List Edit) (weights : List Int) (values : List Int) (Q : (List Int) → Bool → Prop) : Prop :=
  jn (fun (k : Bool → Prop) => impl_isMendable sx l weights fun r24 =>
  br (!r24) (k true) <|
  impl_areValues sx values fun r32 =>
  k (!r32)) <|
  fun (x : Bool) =>
  br (x) (Q ([]) false) <|
  impl_mendValues sx l weights values fun r43 r44 =>
  Q r43 r44

def impl_IsMend (sx : List Variable) (l : List Edit) (vars : List Int) (values : List Int) (mended : List Int) (Q : Bool → Bool → Prop) : Prop :=
  jn (fun (k : Bool → Prop) => impl_isSmall sx fun r31 =>
  br (!r31) (k true) <|
  impl_areEdits sx l fun r40 =>
  br (!r40) (k true) <|
  impl_areVars sx vars fun r52 =>
  br (!r52) (k true) <|
  impl_areValues sx values fun r67 =>
  k (!r67)) <|
  fun (x : Bool) =>
  br (x) (Q false false) <|
  jn (fun (k90 : Bool → Prop) => impl_areValues sx mended fun r92 =>
  br (!r92) (k90 true) <|
  impl_failsOne l mended fun r101 =>
  k90 r101) <|
  fun (x83 : Bool) =>
  br (x83) (Q false true) <|
  impl_otherVars sx vars fun r113 =>
  Loop1 (fun (x121 : Int) nx =>
  br (decide (x121 < (ln r113))) (idx r113 x121 fun x131 =>
  idx mended x131 fun x137 =>
  idx values x131 fun x146 =>
  br (x137 != x146) (Q false true) <|
  nx (wr (x121 + 1))) <|
  Q true true) 0

def impl_changeCost (weights : List Int) (a1 : List Int) (b : List Int) (Q : Int → Prop) : Prop :=
  Loop2 (fun (cost : Int) (x : Int) nx =>
  br (decide (x < (ln a1))) (jn (fun (k : Int → Prop) => idx a1 x fun x24 =>
  idx b x fun x30 =>
  br (x24 != x30) (idx weights x fun x42 =>
  k (wr (cost + x42))) <|
  k cost) <|
  fun (cost18 : Int) =>
  nx cost18 (wr (x + 1))) <|
  Q cost) 0 0

def impl_ChangeCost (sx : List Variable) (weights : List Int) (a7 : List Int) (b : List Int) (Q : Int → Bool → Prop) : Prop :=
  jn (fun (k : Bool → Prop) => impl_IsSchema sx fun r24 =>
  br (!r24) (k true) <|
  impl_areWeights sx weights fun r31 =>
  br (!r31) (k true) <|
  impl_areValues sx a7 fun r41 =>
  br (!r41) (k true) <|
  impl_areValues sx b fun r54 =>
  k (!r54)) <|
  fun (x : Bool) =>
  br (x) (Q 0 false) <|
  impl_changeCost weights a7 b fun r68 =>
  Q r68 true

def impl_failing (sx : List Variable) (l : List Edit) (Q : (List Bool) → Prop) : Prop :=
  impl_combinations sx fun r7 =>
  (0 : Int) ≤ r7 ∧ 1 * r7 ≤ 140737488355328 ∧ (
  Loop2 (fun (out : List Bool) (x20 : Int) nx =>
  br (decide (x20 < (ln (List.replicate (Int.toNat r7) false)))) (impl_valuesAt sx x20 fun r33 =>
  impl_failsOne l r33 fun r43 =>
  (0 : Int) ≤ x20 ∧ Int.toNat x20 < List.length out ∧ (
  nx (List.set out (Int.toNat x20) r43) (wr (x20 + 1)))) <|
  Q out) (List.replicate (Int.toNat r7) false) 0)

def impl_editKey (sx : List Variable) (sets : List Int) (Q : Int → Prop) : Prop :=
  Loop2 (fun (key : Int) (x : Int) nx =>
  br (decide (x < (ln sets))) (idx sets x fun x7 =>
  idx sx x fun x13 =>
  (0 : Int) ≤ x13.Levels ∧ (
  nx (bits .or .i64 (shl .i64 key x13.Levels) x7) (wr (x + 1)))) <|
  Q key) 0 0

def slices_Clone_int_int (sx : List Int) (Q : (List Int) → Prop) : Prop :=
  nilq sx fun z =>
  br (z) (Q ([])) <|
  (ln (([] : List Int)) + ln sx) * 8 ≤ 140737488355328 ∧ (
  Q ((([] : List Int)) ++ sx))

def impl_maximalEdits_1 (sets : List Int) (c1 : List (Int × Bool)) (c8 : List Variable) (c17 : List Edit) (Q : (List (Int × Bool)) → (List Edit) → Prop) : Prop :=
  det1 (impl_editKey c8 sets) fun r44 =>
  slices_Clone_int_int sets fun r58 =>
  (ln c17 + ln ([((Edit.mk r58) : Edit)])) * 24 ≤ 140737488355328 ∧ (
  Q (mput c1 r44 true) (c17 ++ ([((Edit.mk r58) : Edit)])))

def impl_impliedIn_impl_maximalEdits_1 (sx : List Variable) (inx : List Bool) (vx7 : Int) (sets : List Int) (c14 : List (Int × Bool)) (c21 : List Variable) (c30 : List Edit) (Q : (List (Int × Bool)) → (List Edit) → Prop) : Prop :=
  Rec7 (fun (self : (List Variable) → (List Bool) → Int → (List Int) → (List (Int × Bool)) → (List Variable) → (List Edit) → ((List (Int × Bool)) → (List Edit) → Prop) → Prop) (sx : List Variable) (inx : List Bool) (vx7 : Int) (sets : List Int) (c14 : List (Int × Bool)) (c21 : List Variable) (c30 : List Edit) (Q : (List (Int × Bool)) → (List Edit) → Prop) =>
  br ((ln sets) == (ln sx)) (jn (fun (k : (List (Int × Bool)) → (List Edit) → Prop) => idx inx 0 fun x84 =>
  br (x84) (impl_maximalEdits_1 sets c14 c21 c30 fun r92 r93 =>
  k r92 r93) <|
  k c14 c30) <|
  fun (mp : List (Int × Bool)) (x : List Edit) =>
  Q mp x) <|
  idx sx (ln sets) fun x112 =>
  x112.Levels ≠ 0 ∧ (
  jn (fun (k130 : Int → Prop) => br ((ln sets) == vx7) (idx sx (ln sets) fun x133 =>
  impl_fullSet x133 fun r142 =>
  k130 r142) <|
  k130 1) <|
  fun (least : Int) =>
  Loop3 (fun (setx : Int) (mp160 : List (Int × Bool)) (x165 : List Edit) nx =>
  idx sx (ln sets) fun x203 =>
  impl_fullSet x203 fun r212 =>
  br (decide (setx ≤ r212)) (jn (fun (k273 : (List (Int × Bool)) → (List Edit) → Prop) => (0 : Int) ≤ (wr (Int.tdiv (ln inx) x112.Levels)) ∧ 1 * (wr (Int.tdiv (ln inx) x112.Levels)) ≤ 140737488355328 ∧ (
  Loop3 (fun (rest : List Bool) (any : Bool) (x289 : Int) nx324 =>
  br (decide (x289 < (ln (List.replicate (Int.toNat (wr (Int.tdiv (ln inx) x112.Levels))) false)))) (jn (fun (k353 : (List Bool) → Bool → Prop) => (0 : Int) ≤ x289 ∧ Int.toNat x289 < List.length rest ∧ (
  idx sx (ln sets) fun x362 =>
  Loop2 (fun (rest370 : List Bool) (x376 : Int) nx410 =>
  br (decide (x376 < x362.Levels)) (jn (fun (k438 : (List Bool) → Prop) => idx rest370 x289 fun x440 =>
  br (x440) ((0 : Int) ≤ x376 ∧ (
  br ((bits .and .i64 (shr .i64 setx x376) 1) == 0) ((0 : Int) ≤ x289 ∧ Int.toNat x289 < List.length rest370 ∧ (
  k438 (List.set rest370 (Int.toNat x289) true))) <|
  idx inx (wr ((wr (x376 * (wr (Int.tdiv (ln inx) x112.Levels)))) + x289)) fun x473 =>
  (0 : Int) ≤ x289 ∧ Int.toNat x289 < List.length rest370 ∧ (
  k438 (List.set rest370 (Int.toNat x289) x473)))) <|
  (0 : Int) ≤ x289 ∧ Int.toNat x289 < List.length rest370 ∧ (
  k438 (List.set rest370 (Int.toNat x289) false))) <|
  fun (rest412 : List Bool) =>
  nx410 rest412 (wr (x376 + 1))) <|
  br (any) (k353 rest370 true) <|
  idx rest370 x289 fun x525 =>
  k353 rest370 x525) (List.set rest (Int.toNat x289) true) 0)) <|
  fun (rest326 : List Bool) (any332 : Bool) =>
  nx324 rest326 any332 (wr (x289 + 1))) <|
  br (any) ((ln sets + ln ([setx])) * 8 ≤ 140737488355328 ∧ (
  self sx rest vx7 (sets ++ ([setx])) mp160 c21 x165 fun r566 r567 =>
  k273 r566 r567)) <|
  k273 mp160 x165) (List.replicate (Int.toNat (wr (Int.tdiv (ln inx) x112.Levels))) false) false 0)) <|
  fun (mp231 : List (Int × Bool)) (x236 : List Edit) =>
  nx (wr (setx + 1)) mp231 x236) <|
  Q mp160 x165) least c14 c30)) sx inx vx7 sets c14 c21 c30 Q

def impl_canGrow (sx : List Variable) (implied : List (Int × Bool)) (ex5 : Edit) (Q : Bool → Prop) : Prop :=
  slices_Clone_int_int ex5.Sets fun r14 =>
  Loop2 (fun (sets : List Int) (x29 : Int) nx =>
  br (decide (x29 < (ln r14))) (idx sx x29 fun x42 =>
  Loop2 (fun (sets47 : List Int) (x53 : Int) nx63 =>
  br (decide (x53 < x42.Levels)) (jn (fun (k : (List Int) → Prop) => idx sets47 x29 fun x77 =>
  (0 : Int) ≤ x53 ∧ (
  br ((bits .and .i64 (shr .i64 x77 x53) 1) == 1) (k sets47) <|
  idx sets47 x29 fun x89 =>
  (0 : Int) ≤ x53 ∧ (
  (0 : Int) ≤ x29 ∧ Int.toNat x29 < List.length sets47 ∧ (
  impl_editKey sx (List.set sets47 (Int.toNat x29) (bits .or .i64 x89 (shl .i64 1 x53))) fun r111 =>
  idx (List.set sets47 (Int.toNat x29) (bits .or .i64 x89 (shl .i64 1 x53))) x29 fun x119 =>
  (0 : Int) ≤ x53 ∧ (
  (0 : Int) ≤ x29 ∧ Int.toNat x29 < List.length (List.set sets47 (Int.toNat x29) (bits .or .i64 x89 (shl .i64 1 x53))) ∧ (
  br (mget implied r111 false) (Q true) <|
  k (List.set (List.set sets47 (Int.toNat x29) (bits .or .i64 x89 (shl .i64 1 x53))) (Int.toNat x29) (bits .andNot .i64 x119 (shl .i64 1 x53))))))))) <|
  fun (sets65 : List Int) =>
  nx63 sets65 (wr (x53 + 1))) <|
  nx sets47 (wr (x29 + 1))) sets 0) <|
  Q false) r14 0

def impl_maximalEdits (sx : List Variable) (l : List Edit) (vx7 : Int) (Q : (List Edit) → Prop) : Prop :=
  impl_failing sx l fun r34 =>
  impl_impliedIn_impl_maximalEdits_1 sx r34 vx7 ([]) (([] : List (Int × Bool))) sx ([]) fun r62 r63 =>
  Loop2 (fun (out : List Edit) (x104 : Int) nx =>
  br (decide (x104 < (ln r63))) (jn (fun (k : (List Edit) → Prop) => idx r63 x104 fun x168 =>
  impl_canGrow sx r62 ((Edit.mk x168.Sets)) fun r195 =>
  br (!r195) ((ln out + ln ([((Edit.mk x168.Sets) : Edit)])) * 24 ≤ 140737488355328 ∧ (
  k (out ++ ([((Edit.mk x168.Sets) : Edit)])))) <|
  k out) <|
  fun (out141 : List Edit) =>
  nx out141 (wr (x104 + 1))) <|
  Q out) ([]) 0

def impl_involvedIn (sx : List Variable) (ex1 : Edit) (Q : (List Int) → Prop) : Prop :=
  Loop2 (fun (vars : List Int) (x13 : Int) nx =>
  br (decide (x13 < (ln ex1.Sets))) (jn (fun (k : (List Int) → Prop) => idx ex1.Sets x13 fun x38 =>
  idx sx x13 fun x45 =>
  impl_fullSet x45 fun r54 =>
  br (x38 != r54) ((ln vars + ln ([x13])) * 8 ≤ 140737488355328 ∧ (
  k (vars ++ ([x13])))) <|
  k vars) <|
  fun (vars24 : List Int) =>
  nx vars24 (wr (x13 + 1))) <|
  Q vars) ([]) 0

def impl_PackingBound (sx : List Variable) (l : List Edit) (weights : List Int) (values : List Int) (Q : Int → (List Int) → Bool → Prop) : Prop :=
  jn (fun (k : Bool → Prop) => impl_isMendable sx l weights fun r24 =>
  br (!r24) (k true) <|
  impl_areValues sx values fun r32 =>
  k (!r32)) <|
  fun (x : Bool) =>
  br (x) (Q 0 ([]) false) <|
  impl_maximalEdits sx l ((-1)) fun r43 =>
  Loop4 (fun (failed : List Int) (bounds : List Int) (masks : List Int) (x66 : Int) nx =>
  br (decide (x66 < (ln r43))) (jn (fun (k144 : (List Int) → (List Int) → (List Int) → Prop) => idx r43 x66 fun x146 =>
  impl_fails ((Edit.mk x146.Sets)) values fun r167 =>
  br (!r167) (k144 failed bounds masks) <|
  impl_involvedIn sx ((Edit.mk x146.Sets)) fun r183 =>
  Loop3 (fun (bound : Int) (mask : Int) (x195 : Int) nx200 =>
  br (decide (x195 < (ln r183))) (idx r183 x195 fun x202 =>
  idx weights x202 fun x211 =>
  (0 : Int) ≤ x202 ∧ (
  nx200 (mn bound x211) (bits .or .i64 mask (shl .i64 1 x202)) (wr (x195 + 1)))) <|
  jn (fun (k234 : Bool → Prop) => br (mask == 0) (k234 true) <|
  k234 ((ln failed) == 12)) <|
  fun (x232 : Bool) =>
  br (x232) (Q 0 ([]) false) <|
  (ln failed + ln ([x66])) * 8 ≤ 140737488355328 ∧ (
  (ln bounds + ln ([bound])) * 8 ≤ 140737488355328 ∧ (
  (ln masks + ln ([mask])) * 8 ≤ 140737488355328 ∧ (
  k144 (failed ++ ([x66])) (bounds ++ ([bound])) (masks ++ ([mask])))))) 101 0 0) <|
  fun (failed99 : List Int) (bounds105 : List Int) (masks111 : List Int) =>
  nx failed99 bounds105 masks111 (wr (x66 + 1))) <|
  Loop3 (fun (best : Int) (chosen : Int) (setx : Int) nx335 =>
  (0 : Int) ≤ (ln failed) ∧ (
  br (decide (setx < (shl .i64 1 (ln failed)))) (jn (fun (k345 : Int → Int → Prop) => jn (fun (k352 : Int → Prop) => impl_membersOf setx fun r354 =>
  Loop3 (fun (sum364 : Int) (used : Int) (x365 : Int) nx370 =>
  br (decide (x365 < (ln r354))) (idx r354 x365 fun x372 =>
  idx masks x372 fun x381 =>
  br ((bits .and .i64 used x381) != 0) (k352 ((-1))) <|
  idx masks x372 fun x395 =>
  idx bounds x372 fun x404 =>
  nx370 (wr (sum364 + x404)) (bits .or .i64 used x395) (wr (x365 + 1))) <|
  k352 sum364) 0 0 0) <|
  fun (sum : Int) =>
  br (decide (sum > best)) (k345 sum setx) <|
  k345 best chosen) <|
  fun (best338 : Int) (chosen339 : Int) =>
  nx335 best338 chosen339 (wr (setx + 1))) <|
  impl_membersOf chosen fun r419 =>
  Loop2 (fun (indices : List Int) (x434 : Int) nx448 =>
  br (decide (x434 < (ln r419))) (idx r419 x434 fun x450 =>
  idx failed x450 fun x459 =>
  (ln indices + ln ([x459])) * 8 ≤ 140737488355328 ∧ (
  nx448 (indices ++ ([x459])) (wr (x434 + 1)))) <|
  Q best indices true) ([]) 0)) 0 0 1) ([]) ([]) ([]) 0

def laws_FnMending (code : List B8) (more : List B8) (Q : Bool → Prop) : Prop :=
  br (decide ((wr ((ln code) + (ln more))) > 1048576)) (Q true) <|
  spec_DrawCheapestChange code fun r7 r8 r9 r10 =>
  impl_CheapestChange r7 r8 r9 r10 fun r42 r43 r44 =>
  spec_CheapestChange r7 r8 r9 r10 fun r54 r55 r56 =>
  spec_DrawIsCover more fun r70 r71 r72 r73 =>
  impl_IsCover r70 r71 r72 r73 fun r111 r112 =>
  spec_IsCover r70 r71 r72 r73 fun r115 r116 =>
  jn (fun (k : Bool → Prop) => br (r44 != r56) (k true) <|
  laws_qInts r42 r54 fun r150 =>
  br (!r150) (k true) <|
  br (r43 != r55) (k true) <|
  br (r112 != r116) (k true) <|
  k (r111 != r115)) <|
  fun (x141 : Bool) =>
  br (x141) (Q false) <|
  br (!r44) (Q true) <|
  impl_MendValues r7 r8 r9 r10 fun r182 r183 =>
  impl_IsMend r7 r8 r42 r10 r182 fun r193 r194 =>
  impl_ChangeCost r7 r9 r10 r182 fun r201 r202 =>
  impl_IsCover r7 r8 r10 r42 fun r210 r211 =>
  impl_PackingBound r7 r8 r9 r10 fun r219 r220 r221 =>
  jn (fun (k240 : Bool → Prop) => br (r183) (br (r194) (br (r202) (br (r211) (br (r193) (br (r210) (br (r201 == r43) (br (!r221) (k240 true) <|
  k240 (decide (r219 ≤ r43))) <|
  k240 false) <|
  k240 false) <|
  k240 false) <|
  k240 false) <|
  k240 false) <|
  k240 false) <|
  k240 false) <|
  fun (x238 : Bool) =>
  Q x238

end Go.Proofs.Ytklajcbpnpkniaa
