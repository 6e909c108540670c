/- What each Go function means: a definition over numbers and lists; Q: what is to hold of its results. -/
import Derived.Test.YtdaojggigfnnpaaLib
set_option linter.unusedVariables false
set_option autoImplicit false
namespace Go.Proofs.Ytdaojggigfnnpaa
open Go Go.RowKit Go.Gv

structure Variable where
  Name : ByteArray
  Levels : Int
instance : Wf Variable := ⟨fun x => Wf.wf x.Name ∧ Wf.wf x.Levels⟩
instance : Flat Variable where
  n := 2
  agg := true
  rd _ cs x := cs = [.string x.Name, I x.Levels]
  enc x := [.string x.Name, I x.Levels]
  len h := by subst h; rfl
  le _ h := h
  one h c hc := by subst h; simp at hc; rcases hc with rfl | rfl <;> rfl
  sing h := by cases h
  flat := Iff.rfl
theorem Variable_rv {h : PH} {v : Value} {x : Variable} (r : RV h v x) : v = .agg #[.string x.Name, I x.Levels] := by obtain ⟨cs, rfl, rfl⟩ := r; rfl
structure Edit where
  Sets : List Int
instance : Wf Edit := ⟨fun x => Wf.wf x.Sets⟩
instance : Deep Edit := Deep.via (fun x => x.Sets)
theorem Edit_rd {h : PH} {cs : List Value} {x : Edit} (r : Enc.rd h cs x) : ∃ u0, cs = [u0] ∧ RS h u0 x.Sets := by
  obtain ⟨u0, rfl, r0⟩ := r; exact ⟨_, rfl, r0⟩
theorem Edit_rv {h : PH} {v : Value} {x : Edit} (r : RV h v x) : ∃ u0, v = .agg #[u0] ∧ RS h u0 x.Sets := by
  obtain ⟨cs, hr, rfl⟩ := r; obtain ⟨u0, rfl, r0⟩ := Edit_rd hr; exact ⟨_, rfl, r0⟩
theorem Edit_tk {h : PH} {c : List Value} {x : Edit} (b : Deep.own h c x) : ∃ u, c = [u] ∧ OD h u x.Sets := by
  have o := b
  obtain ⟨u, rfl, q⟩ := o
  refine ⟨u, rfl, ?_⟩
  simpa only [emp_un, un_emp] using q
theorem Edit_bw0 {h hi rest : PH} {v : Value} {xs : List Edit} {i : Nat} {c : List Value} {x : Edit} (b : Bw h v xs i hi rest c x) : ∃ u0 hl rs, c = [u0] ∧ BwG h v xs hl rs u0 x.Sets (fun y => xs.set i {x with Sets := y}) := by
  have o := b.own
  obtain ⟨u0, rfl, q0⟩ := o
  exact ⟨_, _, _, rfl, b.fc (Fc.via (fun x : Edit => x.Sets) (Fc.here q0) fun _ => rfl)⟩
structure L1Cur where
  Code : List B8
  At : Int
  Seed : Int
structure ESearch where
  S : List Variable
  Passing : List (List Int)
  V : Int
  Out : List Edit
instance : Wf ESearch := ⟨fun x => Wf.wf x.S ∧ Wf.wf x.Passing ∧ Wf.wf x.V ∧ Wf.wf x.Out⟩
instance : Deep ESearch := Deep.via (fun x => (x.S, x.Passing, x.V, x.Out))
theorem ESearch_rd {h : PH} {cs : List Value} {x : ESearch} (r : Enc.rd h cs x) : ∃ u0 u1 u2, cs = [u0, u1, I x.V, u2] ∧ RS h u0 x.S ∧ RS h u1 x.Passing ∧ RS h u2 x.Out := by
  obtain ⟨_, _, rfl, ⟨u0, rfl, r0⟩, ⟨_, _, rfl, ⟨u1, rfl, r1⟩, ⟨_, _, rfl, rfl, ⟨u2, rfl, r2⟩⟩⟩⟩ := r; exact ⟨_, _, _, rfl, r0, r1, r2⟩
theorem ESearch_rv {h : PH} {v : Value} {x : ESearch} (r : RV h v x) : ∃ u0 u1 u2, v = .agg #[u0, u1, I x.V, u2] ∧ RS h u0 x.S ∧ RS h u1 x.Passing ∧ RS h u2 x.Out := by
  obtain ⟨cs, hr, rfl⟩ := r; obtain ⟨u0, u1, u2, rfl, r0, r1, r2⟩ := ESearch_rd hr; exact ⟨_, _, _, rfl, r0, r1, r2⟩
theorem ESearch_bw0 {h hi rest : PH} {v : Value} {xs : List ESearch} {i : Nat} {c : List Value} {x : ESearch} (b : Bw h v xs i hi rest c x) : ∃ u0 u1 u2 hl rs, c = [u0, u1, I x.V, u2] ∧ BwG h v xs hl rs u0 x.S (fun y => xs.set i {x with S := y}) := by
  have o := b.own
  obtain ⟨_, _, _, _, rfl, rfl, d0, p0, n0⟩ := o
  obtain ⟨u0, rfl, q0⟩ := p0
  obtain ⟨_, _, _, _, rfl, rfl, d1, p1, n1⟩ := n0
  obtain ⟨u1, rfl, q1⟩ := p1
  obtain ⟨_, _, _, _, rfl, rfl, d2, p2, n2⟩ := n1
  obtain ⟨rfl, rfl⟩ := own_flat p2
  obtain ⟨u2, rfl, q2⟩ := n2
  exact ⟨_, _, _, _, _, rfl, b.fc (Fc.via (fun x : ESearch => (x.S, x.Passing, x.V, x.Out)) (Fc.left (Fc.here q0) ⟨[u1], [I x.V, u2], _, _, rfl, rfl, d1, ⟨u1, rfl, q1⟩, ⟨[I x.V], [u2], _, _, rfl, rfl, d2, (flat_own x.V), ⟨u2, rfl, q2⟩⟩⟩ d0) fun _ => rfl)⟩
theorem ESearch_bw1 {h hi rest : PH} {v : Value} {xs : List ESearch} {i : Nat} {c : List Value} {x : ESearch} (b : Bw h v xs i hi rest c x) : ∃ u0 u1 u2 hl rs, c = [u0, u1, I x.V, u2] ∧ BwG h v xs hl rs u1 x.Passing (fun y => xs.set i {x with Passing := y}) := by
  have o := b.own
  obtain ⟨_, _, _, _, rfl, rfl, d0, p0, n0⟩ := o
  obtain ⟨u0, rfl, q0⟩ := p0
  obtain ⟨_, _, _, _, rfl, rfl, d1, p1, n1⟩ := n0
  obtain ⟨u1, rfl, q1⟩ := p1
  obtain ⟨_, _, _, _, rfl, rfl, d2, p2, n2⟩ := n1
  obtain ⟨rfl, rfl⟩ := own_flat p2
  obtain ⟨u2, rfl, q2⟩ := n2
  exact ⟨_, _, _, _, _, rfl, b.fc (Fc.via (fun x : ESearch => (x.S, x.Passing, x.V, x.Out)) (Fc.right ⟨u0, rfl, q0⟩ (Fc.left (Fc.here q1) ⟨[I x.V], [u2], _, _, rfl, rfl, d2, (flat_own x.V), ⟨u2, rfl, q2⟩⟩ d1) d0) fun _ => rfl)⟩
theorem ESearch_ft2 {x : ESearch} {k : Int} : FTurn x {x with V := k} 2 [I k] := by
  intro _ _ o
  obtain ⟨_, _, _, _, rfl, rfl, d0, p0, n0⟩ := o
  obtain ⟨u0, rfl, q0⟩ := p0
  obtain ⟨_, _, _, _, rfl, rfl, d1, p1, n1⟩ := n0
  obtain ⟨u1, rfl, q1⟩ := p1
  obtain ⟨_, _, _, _, rfl, rfl, d2, p2, n2⟩ := n1
  obtain ⟨rfl, rfl⟩ := own_flat p2
  obtain ⟨u2, rfl, q2⟩ := n2
  exact ⟨[u0], [u1, I k, u2], _, _, rfl, rfl, d0, ⟨u0, rfl, q0⟩, ⟨[u1], [I k, u2], _, _, rfl, rfl, d1, ⟨u1, rfl, q1⟩, ⟨[I k], [u2], _, _, rfl, rfl, d2, (flat_own k), ⟨u2, rfl, q2⟩⟩⟩⟩
theorem ESearch_bw3 {h hi rest : PH} {v : Value} {xs : List ESearch} {i : Nat} {c : List Value} {x : ESearch} (b : Bw h v xs i hi rest c x) : ∃ u0 u1 u2 hl rs, c = [u0, u1, I x.V, u2] ∧ BwG h v xs hl rs u2 x.Out (fun y => xs.set i {x with Out := y}) := by
  have o := b.own
  obtain ⟨_, _, _, _, rfl, rfl, d0, p0, n0⟩ := o
  obtain ⟨u0, rfl, q0⟩ := p0
  obtain ⟨_, _, _, _, rfl, rfl, d1, p1, n1⟩ := n0
  obtain ⟨u1, rfl, q1⟩ := p1
  obtain ⟨_, _, _, _, rfl, rfl, d2, p2, n2⟩ := n1
  obtain ⟨rfl, rfl⟩ := own_flat p2
  obtain ⟨u2, rfl, q2⟩ := n2
  exact ⟨_, _, _, _, _, rfl, b.fc (Fc.via (fun x : ESearch => (x.S, x.Passing, x.V, x.Out)) (Fc.right ⟨u0, rfl, q0⟩ (Fc.right ⟨u1, rfl, q1⟩ (Fc.right (flat_own x.V) (Fc.here q2) d2) d1) d0) fun _ => rfl)⟩

def laws_big (code : List B8) (more : List B8) (Q : Bool → Prop) : Prop :=
  jn (fun (k : Bool → Prop) => br (decide ((ln code) > 1048576)) (k true) <|
  k (decide ((ln more) > (wr (1048576 - (ln code)))))) <|
  fun (x : Bool) =>
  Q x

def spec_l1Cur_next (c : L1Cur) (Q : Int → Int → Int → Prop) : Prop :=
  jn (fun (k : Int → Prop) => br (decide (c.At < (ln c.Code))) (idx c.Code c.At fun x9 =>
  k (wr (x9.v))) <|
  k 0) <|
  fun (b3 : Int) =>
  br (decide ((wr (c.At + 1)) ≤ (ln c.Code))) (Q b3 (wr (c.At + 1)) (IntKind.u64.wrap ((IntKind.u64.wrap ((IntKind.u64.wrap (c.Seed * 6364136223846793005)) + (IntKind.u64.wrap (b3)))) + 1442695040888963407))) <|
  Q (wr (bits .and .u64 (Int.fdiv (IntKind.u64.wrap ((IntKind.u64.wrap ((IntKind.u64.wrap (c.Seed * 6364136223846793005)) + (IntKind.u64.wrap (b3)))) + 1442695040888963407)) (2 ^ 40)) 255)) (wr (c.At + 1)) (IntKind.u64.wrap ((IntKind.u64.wrap ((IntKind.u64.wrap (c.Seed * 6364136223846793005)) + (IntKind.u64.wrap (b3)))) + 1442695040888963407))

def spec_l1Cur_pick (c : L1Cur) (n : Int) (Q : Int → Int → Int → Prop) : Prop :=
  br (decide (n ≤ 1)) (Q 0 c.At c.Seed) <|
  spec_l1Cur_next ((L1Cur.mk c.Code c.At c.Seed)) fun r3 r4 r5 =>
  jn (fun (k : Int → Int → Int → Prop) => br (decide (n > 200)) (spec_l1Cur_next ((L1Cur.mk c.Code r4 r5)) fun r15 r16 r17 =>
  k (wr ((wr (r3 * 256)) + r15)) r16 r17) <|
  k r3 r4 r5) <|
  fun (x9 : Int) (atx : Int) (seed : Int) =>
  n ≠ 0 ∧ (
  Q (Int.tmod x9 n) atx seed)

def spec_l1Cur_schema (c : L1Cur) (Q : (List Variable) → Int → Int → Prop) : Prop :=
  Loop4 (fun (out : List Variable) (k : Int) (atx : Int) (seed : Int) nx =>
  spec_l1Cur_pick ((L1Cur.mk c.Code atx seed)) 3 fun r26 r27 r28 =>
  br (decide (k < (wr (1 + r26)))) (idx ([(ByteArray.mk #[115, 101, 120]), (ByteArray.mk #[97, 103, 101]), (ByteArray.mk #[106, 111, 98]), (ByteArray.mk #[104, 111, 109, 101]), (ByteArray.mk #[115, 105, 122, 101]), (ByteArray.mk #[108, 97, 110, 103])]) k fun x34 =>
  spec_l1Cur_pick ((L1Cur.mk c.Code r27 r28)) 3 fun r46 r47 r48 =>
  (ln out + ln ([(Variable.mk x34 (wr (2 + r46)))])) * 24 ≤ 140737488355328 ∧ (
  nx (out ++ ([(Variable.mk x34 (wr (2 + r46)))])) (wr (k + 1)) r47 r48)) <|
  Q out r27 r28) ([]) 0 c.At c.Seed

def spec_l1Cur_among (c : L1Cur) (list : List Int) (Q : Int → Int → Int → Prop) : Prop :=
  spec_l1Cur_pick ((L1Cur.mk c.Code c.At c.Seed)) (ln list) fun r10 r11 r12 =>
  idx list r10 fun x14 =>
  Q x14 r11 r12

def spec_l1Cur_of (c : L1Cur) (list : List ByteArray) (Q : ByteArray → Int → Int → Prop) : Prop :=
  spec_l1Cur_pick ((L1Cur.mk c.Code c.At c.Seed)) (ln list) fun r10 r11 r12 =>
  idx list r10 fun x14 =>
  Q x14 r11 r12

def spec_l1Cur_anySchema (c : L1Cur) (Q : (List Variable) → Int → Int → Prop) : Prop :=
  spec_l1Cur_schema ((L1Cur.mk c.Code c.At c.Seed)) fun r3 r4 r5 =>
  jn (fun (k : (List Variable) → Int → Int → Prop) => spec_l1Cur_pick ((L1Cur.mk c.Code r4 r5)) 24 fun r29 r30 r31 =>
  br (r29 == 0) (spec_l1Cur_among ((L1Cur.mk c.Code r30 r31)) ([1, 8, 9]) fun r44 r45 r46 =>
  idx r3 0 fun x52 =>
  k (List.set r3 (Int.toNat 0) ({x52 with Levels := r44} : Variable)) r45 r46) <|
  br (r29 == 1) (spec_l1Cur_of ((L1Cur.mk c.Code r30 r31)) ([(ByteArray.mk #[]), (ByteArray.mk #[65, 103, 101]), (ByteArray.mk #[97, 98, 99, 100, 101, 102, 103, 104, 105]), (ByteArray.mk #[97, 103, 101]), (ByteArray.mk #[97, 98, 32, 99, 100])]) fun r76 r77 r78 =>
  idx r3 0 fun x84 =>
  k (List.set r3 (Int.toNat 0) ({x84 with Name := r76} : Variable)) r77 r78) <|
  br (r29 == 2) (Q ([]) r30 r31) <|
  br (r29 == 3) (Loop3 (fun (sx105 : List Variable) (atx111 : Int) (seed112 : Int) nx =>
  spec_l1Cur_pick ((L1Cur.mk c.Code atx111 seed112)) 2 fun r124 r125 r126 =>
  br (decide ((ln sx105) < (wr (6 + r124)))) (sln ((ByteArray.mk #[120])) + sln (b2s ([(B8.mk (IntKind.u8.wrap (wr (97 + (ln sx105)))))])) ≤ 9223372036854775807 ∧ (
  (ln sx105 + ln ([(Variable.mk (((ByteArray.mk #[120])) ++ (b2s ([(B8.mk (IntKind.u8.wrap (wr (97 + (ln sx105)))))]))) 2)])) * 24 ≤ 140737488355328 ∧ (
  nx (sx105 ++ ([(Variable.mk (((ByteArray.mk #[120])) ++ (b2s ([(B8.mk (IntKind.u8.wrap (wr (97 + (ln sx105)))))]))) 2)])) r125 r126))) <|
  k sx105 r125 r126) r3 r30 r31) <|
  k r3 r30 r31) <|
  fun (sx : List Variable) (atx : Int) (seed : Int) =>
  Q sx atx seed

def spec_l1In (n : Int) (lo : Int) (hi : Int) (Q : Bool → Prop) : Prop :=
  jn (fun (k : Bool → Prop) => br (decide (n ≥ lo)) (k (decide (n ≤ hi))) <|
  k false) <|
  fun (x : Bool) =>
  Q x

def spec_sName (sx : ByteArray) (Q : Bool → Prop) : Prop :=
  Loop1 (fun (i : Int) nx =>
  br (decide (i < (sln sx))) (jn (fun (k : Bool → Prop) => sidx sx i fun c =>
  br (decide ((c) < 97)) (k true) <|
  sidx sx i fun c3 =>
  k (decide ((c3) > 122))) <|
  fun (x : Bool) =>
  br (x) (Q false) <|
  nx (wr (i + 1))) <|
  spec_l1In (sln sx) 1 8 fun r =>
  Q r) 0

def spec_sFind (sx : List Variable) (name : ByteArray) (Q : Int → Prop) : Prop :=
  Loop1 (fun (x : Int) nx =>
  br (decide (x < (ln sx))) (idx sx x fun x3 =>
  br (streq x3.Name name) (Q x) <|
  nx (wr (x + 1))) <|
  Q ((-1))) 0

def spec_sGood (sx : List Variable) (Q : Bool → Prop) : Prop :=
  spec_l1In (ln sx) 1 6 fun r1 =>
  br (!r1) (Q false) <|
  Loop1 (fun (x3 : Int) nx =>
  br (decide (x3 < (ln sx))) (idx sx x3 fun x10 =>
  jn (fun (k : Bool → Prop) => det1 (spec_sName x10.Name) fun r28 =>
  br (!r28) (k true) <|
  det1 (spec_l1In x10.Levels 2 8) fun r36 =>
  br (!r36) (k true) <|
  (0 : Int) ≤ 0 ∧ 0 ≤ x3 ∧ x3 ≤ ln sx ∧ (
  det1 (spec_sFind (List.take (Int.toNat x3 - Int.toNat 0) (List.drop (Int.toNat 0) sx)) x10.Name) fun r49 =>
  k (decide (r49 ≥ 0)))) <|
  fun (x24 : Bool) =>
  br (x24) (Q false) <|
  nx (wr (x3 + 1))) <|
  Q true) 0

def spec_eFull (sx : List Variable) (vx1 : Int) (Q : Int → Prop) : Prop :=
  idx sx vx1 fun x =>
  (0 : Int) ≤ (IntKind.u64.wrap (x.Levels)) ∧ (
  Q (wr ((shl .i64 1 (IntKind.u64.wrap (x.Levels))) - 1)))

def spec_l1Cur_one (c : L1Cur) (n : Int) (Q : Bool → Int → Int → Prop) : Prop :=
  spec_l1Cur_pick ((L1Cur.mk c.Code c.At c.Seed)) n fun r3 r4 r5 =>
  Q (r3 == 0) r4 r5

def spec_l1Cur_edit (c : L1Cur) (sx : List Variable) (Q : Edit → Int → Int → Prop) : Prop :=
  Loop4 (fun (x19 : Int) (atx : Int) (seed : Int) (sets : List Int) nx =>
  br (decide (x19 < (ln sx))) (spec_eFull sx x19 fun r48 =>
  jn (fun (k : Int → Int → Int → Prop) => spec_l1Cur_one ((L1Cur.mk c.Code atx seed)) 3 fun r70 r71 r72 =>
  br (!r70) (spec_l1Cur_pick ((L1Cur.mk c.Code r71 r72)) r48 fun r77 r78 r79 =>
  k (wr (1 + r77)) r78 r79) <|
  k r48 r71 r72) <|
  fun (x59 : Int) (atx60 : Int) (seed61 : Int) =>
  (ln sets + ln ([x59])) * 8 ≤ 140737488355328 ∧ (
  nx (wr (x19 + 1)) atx60 seed61 (sets ++ ([x59])))) <|
  Q ((Edit.mk sets)) atx seed) 0 c.At c.Seed ([])

def spec_l1Cur_anyEdit (c : L1Cur) (sx : List Variable) (Q : Edit → Int → Int → Prop) : Prop :=
  spec_sGood sx fun r12 =>
  br (!r12) (Q ((Edit.mk ([1]))) c.At c.Seed) <|
  spec_l1Cur_edit ((L1Cur.mk c.Code c.At c.Seed)) sx fun r37 r38 r39 =>
  jn (fun (k : Int → Int → (List Int) → Prop) => spec_l1Cur_pick ((L1Cur.mk c.Code r38 r39)) 24 fun r92 r93 r94 =>
  br (r92 == 0) ((
  spec_l1Cur_pick ((L1Cur.mk c.Code r93 r94)) (ln r37.Sets) fun r109 r110 r111 =>
  spec_l1Cur_among ((L1Cur.mk c.Code r110 r111)) ([0, (-1), 256, 4]) fun r135 r136 r137 =>
  (0 : Int) ≤ r109 ∧ Int.toNat r109 < List.length r37.Sets ∧ (
  k r136 r137 (List.set r37.Sets (Int.toNat r109) r135))) ∧ (
  spec_l1Cur_pick ((L1Cur.mk c.Code r93 r94)) (ln r37.Sets) fun r184 r185 r186 =>
  spec_l1Cur_among ((L1Cur.mk c.Code r185 r186)) ([0, (-1), 256, 4]) fun r197 r198 r199 =>
  (0 : Int) ≤ r184 ∧ Int.toNat r184 < List.length r37.Sets ∧ (
  k r198 r199 (List.set r37.Sets (Int.toNat r184) r197)))) <|
  br (r92 == 1) ((ln r37.Sets + ln ([1])) * 8 ≤ 140737488355328 ∧ (
  k r93 r94 (r37.Sets ++ ([1])))) <|
  k r93 r94 r37.Sets) <|
  fun (atx : Int) (seed : Int) (sets : List Int) =>
  Q ((Edit.mk sets)) atx seed

def spec_l1Own (l : List Int) (Q : (List Int) → Prop) : Prop :=
  (ln (([] : List Int)) + ln l) * 8 ≤ 140737488355328 ∧ (
  Q ((([] : List Int)) ++ l))

def spec_l1Cur_edits (c : L1Cur) (sx : List Variable) (Q : (List Edit) → Int → Int → Prop) : Prop :=
  spec_l1Cur_pick ((L1Cur.mk c.Code c.At c.Seed)) 6 fun r10 r11 r12 =>
  Loop4 (fun (l : List Edit) (k : Int) (atx : Int) (seed : Int) nx =>
  br (decide (k > 0)) (spec_l1Cur_anyEdit ((L1Cur.mk c.Code atx seed)) sx fun r30 r31 r32 =>
  (ln l + ln ([((Edit.mk r30.Sets) : Edit)])) * 24 ≤ 140737488355328 ∧ (
  nx (l ++ ([((Edit.mk r30.Sets) : Edit)])) (wr (k - 1)) r31 r32)) <|
  jn (fun (k92 : (List Edit) → Int → Int → Prop) => spec_l1Cur_one ((L1Cur.mk c.Code atx seed)) 40 fun r93 r94 r95 =>
  br (r93) (spec_l1Cur_anyEdit ((L1Cur.mk c.Code r94 r95)) sx fun r100 r101 r102 =>
  spec_l1Cur_pick ((L1Cur.mk c.Code r101 r102)) 2 fun r124 r125 r126 =>
  Loop1 (fun (l133 : List Edit) nx163 =>
  br (decide ((ln l133) < (wr (40 + r124)))) (spec_l1Own r100.Sets fun r165 =>
  (ln l133 + ln ([((Edit.mk r165) : Edit)])) * 24 ≤ 140737488355328 ∧ (
  nx163 (l133 ++ ([((Edit.mk r165) : Edit)])))) <|
  k92 l133 r125 r126) l) <|
  k92 l r94 r95) <|
  fun (l76 : List Edit) (atx82 : Int) (seed83 : Int) =>
  Q l76 atx82 seed83) ([]) r10 r11 r12

def spec_DrawCountPassing (code : List B8) (Q : (List Variable) → (List Edit) → Prop) : Prop :=
  spec_l1Cur_anySchema ((L1Cur.mk code 0 0)) fun r2 r3 r4 =>
  spec_l1Cur_edits ((L1Cur.mk code r3 r4)) r2 fun r15 r16 r17 =>
  Q r2 r15

def spec_DrawEliminateVariable (code : List B8) (Q : (List Variable) → (List Edit) → Int → Prop) : Prop :=
  spec_DrawCountPassing code fun r2 r3 =>
  spec_l1Cur_pick ((L1Cur.mk code 0 0)) 4 fun r20 r21 r22 =>
  spec_l1Cur_pick ((L1Cur.mk code r21 r22)) 20 fun r28 r29 r30 =>
  Q r2 r3 (wr (r20 - (wr (Int.tdiv r28 19))))

def impl_isWord (sx : ByteArray) (Q : Bool → Prop) : Prop :=
  jn (fun (k : Bool → Prop) => br (decide ((sln sx) < 1)) (k true) <|
  k (decide ((sln sx) > 8))) <|
  fun (x : Bool) =>
  br (x) (Q false) <|
  Loop1 (fun (x2 : Int) nx =>
  br (decide (x2 < (sln sx))) (jn (fun (k7 : Bool → Prop) => sidx sx x2 fun c =>
  br (decide ((c) < 97)) (k7 true) <|
  sidx sx x2 fun c10 =>
  k7 (decide ((c10) > 122))) <|
  fun (x5 : Bool) =>
  br (x5) (Q false) <|
  nx (wr (x2 + 1))) <|
  Q true) 0

def impl_IsSchema (sx : List Variable) (Q : Bool → Prop) : Prop :=
  jn (fun (k : Bool → Prop) => br (decide ((ln sx) < 1)) (k true) <|
  k (decide ((ln sx) > 6))) <|
  fun (x : Bool) =>
  br (x) (Q false) <|
  Loop1 (fun (x2 : Int) nx =>
  br (decide (x2 < (ln sx))) (idx sx x2 fun x7 =>
  jn (fun (k26 : Bool → Prop) => impl_isWord x7.Name fun r28 =>
  br (!r28) (k26 true) <|
  br (decide (x7.Levels < 2)) (k26 true) <|
  k26 (decide (x7.Levels > 8))) <|
  fun (x21 : Bool) =>
  br (x21) (Q false) <|
  (0 : Int) ≤ 0 ∧ 0 ≤ x2 ∧ x2 ≤ ln sx ∧ (
  Loop1 (fun (x46 : Int) nx54 =>
  br (decide (x46 < (ln (List.take (Int.toNat x2 - Int.toNat 0) (List.drop (Int.toNat 0) sx))))) (idx (List.take (Int.toNat x2 - Int.toNat 0) (List.drop (Int.toNat 0) sx)) x46 fun x56 =>
  br (streq x56.Name x7.Name) (Q false) <|
  nx54 (wr (x46 + 1))) <|
  nx (wr (x2 + 1))) 0)) <|
  Q true) 0

def impl_combinations (sx : List Variable) (Q : Int → Prop) : Prop :=
  Loop2 (fun (n : Int) (x : Int) nx =>
  br (decide (x < (ln sx))) (idx sx x fun x3 =>
  nx (wr (n * x3.Levels)) (wr (x + 1))) <|
  Q n) 1 0

def impl_isSmall (sx : List Variable) (Q : Bool → Prop) : Prop :=
  jn (fun (k : Bool → Prop) => impl_IsSchema sx fun r2 =>
  br (r2) (impl_combinations sx fun r5 =>
  k (decide (r5 ≤ 100))) <|
  k false) <|
  fun (x : Bool) =>
  Q x

def impl_fullSet (vx : Variable) (Q : Int → Prop) : Prop :=
  (0 : Int) ≤ vx.Levels ∧ (
  Q (wr ((shl .i64 1 vx.Levels) - 1)))

def impl_isEdit (sx : List Variable) (ex1 : Edit) (Q : Bool → Prop) : Prop :=
  br ((ln ex1.Sets) != (ln sx)) (Q false) <|
  Loop1 (fun (x10 : Int) nx =>
  br (decide (x10 < (ln ex1.Sets))) (idx ex1.Sets x10 fun x19 =>
  jn (fun (k : Bool → Prop) => br (decide (x19 < 1)) (k true) <|
  idx sx x10 fun x31 =>
  impl_fullSet x31 fun r40 =>
  k (decide (x19 > r40))) <|
  fun (x25 : Bool) =>
  br (x25) (Q false) <|
  nx (wr (x10 + 1))) <|
  Q true) 0

def impl_areEdits (sx : List Variable) (l : List Edit) (Q : Bool → Prop) : Prop :=
  br (decide ((ln l) > 40)) (Q false) <|
  Loop1 (fun (x : Int) nx =>
  br (decide (x < (ln l))) (idx l x fun x11 =>
  impl_isEdit sx ((Edit.mk x11.Sets)) fun r30 =>
  br (!r30) (Q false) <|
  nx (wr (x + 1))) <|
  Q true) 0

def impl_valuesAt (sx : List Variable) (i : Int) (Q : (List Int) → Prop) : Prop :=
  (0 : Int) ≤ (ln sx) ∧ 8 * (ln sx) ≤ 140737488355328 ∧ (
  Loop3 (fun (i6 : Int) (values : List Int) (k : Int) nx =>
  br (decide (k ≥ 0)) (idx sx k fun x18 =>
  x18.Levels ≠ 0 ∧ (
  (0 : Int) ≤ k ∧ Int.toNat k < List.length values ∧ (
  idx sx k fun x29 =>
  x29.Levels ≠ 0 ∧ (
  nx (wr (Int.tdiv i6 x29.Levels)) (List.set values (Int.toNat k) (Int.tmod i6 x18.Levels)) (wr (k - 1)))))) <|
  Q values) i (List.replicate (Int.toNat (ln sx)) ((0 : Int))) (wr ((ln sx) - 1)))

def impl_fails (ex : Edit) (values : List Int) (Q : Bool → Prop) : Prop :=
  Loop1 (fun (x9 : Int) nx =>
  br (decide (x9 < (ln values))) (idx values x9 fun x11 =>
  idx ex.Sets x9 fun x18 =>
  (0 : Int) ≤ x11 ∧ (
  br ((bits .and .i64 (shr .i64 x18 x11) 1) == 0) (Q false) <|
  nx (wr (x9 + 1)))) <|
  Q true) 0

def impl_failsOne (l : List Edit) (values : List Int) (Q : Bool → Prop) : Prop :=
  Loop1 (fun (x : Int) nx =>
  br (decide (x < (ln l))) (idx l x fun x10 =>
  impl_fails ((Edit.mk x10.Sets)) values fun r29 =>
  br (r29) (Q true) <|
  nx (wr (x + 1))) <|
  Q false) 0

def impl_failing (sx : List Variable) (l : List Edit) (Q : (List Bool) → Prop) : Prop :=
  impl_combinations sx fun r7 =>
  (0 : Int) ≤ r7 ∧ 1 * r7 ≤ 140737488355328 ∧ (
  Loop2 (fun (out : List Bool) (x20 : Int) nx =>
  br (decide (x20 < (ln (List.replicate (Int.toNat r7) false)))) (impl_valuesAt sx x20 fun r33 =>
  impl_failsOne l r33 fun r43 =>
  (0 : Int) ≤ x20 ∧ Int.toNat x20 < List.length out ∧ (
  nx (List.set out (Int.toNat x20) r43) (wr (x20 + 1)))) <|
  Q out) (List.replicate (Int.toNat r7) false) 0)

def impl_editKey (sx : List Variable) (sets : List Int) (Q : Int → Prop) : Prop :=
  Loop2 (fun (key : Int) (x : Int) nx =>
  br (decide (x < (ln sets))) (idx sets x fun x7 =>
  idx sx x fun x13 =>
  (0 : Int) ≤ x13.Levels ∧ (
  nx (bits .or .i64 (shl .i64 key x13.Levels) x7) (wr (x + 1)))) <|
  Q key) 0 0

def slices_Clone_int_int (sx : List Int) (Q : (List Int) → Prop) : Prop :=
  nilq sx fun z =>
  br (z) (Q ([])) <|
  (ln (([] : List Int)) + ln sx) * 8 ≤ 140737488355328 ∧ (
  Q ((([] : List Int)) ++ sx))

def impl_maximalEdits_1 (sets : List Int) (c1 : List (Int × Bool)) (c8 : List Variable) (c17 : List Edit) (Q : (List (Int × Bool)) → (List Edit) → Prop) : Prop :=
  det1 (impl_editKey c8 sets) fun r44 =>
  slices_Clone_int_int sets fun r58 =>
  (ln c17 + ln ([((Edit.mk r58) : Edit)])) * 24 ≤ 140737488355328 ∧ (
  Q (mput c1 r44 true) (c17 ++ ([((Edit.mk r58) : Edit)])))

def impl_impliedIn_impl_maximalEdits_1 (sx : List Variable) (inx : List Bool) (vx7 : Int) (sets : List Int) (c14 : List (Int × Bool)) (c21 : List Variable) (c30 : List Edit) (Q : (List (Int × Bool)) → (List Edit) → Prop) : Prop :=
  Rec7 (fun (self : (List Variable) → (List Bool) → Int → (List Int) → (List (Int × Bool)) → (List Variable) → (List Edit) → ((List (Int × Bool)) → (List Edit) → Prop) → Prop) (sx : List Variable) (inx : List Bool) (vx7 : Int) (sets : List Int) (c14 : List (Int × Bool)) (c21 : List Variable) (c30 : List Edit) (Q : (List (Int × Bool)) → (List Edit) → Prop) =>
  br ((ln sets) == (ln sx)) (jn (fun (k : (List (Int × Bool)) → (List Edit) → Prop) => idx inx 0 fun x84 =>
  br (x84) (impl_maximalEdits_1 sets c14 c21 c30 fun r92 r93 =>
  k r92 r93) <|
  k c14 c30) <|
  fun (mp : List (Int × Bool)) (x : List Edit) =>
  Q mp x) <|
  idx sx (ln sets) fun x112 =>
  x112.Levels ≠ 0 ∧ (
  jn (fun (k130 : Int → Prop) => br ((ln sets) == vx7) (idx sx (ln sets) fun x133 =>
  impl_fullSet x133 fun r142 =>
  k130 r142) <|
  k130 1) <|
  fun (least : Int) =>
  Loop3 (fun (setx : Int) (mp160 : List (Int × Bool)) (x165 : List Edit) nx =>
  idx sx (ln sets) fun x203 =>
  impl_fullSet x203 fun r212 =>
  br (decide (setx ≤ r212)) (jn (fun (k273 : (List (Int × Bool)) → (List Edit) → Prop) => (0 : Int) ≤ (wr (Int.tdiv (ln inx) x112.Levels)) ∧ 1 * (wr (Int.tdiv (ln inx) x112.Levels)) ≤ 140737488355328 ∧ (
  Loop3 (fun (rest : List Bool) (any : Bool) (x289 : Int) nx324 =>
  br (decide (x289 < (ln (List.replicate (Int.toNat (wr (Int.tdiv (ln inx) x112.Levels))) false)))) (jn (fun (k353 : (List Bool) → Bool → Prop) => (0 : Int) ≤ x289 ∧ Int.toNat x289 < List.length rest ∧ (
  idx sx (ln sets) fun x362 =>
  Loop2 (fun (rest370 : List Bool) (x376 : Int) nx410 =>
  br (decide (x376 < x362.Levels)) (jn (fun (k438 : (List Bool) → Prop) => idx rest370 x289 fun x440 =>
  br (x440) ((0 : Int) ≤ x376 ∧ (
  br ((bits .and .i64 (shr .i64 setx x376) 1) == 0) ((0 : Int) ≤ x289 ∧ Int.toNat x289 < List.length rest370 ∧ (
  k438 (List.set rest370 (Int.toNat x289) true))) <|
  idx inx (wr ((wr (x376 * (wr (Int.tdiv (ln inx) x112.Levels)))) + x289)) fun x473 =>
  (0 : Int) ≤ x289 ∧ Int.toNat x289 < List.length rest370 ∧ (
  k438 (List.set rest370 (Int.toNat x289) x473)))) <|
  (0 : Int) ≤ x289 ∧ Int.toNat x289 < List.length rest370 ∧ (
  k438 (List.set rest370 (Int.toNat x289) false))) <|
  fun (rest412 : List Bool) =>
  nx410 rest412 (wr (x376 + 1))) <|
  br (any) (k353 rest370 true) <|
  idx rest370 x289 fun x525 =>
  k353 rest370 x525) (List.set rest (Int.toNat x289) true) 0)) <|
  fun (rest326 : List Bool) (any332 : Bool) =>
  nx324 rest326 any332 (wr (x289 + 1))) <|
  br (any) ((ln sets + ln ([setx])) * 8 ≤ 140737488355328 ∧ (
  self sx rest vx7 (sets ++ ([setx])) mp160 c21 x165 fun r566 r567 =>
  k273 r566 r567)) <|
  k273 mp160 x165) (List.replicate (Int.toNat (wr (Int.tdiv (ln inx) x112.Levels))) false) false 0)) <|
  fun (mp231 : List (Int × Bool)) (x236 : List Edit) =>
  nx (wr (setx + 1)) mp231 x236) <|
  Q mp160 x165) least c14 c30)) sx inx vx7 sets c14 c21 c30 Q

def impl_canGrow (sx : List Variable) (implied : List (Int × Bool)) (ex5 : Edit) (Q : Bool → Prop) : Prop :=
  slices_Clone_int_int ex5.Sets fun r14 =>
  Loop2 (fun (sets : List Int) (x29 : Int) nx =>
  br (decide (x29 < (ln r14))) (idx sx x29 fun x42 =>
  Loop2 (fun (sets47 : List Int) (x53 : Int) nx63 =>
  br (decide (x53 < x42.Levels)) (jn (fun (k : (List Int) → Prop) => idx sets47 x29 fun x77 =>
  (0 : Int) ≤ x53 ∧ (
  br ((bits .and .i64 (shr .i64 x77 x53) 1) == 1) (k sets47) <|
  idx sets47 x29 fun x89 =>
  (0 : Int) ≤ x53 ∧ (
  (0 : Int) ≤ x29 ∧ Int.toNat x29 < List.length sets47 ∧ (
  impl_editKey sx (List.set sets47 (Int.toNat x29) (bits .or .i64 x89 (shl .i64 1 x53))) fun r111 =>
  idx (List.set sets47 (Int.toNat x29) (bits .or .i64 x89 (shl .i64 1 x53))) x29 fun x119 =>
  (0 : Int) ≤ x53 ∧ (
  (0 : Int) ≤ x29 ∧ Int.toNat x29 < List.length (List.set sets47 (Int.toNat x29) (bits .or .i64 x89 (shl .i64 1 x53))) ∧ (
  br (mget implied r111 false) (Q true) <|
  k (List.set (List.set sets47 (Int.toNat x29) (bits .or .i64 x89 (shl .i64 1 x53))) (Int.toNat x29) (bits .andNot .i64 x119 (shl .i64 1 x53))))))))) <|
  fun (sets65 : List Int) =>
  nx63 sets65 (wr (x53 + 1))) <|
  nx sets47 (wr (x29 + 1))) sets 0) <|
  Q false) r14 0

def impl_maximalEdits (sx : List Variable) (l : List Edit) (vx7 : Int) (Q : (List Edit) → Prop) : Prop :=
  impl_failing sx l fun r34 =>
  impl_impliedIn_impl_maximalEdits_1 sx r34 vx7 ([]) (([] : List (Int × Bool))) sx ([]) fun r62 r63 =>
  Loop2 (fun (out : List Edit) (x104 : Int) nx =>
  br (decide (x104 < (ln r63))) (jn (fun (k : (List Edit) → Prop) => idx r63 x104 fun x168 =>
  impl_canGrow sx r62 ((Edit.mk x168.Sets)) fun r195 =>
  br (!r195) ((ln out + ln ([((Edit.mk x168.Sets) : Edit)])) * 24 ≤ 140737488355328 ∧ (
  k (out ++ ([((Edit.mk x168.Sets) : Edit)])))) <|
  k out) <|
  fun (out141 : List Edit) =>
  nx out141 (wr (x104 + 1))) <|
  Q out) ([]) 0

def impl_EliminateVariable (sx : List Variable) (l : List Edit) (vx7 : Int) (Q : (List Edit) → Bool → Prop) : Prop :=
  jn (fun (k : Bool → Prop) => impl_isSmall sx fun r11 =>
  br (!r11) (k true) <|
  impl_areEdits sx l fun r17 =>
  br (!r17) (k true) <|
  br (decide (vx7 < 0)) (k true) <|
  k (decide (vx7 ≥ (ln sx)))) <|
  fun (x : Bool) =>
  br (x) (Q ([]) false) <|
  impl_maximalEdits sx l vx7 fun r36 =>
  Q r36 true

def spec_eGood (sx : List Variable) (ex1 : Edit) (Q : Bool → Prop) : Prop :=
  br ((ln ex1.Sets) != (ln sx)) (Q false) <|
  Loop1 (fun (x10 : Int) nx =>
  br (decide (x10 < (ln ex1.Sets))) (idx ex1.Sets x10 fun x19 =>
  spec_eFull sx x10 fun r25 =>
  spec_l1In x19 1 r25 fun r28 =>
  br (!r28) (Q false) <|
  nx (wr (x10 + 1))) <|
  Q true) 0

def spec_eList (sx : List Variable) (l : List Edit) (Q : Bool → Prop) : Prop :=
  jn (fun (k : Bool → Prop) => spec_sGood sx fun r10 =>
  br (!r10) (k true) <|
  k (decide ((ln l) > 40))) <|
  fun (x : Bool) =>
  br (x) (Q false) <|
  Loop1 (fun (x20 : Int) nx =>
  br (decide (x20 < (ln l))) (idx l x20 fun x26 =>
  spec_eGood sx ((Edit.mk x26.Sets)) fun r45 =>
  br (!r45) (Q false) <|
  nx (wr (x20 + 1))) <|
  Q true) 0

def spec_sCount (sx : List Variable) (Q : Int → Prop) : Prop :=
  Loop2 (fun (n : Int) (x : Int) nx =>
  br (decide (x < (ln sx))) (idx sx x fun x3 =>
  nx (wr (n * x3.Levels)) (wr (x + 1))) <|
  Q n) 1 0

def spec_eSmall (sx : List Variable) (l : List Edit) (Q : Bool → Prop) : Prop :=
  jn (fun (k : Bool → Prop) => spec_eList sx l fun r8 =>
  br (r8) (spec_sCount sx fun r11 =>
  k (decide (r11 ≤ 100))) <|
  k false) <|
  fun (x : Bool) =>
  Q x

def spec_sAt (sx : List Variable) (i : Int) (Q : (List Int) → Prop) : Prop :=
  (0 : Int) ≤ (ln sx) ∧ 8 * (ln sx) ≤ 140737488355328 ∧ (
  Loop3 (fun (i6 : Int) (out : List Int) (k : Int) nx =>
  br (decide (k ≥ 0)) (idx sx k fun x18 =>
  x18.Levels ≠ 0 ∧ (
  (0 : Int) ≤ k ∧ Int.toNat k < List.length out ∧ (
  idx sx k fun x29 =>
  x29.Levels ≠ 0 ∧ (
  nx (wr (Int.tdiv i6 x29.Levels)) (List.set out (Int.toNat k) (Int.tmod i6 x18.Levels)) (wr (k - 1)))))) <|
  Q out) i (List.replicate (Int.toNat (ln sx)) ((0 : Int))) (wr ((ln sx) - 1)))

def spec_eFails (ex : Edit) (values : List Int) (Q : Bool → Prop) : Prop :=
  Loop1 (fun (x9 : Int) nx =>
  br (decide (x9 < (ln values))) (idx values x9 fun x11 =>
  idx ex.Sets x9 fun x18 =>
  (0 : Int) ≤ (IntKind.u64.wrap (x11)) ∧ (
  br ((bits .and .i64 (shr .i64 x18 (IntKind.u64.wrap (x11))) 1) == 0) (Q false) <|
  nx (wr (x9 + 1)))) <|
  Q true) 0

def spec_eFailed (l : List Edit) (values : List Int) (Q : (List Int) → Prop) : Prop :=
  Loop2 (fun (out : List Int) (x : Int) nx =>
  br (decide (x < (ln l))) (jn (fun (k : (List Int) → Prop) => idx l x fun x30 =>
  spec_eFails ((Edit.mk x30.Sets)) values fun r51 =>
  br (r51) ((ln out + ln ([x])) * 8 ≤ 140737488355328 ∧ (
  k (out ++ ([x])))) <|
  k out) <|
  fun (out16 : List Int) =>
  nx out16 (wr (x + 1))) <|
  Q out) ([]) 0

def spec_eSearch_free (x : ESearch) (sets : List Int) (Q : Bool → Prop) : Prop :=
  Loop1 (fun (x20 : Int) nx =>
  br (decide (x20 < (ln x.Passing))) (idx x.Passing x20 fun x24 =>
  spec_eFails ((Edit.mk sets)) x24 fun r33 =>
  br (r33) (Q false) <|
  nx (wr (x20 + 1))) <|
  Q true) 0

def spec_eSearch_grows (x : ESearch) (sets : List Int) (Q : Bool → Prop) : Prop :=
  Loop1 (fun (x20 : Int) nx =>
  br (decide (x20 < (ln sets))) (Loop1 (fun (level : Int) nx37 =>
  idx x.S x20 fun x38 =>
  br (decide (level < x38.Levels)) (jn (fun (k : Prop) => idx sets x20 fun x50 =>
  (0 : Int) ≤ (IntKind.u64.wrap (level)) ∧ (
  br ((bits .and .i64 (shr .i64 x50 (IntKind.u64.wrap (level))) 1) == 1) (k) <|
  spec_l1Own sets fun r60 =>
  idx r60 x20 fun x68 =>
  (0 : Int) ≤ (IntKind.u64.wrap (level)) ∧ (
  (0 : Int) ≤ x20 ∧ Int.toNat x20 < List.length r60 ∧ (
  spec_eSearch_free ((ESearch.mk x.S x.Passing x.V x.Out)) (List.set r60 (Int.toNat x20) (bits .or .i64 x68 (shl .i64 1 (IntKind.u64.wrap (level))))) fun r84 =>
  br (r84) (Q true) <|
  k)))) <|
  nx37 (wr (level + 1))) <|
  nx (wr (x20 + 1))) 0) <|
  Q false) 0

def spec_eSearch_run (x : ESearch) (k : Int) (sets : List Int) (Q : (List Edit) → Int → Prop) : Prop :=
  Rec3 (fun (self : ESearch → Int → (List Int) → ((List Edit) → Int → Prop) → Prop) (x : ESearch) (k : Int) (sets : List Int) (Q : (List Edit) → Int → Prop) =>
  br (k == (ln x.S)) (jn (fun (k39 : (List Edit) → Prop) => jn (fun (k48 : Bool → Prop) => spec_eSearch_free ((ESearch.mk x.S x.Passing x.V x.Out)) sets fun r50 =>
  br (r50) (spec_eSearch_grows ((ESearch.mk x.S x.Passing x.V x.Out)) sets fun r54 =>
  k48 (!r54)) <|
  k48 false) <|
  fun (x40 : Bool) =>
  br (x40) (spec_l1Own sets fun r80 =>
  (ln x.Out + ln ([((Edit.mk r80) : Edit)])) * 24 ≤ 140737488355328 ∧ (
  k39 (x.Out ++ ([((Edit.mk r80) : Edit)])))) <|
  k39 x.Out) <|
  fun (out : List Edit) =>
  Q out x.V) <|
  jn (fun (k156 : Int → Prop) => br (k == x.V) (spec_eFull x.S k fun r159 =>
  k156 r159) <|
  k156 1) <|
  fun (first : Int) =>
  Loop3 (fun (setx : Int) (vx168 : Int) (out169 : List Edit) nx =>
  spec_eFull x.S k fun r188 =>
  br (decide (setx ≤ r188)) (spec_l1Own sets fun r192 =>
  (ln r192 + ln ([setx])) * 8 ≤ 140737488355328 ∧ (
  self ((ESearch.mk x.S x.Passing vx168 out169)) (wr (k + 1)) (r192 ++ ([setx])) fun r228 r229 =>
  nx (wr (setx + 1)) r229 r228)) <|
  Q out169 vx168) first x.V x.Out) x k sets Q

def spec_eMaximal (sx : List Variable) (l : List Edit) (vx7 : Int) (Q : (List Edit) → Prop) : Prop :=
  Loop2 (fun (i : Int) (passing : List (List Int)) nx =>
  spec_sCount sx fun r25 =>
  br (decide (i < r25)) (jn (fun (k : (List (List Int)) → Prop) => spec_sAt sx i fun r50 =>
  spec_eFailed l r50 fun r60 =>
  br ((ln r60) == 0) ((ln passing + ln ([r50])) * 24 ≤ 140737488355328 ∧ (
  k (passing ++ ([r50])))) <|
  k passing) <|
  fun (passing34 : List (List Int)) =>
  nx (wr (i + 1)) passing34) <|
  spec_eSearch_run ((ESearch.mk sx passing vx7 ([]))) 0 ([]) fun r118 r119 =>
  Q r118) 0 ([])

def spec_EliminateVariable (sx : List Variable) (l : List Edit) (vx7 : Int) (Q : (List Edit) → Bool → Prop) : Prop :=
  jn (fun (k : Bool → Prop) => spec_eSmall sx l fun r11 =>
  br (!r11) (k true) <|
  spec_l1In vx7 0 (wr ((ln sx) - 1)) fun r17 =>
  k (!r17)) <|
  fun (x : Bool) =>
  br (x) (Q ([]) false) <|
  spec_eMaximal sx l vx7 fun r24 =>
  Q r24 true

def laws_sameInts (a : List Int) (b : List Int) (Q : Bool → Prop) : Prop :=
  br ((ln a) != (ln b)) (Q false) <|
  Loop1 (fun (x : Int) nx =>
  br (decide (x < (ln a))) (idx a x fun x12 =>
  idx b x fun x18 =>
  br (x12 != x18) (Q false) <|
  nx (wr (x + 1))) <|
  Q true) 0

def laws_pSameEdits (a : List Edit) (b : List Edit) (Q : Bool → Prop) : Prop :=
  br ((ln a) != (ln b)) (Q false) <|
  Loop1 (fun (x : Int) nx =>
  br (decide (x < (ln a))) (idx a x fun x12 =>
  idx b x fun x20 =>
  det1 (laws_sameInts x12.Sets x20.Sets) fun r32 =>
  br (!r32) (Q false) <|
  nx (wr (x + 1))) <|
  Q true) 0

def spec_CombinationCount (sx : List Variable) (Q : Int → Bool → Prop) : Prop :=
  spec_sGood sx fun r1 =>
  br (!r1) (Q 0 false) <|
  spec_sCount sx fun r3 =>
  Q r3 true

def laws_numberOf (b : List B8) (Q : Int → Prop) : Prop :=
  Loop2 (fun (n : Int) (x : Int) nx =>
  br (decide (x < (ln b))) (idx b x fun x1 =>
  nx (Int.tmod (wr ((wr (31 * n)) + (wr (x1.v)))) 1000003) (wr (x + 1))) <|
  Q n) 0 0

def spec_CombinationAt (sx : List Variable) (i : Int) (Q : (List Int) → Bool → Prop) : Prop :=
  jn (fun (k : Bool → Prop) => spec_sGood sx fun r3 =>
  br (!r3) (k true) <|
  spec_sCount sx fun r8 =>
  spec_l1In i 0 (wr (r8 - 1)) fun r12 =>
  k (!r12)) <|
  fun (x : Bool) =>
  br (x) (Q ([]) false) <|
  spec_sAt sx i fun r19 =>
  Q r19 true

def impl_areValues (sx : List Variable) (values : List Int) (Q : Bool → Prop) : Prop :=
  br ((ln values) != (ln sx)) (Q false) <|
  Loop1 (fun (x : Int) nx =>
  br (decide (x < (ln values))) (idx values x fun x8 =>
  jn (fun (k : Bool → Prop) => br (decide (x8 < 0)) (k true) <|
  idx sx x fun x17 =>
  k (decide (x8 ≥ x17.Levels))) <|
  fun (x14 : Bool) =>
  br (x14) (Q false) <|
  nx (wr (x + 1))) <|
  Q true) 0

def impl_FailsEdit (sx : List Variable) (ex1 : Edit) (values : List Int) (Q : Bool → Bool → Prop) : Prop :=
  jn (fun (k : Bool → Prop) => impl_IsSchema sx fun r26 =>
  br (!r26) (k true) <|
  impl_isEdit sx ((Edit.mk ex1.Sets)) fun r34 =>
  br (!r34) (k true) <|
  impl_areValues sx values fun r44 =>
  k (!r44)) <|
  fun (x20 : Bool) =>
  br (x20) (Q false false) <|
  impl_fails ((Edit.mk ex1.Sets)) values fun r57 =>
  Q r57 true

def impl_areVars (sx : List Variable) (vars : List Int) (Q : Bool → Prop) : Prop :=
  Loop2 (fun (last : Int) (x : Int) nx =>
  br (decide (x < (ln vars))) (idx vars x fun x7 =>
  jn (fun (k : Bool → Prop) => br (decide (x7 ≤ last)) (k true) <|
  k (decide (x7 ≥ (ln sx)))) <|
  fun (x13 : Bool) =>
  br (x13) (Q false) <|
  nx x7 (wr (x + 1))) <|
  Q true) ((-1)) 0

def impl_completionOf_1 (c : List Int) (c2 : List Int) (c10 : List Int) (c19 : List Int) (Q : Bool → (List Int) → Prop) : Prop :=
  Loop1 (fun (x : Int) nx =>
  br (decide (x < (ln c2))) (idx c2 x fun x51 =>
  idx c x51 fun x58 =>
  idx c10 x51 fun x67 =>
  br (x58 != x67) (Q true c19) <|
  nx (wr (x + 1))) <|
  (0 : Int) < ln c ∧ Q false c) 0

def impl_passing_impl_completionOf_1 (sx : List Variable) (l : List Edit) (c7 : List Int) (c15 : List Int) (c24 : List Int) (Q : (List Int) → Prop) : Prop :=
  impl_combinations sx fun r46 =>
  Loop2 (fun (x47 : Int) (x48 : List Int) nx =>
  br (decide (x47 < r46)) (impl_valuesAt sx x47 fun r80 =>
  jn (fun (k : Bool → (List Int) → Prop) => impl_failsOne l r80 fun r126 =>
  br (!r126) (impl_completionOf_1 r80 c7 c15 x48 fun r130 r131 =>
  k (!r130) r131) <|
  k false x48) <|
  fun (x100 : Bool) (x101 : List Int) =>
  br (x100) (Q x101) <|
  nx (wr (x47 + 1)) x101) <|
  Q x48) 0 c24

def impl_completionOf (sx : List Variable) (l : List Edit) (fixed : List Int) (values : List Int) (Q : (List Int) → Prop) : Prop :=
  impl_passing_impl_completionOf_1 sx l fixed values ([]) fun r35 =>
  Q r35

def impl_CanComplete (sx : List Variable) (l : List Edit) (fixed : List Int) (values : List Int) (Q : Bool → Bool → Prop) : Prop :=
  jn (fun (k : Bool → Prop) => impl_isSmall sx fun r24 =>
  br (!r24) (k true) <|
  impl_areEdits sx l fun r32 =>
  br (!r32) (k true) <|
  impl_areVars sx fixed fun r43 =>
  br (!r43) (k true) <|
  impl_areValues sx values fun r57 =>
  k (!r57)) <|
  fun (x : Bool) =>
  br (x) (Q false false) <|
  impl_completionOf sx l fixed values fun r72 =>
  Q (!(ln r72 == 0)) true

def spec_l1Cur_values (c : L1Cur) (sx : List Variable) (Q : (List Int) → Int → Int → Prop) : Prop :=
  Loop4 (fun (out : List Int) (x : Int) (atx : Int) (seed : Int) nx =>
  br (decide (x < (ln sx))) (idx sx x fun x22 =>
  spec_l1Cur_pick ((L1Cur.mk c.Code atx seed)) x22.Levels fun r36 r37 r38 =>
  (ln out + ln ([r36])) * 8 ≤ 140737488355328 ∧ (
  nx (out ++ ([r36])) (wr (x + 1)) r37 r38)) <|
  Q out atx seed) ([]) 0 c.At c.Seed

def spec_l1Cur_anyValues (c : L1Cur) (sx : List Variable) (Q : (List Int) → Int → Int → Prop) : Prop :=
  spec_l1Cur_values ((L1Cur.mk c.Code c.At c.Seed)) sx fun r10 r11 r12 =>
  jn (fun (k : (List Int) → Int → Int → Prop) => jn (fun (k42 : Bool → Int → Int → Prop) => br (decide ((ln r10) > 0)) (spec_l1Cur_one ((L1Cur.mk c.Code r11 r12)) 16 fun r44 r45 r46 =>
  k42 r44 r45 r46) <|
  k42 false r11 r12) <|
  fun (x34 : Bool) (atx35 : Int) (seed36 : Int) =>
  br (x34) (spec_l1Cur_pick ((L1Cur.mk c.Code atx35 seed36)) (ln r10) fun r54 r55 r56 =>
  spec_l1Cur_among ((L1Cur.mk c.Code r55 r56)) ([(-1), 2, 8]) fun r69 r70 r71 =>
  (0 : Int) ≤ r54 ∧ Int.toNat r54 < List.length r10 ∧ (
  k (List.set r10 (Int.toNat r54) r69) r70 r71)) <|
  spec_l1Cur_one ((L1Cur.mk c.Code atx35 seed36)) 24 fun r89 r90 r91 =>
  br (r89) ((ln r10 + ln ([0])) * 8 ≤ 140737488355328 ∧ (
  Q (r10 ++ ([0])) r90 r91)) <|
  k r10 r90 r91) <|
  fun (out : List Int) (atx : Int) (seed : Int) =>
  Q out atx seed

def spec_DrawFailedEdits (code : List B8) (Q : (List Variable) → (List Edit) → (List Int) → Prop) : Prop :=
  spec_l1Cur_anySchema ((L1Cur.mk code 0 0)) fun r2 r3 r4 =>
  spec_l1Cur_edits ((L1Cur.mk code r3 r4)) r2 fun r15 r16 r17 =>
  spec_l1Cur_anyValues ((L1Cur.mk code r16 r17)) r2 fun r30 r31 r32 =>
  Q r2 r15 r30

def spec_DrawSmallestCover (code : List B8) (Q : (List Variable) → (List Edit) → (List Int) → Prop) : Prop :=
  spec_DrawFailedEdits code fun r1 r2 r3 =>
  Q r1 r2 r3

def impl_membersOf (mask : Int) (Q : (List Int) → Prop) : Prop :=
  Loop2 (fun (out : List Int) (i : Int) nx =>
  (0 : Int) ≤ i ∧ (
  br ((shr .i64 mask i) != 0) (jn (fun (k : (List Int) → Prop) => (0 : Int) ≤ i ∧ (
  br ((bits .and .i64 (shr .i64 mask i) 1) == 1) ((ln out + ln ([i])) * 8 ≤ 140737488355328 ∧ (
  k (out ++ ([i])))) <|
  k out)) <|
  fun (out2 : List Int) =>
  nx out2 (wr (i + 1))) <|
  Q out)) ([]) 0

def slices_Index_int_int (sx : List Int) (vx1 : Int) (Q : Int → Prop) : Prop :=
  Loop1 (fun (x : Int) nx =>
  br (decide (x < (ln sx))) (idx sx x fun x2 =>
  br (vx1 == x2) (Q x) <|
  nx (wr (x + 1))) <|
  Q ((-1))) 0

def slices_Contains_int_int (sx : List Int) (vx1 : Int) (Q : Bool → Prop) : Prop :=
  slices_Index_int_int sx vx1 fun r2 =>
  Q (decide (r2 ≥ 0))

def impl_otherVars (sx : List Variable) (vars : List Int) (Q : (List Int) → Prop) : Prop :=
  Loop2 (fun (out : List Int) (x : Int) nx =>
  br (decide (x < (ln sx))) (jn (fun (k : (List Int) → Prop) => slices_Contains_int_int vars x fun r26 =>
  br (!r26) ((ln out + ln ([x])) * 8 ≤ 140737488355328 ∧ (
  k (out ++ ([x])))) <|
  k out) <|
  fun (out14 : List Int) =>
  nx out14 (wr (x + 1))) <|
  Q out) ([]) 0

def impl_SmallestCover_1 (vars : List Int) (Q : Int → Prop) : Prop :=
  Q (ln vars)

def cmp_isNaN_int (x : Int) (Q : Bool → Prop) : Prop :=
  Q (x != x)

def cmp_Compare_int (x : Int) (y : Int) (Q : Int → Prop) : Prop :=
  cmp_isNaN_int x fun r =>
  cmp_isNaN_int y fun r2 =>
  br (r) (br (r2) (Q 0) <|
  Q ((-1))) <|
  br (r2) (Q 1) <|
  br (decide (x < y)) (Q ((-1))) <|
  br (decide (x > y)) (Q 1) <|
  Q 0

def slices_Compare_int_int (sx : List Int) (sx1 : List Int) (Q : Int → Prop) : Prop :=
  Loop1 (fun (x : Int) nx =>
  br (decide (x < (ln sx))) (idx sx x fun x11 =>
  br (decide (x ≥ (ln sx1))) (Q 1) <|
  idx sx1 x fun x18 =>
  cmp_Compare_int x11 x18 fun r27 =>
  br (r27 != 0) (Q r27) <|
  nx (wr (x + 1))) <|
  br (decide ((ln sx) < (ln sx1))) (Q ((-1))) <|
  Q 0) 0

def cmp_Or_int (vals : List Int) (Q : Int → Prop) : Prop :=
  Loop1 (fun (x : Int) nx =>
  br (decide (x < (ln vals))) (idx vals x fun x1 =>
  br (x1 != 0) (Q x1) <|
  nx (wr (x + 1))) <|
  Q 0) 0

def impl_leastCover_impl_SmallestCover_1 (sx : List Variable) (l : List Edit) (values : List Int) (Q : (List Int) → Bool → Prop) : Prop :=
  (0 : Int) ≤ (ln sx) ∧ (
  Loop3 (fun (best : List Int) (found : Bool) (x : Int) nx =>
  br (decide (x < (shl .i64 1 (ln sx)))) (jn (fun (k : (List Int) → Bool → Prop) => impl_membersOf x fun r41 =>
  jn (fun (k65 : Bool → Prop) => br (found) (impl_SmallestCover_1 r41 fun r68 =>
  impl_SmallestCover_1 best fun r71 =>
  cmp_Compare_int r68 r71 fun r75 =>
  cmp_Compare_int (ln r41) (ln best) fun r78 =>
  slices_Compare_int_int r41 best fun r81 =>
  cmp_Or_int ([r75, r78, r81]) fun r96 =>
  k65 (decide (r96 ≥ 0))) <|
  k65 false) <|
  fun (x57 : Bool) =>
  br (x57) (k best found) <|
  impl_otherVars sx r41 fun r108 =>
  impl_completionOf sx l r108 values fun r118 =>
  br (!(ln r118 == 0)) (k r41 true) <|
  k best found) <|
  fun (best24 : List Int) (found30 : Bool) =>
  nx best24 found30 (wr (x + 1))) <|
  Q best found) ([]) false 0)

def impl_SmallestCover (sx : List Variable) (l : List Edit) (values : List Int) (Q : (List Int) → Bool → Prop) : Prop :=
  jn (fun (k : Bool → Prop) => impl_isSmall sx fun r17 =>
  br (!r17) (k true) <|
  impl_areEdits sx l fun r24 =>
  br (!r24) (k true) <|
  impl_areValues sx values fun r34 =>
  k (!r34)) <|
  fun (x : Bool) =>
  br (x) (Q ([]) false) <|
  impl_leastCover_impl_SmallestCover_1 sx l values fun r47 r48 =>
  Q r47 r48

def spec_l1Rising (l : List Int) (lo : Int) (hi : Int) (Q : Bool → Prop) : Prop :=
  Loop1 (fun (x : Int) nx =>
  br (decide (x < (ln l))) (idx l x fun x3 =>
  jn (fun (k : Bool → Prop) => spec_l1In x3 lo hi fun r14 =>
  br (!r14) (k true) <|
  br (decide (x > 0)) (idx l (wr (x - 1)) fun x21 =>
  k (decide (x21 ≥ x3))) <|
  k false) <|
  fun (x10 : Bool) =>
  br (x10) (Q false) <|
  nx (wr (x + 1))) <|
  Q true) 0

def spec_sFits (sx : List Variable) (values : List Int) (Q : Bool → Prop) : Prop :=
  br ((ln values) != (ln sx)) (Q false) <|
  Loop1 (fun (x : Int) nx =>
  br (decide (x < (ln sx))) (idx sx x fun x11 =>
  idx values x fun x22 =>
  det1 (spec_l1In x22 0 (wr (x11.Levels - 1))) fun r32 =>
  br (!r32) (Q false) <|
  nx (wr (x + 1))) <|
  Q true) 0

def spec_eAsked (sx : List Variable) (l : List Edit) (fixed : List Int) (values : List Int) (Q : Bool → Prop) : Prop :=
  jn (fun (k : Bool → Prop) => spec_eSmall sx l fun r20 =>
  br (r20) (spec_l1Rising fixed 0 (wr ((ln sx) - 1)) fun r23 =>
  br (r23) (spec_sFits sx values fun r28 =>
  k r28) <|
  k false) <|
  k false) <|
  fun (x : Bool) =>
  Q x

def spec_eLevels (setx : Int) (Q : (List Int) → Prop) : Prop :=
  Loop2 (fun (out : List Int) (x : Int) nx =>
  (0 : Int) ≤ (IntKind.u64.wrap (x)) ∧ (
  br (decide ((shr .i64 setx (IntKind.u64.wrap (x))) > 0)) (jn (fun (k : (List Int) → Prop) => (0 : Int) ≤ (IntKind.u64.wrap (x)) ∧ (
  br ((bits .and .i64 (shr .i64 setx (IntKind.u64.wrap (x))) 1) == 1) ((ln out + ln ([x])) * 8 ≤ 140737488355328 ∧ (
  k (out ++ ([x])))) <|
  k out)) <|
  fun (out2 : List Int) =>
  nx out2 (wr (x + 1))) <|
  Q out)) ([]) 0

def spec_l1Has (l : List Int) (n : Int) (Q : Bool → Prop) : Prop :=
  Loop1 (fun (x : Int) nx =>
  br (decide (x < (ln l))) (idx l x fun x1 =>
  br (x1 == n) (Q true) <|
  nx (wr (x + 1))) <|
  Q false) 0

def spec_eComplete (sx : List Variable) (l : List Edit) (fixed : List Int) (values : List Int) (Q : (List Int) → Bool → Prop) : Prop :=
  Loop1 (fun (i : Int) nx =>
  spec_sCount sx fun r24 =>
  br (decide (i < r24)) (spec_sAt sx i fun r26 =>
  spec_eFailed l r26 fun r35 =>
  Loop2 (fun (fits : Bool) (x46 : Int) nx65 =>
  br (decide (x46 < (ln fixed))) (jn (fun (k : Bool → Prop) => idx fixed x46 fun x77 =>
  br (fits) (idx r26 x77 fun x84 =>
  idx values x77 fun x93 =>
  k (x84 == x93)) <|
  k false) <|
  fun (fits69 : Bool) =>
  nx65 fits69 (wr (x46 + 1))) <|
  br (fits) (Q r26 true) <|
  nx (wr (i + 1))) ((ln r35) == 0) 0) <|
  Q ([]) false) 0

def spec_l1Sign (n : Int) (Q : Int → Prop) : Prop :=
  br (decide (n < 0)) (Q ((-1))) <|
  br (decide (n > 0)) (Q 1) <|
  Q 0

def spec_l1Less (a : List Int) (b : List Int) (Q : Int → Prop) : Prop :=
  Loop1 (fun (i : Int) nx =>
  jn (fun (k : Bool → Prop) => br (decide (i < (ln a))) (k (decide (i < (ln b)))) <|
  k false) <|
  fun (x : Bool) =>
  br (x) (idx a i fun x13 =>
  idx b i fun x19 =>
  br (x13 != x19) (idx a i fun x31 =>
  idx b i fun x41 =>
  br (decide (x31 < x41)) (Q ((-1))) <|
  Q 1) <|
  nx (wr (i + 1))) <|
  spec_l1Sign (wr ((ln a) - (ln b))) fun r60 =>
  Q r60) 0

def spec_SmallestCover (sx : List Variable) (l : List Edit) (values : List Int) (Q : (List Int) → Bool → Prop) : Prop :=
  spec_eAsked sx l ([]) values fun r13 =>
  br (!r13) (Q ([]) false) <|
  Loop3 (fun (best : List Int) (found : Bool) (setx : Int) nx =>
  (0 : Int) ≤ (IntKind.u64.wrap (ln sx)) ∧ (
  br (decide (setx < (shl .i64 1 (IntKind.u64.wrap (ln sx))))) (jn (fun (k : (List Int) → Bool → Prop) => spec_eLevels setx fun r49 =>
  Loop2 (fun (fixed : List Int) (x64 : Int) nx87 =>
  br (decide (x64 < (ln sx))) (jn (fun (k110 : (List Int) → Prop) => spec_l1Has r49 x64 fun r112 =>
  br (!r112) ((ln fixed + ln ([x64])) * 8 ≤ 140737488355328 ∧ (
  k110 (fixed ++ ([x64])))) <|
  k110 fixed) <|
  fun (fixed90 : List Int) =>
  nx87 fixed90 (wr (x64 + 1))) <|
  spec_eComplete sx l fixed values fun r153 r154 =>
  br (!r154) (k best found) <|
  jn (fun (k185 : Bool → Prop) => br (!found) (k185 true) <|
  br (decide ((ln r49) < (ln best))) (k185 true) <|
  br ((ln r49) == (ln best)) (spec_l1Less r49 best fun r190 =>
  k185 (decide (r190 < 0))) <|
  k185 false) <|
  fun (x177 : Bool) =>
  br (x177) (k r49 true) <|
  k best found) ([]) 0) <|
  fun (best32 : List Int) (found38 : Bool) =>
  nx best32 found38 (wr (setx + 1))) <|
  Q best found)) ([]) false 0

def laws_FnElimination (code : List B8) (more : List B8) (Q : Bool → Prop) : Prop :=
  laws_big code more fun r7 =>
  br (r7) (Q true) <|
  spec_DrawEliminateVariable code fun r9 r10 r11 =>
  impl_EliminateVariable r9 r10 r11 fun r27 r28 =>
  spec_EliminateVariable r9 r10 r11 fun r38 r39 =>
  jn (fun (k : Bool → Prop) => br (r28 != r39) (k true) <|
  laws_pSameEdits r27 r38 fun r71 =>
  k (!r71)) <|
  fun (x63 : Bool) =>
  br (x63) (Q false) <|
  jn (fun (k83 : Prop) => br (r28) (spec_CombinationCount r9 fun r86 r87 =>
  laws_numberOf more fun r90 =>
  r86 ≠ 0 ∧ (
  spec_CombinationAt r9 (Int.tmod r90 r86) fun r94 r95 =>
  br (!r95) (Q true) <|
  Loop2 (fun (pass : Bool) (x110 : Int) nx =>
  br (decide (x110 < (ln r38))) (jn (fun (k136 : Bool → Prop) => idx r38 x110 fun x138 =>
  impl_FailsEdit r9 ((Edit.mk x138.Sets)) r94 fun r159 r160 =>
  br (!r160) (Q false) <|
  br (pass) (k136 (!r159)) <|
  k136 false) <|
  fun (pass128 : Bool) =>
  nx pass128 (wr (x110 + 1))) <|
  Loop2 (fun (fixed : List Int) (x189 : Int) nx205 =>
  br (decide (x189 < (ln r9))) (jn (fun (k227 : (List Int) → Prop) => br (x189 != r11) ((ln fixed + ln ([x189])) * 8 ≤ 140737488355328 ∧ (
  k227 (fixed ++ ([x189])))) <|
  k227 fixed) <|
  fun (fixed209 : List Int) =>
  nx205 fixed209 (wr (x189 + 1))) <|
  impl_CanComplete r9 r10 fixed r94 fun r259 r260 =>
  jn (fun (k267 : Bool → Prop) => br (!r260) (k267 true) <|
  k267 (r259 != pass)) <|
  fun (x265 : Bool) =>
  br (x265) (Q false) <|
  k83) ([]) 0) true 0)) <|
  k83) <|
  spec_DrawSmallestCover more fun r271 r272 r273 =>
  impl_SmallestCover r271 r272 r273 fun r300 r301 =>
  spec_SmallestCover r271 r272 r273 fun r311 r312 =>
  jn (fun (k335 : Bool → Prop) => br (r301 == r312) (laws_sameInts r300 r311 fun r338 =>
  k335 r338) <|
  k335 false) <|
  fun (x332 : Bool) =>
  Q x332

end Go.Proofs.Ytdaojggigfnnpaa
