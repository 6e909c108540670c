/- What each Go function means: a definition over numbers and lists; Q: what is to hold of its results. -/
import Derived.Test.YtdaojggigfnnpaaLib
set_option linter.unusedVariables false
set_option autoImplicit false
namespace Go.Proofs.Ytdaojggigfnnpaa
open Go Go.RowKit Go.Gv

structure Variable where
  Name : ByteArray
  Levels : Int
instance : Wf Variable := ⟨fun x => Wf.wf x.Name ∧ Wf.wf x.Levels⟩
instance : Flat Variable where
  n := 2
  agg := true
  rd _ cs x := cs = [.string x.Name, I x.Levels]
  enc x := [.string x.Name, I x.Levels]
  len h := by subst h; rfl
  le _ h := h
  one h c hc := by subst h; simp at hc; rcases hc with rfl | rfl <;> rfl
  sing h := by cases h
  flat := Iff.rfl
theorem Variable_rv {h : PH} {v : Value} {x : Variable} (r : RV h v x) : v = .agg #[.string x.Name, I x.Levels] := by obtain ⟨cs, rfl, rfl⟩ := r; rfl
structure Edit where
  Sets : List Int
instance : Wf Edit := ⟨fun x => Wf.wf x.Sets⟩
instance : Deep Edit := Deep.via (fun x => x.Sets)
theorem Edit_rd {h : PH} {cs : List Value} {x : Edit} (r : Enc.rd h cs x) : ∃ u0, cs = [u0] ∧ RS h u0 x.Sets := by
  obtain ⟨u0, rfl, r0⟩ := r; exact ⟨_, rfl, r0⟩
theorem Edit_rv {h : PH} {v : Value} {x : Edit} (r : RV h v x) : ∃ u0, v = .agg #[u0] ∧ RS h u0 x.Sets := by
  obtain ⟨cs, hr, rfl⟩ := r; obtain ⟨u0, rfl, r0⟩ := Edit_rd hr; exact ⟨_, rfl, r0⟩
theorem Edit_tk {h : PH} {c : List Value} {x : Edit} (b : Deep.own h c x) : ∃ u, c = [u] ∧ OD h u x.Sets := by
  have o := b
  obtain ⟨u, rfl, q⟩ := o
  refine ⟨u, rfl, ?_⟩
  simpa only [emp_un, un_emp] using q
theorem Edit_bw0 {h hi rest : PH} {v : Value} {xs : List Edit} {i : Nat} {c : List Value} {x : Edit} (b : Bw h v xs i hi rest c x) : ∃ u0 hl rs, c = [u0] ∧ BwG h v xs hl rs u0 x.Sets (fun y => xs.set i {x with Sets := y}) := by
  have o := b.own
  obtain ⟨u0, rfl, q0⟩ := o
  exact ⟨_, _, _, rfl, b.fc (Fc.via (fun x : Edit => x.Sets) (Fc.here q0) fun _ => rfl)⟩
structure L1Cur where
  Code : List B8
  At : Int
  Seed : Int
structure ESearch where
  S : List Variable
  Passing : List (List Int)
  V : Int
  Out : List Edit
instance : Wf ESearch := ⟨fun x => Wf.wf x.S ∧ Wf.wf x.Passing ∧ Wf.wf x.V ∧ Wf.wf x.Out⟩
instance : Deep ESearch := Deep.via (fun x => (x.S, x.Passing, x.V, x.Out))
theorem ESearch_rd {h : PH} {cs : List Value} {x : ESearch} (r : Enc.rd h cs x) : ∃ u0 u1 u2, cs = [u0, u1, I x.V, u2] ∧ RS h u0 x.S ∧ RS h u1 x.Passing ∧ RS h u2 x.Out := by
  obtain ⟨_, _, rfl, ⟨u0, rfl, r0⟩, ⟨_, _, rfl, ⟨u1, rfl, r1⟩, ⟨_, _, rfl, rfl, ⟨u2, rfl, r2⟩⟩⟩⟩ := r; exact ⟨_, _, _, rfl, r0, r1, r2⟩
theorem ESearch_rv {h : PH} {v : Value} {x : ESearch} (r : RV h v x) : ∃ u0 u1 u2, v = .agg #[u0, u1, I x.V, u2] ∧ RS h u0 x.S ∧ RS h u1 x.Passing ∧ RS h u2 x.Out := by
  obtain ⟨cs, hr, rfl⟩ := r; obtain ⟨u0, u1, u2, rfl, r0, r1, r2⟩ := ESearch_rd hr; exact ⟨_, _, _, rfl, r0, r1, r2⟩
theorem ESearch_bw0 {h hi rest : PH} {v : Value} {xs : List ESearch} {i : Nat} {c : List Value} {x : ESearch} (b : Bw h v xs i hi rest c x) : ∃ u0 u1 u2 hl rs, c = [u0, u1, I x.V, u2] ∧ BwG h v xs hl rs u0 x.S (fun y => xs.set i {x with S := y}) := by
  have o := b.own
  obtain ⟨_, _, _, _, rfl, rfl, d0, p0, n0⟩ := o
  obtain ⟨u0, rfl, q0⟩ := p0
  obtain ⟨_, _, _, _, rfl, rfl, d1, p1, n1⟩ := n0
  obtain ⟨u1, rfl, q1⟩ := p1
  obtain ⟨_, _, _, _, rfl, rfl, d2, p2, n2⟩ := n1
  obtain ⟨rfl, rfl⟩ := own_flat p2
  obtain ⟨u2, rfl, q2⟩ := n2
  exact ⟨_, _, _, _, _, rfl, b.fc (Fc.via (fun x : ESearch => (x.S, x.Passing, x.V, x.Out)) (Fc.left (Fc.here q0) ⟨[u1], [I x.V, u2], _, _, rfl, rfl, d1, ⟨u1, rfl, q1⟩, ⟨[I x.V], [u2], _, _, rfl, rfl, d2, (flat_own x.V), ⟨u2, rfl, q2⟩⟩⟩ d0) fun _ => rfl)⟩
theorem ESearch_bw1 {h hi rest : PH} {v : Value} {xs : List ESearch} {i : Nat} {c : List Value} {x : ESearch} (b : Bw h v xs i hi rest c x) : ∃ u0 u1 u2 hl rs, c = [u0, u1, I x.V, u2] ∧ BwG h v xs hl rs u1 x.Passing (fun y => xs.set i {x with Passing := y}) := by
  have o := b.own
  obtain ⟨_, _, _, _, rfl, rfl, d0, p0, n0⟩ := o
  obtain ⟨u0, rfl, q0⟩ := p0
  obtain ⟨_, _, _, _, rfl, rfl, d1, p1, n1⟩ := n0
  obtain ⟨u1, rfl, q1⟩ := p1
  obtain ⟨_, _, _, _, rfl, rfl, d2, p2, n2⟩ := n1
  obtain ⟨rfl, rfl⟩ := own_flat p2
  obtain ⟨u2, rfl, q2⟩ := n2
  exact ⟨_, _, _, _, _, rfl, b.fc (Fc.via (fun x : ESearch => (x.S, x.Passing, x.V, x.Out)) (Fc.right ⟨u0, rfl, q0⟩ (Fc.left (Fc.here q1) ⟨[I x.V], [u2], _, _, rfl, rfl, d2, (flat_own x.V), ⟨u2, rfl, q2⟩⟩ d1) d0) fun _ => rfl)⟩
theorem ESearch_ft2 {x : ESearch} {k : Int} : FTurn x {x with V := k} 2 [I k] := by
  intro _ _ o
  obtain ⟨_, _, _, _, rfl, rfl, d0, p0, n0⟩ := o
  obtain ⟨u0, rfl, q0⟩ := p0
  obtain ⟨_, _, _, _, rfl, rfl, d1, p1, n1⟩ := n0
  obtain ⟨u1, rfl, q1⟩ := p1
  obtain ⟨_, _, _, _, rfl, rfl, d2, p2, n2⟩ := n1
  obtain ⟨rfl, rfl⟩ := own_flat p2
  obtain ⟨u2, rfl, q2⟩ := n2
  exact ⟨[u0], [u1, I k, u2], _, _, rfl, rfl, d0, ⟨u0, rfl, q0⟩, ⟨[u1], [I k, u2], _, _, rfl, rfl, d1, ⟨u1, rfl, q1⟩, ⟨[I k], [u2], _, _, rfl, rfl, d2, (flat_own k), ⟨u2, rfl, q2⟩⟩⟩⟩
theorem ESearch_bw3 {h hi rest : PH} {v : Value} {xs : List ESearch} {i : Nat} {c : List Value} {x : ESearch} (b : Bw h v xs i hi rest c x) : ∃ u0 u1 u2 hl rs, c = [u0, u1, I x.V, u2] ∧ BwG h v xs hl rs u2 x.Out (fun y => xs.set i {x with Out := y}) := by
  have o := b.own
  obtain ⟨_, _, _, _, rfl, rfl, d0, p0, n0⟩ := o
  obtain ⟨u0, rfl, q0⟩ := p0
  obtain ⟨_, _, _, _, rfl, rfl, d1, p1, n1⟩ := n0
  obtain ⟨u1, rfl, q1⟩ := p1
  obtain ⟨_, _, _, _, rfl, rfl, d2, p2, n2⟩ := n1
  obtain ⟨rfl, rfl⟩ := own_flat p2
  obtain ⟨u2, rfl, q2⟩ := n2
  exact ⟨_, _, _, _, _, rfl, b.fc (Fc.via (fun x : ESearch => (x.S, x.Passing, x.V, x.Out)) (Fc.right ⟨u0, rfl, q0⟩ (Fc.right ⟨u1, rfl, q1⟩ (Fc.right (flat_own x.V) (Fc.here q2) d2) d1) d0) fun _ => rfl)⟩

def laws_big (code : List B8) (more : List B8) (Q : Bool → Prop) : Prop :=
  jn (fun (k : Bool → Prop) => br (decide ((ln code) > 1048576)) (k true) <|
  k (decide ((ln more) > (wr (1048576 - (ln code)))))) <|
  fun (x : Bool) =>
  Q x

def spec_l1Cur_next (c : L1Cur) (Q : Int → Int → Int → Prop) : Prop :=
  jn (fun (k : Int → Prop) => br (decide (c.At < (ln c.Code))) (idx c.Code c.At fun x9 =>
  k (wr (x9.v))) <|
  k 0) <|
  fun (b3 : Int) =>
  br (decide ((wr (c.At + 1)) ≤ (ln c.Code))) (Q b3 (wr (c.At + 1)) (IntKind.u64.wrap ((IntKind.u64.wrap ((IntKind.u64.wrap (c.Seed * 6364136223846793005)) + (IntKind.u64.wrap (b3)))) + 1442695040888963407))) <|
  Q (wr (bits .and .u64 (Int.fdiv (IntKind.u64.wrap ((IntKind.u64.wrap ((IntKind.u64.wrap (c.Seed * 6364136223846793005)) + (IntKind.u64.wrap (b3)))) + 1442695040888963407)) (2 ^ 40)) 255)) (wr (c.At + 1)) (IntKind.u64.wrap ((IntKind.u64.wrap ((IntKind.u64.wrap (c.Seed * 6364136223846793005)) + (IntKind.u64.wrap (b3)))) + 1442695040888963407))

def spec_l1Cur_pick (c : L1Cur) (n : Int) (Q : Int → Int → Int → Prop) : Prop :=
  br (decide (n ≤ 1)) (Q 0 c.At c.Seed) <|
  spec_l1Cur_next ((L1Cur.mk c.Code c.At c.Seed)) fun r3 r4 r5 =>
  jn (fun (k : Int → Int → Int → Prop) => br (decide (n > 200)) (spec_l1Cur_next ((L1Cur.mk c.Code r4 r5)) fun r15 r16 r17 =>
  k (wr ((wr (r3 * 256)) + r15)) r16 r17) <|
  k r3 r4 r5) <|
  fun (x9 : Int) (atx : Int) (seed : Int) =>
  n ≠ 0 ∧ (
  Q (Int.tmod x9 n) atx seed)

def spec_l1Cur_schema (c : L1Cur) (Q : (List Variable) → Int → Int → Prop) : Prop :=
  Loop4 (fun (out : List Variable) (k : Int) (atx : Int) (seed : Int) nx =>
  spec_l1Cur_pick ((L1Cur.mk c.Code atx seed)) 3 fun r26 r27 r28 =>
  br (decide (k < (wr (1 + r26)))) (idx ([(ByteArray.mk #[115, 101, 120]), (ByteArray.mk #[97, 103, 101]), (ByteArray.mk #[106, 111, 98]), (ByteArray.mk #[104, 111, 109, 101]), (ByteArray.mk #[115, 105, 122, 101]), (ByteArray.mk #[108, 97, 110, 103])]) k fun x34 =>
  spec_l1Cur_pick ((L1Cur.mk c.Code r27 r28)) 3 fun r46 r47 r48 =>
  (ln out + ln ([(Variable.mk x34 (wr (2 + r46)))])) * 24 ≤ 140737488355328 ∧ (
  nx (out ++ ([(Variable.mk x34 (wr (2 + r46)))])) (wr (k + 1)) r47 r48)) <|
  Q out r27 r28) ([]) 0 c.At c.Seed

def spec_l1Cur_among (c : L1Cur) (list : List Int) (Q : Int → Int → Int → Prop) : Prop :=
  spec_l1Cur_pick ((L1Cur.mk c.Code c.At c.Seed)) (ln list) fun r10 r11 r12 =>
  idx list r10 fun x14 =>
  Q x14 r11 r12

def spec_l1Cur_of (c : L1Cur) (list : List ByteArray) (Q : ByteArray → Int → Int → Prop) : Prop :=
  spec_l1Cur_pick ((L1Cur.mk c.Code c.At c.Seed)) (ln list) fun r10 r11 r12 =>
  idx list r10 fun x14 =>
  Q x14 r11 r12

def spec_l1Cur_anySchema (c : L1Cur) (Q : (List Variable) → Int → Int → Prop) : Prop :=
  spec_l1Cur_schema ((L1Cur.mk c.Code c.At c.Seed)) fun r3 r4 r5 =>
  jn (fun (k : (List Variable) → Int → Int → Prop) => spec_l1Cur_pick ((L1Cur.mk c.Code r4 r5)) 24 fun r29 r30 r31 =>
  br (r29 == 0) (spec_l1Cur_among ((L1Cur.mk c.Code r30 r31)) ([1, 8, 9]) fun r44 r45 r46 =>
  idx r3 0 fun x52 =>
  k (List.set r3 (Int.toNat 0) ({x52 with Levels := r44} : Variable)) r45 r46) <|
  br (r29 == 1) (spec_l1Cur_of ((L1Cur.mk c.Code r30 r31)) ([(ByteArray.mk #[]), (ByteArray.mk #[65, 103, 101]), (ByteArray.mk #[97, 98, 99, 100, 101, 102, 103, 104, 105]), (ByteArray.mk #[97, 103, 101]), (ByteArray.mk #[97, 98, 32, 99, 100])]) fun r76 r77 r78 =>
  idx r3 0 fun x84 =>
  k (List.set r3 (Int.toNat 0) ({x84 with Name := r76} : Variable)) r77 r78) <|
  br (r29 == 2) (Q ([]) r30 r31) <|
  br (r29 == 3) (Loop3 (fun (sx105 : List Variable) (atx111 : Int) (seed112 : Int) nx =>
  spec_l1Cur_pick ((L1Cur.mk c.Code atx111 seed112)) 2 fun r124 r125 r126 =>
  br (decide ((ln sx105) < (wr (6 + r124)))) (sln ((ByteArray.mk #[120])) + sln (b2s ([(B8.mk (IntKind.u8.wrap (wr (97 + (ln sx105)))))])) ≤ 9223372036854775807 ∧ (
  (ln sx105 + ln ([(Variable.mk (((ByteArray.mk #[120])) ++ (b2s ([(B8.mk (IntKind.u8.wrap (wr (97 + (ln sx105)))))]))) 2)])) * 24 ≤ 140737488355328 ∧ (
  nx (sx105 ++ ([(Variable.mk (((ByteArray.mk #[120])) ++ (b2s ([(B8.mk (IntKind.u8.wrap (wr (97 + (ln sx105)))))]))) 2)])) r125 r126))) <|
  k sx105 r125 r126) r3 r30 r31) <|
  k r3 r30 r31) <|
  fun (sx : List Variable) (atx : Int) (seed : Int) =>
  Q sx atx seed

def spec_l1In (n : Int) (lo : Int) (hi : Int) (Q : Bool → Prop) : Prop :=
  jn (fun (k : Bool → Prop) => br (decide (n ≥ lo)) (k (decide (n ≤ hi))) <|
  k false) <|
  fun (x : Bool) =>
  Q x

def spec_sName (sx : ByteArray) (Q : Bool → Prop) : Prop :=
  Loop1 (fun (i : Int) nx =>
  br (decide (i < (sln sx))) (jn (fun (k : Bool → Prop) => sidx sx i fun c =>
  br (decide ((c) < 97)) (k true) <|
  sidx sx i fun c3 =>
  k (decide ((c3) > 122))) <|
  fun (x : Bool) =>
  br (x) (Q false) <|
  nx (wr (i + 1))) <|
  spec_l1In (sln sx) 1 8 fun r =>
  Q r) 0

def spec_sFind (sx : List Variable) (name : ByteArray) (Q : Int → Prop) : Prop :=
  Loop1 (fun (x : Int) nx =>
  br (decide (x < (ln sx))) (idx sx x fun x3 =>
  br (streq x3.Name name) (Q x) <|
  nx (wr (x + 1))) <|
  Q ((-1))) 0

def spec_sGood (sx : List Variable) (Q : Bool → Prop) : Prop :=
  spec_l1In (ln sx) 1 6 fun r1 =>
  br (!r1) (Q false) <|
  Loop1 (fun (x3 : Int) nx =>
  br (decide (x3 < (ln sx))) (idx sx x3 fun x10 =>
  jn (fun (k : Bool → Prop) => det1 (spec_sName x10.Name) fun r28 =>
  br (!r28) (k true) <|
  det1 (spec_l1In x10.Levels 2 8) fun r36 =>
  br (!r36) (k true) <|
  (0 : Int) ≤ 0 ∧ 0 ≤ x3 ∧ x3 ≤ ln sx ∧ (
  det1 (spec_sFind (List.take (Int.toNat x3 - Int.toNat 0) (List.drop (Int.toNat 0) sx)) x10.Name) fun r49 =>
  k (decide (r49 ≥ 0)))) <|
  fun (x24 : Bool) =>
  br (x24) (Q false) <|
  nx (wr (x3 + 1))) <|
  Q true) 0

def spec_eFull (sx : List Variable) (vx1 : Int) (Q : Int → Prop) : Prop :=
  idx sx vx1 fun x =>
  (0 : Int) ≤ (IntKind.u64.wrap (x.Levels)) ∧ (
  Q (wr ((shl .i64 1 (IntKind.u64.wrap (x.Levels))) - 1)))

def spec_l1Cur_one (c : L1Cur) (n : Int) (Q : Bool → Int → Int → Prop) : Prop :=
  spec_l1Cur_pick ((L1Cur.mk c.Code c.At c.Seed)) n fun r3 r4 r5 =>
  Q (r3 == 0) r4 r5

def spec_l1Cur_edit (c : L1Cur) (sx : List Variable) (Q : Edit → Int → Int → Prop) : Prop :=
  Loop4 (fun (x19 : Int) (atx : Int) (seed : Int) (sets : List Int) nx =>
  br (decide (x19 < (ln sx))) (spec_eFull sx x19 fun r48 =>
  jn (fun (k : Int → Int → Int → Prop) => spec_l1Cur_one ((L1Cur.mk c.Code atx seed)) 3 fun r70 r71 r72 =>
  br (!r70) (spec_l1Cur_pick ((L1Cur.mk c.Code r71 r72)) r48 fun r77 r78 r79 =>
  k (wr (1 + r77)) r78 r79) <|
  k r48 r71 r72) <|
  fun (x59 : Int) (atx60 : Int) (seed61 : Int) =>
  (ln sets + ln ([x59])) * 8 ≤ 140737488355328 ∧ (
  nx (wr (x19 + 1)) atx60 seed61 (sets ++ ([x59])))) <|
  Q ((Edit.mk sets)) atx seed) 0 c.At c.Seed ([])

def spec_l1Cur_anyEdit (c : L1Cur) (sx : List Variable) (Q : Edit → Int → Int → Prop) : Prop :=
  spec_sGood sx fun r12 =>
  br (!r12) (Q ((Edit.mk ([1]))) c.At c.Seed) <|
  spec_l1Cur_edit ((L1Cur.mk c.Code c.At c.Seed)) sx fun r37 r38 r39 =>
  jn (fun (k : Int → Int → (List Int) → Prop) => spec_l1Cur_pick ((L1Cur.mk c.Code r38 r39)) 24 fun r92 r93 r94 =>
  br (r92 == 0) ((
  spec_l1Cur_pick ((L1Cur.mk c.Code r93 r94)) (ln r37.Sets) fun r109 r110 r111 =>
  spec_l1Cur_among ((L1Cur.mk c.Code r110 r111)) ([0, (-1), 256, 4]) fun r135 r136 r137 =>
  (0 : Int) ≤ r109 ∧ Int.toNat r109 < List.length r37.Sets ∧ (
  k r136 r137 (List.set r37.Sets (Int.toNat r109) r135))) ∧ (
  spec_l1Cur_pick ((L1Cur.mk c.Code r93 r94)) (ln r37.Sets) fun r184 r185 r186 =>
  spec_l1Cur_among ((L1Cur.mk c.Code r185 r186)) ([0, (-1), 256, 4]) fun r197 r198 r199 =>
  (0 : Int) ≤ r184 ∧ Int.toNat r184 < List.length r37.Sets ∧ (
  k r198 r199 (List.set r37.Sets (Int.toNat r184) r197)))) <|
  br (r92 == 1) ((ln r37.Sets + ln ([1])) * 8 ≤ 140737488355328 ∧ (
  k r93 r94 (r37.Sets ++ ([1])))) <|
  k r93 r94 r37.Sets) <|
  fun (atx : Int) (seed : Int) (sets : List Int) =>
  Q ((Edit.mk sets)) atx seed

def spec_l1Own (l : List Int) (Q : (List Int) → Prop) : Prop :=
  (ln (([] : List Int)) + ln l) * 8 ≤ 140737488355328 ∧ (
  Q ((([] : List Int)) ++ l))

def spec_l1Cur_edits (c : L1Cur) (sx : List Variable) (Q : (List Edit) → Int → Int → Prop) : Prop :=
  spec_l1Cur_pick ((L1Cur.mk c.Code c.At c.Seed)) 6 fun r10 r11 r12 =>
  Loop4 (fun (l : List Edit) (k : Int) (atx : Int) (seed : Int) nx =>
  br (decide (k > 0)) (spec_l1Cur_anyEdit ((L1Cur.mk c.Code atx seed)) sx fun r30 r31 r32 =>
  (ln l + ln ([((Edit.mk r30.Sets) : Edit)])) * 24 ≤ 140737488355328 ∧ (
  nx (l ++ ([((Edit.mk r30.Sets) : Edit)])) (wr (k - 1)) r31 r32)) <|
  jn (fun (k92 : (List Edit) → Int → Int → Prop) => spec_l1Cur_one ((L1Cur.mk c.Code atx seed)) 40 fun r93 r94 r95 =>
  br (r93) (spec_l1Cur_anyEdit ((L1Cur.mk c.Code r94 r95)) sx fun r100 r101 r102 =>
  spec_l1Cur_pick ((L1Cur.mk c.Code r101 r102)) 2 fun r124 r125 r126 =>
  Loop1 (fun (l133 : List Edit) nx163 =>
  br (decide ((ln l133) < (wr (40 + r124)))) (spec_l1Own r100.Sets fun r165 =>
  (ln l133 + ln ([((Edit.mk r165) : Edit)])) * 24 ≤ 140737488355328 ∧ (
  nx163 (l133 ++ ([((Edit.mk r165) : Edit)])))) <|
  k92 l133 r125 r126) l) <|
  k92 l r94 r95) <|
  fun (l76 : List Edit) (atx82 : Int) (seed83 : Int) =>
  Q l76 atx82 seed83) ([]) r10 r11 r12

def spec_DrawCountPassing (code : List B8) (Q : (List Variable) → (List Edit) → Prop) : Prop :=
  spec_l1Cur_anySchema ((L1Cur.mk code 0 0)) fun r2 r3 r4 =>
  spec_l1Cur_edits ((L1Cur.mk code r3 r4)) r2 fun r15 r16 r17 =>
  Q r2 r15

def spec_DrawMaximalEdits (code : List B8) (Q : (List Variable) → (List Edit) → Prop) : Prop :=
  spec_DrawCountPassing code fun r1 r2 =>
  Q r1 r2

def impl_isWord (sx : ByteArray) (Q : Bool → Prop) : Prop :=
  jn (fun (k : Bool → Prop) => br (decide ((sln sx) < 1)) (k true) <|
  k (decide ((sln sx) > 8))) <|
  fun (x : Bool) =>
  br (x) (Q false) <|
  Loop1 (fun (x2 : Int) nx =>
  br (decide (x2 < (sln sx))) (jn (fun (k7 : Bool → Prop) => sidx sx x2 fun c =>
  br (decide ((c) < 97)) (k7 true) <|
  sidx sx x2 fun c10 =>
  k7 (decide ((c10) > 122))) <|
  fun (x5 : Bool) =>
  br (x5) (Q false) <|
  nx (wr (x2 + 1))) <|
  Q true) 0

def impl_IsSchema (sx : List Variable) (Q : Bool → Prop) : Prop :=
  jn (fun (k : Bool → Prop) => br (decide ((ln sx) < 1)) (k true) <|
  k (decide ((ln sx) > 6))) <|
  fun (x : Bool) =>
  br (x) (Q false) <|
  Loop1 (fun (x2 : Int) nx =>
  br (decide (x2 < (ln sx))) (idx sx x2 fun x7 =>
  jn (fun (k26 : Bool → Prop) => impl_isWord x7.Name fun r28 =>
  br (!r28) (k26 true) <|
  br (decide (x7.Levels < 2)) (k26 true) <|
  k26 (decide (x7.Levels > 8))) <|
  fun (x21 : Bool) =>
  br (x21) (Q false) <|
  (0 : Int) ≤ 0 ∧ 0 ≤ x2 ∧ x2 ≤ ln sx ∧ (
  Loop1 (fun (x46 : Int) nx54 =>
  br (decide (x46 < (ln (List.take (Int.toNat x2 - Int.toNat 0) (List.drop (Int.toNat 0) sx))))) (idx (List.take (Int.toNat x2 - Int.toNat 0) (List.drop (Int.toNat 0) sx)) x46 fun x56 =>
  br (streq x56.Name x7.Name) (Q false) <|
  nx54 (wr (x46 + 1))) <|
  nx (wr (x2 + 1))) 0)) <|
  Q true) 0

def impl_combinations (sx : List Variable) (Q : Int → Prop) : Prop :=
  Loop2 (fun (n : Int) (x : Int) nx =>
  br (decide (x < (ln sx))) (idx sx x fun x3 =>
  nx (wr (n * x3.Levels)) (wr (x + 1))) <|
  Q n) 1 0

def impl_isSmall (sx : List Variable) (Q : Bool → Prop) : Prop :=
  jn (fun (k : Bool → Prop) => impl_IsSchema sx fun r2 =>
  br (r2) (impl_combinations sx fun r5 =>
  k (decide (r5 ≤ 100))) <|
  k false) <|
  fun (x : Bool) =>
  Q x

def impl_fullSet (vx : Variable) (Q : Int → Prop) : Prop :=
  (0 : Int) ≤ vx.Levels ∧ (
  Q (wr ((shl .i64 1 vx.Levels) - 1)))

def impl_isEdit (sx : List Variable) (ex1 : Edit) (Q : Bool → Prop) : Prop :=
  br ((ln ex1.Sets) != (ln sx)) (Q false) <|
  Loop1 (fun (x10 : Int) nx =>
  br (decide (x10 < (ln ex1.Sets))) (idx ex1.Sets x10 fun x19 =>
  jn (fun (k : Bool → Prop) => br (decide (x19 < 1)) (k true) <|
  idx sx x10 fun x31 =>
  impl_fullSet x31 fun r40 =>
  k (decide (x19 > r40))) <|
  fun (x25 : Bool) =>
  br (x25) (Q false) <|
  nx (wr (x10 + 1))) <|
  Q true) 0

def impl_areEdits (sx : List Variable) (l : List Edit) (Q : Bool → Prop) : Prop :=
  br (decide ((ln l) > 40)) (Q false) <|
  Loop1 (fun (x : Int) nx =>
  br (decide (x < (ln l))) (idx l x fun x11 =>
  impl_isEdit sx ((Edit.mk x11.Sets)) fun r30 =>
  br (!r30) (Q false) <|
  nx (wr (x + 1))) <|
  Q true) 0

def impl_valuesAt (sx : List Variable) (i : Int) (Q : (List Int) → Prop) : Prop :=
  (0 : Int) ≤ (ln sx) ∧ 8 * (ln sx) ≤ 140737488355328 ∧ (
  Loop3 (fun (i6 : Int) (values : List Int) (k : Int) nx =>
  br (decide (k ≥ 0)) (idx sx k fun x18 =>
  x18.Levels ≠ 0 ∧ (
  (0 : Int) ≤ k ∧ Int.toNat k < List.length values ∧ (
  idx sx k fun x29 =>
  x29.Levels ≠ 0 ∧ (
  nx (wr (Int.tdiv i6 x29.Levels)) (List.set values (Int.toNat k) (Int.tmod i6 x18.Levels)) (wr (k - 1)))))) <|
  Q values) i (List.replicate (Int.toNat (ln sx)) ((0 : Int))) (wr ((ln sx) - 1)))

def impl_fails (ex : Edit) (values : List Int) (Q : Bool → Prop) : Prop :=
  Loop1 (fun (x9 : Int) nx =>
  br (decide (x9 < (ln values))) (idx values x9 fun x11 =>
  idx ex.Sets x9 fun x18 =>
  (0 : Int) ≤ x11 ∧ (
  br ((bits .and .i64 (shr .i64 x18 x11) 1) == 0) (Q false) <|
  nx (wr (x9 + 1)))) <|
  Q true) 0

def impl_failsOne (l : List Edit) (values : List Int) (Q : Bool → Prop) : Prop :=
  Loop1 (fun (x : Int) nx =>
  br (decide (x < (ln l))) (idx l x fun x10 =>
  impl_fails ((Edit.mk x10.Sets)) values fun r29 =>
  br (r29) (Q true) <|
  nx (wr (x + 1))) <|
  Q false) 0

def impl_failing (sx : List Variable) (l : List Edit) (Q : (List Bool) → Prop) : Prop :=
  impl_combinations sx fun r7 =>
  (0 : Int) ≤ r7 ∧ 1 * r7 ≤ 140737488355328 ∧ (
  Loop2 (fun (out : List Bool) (x20 : Int) nx =>
  br (decide (x20 < (ln (List.replicate (Int.toNat r7) false)))) (impl_valuesAt sx x20 fun r33 =>
  impl_failsOne l r33 fun r43 =>
  (0 : Int) ≤ x20 ∧ Int.toNat x20 < List.length out ∧ (
  nx (List.set out (Int.toNat x20) r43) (wr (x20 + 1)))) <|
  Q out) (List.replicate (Int.toNat r7) false) 0)

def impl_editKey (sx : List Variable) (sets : List Int) (Q : Int → Prop) : Prop :=
  Loop2 (fun (key : Int) (x : Int) nx =>
  br (decide (x < (ln sets))) (idx sets x fun x7 =>
  idx sx x fun x13 =>
  (0 : Int) ≤ x13.Levels ∧ (
  nx (bits .or .i64 (shl .i64 key x13.Levels) x7) (wr (x + 1)))) <|
  Q key) 0 0

def slices_Clone_int_int (sx : List Int) (Q : (List Int) → Prop) : Prop :=
  nilq sx fun z =>
  br (z) (Q ([])) <|
  (ln (([] : List Int)) + ln sx) * 8 ≤ 140737488355328 ∧ (
  Q ((([] : List Int)) ++ sx))

def impl_maximalEdits_1 (sets : List Int) (c1 : List (Int × Bool)) (c8 : List Variable) (c17 : List Edit) (Q : (List (Int × Bool)) → (List Edit) → Prop) : Prop :=
  det1 (impl_editKey c8 sets) fun r44 =>
  slices_Clone_int_int sets fun r58 =>
  (ln c17 + ln ([((Edit.mk r58) : Edit)])) * 24 ≤ 140737488355328 ∧ (
  Q (mput c1 r44 true) (c17 ++ ([((Edit.mk r58) : Edit)])))

def impl_impliedIn_impl_maximalEdits_1 (sx : List Variable) (inx : List Bool) (vx7 : Int) (sets : List Int) (c14 : List (Int × Bool)) (c21 : List Variable) (c30 : List Edit) (Q : (List (Int × Bool)) → (List Edit) → Prop) : Prop :=
  Rec7 (fun (self : (List Variable) → (List Bool) → Int → (List Int) → (List (Int × Bool)) → (List Variable) → (List Edit) → ((List (Int × Bool)) → (List Edit) → Prop) → Prop) (sx : List Variable) (inx : List Bool) (vx7 : Int) (sets : List Int) (c14 : List (Int × Bool)) (c21 : List Variable) (c30 : List Edit) (Q : (List (Int × Bool)) → (List Edit) → Prop) =>
  br ((ln sets) == (ln sx)) (jn (fun (k : (List (Int × Bool)) → (List Edit) → Prop) => idx inx 0 fun x84 =>
  br (x84) (impl_maximalEdits_1 sets c14 c21 c30 fun r92 r93 =>
  k r92 r93) <|
  k c14 c30) <|
  fun (mp : List (Int × Bool)) (x : List Edit) =>
  Q mp x) <|
  idx sx (ln sets) fun x112 =>
  x112.Levels ≠ 0 ∧ (
  jn (fun (k130 : Int → Prop) => br ((ln sets) == vx7) (idx sx (ln sets) fun x133 =>
  impl_fullSet x133 fun r142 =>
  k130 r142) <|
  k130 1) <|
  fun (least : Int) =>
  Loop3 (fun (setx : Int) (mp160 : List (Int × Bool)) (x165 : List Edit) nx =>
  idx sx (ln sets) fun x203 =>
  impl_fullSet x203 fun r212 =>
  br (decide (setx ≤ r212)) (jn (fun (k273 : (List (Int × Bool)) → (List Edit) → Prop) => (0 : Int) ≤ (wr (Int.tdiv (ln inx) x112.Levels)) ∧ 1 * (wr (Int.tdiv (ln inx) x112.Levels)) ≤ 140737488355328 ∧ (
  Loop3 (fun (rest : List Bool) (any : Bool) (x289 : Int) nx324 =>
  br (decide (x289 < (ln (List.replicate (Int.toNat (wr (Int.tdiv (ln inx) x112.Levels))) false)))) (jn (fun (k353 : (List Bool) → Bool → Prop) => (0 : Int) ≤ x289 ∧ Int.toNat x289 < List.length rest ∧ (
  idx sx (ln sets) fun x362 =>
  Loop2 (fun (rest370 : List Bool) (x376 : Int) nx410 =>
  br (decide (x376 < x362.Levels)) (jn (fun (k438 : (List Bool) → Prop) => idx rest370 x289 fun x440 =>
  br (x440) ((0 : Int) ≤ x376 ∧ (
  br ((bits .and .i64 (shr .i64 setx x376) 1) == 0) ((0 : Int) ≤ x289 ∧ Int.toNat x289 < List.length rest370 ∧ (
  k438 (List.set rest370 (Int.toNat x289) true))) <|
  idx inx (wr ((wr (x376 * (wr (Int.tdiv (ln inx) x112.Levels)))) + x289)) fun x473 =>
  (0 : Int) ≤ x289 ∧ Int.toNat x289 < List.length rest370 ∧ (
  k438 (List.set rest370 (Int.toNat x289) x473)))) <|
  (0 : Int) ≤ x289 ∧ Int.toNat x289 < List.length rest370 ∧ (
  k438 (List.set rest370 (Int.toNat x289) false))) <|
  fun (rest412 : List Bool) =>
  nx410 rest412 (wr (x376 + 1))) <|
  br (any) (k353 rest370 true) <|
  idx rest370 x289 fun x525 =>
  k353 rest370 x525) (List.set rest (Int.toNat x289) true) 0)) <|
  fun (rest326 : List Bool) (any332 : Bool) =>
  nx324 rest326 any332 (wr (x289 + 1))) <|
  br (any) ((ln sets + ln ([setx])) * 8 ≤ 140737488355328 ∧ (
  self sx rest vx7 (sets ++ ([setx])) mp160 c21 x165 fun r566 r567 =>
  k273 r566 r567)) <|
  k273 mp160 x165) (List.replicate (Int.toNat (wr (Int.tdiv (ln inx) x112.Levels))) false) false 0)) <|
  fun (mp231 : List (Int × Bool)) (x236 : List Edit) =>
  nx (wr (setx + 1)) mp231 x236) <|
  Q mp160 x165) least c14 c30)) sx inx vx7 sets c14 c21 c30 Q

def impl_canGrow (sx : List Variable) (implied : List (Int × Bool)) (ex5 : Edit) (Q : Bool → Prop) : Prop :=
  slices_Clone_int_int ex5.Sets fun r14 =>
  Loop2 (fun (sets : List Int) (x29 : Int) nx =>
  br (decide (x29 < (ln r14))) (idx sx x29 fun x42 =>
  Loop2 (fun (sets47 : List Int) (x53 : Int) nx63 =>
  br (decide (x53 < x42.Levels)) (jn (fun (k : (List Int) → Prop) => idx sets47 x29 fun x77 =>
  (0 : Int) ≤ x53 ∧ (
  br ((bits .and .i64 (shr .i64 x77 x53) 1) == 1) (k sets47) <|
  idx sets47 x29 fun x89 =>
  (0 : Int) ≤ x53 ∧ (
  (0 : Int) ≤ x29 ∧ Int.toNat x29 < List.length sets47 ∧ (
  impl_editKey sx (List.set sets47 (Int.toNat x29) (bits .or .i64 x89 (shl .i64 1 x53))) fun r111 =>
  idx (List.set sets47 (Int.toNat x29) (bits .or .i64 x89 (shl .i64 1 x53))) x29 fun x119 =>
  (0 : Int) ≤ x53 ∧ (
  (0 : Int) ≤ x29 ∧ Int.toNat x29 < List.length (List.set sets47 (Int.toNat x29) (bits .or .i64 x89 (shl .i64 1 x53))) ∧ (
  br (mget implied r111 false) (Q true) <|
  k (List.set (List.set sets47 (Int.toNat x29) (bits .or .i64 x89 (shl .i64 1 x53))) (Int.toNat x29) (bits .andNot .i64 x119 (shl .i64 1 x53))))))))) <|
  fun (sets65 : List Int) =>
  nx63 sets65 (wr (x53 + 1))) <|
  nx sets47 (wr (x29 + 1))) sets 0) <|
  Q false) r14 0

def impl_maximalEdits (sx : List Variable) (l : List Edit) (vx7 : Int) (Q : (List Edit) → Prop) : Prop :=
  impl_failing sx l fun r34 =>
  impl_impliedIn_impl_maximalEdits_1 sx r34 vx7 ([]) (([] : List (Int × Bool))) sx ([]) fun r62 r63 =>
  Loop2 (fun (out : List Edit) (x104 : Int) nx =>
  br (decide (x104 < (ln r63))) (jn (fun (k : (List Edit) → Prop) => idx r63 x104 fun x168 =>
  impl_canGrow sx r62 ((Edit.mk x168.Sets)) fun r195 =>
  br (!r195) ((ln out + ln ([((Edit.mk x168.Sets) : Edit)])) * 24 ≤ 140737488355328 ∧ (
  k (out ++ ([((Edit.mk x168.Sets) : Edit)])))) <|
  k out) <|
  fun (out141 : List Edit) =>
  nx out141 (wr (x104 + 1))) <|
  Q out) ([]) 0

def impl_MaximalEdits (sx : List Variable) (l : List Edit) (Q : (List Edit) → Bool → Prop) : Prop :=
  jn (fun (k : Bool → Prop) => impl_isSmall sx fun r10 =>
  br (!r10) (k true) <|
  impl_areEdits sx l fun r16 =>
  k (!r16)) <|
  fun (x : Bool) =>
  br (x) (Q ([]) false) <|
  impl_maximalEdits sx l ((-1)) fun r25 =>
  Q r25 true

def spec_eGood (sx : List Variable) (ex1 : Edit) (Q : Bool → Prop) : Prop :=
  br ((ln ex1.Sets) != (ln sx)) (Q false) <|
  Loop1 (fun (x10 : Int) nx =>
  br (decide (x10 < (ln ex1.Sets))) (idx ex1.Sets x10 fun x19 =>
  spec_eFull sx x10 fun r25 =>
  spec_l1In x19 1 r25 fun r28 =>
  br (!r28) (Q false) <|
  nx (wr (x10 + 1))) <|
  Q true) 0

def spec_eList (sx : List Variable) (l : List Edit) (Q : Bool → Prop) : Prop :=
  jn (fun (k : Bool → Prop) => spec_sGood sx fun r10 =>
  br (!r10) (k true) <|
  k (decide ((ln l) > 40))) <|
  fun (x : Bool) =>
  br (x) (Q false) <|
  Loop1 (fun (x20 : Int) nx =>
  br (decide (x20 < (ln l))) (idx l x20 fun x26 =>
  spec_eGood sx ((Edit.mk x26.Sets)) fun r45 =>
  br (!r45) (Q false) <|
  nx (wr (x20 + 1))) <|
  Q true) 0

def spec_sCount (sx : List Variable) (Q : Int → Prop) : Prop :=
  Loop2 (fun (n : Int) (x : Int) nx =>
  br (decide (x < (ln sx))) (idx sx x fun x3 =>
  nx (wr (n * x3.Levels)) (wr (x + 1))) <|
  Q n) 1 0

def spec_eSmall (sx : List Variable) (l : List Edit) (Q : Bool → Prop) : Prop :=
  jn (fun (k : Bool → Prop) => spec_eList sx l fun r8 =>
  br (r8) (spec_sCount sx fun r11 =>
  k (decide (r11 ≤ 100))) <|
  k false) <|
  fun (x : Bool) =>
  Q x

def spec_sAt (sx : List Variable) (i : Int) (Q : (List Int) → Prop) : Prop :=
  (0 : Int) ≤ (ln sx) ∧ 8 * (ln sx) ≤ 140737488355328 ∧ (
  Loop3 (fun (i6 : Int) (out : List Int) (k : Int) nx =>
  br (decide (k ≥ 0)) (idx sx k fun x18 =>
  x18.Levels ≠ 0 ∧ (
  (0 : Int) ≤ k ∧ Int.toNat k < List.length out ∧ (
  idx sx k fun x29 =>
  x29.Levels ≠ 0 ∧ (
  nx (wr (Int.tdiv i6 x29.Levels)) (List.set out (Int.toNat k) (Int.tmod i6 x18.Levels)) (wr (k - 1)))))) <|
  Q out) i (List.replicate (Int.toNat (ln sx)) ((0 : Int))) (wr ((ln sx) - 1)))

def spec_eFails (ex : Edit) (values : List Int) (Q : Bool → Prop) : Prop :=
  Loop1 (fun (x9 : Int) nx =>
  br (decide (x9 < (ln values))) (idx values x9 fun x11 =>
  idx ex.Sets x9 fun x18 =>
  (0 : Int) ≤ (IntKind.u64.wrap (x11)) ∧ (
  br ((bits .and .i64 (shr .i64 x18 (IntKind.u64.wrap (x11))) 1) == 0) (Q false) <|
  nx (wr (x9 + 1)))) <|
  Q true) 0

def spec_eFailed (l : List Edit) (values : List Int) (Q : (List Int) → Prop) : Prop :=
  Loop2 (fun (out : List Int) (x : Int) nx =>
  br (decide (x < (ln l))) (jn (fun (k : (List Int) → Prop) => idx l x fun x30 =>
  spec_eFails ((Edit.mk x30.Sets)) values fun r51 =>
  br (r51) ((ln out + ln ([x])) * 8 ≤ 140737488355328 ∧ (
  k (out ++ ([x])))) <|
  k out) <|
  fun (out16 : List Int) =>
  nx out16 (wr (x + 1))) <|
  Q out) ([]) 0

def spec_eSearch_free (x : ESearch) (sets : List Int) (Q : Bool → Prop) : Prop :=
  Loop1 (fun (x20 : Int) nx =>
  br (decide (x20 < (ln x.Passing))) (idx x.Passing x20 fun x24 =>
  spec_eFails ((Edit.mk sets)) x24 fun r33 =>
  br (r33) (Q false) <|
  nx (wr (x20 + 1))) <|
  Q true) 0

def spec_eSearch_grows (x : ESearch) (sets : List Int) (Q : Bool → Prop) : Prop :=
  Loop1 (fun (x20 : Int) nx =>
  br (decide (x20 < (ln sets))) (Loop1 (fun (level : Int) nx37 =>
  idx x.S x20 fun x38 =>
  br (decide (level < x38.Levels)) (jn (fun (k : Prop) => idx sets x20 fun x50 =>
  (0 : Int) ≤ (IntKind.u64.wrap (level)) ∧ (
  br ((bits .and .i64 (shr .i64 x50 (IntKind.u64.wrap (level))) 1) == 1) (k) <|
  spec_l1Own sets fun r60 =>
  idx r60 x20 fun x68 =>
  (0 : Int) ≤ (IntKind.u64.wrap (level)) ∧ (
  (0 : Int) ≤ x20 ∧ Int.toNat x20 < List.length r60 ∧ (
  spec_eSearch_free ((ESearch.mk x.S x.Passing x.V x.Out)) (List.set r60 (Int.toNat x20) (bits .or .i64 x68 (shl .i64 1 (IntKind.u64.wrap (level))))) fun r84 =>
  br (r84) (Q true) <|
  k)))) <|
  nx37 (wr (level + 1))) <|
  nx (wr (x20 + 1))) 0) <|
  Q false) 0

def spec_eSearch_run (x : ESearch) (k : Int) (sets : List Int) (Q : (List Edit) → Int → Prop) : Prop :=
  Rec3 (fun (self : ESearch → Int → (List Int) → ((List Edit) → Int → Prop) → Prop) (x : ESearch) (k : Int) (sets : List Int) (Q : (List Edit) → Int → Prop) =>
  br (k == (ln x.S)) (jn (fun (k39 : (List Edit) → Prop) => jn (fun (k48 : Bool → Prop) => spec_eSearch_free ((ESearch.mk x.S x.Passing x.V x.Out)) sets fun r50 =>
  br (r50) (spec_eSearch_grows ((ESearch.mk x.S x.Passing x.V x.Out)) sets fun r54 =>
  k48 (!r54)) <|
  k48 false) <|
  fun (x40 : Bool) =>
  br (x40) (spec_l1Own sets fun r80 =>
  (ln x.Out + ln ([((Edit.mk r80) : Edit)])) * 24 ≤ 140737488355328 ∧ (
  k39 (x.Out ++ ([((Edit.mk r80) : Edit)])))) <|
  k39 x.Out) <|
  fun (out : List Edit) =>
  Q out x.V) <|
  jn (fun (k156 : Int → Prop) => br (k == x.V) (spec_eFull x.S k fun r159 =>
  k156 r159) <|
  k156 1) <|
  fun (first : Int) =>
  Loop3 (fun (setx : Int) (vx168 : Int) (out169 : List Edit) nx =>
  spec_eFull x.S k fun r188 =>
  br (decide (setx ≤ r188)) (spec_l1Own sets fun r192 =>
  (ln r192 + ln ([setx])) * 8 ≤ 140737488355328 ∧ (
  self ((ESearch.mk x.S x.Passing vx168 out169)) (wr (k + 1)) (r192 ++ ([setx])) fun r228 r229 =>
  nx (wr (setx + 1)) r229 r228)) <|
  Q out169 vx168) first x.V x.Out) x k sets Q

def spec_eMaximal (sx : List Variable) (l : List Edit) (vx7 : Int) (Q : (List Edit) → Prop) : Prop :=
  Loop2 (fun (i : Int) (passing : List (List Int)) nx =>
  spec_sCount sx fun r25 =>
  br (decide (i < r25)) (jn (fun (k : (List (List Int)) → Prop) => spec_sAt sx i fun r50 =>
  spec_eFailed l r50 fun r60 =>
  br ((ln r60) == 0) ((ln passing + ln ([r50])) * 24 ≤ 140737488355328 ∧ (
  k (passing ++ ([r50])))) <|
  k passing) <|
  fun (passing34 : List (List Int)) =>
  nx (wr (i + 1)) passing34) <|
  spec_eSearch_run ((ESearch.mk sx passing vx7 ([]))) 0 ([]) fun r118 r119 =>
  Q r118) 0 ([])

def spec_MaximalEdits (sx : List Variable) (l : List Edit) (Q : (List Edit) → Bool → Prop) : Prop :=
  spec_eSmall sx l fun r7 =>
  br (!r7) (Q ([]) false) <|
  spec_eMaximal sx l ((-1)) fun r9 =>
  Q r9 true

def laws_sameInts (a : List Int) (b : List Int) (Q : Bool → Prop) : Prop :=
  br ((ln a) != (ln b)) (Q false) <|
  Loop1 (fun (x : Int) nx =>
  br (decide (x < (ln a))) (idx a x fun x12 =>
  idx b x fun x18 =>
  br (x12 != x18) (Q false) <|
  nx (wr (x + 1))) <|
  Q true) 0

def laws_pSameEdits (a : List Edit) (b : List Edit) (Q : Bool → Prop) : Prop :=
  br ((ln a) != (ln b)) (Q false) <|
  Loop1 (fun (x : Int) nx =>
  br (decide (x < (ln a))) (idx a x fun x12 =>
  idx b x fun x20 =>
  det1 (laws_sameInts x12.Sets x20.Sets) fun r32 =>
  br (!r32) (Q false) <|
  nx (wr (x + 1))) <|
  Q true) 0

def impl_IsImplied (sx : List Variable) (l : List Edit) (ex7 : Edit) (Q : Bool → Bool → Prop) : Prop :=
  jn (fun (k : Bool → Prop) => impl_isSmall sx fun r27 =>
  br (!r27) (k true) <|
  impl_areEdits sx l fun r35 =>
  br (!r35) (k true) <|
  impl_isEdit sx ((Edit.mk ex7.Sets)) fun r48 =>
  k (!r48)) <|
  fun (x20 : Bool) =>
  br (x20) (Q false false) <|
  impl_combinations sx fun r61 =>
  Loop1 (fun (x64 : Int) nx =>
  br (decide (x64 < r61)) (impl_valuesAt sx x64 fun r77 =>
  jn (fun (k99 : Bool → Prop) => impl_fails ((Edit.mk ex7.Sets)) r77 fun r101 =>
  br (r101) (impl_failsOne l r77 fun r105 =>
  k99 (!r105)) <|
  k99 false) <|
  fun (x92 : Bool) =>
  br (x92) (Q false true) <|
  nx (wr (x64 + 1))) <|
  Q true true) 0

def spec_DrawContainsEdit (code : List B8) (Q : (List Variable) → Edit → Edit → Prop) : Prop :=
  spec_l1Cur_anySchema ((L1Cur.mk code 0 0)) fun r13 r14 r15 =>
  spec_l1Cur_anyEdit ((L1Cur.mk code r14 r15)) r13 fun r26 r27 r28 =>
  spec_l1Cur_anyEdit ((L1Cur.mk code r27 r28)) r13 fun r41 r42 r43 =>
  jn (fun (k : (List Int) → Prop) => jn (fun (k143 : Bool → Prop) => spec_l1Cur_one ((L1Cur.mk code r42 r43)) 3 fun r145 r146 r147 =>
  br (r145) (spec_sGood r13 fun r151 =>
  br (r151) (spec_eGood r13 ((Edit.mk r26.Sets)) fun r157 =>
  br (r157) (spec_eGood r13 ((Edit.mk r41.Sets)) fun r165 =>
  k143 r165) <|
  k143 false) <|
  k143 false) <|
  k143 false) <|
  fun (x133 : Bool) =>
  br (x133) (Loop2 (fun (x206 : Int) (sets207 : List Int) nx =>
  br (decide (x206 < (ln r41.Sets))) (jn (fun (k250 : (List Int) → Prop) => idx sets207 x206 fun x252 =>
  idx r26.Sets x206 fun x259 =>
  br (decide ((bits .and .i64 x252 x259) > 0)) (idx sets207 x206 fun x275 =>
  idx r26.Sets x206 fun x288 =>
  (0 : Int) ≤ x206 ∧ Int.toNat x206 < List.length sets207 ∧ (
  k250 (List.set sets207 (Int.toNat x206) (bits .and .i64 x275 x288)))) <|
  k250 sets207) <|
  fun (sets230 : List Int) =>
  nx (wr (x206 + 1)) sets230) <|
  k sets207) 0 r41.Sets) <|
  k r41.Sets) <|
  fun (sets : List Int) =>
  Q r13 ((Edit.mk r26.Sets)) ((Edit.mk sets))

def spec_DrawResolveEdits (code : List B8) (Q : (List Variable) → Edit → Edit → Int → Prop) : Prop :=
  spec_DrawContainsEdit code fun r12 r13 r14 =>
  spec_l1Cur_pick ((L1Cur.mk code 0 0)) 4 fun r65 r66 r67 =>
  spec_l1Cur_pick ((L1Cur.mk code r66 r67)) 20 fun r83 r84 r85 =>
  Q r12 ((Edit.mk r13.Sets)) ((Edit.mk r14.Sets)) (wr (r65 - (wr (Int.tdiv r83 19))))

def impl_ResolveEdits (sx : List Variable) (ex1 : Edit) (f : Edit) (vx14 : Int) (Q : Edit → Bool → Prop) : Prop :=
  jn (fun (k : Bool → Prop) => impl_isSmall sx fun r47 =>
  br (!r47) (k true) <|
  impl_isEdit sx ((Edit.mk ex1.Sets)) fun r57 =>
  br (!r57) (k true) <|
  impl_isEdit sx ((Edit.mk f.Sets)) fun r72 =>
  br (!r72) (k true) <|
  br (decide (vx14 < 0)) (k true) <|
  k (decide (vx14 ≥ (ln sx)))) <|
  fun (x39 : Bool) =>
  br (x39) (Q ((Edit.mk ([]))) false) <|
  slices_Clone_int_int ex1.Sets fun r107 =>
  Loop2 (fun (sets : List Int) (x122 : Int) nx =>
  br (decide (x122 < (ln f.Sets))) (idx f.Sets x122 fun x133 =>
  jn (fun (k152 : (List Int) → Prop) => br (x122 == vx14) (idx sets x122 fun x155 =>
  (0 : Int) ≤ x122 ∧ Int.toNat x122 < List.length sets ∧ (
  k152 (List.set sets (Int.toNat x122) (bits .or .i64 x155 x133)))) <|
  idx sets x122 fun x175 =>
  (0 : Int) ≤ x122 ∧ Int.toNat x122 < List.length sets ∧ (
  k152 (List.set sets (Int.toNat x122) (bits .and .i64 x175 x133)))) <|
  fun (sets140 : List Int) =>
  idx sets140 x122 fun x198 =>
  br (x198 == 0) (Q ((Edit.mk ([]))) false) <|
  nx sets140 (wr (x122 + 1))) <|
  Q ((Edit.mk sets)) true) r107 0

def spec_eResolve (ex : Edit) (f : Edit) (vx8 : Int) (Q : Edit → Prop) : Prop :=
  Loop2 (fun (x31 : Int) (sets : List Int) nx =>
  br (decide (x31 < (ln ex.Sets))) (jn (fun (k : (List Int) → Prop) => idx ex.Sets x31 fun x86 =>
  br (x31 == vx8) (idx f.Sets x31 fun x98 =>
  (ln sets + ln ([bits .or .i64 x86 x98])) * 8 ≤ 140737488355328 ∧ (
  k (sets ++ ([bits .or .i64 x86 x98])))) <|
  idx f.Sets x31 fun x162 =>
  (ln sets + ln ([bits .and .i64 x86 x162])) * 8 ≤ 140737488355328 ∧ (
  k (sets ++ ([bits .and .i64 x86 x162])))) <|
  fun (sets66 : List Int) =>
  nx (wr (x31 + 1)) sets66) <|
  Q ((Edit.mk sets))) 0 ([])

def spec_ResolveEdits (sx : List Variable) (ex1 : Edit) (f : Edit) (vx14 : Int) (Q : Edit → Bool → Prop) : Prop :=
  jn (fun (k : Bool → Prop) => spec_eSmall sx ([((Edit.mk ex1.Sets) : Edit), ((Edit.mk f.Sets) : Edit)]) fun r58 =>
  br (!r58) (k true) <|
  spec_l1In vx14 0 (wr ((ln sx) - 1)) fun r70 =>
  k (!r70)) <|
  fun (x39 : Bool) =>
  br (x39) (Q ((Edit.mk ([]))) false) <|
  spec_eResolve ((Edit.mk ex1.Sets)) ((Edit.mk f.Sets)) vx14 fun r86 =>
  spec_eGood sx ((Edit.mk r86.Sets)) fun r104 =>
  br (!r104) (Q ((Edit.mk ([]))) false) <|
  Q ((Edit.mk r86.Sets)) true

def laws_FnImplied (code : List B8) (more : List B8) (Q : Bool → Prop) : Prop :=
  laws_big code more fun r7 =>
  br (r7) (Q true) <|
  spec_DrawMaximalEdits code fun r9 r10 =>
  impl_MaximalEdits r9 r10 fun r26 r27 =>
  spec_MaximalEdits r9 r10 fun r37 r38 =>
  jn (fun (k : Bool → Prop) => br (r27 != r38) (k true) <|
  laws_pSameEdits r26 r37 fun r70 =>
  k (!r70)) <|
  fun (x62 : Bool) =>
  br (x62) (Q false) <|
  Loop1 (fun (x79 : Int) nx =>
  br (decide (x79 < (ln r37))) (idx r37 x79 fun x87 =>
  impl_IsImplied r9 r10 ((Edit.mk x87.Sets)) fun r108 r109 =>
  jn (fun (k123 : Bool → Prop) => br (!r109) (k123 true) <|
  br (!r108) (k123 true) <|
  k123 (decide (x79 > 40))) <|
  fun (x121 : Bool) =>
  br (x121) (Q (decide (x79 > 40))) <|
  nx (wr (x79 + 1))) <|
  jn (fun (k131 : Prop) => jn (fun (k135 : Bool → Prop) => br (r27) (k135 (decide ((ln r37) ≤ 40))) <|
  k135 false) <|
  fun (x133 : Bool) =>
  br (x133) (Loop1 (fun (x139 : Int) nx149 =>
  br (decide (x139 < (ln r10))) (idx r10 x139 fun x151 =>
  impl_IsImplied r9 r37 ((Edit.mk x151.Sets)) fun r177 r178 =>
  jn (fun (k192 : Bool → Prop) => br (!r178) (k192 true) <|
  k192 (!r177)) <|
  fun (x190 : Bool) =>
  br (x190) (Q false) <|
  nx149 (wr (x139 + 1))) <|
  k131) 0) <|
  k131) <|
  spec_DrawResolveEdits more fun r196 r197 r198 r199 =>
  impl_ResolveEdits r196 ((Edit.mk r197.Sets)) ((Edit.mk r198.Sets)) r199 fun r245 r246 =>
  spec_ResolveEdits r196 ((Edit.mk r197.Sets)) ((Edit.mk r198.Sets)) r199 fun r276 r277 =>
  jn (fun (k344 : Bool → Prop) => br (r246 != r277) (k344 true) <|
  laws_sameInts r245.Sets r276.Sets fun r347 =>
  k344 (!r347)) <|
  fun (x334 : Bool) =>
  br (x334) (Q false) <|
  br (r246) (impl_IsImplied r196 ([((Edit.mk r197.Sets) : Edit), ((Edit.mk r198.Sets) : Edit)]) ((Edit.mk r245.Sets)) fun r370 r371 =>
  jn (fun (k380 : Bool → Prop) => br (r371) (k380 r370) <|
  k380 false) <|
  fun (x378 : Bool) =>
  Q x378) <|
  Q true) 0

end Go.Proofs.Ytdaojggigfnnpaa
