/- What each Go function means: a definition over numbers and lists; Q: what is to hold of its results. -/
import Derived.Test.YtklajcbpnpkniaaLib
set_option linter.unusedVariables false
set_option autoImplicit false
namespace Go.Proofs.Ytklajcbpnpkniaa
open Go Go.RowKit Go.Gv

structure Variable where
  Name : ByteArray
  Levels : Int
instance : Wf Variable := ⟨fun x => Wf.wf x.Name ∧ Wf.wf x.Levels⟩
instance : Flat Variable where
  n := 2
  agg := true
  rd _ cs x := cs = [.string x.Name, I x.Levels]
  enc x := [.string x.Name, I x.Levels]
  len h := by subst h; rfl
  le _ h := h
  one h c hc := by subst h; simp at hc; rcases hc with rfl | rfl <;> rfl
  sing h := by cases h
  flat := Iff.rfl
theorem Variable_rv {h : PH} {v : Value} {x : Variable} (r : RV h v x) : v = .agg #[.string x.Name, I x.Levels] := by obtain ⟨cs, rfl, rfl⟩ := r; rfl
structure Edit where
  Sets : List Int
instance : Wf Edit := ⟨fun x => Wf.wf x.Sets⟩
instance : Deep Edit := Deep.via (fun x => x.Sets)
theorem Edit_rd {h : PH} {cs : List Value} {x : Edit} (r : Enc.rd h cs x) : ∃ u0, cs = [u0] ∧ RS h u0 x.Sets := by
  obtain ⟨u0, rfl, r0⟩ := r; exact ⟨_, rfl, r0⟩
theorem Edit_rv {h : PH} {v : Value} {x : Edit} (r : RV h v x) : ∃ u0, v = .agg #[u0] ∧ RS h u0 x.Sets := by
  obtain ⟨cs, hr, rfl⟩ := r; obtain ⟨u0, rfl, r0⟩ := Edit_rd hr; exact ⟨_, rfl, r0⟩
theorem Edit_tk {h : PH} {c : List Value} {x : Edit} (b : Deep.own h c x) : ∃ u, c = [u] ∧ OD h u x.Sets := by
  have o := b
  obtain ⟨u, rfl, q⟩ := o
  refine ⟨u, rfl, ?_⟩
  simpa only [emp_un, un_emp] using q
theorem Edit_bw0 {h hi rest : PH} {v : Value} {xs : List Edit} {i : Nat} {c : List Value} {x : Edit} (b : Bw h v xs i hi rest c x) : ∃ u0 hl rs, c = [u0] ∧ BwG h v xs hl rs u0 x.Sets (fun y => xs.set i {x with Sets := y}) := by
  have o := b.own
  obtain ⟨u0, rfl, q0⟩ := o
  exact ⟨_, _, _, rfl, b.fc (Fc.via (fun x : Edit => x.Sets) (Fc.here q0) fun _ => rfl)⟩
structure Record where
  Area : Int
  House : Int
  Values : List Int
instance : Wf Record := ⟨fun x => Wf.wf x.Area ∧ Wf.wf x.House ∧ Wf.wf x.Values⟩
instance : Deep Record := Deep.via (fun x => (x.Area, x.House, x.Values))
theorem Record_rd {h : PH} {cs : List Value} {x : Record} (r : Enc.rd h cs x) : ∃ u0, cs = [I x.Area, I x.House, u0] ∧ RS h u0 x.Values := by
  obtain ⟨_, _, rfl, rfl, ⟨_, _, rfl, rfl, ⟨u0, rfl, r0⟩⟩⟩ := r; exact ⟨_, rfl, r0⟩
theorem Record_rv {h : PH} {v : Value} {x : Record} (r : RV h v x) : ∃ u0, v = .agg #[I x.Area, I x.House, u0] ∧ RS h u0 x.Values := by
  obtain ⟨cs, hr, rfl⟩ := r; obtain ⟨u0, rfl, r0⟩ := Record_rd hr; exact ⟨_, rfl, r0⟩
theorem Record_tk {h : PH} {c : List Value} {x : Record} (b : Deep.own h c x) : ∃ u, c = [I x.Area, I x.House, u] ∧ OD h u x.Values := by
  have o := b
  obtain ⟨_, _, _, _, rfl, rfl, d0, p0, n0⟩ := o
  obtain ⟨rfl, rfl⟩ := own_flat p0
  obtain ⟨_, _, _, _, rfl, rfl, d1, p1, n1⟩ := n0
  obtain ⟨rfl, rfl⟩ := own_flat p1
  obtain ⟨u, rfl, q⟩ := n1
  refine ⟨u, rfl, ?_⟩
  simpa only [emp_un, un_emp] using q
theorem Record_ft0 {x : Record} {k : Int} : FTurn x {x with Area := k} 0 [I k] := by
  intro _ _ o
  obtain ⟨_, _, _, _, rfl, rfl, d0, p0, n0⟩ := o
  obtain ⟨rfl, rfl⟩ := own_flat p0
  obtain ⟨_, _, _, _, rfl, rfl, d1, p1, n1⟩ := n0
  obtain ⟨rfl, rfl⟩ := own_flat p1
  obtain ⟨u0, rfl, q0⟩ := n1
  exact ⟨[I k], [I x.House, u0], _, _, rfl, rfl, d0, (flat_own k), ⟨[I x.House], [u0], _, _, rfl, rfl, d1, (flat_own x.House), ⟨u0, rfl, q0⟩⟩⟩
theorem Record_ft1 {x : Record} {k : Int} : FTurn x {x with House := k} 1 [I k] := by
  intro _ _ o
  obtain ⟨_, _, _, _, rfl, rfl, d0, p0, n0⟩ := o
  obtain ⟨rfl, rfl⟩ := own_flat p0
  obtain ⟨_, _, _, _, rfl, rfl, d1, p1, n1⟩ := n0
  obtain ⟨rfl, rfl⟩ := own_flat p1
  obtain ⟨u0, rfl, q0⟩ := n1
  exact ⟨[I x.Area], [I k, u0], _, _, rfl, rfl, d0, (flat_own x.Area), ⟨[I k], [u0], _, _, rfl, rfl, d1, (flat_own k), ⟨u0, rfl, q0⟩⟩⟩
theorem Record_bw2 {h hi rest : PH} {v : Value} {xs : List Record} {i : Nat} {c : List Value} {x : Record} (b : Bw h v xs i hi rest c x) : ∃ u0 hl rs, c = [I x.Area, I x.House, u0] ∧ BwG h v xs hl rs u0 x.Values (fun y => xs.set i {x with Values := y}) := by
  have o := b.own
  obtain ⟨_, _, _, _, rfl, rfl, d0, p0, n0⟩ := o
  obtain ⟨rfl, rfl⟩ := own_flat p0
  obtain ⟨_, _, _, _, rfl, rfl, d1, p1, n1⟩ := n0
  obtain ⟨rfl, rfl⟩ := own_flat p1
  obtain ⟨u0, rfl, q0⟩ := n1
  exact ⟨_, _, _, rfl, b.fc (Fc.via (fun x : Record => (x.Area, x.House, x.Values)) (Fc.right (flat_own x.Area) (Fc.right (flat_own x.House) (Fc.here q0) d1) d0) fun _ => rfl)⟩
theorem Record_hb2 {hi : PH} {c : List Value} {x : Record} (o : Deep.own hi c x) : ∃ u0 hl rs, c = [I x.Area, I x.House, u0] ∧ Fs hi c x hl rs u0 x.Values 2 (fun y => {x with Values := y}) := by
  obtain ⟨_, _, _, _, rfl, rfl, d0, p0, n0⟩ := o
  obtain ⟨rfl, rfl⟩ := own_flat p0
  obtain ⟨_, _, _, _, rfl, rfl, d1, p1, n1⟩ := n0
  obtain ⟨rfl, rfl⟩ := own_flat p1
  obtain ⟨u0, rfl, q0⟩ := n1
  exact ⟨_, _, _, rfl, Fs.via (fun x : Record => (x.Area, x.House, x.Values)) (Fs.right (x1 := x.Area) (by exact (flat_own x.Area)) (Fs.right (x1 := x.House) (by exact (flat_own x.House)) (Fs.here q0) d1 rfl) d0 rfl) fun _ => rfl⟩
structure L1Cur where
  Code : List B8
  At : Int
  Seed : Int

def spec_l1Cur_next (c : L1Cur) (Q : Int → Int → Int → Prop) : Prop :=
  jn (fun (k : Int → Prop) => br (decide (c.At < (ln c.Code))) (idx c.Code c.At fun x9 =>
  k (wr (x9.v))) <|
  k 0) <|
  fun (b3 : Int) =>
  br (decide ((wr (c.At + 1)) ≤ (ln c.Code))) (Q b3 (wr (c.At + 1)) (IntKind.u64.wrap ((IntKind.u64.wrap ((IntKind.u64.wrap (c.Seed * 6364136223846793005)) + (IntKind.u64.wrap (b3)))) + 1442695040888963407))) <|
  Q (wr (bits .and .u64 (Int.fdiv (IntKind.u64.wrap ((IntKind.u64.wrap ((IntKind.u64.wrap (c.Seed * 6364136223846793005)) + (IntKind.u64.wrap (b3)))) + 1442695040888963407)) (2 ^ 40)) 255)) (wr (c.At + 1)) (IntKind.u64.wrap ((IntKind.u64.wrap ((IntKind.u64.wrap (c.Seed * 6364136223846793005)) + (IntKind.u64.wrap (b3)))) + 1442695040888963407))

def spec_l1Cur_pick (c : L1Cur) (n : Int) (Q : Int → Int → Int → Prop) : Prop :=
  br (decide (n ≤ 1)) (Q 0 c.At c.Seed) <|
  spec_l1Cur_next ((L1Cur.mk c.Code c.At c.Seed)) fun r3 r4 r5 =>
  jn (fun (k : Int → Int → Int → Prop) => br (decide (n > 200)) (spec_l1Cur_next ((L1Cur.mk c.Code r4 r5)) fun r15 r16 r17 =>
  k (wr ((wr (r3 * 256)) + r15)) r16 r17) <|
  k r3 r4 r5) <|
  fun (x9 : Int) (atx : Int) (seed : Int) =>
  n ≠ 0 ∧ (
  Q (Int.tmod x9 n) atx seed)

def spec_l1Cur_schema (c : L1Cur) (Q : (List Variable) → Int → Int → Prop) : Prop :=
  Loop4 (fun (out : List Variable) (k : Int) (atx : Int) (seed : Int) nx =>
  spec_l1Cur_pick ((L1Cur.mk c.Code atx seed)) 3 fun r26 r27 r28 =>
  br (decide (k < (wr (1 + r26)))) (idx ([(ByteArray.mk #[115, 101, 120]), (ByteArray.mk #[97, 103, 101]), (ByteArray.mk #[106, 111, 98]), (ByteArray.mk #[104, 111, 109, 101]), (ByteArray.mk #[115, 105, 122, 101]), (ByteArray.mk #[108, 97, 110, 103])]) k fun x34 =>
  spec_l1Cur_pick ((L1Cur.mk c.Code r27 r28)) 3 fun r46 r47 r48 =>
  (ln out + ln ([(Variable.mk x34 (wr (2 + r46)))])) * 24 ≤ 140737488355328 ∧ (
  nx (out ++ ([(Variable.mk x34 (wr (2 + r46)))])) (wr (k + 1)) r47 r48)) <|
  Q out r27 r28) ([]) 0 c.At c.Seed

def spec_l1Cur_among (c : L1Cur) (list : List Int) (Q : Int → Int → Int → Prop) : Prop :=
  spec_l1Cur_pick ((L1Cur.mk c.Code c.At c.Seed)) (ln list) fun r10 r11 r12 =>
  idx list r10 fun x14 =>
  Q x14 r11 r12

def spec_l1Cur_of (c : L1Cur) (list : List ByteArray) (Q : ByteArray → Int → Int → Prop) : Prop :=
  spec_l1Cur_pick ((L1Cur.mk c.Code c.At c.Seed)) (ln list) fun r10 r11 r12 =>
  idx list r10 fun x14 =>
  Q x14 r11 r12

def spec_l1Cur_anySchema (c : L1Cur) (Q : (List Variable) → Int → Int → Prop) : Prop :=
  spec_l1Cur_schema ((L1Cur.mk c.Code c.At c.Seed)) fun r3 r4 r5 =>
  jn (fun (k : (List Variable) → Int → Int → Prop) => spec_l1Cur_pick ((L1Cur.mk c.Code r4 r5)) 24 fun r29 r30 r31 =>
  br (r29 == 0) (spec_l1Cur_among ((L1Cur.mk c.Code r30 r31)) ([1, 8, 9]) fun r44 r45 r46 =>
  idx r3 0 fun x52 =>
  k (List.set r3 (Int.toNat 0) ({x52 with Levels := r44} : Variable)) r45 r46) <|
  br (r29 == 1) (spec_l1Cur_of ((L1Cur.mk c.Code r30 r31)) ([(ByteArray.mk #[]), (ByteArray.mk #[65, 103, 101]), (ByteArray.mk #[97, 98, 99, 100, 101, 102, 103, 104, 105]), (ByteArray.mk #[97, 103, 101]), (ByteArray.mk #[97, 98, 32, 99, 100])]) fun r76 r77 r78 =>
  idx r3 0 fun x84 =>
  k (List.set r3 (Int.toNat 0) ({x84 with Name := r76} : Variable)) r77 r78) <|
  br (r29 == 2) (Q ([]) r30 r31) <|
  br (r29 == 3) (Loop3 (fun (sx105 : List Variable) (atx111 : Int) (seed112 : Int) nx =>
  spec_l1Cur_pick ((L1Cur.mk c.Code atx111 seed112)) 2 fun r124 r125 r126 =>
  br (decide ((ln sx105) < (wr (6 + r124)))) (sln ((ByteArray.mk #[120])) + sln (b2s ([(B8.mk (IntKind.u8.wrap (wr (97 + (ln sx105)))))])) ≤ 9223372036854775807 ∧ (
  (ln sx105 + ln ([(Variable.mk (((ByteArray.mk #[120])) ++ (b2s ([(B8.mk (IntKind.u8.wrap (wr (97 + (ln sx105)))))]))) 2)])) * 24 ≤ 140737488355328 ∧ (
  nx (sx105 ++ ([(Variable.mk (((ByteArray.mk #[120])) ++ (b2s ([(B8.mk (IntKind.u8.wrap (wr (97 + (ln sx105)))))]))) 2)])) r125 r126))) <|
  k sx105 r125 r126) r3 r30 r31) <|
  k r3 r30 r31) <|
  fun (sx : List Variable) (atx : Int) (seed : Int) =>
  Q sx atx seed

def spec_sCount (sx : List Variable) (Q : Int → Prop) : Prop :=
  Loop2 (fun (n : Int) (x : Int) nx =>
  br (decide (x < (ln sx))) (idx sx x fun x3 =>
  nx (wr (n * x3.Levels)) (wr (x + 1))) <|
  Q n) 1 0

def spec_l1Cur_one (c : L1Cur) (n : Int) (Q : Bool → Int → Int → Prop) : Prop :=
  spec_l1Cur_pick ((L1Cur.mk c.Code c.At c.Seed)) n fun r3 r4 r5 =>
  Q (r3 == 0) r4 r5

def spec_l1In (n : Int) (lo : Int) (hi : Int) (Q : Bool → Prop) : Prop :=
  jn (fun (k : Bool → Prop) => br (decide (n ≥ lo)) (k (decide (n ≤ hi))) <|
  k false) <|
  fun (x : Bool) =>
  Q x

def spec_sName (sx : ByteArray) (Q : Bool → Prop) : Prop :=
  Loop1 (fun (i : Int) nx =>
  br (decide (i < (sln sx))) (jn (fun (k : Bool → Prop) => sidx sx i fun c =>
  br (decide ((c) < 97)) (k true) <|
  sidx sx i fun c3 =>
  k (decide ((c3) > 122))) <|
  fun (x : Bool) =>
  br (x) (Q false) <|
  nx (wr (i + 1))) <|
  spec_l1In (sln sx) 1 8 fun r =>
  Q r) 0

def spec_sFind (sx : List Variable) (name : ByteArray) (Q : Int → Prop) : Prop :=
  Loop1 (fun (x : Int) nx =>
  br (decide (x < (ln sx))) (idx sx x fun x3 =>
  br (streq x3.Name name) (Q x) <|
  nx (wr (x + 1))) <|
  Q ((-1))) 0

def spec_sGood (sx : List Variable) (Q : Bool → Prop) : Prop :=
  spec_l1In (ln sx) 1 6 fun r1 =>
  br (!r1) (Q false) <|
  Loop1 (fun (x3 : Int) nx =>
  br (decide (x3 < (ln sx))) (idx sx x3 fun x10 =>
  jn (fun (k : Bool → Prop) => det1 (spec_sName x10.Name) fun r28 =>
  br (!r28) (k true) <|
  det1 (spec_l1In x10.Levels 2 8) fun r36 =>
  br (!r36) (k true) <|
  (0 : Int) ≤ 0 ∧ 0 ≤ x3 ∧ x3 ≤ ln sx ∧ (
  det1 (spec_sFind (List.take (Int.toNat x3 - Int.toNat 0) (List.drop (Int.toNat 0) sx)) x10.Name) fun r49 =>
  k (decide (r49 ≥ 0)))) <|
  fun (x24 : Bool) =>
  br (x24) (Q false) <|
  nx (wr (x3 + 1))) <|
  Q true) 0

def spec_eFull (sx : List Variable) (vx1 : Int) (Q : Int → Prop) : Prop :=
  idx sx vx1 fun x =>
  (0 : Int) ≤ (IntKind.u64.wrap (x.Levels)) ∧ (
  Q (wr ((shl .i64 1 (IntKind.u64.wrap (x.Levels))) - 1)))

def spec_l1Cur_edit (c : L1Cur) (sx : List Variable) (Q : Edit → Int → Int → Prop) : Prop :=
  Loop4 (fun (x19 : Int) (atx : Int) (seed : Int) (sets : List Int) nx =>
  br (decide (x19 < (ln sx))) (spec_eFull sx x19 fun r48 =>
  jn (fun (k : Int → Int → Int → Prop) => spec_l1Cur_one ((L1Cur.mk c.Code atx seed)) 3 fun r70 r71 r72 =>
  br (!r70) (spec_l1Cur_pick ((L1Cur.mk c.Code r71 r72)) r48 fun r77 r78 r79 =>
  k (wr (1 + r77)) r78 r79) <|
  k r48 r71 r72) <|
  fun (x59 : Int) (atx60 : Int) (seed61 : Int) =>
  (ln sets + ln ([x59])) * 8 ≤ 140737488355328 ∧ (
  nx (wr (x19 + 1)) atx60 seed61 (sets ++ ([x59])))) <|
  Q ((Edit.mk sets)) atx seed) 0 c.At c.Seed ([])

def spec_l1Cur_anyEdit (c : L1Cur) (sx : List Variable) (Q : Edit → Int → Int → Prop) : Prop :=
  spec_sGood sx fun r12 =>
  br (!r12) (Q ((Edit.mk ([1]))) c.At c.Seed) <|
  spec_l1Cur_edit ((L1Cur.mk c.Code c.At c.Seed)) sx fun r37 r38 r39 =>
  jn (fun (k : Int → Int → (List Int) → Prop) => spec_l1Cur_pick ((L1Cur.mk c.Code r38 r39)) 24 fun r92 r93 r94 =>
  br (r92 == 0) ((
  spec_l1Cur_pick ((L1Cur.mk c.Code r93 r94)) (ln r37.Sets) fun r109 r110 r111 =>
  spec_l1Cur_among ((L1Cur.mk c.Code r110 r111)) ([0, (-1), 256, 4]) fun r135 r136 r137 =>
  (0 : Int) ≤ r109 ∧ Int.toNat r109 < List.length r37.Sets ∧ (
  k r136 r137 (List.set r37.Sets (Int.toNat r109) r135))) ∧ (
  spec_l1Cur_pick ((L1Cur.mk c.Code r93 r94)) (ln r37.Sets) fun r184 r185 r186 =>
  spec_l1Cur_among ((L1Cur.mk c.Code r185 r186)) ([0, (-1), 256, 4]) fun r197 r198 r199 =>
  (0 : Int) ≤ r184 ∧ Int.toNat r184 < List.length r37.Sets ∧ (
  k r198 r199 (List.set r37.Sets (Int.toNat r184) r197)))) <|
  br (r92 == 1) ((ln r37.Sets + ln ([1])) * 8 ≤ 140737488355328 ∧ (
  k r93 r94 (r37.Sets ++ ([1])))) <|
  k r93 r94 r37.Sets) <|
  fun (atx : Int) (seed : Int) (sets : List Int) =>
  Q ((Edit.mk sets)) atx seed

def spec_l1Own (l : List Int) (Q : (List Int) → Prop) : Prop :=
  (ln (([] : List Int)) + ln l) * 8 ≤ 140737488355328 ∧ (
  Q ((([] : List Int)) ++ l))

def spec_l1Cur_edits (c : L1Cur) (sx : List Variable) (Q : (List Edit) → Int → Int → Prop) : Prop :=
  spec_l1Cur_pick ((L1Cur.mk c.Code c.At c.Seed)) 6 fun r10 r11 r12 =>
  Loop4 (fun (l : List Edit) (k : Int) (atx : Int) (seed : Int) nx =>
  br (decide (k > 0)) (spec_l1Cur_anyEdit ((L1Cur.mk c.Code atx seed)) sx fun r30 r31 r32 =>
  (ln l + ln ([((Edit.mk r30.Sets) : Edit)])) * 24 ≤ 140737488355328 ∧ (
  nx (l ++ ([((Edit.mk r30.Sets) : Edit)])) (wr (k - 1)) r31 r32)) <|
  jn (fun (k92 : (List Edit) → Int → Int → Prop) => spec_l1Cur_one ((L1Cur.mk c.Code atx seed)) 40 fun r93 r94 r95 =>
  br (r93) (spec_l1Cur_anyEdit ((L1Cur.mk c.Code r94 r95)) sx fun r100 r101 r102 =>
  spec_l1Cur_pick ((L1Cur.mk c.Code r101 r102)) 2 fun r124 r125 r126 =>
  Loop1 (fun (l133 : List Edit) nx163 =>
  br (decide ((ln l133) < (wr (40 + r124)))) (spec_l1Own r100.Sets fun r165 =>
  (ln l133 + ln ([((Edit.mk r165) : Edit)])) * 24 ≤ 140737488355328 ∧ (
  nx163 (l133 ++ ([((Edit.mk r165) : Edit)])))) <|
  k92 l133 r125 r126) l) <|
  k92 l r94 r95) <|
  fun (l76 : List Edit) (atx82 : Int) (seed83 : Int) =>
  Q l76 atx82 seed83) ([]) r10 r11 r12

def spec_l1Cur_weights (c : L1Cur) (sx : List Variable) (Q : (List Int) → Int → Int → Prop) : Prop :=
  Loop4 (fun (out : List Int) (x : Int) (atx : Int) (seed : Int) nx =>
  br (decide (x < (ln sx))) (spec_l1Cur_pick ((L1Cur.mk c.Code atx seed)) 4 fun r20 r21 r22 =>
  (ln out + ln ([wr (1 + r20)])) * 8 ≤ 140737488355328 ∧ (
  nx (out ++ ([wr (1 + r20)])) (wr (x + 1)) r21 r22)) <|
  jn (fun (k : (List Int) → Int → Int → Prop) => spec_l1Cur_pick ((L1Cur.mk c.Code atx seed)) 24 fun r66 r67 r68 =>
  br (r66 == 0) ((ln out + ln ([1])) * 8 ≤ 140737488355328 ∧ (
  k (out ++ ([1])) r67 r68)) <|
  br (r66 == 1) (br (decide ((ln out) > 0)) (spec_l1Cur_among ((L1Cur.mk c.Code r67 r68)) ([0, 100, 101]) fun r111 r112 r113 =>
  (0 : Int) ≤ 0 ∧ Int.toNat 0 < List.length out ∧ (
  k (List.set out (Int.toNat 0) r111) r112 r113)) <|
  k out r67 r68) <|
  k out r67 r68) <|
  fun (out50 : List Int) (atx56 : Int) (seed57 : Int) =>
  Q out50 atx56 seed57) ([]) 0 c.At c.Seed

def spec_l1Cur_values (c : L1Cur) (sx : List Variable) (Q : (List Int) → Int → Int → Prop) : Prop :=
  Loop4 (fun (out : List Int) (x : Int) (atx : Int) (seed : Int) nx =>
  br (decide (x < (ln sx))) (idx sx x fun x22 =>
  spec_l1Cur_pick ((L1Cur.mk c.Code atx seed)) x22.Levels fun r36 r37 r38 =>
  (ln out + ln ([r36])) * 8 ≤ 140737488355328 ∧ (
  nx (out ++ ([r36])) (wr (x + 1)) r37 r38)) <|
  Q out atx seed) ([]) 0 c.At c.Seed

def spec_l1Cur_anyValues (c : L1Cur) (sx : List Variable) (Q : (List Int) → Int → Int → Prop) : Prop :=
  spec_l1Cur_values ((L1Cur.mk c.Code c.At c.Seed)) sx fun r10 r11 r12 =>
  jn (fun (k : (List Int) → Int → Int → Prop) => jn (fun (k42 : Bool → Int → Int → Prop) => br (decide ((ln r10) > 0)) (spec_l1Cur_one ((L1Cur.mk c.Code r11 r12)) 16 fun r44 r45 r46 =>
  k42 r44 r45 r46) <|
  k42 false r11 r12) <|
  fun (x34 : Bool) (atx35 : Int) (seed36 : Int) =>
  br (x34) (spec_l1Cur_pick ((L1Cur.mk c.Code atx35 seed36)) (ln r10) fun r54 r55 r56 =>
  spec_l1Cur_among ((L1Cur.mk c.Code r55 r56)) ([(-1), 2, 8]) fun r69 r70 r71 =>
  (0 : Int) ≤ r54 ∧ Int.toNat r54 < List.length r10 ∧ (
  k (List.set r10 (Int.toNat r54) r69) r70 r71)) <|
  spec_l1Cur_one ((L1Cur.mk c.Code atx35 seed36)) 24 fun r89 r90 r91 =>
  br (r89) ((ln r10 + ln ([0])) * 8 ≤ 140737488355328 ∧ (
  Q (r10 ++ ([0])) r90 r91)) <|
  k r10 r90 r91) <|
  fun (out : List Int) (atx : Int) (seed : Int) =>
  Q out atx seed

def spec_l1Cur_mended (c : L1Cur) (Q : (List Variable) → (List Edit) → (List Int) → (List Int) → Int → Int → Prop) : Prop :=
  spec_l1Cur_anySchema ((L1Cur.mk c.Code c.At c.Seed)) fun r3 r4 r5 =>
  jn (fun (k : (List Variable) → Int → Int → Prop) => jn (fun (k37 : Bool → Int → Int → Prop) => spec_sCount r3 fun r39 =>
  br (decide (r39 > 100)) (spec_l1Cur_one ((L1Cur.mk c.Code r4 r5)) 8 fun r42 r43 r44 =>
  k37 (!r42) r43 r44) <|
  k37 false r4 r5) <|
  fun (x29 : Bool) (atx30 : Int) (seed31 : Int) =>
  br (x29) (k ([(Variable.mk ((ByteArray.mk #[115, 101, 120])) 2), (Variable.mk ((ByteArray.mk #[97, 103, 101])) 3), (Variable.mk ((ByteArray.mk #[106, 111, 98])) 3)]) atx30 seed31) <|
  k r3 atx30 seed31) <|
  fun (sx : List Variable) (atx : Int) (seed : Int) =>
  spec_l1Cur_edits ((L1Cur.mk c.Code atx seed)) sx fun r71 r72 r73 =>
  jn (fun (k106 : (List Edit) → Int → Int → Prop) => spec_l1Cur_one ((L1Cur.mk c.Code r72 r73)) 16 fun r108 r109 r110 =>
  br (r108) (spec_l1Cur_anyEdit ((L1Cur.mk c.Code r109 r110)) sx fun r115 r116 r117 =>
  (ln r71 + ln ([((Edit.mk r115.Sets) : Edit)])) * 24 ≤ 140737488355328 ∧ (
  k106 (r71 ++ ([((Edit.mk r115.Sets) : Edit)])) r116 r117)) <|
  k106 r71 r109 r110) <|
  fun (l : List Edit) (atx94 : Int) (seed95 : Int) =>
  spec_l1Cur_weights ((L1Cur.mk c.Code atx94 seed95)) sx fun r169 r170 r171 =>
  spec_l1Cur_anyValues ((L1Cur.mk c.Code r170 r171)) sx fun r183 r184 r185 =>
  Q sx l r169 r183 r184 r185

def spec_l1Cur_record (c : L1Cur) (sx : List Variable) (areas : List Int) (Q : Record → Int → Int → Prop) : Prop :=
  spec_l1Cur_among ((L1Cur.mk c.Code c.At c.Seed)) areas fun r19 r20 r21 =>
  spec_l1Cur_pick ((L1Cur.mk c.Code r20 r21)) 6 fun r28 r29 r30 =>
  spec_l1Cur_values ((L1Cur.mk c.Code r29 r30)) sx fun r35 r36 r37 =>
  Q ((Record.mk r19 r28 r35)) r36 r37

def spec_rOwn (r : Record) (Q : Record → Prop) : Prop :=
  spec_l1Own r.Values fun r13 =>
  Q ((Record.mk r.Area r.House r13))

def spec_l1Cur_data (c : L1Cur) (sx : List Variable) (areas : List Int) (Q : (List Record) → Int → Int → Prop) : Prop :=
  spec_l1Cur_pick ((L1Cur.mk c.Code c.At c.Seed)) 12 fun r17 r18 r19 =>
  Loop4 (fun (out : List Record) (k : Int) (atx : Int) (seed : Int) nx =>
  br (decide (k > 0)) (jn (fun (k60 : (List Record) → Int → Int → Prop) => spec_l1Cur_record ((L1Cur.mk c.Code atx seed)) sx areas fun r61 r62 r63 =>
  (ln out + ln ([((Record.mk r61.Area r61.House r61.Values) : Record)])) * 40 ≤ 140737488355328 ∧ (
  spec_l1Cur_one ((L1Cur.mk c.Code r62 r63)) 4 fun r103 r104 r105 =>
  br (r103) (spec_rOwn ((Record.mk r61.Area r61.House r61.Values)) fun r114 =>
  (ln (out ++ ([((Record.mk r61.Area r61.House r61.Values) : Record)])) + ln ([((Record.mk r114.Area r114.House r114.Values) : Record)])) * 40 ≤ 140737488355328 ∧ (
  k60 ((out ++ ([((Record.mk r61.Area r61.House r61.Values) : Record)])) ++ ([((Record.mk r114.Area r114.House r114.Values) : Record)])) r104 r105)) <|
  k60 (out ++ ([((Record.mk r61.Area r61.House r61.Values) : Record)])) r104 r105)) <|
  fun (out40 : List Record) (atx46 : Int) (seed47 : Int) =>
  nx out40 (wr (k - 1)) atx46 seed47) <|
  Q out atx seed) ([]) r17 r18 r19

def spec_l1Cur_anyData (c : L1Cur) (sx : List Variable) (Q : (List Record) → Int → Int → Prop) : Prop :=
  spec_l1Cur_data ((L1Cur.mk c.Code c.At c.Seed)) sx ([0, 1, 2, 3]) fun r15 r16 r17 =>
  jn (fun (k : (List Record) → Int → Int → Prop) => spec_l1Cur_pick ((L1Cur.mk c.Code r16 r17)) 24 fun r50 r51 r52 =>
  br (r50 == 0) (spec_l1Cur_among ((L1Cur.mk c.Code r51 r52)) ([(-1), 29, 30]) fun r65 r66 r67 =>
  spec_l1Cur_among ((L1Cur.mk c.Code r66 r67)) ([0, 999, 1000, (-1)]) fun r82 r83 r84 =>
  spec_l1Cur_anyValues ((L1Cur.mk c.Code r83 r84)) sx fun r90 r91 r92 =>
  (ln r15 + ln ([((Record.mk r65 r82 r90) : Record)])) * 40 ≤ 140737488355328 ∧ (
  k (r15 ++ ([((Record.mk r65 r82 r90) : Record)])) r91 r92)) <|
  br (r50 == 1) (Loop3 (fun (out138 : List Record) (atx144 : Int) (seed145 : Int) nx =>
  spec_l1Cur_pick ((L1Cur.mk c.Code atx144 seed145)) 2 fun r160 r161 r162 =>
  br (decide ((ln out138) < (wr (40 + r160)))) (spec_l1Cur_values ((L1Cur.mk c.Code r161 r162)) sx fun r167 r168 r169 =>
  (ln out138 + ln ([((Record.mk 0 0 r167) : Record)])) * 40 ≤ 140737488355328 ∧ (
  nx (out138 ++ ([((Record.mk 0 0 r167) : Record)])) r168 r169)) <|
  k out138 r161 r162) r15 r51 r52) <|
  k r15 r51 r52) <|
  fun (out : List Record) (atx : Int) (seed : Int) =>
  Q out atx seed

def spec_DrawMendData (code : List B8) (Q : (List Variable) → (List Edit) → (List Int) → (List Record) → Prop) : Prop :=
  spec_l1Cur_mended ((L1Cur.mk code 0 0)) fun r2 r3 r4 r5 r6 r7 =>
  spec_l1Cur_anyData ((L1Cur.mk code r6 r7)) r2 fun r48 r49 r50 =>
  Q r2 r3 r4 r48

def impl_isWord (sx : ByteArray) (Q : Bool → Prop) : Prop :=
  jn (fun (k : Bool → Prop) => br (decide ((sln sx) < 1)) (k true) <|
  k (decide ((sln sx) > 8))) <|
  fun (x : Bool) =>
  br (x) (Q false) <|
  Loop1 (fun (x2 : Int) nx =>
  br (decide (x2 < (sln sx))) (jn (fun (k7 : Bool → Prop) => sidx sx x2 fun c =>
  br (decide ((c) < 97)) (k7 true) <|
  sidx sx x2 fun c10 =>
  k7 (decide ((c10) > 122))) <|
  fun (x5 : Bool) =>
  br (x5) (Q false) <|
  nx (wr (x2 + 1))) <|
  Q true) 0

def impl_IsSchema (sx : List Variable) (Q : Bool → Prop) : Prop :=
  jn (fun (k : Bool → Prop) => br (decide ((ln sx) < 1)) (k true) <|
  k (decide ((ln sx) > 6))) <|
  fun (x : Bool) =>
  br (x) (Q false) <|
  Loop1 (fun (x2 : Int) nx =>
  br (decide (x2 < (ln sx))) (idx sx x2 fun x7 =>
  jn (fun (k26 : Bool → Prop) => impl_isWord x7.Name fun r28 =>
  br (!r28) (k26 true) <|
  br (decide (x7.Levels < 2)) (k26 true) <|
  k26 (decide (x7.Levels > 8))) <|
  fun (x21 : Bool) =>
  br (x21) (Q false) <|
  (0 : Int) ≤ 0 ∧ 0 ≤ x2 ∧ x2 ≤ ln sx ∧ (
  Loop1 (fun (x46 : Int) nx54 =>
  br (decide (x46 < (ln (List.take (Int.toNat x2 - Int.toNat 0) (List.drop (Int.toNat 0) sx))))) (idx (List.take (Int.toNat x2 - Int.toNat 0) (List.drop (Int.toNat 0) sx)) x46 fun x56 =>
  br (streq x56.Name x7.Name) (Q false) <|
  nx54 (wr (x46 + 1))) <|
  nx (wr (x2 + 1))) 0)) <|
  Q true) 0

def impl_combinations (sx : List Variable) (Q : Int → Prop) : Prop :=
  Loop2 (fun (n : Int) (x : Int) nx =>
  br (decide (x < (ln sx))) (idx sx x fun x3 =>
  nx (wr (n * x3.Levels)) (wr (x + 1))) <|
  Q n) 1 0

def impl_isSmall (sx : List Variable) (Q : Bool → Prop) : Prop :=
  jn (fun (k : Bool → Prop) => impl_IsSchema sx fun r2 =>
  br (r2) (impl_combinations sx fun r5 =>
  k (decide (r5 ≤ 100))) <|
  k false) <|
  fun (x : Bool) =>
  Q x

def impl_fullSet (vx : Variable) (Q : Int → Prop) : Prop :=
  (0 : Int) ≤ vx.Levels ∧ (
  Q (wr ((shl .i64 1 vx.Levels) - 1)))

def impl_isEdit (sx : List Variable) (ex1 : Edit) (Q : Bool → Prop) : Prop :=
  br ((ln ex1.Sets) != (ln sx)) (Q false) <|
  Loop1 (fun (x10 : Int) nx =>
  br (decide (x10 < (ln ex1.Sets))) (idx ex1.Sets x10 fun x19 =>
  jn (fun (k : Bool → Prop) => br (decide (x19 < 1)) (k true) <|
  idx sx x10 fun x31 =>
  impl_fullSet x31 fun r40 =>
  k (decide (x19 > r40))) <|
  fun (x25 : Bool) =>
  br (x25) (Q false) <|
  nx (wr (x10 + 1))) <|
  Q true) 0

def impl_areEdits (sx : List Variable) (l : List Edit) (Q : Bool → Prop) : Prop :=
  br (decide ((ln l) > 40)) (Q false) <|
  Loop1 (fun (x : Int) nx =>
  br (decide (x < (ln l))) (idx l x fun x11 =>
  impl_isEdit sx ((Edit.mk x11.Sets)) fun r30 =>
  br (!r30) (Q false) <|
  nx (wr (x + 1))) <|
  Q true) 0

def impl_areWeights (sx : List Variable) (weights : List Int) (Q : Bool → Prop) : Prop :=
  br ((ln weights) != (ln sx)) (Q false) <|
  Loop1 (fun (x : Int) nx =>
  br (decide (x < (ln weights))) (idx weights x fun x8 =>
  jn (fun (k : Bool → Prop) => br (decide (x8 < 1)) (k true) <|
  k (decide (x8 > 100))) <|
  fun (x14 : Bool) =>
  br (x14) (Q false) <|
  nx (wr (x + 1))) <|
  Q true) 0

def impl_isMendable (sx : List Variable) (l : List Edit) (weights : List Int) (Q : Bool → Prop) : Prop :=
  jn (fun (k : Bool → Prop) => impl_isSmall sx fun r14 =>
  br (r14) (impl_areEdits sx l fun r17 =>
  br (r17) (impl_areWeights sx weights fun r23 =>
  k r23) <|
  k false) <|
  k false) <|
  fun (x : Bool) =>
  Q x

def impl_areValues (sx : List Variable) (values : List Int) (Q : Bool → Prop) : Prop :=
  br ((ln values) != (ln sx)) (Q false) <|
  Loop1 (fun (x : Int) nx =>
  br (decide (x < (ln values))) (idx values x fun x8 =>
  jn (fun (k : Bool → Prop) => br (decide (x8 < 0)) (k true) <|
  idx sx x fun x17 =>
  k (decide (x8 ≥ x17.Levels))) <|
  fun (x14 : Bool) =>
  br (x14) (Q false) <|
  nx (wr (x + 1))) <|
  Q true) 0

def impl_isRecord (sx : List Variable) (r1 : Record) (Q : Bool → Prop) : Prop :=
  jn (fun (k : Bool → Prop) => br (decide (r1.Area ≥ 0)) (br (decide (r1.Area ≤ 29)) (br (decide (r1.House ≥ 0)) (br (decide (r1.House ≤ 999)) (impl_areValues sx r1.Values fun r19 =>
  k r19) <|
  k false) <|
  k false) <|
  k false) <|
  k false) <|
  fun (x13 : Bool) =>
  Q x13

def impl_isData (sx : List Variable) (l : List Record) (Q : Bool → Prop) : Prop :=
  br (decide ((ln l) > 40)) (Q false) <|
  Loop1 (fun (x : Int) nx =>
  br (decide (x < (ln l))) (idx l x fun x11 =>
  impl_isRecord sx ((Record.mk x11.Area x11.House x11.Values)) fun r30 =>
  br (!r30) (Q false) <|
  nx (wr (x + 1))) <|
  Q true) 0

def slices_Clone_int_int (sx : List Int) (Q : (List Int) → Prop) : Prop :=
  nilq sx fun z =>
  br (z) (Q ([])) <|
  (ln (([] : List Int)) + ln sx) * 8 ≤ 140737488355328 ∧ (
  Q ((([] : List Int)) ++ sx))

def impl_copyRecord (r : Record) (Q : Record → Prop) : Prop :=
  slices_Clone_int_int r.Values fun r9 =>
  Q ((Record.mk r.Area r.House r9))

def impl_copyRecords (l : List Record) (Q : (List Record) → Prop) : Prop :=
  (0 : Int) ≤ (ln l) ∧ 40 * (ln l) ≤ 140737488355328 ∧ (
  Loop2 (fun (c6 : List Record) (x12 : Int) nx =>
  br (decide (x12 < (ln l))) (idx l x12 fun x19 =>
  impl_copyRecord ((Record.mk x19.Area x19.House x19.Values)) fun r40 =>
  (0 : Int) ≤ x12 ∧ Int.toNat x12 < List.length c6 ∧ (
  nx (List.set c6 (Int.toNat x12) (((Record.mk r40.Area r40.House r40.Values) : Record))) (wr (x12 + 1)))) <|
  Q c6) (List.replicate (Int.toNat (ln l)) ((Record.mk ((0 : Int)) ((0 : Int)) (([] : List Int))))) 0)

def impl_fails (ex : Edit) (values : List Int) (Q : Bool → Prop) : Prop :=
  Loop1 (fun (x9 : Int) nx =>
  br (decide (x9 < (ln values))) (idx values x9 fun x11 =>
  idx ex.Sets x9 fun x18 =>
  (0 : Int) ≤ x11 ∧ (
  br ((bits .and .i64 (shr .i64 x18 x11) 1) == 0) (Q false) <|
  nx (wr (x9 + 1)))) <|
  Q true) 0

def impl_failsOne (l : List Edit) (values : List Int) (Q : Bool → Prop) : Prop :=
  Loop1 (fun (x : Int) nx =>
  br (decide (x < (ln l))) (idx l x fun x10 =>
  impl_fails ((Edit.mk x10.Sets)) values fun r29 =>
  br (r29) (Q true) <|
  nx (wr (x + 1))) <|
  Q false) 0

def impl_membersOf (mask : Int) (Q : (List Int) → Prop) : Prop :=
  Loop2 (fun (out : List Int) (i : Int) nx =>
  (0 : Int) ≤ i ∧ (
  br ((shr .i64 mask i) != 0) (jn (fun (k : (List Int) → Prop) => (0 : Int) ≤ i ∧ (
  br ((bits .and .i64 (shr .i64 mask i) 1) == 1) ((ln out + ln ([i])) * 8 ≤ 140737488355328 ∧ (
  k (out ++ ([i])))) <|
  k out)) <|
  fun (out2 : List Int) =>
  nx out2 (wr (i + 1))) <|
  Q out)) ([]) 0

def slices_Index_int_int (sx : List Int) (vx1 : Int) (Q : Int → Prop) : Prop :=
  Loop1 (fun (x : Int) nx =>
  br (decide (x < (ln sx))) (idx sx x fun x2 =>
  br (vx1 == x2) (Q x) <|
  nx (wr (x + 1))) <|
  Q ((-1))) 0

def slices_Contains_int_int (sx : List Int) (vx1 : Int) (Q : Bool → Prop) : Prop :=
  slices_Index_int_int sx vx1 fun r2 =>
  Q (decide (r2 ≥ 0))

def impl_otherVars (sx : List Variable) (vars : List Int) (Q : (List Int) → Prop) : Prop :=
  Loop2 (fun (out : List Int) (x : Int) nx =>
  br (decide (x < (ln sx))) (jn (fun (k : (List Int) → Prop) => slices_Contains_int_int vars x fun r26 =>
  br (!r26) ((ln out + ln ([x])) * 8 ≤ 140737488355328 ∧ (
  k (out ++ ([x])))) <|
  k out) <|
  fun (out14 : List Int) =>
  nx out14 (wr (x + 1))) <|
  Q out) ([]) 0

def impl_valuesAt (sx : List Variable) (i : Int) (Q : (List Int) → Prop) : Prop :=
  (0 : Int) ≤ (ln sx) ∧ 8 * (ln sx) ≤ 140737488355328 ∧ (
  Loop3 (fun (i6 : Int) (values : List Int) (k : Int) nx =>
  br (decide (k ≥ 0)) (idx sx k fun x18 =>
  x18.Levels ≠ 0 ∧ (
  (0 : Int) ≤ k ∧ Int.toNat k < List.length values ∧ (
  idx sx k fun x29 =>
  x29.Levels ≠ 0 ∧ (
  nx (wr (Int.tdiv i6 x29.Levels)) (List.set values (Int.toNat k) (Int.tmod i6 x18.Levels)) (wr (k - 1)))))) <|
  Q values) i (List.replicate (Int.toNat (ln sx)) ((0 : Int))) (wr ((ln sx) - 1)))

def impl_completionOf_1 (c : List Int) (c2 : List Int) (c10 : List Int) (c19 : List Int) (Q : Bool → (List Int) → Prop) : Prop :=
  Loop1 (fun (x : Int) nx =>
  br (decide (x < (ln c2))) (idx c2 x fun x51 =>
  idx c x51 fun x58 =>
  idx c10 x51 fun x67 =>
  br (x58 != x67) (Q true c19) <|
  nx (wr (x + 1))) <|
  (0 : Int) < ln c ∧ Q false c) 0

def impl_passing_impl_completionOf_1 (sx : List Variable) (l : List Edit) (c7 : List Int) (c15 : List Int) (c24 : List Int) (Q : (List Int) → Prop) : Prop :=
  impl_combinations sx fun r46 =>
  Loop2 (fun (x47 : Int) (x48 : List Int) nx =>
  br (decide (x47 < r46)) (impl_valuesAt sx x47 fun r80 =>
  jn (fun (k : Bool → (List Int) → Prop) => impl_failsOne l r80 fun r126 =>
  br (!r126) (impl_completionOf_1 r80 c7 c15 x48 fun r130 r131 =>
  k (!r130) r131) <|
  k false x48) <|
  fun (x100 : Bool) (x101 : List Int) =>
  br (x100) (Q x101) <|
  nx (wr (x47 + 1)) x101) <|
  Q x48) 0 c24

def impl_completionOf (sx : List Variable) (l : List Edit) (fixed : List Int) (values : List Int) (Q : (List Int) → Prop) : Prop :=
  impl_passing_impl_completionOf_1 sx l fixed values ([]) fun r35 =>
  Q r35

def impl_weightOf (weights : List Int) (vars : List Int) (Q : Int → Prop) : Prop :=
  Loop2 (fun (sum : Int) (x : Int) nx =>
  br (decide (x < (ln vars))) (idx vars x fun x7 =>
  idx weights x7 fun x13 =>
  nx (wr (sum + x13)) (wr (x + 1))) <|
  Q sum) 0 0

def impl_cheapestChange_1 (vars : List Int) (c1 : List Int) (Q : Int → Prop) : Prop :=
  impl_weightOf c1 vars fun r9 =>
  Q r9

def cmp_isNaN_int (x : Int) (Q : Bool → Prop) : Prop :=
  Q (x != x)

def cmp_Compare_int (x : Int) (y : Int) (Q : Int → Prop) : Prop :=
  cmp_isNaN_int x fun r =>
  cmp_isNaN_int y fun r2 =>
  br (r) (br (r2) (Q 0) <|
  Q ((-1))) <|
  br (r2) (Q 1) <|
  br (decide (x < y)) (Q ((-1))) <|
  br (decide (x > y)) (Q 1) <|
  Q 0

def slices_Compare_int_int (sx : List Int) (sx1 : List Int) (Q : Int → Prop) : Prop :=
  Loop1 (fun (x : Int) nx =>
  br (decide (x < (ln sx))) (idx sx x fun x11 =>
  br (decide (x ≥ (ln sx1))) (Q 1) <|
  idx sx1 x fun x18 =>
  cmp_Compare_int x11 x18 fun r27 =>
  br (r27 != 0) (Q r27) <|
  nx (wr (x + 1))) <|
  br (decide ((ln sx) < (ln sx1))) (Q ((-1))) <|
  Q 0) 0

def cmp_Or_int (vals : List Int) (Q : Int → Prop) : Prop :=
  Loop1 (fun (x : Int) nx =>
  br (decide (x < (ln vals))) (idx vals x fun x1 =>
  br (x1 != 0) (Q x1) <|
  nx (wr (x + 1))) <|
  Q 0) 0

def impl_leastCover_impl_cheapestChange_1 (sx : List Variable) (l : List Edit) (values : List Int) (c13 : List Int) (Q : (List Int) → Bool → Prop) : Prop :=
  (0 : Int) ≤ (ln sx) ∧ (
  Loop3 (fun (best : List Int) (found : Bool) (x : Int) nx =>
  br (decide (x < (shl .i64 1 (ln sx)))) (jn (fun (k : (List Int) → Bool → Prop) => impl_membersOf x fun r57 =>
  jn (fun (k85 : Bool → Prop) => br (found) (impl_cheapestChange_1 r57 c13 fun r88 =>
  impl_cheapestChange_1 best c13 fun r91 =>
  cmp_Compare_int r88 r91 fun r97 =>
  cmp_Compare_int (ln r57) (ln best) fun r100 =>
  slices_Compare_int_int r57 best fun r103 =>
  cmp_Or_int ([r97, r100, r103]) fun r118 =>
  k85 (decide (r118 ≥ 0))) <|
  k85 false) <|
  fun (x75 : Bool) =>
  br (x75) (k best found) <|
  impl_otherVars sx r57 fun r133 =>
  impl_completionOf sx l r133 values fun r143 =>
  br (!(ln r143 == 0)) (k r57 true) <|
  k best found) <|
  fun (best36 : List Int) (found42 : Bool) =>
  nx best36 found42 (wr (x + 1))) <|
  Q best found) ([]) false 0)

def impl_cheapestChange (sx : List Variable) (l : List Edit) (weights : List Int) (values : List Int) (Q : (List Int) → Bool → Prop) : Prop :=
  impl_leastCover_impl_cheapestChange_1 sx l values weights fun r20 r21 =>
  Q r20 r21

def impl_MendData (sx : List Variable) (l : List Edit) (weights : List Int) (data : List Record) (Q : (List Record) → (List Int) → Bool → Prop) : Prop :=
  jn (fun (k : Bool → Prop) => impl_isMendable sx l weights fun r24 =>
  br (!r24) (k true) <|
  impl_isData sx data fun r32 =>
  k (!r32)) <|
  fun (x : Bool) =>
  br (x) (Q ([]) ([]) false) <|
  impl_copyRecords data fun r43 =>
  (0 : Int) ≤ (ln data) ∧ 8 * (ln data) ≤ 140737488355328 ∧ (
  Loop3 (fun (mended : List Record) (costs : List Int) (x70 : Int) nx =>
  br (decide (x70 < (ln data))) (jn (fun (k127 : (List Record) → (List Int) → Prop) => idx data x70 fun x129 =>
  impl_failsOne l x129.Values fun r150 =>
  br (!r150) (k127 mended costs) <|
  impl_cheapestChange sx l weights x129.Values fun r165 r166 =>
  br (!r166) (Q ([]) ([]) false) <|
  impl_otherVars sx r165 fun r190 =>
  impl_completionOf sx l r190 x129.Values fun r208 =>
  idx mended x70 fun x227 =>
  impl_weightOf weights r165 fun r252 =>
  (0 : Int) ≤ x70 ∧ Int.toNat x70 < List.length costs ∧ (
  k127 (List.set mended (Int.toNat x70) ({x227 with Values := r208} : Record)) (List.set costs (Int.toNat x70) r252))) <|
  fun (mended100 : List Record) (costs106 : List Int) =>
  nx mended100 costs106 (wr (x70 + 1))) <|
  Q mended costs true) r43 (List.replicate (Int.toNat (ln data)) ((0 : Int))) 0)

def spec_eGood (sx : List Variable) (ex1 : Edit) (Q : Bool → Prop) : Prop :=
  br ((ln ex1.Sets) != (ln sx)) (Q false) <|
  Loop1 (fun (x10 : Int) nx =>
  br (decide (x10 < (ln ex1.Sets))) (idx ex1.Sets x10 fun x19 =>
  spec_eFull sx x10 fun r25 =>
  spec_l1In x19 1 r25 fun r28 =>
  br (!r28) (Q false) <|
  nx (wr (x10 + 1))) <|
  Q true) 0

def spec_eList (sx : List Variable) (l : List Edit) (Q : Bool → Prop) : Prop :=
  jn (fun (k : Bool → Prop) => spec_sGood sx fun r10 =>
  br (!r10) (k true) <|
  k (decide ((ln l) > 40))) <|
  fun (x : Bool) =>
  br (x) (Q false) <|
  Loop1 (fun (x20 : Int) nx =>
  br (decide (x20 < (ln l))) (idx l x20 fun x26 =>
  spec_eGood sx ((Edit.mk x26.Sets)) fun r45 =>
  br (!r45) (Q false) <|
  nx (wr (x20 + 1))) <|
  Q true) 0

def spec_eSmall (sx : List Variable) (l : List Edit) (Q : Bool → Prop) : Prop :=
  jn (fun (k : Bool → Prop) => spec_eList sx l fun r8 =>
  br (r8) (spec_sCount sx fun r11 =>
  k (decide (r11 ≤ 100))) <|
  k false) <|
  fun (x : Bool) =>
  Q x

def spec_l1All (l : List Int) (lo : Int) (hi : Int) (Q : Bool → Prop) : Prop :=
  Loop1 (fun (x : Int) nx =>
  br (decide (x < (ln l))) (idx l x fun x3 =>
  spec_l1In x3 lo hi fun r10 =>
  br (!r10) (Q false) <|
  nx (wr (x + 1))) <|
  Q true) 0

def spec_iWeights (sx : List Variable) (wx : List Int) (Q : Bool → Prop) : Prop :=
  jn (fun (k : Bool → Prop) => br ((ln wx) == (ln sx)) (spec_l1All wx 1 100 fun r9 =>
  k r9) <|
  k false) <|
  fun (x : Bool) =>
  Q x

def spec_sFits (sx : List Variable) (values : List Int) (Q : Bool → Prop) : Prop :=
  br ((ln values) != (ln sx)) (Q false) <|
  Loop1 (fun (x : Int) nx =>
  br (decide (x < (ln sx))) (idx sx x fun x11 =>
  idx values x fun x22 =>
  det1 (spec_l1In x22 0 (wr (x11.Levels - 1))) fun r32 =>
  br (!r32) (Q false) <|
  nx (wr (x + 1))) <|
  Q true) 0

def spec_rGood (sx : List Variable) (r1 : Record) (Q : Bool → Prop) : Prop :=
  jn (fun (k : Bool → Prop) => spec_l1In r1.Area 0 29 fun r16 =>
  br (r16) (spec_l1In r1.House 0 999 fun r20 =>
  br (r20) (spec_sFits sx r1.Values fun r25 =>
  k r25) <|
  k false) <|
  k false) <|
  fun (x13 : Bool) =>
  Q x13

def spec_dGood (sx : List Variable) (l : List Record) (Q : Bool → Prop) : Prop :=
  Loop1 (fun (x : Int) nx =>
  br (decide (x < (ln l))) (idx l x fun x10 =>
  spec_rGood sx ((Record.mk x10.Area x10.House x10.Values)) fun r29 =>
  br (!r29) (Q false) <|
  nx (wr (x + 1))) <|
  Q (decide ((ln l) ≤ 40))) 0

def spec_eFails (ex : Edit) (values : List Int) (Q : Bool → Prop) : Prop :=
  Loop1 (fun (x9 : Int) nx =>
  br (decide (x9 < (ln values))) (idx values x9 fun x11 =>
  idx ex.Sets x9 fun x18 =>
  (0 : Int) ≤ (IntKind.u64.wrap (x11)) ∧ (
  br ((bits .and .i64 (shr .i64 x18 (IntKind.u64.wrap (x11))) 1) == 0) (Q false) <|
  nx (wr (x9 + 1)))) <|
  Q true) 0

def spec_eFailed (l : List Edit) (values : List Int) (Q : (List Int) → Prop) : Prop :=
  Loop2 (fun (out : List Int) (x : Int) nx =>
  br (decide (x < (ln l))) (jn (fun (k : (List Int) → Prop) => idx l x fun x30 =>
  spec_eFails ((Edit.mk x30.Sets)) values fun r51 =>
  br (r51) ((ln out + ln ([x])) * 8 ≤ 140737488355328 ∧ (
  k (out ++ ([x])))) <|
  k out) <|
  fun (out16 : List Int) =>
  nx out16 (wr (x + 1))) <|
  Q out) ([]) 0

def spec_iBits (mask : Int) (Q : (List Int) → Prop) : Prop :=
  Loop2 (fun (out : List Int) (i : Int) nx =>
  (0 : Int) ≤ (IntKind.u64.wrap (i)) ∧ (
  br (decide ((shr .i64 mask (IntKind.u64.wrap (i))) > 0)) (jn (fun (k : (List Int) → Prop) => (0 : Int) ≤ (IntKind.u64.wrap (i)) ∧ (
  br ((bits .and .i64 (shr .i64 mask (IntKind.u64.wrap (i))) 1) == 1) ((ln out + ln ([i])) * 8 ≤ 140737488355328 ∧ (
  k (out ++ ([i])))) <|
  k out)) <|
  fun (out2 : List Int) =>
  nx out2 (wr (i + 1))) <|
  Q out)) ([]) 0

def spec_iSum (wx : List Int) (vars : List Int) (Q : Int → Prop) : Prop :=
  Loop2 (fun (n : Int) (x : Int) nx =>
  br (decide (x < (ln vars))) (idx vars x fun x8 =>
  idx wx x8 fun x14 =>
  nx (wr (n + x14)) (wr (x + 1))) <|
  Q n) 0 0

def spec_l1Has (l : List Int) (n : Int) (Q : Bool → Prop) : Prop :=
  Loop1 (fun (x : Int) nx =>
  br (decide (x < (ln l))) (idx l x fun x1 =>
  br (x1 == n) (Q true) <|
  nx (wr (x + 1))) <|
  Q false) 0

def spec_iOthers (sx : List Variable) (vars : List Int) (Q : (List Int) → Prop) : Prop :=
  Loop2 (fun (out : List Int) (x : Int) nx =>
  br (decide (x < (ln sx))) (jn (fun (k : (List Int) → Prop) => spec_l1Has vars x fun r26 =>
  br (!r26) ((ln out + ln ([x])) * 8 ≤ 140737488355328 ∧ (
  k (out ++ ([x])))) <|
  k out) <|
  fun (out14 : List Int) =>
  nx out14 (wr (x + 1))) <|
  Q out) ([]) 0

def spec_sAt (sx : List Variable) (i : Int) (Q : (List Int) → Prop) : Prop :=
  (0 : Int) ≤ (ln sx) ∧ 8 * (ln sx) ≤ 140737488355328 ∧ (
  Loop3 (fun (i6 : Int) (out : List Int) (k : Int) nx =>
  br (decide (k ≥ 0)) (idx sx k fun x18 =>
  x18.Levels ≠ 0 ∧ (
  (0 : Int) ≤ k ∧ Int.toNat k < List.length out ∧ (
  idx sx k fun x29 =>
  x29.Levels ≠ 0 ∧ (
  nx (wr (Int.tdiv i6 x29.Levels)) (List.set out (Int.toNat k) (Int.tmod i6 x18.Levels)) (wr (k - 1)))))) <|
  Q out) i (List.replicate (Int.toNat (ln sx)) ((0 : Int))) (wr ((ln sx) - 1)))

def spec_eComplete (sx : List Variable) (l : List Edit) (fixed : List Int) (values : List Int) (Q : (List Int) → Bool → Prop) : Prop :=
  Loop1 (fun (i : Int) nx =>
  spec_sCount sx fun r24 =>
  br (decide (i < r24)) (spec_sAt sx i fun r26 =>
  spec_eFailed l r26 fun r35 =>
  Loop2 (fun (fits : Bool) (x46 : Int) nx65 =>
  br (decide (x46 < (ln fixed))) (jn (fun (k : Bool → Prop) => idx fixed x46 fun x77 =>
  br (fits) (idx r26 x77 fun x84 =>
  idx values x77 fun x93 =>
  k (x84 == x93)) <|
  k false) <|
  fun (fits69 : Bool) =>
  nx65 fits69 (wr (x46 + 1))) <|
  br (fits) (Q r26 true) <|
  nx (wr (i + 1))) ((ln r35) == 0) 0) <|
  Q ([]) false) 0

def spec_l1Sign (n : Int) (Q : Int → Prop) : Prop :=
  br (decide (n < 0)) (Q ((-1))) <|
  br (decide (n > 0)) (Q 1) <|
  Q 0

def spec_l1Less (a : List Int) (b : List Int) (Q : Int → Prop) : Prop :=
  Loop1 (fun (i : Int) nx =>
  jn (fun (k : Bool → Prop) => br (decide (i < (ln a))) (k (decide (i < (ln b)))) <|
  k false) <|
  fun (x : Bool) =>
  br (x) (idx a i fun x13 =>
  idx b i fun x19 =>
  br (x13 != x19) (idx a i fun x31 =>
  idx b i fun x41 =>
  br (decide (x31 < x41)) (Q ((-1))) <|
  Q 1) <|
  nx (wr (i + 1))) <|
  spec_l1Sign (wr ((ln a) - (ln b))) fun r60 =>
  Q r60) 0

def spec_iCheapest (sx : List Variable) (l : List Edit) (wx : List Int) (values : List Int) (Q : (List Int) → Int → Bool → Prop) : Prop :=
  Loop4 (fun (best : List Int) (cost : Int) (found : Bool) (mask : Int) nx =>
  (0 : Int) ≤ (IntKind.u64.wrap (ln sx)) ∧ (
  br (decide (mask < (shl .i64 1 (IntKind.u64.wrap (ln sx))))) (jn (fun (k : (List Int) → Int → Bool → Prop) => spec_iBits mask fun r53 =>
  spec_iSum wx r53 fun r62 =>
  jn (fun (k83 : Bool → Prop) => br (found) (br (decide (r62 > cost)) (k83 true) <|
  br (r62 == cost) (br (decide ((ln r53) > (ln best))) (k83 true) <|
  br ((ln r53) == (ln best)) (spec_l1Less r53 best fun r90 =>
  k83 (decide (r90 ≥ 0))) <|
  k83 false) <|
  k83 false) <|
  k83 false) <|
  fun (x74 : Bool) =>
  br (x74) (k best cost found) <|
  spec_iOthers sx r53 fun r101 =>
  spec_eComplete sx l r101 values fun r111 r112 =>
  br (r112) (k r53 r62 true) <|
  k best cost found) <|
  fun (best33 : List Int) (cost39 : Int) (found40 : Bool) =>
  nx best33 cost39 found40 (wr (mask + 1))) <|
  Q best cost found)) ([]) 0 false 0

def spec_iMend (sx : List Variable) (l : List Edit) (wx : List Int) (values : List Int) (Q : (List Int) → Bool → Prop) : Prop :=
  spec_iCheapest sx l wx values fun r19 r20 r21 =>
  br (!r21) (Q ([]) false) <|
  spec_iOthers sx r19 fun r29 =>
  spec_eComplete sx l r29 values fun r40 r41 =>
  Q r40 r41

def spec_iChanged (wx : List Int) (a1 : List Int) (b : List Int) (Q : Int → Prop) : Prop :=
  Loop2 (fun (n : Int) (x : Int) nx =>
  br (decide (x < (ln a1))) (jn (fun (k : Int → Prop) => idx a1 x fun x25 =>
  idx b x fun x31 =>
  br (x25 != x31) (idx wx x fun x43 =>
  k (wr (n + x43))) <|
  k n) <|
  fun (n19 : Int) =>
  nx n19 (wr (x + 1))) <|
  Q n) 0 0

def spec_MendData (sx : List Variable) (l : List Edit) (weights : List Int) (data : List Record) (Q : (List Record) → (List Int) → Bool → Prop) : Prop :=
  jn (fun (k : Bool → Prop) => spec_eSmall sx l fun r24 =>
  br (!r24) (k true) <|
  spec_iWeights sx weights fun r32 =>
  br (!r32) (k true) <|
  spec_dGood sx data fun r43 =>
  k (!r43)) <|
  fun (x : Bool) =>
  br (x) (Q ([]) ([]) false) <|
  Loop3 (fun (out : List Record) (costs : List Int) (x65 : Int) nx =>
  br (decide (x65 < (ln data))) (idx data x65 fun x85 =>
  spec_rOwn ((Record.mk x85.Area x85.House x85.Values)) fun r106 =>
  jn (fun (k170 : Int → (List Int) → Prop) => spec_eFailed l x85.Values fun r172 =>
  br (decide ((ln r172) > 0)) (spec_iMend sx l weights x85.Values fun r184 r185 =>
  br (!r185) (Q ([]) ([]) false) <|
  spec_iChanged weights r184 x85.Values fun r203 =>
  k170 r203 r184) <|
  k170 0 r106.Values) <|
  fun (cost : Int) (values : List Int) =>
  (ln out + ln ([((Record.mk r106.Area r106.House values) : Record)])) * 40 ≤ 140737488355328 ∧ (
  (ln costs + ln ([cost])) * 8 ≤ 140737488355328 ∧ (
  nx (out ++ ([((Record.mk r106.Area r106.House values) : Record)])) (costs ++ ([cost])) (wr (x65 + 1))))) <|
  Q out costs true) ([]) ([]) 0

def spec_DrawNearestDonor (code : List B8) (Q : (List Variable) → (List Edit) → (List Int) → (List Record) → (List Int) → Prop) : Prop :=
  spec_l1Cur_mended ((L1Cur.mk code 0 0)) fun r2 r3 r4 r5 r6 r7 =>
  spec_l1Cur_anyData ((L1Cur.mk code r6 r7)) r2 fun r48 r49 r50 =>
  Q r2 r3 r4 r48 r5

def impl_changeCost (weights : List Int) (a1 : List Int) (b : List Int) (Q : Int → Prop) : Prop :=
  Loop2 (fun (cost : Int) (x : Int) nx =>
  br (decide (x < (ln a1))) (jn (fun (k : Int → Prop) => idx a1 x fun x24 =>
  idx b x fun x30 =>
  br (x24 != x30) (idx weights x fun x42 =>
  k (wr (cost + x42))) <|
  k cost) <|
  fun (cost18 : Int) =>
  nx cost18 (wr (x + 1))) <|
  Q cost) 0 0

def impl_NearestDonor (sx : List Variable) (l : List Edit) (weights : List Int) (data : List Record) (values : List Int) (Q : Int → Bool → Prop) : Prop :=
  jn (fun (k : Bool → Prop) => impl_isMendable sx l weights fun r30 =>
  br (!r30) (k true) <|
  impl_isData sx data fun r38 =>
  br (!r38) (k true) <|
  impl_areValues sx values fun r49 =>
  k (!r49)) <|
  fun (x : Bool) =>
  br (x) (Q 0 false) <|
  Loop3 (fun (best : Int) (least : Int) (x63 : Int) nx =>
  br (decide (x63 < (ln data))) (jn (fun (k79 : Int → Int → Prop) => idx data x63 fun x81 =>
  impl_failsOne l x81.Values fun r100 =>
  br (r100) (k79 best least) <|
  impl_changeCost weights x81.Values values fun r113 =>
  jn (fun (k128 : Bool → Prop) => br (decide (best < 0)) (k128 true) <|
  k128 (decide (r113 < least))) <|
  fun (x126 : Bool) =>
  br (x126) (k79 x63 r113) <|
  k79 best least) <|
  fun (best71 : Int) (least72 : Int) =>
  nx best71 least72 (wr (x63 + 1))) <|
  br (decide (best < 0)) (Q 0 false) <|
  Q best true) ((-1)) 0 0

def spec_iInput (sx : List Variable) (l : List Edit) (wx : List Int) (values : List Int) (Q : Bool → Prop) : Prop :=
  jn (fun (k : Bool → Prop) => spec_eSmall sx l fun r21 =>
  br (r21) (spec_iWeights sx wx fun r24 =>
  br (r24) (spec_sFits sx values fun r30 =>
  k r30) <|
  k false) <|
  k false) <|
  fun (x : Bool) =>
  Q x

def spec_NearestDonor (sx : List Variable) (l : List Edit) (weights : List Int) (data : List Record) (values : List Int) (Q : Int → Bool → Prop) : Prop :=
  jn (fun (k : Bool → Prop) => spec_iInput sx l weights values fun r30 =>
  br (!r30) (k true) <|
  spec_dGood sx data fun r38 =>
  k (!r38)) <|
  fun (x : Bool) =>
  br (x) (Q 0 false) <|
  Loop3 (fun (atx : Int) (best : Int) (x49 : Int) nx =>
  br (decide (x49 < (ln data))) (jn (fun (k65 : Int → Int → Prop) => idx data x49 fun x67 =>
  spec_eFailed l x67.Values fun r86 =>
  br (decide ((ln r86) > 0)) (k65 atx best) <|
  spec_iChanged weights x67.Values values fun r105 =>
  jn (fun (k120 : Bool → Prop) => br (decide (atx < 0)) (k120 true) <|
  k120 (decide (r105 < best))) <|
  fun (x118 : Bool) =>
  br (x118) (k65 x49 r105) <|
  k65 atx best) <|
  fun (atx57 : Int) (best58 : Int) =>
  nx atx57 best58 (wr (x49 + 1))) <|
  br (decide (atx < 0)) (Q 0 false) <|
  Q atx true) ((-1)) 0 0

def laws_qInts (a : List Int) (b : List Int) (Q : Bool → Prop) : Prop :=
  br ((ln a) != (ln b)) (Q false) <|
  Loop1 (fun (x : Int) nx =>
  br (decide (x < (ln a))) (idx a x fun x12 =>
  idx b x fun x18 =>
  br (x12 != x18) (Q false) <|
  nx (wr (x + 1))) <|
  Q true) 0

def laws_qRecord (a : Record) (b : Record) (Q : Bool → Prop) : Prop :=
  jn (fun (k : Bool → Prop) => br (a.Area == b.Area) (br (a.House == b.House) (laws_qInts a.Values b.Values fun r26 =>
  k r26) <|
  k false) <|
  k false) <|
  fun (x22 : Bool) =>
  Q x22

def laws_qData (a : List Record) (b : List Record) (Q : Bool → Prop) : Prop :=
  br ((ln a) != (ln b)) (Q false) <|
  Loop1 (fun (x : Int) nx =>
  br (decide (x < (ln a))) (idx a x fun x12 =>
  idx b x fun x26 =>
  det1 (laws_qRecord x12 x26) fun r44 =>
  br (!r44) (Q false) <|
  nx (wr (x + 1))) <|
  Q true) 0

def impl_DonorMend (sx : List Variable) (l : List Edit) (weights : List Int) (values : List Int) (donor : List Int) (Q : (List Int) → Bool → Bool → Prop) : Prop :=
  jn (fun (k : Bool → Prop) => impl_isMendable sx l weights fun r31 =>
  br (!r31) (k true) <|
  impl_areValues sx values fun r40 =>
  br (!r40) (k true) <|
  impl_areValues sx donor fun r52 =>
  k (!r52)) <|
  fun (x : Bool) =>
  br (x) (Q ([]) false false) <|
  impl_cheapestChange sx l weights values fun r67 r68 =>
  br (!r68) (Q ([]) false false) <|
  slices_Clone_int_int values fun r78 =>
  Loop2 (fun (mended : List Int) (x94 : Int) nx =>
  br (decide (x94 < (ln r67))) (idx r67 x94 fun x119 =>
  idx donor x119 fun x126 =>
  (0 : Int) ≤ x119 ∧ Int.toNat x119 < List.length mended ∧ (
  nx (List.set mended (Int.toNat x119) x126) (wr (x94 + 1)))) <|
  impl_failsOne l mended fun r148 =>
  br (!r148) (Q mended true true) <|
  impl_otherVars sx r67 fun r154 =>
  impl_completionOf sx l r154 values fun r166 =>
  Q r166 false true) r78 0

def impl_FailedEdits (sx : List Variable) (l : List Edit) (values : List Int) (Q : (List Int) → Bool → Prop) : Prop :=
  jn (fun (k : Bool → Prop) => impl_IsSchema sx fun r16 =>
  br (!r16) (k true) <|
  impl_areEdits sx l fun r22 =>
  br (!r22) (k true) <|
  impl_areValues sx values fun r31 =>
  k (!r31)) <|
  fun (x : Bool) =>
  br (x) (Q ([]) false) <|
  Loop2 (fun (failed : List Int) (x46 : Int) nx =>
  br (decide (x46 < (ln l))) (jn (fun (k69 : (List Int) → Prop) => idx l x46 fun x71 =>
  impl_fails ((Edit.mk x71.Sets)) values fun r92 =>
  br (r92) ((ln failed + ln ([x46])) * 8 ≤ 140737488355328 ∧ (
  k69 (failed ++ ([x46])))) <|
  k69 failed) <|
  fun (failed55 : List Int) =>
  nx failed55 (wr (x46 + 1))) <|
  Q failed true) ([]) 0

def impl_FailingRecords (sx : List Variable) (l : List Edit) (data : List Record) (Q : (List Int) → Bool → Prop) : Prop :=
  jn (fun (k : Bool → Prop) => impl_isSmall sx fun r16 =>
  br (!r16) (k true) <|
  impl_areEdits sx l fun r22 =>
  br (!r22) (k true) <|
  impl_isData sx data fun r31 =>
  k (!r31)) <|
  fun (x : Bool) =>
  br (x) (Q ([]) false) <|
  Loop2 (fun (out : List Int) (x46 : Int) nx =>
  br (decide (x46 < (ln data))) (jn (fun (k69 : (List Int) → Prop) => idx data x46 fun x71 =>
  impl_failsOne l x71.Values fun r92 =>
  br (r92) ((ln out + ln ([x46])) * 8 ≤ 140737488355328 ∧ (
  k69 (out ++ ([x46])))) <|
  k69 out) <|
  fun (out55 : List Int) =>
  nx out55 (wr (x46 + 1))) <|
  Q out true) ([]) 0

def laws_FnDonors (code : List B8) (more : List B8) (Q : Bool → Prop) : Prop :=
  br (decide ((wr ((ln code) + (ln more))) > 1048576)) (Q true) <|
  spec_DrawMendData code fun r7 r8 r9 r10 =>
  impl_MendData r7 r8 r9 r10 fun r42 r43 r44 =>
  spec_MendData r7 r8 r9 r10 fun r62 r63 r64 =>
  spec_DrawNearestDonor more fun r86 r87 r88 r89 r90 =>
  impl_NearestDonor r86 r87 r88 r89 r90 fun r139 r140 =>
  spec_NearestDonor r86 r87 r88 r89 r90 fun r143 r144 =>
  jn (fun (k : Bool → Prop) => br (r44 != r64) (k true) <|
  laws_qData r42 r62 fun r197 =>
  br (!r197) (k true) <|
  laws_qInts r43 r63 fun r212 =>
  br (!r212) (k true) <|
  br (r140 != r144) (k true) <|
  k (r139 != r143)) <|
  fun (x183 : Bool) =>
  br (x183) (Q false) <|
  jn (fun (k263 : Prop) => br (r140) (idx r89 r139 fun x266 =>
  impl_DonorMend r86 r87 r88 r90 x266.Values fun r275 r276 r277 =>
  impl_FailedEdits r86 r87 r275 fun r287 r288 =>
  jn (fun (k311 : Bool → Prop) => br (!r277) (k311 true) <|
  br (!r288) (k311 true) <|
  k311 (decide ((ln r287) > 0))) <|
  fun (x309 : Bool) =>
  br (x309) (Q false) <|
  k263) <|
  k263) <|
  br (!r44) (Q true) <|
  impl_FailingRecords r7 r8 r42 fun r317 r318 =>
  impl_FailingRecords r7 r8 r10 fun r328 r329 =>
  jn (fun (k352 : Bool → Prop) => br (r318) (br (r329) (br ((ln r317) == 0) (br (decide ((ln r328) ≤ (ln r10))) (k352 ((ln r43) == (ln r10))) <|
  k352 false) <|
  k352 false) <|
  k352 false) <|
  k352 false) <|
  fun (x350 : Bool) =>
  Q x350

end Go.Proofs.Ytklajcbpnpkniaa
