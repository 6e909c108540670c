/- What each Go function means: a definition over numbers and lists; Q: what is to hold of its results. -/
import Derived.Test.YtbegmfmabcpofaaLib
set_option linter.unusedVariables false
set_option autoImplicit false
namespace Go.Proofs.Ytbegmfmabcpofaa
open Go Go.RowKit Go.Gv

structure Frac where
  Num : Int
  Den : Int
instance : Wf Frac := ⟨fun x => Wf.wf x.Num ∧ Wf.wf x.Den⟩
instance : Flat Frac where
  n := 2
  agg := true
  rd _ cs x := cs = [I x.Num, I x.Den]
  enc x := [I x.Num, I x.Den]
  len h := by subst h; rfl
  le _ h := h
  one h c hc := by subst h; simp at hc; rcases hc with rfl | rfl <;> rfl
  sing h := by cases h
  flat := Iff.rfl
theorem Frac_rv {h : PH} {v : Value} {x : Frac} (r : RV h v x) : v = .agg #[I x.Num, I x.Den] := by obtain ⟨cs, rfl, rfl⟩ := r; rfl
structure L1Cur where
  Code : List B8
  At : Int
  Seed : Int

def spec_l1In (n : Int) (lo : Int) (hi : Int) (Q : Bool → Prop) : Prop :=
  jn (fun (k : Bool → Prop) => br (decide (n ≥ lo)) (k (decide (n ≤ hi))) <|
  k false) <|
  fun (x : Bool) =>
  Q x

def spec_MaskCounts (m : Int) (n : Int) (Q : (List Int) → Bool → Prop) : Prop :=
  jn (fun (k : Bool → Prop) => spec_l1In m 2 20 fun r =>
  br (!r) (k true) <|
  spec_l1In n 1 3 fun r5 =>
  k (!r5)) <|
  fun (x : Bool) =>
  br (x) (Q ([]) false) <|
  (0 : Int) ≤ m ∧ 8 * m ≤ 140737488355328 ∧ (
  (0 : Int) ≤ 0 ∧ Int.toNat 0 < List.length (List.replicate (Int.toNat m) ((0 : Int))) ∧ (
  Loop2 (fun (n17 : Int) (counts : List Int) nx =>
  br (decide (n17 > 0)) ((0 : Int) ≤ m ∧ 8 * m ≤ 140737488355328 ∧ (
  Loop2 (fun (nextx : List Int) (x49 : Int) nx59 =>
  br (decide (x49 < (ln counts))) (idx counts x49 fun x61 =>
  Loop2 (fun (nextx69 : List Int) (x75 : Int) nx83 =>
  br (decide (x75 < m)) (m ≠ 0 ∧ (
  idx nextx69 (Int.tmod (wr (x49 + x75)) m) fun x85 =>
  (0 : Int) ≤ (Int.tmod (wr (x49 + x75)) m) ∧ Int.toNat (Int.tmod (wr (x49 + x75)) m) < List.length nextx69 ∧ (
  nx83 (List.set nextx69 (Int.toNat (Int.tmod (wr (x49 + x75)) m)) (wr (x85 + x61))) (wr (x75 + 1))))) <|
  nx59 nextx69 (wr (x49 + 1))) nextx 0) <|
  nx (wr (n17 - 1)) nextx) (List.replicate (Int.toNat m) ((0 : Int))) 0)) <|
  Q counts true) n (List.set (List.replicate (Int.toNat m) ((0 : Int))) (Int.toNat 0) 1)))

def impl_MaskCounts (m : Int) (n : Int) (Q : (List Int) → Bool → Prop) : Prop :=
  jn (fun (k : Bool → Prop) => br (decide (m < 2)) (k true) <|
  br (decide (m > 20)) (k true) <|
  br (decide (n < 1)) (k true) <|
  k (decide (n > 3))) <|
  fun (x : Bool) =>
  br (x) (Q ([]) false) <|
  Loop2 (fun (each : Int) (x4 : Int) nx =>
  br (decide (x4 < (wr (n - 1)))) (nx (wr (each * m)) (wr (x4 + 1))) <|
  (0 : Int) ≤ m ∧ 8 * m ≤ 140737488355328 ∧ (
  Loop2 (fun (out : List Int) (x15 : Int) nx23 =>
  br (decide (x15 < (ln (List.replicate (Int.toNat m) ((0 : Int)))))) ((0 : Int) ≤ x15 ∧ Int.toNat x15 < List.length out ∧ (
  nx23 (List.set out (Int.toNat x15) each) (wr (x15 + 1)))) <|
  Q out true) (List.replicate (Int.toNat m) ((0 : Int))) 0)) 1 0

def laws_eqIntS (a : List Int) (b : List Int) (Q : Bool → Prop) : Prop :=
  br ((ln a) != (ln b)) (Q false) <|
  Loop1 (fun (i : Int) nx =>
  br (decide (i < (ln a))) (idx a i fun x =>
  idx b i fun x17 =>
  br (x != x17) (Q false) <|
  nx (wr (i + 1))) <|
  Q true) 0

def laws_markIntS (a : List Int) (k : Int) (Q : Int → (List Int) → Prop) : Prop :=
  Loop3 (fun (a2 : List Int) (k6 : Int) (i : Int) nx =>
  br (decide (i < (ln a))) ((0 : Int) ≤ i ∧ Int.toNat i < List.length a2 ∧ (
  nx (List.set a2 (Int.toNat i) k6) (wr (k6 + 1)) (wr (i + 1)))) <|
  Q k6 a2) a k 0

def laws_heldIntS (a : List Int) (k : Int) (Q : Int → Prop) : Prop :=
  Loop2 (fun (k2 : Int) (i : Int) nx =>
  br (decide (i < (ln a))) (idx a i fun x =>
  br (x != k2) (Q ((-1))) <|
  nx (wr (k2 + 1)) (wr (i + 1))) <|
  Q k2) k 0

def laws_FnExactMaskCounts (aM : Int) (aN : Int) (Q : Bool → Prop) : Prop :=
  spec_MaskCounts aM aN fun r r1 =>
  impl_MaskCounts aM aN fun r2 r3 =>
  jn (fun (k : Bool → Prop) => laws_eqIntS r2 r fun r18 =>
  br (!r18) (k true) <|
  k (r3 != r1)) <|
  fun (x13 : Bool) =>
  br (x13) (Q false) <|
  laws_markIntS r2 1 fun r29 r30 =>
  laws_heldIntS r30 1 fun r38 =>
  br (decide (r38 < 0)) (Q false) <|
  br (r38 != r29) (Q false) <|
  impl_MaskCounts aM aN fun r49 r50 =>
  jn (fun (k64 : Bool → Prop) => laws_eqIntS r49 r fun r66 =>
  br (!r66) (k64 true) <|
  k64 (r50 != r1)) <|
  fun (x60 : Bool) =>
  br (x60) (Q false) <|
  laws_heldIntS r30 1 fun r80 =>
  br (decide (r80 < 0)) (Q false) <|
  br (r80 != r29) (Q false) <|
  Q true

def laws_toIntS (a : List Int) (Q : (List Int) → Prop) : Prop :=
  (0 : Int) ≤ (ln a) ∧ 8 * (ln a) ≤ 140737488355328 ∧ (
  Loop2 (fun (out : List Int) (i : Int) nx =>
  br (decide (i < (ln a))) (idx a i fun x18 =>
  (0 : Int) ≤ i ∧ Int.toNat i < List.length out ∧ (
  nx (List.set out (Int.toNat i) x18) (wr (i + 1)))) <|
  Q out) (List.replicate (Int.toNat (ln a)) ((0 : Int))) 0)

def spec_zeModulus (m : Int) (Q : Bool → Prop) : Prop :=
  spec_l1In m 2 1000000007 fun r =>
  Q r

def spec_l1All (l : List Int) (lo : Int) (hi : Int) (Q : Bool → Prop) : Prop :=
  Loop1 (fun (x : Int) nx =>
  br (decide (x < (ln l))) (idx l x fun x3 =>
  spec_l1In x3 lo hi fun r10 =>
  br (!r10) (Q false) <|
  nx (wr (x + 1))) <|
  Q true) 0

def spec_zeValues (m : Int) (l : List Int) (Q : Bool → Prop) : Prop :=
  jn (fun (k : Bool → Prop) => br (decide ((ln l) ≤ 600)) (spec_l1All l 0 (wr (m - 1)) fun r2 =>
  k r2) <|
  k false) <|
  fun (x : Bool) =>
  Q x

def spec_SignedValues (m : Int) (l : List Int) (Q : (List Int) → Bool → Prop) : Prop :=
  jn (fun (k : Bool → Prop) => spec_zeModulus m fun r3 =>
  br (!r3) (k true) <|
  spec_zeValues m l fun r8 =>
  k (!r8)) <|
  fun (x : Bool) =>
  br (x) (Q ([]) false) <|
  Loop2 (fun (out : List Int) (x18 : Int) nx =>
  br (decide (x18 < (ln l))) (idx l x18 fun x26 =>
  jn (fun (k35 : Int → Prop) => br (decide ((wr (2 * x26)) > m)) (k35 (wr (x26 - m))) <|
  k35 x26) <|
  fun (x33 : Int) =>
  (ln out + ln ([x33])) * 8 ≤ 140737488355328 ∧ (
  nx (out ++ ([x33])) (wr (x18 + 1)))) <|
  Q out true) ([]) 0

def impl_isModulus (m : Int) (Q : Bool → Prop) : Prop :=
  jn (fun (k : Bool → Prop) => br (decide (m ≥ 2)) (k (decide (m ≤ 1000000007))) <|
  k false) <|
  fun (x : Bool) =>
  Q x

def impl_areWithin (l : List Int) (lo : Int) (hi : Int) (Q : Bool → Prop) : Prop :=
  Loop1 (fun (x : Int) nx =>
  br (decide (x < (ln l))) (idx l x fun x1 =>
  jn (fun (k : Bool → Prop) => br (decide (x1 < lo)) (k true) <|
  k (decide (x1 > hi))) <|
  fun (x8 : Bool) =>
  br (x8) (Q false) <|
  nx (wr (x + 1))) <|
  Q true) 0

def impl_areResidues (values : List Int) (m : Int) (Q : Bool → Prop) : Prop :=
  jn (fun (k : Bool → Prop) => br (decide ((ln values) ≤ 600)) (impl_areWithin values 0 (wr (m - 1)) fun r2 =>
  k r2) <|
  k false) <|
  fun (x : Bool) =>
  Q x

def impl_SignedValues (m : Int) (l : List Int) (Q : (List Int) → Bool → Prop) : Prop :=
  jn (fun (k : Bool → Prop) => impl_isModulus m fun r3 =>
  br (!r3) (k true) <|
  impl_areResidues l m fun r8 =>
  k (!r8)) <|
  fun (x : Bool) =>
  br (x) (Q ([]) false) <|
  (0 : Int) ≤ (ln l) ∧ 8 * (ln l) ≤ 140737488355328 ∧ (
  Loop2 (fun (out : List Int) (x27 : Int) nx =>
  br (decide (x27 < (ln l))) (idx l x27 fun x36 =>
  jn (fun (k45 : Int → Prop) => br (decide ((wr (2 * x36)) > m)) (k45 (wr (x36 - m))) <|
  k45 x36) <|
  fun (x43 : Int) =>
  (0 : Int) ≤ x27 ∧ Int.toNat x27 < List.length out ∧ (
  nx (List.set out (Int.toNat x27) x43) (wr (x27 + 1)))) <|
  Q out true) (List.replicate (Int.toNat (ln l)) ((0 : Int))) 0)

def laws_FnExactSignedValues (aM : Int) (aL : List Int) (Q : Bool → Prop) : Prop :=
  br (decide ((ln aL) > 1048576)) (Q true) <|
  laws_toIntS aL fun r1 =>
  spec_SignedValues aM r1 fun r7 r8 =>
  laws_toIntS aL fun r18 =>
  impl_SignedValues aM r18 fun r29 r30 =>
  jn (fun (k : Bool → Prop) => laws_eqIntS r29 r7 fun r47 =>
  br (!r47) (k true) <|
  k (r30 != r8)) <|
  fun (x40 : Bool) =>
  br (x40) (Q false) <|
  laws_toIntS aL fun r63 =>
  laws_eqIntS r18 r63 fun r73 =>
  br (!r73) (Q false) <|
  laws_markIntS r18 1 fun r79 r80 =>
  jn (fun (k95 : Bool → Prop) => br (decide (r79 < 0)) (k95 true) <|
  laws_eqIntS r29 r7 fun r104 =>
  br (!r104) (k95 true) <|
  k95 (r30 != r8)) <|
  fun (x89 : Bool) =>
  br (x89) (Q false) <|
  laws_markIntS r29 1 fun r123 r124 =>
  laws_heldIntS r124 1 fun r134 =>
  br (decide (r134 < 0)) (Q false) <|
  br (r134 != r123) (Q false) <|
  laws_toIntS aL fun r145 =>
  impl_SignedValues aM r145 fun r157 r158 =>
  jn (fun (k172 : Bool → Prop) => laws_eqIntS r157 r7 fun r174 =>
  br (!r174) (k172 true) <|
  k172 (r158 != r8)) <|
  fun (x168 : Bool) =>
  br (x168) (Q false) <|
  laws_heldIntS r124 1 fun r189 =>
  br (decide (r189 < 0)) (Q false) <|
  br (r189 != r123) (Q false) <|
  Q true

def spec_tSum (l : List Int) (Q : Int → Prop) : Prop :=
  Loop2 (fun (sum : Int) (x : Int) nx =>
  br (decide (x < (ln l))) (idx l x fun x1 =>
  nx (wr (sum + x1)) (wr (x + 1))) <|
  Q sum) 0 0

def spec_oCounts (l : List Int) (Q : Bool → Prop) : Prop :=
  jn (fun (k : Bool → Prop) => spec_l1In (ln l) 1 100 fun r2 =>
  br (r2) (spec_l1All l 0 1000000 fun r5 =>
  br (r5) (spec_tSum l fun r10 =>
  k (decide (r10 > 0))) <|
  k false) <|
  k false) <|
  fun (x : Bool) =>
  Q x

def spec_l1Most (a : Int) (b : Int) (Q : Int → Prop) : Prop :=
  br (decide (a > b)) (Q a) <|
  Q b

def spec_l1Abs (n : Int) (Q : Int → Prop) : Prop :=
  spec_l1Most n (wr (0 - n)) fun r =>
  Q r

def spec_fGcd (a : Int) (b : Int) (Q : Int → Prop) : Prop :=
  Loop2 (fun (a1 : Int) (b2 : Int) nx =>
  br (b2 != 0) (b2 ≠ 0 ∧ (
  nx b2 (Int.tmod a1 b2))) <|
  spec_l1Abs a1 fun r =>
  Q r) a b

def spec_fGood (f : Frac) (Q : Bool → Prop) : Prop :=
  jn (fun (k : Bool → Prop) => spec_l1In f.Den 1 1000000000 fun r =>
  br (r) (spec_l1In f.Num ((-1000000000)) 1000000000 fun r8 =>
  br (r8) (spec_fGcd f.Num f.Den fun r13 =>
  k (r13 == 1)) <|
  k false) <|
  k false) <|
  fun (x2 : Bool) =>
  Q x2

def spec_fMake (n : Int) (d : Int) (Q : Frac → Bool → Prop) : Prop :=
  br (d == 0) (Q ((Frac.mk 0 0)) false) <|
  spec_fGcd n d fun r =>
  jn (fun (k : Int → Prop) => br (decide (d < 0)) (k (wr (0 - r))) <|
  k r) <|
  fun (g : Int) =>
  g ≠ 0 ∧ (
  g ≠ 0 ∧ (
  spec_fGood ((Frac.mk (wr (Int.tdiv n g)) (wr (Int.tdiv d g)))) fun r19 =>
  br (!r19) (Q ((Frac.mk 0 0)) false) <|
  Q ((Frac.mk (wr (Int.tdiv n g)) (wr (Int.tdiv d g)))) true))

def spec_GiniOf (counts : List Int) (Q : Frac → Bool → Prop) : Prop :=
  spec_oCounts counts fun r2 =>
  br (!r2) (Q ((Frac.mk 0 0)) false) <|
  Loop2 (fun (n : Int) (x11 : Int) nx =>
  br (decide (x11 < (ln counts))) (idx counts x11 fun x20 =>
  Loop2 (fun (n26 : Int) (x27 : Int) nx35 =>
  br (decide (x27 < (ln counts))) (idx counts x27 fun x37 =>
  spec_l1Abs (wr (x20 - x37)) fun r46 =>
  nx35 (wr (n26 + r46)) (wr (x27 + 1))) <|
  nx n26 (wr (x11 + 1))) n 0) <|
  spec_tSum counts fun r52 =>
  spec_fMake n (wr ((wr (2 * (ln counts))) * r52)) fun r55 r56 =>
  Q ((Frac.mk r55.Num r55.Den)) r56) 0 0

def impl_total (l : List Int) (Q : Int → Prop) : Prop :=
  Loop2 (fun (sum : Int) (x : Int) nx =>
  br (decide (x < (ln l))) (idx l x fun x1 =>
  nx (wr (sum + x1)) (wr (x + 1))) <|
  Q sum) 0 0

def impl_areCounts (counts : List Int) (Q : Bool → Prop) : Prop :=
  jn (fun (k : Bool → Prop) => br (decide ((ln counts) ≥ 1)) (br (decide ((ln counts) ≤ 100)) (impl_areWithin counts 0 1000000 fun r3 =>
  br (r3) (impl_total counts fun r7 =>
  k (decide (r7 > 0))) <|
  k false) <|
  k false) <|
  k false) <|
  fun (x : Bool) =>
  Q x

def impl_gcdOf (a : Int) (b : Int) (Q : Int → Prop) : Prop :=
  jn (fun (k : Int → Prop) => br (decide (a < 0)) (k (wr (0 - a))) <|
  k a) <|
  fun (a1 : Int) =>
  jn (fun (k4 : Int → Prop) => br (decide (b < 0)) (k4 (wr (0 - b))) <|
  k4 b) <|
  fun (b2 : Int) =>
  Loop2 (fun (a7 : Int) (b8 : Int) nx =>
  br (b8 != 0) (b8 ≠ 0 ∧ (
  nx b8 (Int.tmod a7 b8))) <|
  Q a7) a1 b2

def impl_reduced (n : Int) (d : Int) (Q : Frac → Bool → Prop) : Prop :=
  impl_gcdOf n d fun r =>
  r ≠ 0 ∧ (
  r ≠ 0 ∧ (
  jn (fun (k : Int → Int → Prop) => br (decide ((wr (Int.tdiv d r)) < 0)) (k (wr (0 - (wr (Int.tdiv n r)))) (wr (0 - (wr (Int.tdiv d r))))) <|
  k (wr (Int.tdiv n r)) (wr (Int.tdiv d r))) <|
  fun (n6 : Int) (d7 : Int) =>
  jn (fun (k11 : Bool → Prop) => br (decide (n6 > 1000000000)) (k11 true) <|
  br (decide (n6 < ((-1000000000)))) (k11 true) <|
  k11 (decide (d7 > 1000000000))) <|
  fun (x9 : Bool) =>
  br (x9) (Q ((Frac.mk 0 0)) false) <|
  Q ((Frac.mk n6 d7)) true))

def impl_GiniOf (counts : List Int) (Q : Frac → Bool → Prop) : Prop :=
  impl_areCounts counts fun r2 =>
  br (!r2) (Q ((Frac.mk 0 0)) false) <|
  Loop2 (fun (sum : Int) (x11 : Int) nx =>
  br (decide (x11 < (ln counts))) (idx counts x11 fun x14 =>
  Loop2 (fun (sum21 : Int) (x22 : Int) nx27 =>
  br (decide (x22 < (ln counts))) (idx counts x22 fun x29 =>
  nx27 (wr (sum21 + (mx (wr (x14 - x29)) (wr (x29 - x14))))) (wr (x22 + 1))) <|
  nx sum21 (wr (x11 + 1))) sum 0) <|
  impl_total counts fun r38 =>
  impl_reduced sum (wr ((wr (2 * (ln counts))) * r38)) fun r42 r43 =>
  Q ((Frac.mk r42.Num r42.Den)) r43) 0 0

def laws_eqFrac (a : Frac) (b : Frac) (Q : Bool → Prop) : Prop :=
  br (a.Num != b.Num) (Q false) <|
  br (a.Den != b.Den) (Q false) <|
  Q true

def laws_FnExactGiniOf (aCounts : List Int) (Q : Bool → Prop) : Prop :=
  br (decide ((ln aCounts) > 1048576)) (Q true) <|
  laws_toIntS aCounts fun r1 =>
  spec_GiniOf r1 fun r7 r8 =>
  laws_toIntS aCounts fun r17 =>
  impl_GiniOf r17 fun r29 r30 =>
  jn (fun (k : Bool → Prop) => laws_eqFrac ((Frac.mk r29.Num r29.Den)) ((Frac.mk r7.Num r7.Den)) fun r48 =>
  br (!r48) (k true) <|
  k (r30 != r8)) <|
  fun (x41 : Bool) =>
  br (x41) (Q false) <|
  laws_toIntS aCounts fun r71 =>
  laws_eqIntS r17 r71 fun r81 =>
  br (!r81) (Q false) <|
  Q true

def spec_fDiv (a : Frac) (b : Frac) (Q : Frac → Bool → Prop) : Prop :=
  br (b.Num == 0) (Q ((Frac.mk 0 0)) false) <|
  spec_fMake (wr (a.Num * b.Den)) (wr (a.Den * b.Num)) fun r r19 =>
  Q ((Frac.mk r.Num r.Den)) r19

def spec_QuotientOf (a : List Int) (b : List Int) (i : Int) (Q : Frac → Bool → Prop) : Prop :=
  jn (fun (k : Bool → Prop) => spec_oCounts a fun r16 =>
  br (!r16) (k true) <|
  spec_oCounts b fun r24 =>
  br (!r24) (k true) <|
  br ((ln a) != (ln b)) (k true) <|
  spec_l1In i 0 (wr ((ln a) - 1)) fun r38 =>
  k (!r38)) <|
  fun (x10 : Bool) =>
  br (x10) (Q ((Frac.mk 0 0)) false) <|
  idx a i fun x50 =>
  det1 (spec_tSum a) fun r58 =>
  det2 (spec_fMake x50 r58) fun r59 r60 =>
  idx b i fun x68 =>
  det1 (spec_tSum b) fun r80 =>
  det2 (spec_fMake x68 r80) fun r82 r83 =>
  jn (fun (k97 : Bool → Prop) => br (!r60) (k97 true) <|
  k97 (!r83)) <|
  fun (x95 : Bool) =>
  br (x95) (Q ((Frac.mk 0 0)) false) <|
  spec_fDiv ((Frac.mk r59.Num r59.Den)) ((Frac.mk r82.Num r82.Den)) fun r108 r109 =>
  Q ((Frac.mk r108.Num r108.Den)) r109

def impl_IsFrac (f : Frac) (Q : Bool → Prop) : Prop :=
  jn (fun (k : Bool → Prop) => br (decide (f.Den ≥ 1)) (br (decide (f.Den ≤ 1000000000)) (br (decide (f.Num ≥ ((-1000000000)))) (br (decide (f.Num ≤ 1000000000)) (impl_gcdOf f.Num f.Den fun r =>
  k (r == 1)) <|
  k false) <|
  k false) <|
  k false) <|
  k false) <|
  fun (x2 : Bool) =>
  Q x2

def impl_DivFrac (a : Frac) (b : Frac) (Q : Frac → Bool → Prop) : Prop :=
  jn (fun (k : Bool → Prop) => impl_IsFrac ((Frac.mk a.Num a.Den)) fun r =>
  br (!r) (k true) <|
  impl_IsFrac ((Frac.mk b.Num b.Den)) fun r26 =>
  br (!r26) (k true) <|
  k (b.Num == 0)) <|
  fun (x12 : Bool) =>
  br (x12) (Q ((Frac.mk 0 0)) false) <|
  impl_reduced (wr (a.Num * b.Den)) (wr (a.Den * b.Num)) fun r44 r45 =>
  Q ((Frac.mk r44.Num r44.Den)) r45

def impl_QuotientOf (a : List Int) (b : List Int) (i : Int) (Q : Frac → Bool → Prop) : Prop :=
  jn (fun (k : Bool → Prop) => impl_areCounts a fun r16 =>
  br (!r16) (k true) <|
  impl_areCounts b fun r24 =>
  br (!r24) (k true) <|
  br ((ln a) != (ln b)) (k true) <|
  br (decide (i < 0)) (k true) <|
  br (decide (i ≥ (ln a))) (k true) <|
  idx b i fun x48 =>
  k (x48 == 0)) <|
  fun (x10 : Bool) =>
  br (x10) (Q ((Frac.mk 0 0)) false) <|
  idx a i fun x63 =>
  det1 (impl_total a) fun r74 =>
  det2 (impl_reduced x63 r74) fun r75 r76 =>
  br (!r76) (Q ((Frac.mk 0 0)) false) <|
  idx b i fun x91 =>
  det1 (impl_total b) fun r103 =>
  det2 (impl_reduced x91 r103) fun r105 r106 =>
  br (!r106) (Q ((Frac.mk 0 0)) false) <|
  impl_DivFrac ((Frac.mk r75.Num r75.Den)) ((Frac.mk r105.Num r105.Den)) fun r126 r127 =>
  Q ((Frac.mk r126.Num r126.Den)) r127

def laws_FnExactQuotientOf (aA : List Int) (aB : List Int) (aI : Int) (Q : Bool → Prop) : Prop :=
  br (decide ((ln aA) > 1048576)) (Q true) <|
  br (decide ((ln aB) > 1048576)) (Q true) <|
  laws_toIntS aA fun r8 =>
  laws_toIntS aB fun r14 =>
  spec_QuotientOf r8 r14 aI fun r25 r26 =>
  laws_toIntS aA fun r36 =>
  laws_toIntS aB fun r48 =>
  impl_QuotientOf r36 r48 aI fun r60 r61 =>
  jn (fun (k : Bool → Prop) => laws_eqFrac ((Frac.mk r60.Num r60.Den)) ((Frac.mk r25.Num r25.Den)) fun r82 =>
  br (!r82) (k true) <|
  k (r61 != r26)) <|
  fun (x73 : Bool) =>
  br (x73) (Q false) <|
  laws_toIntS aA fun r113 =>
  laws_eqIntS r36 r113 fun r123 =>
  br (!r123) (Q false) <|
  laws_toIntS aB fun r129 =>
  laws_eqIntS r48 r129 fun r140 =>
  br (!r140) (Q false) <|
  Q true

def spec_oShares (l : List Int) (Q : (List Frac) → Bool → Prop) : Prop :=
  Loop2 (fun (out : List Frac) (x : Int) nx =>
  br (decide (x < (ln l))) (idx l x fun x8 =>
  spec_tSum l fun r15 =>
  spec_fMake x8 r15 fun r18 r19 =>
  br (!r19) (Q ([]) false) <|
  (ln out + ln ([(Frac.mk r18.Num r18.Den)])) * 16 ≤ 140737488355328 ∧ (
  nx (out ++ ([(Frac.mk r18.Num r18.Den)])) (wr (x + 1)))) <|
  Q out true) ([]) 0

def spec_CountShares (counts : List Int) (Q : (List Frac) → Bool → Prop) : Prop :=
  spec_oCounts counts fun r1 =>
  br (!r1) (Q ([]) false) <|
  spec_oShares counts fun r3 r4 =>
  Q r3 r4

def impl_sharesOf (values : List Int) (Q : (List Frac) → Bool → Prop) : Prop :=
  impl_total values fun r1 =>
  br (r1 == 0) (Q ([]) false) <|
  (0 : Int) ≤ (ln values) ∧ 16 * (ln values) ≤ 140737488355328 ∧ (
  Loop2 (fun (out : List Frac) (x15 : Int) nx =>
  br (decide (x15 < (ln values))) (idx values x15 fun x25 =>
  impl_reduced x25 r1 fun r32 r33 =>
  br (!r33) (Q ([]) false) <|
  (0 : Int) ≤ x15 ∧ Int.toNat x15 < List.length out ∧ (
  nx (List.set out (Int.toNat x15) ((Frac.mk r32.Num r32.Den))) (wr (x15 + 1)))) <|
  Q out true) (List.replicate (Int.toNat (ln values)) ((Frac.mk ((0 : Int)) ((0 : Int))))) 0)

def impl_CountShares (counts : List Int) (Q : (List Frac) → Bool → Prop) : Prop :=
  impl_areCounts counts fun r1 =>
  br (!r1) (Q ([]) false) <|
  impl_sharesOf counts fun r3 r4 =>
  Q r3 r4

def laws_eqFracS (a : List Frac) (b : List Frac) (Q : Bool → Prop) : Prop :=
  br ((ln a) != (ln b)) (Q false) <|
  Loop1 (fun (i : Int) nx =>
  br (decide (i < (ln a))) (idx a i fun x =>
  idx b i fun x17 =>
  det1 (laws_eqFrac x x17) fun r26 =>
  br (!r26) (Q false) <|
  nx (wr (i + 1))) <|
  Q true) 0

def laws_markFracS (a : List Frac) (k : Int) (Q : Int → (List Frac) → Prop) : Prop :=
  Loop3 (fun (a2 : List Frac) (k6 : Int) (i : Int) nx =>
  br (decide (i < (ln a))) (idx a2 i fun x =>
  idx (List.set a2 (Int.toNat i) ({x with Num := k6} : Frac)) i fun x14 =>
  nx (List.set (List.set a2 (Int.toNat i) ({x with Num := k6} : Frac)) (Int.toNat i) ({x14 with Den := wr (k6 + 1)} : Frac)) (wr ((wr (k6 + 1)) + 1)) (wr (i + 1))) <|
  Q k6 a2) a k 0

def laws_heldFracS (a : List Frac) (k : Int) (Q : Int → Prop) : Prop :=
  Loop2 (fun (k2 : Int) (i : Int) nx =>
  br (decide (i < (ln a))) (idx a i fun x =>
  br (x.Num != k2) (Q ((-1))) <|
  idx a i fun x7 =>
  br (x7.Den != (wr (k2 + 1))) (Q ((-1))) <|
  nx (wr ((wr (k2 + 1)) + 1)) (wr (i + 1))) <|
  Q k2) k 0

def laws_FnExactCountShares (aCounts : List Int) (Q : Bool → Prop) : Prop :=
  br (decide ((ln aCounts) > 1048576)) (Q true) <|
  laws_toIntS aCounts fun r1 =>
  spec_CountShares r1 fun r7 r8 =>
  laws_toIntS aCounts fun r18 =>
  impl_CountShares r18 fun r29 r30 =>
  jn (fun (k : Bool → Prop) => laws_eqFracS r29 r7 fun r47 =>
  br (!r47) (k true) <|
  k (r30 != r8)) <|
  fun (x40 : Bool) =>
  br (x40) (Q false) <|
  laws_toIntS aCounts fun r63 =>
  laws_eqIntS r18 r63 fun r73 =>
  br (!r73) (Q false) <|
  laws_markIntS r18 1 fun r79 r80 =>
  jn (fun (k95 : Bool → Prop) => br (decide (r79 < 0)) (k95 true) <|
  laws_eqFracS r29 r7 fun r104 =>
  br (!r104) (k95 true) <|
  k95 (r30 != r8)) <|
  fun (x89 : Bool) =>
  br (x89) (Q false) <|
  laws_markFracS r29 1 fun r123 r124 =>
  laws_heldFracS r124 1 fun r134 =>
  br (decide (r134 < 0)) (Q false) <|
  br (r134 != r123) (Q false) <|
  laws_toIntS aCounts fun r145 =>
  impl_CountShares r145 fun r157 r158 =>
  jn (fun (k172 : Bool → Prop) => laws_eqFracS r157 r7 fun r174 =>
  br (!r174) (k172 true) <|
  k172 (r158 != r8)) <|
  fun (x168 : Bool) =>
  br (x168) (Q false) <|
  laws_heldFracS r124 1 fun r189 =>
  br (decide (r189 < 0)) (Q false) <|
  br (r189 != r123) (Q false) <|
  Q true

def spec_fInt (n : Int) (Q : Frac → Prop) : Prop :=
  Q ((Frac.mk n 1))

def spec_fMul (a : Frac) (b : Frac) (Q : Frac → Bool → Prop) : Prop :=
  spec_fMake (wr (a.Num * b.Num)) (wr (a.Den * b.Den)) fun r r14 =>
  Q ((Frac.mk r.Num r.Den)) r14

def spec_fAdd (a : Frac) (b : Frac) (Q : Frac → Bool → Prop) : Prop :=
  spec_fMake (wr ((wr (a.Num * b.Den)) + (wr (b.Num * a.Den)))) (wr (a.Den * b.Den)) fun r r14 =>
  Q ((Frac.mk r.Num r.Den)) r14

def spec_ConcentrationOf (counts : List Int) (Q : Frac → Bool → Prop) : Prop :=
  spec_oCounts counts fun r2 =>
  br (!r2) (Q ((Frac.mk 0 0)) false) <|
  spec_oShares counts fun r11 r12 =>
  br (!r12) (Q ((Frac.mk 0 0)) false) <|
  spec_fInt 0 fun r29 =>
  Loop3 (fun (x40 : Int) (num : Int) (den : Int) nx =>
  br (decide (x40 < (ln r11))) (idx r11 x40 fun x54 =>
  spec_fMul ((Frac.mk x54.Num x54.Den)) ((Frac.mk x54.Num x54.Den)) fun r68 r69 =>
  br (!r69) (Q ((Frac.mk 0 0)) false) <|
  spec_fAdd ((Frac.mk num den)) ((Frac.mk r68.Num r68.Den)) fun r93 r94 =>
  br (!r94) (Q ((Frac.mk 0 0)) false) <|
  nx (wr (x40 + 1)) r93.Num r93.Den) <|
  Q ((Frac.mk num den)) true) 0 r29.Num r29.Den

def impl_MulFrac (a : Frac) (b : Frac) (Q : Frac → Bool → Prop) : Prop :=
  jn (fun (k : Bool → Prop) => impl_IsFrac ((Frac.mk a.Num a.Den)) fun r =>
  br (!r) (k true) <|
  impl_IsFrac ((Frac.mk b.Num b.Den)) fun r26 =>
  k (!r26)) <|
  fun (x12 : Bool) =>
  br (x12) (Q ((Frac.mk 0 0)) false) <|
  impl_reduced (wr (a.Num * b.Num)) (wr (a.Den * b.Den)) fun r39 r40 =>
  Q ((Frac.mk r39.Num r39.Den)) r40

def impl_AddFrac (a : Frac) (b : Frac) (Q : Frac → Bool → Prop) : Prop :=
  jn (fun (k : Bool → Prop) => impl_IsFrac ((Frac.mk a.Num a.Den)) fun r =>
  br (!r) (k true) <|
  impl_IsFrac ((Frac.mk b.Num b.Den)) fun r26 =>
  k (!r26)) <|
  fun (x12 : Bool) =>
  br (x12) (Q ((Frac.mk 0 0)) false) <|
  impl_reduced (wr ((wr (a.Num * b.Den)) + (wr (b.Num * a.Den)))) (wr (a.Den * b.Den)) fun r39 r40 =>
  Q ((Frac.mk r39.Num r39.Den)) r40

def impl_ConcentrationOf (counts : List Int) (Q : Frac → Bool → Prop) : Prop :=
  impl_areCounts counts fun r2 =>
  br (!r2) (Q ((Frac.mk 0 0)) false) <|
  impl_sharesOf counts fun r11 r12 =>
  br (!r12) (Q ((Frac.mk 0 0)) false) <|
  Loop3 (fun (x37 : Int) (num : Int) (den : Int) nx =>
  br (decide (x37 < (ln r11))) (idx r11 x37 fun x50 =>
  impl_MulFrac ((Frac.mk x50.Num x50.Den)) ((Frac.mk x50.Num x50.Den)) fun r64 r65 =>
  br (!r65) (Q ((Frac.mk 0 0)) false) <|
  impl_AddFrac ((Frac.mk num den)) ((Frac.mk r64.Num r64.Den)) fun r89 r90 =>
  br (!r90) (Q ((Frac.mk 0 0)) false) <|
  nx (wr (x37 + 1)) r89.Num r89.Den) <|
  Q ((Frac.mk num den)) true) 0 0 1

def laws_FnExactConcentrationOf (aCounts : List Int) (Q : Bool → Prop) : Prop :=
  br (decide ((ln aCounts) > 1048576)) (Q true) <|
  laws_toIntS aCounts fun r1 =>
  spec_ConcentrationOf r1 fun r7 r8 =>
  laws_toIntS aCounts fun r17 =>
  impl_ConcentrationOf r17 fun r29 r30 =>
  jn (fun (k : Bool → Prop) => laws_eqFrac ((Frac.mk r29.Num r29.Den)) ((Frac.mk r7.Num r7.Den)) fun r48 =>
  br (!r48) (k true) <|
  k (r30 != r8)) <|
  fun (x41 : Bool) =>
  br (x41) (Q false) <|
  laws_toIntS aCounts fun r71 =>
  laws_eqIntS r17 r71 fun r81 =>
  br (!r81) (Q false) <|
  Q true

def spec_fSub (a : Frac) (b : Frac) (Q : Frac → Bool → Prop) : Prop :=
  spec_fMake (wr ((wr (a.Num * b.Den)) - (wr (b.Num * a.Den)))) (wr (a.Den * b.Den)) fun r r14 =>
  Q ((Frac.mk r.Num r.Den)) r14

def spec_DissimilarityOf (a : List Int) (b : List Int) (Q : Frac → Bool → Prop) : Prop :=
  jn (fun (k : Bool → Prop) => spec_oCounts a fun r16 =>
  br (!r16) (k true) <|
  spec_oCounts b fun r24 =>
  br (!r24) (k true) <|
  k ((ln a) != (ln b))) <|
  fun (x10 : Bool) =>
  br (x10) (Q ((Frac.mk 0 0)) false) <|
  spec_oShares a fun r42 r43 =>
  spec_oShares b fun r52 r53 =>
  jn (fun (k66 : Bool → Prop) => br (!r43) (k66 true) <|
  k66 (!r53)) <|
  fun (x64 : Bool) =>
  br (x64) (Q ((Frac.mk 0 0)) false) <|
  spec_fInt 0 fun r76 =>
  Loop3 (fun (x87 : Int) (num : Int) (den : Int) nx =>
  br (decide (x87 < (ln r42))) (idx r42 x87 fun x104 =>
  idx r52 x87 fun x112 =>
  det2 (spec_fSub x104 x112) fun r123 r124 =>
  spec_l1Abs r123.Num fun r131 =>
  br (!r124) (Q ((Frac.mk 0 0)) false) <|
  spec_fAdd ((Frac.mk num den)) ((Frac.mk r131 r123.Den)) fun r147 r148 =>
  br (!r148) (Q ((Frac.mk 0 0)) false) <|
  nx (wr (x87 + 1)) r147.Num r147.Den) <|
  det1 (spec_fInt 2) fun r191 =>
  det2 (spec_fDiv ((Frac.mk num den)) r191) fun r193 r194 =>
  Q ((Frac.mk r193.Num r193.Den)) r194) 0 r76.Num r76.Den

def impl_SubFrac (a : Frac) (b : Frac) (Q : Frac → Bool → Prop) : Prop :=
  jn (fun (k : Bool → Prop) => impl_IsFrac ((Frac.mk a.Num a.Den)) fun r =>
  br (!r) (k true) <|
  impl_IsFrac ((Frac.mk b.Num b.Den)) fun r26 =>
  k (!r26)) <|
  fun (x12 : Bool) =>
  br (x12) (Q ((Frac.mk 0 0)) false) <|
  impl_reduced (wr ((wr (a.Num * b.Den)) - (wr (b.Num * a.Den)))) (wr (a.Den * b.Den)) fun r39 r40 =>
  Q ((Frac.mk r39.Num r39.Den)) r40

def impl_halfDistance (a : List Frac) (b : List Frac) (Q : Frac → Bool → Prop) : Prop :=
  Loop3 (fun (x17 : Int) (num : Int) (den : Int) nx =>
  br (decide (x17 < (ln a))) (idx a x17 fun x32 =>
  idx b x17 fun x46 =>
  det2 (impl_SubFrac ((Frac.mk x32.Num x32.Den)) x46) fun r58 r59 =>
  br (!r59) (Q ((Frac.mk 0 0)) false) <|
  impl_AddFrac ((Frac.mk num den)) ((Frac.mk (mx r58.Num (wr (0 - r58.Num))) r58.Den)) fun r79 r80 =>
  br (!r80) (Q ((Frac.mk 0 0)) false) <|
  nx (wr (x17 + 1)) r79.Num r79.Den) <|
  impl_DivFrac ((Frac.mk num den)) ((Frac.mk 2 1)) fun r109 r110 =>
  Q ((Frac.mk r109.Num r109.Den)) r110) 0 0 1

def impl_DissimilarityOf (a : List Int) (b : List Int) (Q : Frac → Bool → Prop) : Prop :=
  jn (fun (k : Bool → Prop) => impl_areCounts a fun r16 =>
  br (!r16) (k true) <|
  impl_areCounts b fun r24 =>
  br (!r24) (k true) <|
  k ((ln a) != (ln b))) <|
  fun (x10 : Bool) =>
  br (x10) (Q ((Frac.mk 0 0)) false) <|
  impl_sharesOf a fun r42 r43 =>
  br (!r43) (Q ((Frac.mk 0 0)) false) <|
  impl_sharesOf b fun r59 r60 =>
  br (!r60) (Q ((Frac.mk 0 0)) false) <|
  impl_halfDistance r42 r59 fun r78 r79 =>
  Q ((Frac.mk r78.Num r78.Den)) r79

def laws_FnExactDissimilarityOf (aA : List Int) (aB : List Int) (Q : Bool → Prop) : Prop :=
  br (decide ((ln aA) > 1048576)) (Q true) <|
  br (decide ((ln aB) > 1048576)) (Q true) <|
  laws_toIntS aA fun r8 =>
  laws_toIntS aB fun r14 =>
  spec_DissimilarityOf r8 r14 fun r25 r26 =>
  laws_toIntS aA fun r36 =>
  laws_toIntS aB fun r48 =>
  impl_DissimilarityOf r36 r48 fun r60 r61 =>
  jn (fun (k : Bool → Prop) => laws_eqFrac ((Frac.mk r60.Num r60.Den)) ((Frac.mk r25.Num r25.Den)) fun r82 =>
  br (!r82) (k true) <|
  k (r61 != r26)) <|
  fun (x73 : Bool) =>
  br (x73) (Q false) <|
  laws_toIntS aA fun r113 =>
  laws_eqIntS r36 r113 fun r123 =>
  br (!r123) (Q false) <|
  laws_toIntS aB fun r129 =>
  laws_eqIntS r48 r129 fun r140 =>
  br (!r140) (Q false) <|
  Q true

def spec_l1Cur_next (c : L1Cur) (Q : Int → Int → Int → Prop) : Prop :=
  jn (fun (k : Int → Prop) => br (decide (c.At < (ln c.Code))) (idx c.Code c.At fun x8 =>
  k (wr (x8.v))) <|
  k 0) <|
  fun (b3 : Int) =>
  br (decide ((wr (c.At + 1)) ≤ (ln c.Code))) (Q b3 (wr (c.At + 1)) (IntKind.u64.wrap ((IntKind.u64.wrap ((IntKind.u64.wrap (c.Seed * 6364136223846793005)) + (IntKind.u64.wrap (b3)))) + 1442695040888963407))) <|
  Q (wr (bits .and .u64 (Int.fdiv (IntKind.u64.wrap ((IntKind.u64.wrap ((IntKind.u64.wrap (c.Seed * 6364136223846793005)) + (IntKind.u64.wrap (b3)))) + 1442695040888963407)) (2 ^ 40)) 255)) (wr (c.At + 1)) (IntKind.u64.wrap ((IntKind.u64.wrap ((IntKind.u64.wrap (c.Seed * 6364136223846793005)) + (IntKind.u64.wrap (b3)))) + 1442695040888963407))

def spec_l1Cur_pick (c : L1Cur) (n : Int) (Q : Int → Int → Int → Prop) : Prop :=
  br (decide (n ≤ 1)) (Q 0 c.At c.Seed) <|
  spec_l1Cur_next ((L1Cur.mk c.Code c.At c.Seed)) fun r3 r4 r5 =>
  jn (fun (k : Int → Int → Int → Prop) => br (decide (n > 200)) (spec_l1Cur_next ((L1Cur.mk c.Code r4 r5)) fun r15 r16 r17 =>
  k (wr ((wr (r3 * 256)) + r15)) r16 r17) <|
  k r3 r4 r5) <|
  fun (x9 : Int) (atx : Int) (seed : Int) =>
  n ≠ 0 ∧ (
  Q (Int.tmod x9 n) atx seed)

def spec_l1Cur_among (c : L1Cur) (list : List Int) (Q : Int → Int → Int → Prop) : Prop :=
  spec_l1Cur_pick ((L1Cur.mk c.Code c.At c.Seed)) (ln list) fun r10 r11 r12 =>
  idx list r10 fun x16 =>
  Q x16 r11 r12

def spec_l1Cur_counts (c : L1Cur) (n : Int) (Q : (List Int) → Int → Int → Prop) : Prop :=
  Loop4 (fun (n3 : Int) (l : List Int) (atx : Int) (seed : Int) nx =>
  br (decide (n3 > 0)) (spec_l1Cur_pick ((L1Cur.mk c.Code atx seed)) 50 fun r14 r15 r16 =>
  spec_l1Cur_among ((L1Cur.mk c.Code r15 r16)) ([0, 1, 2, 5, r14]) fun r30 r31 r32 =>
  (ln l + ln ([r30])) * 8 ≤ 140737488355328 ∧ (
  nx (wr (n3 - 1)) (l ++ ([r30])) r31 r32)) <|
  jn (fun (k : (List Int) → Int → Int → Prop) => spec_l1Cur_pick ((L1Cur.mk c.Code atx seed)) 20 fun r81 r82 r83 =>
  br (r81 == 0) (spec_l1Cur_among ((L1Cur.mk c.Code r82 r83)) ([(-1), 1000000, 1000001]) fun r100 r101 r102 =>
  (ln l + ln ([r100])) * 8 ≤ 140737488355328 ∧ (
  k (l ++ ([r100])) r101 r102)) <|
  br (r81 == 1) (Loop3 (fun (l139 : List Int) (atx145 : Int) (seed146 : Int) nx161 =>
  spec_l1Cur_pick ((L1Cur.mk c.Code atx145 seed146)) 2 fun r162 r163 r164 =>
  br (decide ((ln l139) < (wr (100 + r162)))) ((ln l139 + ln ([1])) * 8 ≤ 140737488355328 ∧ (
  nx161 (l139 ++ ([1])) r163 r164)) <|
  k l139 r163 r164) l r82 r83) <|
  k l r82 r83) <|
  fun (l65 : List Int) (atx71 : Int) (seed72 : Int) =>
  Q l65 atx71 seed72) n ([]) c.At c.Seed

def spec_DrawDissimilarityOf (code : List B8) (Q : (List Int) → (List Int) → Prop) : Prop :=
  spec_l1Cur_pick ((L1Cur.mk code 0 0)) 5 fun r2 r3 r4 =>
  spec_l1Cur_counts ((L1Cur.mk code r3 r4)) (wr (1 + r2)) fun r11 r12 r13 =>
  spec_l1Cur_counts ((L1Cur.mk code r12 r13)) (wr (1 + r2)) fun r27 r28 r29 =>
  Q r11 r27

def spec_DrawCountShares (code : List B8) (Q : (List Int) → Prop) : Prop :=
  spec_l1Cur_pick ((L1Cur.mk code 0 0)) 6 fun r2 r3 r4 =>
  spec_l1Cur_counts ((L1Cur.mk code r3 r4)) r2 fun r11 r12 r13 =>
  Q r11

def spec_DrawGiniOf (code : List B8) (Q : (List Int) → Prop) : Prop :=
  spec_DrawCountShares code fun r1 =>
  Q r1

def spec_DrawQuotientOf (code : List B8) (Q : (List Int) → (List Int) → Int → Prop) : Prop :=
  spec_l1Cur_pick ((L1Cur.mk code 0 0)) 5 fun r2 r3 r4 =>
  spec_l1Cur_counts ((L1Cur.mk code r3 r4)) (wr (1 + r2)) fun r11 r12 r13 =>
  spec_l1Cur_counts ((L1Cur.mk code r12 r13)) (wr (1 + r2)) fun r27 r28 r29 =>
  spec_l1Cur_pick ((L1Cur.mk code r28 r29)) (wr ((wr (1 + r2)) + 2)) fun r44 r45 r46 =>
  Q r11 r27 (wr (r44 - 1))

def impl_SumFracs (l : List Frac) (Q : Frac → Bool → Prop) : Prop :=
  br (decide ((ln l) > 100)) (Q ((Frac.mk 0 0)) false) <|
  Loop3 (fun (x14 : Int) (num : Int) (den : Int) nx =>
  br (decide (x14 < (ln l))) (idx l x14 fun x27 =>
  impl_AddFrac ((Frac.mk num den)) ((Frac.mk x27.Num x27.Den)) fun r42 r43 =>
  br (!r43) (Q ((Frac.mk 0 0)) false) <|
  nx (wr (x14 + 1)) r42.Num r42.Den) <|
  Q ((Frac.mk num den)) true) 0 0 1

def laws_FnProfiles (code : List B8) (more : List B8) (Q : Bool → Prop) : Prop :=
  br (decide ((wr ((ln code) + (ln more))) > 1048576)) (Q true) <|
  spec_DrawDissimilarityOf code fun r7 r8 =>
  impl_DissimilarityOf r7 r8 fun r21 r22 =>
  spec_DissimilarityOf r7 r8 fun r31 r32 =>
  spec_DrawGiniOf more fun r47 =>
  impl_GiniOf r47 fun r60 r61 =>
  spec_GiniOf r47 fun r72 r73 =>
  impl_ConcentrationOf r47 fun r86 r87 =>
  spec_ConcentrationOf r47 fun r100 r101 =>
  spec_DrawQuotientOf more fun r114 r115 r116 =>
  impl_QuotientOf r114 r115 r116 fun r138 r139 =>
  spec_QuotientOf r114 r115 r116 fun r150 r151 =>
  jn (fun (k : Bool → Prop) => br (r22 != r32) (k true) <|
  br (!((r21.Num == r31.Num) && (r21.Den == r31.Den))) (k true) <|
  br (r61 != r73) (k true) <|
  br (!((r60.Num == r72.Num) && (r60.Den == r72.Den))) (k true) <|
  br (r87 != r101) (k true) <|
  br (!((r86.Num == r100.Num) && (r86.Den == r100.Den))) (k true) <|
  br (r139 != r151) (k true) <|
  k (!((r138.Num == r150.Num) && (r138.Den == r150.Den)))) <|
  fun (x166 : Bool) =>
  br (x166) (Q false) <|
  jn (fun (k233 : Prop) => br (r61) (impl_CountShares r47 fun r236 r237 =>
  impl_SumFracs r236 fun r251 r252 =>
  jn (fun (k265 : Bool → Prop) => br (!r237) (k265 true) <|
  br (r252) (br (!((r251.Num == 1) && (r251.Den == 1))) (k265 true) <|
  br (decide (r60.Num < 0)) (k265 true) <|
  k265 (decide (r60.Num ≥ r60.Den))) <|
  br (decide (r60.Num < 0)) (k265 true) <|
  k265 (decide (r60.Num ≥ r60.Den))) <|
  fun (x263 : Bool) =>
  br (x263) (Q false) <|
  k233) <|
  k233) <|
  br (!r22) (Q true) <|
  impl_DissimilarityOf r8 r7 fun r394 r395 =>
  jn (fun (k408 : Bool → Prop) => br (decide (r21.Num ≥ 0)) (br (decide (r21.Num ≤ r21.Den)) (br (r395) (k408 (((r394.Num == r21.Num) && (r394.Den == r21.Den)))) <|
  k408 false) <|
  k408 false) <|
  k408 false) <|
  fun (x406 : Bool) =>
  Q x406

end Go.Proofs.Ytbegmfmabcpofaa
