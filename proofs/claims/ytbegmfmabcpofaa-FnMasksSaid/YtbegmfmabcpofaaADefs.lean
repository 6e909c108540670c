/- What each Go function means: a definition over numbers and lists; Q: what is to hold of its results. -/
import Derived.Test.YtbegmfmabcpofaaLib
set_option linter.unusedVariables false
set_option autoImplicit false
namespace Go.Proofs.Ytbegmfmabcpofaa
open Go Go.RowKit Go.Gv

structure L1Cur where
  Code : List B8
  At : Int
  Seed : Int

def spec_l1In (n : Int) (lo : Int) (hi : Int) (Q : Bool → Prop) : Prop :=
  jn (fun (k : Bool → Prop) => br (decide (n ≥ lo)) (k (decide (n ≤ hi))) <|
  k false) <|
  fun (x : Bool) =>
  Q x

def spec_MaskCounts (m : Int) (n : Int) (Q : (List Int) → Bool → Prop) : Prop :=
  jn (fun (k : Bool → Prop) => spec_l1In m 2 20 fun r =>
  br (!r) (k true) <|
  spec_l1In n 1 3 fun r5 =>
  k (!r5)) <|
  fun (x : Bool) =>
  br (x) (Q ([]) false) <|
  (0 : Int) ≤ m ∧ 8 * m ≤ 140737488355328 ∧ (
  (0 : Int) ≤ 0 ∧ Int.toNat 0 < List.length (List.replicate (Int.toNat m) ((0 : Int))) ∧ (
  Loop2 (fun (n17 : Int) (counts : List Int) nx =>
  br (decide (n17 > 0)) ((0 : Int) ≤ m ∧ 8 * m ≤ 140737488355328 ∧ (
  Loop2 (fun (nextx : List Int) (x49 : Int) nx59 =>
  br (decide (x49 < (ln counts))) (idx counts x49 fun x61 =>
  Loop2 (fun (nextx69 : List Int) (x75 : Int) nx83 =>
  br (decide (x75 < m)) (m ≠ 0 ∧ (
  idx nextx69 (Int.tmod (wr (x49 + x75)) m) fun x85 =>
  (0 : Int) ≤ (Int.tmod (wr (x49 + x75)) m) ∧ Int.toNat (Int.tmod (wr (x49 + x75)) m) < List.length nextx69 ∧ (
  nx83 (List.set nextx69 (Int.toNat (Int.tmod (wr (x49 + x75)) m)) (wr (x85 + x61))) (wr (x75 + 1))))) <|
  nx59 nextx69 (wr (x49 + 1))) nextx 0) <|
  nx (wr (n17 - 1)) nextx) (List.replicate (Int.toNat m) ((0 : Int))) 0)) <|
  Q counts true) n (List.set (List.replicate (Int.toNat m) ((0 : Int))) (Int.toNat 0) 1)))

def impl_MaskCounts (m : Int) (n : Int) (Q : (List Int) → Bool → Prop) : Prop :=
  jn (fun (k : Bool → Prop) => br (decide (m < 2)) (k true) <|
  br (decide (m > 20)) (k true) <|
  br (decide (n < 1)) (k true) <|
  k (decide (n > 3))) <|
  fun (x : Bool) =>
  br (x) (Q ([]) false) <|
  Loop2 (fun (each : Int) (x4 : Int) nx =>
  br (decide (x4 < (wr (n - 1)))) (nx (wr (each * m)) (wr (x4 + 1))) <|
  (0 : Int) ≤ m ∧ 8 * m ≤ 140737488355328 ∧ (
  Loop2 (fun (out : List Int) (x15 : Int) nx23 =>
  br (decide (x15 < (ln (List.replicate (Int.toNat m) ((0 : Int)))))) ((0 : Int) ≤ x15 ∧ Int.toNat x15 < List.length out ∧ (
  nx23 (List.set out (Int.toNat x15) each) (wr (x15 + 1)))) <|
  Q out true) (List.replicate (Int.toNat m) ((0 : Int))) 0)) 1 0

def laws_eqIntS (a : List Int) (b : List Int) (Q : Bool → Prop) : Prop :=
  br ((ln a) != (ln b)) (Q false) <|
  Loop1 (fun (i : Int) nx =>
  br (decide (i < (ln a))) (idx a i fun x =>
  idx b i fun x17 =>
  br (x != x17) (Q false) <|
  nx (wr (i + 1))) <|
  Q true) 0

def laws_markIntS (a : List Int) (k : Int) (Q : Int → (List Int) → Prop) : Prop :=
  Loop3 (fun (a2 : List Int) (k6 : Int) (i : Int) nx =>
  br (decide (i < (ln a))) ((0 : Int) ≤ i ∧ Int.toNat i < List.length a2 ∧ (
  nx (List.set a2 (Int.toNat i) k6) (wr (k6 + 1)) (wr (i + 1)))) <|
  Q k6 a2) a k 0

def laws_heldIntS (a : List Int) (k : Int) (Q : Int → Prop) : Prop :=
  Loop2 (fun (k2 : Int) (i : Int) nx =>
  br (decide (i < (ln a))) (idx a i fun x =>
  br (x != k2) (Q ((-1))) <|
  nx (wr (k2 + 1)) (wr (i + 1))) <|
  Q k2) k 0

def laws_FnExactMaskCounts (aM : Int) (aN : Int) (Q : Bool → Prop) : Prop :=
  spec_MaskCounts aM aN fun r r1 =>
  impl_MaskCounts aM aN fun r2 r3 =>
  jn (fun (k : Bool → Prop) => laws_eqIntS r2 r fun r18 =>
  br (!r18) (k true) <|
  k (r3 != r1)) <|
  fun (x13 : Bool) =>
  br (x13) (Q false) <|
  laws_markIntS r2 1 fun r29 r30 =>
  laws_heldIntS r30 1 fun r38 =>
  br (decide (r38 < 0)) (Q false) <|
  br (r38 != r29) (Q false) <|
  impl_MaskCounts aM aN fun r49 r50 =>
  jn (fun (k64 : Bool → Prop) => laws_eqIntS r49 r fun r66 =>
  br (!r66) (k64 true) <|
  k64 (r50 != r1)) <|
  fun (x60 : Bool) =>
  br (x60) (Q false) <|
  laws_heldIntS r30 1 fun r80 =>
  br (decide (r80 < 0)) (Q false) <|
  br (r80 != r29) (Q false) <|
  Q true

def laws_toIntS (a : List Int) (Q : (List Int) → Prop) : Prop :=
  (0 : Int) ≤ (ln a) ∧ 8 * (ln a) ≤ 140737488355328 ∧ (
  Loop2 (fun (out : List Int) (i : Int) nx =>
  br (decide (i < (ln a))) (idx a i fun x18 =>
  (0 : Int) ≤ i ∧ Int.toNat i < List.length out ∧ (
  nx (List.set out (Int.toNat i) x18) (wr (i + 1)))) <|
  Q out) (List.replicate (Int.toNat (ln a)) ((0 : Int))) 0)

def spec_zeModulus (m : Int) (Q : Bool → Prop) : Prop :=
  spec_l1In m 2 1000000007 fun r =>
  Q r

def spec_l1All (l : List Int) (lo : Int) (hi : Int) (Q : Bool → Prop) : Prop :=
  Loop1 (fun (x : Int) nx =>
  br (decide (x < (ln l))) (idx l x fun x3 =>
  spec_l1In x3 lo hi fun r10 =>
  br (!r10) (Q false) <|
  nx (wr (x + 1))) <|
  Q true) 0

def spec_zeValues (m : Int) (l : List Int) (Q : Bool → Prop) : Prop :=
  jn (fun (k : Bool → Prop) => br (decide ((ln l) ≤ 600)) (spec_l1All l 0 (wr (m - 1)) fun r2 =>
  k r2) <|
  k false) <|
  fun (x : Bool) =>
  Q x

def spec_SignedValues (m : Int) (l : List Int) (Q : (List Int) → Bool → Prop) : Prop :=
  jn (fun (k : Bool → Prop) => spec_zeModulus m fun r3 =>
  br (!r3) (k true) <|
  spec_zeValues m l fun r8 =>
  k (!r8)) <|
  fun (x : Bool) =>
  br (x) (Q ([]) false) <|
  Loop2 (fun (out : List Int) (x18 : Int) nx =>
  br (decide (x18 < (ln l))) (idx l x18 fun x26 =>
  jn (fun (k35 : Int → Prop) => br (decide ((wr (2 * x26)) > m)) (k35 (wr (x26 - m))) <|
  k35 x26) <|
  fun (x33 : Int) =>
  (ln out + ln ([x33])) * 8 ≤ 140737488355328 ∧ (
  nx (out ++ ([x33])) (wr (x18 + 1)))) <|
  Q out true) ([]) 0

def impl_isModulus (m : Int) (Q : Bool → Prop) : Prop :=
  jn (fun (k : Bool → Prop) => br (decide (m ≥ 2)) (k (decide (m ≤ 1000000007))) <|
  k false) <|
  fun (x : Bool) =>
  Q x

def impl_areWithin (l : List Int) (lo : Int) (hi : Int) (Q : Bool → Prop) : Prop :=
  Loop1 (fun (x : Int) nx =>
  br (decide (x < (ln l))) (idx l x fun x1 =>
  jn (fun (k : Bool → Prop) => br (decide (x1 < lo)) (k true) <|
  k (decide (x1 > hi))) <|
  fun (x8 : Bool) =>
  br (x8) (Q false) <|
  nx (wr (x + 1))) <|
  Q true) 0

def impl_areResidues (values : List Int) (m : Int) (Q : Bool → Prop) : Prop :=
  jn (fun (k : Bool → Prop) => br (decide ((ln values) ≤ 600)) (impl_areWithin values 0 (wr (m - 1)) fun r2 =>
  k r2) <|
  k false) <|
  fun (x : Bool) =>
  Q x

def impl_SignedValues (m : Int) (l : List Int) (Q : (List Int) → Bool → Prop) : Prop :=
  jn (fun (k : Bool → Prop) => impl_isModulus m fun r3 =>
  br (!r3) (k true) <|
  impl_areResidues l m fun r8 =>
  k (!r8)) <|
  fun (x : Bool) =>
  br (x) (Q ([]) false) <|
  (0 : Int) ≤ (ln l) ∧ 8 * (ln l) ≤ 140737488355328 ∧ (
  Loop2 (fun (out : List Int) (x27 : Int) nx =>
  br (decide (x27 < (ln l))) (idx l x27 fun x36 =>
  jn (fun (k45 : Int → Prop) => br (decide ((wr (2 * x36)) > m)) (k45 (wr (x36 - m))) <|
  k45 x36) <|
  fun (x43 : Int) =>
  (0 : Int) ≤ x27 ∧ Int.toNat x27 < List.length out ∧ (
  nx (List.set out (Int.toNat x27) x43) (wr (x27 + 1)))) <|
  Q out true) (List.replicate (Int.toNat (ln l)) ((0 : Int))) 0)

def laws_FnExactSignedValues (aM : Int) (aL : List Int) (Q : Bool → Prop) : Prop :=
  br (decide ((ln aL) > 1048576)) (Q true) <|
  laws_toIntS aL fun r1 =>
  spec_SignedValues aM r1 fun r7 r8 =>
  laws_toIntS aL fun r18 =>
  impl_SignedValues aM r18 fun r29 r30 =>
  jn (fun (k : Bool → Prop) => laws_eqIntS r29 r7 fun r47 =>
  br (!r47) (k true) <|
  k (r30 != r8)) <|
  fun (x40 : Bool) =>
  br (x40) (Q false) <|
  laws_toIntS aL fun r63 =>
  laws_eqIntS r18 r63 fun r73 =>
  br (!r73) (Q false) <|
  laws_markIntS r18 1 fun r79 r80 =>
  jn (fun (k95 : Bool → Prop) => br (decide (r79 < 0)) (k95 true) <|
  laws_eqIntS r29 r7 fun r104 =>
  br (!r104) (k95 true) <|
  k95 (r30 != r8)) <|
  fun (x89 : Bool) =>
  br (x89) (Q false) <|
  laws_markIntS r29 1 fun r123 r124 =>
  laws_heldIntS r124 1 fun r134 =>
  br (decide (r134 < 0)) (Q false) <|
  br (r134 != r123) (Q false) <|
  laws_toIntS aL fun r145 =>
  impl_SignedValues aM r145 fun r157 r158 =>
  jn (fun (k172 : Bool → Prop) => laws_eqIntS r157 r7 fun r174 =>
  br (!r174) (k172 true) <|
  k172 (r158 != r8)) <|
  fun (x168 : Bool) =>
  br (x168) (Q false) <|
  laws_heldIntS r124 1 fun r189 =>
  br (decide (r189 < 0)) (Q false) <|
  br (r189 != r123) (Q false) <|
  Q true

def spec_hDigest (l : List Int) (Q : Bool → Prop) : Prop :=
  spec_l1All l 0 4611686016279904236 fun r1 =>
  Q r1

def spec_zeRound (round : Int) (n : Int) (m : Int) (Q : Bool → Prop) : Prop :=
  jn (fun (k : Bool → Prop) => spec_l1In round 0 1000000 fun r =>
  br (r) (spec_l1In n 0 600 fun r4 =>
  br (r4) (spec_zeModulus m fun r8 =>
  k r8) <|
  k false) <|
  k false) <|
  fun (x : Bool) =>
  Q x

def spec_hMod (x : Int) (m : Int) (Q : Int → Prop) : Prop :=
  m ≠ 0 ∧ (
  m ≠ 0 ∧ (
  Q (Int.tmod (wr ((Int.tmod x m) + m)) m)))

def spec_hInts (l : List Int) (Q : Int → Prop) : Prop :=
  Loop3 (fun (a1 : Int) (b : Int) (i : Int) nx =>
  br (decide (i < (wr ((ln l) + 4)))) (jn (fun (k : Int → Prop) => br (decide (i < (ln l))) (idx l i fun x6 =>
  k x6) <|
  k 0) <|
  fun (x : Int) =>
  spec_hMod x 2147483647 fun r12 =>
  spec_hMod x 2147483629 fun r15 =>
  nx (Int.tmod (wr ((wr ((wr (48271 * a1)) + r12)) + 1)) 2147483647) (Int.tmod (wr ((wr ((wr (69621 * b)) + r15)) + (Int.tmod (wr ((wr ((wr (48271 * a1)) + r12)) + 1)) 2147483647))) 2147483629) (wr (i + 1))) <|
  Q (wr ((wr (a1 * 2 ^ 31)) + b))) (ln l) 1 0

def spec_zeMask (seed : Int) (i : Int) (k : Int) (round : Int) (n : Int) (m : Int) (Q : (List Int) → Prop) : Prop :=
  Loop2 (fun (out : List Int) (j : Int) nx =>
  br (decide (j < n)) (spec_hInts ([5, seed, i, k, round, j]) fun r =>
  m ≠ 0 ∧ (
  (ln out + ln ([Int.tmod r m])) * 8 ≤ 140737488355328 ∧ (
  nx (out ++ ([Int.tmod r m])) (wr (j + 1))))) <|
  Q out) ([]) 0

def spec_PairMask (seed : Int) (i : Int) (k : Int) (round : Int) (n : Int) (m : Int) (Q : (List Int) → Bool → Prop) : Prop :=
  jn (fun (k2 : Bool → Prop) => spec_hDigest ([seed]) fun r =>
  br (!r) (k2 true) <|
  spec_l1In i 0 6 fun r8 =>
  br (!r8) (k2 true) <|
  spec_l1In k (wr (i + 1)) 7 fun r13 =>
  br (!r13) (k2 true) <|
  spec_zeRound round n m fun r18 =>
  k2 (!r18)) <|
  fun (x : Bool) =>
  br (x) (Q ([]) false) <|
  spec_zeMask seed i k round n m fun r23 =>
  Q r23 true

def impl_isSeed (n : Int) (Q : Bool → Prop) : Prop :=
  jn (fun (k : Bool → Prop) => br (decide (n ≥ 0)) (k (decide (n ≤ 4611686016279904236))) <|
  k false) <|
  fun (x : Bool) =>
  Q x

def impl_isRound (round : Int) (Q : Bool → Prop) : Prop :=
  jn (fun (k : Bool → Prop) => br (decide (round ≥ 0)) (k (decide (round ≤ 1000000))) <|
  k false) <|
  fun (x : Bool) =>
  Q x

def impl_isLength (n : Int) (Q : Bool → Prop) : Prop :=
  jn (fun (k : Bool → Prop) => br (decide (n ≥ 0)) (k (decide (n ≤ 600))) <|
  k false) <|
  fun (x : Bool) =>
  Q x

def impl_step (factor : Int) (n : Int) (x : Int) (more : Int) (p : Int) (Q : Int → Prop) : Prop :=
  p ≠ 0 ∧ (
  jn (fun (k : Int → Prop) => br (decide ((Int.tmod x p) < 0)) (k (wr ((Int.tmod x p) + p))) <|
  k (Int.tmod x p)) <|
  fun (x1 : Int) =>
  p ≠ 0 ∧ (
  Q (Int.tmod (wr ((wr ((wr (factor * n)) + x1)) + more)) p)))

def impl_digest (l : List Int) (Q : Int → Prop) : Prop :=
  Loop3 (fun (a1 : Int) (b : Int) (x : Int) nx =>
  br (decide (x < (wr ((ln l) + 4)))) (jn (fun (k : Int → Prop) => br (decide (x < (ln l))) (idx l x fun x7 =>
  k x7) <|
  k 0) <|
  fun (x4 : Int) =>
  impl_step 48271 a1 x4 1 2147483647 fun r13 =>
  impl_step 69621 b x4 (Int.tmod r13 2147483629) 2147483629 fun r16 =>
  nx r13 r16 (wr (x + 1))) <|
  Q (wr ((wr (a1 * 2 ^ 31)) + b))) (Int.tmod (ln l) 2147483647) 1 0

def impl_pairMask (seed : Int) (i : Int) (k : Int) (round : Int) (n : Int) (m : Int) (Q : (List Int) → Prop) : Prop :=
  (0 : Int) ≤ n ∧ 8 * n ≤ 140737488355328 ∧ (
  Loop2 (fun (out : List Int) (x6 : Int) nx =>
  br (decide (x6 < (ln (List.replicate (Int.toNat n) ((0 : Int)))))) (impl_digest ([5, seed, i, k, round, x6]) fun r =>
  m ≠ 0 ∧ (
  (0 : Int) ≤ x6 ∧ Int.toNat x6 < List.length out ∧ (
  nx (List.set out (Int.toNat x6) (Int.tmod r m)) (wr (x6 + 1))))) <|
  Q out) (List.replicate (Int.toNat n) ((0 : Int))) 0)

def impl_PairMask (seed : Int) (i : Int) (k : Int) (round : Int) (n : Int) (m : Int) (Q : (List Int) → Bool → Prop) : Prop :=
  jn (fun (k2 : Bool → Prop) => impl_isSeed seed fun r =>
  br (!r) (k2 true) <|
  br (decide (i < 0)) (k2 true) <|
  br (decide (i ≥ k)) (k2 true) <|
  br (decide (k ≥ 8)) (k2 true) <|
  impl_isRound round fun r12 =>
  br (!r12) (k2 true) <|
  impl_isLength n fun r17 =>
  br (!r17) (k2 true) <|
  impl_isModulus m fun r22 =>
  k2 (!r22)) <|
  fun (x : Bool) =>
  br (x) (Q ([]) false) <|
  impl_pairMask seed i k round n m fun r27 =>
  Q r27 true

def laws_FnExactPairMask (aSeed : Int) (aI : Int) (aK : Int) (aRound : Int) (aN : Int) (aM : Int) (Q : Bool → Prop) : Prop :=
  spec_PairMask aSeed aI aK aRound aN aM fun r r1 =>
  impl_PairMask aSeed aI aK aRound aN aM fun r2 r3 =>
  jn (fun (k : Bool → Prop) => laws_eqIntS r2 r fun r18 =>
  br (!r18) (k true) <|
  k (r3 != r1)) <|
  fun (x13 : Bool) =>
  br (x13) (Q false) <|
  laws_markIntS r2 1 fun r29 r30 =>
  laws_heldIntS r30 1 fun r38 =>
  br (decide (r38 < 0)) (Q false) <|
  br (r38 != r29) (Q false) <|
  impl_PairMask aSeed aI aK aRound aN aM fun r49 r50 =>
  jn (fun (k64 : Bool → Prop) => laws_eqIntS r49 r fun r66 =>
  br (!r66) (k64 true) <|
  k64 (r50 != r1)) <|
  fun (x60 : Bool) =>
  br (x60) (Q false) <|
  laws_heldIntS r30 1 fun r80 =>
  br (decide (r80 < 0)) (Q false) <|
  br (r80 != r29) (Q false) <|
  Q true

def laws_szIntS (a : List Int) (left : Int) (Q : Int → Prop) : Prop :=
  br (decide ((wr (left - (ln a))) < 0)) (Q ((-1))) <|
  Q (wr (left - (ln a)))

def laws_szIntSS (a : List (List Int)) (left : Int) (Q : Int → Prop) : Prop :=
  br (decide ((wr (left - (ln a))) < 0)) (Q ((-1))) <|
  Loop2 (fun (left2 : Int) (i : Int) nx =>
  br (decide (i < (ln a))) (idx a i fun x =>
  laws_szIntS x left2 fun r14 =>
  br (decide (r14 < 0)) (Q ((-1))) <|
  nx r14 (wr (i + 1))) <|
  Q left2) (wr (left - (ln a))) 0

def laws_toIntSS (a : List (List Int)) (Q : (List (List Int)) → Prop) : Prop :=
  (0 : Int) ≤ (ln a) ∧ 24 * (ln a) ≤ 140737488355328 ∧ (
  Loop2 (fun (out : List (List Int)) (i : Int) nx =>
  br (decide (i < (ln a))) (idx a i fun x18 =>
  laws_toIntS x18 fun r28 =>
  (0 : Int) ≤ i ∧ Int.toNat i < List.length out ∧ (
  nx (List.set out (Int.toNat i) r28) (wr (i + 1)))) <|
  Q out) (List.replicate (Int.toNat (ln a)) (([] : List Int))) 0)

def spec_zeShares (m : Int) (shares : List (List Int)) (Q : Bool → Prop) : Prop :=
  Loop1 (fun (x : Int) nx =>
  br (decide (x < (ln shares))) (idx shares x fun x4 =>
  jn (fun (k : Bool → Prop) => idx shares 0 fun x17 =>
  br ((ln x4) != (ln x17)) (k true) <|
  spec_zeValues m x4 fun r30 =>
  k (!r30)) <|
  fun (x13 : Bool) =>
  br (x13) (Q false) <|
  nx (wr (x + 1))) <|
  jn (fun (k39 : Bool → Prop) => spec_zeModulus m fun r41 =>
  br (r41) (spec_l1In (ln shares) 1 8 fun r45 =>
  k39 r45) <|
  k39 false) <|
  fun (x36 : Bool) =>
  Q x36) 0

def spec_zeAdd (a : List Int) (b : List Int) (sign : Int) (m : Int) (Q : (List Int) → Prop) : Prop :=
  (0 : Int) ≤ (ln a) ∧ 8 * (ln a) ≤ 140737488355328 ∧ (
  Loop2 (fun (out : List Int) (x18 : Int) nx =>
  br (decide (x18 < (ln a))) (idx a x18 fun x31 =>
  idx b x18 fun x41 =>
  det1 (spec_hMod (wr (x31 + (wr (sign * x41)))) m) fun r53 =>
  (0 : Int) ≤ x18 ∧ Int.toNat x18 < List.length out ∧ (
  nx (List.set out (Int.toNat x18) r53) (wr (x18 + 1)))) <|
  Q out) (List.replicate (Int.toNat (ln a)) ((0 : Int))) 0)

def spec_zeSum (m : Int) (shares : List (List Int)) (Q : (List Int) → Prop) : Prop :=
  idx shares 0 fun x =>
  (0 : Int) ≤ (ln x) ∧ 8 * (ln x) ≤ 140737488355328 ∧ (
  Loop2 (fun (out : List Int) (x20 : Int) nx =>
  br (decide (x20 < (ln shares))) (idx shares x20 fun x31 =>
  spec_zeAdd out x31 1 m fun r43 =>
  nx r43 (wr (x20 + 1))) <|
  Q out) (List.replicate (Int.toNat (ln x)) ((0 : Int))) 0)

def spec_SumOfShares (m : Int) (shares : List (List Int)) (Q : (List Int) → Bool → Prop) : Prop :=
  spec_zeShares m shares fun r1 =>
  br (!r1) (Q ([]) false) <|
  spec_zeSum m shares fun r3 =>
  Q r3 true

def impl_areShares (m : Int) (shares : List (List Int)) (Q : Bool → Prop) : Prop :=
  jn (fun (k : Bool → Prop) => impl_isModulus m fun r3 =>
  br (!r3) (k true) <|
  br (decide ((ln shares) < 1)) (k true) <|
  k (decide ((ln shares) > 8))) <|
  fun (x : Bool) =>
  br (x) (Q false) <|
  Loop1 (fun (x14 : Int) nx =>
  br (decide (x14 < (ln shares))) (idx shares x14 fun x20 =>
  jn (fun (k33 : Bool → Prop) => idx shares 0 fun x35 =>
  br ((ln x20) != (ln x35)) (k33 true) <|
  impl_areResidues x20 m fun r48 =>
  k33 (!r48)) <|
  fun (x29 : Bool) =>
  br (x29) (Q false) <|
  nx (wr (x14 + 1))) <|
  Q true) 0

def impl_combine (sum : List Int) (l : List Int) (sign : Int) (m : Int) (Q : (List Int) → Prop) : Prop :=
  Loop2 (fun (sum7 : List Int) (x : Int) nx =>
  br (decide (x < (ln l))) (idx l x fun x15 =>
  idx sum7 x fun x22 =>
  m ≠ 0 ∧ (
  (0 : Int) ≤ x ∧ Int.toNat x < List.length sum7 ∧ (
  nx (List.set sum7 (Int.toNat x) (Int.tmod (wr ((wr (x22 + (wr (sign * x15)))) + m)) m)) (wr (x + 1))))) <|
  Q sum7) sum 0

def impl_sumOfShares (m : Int) (shares : List (List Int)) (Q : (List Int) → Prop) : Prop :=
  idx shares 0 fun x =>
  (0 : Int) ≤ (ln x) ∧ 8 * (ln x) ≤ 140737488355328 ∧ (
  Loop2 (fun (out : List Int) (x20 : Int) nx =>
  br (decide (x20 < (ln shares))) (idx shares x20 fun x29 =>
  impl_combine out x29 1 m fun r41 =>
  nx r41 (wr (x20 + 1))) <|
  Q out) (List.replicate (Int.toNat (ln x)) ((0 : Int))) 0)

def impl_SumOfShares (m : Int) (shares : List (List Int)) (Q : (List Int) → Bool → Prop) : Prop :=
  impl_areShares m shares fun r1 =>
  br (!r1) (Q ([]) false) <|
  impl_sumOfShares m shares fun r3 =>
  Q r3 true

def laws_eqIntSS (a : List (List Int)) (b : List (List Int)) (Q : Bool → Prop) : Prop :=
  br ((ln a) != (ln b)) (Q false) <|
  Loop1 (fun (i : Int) nx =>
  br (decide (i < (ln a))) (idx a i fun x =>
  idx b i fun x20 =>
  det1 (laws_eqIntS x x20) fun r32 =>
  br (!r32) (Q false) <|
  nx (wr (i + 1))) <|
  Q true) 0

def laws_markIntSS (a : List (List Int)) (k : Int) (Q : Int → (List (List Int)) → Prop) : Prop :=
  Loop3 (fun (a2 : List (List Int)) (k6 : Int) (i : Int) nx =>
  br (decide (i < (ln a))) (idx a2 i fun x =>
  laws_markIntS x k6 fun r17 r18 =>
  nx (List.set a2 (Int.toNat i) r18) r17 (wr (i + 1))) <|
  Q k6 a2) a k 0

def laws_FnExactSumOfShares (aM : Int) (aShares : List (List Int)) (Q : Bool → Prop) : Prop :=
  laws_szIntSS aShares 1048576 fun r1 =>
  br (decide (r1 < 0)) (Q true) <|
  laws_toIntSS aShares fun r3 =>
  spec_SumOfShares aM r3 fun r12 r13 =>
  laws_toIntSS aShares fun r23 =>
  impl_SumOfShares aM r23 fun r34 r35 =>
  jn (fun (k : Bool → Prop) => laws_eqIntS r34 r12 fun r52 =>
  br (!r52) (k true) <|
  k (r35 != r13)) <|
  fun (x45 : Bool) =>
  br (x45) (Q false) <|
  laws_toIntSS aShares fun r68 =>
  laws_eqIntSS r23 r68 fun r78 =>
  br (!r78) (Q false) <|
  laws_markIntSS r23 1 fun r84 r85 =>
  jn (fun (k100 : Bool → Prop) => br (decide (r84 < 0)) (k100 true) <|
  laws_eqIntS r34 r12 fun r109 =>
  br (!r109) (k100 true) <|
  k100 (r35 != r13)) <|
  fun (x94 : Bool) =>
  br (x94) (Q false) <|
  laws_markIntS r34 1 fun r128 r129 =>
  laws_heldIntS r129 1 fun r139 =>
  br (decide (r139 < 0)) (Q false) <|
  br (r139 != r128) (Q false) <|
  laws_toIntSS aShares fun r150 =>
  impl_SumOfShares aM r150 fun r162 r163 =>
  jn (fun (k177 : Bool → Prop) => laws_eqIntS r162 r12 fun r179 =>
  br (!r179) (k177 true) <|
  k177 (r163 != r13)) <|
  fun (x173 : Bool) =>
  br (x173) (Q false) <|
  laws_heldIntS r129 1 fun r194 =>
  br (decide (r194 < 0)) (Q false) <|
  br (r194 != r128) (Q false) <|
  Q true

def spec_zeSeeds (seeds : List (List Int)) (Q : Bool → Prop) : Prop :=
  spec_l1In (ln seeds) 2 8 fun r1 =>
  br (!r1) (Q false) <|
  Loop1 (fun (x3 : Int) nx =>
  br (decide (x3 < (ln seeds))) (idx seeds x3 fun x10 =>
  jn (fun (k : Bool → Prop) => br ((ln x10) != (ln seeds)) (k true) <|
  spec_hDigest x10 fun r24 =>
  k (!r24)) <|
  fun (x19 : Bool) =>
  br (x19) (Q false) <|
  Loop1 (fun (k30 : Int) nx37 =>
  br (decide (k30 < x3)) (idx x10 k30 fun x39 =>
  idx seeds k30 fun x48 =>
  idx x48 x3 fun x60 =>
  br (x39 != x60) (Q false) <|
  nx37 (wr (k30 + 1))) <|
  nx (wr (x3 + 1))) 0) <|
  Q true) 0

def spec_zeMaskOf (seeds : List (List Int)) (i : Int) (round : Int) (n : Int) (m : Int) (Q : (List Int) → Prop) : Prop :=
  (0 : Int) ≤ n ∧ 8 * n ≤ 140737488355328 ∧ (
  Loop2 (fun (out : List Int) (x11 : Int) nx =>
  br (decide (x11 < (ln seeds))) (jn (fun (k : (List Int) → Prop) => br (decide (x11 > i)) (idx seeds i fun x34 =>
  idx x34 x11 fun x44 =>
  spec_zeMask x44 i x11 round n m fun r53 =>
  spec_zeAdd out r53 1 m fun r63 =>
  k r63) <|
  br (decide (x11 < i)) (idx seeds i fun x80 =>
  idx x80 x11 fun x92 =>
  spec_zeMask x92 x11 i round n m fun r101 =>
  spec_zeAdd out r101 ((-1)) m fun r111 =>
  k r111) <|
  k out) <|
  fun (out21 : List Int) =>
  nx out21 (wr (x11 + 1))) <|
  Q out) (List.replicate (Int.toNat n) ((0 : Int))) 0)

def spec_MaskOf (seeds : List (List Int)) (i : Int) (round : Int) (n : Int) (m : Int) (Q : (List Int) → Bool → Prop) : Prop :=
  jn (fun (k : Bool → Prop) => spec_zeSeeds seeds fun r3 =>
  br (!r3) (k true) <|
  spec_l1In i 0 (wr ((ln seeds) - 1)) fun r8 =>
  br (!r8) (k true) <|
  spec_zeRound round n m fun r14 =>
  k (!r14)) <|
  fun (x : Bool) =>
  br (x) (Q ([]) false) <|
  spec_zeMaskOf seeds i round n m fun r20 =>
  Q r20 true

def impl_areSeeds (l : List Int) (Q : Bool → Prop) : Prop :=
  br (decide ((ln l) > 392)) (Q false) <|
  Loop1 (fun (x : Int) nx =>
  br (decide (x < (ln l))) (idx l x fun x4 =>
  impl_isSeed x4 fun r10 =>
  br (!r10) (Q false) <|
  nx (wr (x + 1))) <|
  Q true) 0

def impl_areSeedRows (seeds : List (List Int)) (Q : Bool → Prop) : Prop :=
  jn (fun (k : Bool → Prop) => br (decide ((ln seeds) < 2)) (k true) <|
  k (decide ((ln seeds) > 8))) <|
  fun (x : Bool) =>
  br (x) (Q false) <|
  Loop1 (fun (x2 : Int) nx =>
  br (decide (x2 < (ln seeds))) (idx seeds x2 fun x7 =>
  jn (fun (k20 : Bool → Prop) => br ((ln x7) != (ln seeds)) (k20 true) <|
  impl_areSeeds x7 fun r23 =>
  k20 (!r23)) <|
  fun (x16 : Bool) =>
  br (x16) (Q false) <|
  Loop1 (fun (x29 : Int) nx36 =>
  br (decide (x29 < x2)) (idx x7 x29 fun x38 =>
  idx seeds x29 fun x47 =>
  idx x47 x2 fun x59 =>
  br (x38 != x59) (Q false) <|
  nx36 (wr (x29 + 1))) <|
  nx (wr (x2 + 1))) 0) <|
  Q true) 0

def impl_maskOf (seeds : List (List Int)) (i : Int) (round : Int) (n : Int) (m : Int) (Q : (List Int) → Prop) : Prop :=
  (0 : Int) ≤ n ∧ 8 * n ≤ 140737488355328 ∧ (
  Loop2 (fun (out : List Int) (x11 : Int) nx =>
  br (decide (x11 < (ln seeds))) (jn (fun (k : (List Int) → Prop) => br (decide (x11 > i)) (idx seeds i fun x30 =>
  idx x30 x11 fun x40 =>
  impl_pairMask x40 i x11 round n m fun r49 =>
  impl_combine out r49 1 m fun r59 =>
  k r59) <|
  br (decide (x11 < i)) (idx seeds i fun x74 =>
  idx x74 x11 fun x86 =>
  impl_pairMask x86 x11 i round n m fun r95 =>
  impl_combine out r95 ((-1)) m fun r105 =>
  k r105) <|
  k out) <|
  fun (out19 : List Int) =>
  nx out19 (wr (x11 + 1))) <|
  Q out) (List.replicate (Int.toNat n) ((0 : Int))) 0)

def impl_MaskOf (seeds : List (List Int)) (i : Int) (round : Int) (n : Int) (m : Int) (Q : (List Int) → Bool → Prop) : Prop :=
  jn (fun (k : Bool → Prop) => impl_areSeedRows seeds fun r3 =>
  br (!r3) (k true) <|
  br (decide (i < 0)) (k true) <|
  br (decide (i ≥ (ln seeds))) (k true) <|
  impl_isRound round fun r14 =>
  br (!r14) (k true) <|
  impl_isLength n fun r20 =>
  br (!r20) (k true) <|
  impl_isModulus m fun r26 =>
  k (!r26)) <|
  fun (x : Bool) =>
  br (x) (Q ([]) false) <|
  impl_maskOf seeds i round n m fun r32 =>
  Q r32 true

def laws_FnExactMaskOf (aSeeds : List (List Int)) (aI : Int) (aRound : Int) (aN : Int) (aM : Int) (Q : Bool → Prop) : Prop :=
  laws_szIntSS aSeeds 1048576 fun r1 =>
  br (decide (r1 < 0)) (Q true) <|
  laws_toIntSS aSeeds fun r3 =>
  spec_MaskOf r3 aI aRound aN aM fun r12 r13 =>
  laws_toIntSS aSeeds fun r23 =>
  impl_MaskOf r23 aI aRound aN aM fun r34 r35 =>
  jn (fun (k : Bool → Prop) => laws_eqIntS r34 r12 fun r52 =>
  br (!r52) (k true) <|
  k (r35 != r13)) <|
  fun (x45 : Bool) =>
  br (x45) (Q false) <|
  laws_toIntSS aSeeds fun r68 =>
  laws_eqIntSS r23 r68 fun r78 =>
  br (!r78) (Q false) <|
  laws_markIntSS r23 1 fun r84 r85 =>
  jn (fun (k100 : Bool → Prop) => br (decide (r84 < 0)) (k100 true) <|
  laws_eqIntS r34 r12 fun r109 =>
  br (!r109) (k100 true) <|
  k100 (r35 != r13)) <|
  fun (x94 : Bool) =>
  br (x94) (Q false) <|
  laws_markIntS r34 1 fun r128 r129 =>
  laws_heldIntS r129 1 fun r139 =>
  br (decide (r139 < 0)) (Q false) <|
  br (r139 != r128) (Q false) <|
  laws_toIntSS aSeeds fun r150 =>
  impl_MaskOf r150 aI aRound aN aM fun r162 r163 =>
  jn (fun (k177 : Bool → Prop) => laws_eqIntS r162 r12 fun r179 =>
  br (!r179) (k177 true) <|
  k177 (r163 != r13)) <|
  fun (x173 : Bool) =>
  br (x173) (Q false) <|
  laws_heldIntS r129 1 fun r194 =>
  br (decide (r194 < 0)) (Q false) <|
  br (r194 != r128) (Q false) <|
  Q true

def spec_zeShare (seeds : List (List Int)) (i : Int) (round : Int) (m : Int) (values : List Int) (Q : (List Int) → Prop) : Prop :=
  spec_zeMaskOf seeds i round (ln values) m fun r7 =>
  spec_zeAdd values r7 1 m fun r13 =>
  Q r13

def spec_ShareOf (seeds : List (List Int)) (i : Int) (round : Int) (m : Int) (values : List Int) (Q : (List Int) → Bool → Prop) : Prop :=
  jn (fun (k : Bool → Prop) => spec_zeSeeds seeds fun r10 =>
  br (!r10) (k true) <|
  spec_l1In i 0 (wr ((ln seeds) - 1)) fun r16 =>
  br (!r16) (k true) <|
  spec_zeRound round 0 m fun r23 =>
  br (!r23) (k true) <|
  spec_zeValues m values fun r30 =>
  k (!r30)) <|
  fun (x : Bool) =>
  br (x) (Q ([]) false) <|
  spec_zeShare seeds i round m values fun r38 =>
  Q r38 true

def impl_shareOf (seeds : List (List Int)) (i : Int) (round : Int) (m : Int) (values : List Int) (Q : (List Int) → Prop) : Prop :=
  impl_maskOf seeds i round (ln values) m fun r7 =>
  impl_combine r7 values 1 m fun r13 =>
  Q r13

def impl_ShareOf (seeds : List (List Int)) (i : Int) (round : Int) (m : Int) (values : List Int) (Q : (List Int) → Bool → Prop) : Prop :=
  jn (fun (k : Bool → Prop) => impl_areSeedRows seeds fun r10 =>
  br (!r10) (k true) <|
  br (decide (i < 0)) (k true) <|
  br (decide (i ≥ (ln seeds))) (k true) <|
  impl_isRound round fun r24 =>
  br (!r24) (k true) <|
  impl_isModulus m fun r31 =>
  br (!r31) (k true) <|
  impl_areResidues values m fun r38 =>
  k (!r38)) <|
  fun (x : Bool) =>
  br (x) (Q ([]) false) <|
  impl_shareOf seeds i round m values fun r46 =>
  Q r46 true

def laws_FnExactShareOf (aSeeds : List (List Int)) (aI : Int) (aRound : Int) (aM : Int) (aValues : List Int) (Q : Bool → Prop) : Prop :=
  br (decide ((ln aValues) > 1048576)) (Q true) <|
  laws_szIntSS aSeeds 1048576 fun r7 =>
  br (decide (r7 < 0)) (Q true) <|
  laws_toIntSS aSeeds fun r10 =>
  laws_toIntS aValues fun r19 =>
  spec_ShareOf r10 aI aRound aM r19 fun r30 r31 =>
  laws_toIntSS aSeeds fun r42 =>
  laws_toIntS aValues fun r53 =>
  impl_ShareOf r42 aI aRound aM r53 fun r64 r65 =>
  jn (fun (k : Bool → Prop) => laws_eqIntS r64 r30 fun r85 =>
  br (!r85) (k true) <|
  k (r65 != r31)) <|
  fun (x76 : Bool) =>
  br (x76) (Q false) <|
  laws_toIntSS aSeeds fun r105 =>
  laws_eqIntSS r42 r105 fun r115 =>
  br (!r115) (Q false) <|
  laws_toIntS aValues fun r121 =>
  laws_eqIntS r53 r121 fun r132 =>
  br (!r132) (Q false) <|
  laws_markIntSS r42 1 fun r138 r139 =>
  laws_markIntS r53 r138 fun r148 r149 =>
  jn (fun (k167 : Bool → Prop) => br (decide (r148 < 0)) (k167 true) <|
  laws_eqIntS r64 r30 fun r182 =>
  br (!r182) (k167 true) <|
  k167 (r65 != r31)) <|
  fun (x160 : Bool) =>
  br (x160) (Q false) <|
  laws_markIntS r64 1 fun r212 r213 =>
  laws_heldIntS r213 1 fun r223 =>
  br (decide (r223 < 0)) (Q false) <|
  br (r223 != r212) (Q false) <|
  laws_toIntSS aSeeds fun r234 =>
  laws_toIntS aValues fun r246 =>
  impl_ShareOf r234 aI aRound aM r246 fun r258 r259 =>
  jn (fun (k274 : Bool → Prop) => laws_eqIntS r258 r30 fun r276 =>
  br (!r276) (k274 true) <|
  k274 (r259 != r31)) <|
  fun (x270 : Bool) =>
  br (x270) (Q false) <|
  laws_heldIntS r213 1 fun r291 =>
  br (decide (r291 < 0)) (Q false) <|
  br (r291 != r212) (Q false) <|
  Q true

def spec_l1Rising (l : List Int) (lo : Int) (hi : Int) (Q : Bool → Prop) : Prop :=
  Loop1 (fun (x : Int) nx =>
  br (decide (x < (ln l))) (idx l x fun x3 =>
  jn (fun (k : Bool → Prop) => spec_l1In x3 lo hi fun r14 =>
  br (!r14) (k true) <|
  br (decide (x > 0)) (idx l (wr (x - 1)) fun x21 =>
  k (decide (x21 ≥ x3))) <|
  k false) <|
  fun (x10 : Bool) =>
  br (x10) (Q false) <|
  nx (wr (x + 1))) <|
  Q true) 0

def spec_zePresent (seeds : List (List Int)) (present : List Int) (Q : Bool → Prop) : Prop :=
  jn (fun (k : Bool → Prop) => spec_zeSeeds seeds fun r8 =>
  br (r8) (br (decide ((ln present) > 0)) (spec_l1Rising present 0 (wr ((ln seeds) - 1)) fun r12 =>
  k r12) <|
  k false) <|
  k false) <|
  fun (x : Bool) =>
  Q x

def spec_zeRepair (seeds : List (List Int)) (present : List Int) (round : Int) (n : Int) (m : Int) (Q : (List Int) → Prop) : Prop :=
  (0 : Int) ≤ n ∧ 8 * n ≤ 140737488355328 ∧ (
  Loop2 (fun (out : List Int) (x17 : Int) nx =>
  br (decide (x17 < (ln present))) (idx present x17 fun x30 =>
  spec_zeMaskOf seeds x30 round n m fun r37 =>
  spec_zeAdd out r37 1 m fun r47 =>
  nx r47 (wr (x17 + 1))) <|
  Q out) (List.replicate (Int.toNat n) ((0 : Int))) 0)

def spec_MaskRepair (seeds : List (List Int)) (present : List Int) (round : Int) (n : Int) (m : Int) (Q : (List Int) → Bool → Prop) : Prop :=
  jn (fun (k : Bool → Prop) => spec_zePresent seeds present fun r10 =>
  br (!r10) (k true) <|
  spec_zeRound round n m fun r16 =>
  k (!r16)) <|
  fun (x : Bool) =>
  br (x) (Q ([]) false) <|
  spec_zeRepair seeds present round n m fun r23 =>
  Q r23 true

def impl_areIndices (l : List Int) (n : Int) (Q : Bool → Prop) : Prop :=
  Loop2 (fun (last : Int) (x : Int) nx =>
  br (decide (x < (ln l))) (idx l x fun x1 =>
  jn (fun (k : Bool → Prop) => br (decide (x1 ≤ last)) (k true) <|
  k (decide (x1 ≥ n))) <|
  fun (x7 : Bool) =>
  br (x7) (Q false) <|
  nx x1 (wr (x + 1))) <|
  Q true) ((-1)) 0

def impl_arePresent (seeds : List (List Int)) (present : List Int) (Q : Bool → Prop) : Prop :=
  jn (fun (k : Bool → Prop) => br (decide ((ln present) > 0)) (impl_areIndices present (ln seeds) fun r8 =>
  k r8) <|
  k false) <|
  fun (x : Bool) =>
  Q x

def impl_maskRepair (seeds : List (List Int)) (present : List Int) (round : Int) (n : Int) (m : Int) (Q : (List Int) → Prop) : Prop :=
  (0 : Int) ≤ n ∧ 8 * n ≤ 140737488355328 ∧ (
  Loop2 (fun (out : List Int) (x17 : Int) nx =>
  br (decide (x17 < (ln present))) (idx present x17 fun x28 =>
  impl_maskOf seeds x28 round n m fun r35 =>
  impl_combine out r35 1 m fun r45 =>
  nx r45 (wr (x17 + 1))) <|
  Q out) (List.replicate (Int.toNat n) ((0 : Int))) 0)

def impl_MaskRepair (seeds : List (List Int)) (present : List Int) (round : Int) (n : Int) (m : Int) (Q : (List Int) → Bool → Prop) : Prop :=
  jn (fun (k : Bool → Prop) => impl_areSeedRows seeds fun r10 =>
  br (!r10) (k true) <|
  impl_arePresent seeds present fun r16 =>
  br (!r16) (k true) <|
  impl_isRound round fun r25 =>
  br (!r25) (k true) <|
  impl_isLength n fun r32 =>
  br (!r32) (k true) <|
  impl_isModulus m fun r39 =>
  k (!r39)) <|
  fun (x : Bool) =>
  br (x) (Q ([]) false) <|
  impl_maskRepair seeds present round n m fun r46 =>
  Q r46 true

def laws_FnExactMaskRepair (aSeeds : List (List Int)) (aPresent : List Int) (aRound : Int) (aN : Int) (aM : Int) (Q : Bool → Prop) : Prop :=
  br (decide ((ln aPresent) > 1048576)) (Q true) <|
  laws_szIntSS aSeeds 1048576 fun r7 =>
  br (decide (r7 < 0)) (Q true) <|
  laws_toIntSS aSeeds fun r10 =>
  laws_toIntS aPresent fun r19 =>
  spec_MaskRepair r10 r19 aRound aN aM fun r30 r31 =>
  laws_toIntSS aSeeds fun r42 =>
  laws_toIntS aPresent fun r53 =>
  impl_MaskRepair r42 r53 aRound aN aM fun r64 r65 =>
  jn (fun (k : Bool → Prop) => laws_eqIntS r64 r30 fun r85 =>
  br (!r85) (k true) <|
  k (r65 != r31)) <|
  fun (x76 : Bool) =>
  br (x76) (Q false) <|
  laws_toIntSS aSeeds fun r105 =>
  laws_eqIntSS r42 r105 fun r115 =>
  br (!r115) (Q false) <|
  laws_toIntS aPresent fun r121 =>
  laws_eqIntS r53 r121 fun r132 =>
  br (!r132) (Q false) <|
  laws_markIntSS r42 1 fun r138 r139 =>
  laws_markIntS r53 r138 fun r148 r149 =>
  jn (fun (k167 : Bool → Prop) => br (decide (r148 < 0)) (k167 true) <|
  laws_eqIntS r64 r30 fun r182 =>
  br (!r182) (k167 true) <|
  k167 (r65 != r31)) <|
  fun (x160 : Bool) =>
  br (x160) (Q false) <|
  laws_markIntS r64 1 fun r212 r213 =>
  laws_heldIntS r213 1 fun r223 =>
  br (decide (r223 < 0)) (Q false) <|
  br (r223 != r212) (Q false) <|
  laws_toIntSS aSeeds fun r234 =>
  laws_toIntS aPresent fun r246 =>
  impl_MaskRepair r234 r246 aRound aN aM fun r258 r259 =>
  jn (fun (k274 : Bool → Prop) => laws_eqIntS r258 r30 fun r276 =>
  br (!r276) (k274 true) <|
  k274 (r259 != r31)) <|
  fun (x270 : Bool) =>
  br (x270) (Q false) <|
  laws_heldIntS r213 1 fun r291 =>
  br (decide (r291 < 0)) (Q false) <|
  br (r291 != r212) (Q false) <|
  Q true

def spec_SumPresent (seeds : List (List Int)) (present : List Int) (round : Int) (m : Int) (shares : List (List Int)) (Q : (List Int) → Bool → Prop) : Prop :=
  jn (fun (k : Bool → Prop) => spec_zePresent seeds present fun r17 =>
  br (!r17) (k true) <|
  spec_zeRound round 0 m fun r24 =>
  br (!r24) (k true) <|
  spec_zeShares m shares fun r32 =>
  br (!r32) (k true) <|
  k ((ln shares) != (ln present))) <|
  fun (x : Bool) =>
  br (x) (Q ([]) false) <|
  spec_zeSum m shares fun r46 =>
  spec_zeRepair seeds present round (ln r46) m fun r54 =>
  spec_zeAdd r46 r54 ((-1)) m fun r66 =>
  Q r66 true

def impl_SumPresent (seeds : List (List Int)) (present : List Int) (round : Int) (m : Int) (shares : List (List Int)) (Q : (List Int) → Bool → Prop) : Prop :=
  jn (fun (k : Bool → Prop) => impl_areSeedRows seeds fun r17 =>
  br (!r17) (k true) <|
  impl_arePresent seeds present fun r24 =>
  br (!r24) (k true) <|
  impl_isRound round fun r34 =>
  br (!r34) (k true) <|
  impl_areShares m shares fun r42 =>
  br (!r42) (k true) <|
  k ((ln shares) != (ln present))) <|
  fun (x : Bool) =>
  br (x) (Q ([]) false) <|
  impl_sumOfShares m shares fun r56 =>
  impl_maskRepair seeds present round (ln r56) m fun r64 =>
  impl_combine r56 r64 ((-1)) m fun r76 =>
  Q r76 true

def laws_FnExactSumPresent (aSeeds : List (List Int)) (aPresent : List Int) (aRound : Int) (aM : Int) (aShares : List (List Int)) (Q : Bool → Prop) : Prop :=
  br (decide ((ln aPresent) > 1048576)) (Q true) <|
  laws_szIntSS aSeeds 1048576 fun r13 =>
  br (decide (r13 < 0)) (Q true) <|
  laws_szIntSS aShares r13 fun r16 =>
  br (decide (r16 < 0)) (Q true) <|
  laws_toIntSS aSeeds fun r22 =>
  laws_toIntS aPresent fun r31 =>
  laws_toIntSS aShares fun r42 =>
  spec_SumPresent r22 r31 aRound aM r42 fun r53 r54 =>
  laws_toIntSS aSeeds fun r66 =>
  laws_toIntS aPresent fun r77 =>
  laws_toIntSS aShares fun r88 =>
  impl_SumPresent r66 r77 aRound aM r88 fun r99 r100 =>
  jn (fun (k : Bool → Prop) => laws_eqIntS r99 r53 fun r123 =>
  br (!r123) (k true) <|
  k (r100 != r54)) <|
  fun (x112 : Bool) =>
  br (x112) (Q false) <|
  laws_toIntSS aSeeds fun r147 =>
  laws_eqIntSS r66 r147 fun r157 =>
  br (!r157) (Q false) <|
  laws_toIntS aPresent fun r163 =>
  laws_eqIntS r77 r163 fun r174 =>
  br (!r174) (Q false) <|
  laws_toIntSS aShares fun r180 =>
  laws_eqIntSS r88 r180 fun r191 =>
  br (!r191) (Q false) <|
  laws_markIntSS r66 1 fun r197 r198 =>
  laws_markIntS r77 r197 fun r207 r208 =>
  laws_markIntSS r88 r207 fun r219 r220 =>
  jn (fun (k240 : Bool → Prop) => br (decide (r219 < 0)) (k240 true) <|
  laws_eqIntS r99 r53 fun r263 =>
  br (!r263) (k240 true) <|
  k240 (r100 != r54)) <|
  fun (x232 : Bool) =>
  br (x232) (Q false) <|
  laws_markIntS r99 1 fun r308 r309 =>
  laws_heldIntS r309 1 fun r319 =>
  br (decide (r319 < 0)) (Q false) <|
  br (r319 != r308) (Q false) <|
  laws_toIntSS aSeeds fun r330 =>
  laws_toIntS aPresent fun r342 =>
  laws_toIntSS aShares fun r354 =>
  impl_SumPresent r330 r342 aRound aM r354 fun r366 r367 =>
  jn (fun (k383 : Bool → Prop) => laws_eqIntS r366 r53 fun r385 =>
  br (!r385) (k383 true) <|
  k383 (r367 != r54)) <|
  fun (x379 : Bool) =>
  br (x379) (Q false) <|
  laws_heldIntS r309 1 fun r400 =>
  br (decide (r400 < 0)) (Q false) <|
  br (r400 != r308) (Q false) <|
  Q true

def laws_big (code : List B8) (more : List B8) (Q : Bool → Prop) : Prop :=
  jn (fun (k : Bool → Prop) => br (decide ((ln code) > 1048576)) (k true) <|
  k (decide ((ln more) > (wr (1048576 - (ln code)))))) <|
  fun (x : Bool) =>
  Q x

def spec_l1Cur_next (c : L1Cur) (Q : Int → Int → Int → Prop) : Prop :=
  jn (fun (k : Int → Prop) => br (decide (c.At < (ln c.Code))) (idx c.Code c.At fun x8 =>
  k (wr (x8.v))) <|
  k 0) <|
  fun (b3 : Int) =>
  br (decide ((wr (c.At + 1)) ≤ (ln c.Code))) (Q b3 (wr (c.At + 1)) (IntKind.u64.wrap ((IntKind.u64.wrap ((IntKind.u64.wrap (c.Seed * 6364136223846793005)) + (IntKind.u64.wrap (b3)))) + 1442695040888963407))) <|
  Q (wr (bits .and .u64 (Int.fdiv (IntKind.u64.wrap ((IntKind.u64.wrap ((IntKind.u64.wrap (c.Seed * 6364136223846793005)) + (IntKind.u64.wrap (b3)))) + 1442695040888963407)) (2 ^ 40)) 255)) (wr (c.At + 1)) (IntKind.u64.wrap ((IntKind.u64.wrap ((IntKind.u64.wrap (c.Seed * 6364136223846793005)) + (IntKind.u64.wrap (b3)))) + 1442695040888963407))

def spec_l1Cur_pick (c : L1Cur) (n : Int) (Q : Int → Int → Int → Prop) : Prop :=
  br (decide (n ≤ 1)) (Q 0 c.At c.Seed) <|
  spec_l1Cur_next ((L1Cur.mk c.Code c.At c.Seed)) fun r3 r4 r5 =>
  jn (fun (k : Int → Int → Int → Prop) => br (decide (n > 200)) (spec_l1Cur_next ((L1Cur.mk c.Code r4 r5)) fun r15 r16 r17 =>
  k (wr ((wr (r3 * 256)) + r15)) r16 r17) <|
  k r3 r4 r5) <|
  fun (x9 : Int) (atx : Int) (seed : Int) =>
  n ≠ 0 ∧ (
  Q (Int.tmod x9 n) atx seed)

def spec_l1Cur_among (c : L1Cur) (list : List Int) (Q : Int → Int → Int → Prop) : Prop :=
  spec_l1Cur_pick ((L1Cur.mk c.Code c.At c.Seed)) (ln list) fun r10 r11 r12 =>
  idx list r10 fun x16 =>
  Q x16 r11 r12

def spec_l1Cur_siteCount (c : L1Cur) (Q : Int → Int → Int → Prop) : Prop :=
  spec_l1Cur_among ((L1Cur.mk c.Code c.At c.Seed)) ([2, 2, 3, 4, 8, 9, 1]) fun r8 r9 r10 =>
  Q r8 r9 r10

def spec_l1Cur_seed0 (c : L1Cur) (Q : Int → Int → Int → Prop) : Prop :=
  spec_l1Cur_pick ((L1Cur.mk c.Code c.At c.Seed)) 12 fun r3 r4 r5 =>
  br (r3 == 0) (Q 0 r4 r5) <|
  br (r3 == 1) (spec_l1Cur_among ((L1Cur.mk c.Code r4 r5)) ([4611686016279904236, 123456789012]) fun r18 r19 r20 =>
  Q r18 r19 r20) <|
  spec_l1Cur_pick ((L1Cur.mk c.Code r4 r5)) 60000 fun r30 r31 r32 =>
  Q r30 r31 r32

def spec_l1Cur_pairSeeds (c : L1Cur) (n : Int) (Q : (List (List Int)) → Int → Int → Prop) : Prop :=
  (0 : Int) ≤ n ∧ 24 * n ≤ 140737488355328 ∧ (
  Loop4 (fun (out : List (List Int)) (x13 : Int) (atx : Int) (seed : Int) nx =>
  br (decide (x13 < (ln (List.replicate (Int.toNat n) (([] : List Int)))))) ((0 : Int) ≤ n ∧ 8 * n ≤ 140737488355328 ∧ (
  (0 : Int) ≤ x13 ∧ Int.toNat x13 < List.length out ∧ (
  Loop4 (fun (out42 : List (List Int)) (k : Int) (atx48 : Int) (seed49 : Int) nx64 =>
  br (decide (k < x13)) (idx out42 x13 fun x68 =>
  spec_l1Cur_seed0 ((L1Cur.mk c.Code atx48 seed49)) fun r85 r88 r89 =>
  (0 : Int) ≤ k ∧ Int.toNat k < List.length x68 ∧ (
  idx (List.set out42 (Int.toNat x13) (List.set x68 (Int.toNat k) r85)) k fun x112 =>
  idx (List.set out42 (Int.toNat x13) (List.set x68 (Int.toNat k) r85)) x13 fun x128 =>
  idx x128 k fun x141 =>
  (0 : Int) ≤ x13 ∧ Int.toNat x13 < List.length x112 ∧ (
  nx64 (List.set (List.set out42 (Int.toNat x13) (List.set x68 (Int.toNat k) r85)) (Int.toNat k) (List.set x112 (Int.toNat x13) x141)) (wr (k + 1)) r88 r89))) <|
  nx out42 (wr (x13 + 1)) atx48 seed49) (List.set out (Int.toNat x13) (List.replicate (Int.toNat n) ((0 : Int)))) 0 atx seed))) <|
  jn (fun (k197 : (List (List Int)) → Int → Int → Prop) => spec_l1Cur_pick ((L1Cur.mk c.Code atx seed)) 24 fun r198 r199 r200 =>
  br (r198 == 0) (br (decide (n > 1)) (idx out 1 fun x208 =>
  idx x208 0 fun x223 =>
  (0 : Int) ≤ 0 ∧ Int.toNat 0 < List.length x208 ∧ (
  k197 (List.set out (Int.toNat 1) (List.set x208 (Int.toNat 0) (wr (x223 + 1)))) r199 r200)) <|
  k197 out r199 r200) <|
  br (r198 == 1) ((0 : Int) ≤ 1 ∧ 1 ≤ ((List.length out : Int)) ∧ ((List.length out : Int)) ≤ ln out ∧ (
  Q (List.take (Int.toNat ((List.length out : Int)) - Int.toNat 1) (List.drop (Int.toNat 1) out)) r199 r200)) <|
  k197 out r199 r200) <|
  fun (out183 : List (List Int)) (atx189 : Int) (seed190 : Int) =>
  Q out183 atx189 seed190) (List.replicate (Int.toNat n) (([] : List Int))) 0 c.At c.Seed)

def spec_l1Cur_modulus (c : L1Cur) (Q : Int → Int → Int → Prop) : Prop :=
  spec_l1Cur_among ((L1Cur.mk c.Code c.At c.Seed)) ([2, 10, 10, 97, 1000, 1000000007, 1000000008, 1]) fun r8 r9 r10 =>
  Q r8 r9 r10

def spec_DrawMaskOf (code : List B8) (Q : (List (List Int)) → Int → Int → Int → Int → Prop) : Prop :=
  spec_l1Cur_siteCount ((L1Cur.mk code 0 0)) fun r2 r3 r4 =>
  spec_l1Cur_pairSeeds ((L1Cur.mk code r3 r4)) r2 fun r11 r12 r13 =>
  spec_l1Cur_pick ((L1Cur.mk code r12 r13)) (wr (r2 + 1)) fun r27 r28 r29 =>
  spec_l1Cur_among ((L1Cur.mk code r28 r29)) ([0, 1, 7, 1000000, 1000001]) fun r46 r47 r48 =>
  spec_l1Cur_pick ((L1Cur.mk code r47 r48)) 5 fun r57 r58 r59 =>
  spec_l1Cur_modulus ((L1Cur.mk code r58 r59)) fun r67 r68 r69 =>
  Q r11 r27 r46 r57 r67

def laws_sameInts (a : List Int) (b : List Int) (Q : Bool → Prop) : Prop :=
  br ((ln a) != (ln b)) (Q false) <|
  Loop1 (fun (x : Int) nx =>
  br (decide (x < (ln a))) (idx a x fun x12 =>
  idx b x fun x18 =>
  br (x12 != x18) (Q false) <|
  nx (wr (x + 1))) <|
  Q true) 0

def laws_pSum (l : List Int) (Q : Int → Prop) : Prop :=
  Loop2 (fun (sum : Int) (x : Int) nx =>
  br (decide (x < (ln l))) (idx l x fun x1 =>
  nx (wr (sum + x1)) (wr (x + 1))) <|
  Q sum) 0 0

def spec_l1Cur_one (c : L1Cur) (n : Int) (Q : Bool → Int → Int → Prop) : Prop :=
  spec_l1Cur_pick ((L1Cur.mk c.Code c.At c.Seed)) n fun r3 r4 r5 =>
  Q (r3 == 0) r4 r5

def spec_l1Cur_present (c : L1Cur) (n : Int) (Q : (List Int) → Int → Int → Prop) : Prop :=
  Loop4 (fun (out : List Int) (i : Int) (atx : Int) (seed : Int) nx =>
  br (decide (i < n)) (jn (fun (k : (List Int) → Int → Int → Prop) => spec_l1Cur_one ((L1Cur.mk c.Code atx seed)) 3 fun r29 r30 r31 =>
  br (!r29) ((ln out + ln ([i])) * 8 ≤ 140737488355328 ∧ (
  k (out ++ ([i])) r30 r31)) <|
  k out r30 r31) <|
  fun (out13 : List Int) (atx19 : Int) (seed20 : Int) =>
  nx out13 (wr (i + 1)) atx19 seed20) <|
  jn (fun (k80 : (List Int) → Int → Int → Prop) => spec_l1Cur_one ((L1Cur.mk c.Code atx seed)) 20 fun r82 r83 r84 =>
  br (r82) ((ln out + ln ([n])) * 8 ≤ 140737488355328 ∧ (
  k80 (out ++ ([n])) r83 r84)) <|
  k80 out r83 r84) <|
  fun (out64 : List Int) (atx70 : Int) (seed71 : Int) =>
  Q out64 atx70 seed71) ([]) 0 c.At c.Seed

def spec_DrawMaskRepair (code : List B8) (Q : (List (List Int)) → (List Int) → Int → Int → Int → Prop) : Prop :=
  spec_DrawMaskOf code fun r2 r3 r4 r5 r6 =>
  spec_l1Cur_present ((L1Cur.mk code 0 0)) (ln r2) fun r16 r17 r18 =>
  Q r2 r16 r4 r5 r6

def spec_l1Least (a : Int) (b : Int) (Q : Int → Prop) : Prop :=
  br (decide (a < b)) (Q a) <|
  Q b

def spec_l1Most (a : Int) (b : Int) (Q : Int → Prop) : Prop :=
  br (decide (a > b)) (Q a) <|
  Q b

def spec_l1Cur_valuesBelow (c : L1Cur) (m : Int) (n : Int) (Q : (List Int) → Int → Int → Prop) : Prop :=
  Loop4 (fun (n3 : Int) (l : List Int) (atx : Int) (seed : Int) nx =>
  br (decide (n3 > 0)) (spec_l1Least m 60000 fun r15 =>
  spec_l1Most 1 r15 fun r17 =>
  spec_l1Cur_pick ((L1Cur.mk c.Code atx seed)) r17 fun r20 r21 r22 =>
  (ln l + ln ([r20])) * 8 ≤ 140737488355328 ∧ (
  nx (wr (n3 - 1)) (l ++ ([r20])) r21 r22)) <|
  Q l atx seed) n ([]) c.At c.Seed

def spec_DrawSumPresent (code : List B8) (Q : (List (List Int)) → (List Int) → Int → Int → (List (List Int)) → Prop) : Prop :=
  spec_DrawMaskRepair code fun r2 r3 r4 r5 r6 =>
  Loop4 (fun (shares : List (List Int)) (x28 : Int) (atx : Int) (seed : Int) nx =>
  br (decide (x28 < (ln r3))) (spec_l1Cur_valuesBelow ((L1Cur.mk code atx seed)) r6 r5 fun r43 r44 r45 =>
  (ln shares + ln ([r43])) * 24 ≤ 140737488355328 ∧ (
  nx (shares ++ ([r43])) (wr (x28 + 1)) r44 r45)) <|
  jn (fun (k : (List (List Int)) → Prop) => spec_l1Cur_one ((L1Cur.mk code atx seed)) 16 fun r108 r109 r110 =>
  br (r108) (spec_l1Cur_valuesBelow ((L1Cur.mk code r109 r110)) r6 r5 fun r118 r119 r120 =>
  (ln shares + ln ([r118])) * 24 ≤ 140737488355328 ∧ (
  k (shares ++ ([r118])))) <|
  k shares) <|
  fun (shares94 : List (List Int)) =>
  Q r2 r3 r4 r6 shares94) ([]) 0 0 0

def spec_DrawMaskCounts (code : List B8) (Q : Int → Int → Prop) : Prop :=
  spec_l1Cur_among ((L1Cur.mk code 0 0)) ([2, 3, 5, 10, 20, 21, 1]) fun r10 r11 r12 =>
  spec_l1Cur_pick ((L1Cur.mk code r11 r12)) 5 fun r20 r21 r22 =>
  Q r10 r20

def laws_FnMasks (code : List B8) (more : List B8) (Q : Bool → Prop) : Prop :=
  laws_big code more fun r7 =>
  br (r7) (Q true) <|
  spec_DrawMaskOf code fun r9 r10 r11 r12 r13 =>
  Loop3 (fun (masks : List (List Int)) (all : Bool) (x27 : Int) nx =>
  br (decide (x27 < (ln r9))) (impl_MaskOf r9 x27 r11 r12 r13 fun r38 r39 =>
  spec_MaskOf r9 x27 r11 r12 r13 fun r49 r50 =>
  jn (fun (k : Bool → Prop) => br (r39 != r50) (k true) <|
  laws_sameInts r38 r49 fun r73 =>
  k (!r73)) <|
  fun (x61 : Bool) =>
  br (x61) (Q false) <|
  jn (fun (k85 : Bool → Prop) => br (all) (k85 r39) <|
  k85 false) <|
  fun (all83 : Bool) =>
  (ln masks + ln ([r49])) * 24 ≤ 140737488355328 ∧ (
  nx (masks ++ ([r49])) all83 (wr (x27 + 1)))) <|
  jn (fun (k120 : Prop) => jn (fun (k124 : Bool → Prop) => br (all) (k124 (decide ((ln masks) > 0))) <|
  k124 false) <|
  fun (x122 : Bool) =>
  br (x122) (impl_SumOfShares r13 masks fun r128 r129 =>
  jn (fun (k144 : Bool → Prop) => br (!r129) (k144 true) <|
  br ((ln r128) != r12) (k144 true) <|
  laws_pSum r128 fun r152 =>
  k144 (r152 != 0)) <|
  fun (x139 : Bool) =>
  br (x139) (Q false) <|
  Loop1 (fun (x159 : Int) nx164 =>
  br (decide (x159 < (ln r128))) (idx r128 x159 fun x166 =>
  br (x166 != 0) (Q false) <|
  nx164 (wr (x159 + 1))) <|
  k120) 0) <|
  k120) <|
  spec_DrawMaskRepair more fun r174 r175 r176 r177 r178 =>
  impl_MaskRepair r174 r175 r176 r177 r178 fun r195 r196 =>
  spec_MaskRepair r174 r175 r176 r177 r178 fun r206 r207 =>
  jn (fun (k223 : Bool → Prop) => br (r196 != r207) (k223 true) <|
  laws_sameInts r195 r206 fun r228 =>
  k223 (!r228)) <|
  fun (x219 : Bool) =>
  br (x219) (Q false) <|
  spec_DrawSumPresent more fun r235 r236 r237 r238 r239 =>
  impl_SumPresent r235 r236 r237 r238 r239 fun r263 r264 =>
  spec_SumPresent r235 r236 r237 r238 r239 fun r274 r275 =>
  jn (fun (k292 : Bool → Prop) => br (r264 != r275) (k292 true) <|
  laws_sameInts r263 r274 fun r297 =>
  k292 (!r297)) <|
  fun (x288 : Bool) =>
  br (x288) (Q false) <|
  spec_DrawMaskCounts more fun r304 r305 =>
  impl_MaskCounts r304 r305 fun r308 r309 =>
  spec_MaskCounts r304 r305 fun r319 r320 =>
  jn (fun (k333 : Bool → Prop) => br (r309 == r320) (laws_sameInts r308 r319 fun r336 =>
  k333 r336) <|
  k333 false) <|
  fun (x330 : Bool) =>
  Q x330) ([]) true 0

end Go.Proofs.Ytbegmfmabcpofaa
