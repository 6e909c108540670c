/- PackingBound: what both search for. -/
import Derived.Test.YtdnpmgofkbjigaaPkPure
set_option linter.unusedVariables false
set_option autoImplicit false
namespace Go.Proofs.Ytdnpmgofkbjigaa
open Go Go.RowKit Go.Gv

/-! ### the sets of variables as numbers -/
def mkN (vars : List Int) : Nat := vars.foldl (fun m v => m ||| 2 ^ v.toNat) 0
theorem mkN_take {vars : List Int} {i : Nat} (hi : i < vars.length) : mkN (vars.take (i + 1)) = mkN (vars.take i) ||| 2 ^ vars[i].toNat := by
  unfold mkN; rw [List.take_succ_eq_append_getElem hi, List.foldl_append]; rfl
theorem hasB_append {a b : List Int} {v : Int} : hasB (a ++ b) v = (hasB a v || hasB b v) := by unfold hasB; rw [List.any_append]
theorem mkN_ok {vars : List Int} (h : ∀ v ∈ vars, 0 ≤ v ∧ v < 6) : ∀ i, i ≤ vars.length → mkN (vars.take i) < 64 ∧ ∀ v : Nat, (mkN (vars.take i)).testBit v = hasB (vars.take i) (v : Int) := by
  intro i
  induction i with
  | zero => intro _; rw [List.take_zero]; exact ⟨by decide, fun v => by show Nat.testBit 0 v = false; simp⟩
  | succ i ih =>
    intro hi
    have ⟨h1, h2⟩ := ih (by omega)
    have hv := h _ (List.getElem_mem (show i < vars.length by omega))
    rw [mkN_take (by omega), List.take_succ_eq_append_getElem (by omega)]
    refine ⟨?_, fun v => ?_⟩
    · exact Nat.or_lt_two_pow (n := 6) h1 (Nat.pow_lt_pow_right (by decide) (by omega))
    · rw [Nat.testBit_or, h2 v, hasB_append, Nat.testBit_two_pow]
      congr 1
      unfold hasB
      simp only [List.any_cons, List.any_nil, Bool.or_false]
      rw [Bool.eq_iff_iff]; simp; omega
/-! ### choices -/
section
variable (w : List Int) (I : List (List Int))
def gI (k : Nat) : List Int := I.getD k []
def usedTo (ks : List Nat) : List Int := ks.flatMap (gI I)
def sumTo (ks : List Nat) : Int := (ks.map fun k => lst w (gI I k)).sum
def apartTo (ks : List Nat) (j : Nat) : Bool := (List.range j).all fun i => !((gI I (ks.getD i 0)).any fun v => hasB (usedTo I (ks.take i)) v)
def valK (m : Nat) : Int := if apartTo I (bl m) (bl m).length then sumTo w I (bl m) else -1
def bst : Nat → Int × Nat
  | 0 => (0, 0)
  | m + 1 => if valK w I m > (bst m).1 then (valK w I m, m) else bst m
end
def listOf (f : List Int) (m : Nat) : List Int := (bl m).map fun k => gi f k
structure PkIn (n : Nat) (w : List Int) (I : List (List Int)) (f : List Int) : Prop where
  wl : w.length = n ∧ n ≤ 6
  wb : ∀ x ∈ w, 1 ≤ x ∧ x ≤ 100
  il : I.length ≤ 12
  fl : f.length = I.length
  iv : ∀ vars ∈ I, (0 < vars.length ∧ vars.length ≤ 6) ∧ ∀ v ∈ vars, 0 ≤ v ∧ v < n
section
variable {n : Nat} {w : List Int} {I : List (List Int)} {f : List Int}
theorem gI_at {k : Nat} (h : k < I.length) : gI I k = I[k] := by unfold gI; simp [List.getD_eq_getElem?_getD, h]
theorem PkIn.win (h : PkIn n w I f) {k : Nat} (hk : k < I.length) : Win w n (gI I k) := ⟨h.wl, h.wb, by rw [gI_at hk]; exact (h.iv _ (List.getElem_mem hk)).2⟩
theorem PkIn.len (h : PkIn n w I f) {k : Nat} (hk : k < I.length) : 0 < (gI I k).length ∧ (gI I k).length ≤ 6 := by rw [gI_at hk]; exact (h.iv _ (List.getElem_mem hk)).1
theorem PkIn.lstb (h : PkIn n w I f) {k : Nat} (hk : k < I.length) : 1 ≤ lst w (gI I k) ∧ lst w (gI I k) ≤ 101 := by
  have := lst_b (h.win hk) (gI I k).length (Nat.le_refl _); rwa [List.take_length] at this
theorem bl_at {m i : Nat} (hm : m < 2 ^ I.length) (hi : i < (bl m).length) : (bl m)[i] < I.length := bl_lt hm (List.getElem_mem hi)
theorem sumTo_succ {ks : List Nat} {i : Nat} (hi : i < ks.length) : sumTo w I (ks.take (i + 1)) = sumTo w I (ks.take i) + lst w (gI I ks[i]) := by
  unfold sumTo; rw [List.take_succ_eq_append_getElem hi, List.map_append, List.sum_append]; simp
theorem usedTo_succ {ks : List Nat} {i : Nat} (hi : i < ks.length) : usedTo I (ks.take (i + 1)) = usedTo I (ks.take i) ++ gI I ks[i] := by
  unfold usedTo; rw [List.take_succ_eq_append_getElem hi, List.flatMap_append]; simp
theorem sum_b (h : PkIn n w I f) {m : Nat} (hm : m < 2 ^ I.length) : ∀ i, i ≤ (bl m).length → 0 ≤ sumTo w I ((bl m).take i) ∧ sumTo w I ((bl m).take i) ≤ 101 * (i : Int) := by
  intro i
  induction i with
  | zero => intro _; exact ⟨by simp [sumTo], by simp [sumTo]⟩
  | succ i ih =>
    intro hi
    have := ih (by omega)
    have h2 := h.lstb (bl_at hm (show i < (bl m).length by omega))
    rw [sumTo_succ (by omega)]; omega
theorem used_b (h : PkIn n w I f) {m : Nat} (hm : m < 2 ^ I.length) : ∀ i, i ≤ (bl m).length → (usedTo I ((bl m).take i)).length ≤ 6 * i := by
  intro i
  induction i with
  | zero => intro _; simp [usedTo]
  | succ i ih =>
    intro hi
    have := ih (by omega)
    have h2 := h.len (bl_at hm (show i < (bl m).length by omega))
    rw [usedTo_succ (by omega), List.length_append]; omega
theorem valK_b (h : PkIn n w I f) {m : Nat} (hm : m < 2 ^ I.length) : -1 ≤ valK w I m ∧ valK w I m ≤ 2000 := by
  unfold valK
  have := sum_b h hm (bl m).length (Nat.le_refl _)
  rw [List.take_length] at this
  have := bl_len (m := m)
  split <;> omega
theorem bst_b (h : PkIn n w I f) : ∀ m, m ≤ 2 ^ I.length → 0 ≤ (bst w I m).1 ∧ (bst w I m).1 ≤ 2000 ∧ (bst w I m).2 < 2 ^ I.length := by
  intro m
  induction m with
  | zero => intro _; exact ⟨by simp [bst], by simp [bst], by simp only [bst]; exact Nat.pow_pos (by decide)⟩
  | succ m ih =>
    intro hm
    have := ih (by omega)
    have hv := valK_b h (show m < 2 ^ I.length by omega)
    simp only [bst]
    split
    · exact ⟨by omega, hv.2, hm⟩
    · exact this
theorem pow12 (h : I.length ≤ 12) : 2 ^ I.length ≤ 4096 := by
  have := Nat.pow_le_pow_right (n := 2) (by decide) h
  have e : (2 : Nat) ^ 12 = 4096 := by decide
  omega
theorem apart_succ {ks : List Nat} {j : Nat} (hj : j < ks.length) : apartTo I ks (j + 1) = (apartTo I ks j && !((gI I ks[j]).any fun v => hasB (usedTo I (ks.take j)) v)) := by
  unfold apartTo; rw [range_all_snoc]
  have : ks.getD j 0 = ks[j] := by simp [List.getD_eq_getElem?_getD, hj]
  rw [this]
/-- What the reference does with its lists. -/
theorem sSearch_ok (h : PkIn n w I f) {Q : Int → List Int → Bool → Prop} (hq : Q (bst w I (2 ^ I.length)).1 (listOf f (bst w I (2 ^ I.length)).2) true) :
    Loop3 (fun (best : Int) (out : List Int) (mask : Int) nx241 =>
  (0 : Int) ≤ (IntKind.u64.wrap (ln f)) ∧ (
  br (decide (mask < (shl .i64 1 (IntKind.u64.wrap (ln f))))) (jn (fun (k260 : Int → (List Int) → Prop) => spec_iBits mask fun r262 =>
  Loop5 (fun (sum : Int) (apart : Bool) (used : List Int) (list : List Int) (x282 : Int) nx313 =>
  br (decide (x282 < (ln r262))) (idx r262 x282 fun x315 =>
  jn (fun (k334 : Bool → Prop) => br (apart) (idx I x315 fun x337 =>
  spec_iShares x337 used fun r349 =>
  k334 (!r349)) <|
  k334 false) <|
  fun (apart324 : Bool) =>
  idx I x315 fun x360 =>
  (ln used + ln x360) * 8 ≤ 140737488355328 ∧ (
  idx I x315 fun x382 =>
  spec_iLeast w x382 fun r395 =>
  idx f x315 fun x399 =>
  (ln list + ln ([x399])) * 8 ≤ 140737488355328 ∧ (
  nx313 (wr (sum + r395)) apart324 (used ++ x360) (list ++ ([x399])) (wr (x282 + 1))))) <|
  jn (fun (k447 : Bool → Prop) => br (apart) (k447 (decide (sum > best))) <|
  k447 false) <|
  fun (x445 : Bool) =>
  br (x445) (k260 sum list) <|
  k260 best out) 0 true ([]) ([]) 0) <|
  fun (best243 : Int) (out244 : List Int) =>
  nx241 best243 out244 (wr (mask + 1))) <|
  Q best out true)) 0 ([]) 0 := by
  have hfl := h.fl
  have hil := h.il
  have hp := pow12 hil
  refine ⟨fun b o x => ∃ m : Nat, x = (m : Int) ∧ m ≤ 2 ^ I.length ∧ b = (bst w I m).1 ∧ o = listOf f (bst w I m).2, fun _ _ x => (5000 - x).toNat, ⟨0, rfl, Nat.zero_le _, rfl, by simp [bst, listOf, bl]⟩, ?_⟩
  rintro _ _ _ ⟨m, rfl, hm, rfl, rfl⟩
  have hb := bst_b h m hm
  have elf : ln f = (I.length : Int) := by unfold ln; omega
  rw [elf, wrap_u64 (by omega) (by omega), shl1 (by omega) (by omega)]
  have e1 : ((I.length : Int)).toNat = I.length := by omega
  rw [e1]
  refine ⟨by omega, br_dec (fun g => ?_) (fun g => ?_)⟩
  · have hm' : m < 2 ^ I.length := by omega
    have hbl := bl_len (m := m)
    refine jn_bool2 (bst w I (m + 1)).1 (listOf f (bst w I (m + 1)).2) ?_ fun k hk => iBits_ok (by omega) ?_
    · rw [wr_in (by omega) (by omega)]
      refine ⟨⟨m + 1, by omega, hm', rfl, rfl⟩, ?_⟩
      show (5000 - ((m : Int) + 1)).toNat < (5000 - (m : Int)).toNat
      omega
    · have hcl : (cI (bl m)).length = (bl m).length := by simp [cI]
      refine loop5_list (by omega) (fun s a u li j => s = sumTo w I ((bl m).take j) ∧ a = apartTo I (bl m) j ∧ u = usedTo I ((bl m).take j) ∧ li = ((bl m).take j).map fun k => gi f k) ⟨by simp [sumTo], by simp [apartTo], by simp [usedTo], by simp⟩ ?_ ?_
      · rintro _ _ _ _ j nx hj ⟨rfl, rfl, rfl, rfl⟩ hx
        have hj' : j < (bl m).length := by omega
        have hk' := bl_at hm' hj'
        have hsb := sum_b h hm' j (by omega)
        have hub := used_b h hm' j (by omega)
        have hlb := h.lstb hk'
        have hle := h.len hk'
        have egi : I[(bl m)[j]] = gI I (bl m)[j] := (gI_at hk').symm
        refine idx_at hj ?_
        rw [cI_get]
        refine jn_bool (apartTo I (bl m) (j + 1)) ?_ fun k2 hk2 => br_bo (fun g2 => idx_at hk' ?_) (fun g2 => ?_)
        · refine idx_at hk' ?_
          rw [egi]
          refine ⟨by unfold ln; omega, idx_at hk' ?_⟩
          rw [egi]
          refine iLeast_ok (h.win hk') (by omega) hle.1 (idx_at (show (bl m)[j] < f.length by omega) ⟨?_, ?_⟩)
          · have hll : (List.map (fun k => gi f k) ((bl m).take j)).length ≤ 12 := by rw [List.length_map, List.length_take]; omega
            unfold ln; simp only [List.length_singleton]; omega
          · rw [wr_in (by omega) (by omega)]
            refine hx _ _ _ _ ⟨(sumTo_succ hj').symm, rfl, (usedTo_succ hj').symm, ?_⟩
            rw [List.take_succ_eq_append_getElem hj', List.map_append]
            simp only [List.map_cons, List.map_nil]
            rw [gi_at (show (bl m)[j] < f.length by omega)]
        · rw [egi]
          rw [apart_succ hj', show apartTo I (bl m) j = true from g2, Bool.true_and] at hk2
          exact iShares_ok (by omega) (by omega) hk2
        · rw [apart_succ hj', show apartTo I (bl m) j = false from g2, Bool.false_and] at hk2
          exact hk2
      · rintro _ _ _ _ ⟨rfl, rfl, rfl, rfl⟩
        rw [hcl, List.take_length]
        have ev : valK w I m = if apartTo I (bl m) (bl m).length then sumTo w I (bl m) else -1 := rfl
        refine jn_bool (decide (valK w I m > (bst w I m).1)) ?_ fun k2 hk2 => br_bo (fun g2 => ?_) (fun g2 => ?_)
        · simp only [bst] at hk
          refine br_bo (fun g2 => ?_) (fun g2 => ?_)
          · have g3 := of_decide_eq_true g2
            rw [if_pos g3] at hk
            have : apartTo I (bl m) (bl m).length = true := by
              cases ha : apartTo I (bl m) (bl m).length with
              | true => rfl
              | false => rw [ev, ha] at g3; simp at g3; omega
            rw [ev, this, if_pos rfl] at hk
            exact hk
          · rw [if_neg (of_decide_eq_false g2)] at hk; exact hk
        · rw [ev, show apartTo I (bl m) (bl m).length = true from g2, if_pos rfl] at hk2; exact hk2
        · rw [ev, show apartTo I (bl m) (bl m).length = false from g2] at hk2
          rw [decide_eq_false (by simp; omega)] at hk2; exact hk2
  · have : m = 2 ^ I.length := by omega
    subst this; exact hq
end
end Go.Proofs.Ytdnpmgofkbjigaa
