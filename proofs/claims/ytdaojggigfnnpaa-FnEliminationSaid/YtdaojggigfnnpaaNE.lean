/- Plain facts about smallest covers. -/
import Derived.Test.YtdaojggigfnnpaaND
set_option linter.unusedVariables false
set_option autoImplicit false
namespace Go.Proofs.Ytdaojggigfnnpaa
open Go Go.RowKit Go.Gv

/-! ### comparisons -/
def sg (x y : Int) : Int := if x < y then -1 else if y < x then 1 else 0
def cmpL : List Int → List Int → Int
  | [], [] => 0
  | [], _ :: _ => -1
  | _ :: _, [] => 1
  | a :: l, b :: m => if sg a b ≠ 0 then sg a b else cmpL l m
def orL : List Int → Int
  | [] => 0
  | x :: r => if x ≠ 0 then x else orL r
theorem cmpInt_ok {x y : Int} {Q : Int → Prop} (hq : Q (sg x y)) : cmp_Compare_int x y Q := by
  unfold cmp_Compare_int cmp_isNaN_int
  refine br_false (by simp) (br_false (by simp) (br_dec (fun g => ?_) (fun g => br_dec (fun g2 => ?_) (fun g2 => ?_))))
  · rw [show sg x y = -1 from if_pos g] at hq; exact hq
  · rw [show sg x y = 1 by unfold sg; rw [if_neg g, if_pos g2]] at hq; exact hq
  · rw [show sg x y = 0 by unfold sg; rw [if_neg g, if_neg g2]] at hq; exact hq
theorem sCompare_ok {a b : List Int} {Q : Int → Prop} (ha : a.length ≤ 1048576) (hq : Q (cmpL a b)) : slices_Compare_int_int a b Q := by
  unfold slices_Compare_int_int
  refine loop1_list (by omega) (fun i => i ≤ b.length ∧ cmpL (a.drop i) (b.drop i) = cmpL a b) ⟨Nat.zero_le _, rfl⟩ (fun i nx hi ⟨hj1, hj2⟩ hx => idx_at hi (br_dec (fun g => ?_) (fun g => ?_))) (fun ⟨hj1, hj2⟩ => ?_)
  · rw [List.drop_eq_getElem_cons hi, show b.drop i = [] from List.drop_of_length_le (by unfold ln at g; omega)] at hj2
    have : cmpL a b = 1 := hj2.symm
    rw [this] at hq; exact hq
  · unfold ln at g
    have hb : i < b.length := by omega
    rw [List.drop_eq_getElem_cons hi, List.drop_eq_getElem_cons hb] at hj2
    simp only [cmpL] at hj2
    refine idx_at hb (cmpInt_ok (br_ne (fun g2 => ?_) (fun g2 => hx ⟨hb, ?_⟩)))
    · rw [if_pos g2] at hj2; rw [← hj2] at hq; exact hq
    · rw [if_neg (by simpa using g2)] at hj2; exact hj2
  · rw [List.drop_of_length_le (Nat.le_refl a.length)] at hj2
    refine br_dec (fun g => ?_) (fun g => ?_)
    · rw [List.drop_eq_getElem_cons (show a.length < b.length by unfold ln at g; omega)] at hj2
      have : cmpL a b = -1 := hj2.symm
      rw [this] at hq; exact hq
    · rw [List.drop_of_length_le (by unfold ln at g; omega)] at hj2
      have : cmpL a b = 0 := hj2.symm
      rw [this] at hq; exact hq
theorem l1Less_ok {a b : List Int} {Q : Int → Prop} (ha : a.length ≤ 1048576) (hb : b.length ≤ 1048576) (hq : Q (cmpL a b)) : spec_l1Less a b Q := by
  unfold spec_l1Less
  refine ⟨fun x => ∃ n : Nat, x = (n : Int) ∧ n ≤ a.length ∧ n ≤ b.length ∧ cmpL (a.drop n) (b.drop n) = cmpL a b, fun x => a.length - x.toNat, ⟨0, rfl, Nat.zero_le _, Nat.zero_le _, rfl⟩, ?_⟩
  rintro _ ⟨n, rfl, h1, h2, h3⟩
  refine jn_bool (decide (n < a.length ∧ n < b.length)) ?_ fun k hk => br_dec (fun g => ?_) (fun g => ?_)
  · refine br_dec (fun g => ?_) (fun g => ?_)
    · rw [List.drop_eq_getElem_cons g.1, List.drop_eq_getElem_cons g.2] at h3
      simp only [cmpL] at h3
      refine idx_at g.1 (idx_at g.2 (br_ne (fun g2 => idx_at g.1 (idx_at g.2 (br_dec (fun g3 => ?_) (fun g3 => ?_)))) (fun g2 => ?_)))
      · have : sg a[n] b[n] = -1 := if_pos g3
        rw [this, if_pos (by decide)] at h3; rw [← h3] at hq; exact hq
      · have : sg a[n] b[n] = 1 := by unfold sg; rw [if_neg g3, if_pos (by omega)]
        rw [this, if_pos (by decide)] at h3; rw [← h3] at hq; exact hq
      · have : sg a[n] b[n] = 0 := by unfold sg; rw [if_neg (by omega), if_neg (by omega)]
        rw [this, if_neg (by decide)] at h3
        rw [wr_in (by omega) (by omega)]
        exact ⟨⟨n + 1, by omega, by omega, by omega, h3⟩, by dsimp only; omega⟩
    · unfold spec_l1Sign
      unfold ln
      rw [wr_in (by omega) (by omega)]
      by_cases ga : n < a.length
      · rw [List.drop_eq_getElem_cons ga, show b.drop n = [] from List.drop_of_length_le (by omega)] at h3
        have : cmpL a b = 1 := h3.symm
        rw [this] at hq
        exact br_no (by omega) (br_yes (by omega) hq)
      · rw [show a.drop n = [] from List.drop_of_length_le (by omega)] at h3
        by_cases gb : n < b.length
        · rw [List.drop_eq_getElem_cons gb] at h3
          have : cmpL a b = -1 := h3.symm
          rw [this] at hq
          exact br_yes (by omega) hq
        · rw [List.drop_of_length_le (by omega)] at h3
          have : cmpL a b = 0 := h3.symm
          rw [this] at hq
          exact br_no (by omega) (br_no (by omega) hq)
  · rw [show decide (n < a.length ∧ n < b.length) = decide ((n : Int) < ln b) from decide_eq_decide.2 (by unfold ln at *; omega)] at hk; exact hk
  · rw [show decide (n < a.length ∧ n < b.length) = false from decide_eq_false (by unfold ln at *; omega)] at hk; exact hk
theorem cmpOr_ok {l : List Int} {Q : Int → Prop} (hl : l.length ≤ 1048576) (hq : Q (orL l)) : cmp_Or_int l Q := by
  unfold cmp_Or_int
  refine loop1_list (by omega) (fun i => orL (l.drop i) = orL l) rfl (fun i nx hi hj hx => idx_at hi ?_) (fun hj => ?_)
  · rw [List.drop_eq_getElem_cons hi] at hj
    simp only [orL] at hj
    refine br_ne (fun g => ?_) (fun g => hx ?_)
    · rw [if_pos g] at hj; rw [← hj] at hq; exact hq
    · rw [if_neg (by simpa using g)] at hj; exact hj
  · rw [List.drop_of_length_le (Nat.le_refl _)] at hj
    rw [← hj] at hq; exact hq
def btr (a b : List Int) : Bool := decide (a.length < b.length) || (decide (a.length = b.length) && decide (cmpL a b < 0))
theorem or_btr {a b : List Int} : decide (orL [sg (ln a) (ln b), sg (ln a) (ln b), cmpL a b] ≥ 0) = !btr a b := by
  unfold btr
  by_cases h1 : a.length < b.length
  · rw [show sg (ln a) (ln b) = -1 from if_pos (by unfold ln; omega), decide_eq_true h1]; rfl
  · rw [decide_eq_false h1, Bool.false_or]
    by_cases h2 : a.length = b.length
    · rw [show sg (ln a) (ln b) = 0 by unfold sg ln; rw [if_neg (by omega), if_neg (by omega)], decide_eq_true h2, Bool.true_and, ← decide_not]
      have : orL [0, 0, cmpL a b] = cmpL a b := by
        show (if cmpL a b ≠ 0 then cmpL a b else 0) = cmpL a b
        split
        · rfl
        · omega
      rw [this]
      exact decide_eq_decide.2 (by omega)
    · rw [show sg (ln a) (ln b) = 1 by unfold sg ln; rw [if_neg (by omega), if_pos (by omega)], decide_eq_false h2]; rfl
/-! ### the best cover so far -/
theorem eLevels_ok {m : Nat} {Q : List Int → Prop} (hm : m < 4096) (hq : Q (cI (bl m))) : spec_eLevels (m : Int) Q := by
  unfold spec_eLevels
  refine ⟨fun o x => ∃ i : Nat, x = (i : Int) ∧ i ≤ 12 ∧ o = cI ((List.range i).filter m.testBit), fun _ x => (12 - x).toNat, ⟨0, rfl, by omega, rfl⟩, ?_⟩
  rintro _ _ ⟨i, rfl, hi, rfl⟩
  rw [wrap_u64 (by omega) (by omega), shr_of (by omega)]
  refine ⟨by omega, br_dec (fun g => ?_) (fun g => ?_)⟩
  · have hi' : i < 12 := by
      apply Nat.lt_of_not_le; intro c
      have e : i = 12 := by omega
      subst e; rw [shr12 hm] at g; simp at g
    have hp := bl_pre (m := m) (i := i)
    rw [← shr_of (by omega), bitq hm hi]
    refine jn_bool (cI ((List.range (i + 1)).filter m.testBit)) ?_ fun k hk => ⟨by omega, br_bo (fun g1 => ⟨by unfold ln; simp only [List.length_singleton]; omega, ?_⟩) (fun g1 => ?_)⟩
    · rw [wr_in (by omega) (by omega)]
      refine ⟨⟨i + 1, by omega, by omega, rfl⟩, ?_⟩
      show (12 - ((i : Int) + 1)).toNat < (12 - (i : Int)).toNat
      omega
    · rw [bl_step, g1, if_pos rfl] at hk; exact hk
    · rw [bl_step, g1] at hk; simpa using hk
  · have : m >>> i = 0 := by generalize m >>> i = q at g; omega
    rw [bl_end hi this]; exact hq

theorem othLoop_ok {sx : List Variable} {vars : List Int} {E : List Int → Prop} (hl : sx.length ≤ 1048576) (hv : vars.length ≤ 1048576) (hq : E (oth sx vars)) :
    Loop2 (fun (fixed : List Int) (x64 : Int) nx87 => br (decide (x64 < (ln sx))) (jn (fun (k110 : (List Int) → Prop) => spec_l1Has vars x64 fun r112 =>
      br (!r112) ((ln fixed + ln ([x64])) * 8 ≤ 140737488355328 ∧ (k110 (fixed ++ ([x64])))) <| k110 fixed) <|
      fun (fixed90 : List Int) => nx87 fixed90 (wr (x64 + 1))) <| E fixed) ([]) 0 := by
  refine loop2_list (by omega) (fun o i => o = ((List.range i).filter fun (i : Nat) => !hasB vars (i : Int)).map fun (i : Nat) => (i : Int)) rfl ?_ ?_
  · rintro _ i nx hi rfl hx
    have hp : (((List.range i).filter fun (i : Nat) => !hasB vars (i : Int)).map fun (i : Nat) => (i : Int)).length ≤ i := by
      rw [List.length_map]
      have := List.length_filter_le (fun (i : Nat) => !hasB vars (i : Int)) (List.range i)
      rwa [List.length_range] at this
    refine jn_bool (((List.range (i + 1)).filter fun (i : Nat) => !hasB vars (i : Int)).map fun (i : Nat) => (i : Int)) (hx _ rfl) fun k hk => l1Has_ok hv ?_
    rw [List.range_succ, List.filter_append, List.map_append, List.filter_cons, List.filter_nil] at hk
    refine br_nb (fun g => ⟨by unfold ln; simp only [List.length_singleton]; omega, ?_⟩) (fun g => ?_)
    · have g' : hasB vars (i : Int) = false := g
      rw [g'] at hk; exact hk
    · have g' : hasB vars (i : Int) = true := g
      rw [g'] at hk; simpa using hk
  · rintro _ rfl; exact hq
def scv (sx : List Variable) (l : List Edit) (vs : List Int) : Nat → List Int × Bool
  | 0 => ([], false)
  | m + 1 => if compl sx l vs (cI (bl m)) && (!(scv sx l vs m).2 || btr (cI (bl m)) (scv sx l vs m).1) then (cI (bl m), true) else scv sx l vs m
theorem cI_len {m : Nat} : (cI (bl m)).length ≤ 12 := by
  unfold cI; rw [List.length_map]; exact bl_len
theorem scv_len {sx : List Variable} {l : List Edit} {vs : List Int} : ∀ m, (scv sx l vs m).1.length ≤ 12
  | 0 => by simp [scv]
  | m + 1 => by
    unfold scv
    split
    · exact cI_len
    · exact scv_len m
theorem shlN {n : Nat} (h : n ≤ 6) : shl .i64 1 (n : Int) = ((2 ^ n : Nat) : Int) := by
  have := shl1 (x := (n : Int)) (by omega) (by omega)
  rw [Int.toNat_natCast] at this; exact this
theorem p64 {n : Nat} (h : n ≤ 6) : 2 ^ n ≤ 64 := by
  have := Nat.pow_le_pow_right (n := 2) (by decide) h
  have e : (2 : Nat) ^ 6 = 64 := by decide
  omega
theorem leastCover_ok {sx : List Variable} {l : List Edit} {vs : List Int} {Q : List Int → Bool → Prop} (hL : Lok sx) (h1 : 1 ≤ sx.length) (he : Eok sx.length l) (hvs : vs.length = sx.length)
    (hq : Q (scv sx l vs (2 ^ sx.length)).1 (scv sx l vs (2 ^ sx.length)).2) : impl_leastCover_impl_SmallestCover_1 sx l vs Q := by
  have h6 := hL.1
  have h64 := p64 h6
  unfold impl_leastCover_impl_SmallestCover_1 impl_SmallestCover_1
  refine ⟨by unfold ln; omega, ⟨fun b f x => ∃ m : Nat, x = (m : Int) ∧ m ≤ 2 ^ sx.length ∧ b = (scv sx l vs m).1 ∧ f = (scv sx l vs m).2, fun _ _ x => 2 ^ sx.length - x.toNat, ⟨0, rfl, Nat.zero_le _, rfl, rfl⟩, ?_⟩⟩
  rintro _ _ _ ⟨m, rfl, hm, rfl, rfl⟩
  rw [shlN h6]
  have hcl := cI_len (m := m)
  have hsl := scv_len (sx := sx) (l := l) (vs := vs) m
  refine br_dec (fun g => ?_) (fun g => ?_)
  · have hstep : scv sx l vs (m + 1) = if compl sx l vs (cI (bl m)) && (!(scv sx l vs m).2 || btr (cI (bl m)) (scv sx l vs m).1) then (cI (bl m), true) else scv sx l vs m := rfl
    refine jn_bool2 (scv sx l vs (m + 1)).1 (scv sx l vs (m + 1)).2 ?_ fun k hk => membersOf_ok (by omega) ?_
    · rw [wr_in (by omega) (by omega)]
      exact ⟨⟨m + 1, by omega, by omega, rfl, rfl⟩, by dsimp only; omega⟩
    · refine jn_bool ((scv sx l vs m).2 && !btr (cI (bl m)) (scv sx l vs m).1) ?_ fun k2 hk2 => br_bo (fun g1 => ?_) (fun g1 => ?_)
      · refine br_bo (fun g1 => ?_) (fun g1 => ?_)
        · have : (!(scv sx l vs m).2 || btr (cI (bl m)) (scv sx l vs m).1) = false := by
            simp only [Bool.and_eq_true, Bool.not_eq_true'] at g1
            rw [g1.1, g1.2]; rfl
          rw [hstep, this, Bool.and_false, if_neg (by decide)] at hk; exact hk
        · have hb : (!(scv sx l vs m).2 || btr (cI (bl m)) (scv sx l vs m).1) = true := by
            cases h2 : (scv sx l vs m).2 with
            | false => rfl
            | true => rw [h2, Bool.true_and] at g1; simpa using g1
          rw [hstep, hb, Bool.and_true] at hk
          refine otherVars_ok (by omega) (by omega) (completionOf_ok hL h1 he hvs fun r hr => ?_)
          have e : (!(ln r == 0)) = compl sx l vs (cI (bl m)) := by
            unfold ln
            cases hc : compl sx l vs (cI (bl m)) with
            | false => have := hr.2 hc; simp; exact List.eq_nil_of_length_eq_zero this
            | true =>
              have : ¬ r.length = 0 := fun c => by rw [hr.1 c] at hc; cases hc
              simp; intro c; exact this (by rw [c]; rfl)
          rw [e]
          refine br_bo (fun g2 => ?_) (fun g2 => ?_)
          · rw [g2, if_pos rfl] at hk; exact hk
          · rw [g2, if_neg (by decide)] at hk; exact hk
      · refine cmpInt_ok (cmpInt_ok (sCompare_ok (by omega) (cmpOr_ok (by simp) ?_)))
        rw [or_btr]
        rw [g1, Bool.true_and] at hk2; exact hk2
      · rw [g1, Bool.false_and] at hk2; exact hk2
  · have : m = 2 ^ sx.length := by omega
    subst this; exact hq
def scOk (sx : List Variable) (l : List Edit) (vs : List Int) : Bool := maxOk sx l && fitOk sx vs
def scR (sx : List Variable) (l : List Edit) (vs : List Int) : List Int × Bool := if scOk sx l vs then scv sx l vs (2 ^ sx.length) else ([], false)
theorem fit_len {sx : List Variable} {vs : List Int} (h : fitOk sx vs = true) : vs.length = sx.length := by
  unfold fitOk at h
  simp only [Bool.and_eq_true, decide_eq_true_eq] at h
  exact h.1
theorem sSC_ok {sx : List Variable} {l : List Edit} {vs : List Int} {Q : List Int → Bool → Prop} (hw : Wide sx l) (hq : Q (scR sx l vs).1 (scR sx l vs).2) : spec_SmallestCover sx l vs Q := by
  unfold spec_SmallestCover spec_eAsked
  refine jn_bool (scOk sx l vs) ?_ fun k hk => eSmall_ok hw.1.1 hw.1.2 hw.2.1 hw.2.2 (br_bo (fun g => rising_ok (by simp) hw.1.1 (br_bo (fun _ => sFits_ok (maxOk_of g).1 ?_) (fun c => by cases c))) (fun g => ?_))
  · refine br_nb (fun g => ?_) (fun g => ?_)
    · unfold scR at hq; rw [g] at hq; exact hq
    · unfold scR at hq; rw [g, if_pos rfl] at hq
      unfold scOk at g
      simp only [Bool.and_eq_true] at g
      have ⟨hL, _, he⟩ := maxOk_of g.1
      have hvs := fit_len g.2
      have h6 := hL.1
      have h64 := p64 h6
      refine ⟨fun b f x => ∃ m : Nat, x = (m : Int) ∧ m ≤ 2 ^ sx.length ∧ b = (scv sx l vs m).1 ∧ f = (scv sx l vs m).2, fun _ _ x => 2 ^ sx.length - x.toNat, ⟨0, rfl, Nat.zero_le _, rfl, rfl⟩, ?_⟩
      rintro _ _ _ ⟨m, rfl, hm, rfl, rfl⟩
      rw [wrap_u64 (by unfold ln; omega) (by unfold ln; omega), shlN h6]
      have hcl := cI_len (m := m)
      have hsl := scv_len (sx := sx) (l := l) (vs := vs) m
      refine ⟨by unfold ln; omega, br_dec (fun g => ?_) (fun g => ?_)⟩
      · have hstep : scv sx l vs (m + 1) = if compl sx l vs (cI (bl m)) && (!(scv sx l vs m).2 || btr (cI (bl m)) (scv sx l vs m).1) then (cI (bl m), true) else scv sx l vs m := rfl
        refine jn_bool2 (scv sx l vs (m + 1)).1 (scv sx l vs (m + 1)).2 ?_ fun k hk => eLevels_ok (by omega) (othLoop_ok (by omega) (by omega) (eComplete_ok hL he hvs fun r => br_nb (fun g1 => ?_) (fun g1 => ?_)))
        · rw [wr_in (by omega) (by omega)]
          exact ⟨⟨m + 1, by omega, by omega, rfl, rfl⟩, by dsimp only; omega⟩
        · rw [hstep, g1, Bool.false_and, if_neg (by decide)] at hk; exact hk
        · rw [hstep, g1, Bool.true_and] at hk
          refine jn_bool (!(scv sx l vs m).2 || btr (cI (bl m)) (scv sx l vs m).1) ?_ fun k2 hk2 => br_nb (fun g2 => ?_) (fun g2 => br_dec (fun g3 => ?_) (fun g3 => br_eq (fun g4 => l1Less_ok (by omega) (by omega) ?_) (fun g4 => ?_)))
          · refine br_bo (fun g2 => ?_) (fun g2 => ?_)
            · rw [g2, if_pos rfl] at hk; exact hk
            · rw [g2, if_neg (by decide)] at hk; exact hk
          · rw [g2, Bool.not_false, Bool.true_or] at hk2; exact hk2
          · unfold ln at g3
            have : btr (cI (bl m)) (scv sx l vs m).1 = true := by unfold btr; rw [decide_eq_true (by omega)]; rfl
            rw [this, Bool.or_true] at hk2; exact hk2
          · unfold ln at g3 g4
            have : btr (cI (bl m)) (scv sx l vs m).1 = decide (cmpL (cI (bl m)) (scv sx l vs m).1 < 0) := by unfold btr; rw [decide_eq_false (by omega), decide_eq_true (by omega)]; rfl
            rw [this, g2, Bool.not_true, Bool.false_or] at hk2; exact hk2
          · unfold ln at g3 g4
            have : btr (cI (bl m)) (scv sx l vs m).1 = false := by unfold btr; rw [decide_eq_false (by omega), decide_eq_false (by omega)]; rfl
            rw [this, g2] at hk2; exact hk2
      · have : m = 2 ^ sx.length := by omega
        subst this; exact hq
  · unfold scOk at hk
    rw [show maxOk sx l = true from g, Bool.true_and] at hk; exact hk
  · unfold scOk at hk
    rw [show maxOk sx l = false from g, Bool.false_and] at hk; exact hk
theorem iSC_ok {sx : List Variable} {l : List Edit} {vs : List Int} {Q : List Int → Bool → Prop} (hw : Wide sx l) (hq : Q (scR sx l vs).1 (scR sx l vs).2) : impl_SmallestCover sx l vs Q := by
  unfold impl_SmallestCover
  refine jn_bool (!scOk sx l vs) ?_ fun k hk => isSmall_ok hw.1.1 (br_nb (fun g => ?_) (fun g => areEdits_ok (smOk_of g).1 hw.2.2 (br_nb (fun g1 => ?_) (fun g1 => areValues_ok (smOk_of g).1 ?_))))
  · refine br_nb (fun g => ?_) (fun g => ?_)
    · unfold scR at hq; rw [g] at hq; exact hq
    · unfold scR at hq; rw [g, if_pos rfl] at hq
      unfold scOk at g
      simp only [Bool.and_eq_true] at g
      have ⟨hL, _, he⟩ := maxOk_of g.1
      have g0 := g.1
      unfold maxOk at g0
      simp only [Bool.and_eq_true] at g0
      exact leastCover_ok hL (smOk_of g0.1).2.2 he (fit_len g.2) hq
  · unfold scOk maxOk at hk; rw [g] at hk; exact hk
  · unfold scOk maxOk at hk; rw [g1, Bool.and_false] at hk; exact hk
  · unfold scOk maxOk at hk; rw [g, g1, Bool.true_and, Bool.true_and] at hk; exact hk
theorem scR_len {sx : List Variable} {l : List Edit} {vs : List Int} : (scR sx l vs).1.length ≤ 12 := by
  unfold scR
  split
  · exact scv_len _
  · simp
end Go.Proofs.Ytdaojggigfnnpaa
