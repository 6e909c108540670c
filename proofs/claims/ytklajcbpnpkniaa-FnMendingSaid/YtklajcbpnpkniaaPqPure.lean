/- PackingBound: the program's search, the failed edits, the law. -/
import Derived.Test.YtklajcbpnpkniaaPpPure
set_option linter.unusedVariables false
set_option autoImplicit false
namespace Go.Proofs.Ytklajcbpnpkniaa
open Go Go.RowKit Go.Gv
section
variable {n : Nat} {w : List Int} {I : List (List Int)} {f : List Int}
def bnd (w : List Int) (I : List (List Int)) : List Int := I.map (lst w)
def msk (I : List (List Int)) : List Int := I.map fun vars => (mkN vars : Int)
theorem bst_one (h : PkIn n w I f) : bst w I 1 = (0, 0) := by
  have : bl 0 = [] := by simp [bl]
  simp only [bst]
  unfold valK
  rw [this]
  rfl
theorem mk_at (h : PkIn n w I f) {k : Nat} (hk : k < I.length) : mkN (gI I k) < 64 ∧ ∀ v : Nat, (mkN (gI I k)).testBit v = hasB (gI I k) (v : Int) := by
  have h1 := (h.win hk).2.2
  have := mkN_ok (vars := gI I k) (fun v hv => by have := h1 v hv; have := h.wl; omega) (gI I k).length (Nat.le_refl _)
  rwa [List.take_length] at this
theorem hasB_iff {l : List Int} {v : Int} : hasB l v = true ↔ v ∈ l := by
  unfold hasB
  rw [List.any_eq_true]
  constructor
  · rintro ⟨x, hx, e⟩; have : x = v := by simpa using e
    subst this; exact hx
  · intro h; exact ⟨v, h, by simp⟩
theorem and_ne {a b : Nat} {A B : List Int} (ha : a < 64) (hA : ∀ v : Nat, a.testBit v = hasB A (v : Int)) (hB : ∀ v : Nat, b.testBit v = hasB B (v : Int)) (hr : ∀ v ∈ B, 0 ≤ v ∧ v < 6) :
    (bits .and .i64 (a : Int) (b : Int) != 0) = B.any fun v => hasB A v := by
  rw [and_nat (by have : (2 : Nat) ^ 63 = 9223372036854775808 := by decide
                  omega)]
  by_cases h : a &&& b = 0
  · rw [h]
    have : (B.any fun v => hasB A v) = false := by
      rw [List.any_eq_false]
      intro v hv hv2
      have h1 := hr v hv
      have e : ((v.toNat : Nat) : Int) = v := by omega
      have h2 : (a &&& b).testBit v.toNat = true := by
        rw [Nat.testBit_and, hA, hB, e, hv2, hasB_iff.2 hv]; rfl
      rw [h] at h2; simp at h2
    rw [this]; rfl
  · obtain ⟨i, hi⟩ := Nat.exists_testBit_of_ne_zero h
    rw [Nat.testBit_and, Bool.and_eq_true, hA, hB] at hi
    have : (B.any fun v => hasB A v) = true := List.any_eq_true.2 ⟨(i : Int), hasB_iff.1 hi.2, hi.1⟩
    rw [this]
    simpa using h
theorem down5 {m : Nat} (h : m < 4096) : (5000 - ((m : Int) + 1)).toNat < (5000 - (m : Int)).toNat := by omega
theorem iSearch_ok (h : PkIn n w I f) {Q : Int → List Int → Bool → Prop} (hq : Q (bst w I (2 ^ I.length)).1 (listOf f (bst w I (2 ^ I.length)).2) true) :
    Loop3 (fun (best : Int) (chosen : Int) (setx : Int) nx326 =>
  (0 : Int) ≤ (ln f) ∧ (
  br (decide (setx < (shl .i64 1 (ln f)))) (jn (fun (k336 : Int → Int → Prop) => jn (fun (k343 : Int → Prop) => impl_membersOf setx fun r345 =>
  Loop3 (fun (sum355 : Int) (used : Int) (x356 : Int) nx361 =>
  br (decide (x356 < (ln r345))) (idx r345 x356 fun x363 =>
  idx (msk I) x363 fun x372 =>
  br ((bits .and .i64 used x372) != 0) (k343 ((-1))) <|
  idx (msk I) x363 fun x386 =>
  idx (bnd w I) x363 fun x395 =>
  nx361 (wr (sum355 + x395)) (bits .or .i64 used x386) (wr (x356 + 1))) <|
  k343 sum355) 0 0 0) <|
  fun (sum : Int) =>
  br (decide (sum > best)) (k336 sum setx) <|
  k336 best chosen) <|
  fun (best329 : Int) (chosen330 : Int) =>
  nx326 best329 chosen330 (wr (setx + 1))) <|
  impl_membersOf chosen fun r410 =>
  Loop2 (fun (indices : List Int) (x425 : Int) nx439 =>
  br (decide (x425 < (ln r410))) (idx r410 x425 fun x441 =>
  idx f x441 fun x450 =>
  (ln indices + ln ([x450])) * 8 ≤ 140737488355328 ∧ (
  nx439 (indices ++ ([x450])) (wr (x425 + 1)))) <|
  Q best indices true) ([]) 0)) 0 0 1 := by
  have hfl := h.fl
  have hil := h.il
  have hp := pow12 hil
  have hp0 : 0 < 2 ^ I.length := Nat.pow_pos (by decide)
  have hml : (msk I).length = I.length := by simp [msk]
  have hbl0 : (bnd w I).length = I.length := by simp [bnd]
  refine ⟨fun b c x => ∃ m : Nat, x = (m : Int) ∧ 1 ≤ m ∧ m ≤ 2 ^ I.length ∧ b = (bst w I m).1 ∧ c = ((bst w I m).2 : Int), fun _ _ x => (5000 - x).toNat, ⟨1, rfl, by omega, hp0, by rw [bst_one h], by rw [bst_one h]; rfl⟩, ?_⟩
  rintro _ _ _ ⟨m, rfl, hm1, hm, rfl, rfl⟩
  have hb := bst_b h m hm
  have elf : ln f = (I.length : Int) := by unfold ln; omega
  rw [elf, shl1 (by omega) (by omega)]
  have e1 : ((I.length : Int)).toNat = I.length := by omega
  rw [e1]
  refine ⟨by omega, br_dec (fun g => ?_) (fun g => ?_)⟩
  · have hm' : m < 2 ^ I.length := by omega
    have hbl := bl_len (m := m)
    have ev : valK w I m = if apartTo I (bl m) (bl m).length then sumTo w I (bl m) else -1 := rfl
    refine jn_bool2 (bst w I (m + 1)).1 ((bst w I (m + 1)).2 : Int) ?_ fun k hk => jn_bool (valK w I m) ?_ fun k2 hk2 => membersOf_ok (by omega) ?_
    · rw [wr_in (by omega) (by omega)]
      refine ⟨⟨m + 1, by omega, by omega, hm', rfl, rfl⟩, ?_⟩
      exact down5 (Nat.lt_of_lt_of_le hm' hp)
    · simp only [bst] at hk
      refine br_dec (fun g2 => ?_) (fun g2 => ?_)
      · rw [if_pos g2] at hk; exact hk
      · rw [if_neg g2] at hk; exact hk
    · have hcl : (cI (bl m)).length = (bl m).length := by simp [cI]
      refine loop3_list (by omega) (fun s u j => s = sumTo w I ((bl m).take j) ∧ (∃ a : Nat, u = (a : Int) ∧ a < 64 ∧ ∀ v : Nat, a.testBit v = hasB (usedTo I ((bl m).take j)) (v : Int)) ∧ apartTo I (bl m) j = true)
        ⟨by simp [sumTo], ⟨0, rfl, by decide, fun v => by simp [usedTo, hasB]⟩, by simp [apartTo]⟩ ?_ ?_
      · rintro _ _ j nx hj ⟨rfl, ⟨a, rfl, ha, hab⟩, hap⟩ hx
        have hj' : j < (bl m).length := by omega
        have hk' := bl_at hm' hj'
        have hsb := sum_b h hm' j (by omega)
        have hlb := h.lstb hk'
        have ⟨hmk, hmb⟩ := mk_at h hk'
        have e63 : (2 : Nat) ^ 62 = 4611686018427387904 := by decide
        refine idx_at hj ?_
        rw [cI_get]
        have em : (msk I)[(bl m)[j]]'(by omega) = ((mkN (gI I (bl m)[j]) : Nat) : Int) := by rw [gI_at hk']; simp [msk]
        have eb : (bnd w I)[(bl m)[j]]'(by omega) = lst w (gI I (bl m)[j]) := by rw [gI_at hk']; simp [bnd]
        refine idx_at (by omega) ?_
        rw [em, and_ne ha hab hmb (fun v hv => by have := (h.win hk').2.2 v hv; have := h.wl; omega)]
        refine br_bo (fun g2 => ?_) (fun g2 => idx_at (by omega) (idx_at (by omega) ?_))
        · have : apartTo I (bl m) (bl m).length = false := by
            refine range_all_no hj' ?_
            have : (bl m).getD j 0 = (bl m)[j] := by simp [List.getD_eq_getElem?_getD, hj']
            rw [this, g2]; rfl
          rw [ev, this] at hk2
          exact hk2
        · rw [em, eb, or_nat (by omega) (by omega), wr_in (by omega) (by omega)]
          refine hx _ _ ⟨(sumTo_succ hj').symm, ⟨_, rfl, Nat.or_lt_two_pow (n := 6) ha hmk, fun v => ?_⟩, ?_⟩
          · rw [Nat.testBit_or, hab, hmb, usedTo_succ hj', hasB_append]
          · rw [apart_succ hj', hap, g2]; rfl
      · rintro _ _ ⟨rfl, _, hap⟩
        rw [hcl] at hap
        rw [hcl, List.take_length]
        rw [ev, hap, if_pos rfl] at hk2; exact hk2
  · have e : m = 2 ^ I.length := by omega
    subst e
    refine membersOf_ok (by omega) ?_
    have hbl := bl_len (m := (bst w I (2 ^ I.length)).2)
    have hcl : (cI (bl (bst w I (2 ^ I.length)).2)).length = (bl (bst w I (2 ^ I.length)).2).length := by simp [cI]
    refine loop2_list (by omega) (fun o j => o = ((bl (bst w I (2 ^ I.length)).2).take j).map fun k => gi f k) (by simp) ?_ ?_
    · rintro _ j nx hj rfl hx
      have hj' : j < (bl (bst w I (2 ^ I.length)).2).length := by omega
      have hk' := bl_at hb.2.2 hj'
      refine idx_at hj ?_
      rw [cI_get]
      refine idx_at (show _ < f.length by omega) ⟨?_, hx _ ?_⟩
      · have hll : (List.map (fun k => gi f k) ((bl (bst w I (2 ^ I.length)).2).take j)).length ≤ 12 := by rw [List.length_map, List.length_take]; omega
        unfold ln; simp only [List.length_singleton]; omega
      · rw [List.take_succ_eq_append_getElem hj', List.map_append]
        simp only [List.map_cons, List.map_nil]
        rw [gi_at (show (bl (bst w I (2 ^ I.length)).2)[j] < f.length by omega)]
    · rintro _ rfl
      rw [hcl, List.take_length]; exact hq
end
/-! ### the failed edits -/
def eAt (E : List Edit) (i : Nat) : List Int := (E.getD i ⟨[]⟩).Sets
theorem eAt_at {E : List Edit} {i : Nat} (h : i < E.length) : eAt E i = E[i].Sets := by unfold eAt; simp [List.getD_eq_getElem?_getD, h]
def fx (E : List Edit) (vs : List Int) (n : Nat) : List Nat := (List.range n).filter fun i => boxIn (eAt E i) vs
theorem fx_succ {E : List Edit} {vs : List Int} {n : Nat} : fx E vs (n + 1) = fx E vs n ++ if boxIn (eAt E n) vs then [n] else [] := by
  unfold fx; rw [List.range_succ, List.filter_append, List.filter_cons, List.filter_nil]
def iAt (sx : List Variable) (E : List Edit) (k : Nat) : List Int := invl sx (eAt E k)
def pk2 (sx : List Variable) (E : List Edit) (vs : List Int) : Bool := (fx E vs E.length).all (fun k => !(iAt sx E k).isEmpty) && decide ((fx E vs E.length).length ≤ 12)
theorem fx_le {E : List Edit} {vs : List Int} : ∀ {n m : Nat}, n ≤ m → (fx E vs n).length ≤ (fx E vs m).length := by
  intro n m h
  induction m with
  | zero => have : n = 0 := by omega
            subst this; exact Nat.le_refl _
  | succ m ih =>
    by_cases e : n = m + 1
    · subst e; exact Nat.le_refl _
    · rw [fx_succ, List.length_append]; have := ih (by omega); omega
theorem fx_len {E : List Edit} {vs : List Int} {n : Nat} : (fx E vs n).length ≤ n := by
  unfold fx
  have := List.length_filter_le (fun i => boxIn (eAt E i) vs) (List.range n)
  rwa [List.length_range] at this
theorem mem_fx {E : List Edit} {vs : List Int} {n k : Nat} : k ∈ fx E vs n ↔ k < n ∧ boxIn (eAt E k) vs = true := by
  unfold fx; rw [List.mem_filter, List.mem_range]
theorem pk2_no {sx : List Variable} {E : List Edit} {vs : List Int} {i : Nat} (hi : i < E.length) (hb : boxIn (eAt E i) vs = true) (he : (iAt sx E i).length = 0) : pk2 sx E vs = false := by
  unfold pk2
  have : ((fx E vs E.length).all fun k => !(iAt sx E k).isEmpty) = false := List.all_eq_false.2 ⟨i, mem_fx.2 ⟨hi, hb⟩, by rw [List.eq_nil_of_length_eq_zero he]; simp⟩
  rw [this]; rfl
theorem pkIn_of {sx : List Variable} {E : List Edit} {vs w : List Int} (hL : Lok sx) (hE : ∀ e ∈ E, e.Sets.length = sx.length) (hw : w.length = sx.length ∧ ∀ x ∈ w, 1 ≤ x ∧ x ≤ 100) (h : pk2 sx E vs = true) :
    PkIn sx.length w ((fx E vs E.length).map (iAt sx E)) (cI (fx E vs E.length)) := by
  unfold pk2 at h
  simp only [Bool.and_eq_true, decide_eq_true_eq] at h
  refine ⟨⟨hw.1, hL.1⟩, hw.2, by rw [List.length_map]; exact h.2, by simp [cI], fun vars hv => ?_⟩
  obtain ⟨k, hk, rfl⟩ := List.mem_map.1 hv
  have h1 := List.all_eq_true.1 h.1 k hk
  have ⟨h2, _⟩ := mem_fx.1 hk
  have h3 : (eAt E k).length = sx.length := by rw [eAt_at h2]; exact hE _ (List.getElem_mem h2)
  have h4 : (iAt sx E k).length ≤ (eAt E k).length := invl_len
  have h0 := hL.1
  refine ⟨⟨?_, by omega⟩, fun v hv => ?_⟩
  · cases e : iAt sx E k with
    | nil => rw [e] at h1; cases h1
    | cons a b => simp
  · obtain ⟨i, rfl, hi, _⟩ := mem_invl.1 hv
    omega
def pkE (sx : List Variable) (l : List Edit) (w vs : List Int) : Bool := pkOk sx l w vs && pk2 sx (maxE sx l (-1)) vs
def pkI (sx : List Variable) (l : List Edit) (vs : List Int) : List (List Int) := (fx (maxE sx l (-1)) vs (maxE sx l (-1)).length).map (iAt sx (maxE sx l (-1)))
def pkB (sx : List Variable) (l : List Edit) (w vs : List Int) : Int := if pkE sx l w vs then (bst w (pkI sx l vs) (2 ^ (pkI sx l vs).length)).1 else 0
def pkL (sx : List Variable) (l : List Edit) (w vs : List Int) : List Int := if pkE sx l w vs then listOf (cI (fx (maxE sx l (-1)) vs (maxE sx l (-1)).length)) (bst w (pkI sx l vs) (2 ^ (pkI sx l vs).length)).2 else []
theorem pk_facts {sx : List Variable} {l : List Edit} {w vs : List Int} (g : pkOk sx l w vs = true) : (Lok sx ∧ cnt sx ≤ 100 ∧ Eok sx.length l) ∧ (w.length = sx.length ∧ ∀ x ∈ w, 1 ≤ x ∧ x ≤ 100) ∧ vs.length = sx.length ∧ Vok vs := by
  unfold pkOk at g
  simp only [Bool.and_eq_true] at g
  have hL := (maxOk_of g.1.1).1
  have hf := g.2
  unfold fitOk at hf; simp only [Bool.and_eq_true, decide_eq_true_eq] at hf
  have hw := g.1.2
  unfold wOk at hw; simp only [Bool.and_eq_true, decide_eq_true_eq] at hw
  refine ⟨maxOk_of g.1.1, ⟨hw.1, inb_all hw.2⟩, hf.1, fun x hx => ?_⟩
  obtain ⟨i, hi, rfl⟩ := List.mem_iff_getElem.1 hx
  have h1 := inb_iff'.1 (range_all_at hf.2 (show i < sx.length by omega))
  rw [gi_at hi, vAt_at (by omega)] at h1
  have := lv_at hL (show i < sx.length by omega)
  omega
theorem cI_succ {E : List Edit} {vs : List Int} {n : Nat} : cI (fx E vs (n + 1)) = cI (fx E vs n) ++ if boxIn (eAt E n) vs then [(n : Int)] else [] := by
  rw [fx_succ]; unfold cI; rw [List.map_append]; split <;> rfl
theorem fi_succ {sx : List Variable} {E : List Edit} {vs : List Int} {n : Nat} : (fx E vs (n + 1)).map (iAt sx E) = (fx E vs n).map (iAt sx E) ++ if boxIn (eAt E n) vs then [iAt sx E n] else [] := by
  rw [fx_succ, List.map_append]; split <;> rfl
theorem all_fx {sx : List Variable} {E : List Edit} {vs : List Int} {n : Nat} (h : (fx E vs n).all (fun k => !(iAt sx E k).isEmpty) = true) (h2 : boxIn (eAt E n) vs = true → 0 < (iAt sx E n).length) : (fx E vs (n + 1)).all (fun k => !(iAt sx E k).isEmpty) = true := by
  rw [fx_succ, List.all_append, h, Bool.true_and]
  split
  · rename_i g
    have := h2 g
    cases e : iAt sx E n with
    | nil => rw [e] at this; simp at this
    | cons a b => simp [e]
  · rfl
theorem iPack_ok {sx : List Variable} {l : List Edit} {w vs : List Int} {Q : Int → List Int → Bool → Prop} (hW : Wide sx l) (hww : w.length ≤ 1048576) (hvs : vs.length ≤ 1048576) (hq : Q (pkB sx l w vs) (pkL sx l w vs) (pkE sx l w vs)) : impl_PackingBound sx l w vs Q := by
  unfold impl_PackingBound
  unfold pkB pkL at hq
  refine jn_bool (!pkOk sx l w vs) ?_ fun k hk => isMendable_ok hW hww (br_nb (fun g => ?_) (fun g => areValues_ok (by simp only [Bool.and_eq_true] at g; exact (maxOk_of g.1).1) ?_))
  · refine br_nb (fun g => ?_) (fun g => ?_)
    · have : pkE sx l w vs = false := by unfold pkE; rw [g]; rfl
      rw [this] at hq; exact hq
    · have eE : pkE sx l w vs = pk2 sx (maxE sx l (-1)) vs := by unfold pkE; rw [g]; rfl
      rw [eE] at hq
      have ⟨⟨hL, hc, he⟩, hw, hvl, hvok⟩ := pk_facts g
      have h0 := hL.1
      have hen := (maxE_len (l := l) (v := -1) hL hc).1
      refine maximalEdits_ok hL hc he ?_
      have hsets := maxE_sets (l := l) (v := -1) hL
      unfold pkI at hq
      generalize maxE sx l (-1) = E at hen hsets hq ⊢
      refine loop4_list (by omega) (fun fl bs ms i => fl = cI (fx E vs i) ∧ bs = bnd w ((fx E vs i).map (iAt sx E)) ∧ ms = msk ((fx E vs i).map (iAt sx E)) ∧ (fx E vs i).all (fun k => !(iAt sx E k).isEmpty) = true ∧ (fx E vs i).length ≤ 12) ⟨rfl, rfl, rfl, rfl, by simp [fx]⟩ ?_ ?_
      · rintro _ _ _ i nx hi ⟨rfl, rfl, rfl, hall, h12⟩ hx
        have hin := inE_B hL.2 (hsets _ (List.getElem_mem hi))
        have hil := inB_length hin
        have hfl := fx_len (E := E) (vs := vs) (n := i)
        have ea := eAt_at hi
        refine jn_ok (P := fun k => (boxIn (eAt E i) vs = true → 0 < (iAt sx E i).length ∧ (fx E vs i).length < 12) → k (cI (fx E vs (i + 1))) (bnd w ((fx E vs (i + 1)).map (iAt sx E))) (msk ((fx E vs (i + 1)).map (iAt sx E)))) (fun hh => hx _ _ _ ⟨rfl, rfl, rfl, all_fx hall (fun c => (hh c).1), ?_⟩) fun k hk => idx_at hi (fails_ok (inB_Sb hL hin).ok hvok (show vs.length ≤ E[i].Sets.length by omega) hvs (br_nb (fun g1 => ?_) (fun g1 => involvedIn_ok hL hil ?_)))
        · rw [fx_succ, List.length_append]
          split
          · rename_i c; have := (hh c).2; simp only [List.length_singleton]; omega
          · simpa using h12
        · have g1' : boxIn (eAt E i) vs = false := by rw [ea]; exact g1
          have := hk (fun c => by rw [g1'] at c; cases c)
          rw [cI_succ, fi_succ, g1'] at this
          simpa using this
        · have g1' : boxIn (eAt E i) vs = true := by rw [ea]; exact g1
          have hvr : ∀ v ∈ invl sx E[i].Sets, 0 ≤ v ∧ v < sx.length := fun v hv => by
            obtain ⟨j, rfl, hj, _⟩ := mem_invl.1 hv; omega
          have hwin : Win w sx.length (invl sx E[i].Sets) := ⟨⟨hw.1, h0⟩, hw.2, hvr⟩
          have hiv := invl_len (sx := sx) (t := E[i].Sets)
          have hmk := mkN_ok (vars := invl sx E[i].Sets) (fun v hv => by have := hvr v hv; omega)
          have e63 : (2 : Nat) ^ 62 = 4611686018427387904 := by decide
          dsimp only
          refine loop3_list (xs := invl sx E[i].Sets) (by omega) (fun b m j => b = lst w ((invl sx E[i].Sets).take j) ∧ m = ((mkN ((invl sx E[i].Sets).take j) : Nat) : Int)) ⟨rfl, rfl⟩ ?_ ?_
          · rintro _ _ j nx2 hj ⟨rfl, rfl⟩ hx2
            have aj := hwin.at hj
            have hvj := hvr _ (List.getElem_mem hj)
            refine idx_at hj (idx_of aj.1 aj.2.1 ⟨aj.1, hx2 _ _ ⟨?_, ?_⟩⟩)
            · rw [lst_take hj]; exact congrArg _ (gi_at aj.2.1).symm
            · have hlt : 2 ^ ((invl sx E[i].Sets)[j]).toNat < 2 ^ 62 := Nat.pow_lt_pow_right (by decide) (by omega)
              have := (hmk j (by omega)).1
              rw [shl1 (by omega) (by omega), or_nat (by omega) hlt, mkN_take hj]
          · rintro _ _ ⟨rfl, rfl⟩
            rw [List.take_length]
            have hm := hmk (invl sx E[i].Sets).length (Nat.le_refl _)
            rw [List.take_length] at hm
            have ez : (((mkN (invl sx E[i].Sets) : Nat) : Int) == 0) = decide ((invl sx E[i].Sets).length = 0) := by
              cases e : invl sx E[i].Sets with
              | nil => rfl
              | cons a r =>
                rw [e] at hm
                have ha := hvr a (by rw [e]; exact List.mem_cons_self ..)
                have h1 := hm.2 a.toNat
                rw [show ((a.toNat : Nat) : Int) = a by omega, hasB_iff.2 (List.mem_cons_self ..)] at h1
                have : mkN (a :: r) ≠ 0 := fun c => by rw [c] at h1; simp at h1
                have : ((mkN (a :: r) : Nat) : Int) ≠ 0 := by omega
                rw [beq_false_of_ne this]; simp
            rw [ez]
            have hcf : (cI (fx E vs i)).length = (fx E vs i).length := by simp [cI]
            refine jn_bool (decide ((invl sx E[i].Sets).length = 0) || decide ((fx E vs i).length = 12)) ?_ fun k2 hk2 => br_dec (fun g2 => ?_) (fun g2 => ?_)
            · refine br_bo (fun g2 => ?_) (fun g2 => ⟨?_, ?_, ?_, ?_⟩)
              · have : pk2 sx E vs = false := by
                  simp only [Bool.or_eq_true, decide_eq_true_eq] at g2
                  rcases g2 with g2 | g2
                  · exact pk2_no hi g1' (by unfold iAt; rw [ea]; exact g2)
                  · unfold pk2
                    have h1 : (fx E vs (i + 1)).length = 13 := by rw [fx_succ, g1', if_pos rfl, List.length_append, g2]; rfl
                    have h2 := fx_le (E := E) (vs := vs) (show i + 1 ≤ E.length by omega)
                    rw [decide_eq_false (by omega), Bool.and_false]
                rw [this] at hq; exact hq
              · unfold ln; simp only [List.length_singleton]; omega
              · unfold ln bnd; simp only [List.length_singleton, List.length_map]; omega
              · unfold ln msk; simp only [List.length_singleton, List.length_map]; omega
              · simp only [Bool.or_eq_false_iff, decide_eq_false_iff_not] at g2
                have := hk (fun _ => ⟨by unfold iAt; rw [ea]; omega, by omega⟩)
                rw [cI_succ, fi_succ, g1', if_pos rfl, if_pos rfl] at this
                unfold bnd msk at this ⊢
                rw [List.map_append, List.map_append] at this
                simp only [List.map_cons, List.map_nil] at this
                have ei : iAt sx E i = invl sx E[i].Sets := by unfold iAt; rw [ea]
                rw [ei] at this
                exact this
            · rw [decide_eq_true g2, Bool.true_or] at hk2; exact hk2
            · rw [decide_eq_false g2, Bool.false_or] at hk2
              have e : (ln (cI (fx E vs i)) == 12) = decide ((fx E vs i).length = 12) := by
                unfold ln; rw [hcf]; rw [Bool.eq_iff_iff]; simp; omega
              rw [e]; exact hk2
      · rintro _ _ _ ⟨rfl, rfl, rfl, hall, h12⟩
        have hp2 : pk2 sx E vs = true := by unfold pk2; rw [hall, decide_eq_true h12]; rfl
        rw [hp2, if_pos rfl, if_pos rfl] at hq
        exact iSearch_ok (pkIn_of hL (fun e he => inB_length (inE_B hL.2 (hsets e he))) hw hp2) hq
  · have : pkOk sx l w vs = false := by unfold pkOk; rw [g]; rfl
    rw [this] at hk; exact hk
  · have : pkOk sx l w vs = fitOk sx vs := by unfold pkOk; rw [g]; rfl
    rw [this] at hk; exact hk
end Go.Proofs.Ytklajcbpnpkniaa
