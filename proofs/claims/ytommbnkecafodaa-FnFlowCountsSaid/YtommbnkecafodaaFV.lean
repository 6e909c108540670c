/- The reference's fillings: what is left, a path found, something put along it. -/
import Derived.Test.YtommbnkecafodaaFU
set_option linter.unusedVariables false
set_option autoImplicit false
namespace Go.Proofs.Ytommbnkecafodaa
open Go Go.RowKit Go.Gv

theorem l1Own_ok {l : List Int} {Q : List Int → Prop} (hl : l.length ≤ 1048576) (h : Q l) : spec_l1Own l Q := by
  unfold spec_l1Own
  exact ⟨by unfold ln; simp; omega, by simpa using h⟩
theorem tOwn_ok {x : List (List Int)} {Q : List (List Int) → Prop} (hs : small x) (h : Q x) : spec_tOwn x Q := by
  obtain ⟨hl, hr⟩ := hs
  unfold spec_tOwn
  refine loop2_list (by omega) (fun out i => out = x.take i) (by simp) (fun out i nx hi e hn => idx_at hi (l1Own_ok (hr _ (List.getElem_mem hi)) ⟨?_, hn _ ?_⟩)) (fun out e => ?_)
  · rw [e]; unfold ln; simp; omega
  · rw [e, List.take_succ_eq_append_getElem hi]
  · rw [e, List.take_length]; exact h
theorem tColumn_ok {n m j : Nat} {x : List (List Int)} {Q : List Int → Prop} (hx : Sh n m x) (hn : n ≤ 1000) (hj : j < m) (h : ∀ s, s.length = n → (∀ i, i < n → s.getD i 0 = mt x i j) → Q s) : spec_tColumn x j Q := by
  unfold spec_tColumn
  have hl := hx.1
  refine loop2_list (by omega) (fun out i => out.length = i ∧ ∀ a, a < i → out.getD a 0 = mt x a j) ⟨rfl, fun a ha => by omega⟩ (fun out i nx hi ⟨h1, h2⟩ hnx => idx_gd (d := []) rfl hi (idx_gd (d := 0) rfl (by rw [hx.2 i (by omega)]; exact hj) ⟨by unfold ln; simp; omega, hnx _ ⟨by simp; omega, fun a ha => ?_⟩⟩)) (fun out ⟨h1, h2⟩ => h out (by omega) fun i hi => h2 i (by omega))
  rw [List.getD_eq_getElem?_getD, List.getElem?_append]
  by_cases c : a < out.length
  · rw [if_pos c, ← List.getD_eq_getElem?_getD]; exact h2 a (by omega)
  · have : a = i := by omega
    subst this
    rw [if_neg c, h1, Nat.sub_self]; rfl
structure Fs (t : Transport) (n m : Nat) (X : List (List Int)) (rows cols : List Int) : Prop where
  sh : Sh n m X
  bd : ∀ i j, i < n → j < m → mt t.Lo i j ≤ mt X i j ∧ mt X i j ≤ mt t.Hi i j
  rl : rows.length = n
  cl : cols.length = m
  row : ∀ i, i < n → rows.getD i 0 = t.Rows.getD i 0 - sm m (mt X i)
  col : ∀ j, j < m → cols.getD j 0 = t.Cols.getD j 0 - sm n (fun i => mt X i j)
  r0 : ∀ i, i < n → 0 ≤ rows.getD i 0
  c0 : ∀ j, j < m → 0 ≤ cols.getD j 0
theorem row_lim {t : Transport} {n m : Nat} (g : Gd t n m) {X : List (List Int)} (hX : Sh n m X) (hb : ∀ i j, i < n → j < m → mt t.Lo i j ≤ mt X i j ∧ mt X i j ≤ mt t.Hi i j) {i : Nat} (hi : i < n) : lim (X.getD i []) ∧ ls (X.getD i []) = sm m (mt X i) := by
  have hl := hX.2 i hi
  refine ⟨⟨by have := g.m8; omega, fun j hj => ?_⟩, ?_⟩
  · have := hb i j hi (by omega); have := g.bd i j hi (by omega)
    show 0 ≤ mt X i j ∧ mt X i j ≤ 1000000000; omega
  · unfold ls; rw [hl]; rfl
theorem tStart_ok {t : Transport} {n m : Nat} {Q : TFill → Bool → Prop} (g : Gd t n m) (h0 : (∀ y, ¬ FI t n m y) → ∀ f, Q f false) (h1 : ∀ rows cols, Fs t n m t.Lo rows cols → Q (TFill.mk t t.Lo rows cols) true) : spec_tStart t Q := by
  unfold spec_tStart
  have hn8 := g.n8; have hm8 := g.m8; have rl := g.rl; have cl := g.cl
  have lb : ∀ i j, i < n → j < m → mt t.Lo i j ≤ mt t.Lo i j ∧ mt t.Lo i j ≤ mt t.Hi i j := fun i j hi hj => ⟨Int.le_refl _, (g.bd i j hi hj).2.1⟩
  have bl : bnd n m t.Lo := fun i j hi hj => by have := g.bd i j hi hj; omega
  refine tOwn_ok (g.lo.small (by omega) (by omega)) ?_
  refine loop2_listF (xs := t.Rows) (by omega) (fun rows i => rows.length = i ∧ ∀ a, a < i → rows.getD a 0 = t.Rows.getD a 0 - sm m (mt t.Lo a)) ⟨rfl, fun a ha => by omega⟩ (fun rows i nx hi ⟨h2, h3⟩ hnx => ?_) (fun rows ⟨h2, h3⟩ => ?_)
  · have hi' : i < n := by omega
    obtain ⟨l1, l2⟩ := row_lim g g.lo lb hi'
    have hb1 := g.rw i hi'
    have hb2 := sm_bnd (n := m) (f := mt t.Lo i) (B := 1000000000) (fun j hj => bl i j hi' hj)
    refine idx_gd (d := 0) rfl hi (idx_gd (d := []) rfl (by rw [g.lo.1]; exact hi') (det1_of (sm m (mt t.Lo i)) (tSum_ok l1 (by rw [l2])) ⟨by unfold ln; simp; omega, ?_⟩))
    rw [wr_in (x := t.Rows.getD i 0 - sm m (mt t.Lo i)) (by omega) (by omega)]
    refine hnx _ ⟨by simp; omega, fun a ha => ?_⟩
    rw [List.getD_eq_getElem?_getD, List.getElem?_append]
    by_cases c : a < rows.length
    · rw [if_pos c, ← List.getD_eq_getElem?_getD]; exact h3 a (by omega)
    · have : a = i := by omega
      subst this
      rw [if_neg c, h2, Nat.sub_self]; rfl
  rw [rl] at h2 h3
  refine loop2_listF (xs := t.Cols) (by omega) (fun cols j => cols.length = j ∧ ∀ b, b < j → cols.getD b 0 = t.Cols.getD b 0 - sm n (fun i => mt t.Lo i b)) ⟨rfl, fun a ha => by omega⟩ (fun cols j nx hj ⟨h4, h5⟩ hnx => ?_) (fun cols ⟨h4, h5⟩ => ?_)
  · have hj' : j < m := by omega
    have hb1 := g.cw j hj'
    have hb2 := sm_bnd (n := n) (f := fun i => mt t.Lo i j) (B := 1000000000) (fun i hi => bl i j hi hj')
    refine idx_gd (d := 0) rfl hj (tColumn_ok g.lo (by omega) hj' fun s hs es => det1_of (sm n (fun i => mt t.Lo i j)) (tSum_ok ⟨by omega, fun i hi => by rw [es i (by omega)]; exact bl i j (by omega) hj'⟩ ?_) ⟨by unfold ln; simp; omega, ?_⟩)
    · unfold ls; rw [hs]; exact sm_congr fun i hi => es i hi
    rw [wr_in (x := t.Cols.getD j 0 - sm n (fun i => mt t.Lo i j)) (by omega) (by omega)]
    refine hnx _ ⟨by simp; omega, fun a ha => ?_⟩
    rw [List.getD_eq_getElem?_getD, List.getElem?_append]
    by_cases c : a < cols.length
    · rw [if_pos c, ← List.getD_eq_getElem?_getD]; exact h5 a (by omega)
    · have : a = j := by omega
      subst this
      rw [if_neg c, h4, Nat.sub_self]; rfl
  rw [cl] at h4 h5
  have up1 : ∀ i, i < n → rows.getD i 0 ≤ 100000 := fun i hi => by
    have := h3 i hi; have := g.rw i hi; have := sm_nonneg (n := m) (f := mt t.Lo i) (fun j hj => (bl i j hi hj).1); omega
  have up2 : ∀ j, j < m → cols.getD j 0 ≤ 100000 := fun j hj => by
    have := h5 j hj; have := g.cw j hj; have := sm_nonneg (n := n) (f := fun i => mt t.Lo i j) (fun i hi => (bl i j hi hj).1); omega
  have i1 : rows.all (inb 0 100000) = true ↔ ∀ i, i < n → 0 ≤ rows.getD i 0 := by
    rw [all_get, h2]; exact ⟨fun k i hi => (inb_iff'.1 (k i hi)).1, fun k i hi => inb_iff'.2 ⟨k i hi, up1 i hi⟩⟩
  have i2 : cols.all (inb 0 100000) = true ↔ ∀ j, j < m → 0 ≤ cols.getD j 0 := by
    rw [all_get, h4]; exact ⟨fun k i hi => (inb_iff'.1 (k i hi)).1, fun k i hi => inb_iff'.2 ⟨k i hi, up2 i hi⟩⟩
  refine jn_bool (rows.all (inb 0 100000) && cols.all (inb 0 100000)) ?_ fun k hk => l1All_ok (by omega) (br_bo (fun c => l1All_ok (by omega) ?_) (fun c => ?_))
  · by_cases c : rows.all (inb 0 100000) = true ∧ cols.all (inb 0 100000) = true
    · rw [c.1, c.2]
      exact h1 rows cols ⟨g.lo, lb, h2, h4, h3, h5, i1.1 c.1, i2.1 c.2⟩
    · have e : (rows.all (inb 0 100000) && cols.all (inb 0 100000)) = false := by
        rw [Bool.eq_false_iff, ne_eq, Bool.and_eq_true]; exact c
      rw [e]
      refine h0 (fun y fy => c ⟨i1.2 fun i hi => ?_, i2.2 fun j hj => ?_⟩) _
      · have := fy.row i hi; rw [h3 i hi]
        have h6 : sm m (mt t.Lo i) ≤ sm m (y i) := sm_le fun j hj => (fy.bd i j hi hj).1
        have h7 : sm m (y i) ≤ t.Rows.getD i 0 := this
        omega
      · rw [h5 j hj]
        have h6 : sm n (fun i => mt t.Lo i j) ≤ sm n (fun i => y i j) := sm_le fun i hi => (fy.bd i j hi hj).1
        have h7 : sm n (fun i => y i j) ≤ t.Cols.getD j 0 := fy.col j hj
        omega
  · rw [c, Bool.true_and] at hk; exact hk
  · rw [c, Bool.false_and] at hk; exact hk
/-- What is left from node to node. -/
def rm2 (t : Transport) (n m : Nat) (X : List (List Int)) : Nat → Nat → Int := rs n m (mt t.Lo) (mt t.Hi) (mt X) (fun _ _ => true)
theorem room_ok {t : Transport} {n m u v : Nat} {X : List (List Int)} {rows cols : List Int} {Q : Int → Prop} (g : Gd t n m) (F : Fs t n m X rows cols) (hu : u < n + m) (hv : v < n + m) (h : Q (rm2 t n m X u v)) : spec_tFill_room (TFill.mk t X rows cols) u v Q := by
  unfold spec_tFill_room
  dsimp only
  have hn8 := g.n8; have hm8 := g.m8
  have er : ln rows = (n : Int) := by unfold ln; rw [F.rl]
  rw [er]
  have col1 : ∀ k : Nat, k < m → wr (((n + k : Nat) : Int) - (n : Int)) = (k : Int) := fun k hk => by rw [wr_in (by omega) (by omega)]; omega
  rcases node hu with h1 | ⟨j, hj, rfl⟩ <;> rcases node hv with h2 | ⟨k, hk, rfl⟩
  · refine jn_bool false (br_false rfl (jn_bool false (br_false rfl ?_) fun k hk => br_no (by omega) hk)) fun k hk => br_yes (by omega) (by rw [decide_eq_false (by omega)]; exact hk)
    unfold rm2 at h; rw [rs_rr h1 h2] at h; exact h
  · have hb := F.bd u k h1 hk; have hb0 := g.b0 u k h1 hk
    refine jn_bool true (br_true rfl ?_) fun k' hk' => br_yes (by omega) (by rw [decide_eq_true (by omega)]; exact hk')
    rw [col1 k hk]
    refine idx_mt g.hi rfl rfl h1 hk (idx_mt F.sh rfl rfl h1 hk ?_)
    rw [wr_in (by omega) (by omega)]
    unfold rm2 at h; rw [rs_rc h1 hk, if_pos rfl] at h; exact h
  · have hb := F.bd v j h2 hj; have hb0 := g.b0 v j h2 hj
    refine jn_bool false (br_false rfl (jn_bool true (br_true rfl ?_) fun k' hk' => br_yes (by omega) (by rw [decide_eq_true (by omega)]; exact hk'))) fun k' hk' => br_no (by omega) hk'
    rw [col1 j hj]
    refine idx_mt F.sh rfl rfl h2 hj (idx_mt g.lo rfl rfl h2 hj ?_)
    rw [wr_in (by omega) (by omega)]
    unfold rm2 at h; rw [rs_cr h2 hj, if_pos rfl] at h; exact h
  · refine jn_bool false (br_false rfl (jn_bool false (br_false rfl ?_) fun k' hk' => br_yes (by omega) (by rw [decide_eq_false (by omega)]; exact hk'))) fun k' hk' => br_no (by omega) hk'
    unfold rm2 at h; rw [rs_cc] at h; exact h
theorem l1Least_ok {a b : Int} {Q : Int → Prop} (h : Q (if a < b then a else b)) : spec_l1Least a b Q := by
  unfold spec_l1Least
  refine br_dec (fun c => ?_) (fun c => ?_)
  · rw [if_pos c] at h; exact h
  · rw [if_neg c] at h; exact h
/-- A way back from a column to a row with something left. -/
structure Ch (n N : Nat) (fromx : List Int) (rm : Nat → Nat → Int) (rows : Nat → Int) (d : Nat → Nat) (e K : Nat) (c : Nat → Nat) : Prop where
  fl : fromx.length = N
  c0 : c 0 = e
  lt : ∀ j, j ≤ K → c j < N
  st : ∀ j, j < K → fromx.getD (c j) 0 = (c (j + 1) : Int) ∧ d (c (j + 1)) < d (c j) ∧ 0 < rm (c (j + 1)) (c j)
  en : fromx.getD (c K) 0 = -1
  row : c K < n
  pos : 0 < rows (c K)
theorem tpush_ok {t : Transport} {n m e K : Nat} {X : List (List Int)} {rows cols fromx : List Int} {c d : Nat → Nat} {Q : List (List Int) → List Int → List Int → Prop} (g : Gd t n m) (F : Fs t n m X rows cols)
    (hc : Ch n (n + m) fromx (rm2 t n m X) (fun i => rows.getD i 0) d (n + e) K c) (he : e < m) (hce : 0 < cols.getD e 0)
    (h : ∀ X' rows' cols', Fs t n m X' rows' cols' → sm n (fun i => rows'.getD i 0) < sm n (fun i => rows.getD i 0) → Q X' rows' cols') : spec_tFill_push (TFill.mk t X rows cols) fromx ((n + e : Nat) : Int) Q := by
  unfold spec_tFill_push
  dsimp only
  have hn8 := g.n8; have hm8 := g.m8
  have er : ln rows = (n : Int) := by unfold ln; rw [F.rl]
  rw [er]
  have ee : wr (((n + e : Nat) : Int) - (n : Int)) = (e : Int) := by rw [wr_in (by omega) (by omega)]; omega
  rw [ee]
  have fl := hc.fl
  refine idx_gd (d := 0) rfl (by show e < cols.length; rw [F.cl]; exact he) ?_
  refine ⟨fun most start => ∃ k, k ≤ K ∧ start = (c k : Int) ∧ 0 < most ∧ most ≤ cols.getD e 0 ∧ ∀ j, j < k → most ≤ rm2 t n m X (c (j + 1)) (c j), fun _ s => d s.toNat, ⟨0, Nat.zero_le _, by rw [hc.c0], hce, Int.le_refl _, fun j hj => by omega⟩, ?_⟩
  rintro most _ ⟨k, hk, rfl, m0, m1, m2⟩
  refine idx_gd (d := 0) rfl (by rw [fl]; exact hc.lt k hk) ?_
  by_cases hkK : k < K
  · obtain ⟨s1, s2, s3⟩ := hc.st k hkK
    refine br_yes (by rw [s1]; omega) (idx_gd (d := 0) rfl (by rw [fl]; exact hc.lt k hk) ?_)
    rw [s1]
    refine room_ok (t := t) g F (hc.lt (k + 1) (by omega)) (hc.lt k hk) (l1Least_ok (idx_gd (d := 0) rfl (by rw [fl]; exact hc.lt k hk) ?_))
    rw [s1]
    refine ⟨⟨k + 1, by omega, rfl, by split <;> omega, by split <;> omega, fun j hj => ?_⟩, by show d (Int.toNat (c (k + 1) : Int)) < d (Int.toNat (c k : Int)); rw [Int.toNat_natCast, Int.toNat_natCast]; exact s2⟩
    by_cases e : j = k
    · subst e; split <;> omega
    · have := m2 j (by omega); split <;> omega
  have ek : k = K := by omega
  subst ek
  refine br_no (by rw [hc.en]; omega) ?_
  have hrow := hc.row; have hpos := hc.pos
  refine idx_gd (d := 0) rfl (by show c k < rows.length; rw [F.rl]; exact hrow) (l1Least_ok ?_)
  let a : Int := if most < rows.getD (c k) 0 then most else rows.getD (c k) 0
  have a0 : 0 < a := by show (0 : Int) < (if _ then _ else _); have : 0 < rows.getD (c k) 0 := hpos; split <;> omega
  have a1 : a ≤ cols.getD e 0 := by show (if _ then _ else _) ≤ _; split <;> omega
  have a2 : a ≤ rows.getD (c k) 0 := by show (if _ then _ else _) ≤ _; split <;> omega
  have a3 : ∀ j, j < k → a ≤ rm2 t n m X (c (j + 1)) (c j) := fun j hj => by
    have := m2 j hj; show (if _ then _ else _) ≤ _; split <;> omega
  have hrb : rows.getD (c k) 0 ≤ 100000 := by
    rw [F.row _ hrow]; have := g.rw _ hrow
    have := sm_nonneg (n := m) (f := mt X (c k)) (fun j hj => by have := F.bd _ j hrow hj; have := g.bd _ j hrow hj; omega); omega
  have hcb : cols.getD e 0 ≤ 100000 := by
    rw [F.col _ he]; have := g.cw _ he
    have := sm_nonneg (n := n) (f := fun i => mt X i e) (fun i hi => by have := F.bd i e hi he; have := g.bd i e hi he; omega); omega
  show Loop2 (fun (vx137 : Int) (x138 : List (List Int)) nx155 => idx fromx vx137 fun x156 => br (decide (x156 ≥ 0)) (jn (fun (k : (List (List Int)) → Prop) => br (decide (vx137 ≥ (n : Int))) (idx fromx vx137 fun x199 => idx x138 x199 fun x211 => idx x211 (wr (vx137 - (n : Int))) fun x224 =>
      (0 : Int) ≤ (wr (vx137 - (n : Int))) ∧ Int.toNat (wr (vx137 - (n : Int))) < List.length x211 ∧ (k (List.set x138 (Int.toNat x199) (List.set x211 (Int.toNat (wr (vx137 - (n : Int)))) (wr (x224 + a)))))) <|
      idx x138 vx137 fun x256 => idx fromx vx137 fun x272 => idx x256 (wr (x272 - (n : Int))) fun x284 =>
      (0 : Int) ≤ (wr (x272 - (n : Int))) ∧ Int.toNat (wr (x272 - (n : Int))) < List.length x256 ∧ (k (List.set x138 (Int.toNat vx137) (List.set x256 (Int.toNat (wr (x272 - (n : Int)))) (wr (x284 - a)))))) <|
      fun (x181 : List (List Int)) => idx fromx vx137 fun x319 => nx155 x319 x181) <|
      idx rows (c k : Int) fun x336 => (0 : Int) ≤ (c k : Int) ∧ Int.toNat (c k : Int) < List.length rows ∧ (idx cols (e : Int) fun x358 => (0 : Int) ≤ (e : Int) ∧ Int.toNat (e : Int) < List.length cols ∧ (
      Q x138 (List.set rows (Int.toNat (c k : Int)) (wr (x336 - a))) (List.set cols (Int.toNat (e : Int)) (wr (x358 - a)))))) ((n + e : Nat) : Int) X
  refine ⟨fun v Y => ∃ q, q ≤ k ∧ v = (c q : Int) ∧ Sh n m Y ∧ (∀ i j, i < n → j < m → mt t.Lo i j ≤ mt Y i j ∧ mt Y i j ≤ mt t.Hi i j) ∧ (∀ i, i < n → sm m (mt Y i) = sm m (mt X i) + if i = c q then a else 0) ∧
      (∀ j, j < m → sm n (fun i => mt Y i j) = sm n (fun i => mt X i j) + (if n + j = c 0 then a else 0) - if n + j = c q then a else 0) ∧ ∀ i j, i < n → j < m → d i < d (c q) ∨ d (n + j) < d (c q) → mt Y i j = mt X i j,
    fun v _ => d v.toNat, ⟨0, Nat.zero_le _, by rw [hc.c0], F.sh, F.bd, fun i hi => ?_, fun j hj => by omega, fun _ _ _ _ _ => rfl⟩, ?_⟩
  · rw [hc.c0, if_neg (by omega)]; omega
  rintro _ Y ⟨q, hq, rfl, y1, y2, y3, y4, y5⟩
  refine idx_gd (d := 0) rfl (by rw [fl]; exact hc.lt q hq) ?_
  by_cases hqk : q < k
  · obtain ⟨s1, s2, s3⟩ := hc.st q hqk
    have l1 := hc.lt (q + 1) (by omega); have l0 := hc.lt q hq
    have ha3 := a3 q hqk
    refine br_yes (by rw [s1]; omega) ?_
    have fin : ∀ Y', Sh n m Y' → (∀ i j, i < n → j < m → mt t.Lo i j ≤ mt Y' i j ∧ mt Y' i j ≤ mt t.Hi i j) → (∀ i, i < n → sm m (mt Y' i) = sm m (mt X i) + if i = c (q + 1) then a else 0) →
        (∀ j, j < m → sm n (fun i => mt Y' i j) = sm n (fun i => mt X i j) + (if n + j = c 0 then a else 0) - if n + j = c (q + 1) then a else 0) → (∀ i j, i < n → j < m → d i < d (c (q + 1)) ∨ d (n + j) < d (c (q + 1)) → mt Y' i j = mt X i j) →
        (fun x181 : List (List Int) => idx fromx (c q : Int) fun x319 => (∃ q', q' ≤ k ∧ x319 = (c q' : Int) ∧ Sh n m x181 ∧ (∀ i j, i < n → j < m → mt t.Lo i j ≤ mt x181 i j ∧ mt x181 i j ≤ mt t.Hi i j) ∧ (∀ i, i < n → sm m (mt x181 i) = sm m (mt X i) + if i = c q' then a else 0) ∧
      (∀ j, j < m → sm n (fun i => mt x181 i j) = sm n (fun i => mt X i j) + (if n + j = c 0 then a else 0) - if n + j = c q' then a else 0) ∧ ∀ i j, i < n → j < m → d i < d (c q') ∨ d (n + j) < d (c q') → mt x181 i j = mt X i j) ∧ d x319.toNat < d (Int.toNat (c q : Int))) Y' := fun Y' k1 k2 k3 k4 k5 => by
      refine idx_gd (d := 0) rfl (by rw [fl]; exact l0) ?_
      rw [s1]
      exact ⟨⟨q + 1, by omega, rfl, k1, k2, k3, k4, k5⟩, by rw [Int.toNat_natCast, Int.toNat_natCast]; exact s2⟩
    rcases node l0 with z0 | ⟨jj, hjj, ej⟩
    · -- the node is a row: it is reached from a column
      rcases node l1 with z1 | ⟨kk, hkk, ekk⟩
      · unfold rm2 at ha3; rw [rs_rr z1 z0] at ha3; omega
      have hb := y2 (c q) kk z0 hkk; have hb0 := g.b0 (c q) kk z0 hkk
      have un := y5 (c q) kk z0 hkk (.inr (by rw [← ekk]; exact s2))
      unfold rm2 at ha3; rw [ekk, rs_cr z0 hkk, if_pos rfl] at ha3
      refine jn_bool (mst Y (c q) kk (mt Y (c q) kk - a)) (fin _ (mst_sh y1 z0) (fun i j hi hj => ?_) (fun i hi => ?_) (fun j hj => ?_) fun i j hi hj hd => ?_) fun k' hk' => br_no (by omega) ?_
      · rw [mst_mt y1 z0 hkk]
        split
        · rename_i cc; obtain ⟨rfl, rfl⟩ := cc; omega
        · exact y2 i j hi hj
      · rw [sm_congr (fun j hj => mst_pt y1 z0 hkk (fun _ _ _ _ => rfl) hi hj), pt_row hkk, y3 i hi, if_neg (show ¬ i = c (q + 1) by omega)]
        split <;> omega
      · rw [sm_congr (fun i hi => mst_pt y1 z0 hkk (fun _ _ _ _ => rfl) hi hj), pt_col z0, y4 j hj, if_neg (show ¬ n + j = c q by omega), ekk]
        by_cases cc : j = kk
        · rw [if_pos cc, if_pos (show n + j = n + kk by omega)]; omega
        · rw [if_neg cc, if_neg (show ¬ n + j = n + kk by omega)]; omega
      · rw [mst_mt y1 z0 hkk, if_neg (fun e => by obtain ⟨rfl, rfl⟩ := e; rw [← ekk] at hd; omega)]
        exact y5 i j hi hj (by omega)
      · refine idx_gd (d := []) rfl (by rw [y1.1]; exact z0) (idx_gd (d := 0) rfl (by rw [fl]; exact l0) ?_)
        rw [s1, ekk]
        have e2 : wr (((n + kk : Nat) : Int) - (n : Int)) = (kk : Int) := by rw [wr_in (by omega) (by omega)]; omega
        rw [e2]
        refine idx_gd (d := 0) rfl (by rw [y1.2 _ z0]; exact hkk) ⟨by omega, by rw [Int.toNat_natCast, y1.2 _ z0]; exact hkk, ?_⟩
        rw [Int.toNat_natCast, Int.toNat_natCast]
        have e3 : wr ((Y.getD (c q) []).getD kk 0 - a) = mt Y (c q) kk - a := by show wr (mt Y (c q) kk - a) = _; exact wr_in (by omega) (by omega)
        rw [e3]; exact hk'
    · -- the node is a column: it is reached from a row
      rcases node l1 with z1 | ⟨kk, hkk, ekk⟩
      rotate_left
      · unfold rm2 at ha3; rw [ej, ekk, rs_cc] at ha3; omega
      have hb := y2 (c (q + 1)) jj z1 hjj; have hb0 := g.b0 (c (q + 1)) jj z1 hjj
      have un := y5 (c (q + 1)) jj z1 hjj (.inl s2)
      unfold rm2 at ha3; rw [ej, rs_rc z1 hjj, if_pos rfl] at ha3
      refine jn_bool (mst Y (c (q + 1)) jj (mt Y (c (q + 1)) jj + a)) (fin _ (mst_sh y1 z1) (fun i j hi hj => ?_) (fun i hi => ?_) (fun j hj => ?_) fun i j hi hj hd => ?_) fun k' hk' => br_yes (by omega) ?_
      · rw [mst_mt y1 z1 hjj]
        split
        · rename_i cc; obtain ⟨rfl, rfl⟩ := cc; omega
        · exact y2 i j hi hj
      · rw [sm_congr (fun j hj => mst_pt y1 z1 hjj (fun _ _ _ _ => rfl) hi hj), pt_row hjj, y3 i hi, if_neg (show ¬ i = c q by omega)]
        split <;> omega
      · rw [sm_congr (fun i hi => mst_pt y1 z1 hjj (fun _ _ _ _ => rfl) hi hj), pt_col z1, y4 j hj, if_neg (show ¬ n + j = c (q + 1) by omega), ej]
        by_cases cc : j = jj
        · rw [if_pos cc, if_pos (show n + j = n + jj by omega)]; omega
        · rw [if_neg cc, if_neg (show ¬ n + j = n + jj by omega)]; omega
      · rw [mst_mt y1 z1 hjj, if_neg (fun e => by obtain ⟨rfl, rfl⟩ := e; rw [← ej] at hd; omega)]
        exact y5 i j hi hj (by omega)
      · refine idx_gd (d := 0) rfl (by rw [fl]; exact l0) ?_
        rw [s1]
        refine idx_gd (d := []) rfl (by rw [y1.1]; exact z1) ?_
        have e2 : wr ((c q : Int) - (n : Int)) = (jj : Int) := by rw [wr_in (by omega) (by omega)]; omega
        rw [e2]
        refine idx_gd (d := 0) rfl (by rw [y1.2 _ z1]; exact hjj) ⟨by omega, by rw [Int.toNat_natCast, y1.2 _ z1]; exact hjj, ?_⟩
        rw [Int.toNat_natCast, Int.toNat_natCast]
        have e3 : wr ((Y.getD (c (q + 1)) []).getD jj 0 + a) = mt Y (c (q + 1)) jj + a := by show wr (mt Y (c (q + 1)) jj + a) = _; exact wr_in (by omega) (by omega)
        rw [e3]; exact hk'
  have eq : q = k := by omega
  subst eq
  refine br_no (by rw [hc.en]; omega) (idx_gd (d := 0) rfl (by rw [F.rl]; exact hrow) ⟨by omega, by rw [Int.toNat_natCast, F.rl]; exact hrow, idx_gd (d := 0) rfl (by rw [F.cl]; exact he) ⟨by omega, by rw [Int.toNat_natCast, F.cl]; exact he, ?_⟩⟩)
  rw [Int.toNat_natCast, Int.toNat_natCast, wr_in (x := rows.getD (c q) 0 - a) (by omega) (by omega), wr_in (x := cols.getD e 0 - a) (by omega) (by omega)]
  have gr : ∀ i, (rows.set (c q) (rows.getD (c q) 0 - a)).getD i 0 = if i = c q then rows.getD (c q) 0 - a else rows.getD i 0 := fun i => getD_set (by rw [F.rl]; exact hrow)
  have gc : ∀ j, (cols.set e (cols.getD e 0 - a)).getD j 0 = if j = e then cols.getD e 0 - a else cols.getD j 0 := fun j => getD_set (by rw [F.cl]; exact he)
  refine h _ _ _ ⟨y1, y2, by rw [List.length_set]; exact F.rl, by rw [List.length_set]; exact F.cl, fun i hi => ?_, fun j hj => ?_, fun i hi => ?_, fun j hj => ?_⟩ ?_
  · rw [gr, y3 i hi]; have := F.row i hi
    by_cases cc : i = c q
    · rw [if_pos cc, if_pos cc, ← cc]; omega
    · rw [if_neg cc, if_neg cc]; omega
  · rw [gc, y4 j hj, hc.c0, if_neg (show ¬ n + j = c q by omega)]; have := F.col j hj
    by_cases cc : j = e
    · rw [if_pos cc, if_pos (by omega), ← cc]; omega
    · rw [if_neg cc, if_neg (by omega)]; omega
  · rw [gr]; have := F.r0 i hi; split <;> omega
  · rw [gc]; have := F.c0 j hj; split <;> omega
  · have := sm_but (n := n) (f := fun i => (rows.set (c q) (rows.getD (c q) 0 - a)).getD i 0) (g := fun i => rows.getD i 0) hrow (fun i hi hne => by show (rows.set _ _).getD i 0 = _; rw [gr, if_neg hne])
    have e5 : (rows.set (c q) (rows.getD (c q) 0 - a)).getD (c q) 0 = rows.getD (c q) 0 - a := by rw [gr, if_pos rfl]
    rw [e5] at this; omega
end Go.Proofs.Ytommbnkecafodaa
