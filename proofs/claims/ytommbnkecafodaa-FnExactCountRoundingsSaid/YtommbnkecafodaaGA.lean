/- Matrices that are rounded: what is valid, margins, and the network of roundings. -/
import Derived.Test.YtommbnkecafodaaFZ
set_option linter.unusedVariables false
set_option autoImplicit false
namespace Go.Proofs.Ytommbnkecafodaa
open Go Go.RowKit Go.Gv

/-! ### numbers -/
def cdn (b v : Int) : Int := v / b
def cup (b v : Int) : Int := (v + b - 1) / b
theorem cdn_le {b v : Int} (hb : 2 ≤ b) : b * cdn b v ≤ v ∧ v < b * cdn b v + b := by
  have h1 := Int.mul_ediv_add_emod v b
  have h2 := Int.emod_nonneg v (show b ≠ 0 by omega)
  have h3 := Int.emod_lt_of_pos v (show 0 < b by omega)
  unfold cdn; omega
theorem cup_le {b v : Int} (hb : 2 ≤ b) : v ≤ b * cup b v ∧ b * cup b v ≤ v + b - 1 := by
  have h := cdn_le (v := v + b - 1) hb
  unfold cdn at h; unfold cup; omega
theorem cdn_bnd {b v : Int} (hb : 2 ≤ b) (hv : 0 ≤ v) : 0 ≤ cdn b v ∧ cdn b v ≤ v := ⟨Int.ediv_nonneg hv (by omega), Int.ediv_le_self _ hv⟩
theorem cup_bnd {b v : Int} (hb : 2 ≤ b) (hv : 0 ≤ v) : 0 ≤ cup b v ∧ cup b v ≤ v + b - 1 := ⟨Int.ediv_nonneg (by omega) (by omega), Int.ediv_le_self _ (by omega)⟩
theorem cud {b v : Int} (hb : 2 ≤ b) : cdn b v ≤ cup b v ∧ cup b v ≤ cdn b v + 1 := by
  obtain ⟨a1, a2⟩ := cdn_le (v := v) hb
  obtain ⟨b1, b2⟩ := cup_le (v := v) hb
  constructor
  · exact Int.le_of_mul_le_mul_left (show b * cdn b v ≤ b * cup b v by omega) (by omega)
  · have : cup b v < cdn b v + 2 := Int.lt_of_mul_lt_mul_left (a := b) (by rw [Int.mul_add]; omega) (by omega)
    omega
theorem sm_mul (b : Int) (f : Nat → Int) : ∀ n, b * sm n f = sm n fun i => b * f i
  | 0 => by simp [sm]
  | n + 1 => by
    have := sm_mul b f n
    show b * (sm n f + f n) = sm n (fun i => b * f i) + b * f n
    rw [Int.mul_add, this]
/-- Rounded up one by one, less what is rounded down together. -/
theorem edge_bnd {b : Int} {n : Nat} {f : Nat → Int} (hb : 2 ≤ b ∧ b ≤ 100) (hn : n ≤ 7) : 0 ≤ sm n (fun i => cup b (f i)) - cdn b (sm n f) ∧ sm n (fun i => cup b (f i)) - cdn b (sm n f) ≤ 1000 := by
  obtain ⟨a1, a2⟩ := cdn_le (v := sm n f) hb.1
  have e := sm_mul b (fun i => cup b (f i)) n
  have l1 : sm n f ≤ b * sm n (fun i => cup b (f i)) := by rw [e]; exact sm_le fun i _ => (cup_le hb.1).1
  have l2 : b * sm n (fun i => cup b (f i)) ≤ sm n (fun i => f i + (b - 1)) := by rw [e]; exact sm_le fun i _ => by have := (cup_le (v := f i) hb.1).2; omega
  have l3 := sm_add n f (fun _ => b - 1)
  have l4 := sm_bnd (n := n) (f := fun _ => b - 1) (B := 99) fun i _ => by omega
  have h0 : cdn b (sm n f) ≤ sm n (fun i => cup b (f i)) := Int.le_of_mul_le_mul_left (show b * _ ≤ b * _ by omega) (by omega)
  refine ⟨by omega, ?_⟩
  have h1 : sm n (fun i => cup b (f i)) - cdn b (sm n f) ≤ b * (sm n (fun i => cup b (f i)) - cdn b (sm n f)) := by
    have := Int.mul_le_mul_of_nonneg_right (show (1 : Int) ≤ b by omega) (show 0 ≤ sm n (fun i => cup b (f i)) - cdn b (sm n f) by omega)
    omega
  rw [Int.mul_sub] at h1
  omega
theorem wr_cdn {b v : Int} (hb : 2 ≤ b ∧ b ≤ 100) (hv : 0 ≤ v ∧ v ≤ 1000000) : wr (Int.tdiv v b) = cdn b v := by
  have := cdn_bnd hb.1 hv.1
  rw [Int.tdiv_eq_ediv_of_nonneg hv.1]
  exact wr_in (by unfold cdn at this; omega) (by unfold cdn at this; omega)
theorem wr_cup {b v : Int} (hb : 2 ≤ b ∧ b ≤ 100) (hv : 0 ≤ v ∧ v ≤ 1000000) : wr (Int.tdiv (wr (wr (v + b) - 1)) b) = cup b v := by
  have := cup_bnd hb.1 hv.1
  rw [wr_in (x := v + b) (by omega) (by omega), wr_in (x := v + b - 1) (by omega) (by omega), Int.tdiv_eq_ediv_of_nonneg (by omega)]
  exact wr_in (by unfold cup at this; omega) (by unfold cup at this; omega)
theorem oDown_ok {b v : Int} {Q : Int → Prop} (hb : 2 ≤ b ∧ b ≤ 100) (hv : 0 ≤ v ∧ v ≤ 1000000) (h : Q (cdn b v)) : spec_oDown v b Q := ⟨by omega, by rw [wr_cdn hb hv]; exact h⟩
theorem oUp_ok {b v : Int} {Q : Int → Prop} (hb : 2 ≤ b ∧ b ≤ 100) (hv : 0 ≤ v ∧ v ≤ 1000000) (h : Q (cup b v)) : spec_oUp v b Q := ⟨by omega, by rw [wr_cup hb hv]; exact h⟩
theorem rDown_ok {b v : Int} {Q : Int → Prop} (hb : 2 ≤ b ∧ b ≤ 100) (hv : 0 ≤ v ∧ v ≤ 1000000) (h : Q (cdn b v)) : impl_roundingNetwork_1 v b Q := ⟨by omega, by rw [wr_cdn hb hv]; exact h⟩
theorem rUp_ok {b v : Int} {Q : Int → Prop} (hb : 2 ≤ b ∧ b ≤ 100) (hv : 0 ≤ v ∧ v ≤ 1000000) (h : Q (cup b v)) : impl_roundingNetwork_2 v b Q := ⟨by omega, by rw [wr_cup hb hv]; exact h⟩
/-! ### what is valid -/
structure Mx (x : List (List Int)) : Prop where
  g : Gx 10000 x
  n7 : x.length ≤ 7
  m7 : (x.getD 0 []).length ≤ 7
theorem oMatrix_ok {x : List (List Int)} {Q : Bool → Prop} (hs : small x) (h : ∀ b, (b = true ↔ Mx x) → Q b) : spec_oMatrix x Q := by
  unfold spec_oMatrix
  obtain ⟨s1, s2⟩ := hs
  have no : ¬ Mx x → Q false := fun hn => h false ⟨(fun c => by cases c), fun c => (hn c).elim⟩
  by_cases c0 : 1 ≤ x.length ∧ x.length ≤ 7
  case neg =>
    refine jn_bool true (br_true rfl (no fun g => c0 ⟨g.g.n1, g.n7⟩)) fun k hk => l1In_ok (br_true ?_ hk)
    have : (decide ((1 : Int) ≤ ln x) && decide (ln x ≤ 7)) = false := by
      rw [Bool.eq_false_iff, ne_eq, Bool.and_eq_true, decide_eq_true_iff, decide_eq_true_iff]; unfold ln; omega
    rw [this]; rfl
  have l0 : (decide ((1 : Int) ≤ ln x) && decide (ln x ≤ 7)) = true := by
    rw [Bool.and_eq_true, decide_eq_true_iff, decide_eq_true_iff]; unfold ln; omega
  by_cases c1 : 1 ≤ (x.getD 0 []).length ∧ (x.getD 0 []).length ≤ 7
  case neg =>
    refine jn_bool true (br_true rfl (no fun g => c1 ⟨g.g.m1, g.m7⟩)) fun k hk => l1In_ok (br_false (by rw [l0]; rfl) (idx_gd (i := 0) (d := []) rfl (by omega) (l1In_ok ?_)))
    have : (decide ((1 : Int) ≤ ln (x.getD 0 [])) && decide (ln (x.getD 0 []) ≤ 7)) = false := by
      rw [Bool.eq_false_iff, ne_eq, Bool.and_eq_true, decide_eq_true_iff, decide_eq_true_iff]; unfold ln; omega
    rw [this]; exact hk
  have l1 : (decide ((1 : Int) ≤ ln (x.getD 0 [])) && decide (ln (x.getD 0 []) ≤ 7)) = true := by
    rw [Bool.and_eq_true, decide_eq_true_iff, decide_eq_true_iff]; unfold ln; omega
  refine jn_bool false (br_false rfl ?_) fun k hk => l1In_ok (br_false (by rw [l0]; rfl) (idx_gd (i := 0) (d := []) rfl (by omega) (l1In_ok (by rw [l1]; exact hk))))
  refine loop1_list (by omega) (fun i => ∀ a, a < i → (x.getD a []).length = (x.getD 0 []).length ∧ ∀ j, j < (x.getD 0 []).length → 0 ≤ mt x a j ∧ mt x a j ≤ 10000) (fun a ha => by omega) (fun i nx hi hj hx => idx_gd (d := []) rfl hi ?_)
    (fun hj => h true ⟨fun _ => ⟨⟨c0.1, by omega, c1.1, by omega, ⟨rfl, fun i hi => (hj i hi).1⟩, fun i j hi hj' => (hj i hi).2 j hj'⟩, c0.2, c1.2⟩, fun _ => rfl⟩)
  by_cases c2 : (x.getD i []).length = (x.getD 0 []).length
  case neg => exact jn_bool true (br_true rfl (no fun g => c2 (g.g.sh.2 i hi))) fun k hk => idx_gd (i := 0) (d := []) rfl (by omega) (br_ne (fun _ => hk) fun e => (c2 (by unfold ln at e; omega)).elim)
  have ea : (x.getD i []).all (inb 0 10000) = true ↔ ∀ j, j < (x.getD 0 []).length → 0 ≤ mt x i j ∧ mt x i j ≤ 10000 := by
    rw [all_get, c2]
    exact ⟨fun k j hj => inb_iff'.1 (k j hj), fun k j hj => inb_iff'.2 (k j hj)⟩
  by_cases c3 : (x.getD i []).all (inb 0 10000) = true
  · refine jn_bool false (br_false rfl (hx fun a ha => ?_)) fun k hk => idx_gd (i := 0) (d := []) rfl (by omega) (br_ne (fun e => (e (by unfold ln; omega)).elim) fun _ => l1All_ok (by omega) (by rw [c3]; exact hk))
    by_cases e : a = i
    · subst e; exact ⟨c2, ea.1 c3⟩
    · exact hj a (by omega)
  · refine jn_bool true (br_true rfl (no fun g => c3 (ea.2 fun j hj => g.g.bd i j hi hj))) fun k hk => idx_gd (i := 0) (d := []) rfl (by omega) (br_ne (fun _ => hk) fun _ => l1All_ok (by omega) (by rw [Bool.eq_false_iff.2 c3]; exact hk))
theorem oGood_ok {x : List (List Int)} {base : Int} {Q : Bool → Prop} (hs : small x) (h : ∀ b, (b = true ↔ Mx x ∧ 2 ≤ base ∧ base ≤ 100) → Q b) : spec_oGood x base Q := by
  unfold spec_oGood
  by_cases c : 2 ≤ base ∧ base ≤ 100
  · have l0 : (decide ((2 : Int) ≤ base) && decide (base ≤ 100)) = true := by
      rw [Bool.and_eq_true, decide_eq_true_iff, decide_eq_true_iff]; exact c
    by_cases d : Mx x
    · exact jn_bool true (h true ⟨fun _ => ⟨d, c⟩, fun _ => rfl⟩) fun k hk => l1In_ok (br_true l0 (oMatrix_ok hs fun b hb => by rw [hb.2 d]; exact hk))
    · exact jn_bool false (h false ⟨(fun c => by cases c), fun e => (d e.1).elim⟩) fun k hk => l1In_ok (br_true l0 (oMatrix_ok hs fun b hb => by rw [show b = false from Bool.eq_false_iff.2 fun e => d (hb.1 e)]; exact hk))
  · have l0 : (decide ((2 : Int) ≤ base) && decide (base ≤ 100)) = false := by
      rw [Bool.eq_false_iff, ne_eq, Bool.and_eq_true, decide_eq_true_iff, decide_eq_true_iff]; exact c
    exact jn_bool false (h false ⟨(fun c => by cases c), fun e => (c e.2).elim⟩) fun k hk => l1In_ok (br_false l0 hk)
theorem isMatrix_ok {x : List (List Int)} {Q : Bool → Prop} (hs : small x) (h : ∀ b, (b = true ↔ Mx x) → Q b) : impl_isMatrix x Q := by
  unfold impl_isMatrix impl_isGridOf
  obtain ⟨s1, s2⟩ := hs
  have no : ¬ Mx x → Q false := fun hn => h false ⟨(fun c => by cases c), fun c => (hn c).elim⟩
  by_cases c0 : 1 ≤ x.length ∧ x.length ≤ 7 ∧ (x.getD 0 []).length ≤ 7
  case neg =>
    refine jn_bool true (br_true rfl (no fun g => c0 ⟨g.g.n1, g.n7, g.m7⟩)) fun k hk => br_dec (fun _ => hk) fun a => br_dec (fun _ => hk) fun b => idx_gd (i := 0) (d := []) rfl (by unfold ln at a; omega) ?_
    rw [decide_eq_true (by unfold ln at a b ⊢; omega)]; exact hk
  refine jn_bool false (br_false rfl ?_) fun k hk => br_no (by unfold ln; omega) (br_no (by unfold ln; omega) (idx_gd (i := 0) (d := []) rfl (by omega) (by rw [decide_eq_false (by unfold ln; omega)]; exact hk)))
  by_cases c1 : 1 ≤ (x.getD 0 []).length ∧ Sh x.length (x.getD 0 []).length x
  case neg =>
    refine jn_bool true (br_true rfl (no fun g => c1 ⟨g.g.m1, g.g.sh⟩)) fun k hk => br_eq (fun _ => hk) fun a => idx_gd (i := 0) (d := []) rfl (by omega) (br_eq (fun _ => hk) fun b => idx_gd (i := 0) (d := []) rfl (by omega) (hasShape_ok s1 fun r hr => ?_))
    have : r = false := by rw [Bool.eq_false_iff]; exact fun c2 => c1 ⟨by unfold ln at b; omega, hr.1 c2⟩
    rw [this]; exact hk
  obtain ⟨k1, k3⟩ := c1
  refine jn_bool false (br_false rfl ?_) fun k hk => br_eq (fun e => by unfold ln at e; omega) fun _ => idx_gd (i := 0) (d := []) rfl (by omega) (br_eq (fun e => by unfold ln at e; omega) fun _ => idx_gd (i := 0) (d := []) rfl (by omega) (hasShape_ok s1 fun r hr => by rw [hr.2 k3]; exact hk))
  refine loop1_list (by omega) (fun i => ∀ a j, a < i → j < (x.getD 0 []).length → 0 ≤ mt x a j ∧ mt x a j ≤ 10000) (fun a j ha => by omega) (fun i nx hi hj hx => idx_gd (d := []) rfl hi ?_) (fun hj => h true ⟨fun _ => ⟨⟨c0.1, by omega, k1, by omega, k3, fun i j hi hj' => hj i j hi hj'⟩, c0.2.1, c0.2.2⟩, fun _ => rfl⟩)
  have hrow := k3.2 i hi
  refine loop1_list (by omega) (fun j => ∀ b, b < j → 0 ≤ mt x i b ∧ mt x i b ≤ 10000) (fun b hb => by omega) (fun j nx2 hj2 hj3 hx2 => idx_gd (d := 0) rfl hj2 ?_) (fun hj3 => hx fun a j ha hjj => ?_)
  · have eg : (x.getD i []).getD j 0 = mt x i j := rfl
    rw [eg]
    by_cases c : 0 ≤ mt x i j ∧ mt x i j ≤ 10000
    · refine jn_bool false (br_false rfl (hx2 fun b hb => ?_)) fun k hk => br_no (by omega) (by rw [decide_eq_false (by omega)]; exact hk)
      by_cases e : b = j
      · subst e; exact c
      · exact hj3 b (by omega)
    · refine jn_bool true (br_true rfl (no fun g => c (g.g.bd i j hi (by omega)))) fun k hk => br_dec (fun _ => hk) fun h1 => ?_
      rw [decide_eq_true (by omega)]; exact hk
  · by_cases e : a = i
    · subst e; exact hj3 j (by omega)
    · exact hj a j (by omega) hjj
theorem isBase_ok {base : Int} {Q : Bool → Prop} (h : ∀ b, (b = true ↔ 2 ≤ base ∧ base ≤ 100) → Q b) : impl_isBaseOf base Q := by
  unfold impl_isBaseOf
  by_cases c : 2 ≤ base
  · exact jn_bool (decide (base ≤ 100)) (h _ ⟨fun e => ⟨c, of_decide_eq_true e⟩, fun e => decide_eq_true e.2⟩) fun k hk => br_yes c hk
  · exact jn_bool false (h _ ⟨(fun e => by cases e), fun e => (c e.1).elim⟩) fun k hk => br_no c hk
/-! ### margins -/
structure Mg (x : List (List Int)) (n m : Nat) (rows cols : List Int) (T : Int) : Prop where
  rl : rows.length = n
  cl : cols.length = m
  rw : ∀ i, i < n → rows.getD i 0 = sm m (mt x i)
  cw : ∀ j, j < m → cols.getD j 0 = sm n (fun i => mt x i j)
  t : T = sm n fun i => sm m (mt x i)
theorem Gr.row {x : List (List Int)} {n m : Nat} (g : Gr 10000 x n m) {i : Nat} (hi : i < n) : 0 ≤ sm m (mt x i) ∧ sm m (mt x i) ≤ 80000 := by
  have := sm_bnd (n := m) (f := mt x i) (B := 10000) (fun j hj => g.bd i j hi hj); have := g.m8; omega
theorem Gr.col {x : List (List Int)} {n m : Nat} (g : Gr 10000 x n m) {j : Nat} (hj : j < m) : 0 ≤ sm n (fun i => mt x i j) ∧ sm n (fun i => mt x i j) ≤ 80000 := by
  have := sm_bnd (n := n) (f := fun i => mt x i j) (B := 10000) (fun i hi => g.bd i j hi hj); have := g.n8; omega
theorem Gr.tot {x : List (List Int)} {n m : Nat} (g : Gr 10000 x n m) : 0 ≤ sm n (fun i => sm m (mt x i)) ∧ sm n (fun i => sm m (mt x i)) ≤ 640000 := by
  have := sm_bnd (n := n) (f := fun i => sm m (mt x i)) (B := 80000) (fun i hi => g.row hi); have := g.n8; omega
theorem oMargins_ok {x : List (List Int)} {n m : Nat} {Q : Rounding → Prop} (g : Gr 10000 x n m) (h : ∀ rows cols T, Mg x n m rows cols T → Q (Rounding.mk x rows cols T)) : spec_oMargins x Q := by
  unfold spec_oMargins
  have n8 := g.n8; have m8 := g.m8; have n1 := g.n1; have hxl := g.sh.1
  have rl : ∀ i, i < n → lim (x.getD i []) ∧ ls (x.getD i []) = sm m (mt x i) := fun i hi => by
    have hl := g.sh.2 i hi
    refine ⟨⟨by omega, fun j hj => ?_⟩, by unfold ls; rw [hl]; rfl⟩
    have := g.bd i j hi (by omega)
    show 0 ≤ mt x i j ∧ mt x i j ≤ 1000000000; omega
  refine tOwn_ok (g.sh.small (by omega) (by omega)) ?_
  refine loop2_listF (xs := x) (by omega) (fun rows i => rows.length = i ∧ ∀ a, a < i → rows.getD a 0 = sm m (mt x a)) ⟨rfl, fun a ha => by omega⟩ (fun rows i nx hi ⟨h1, h2⟩ hn => ?_) (fun rows ⟨h1, h2⟩ => ?_)
  · obtain ⟨l1, l2⟩ := rl i (by omega)
    refine idx_gd (d := []) rfl hi (det1_of (sm m (mt x i)) (tSum_ok l1 (by rw [l2])) ⟨by unfold ln; simp; omega, hn _ ⟨by simp; omega, fun a ha => ?_⟩⟩)
    rw [getD_snoc h1]
    by_cases c : a < i
    · rw [if_pos c]; exact h2 a c
    · rw [if_neg c, if_pos (by omega), show a = i by omega]
  have h0 := g.sh.2 0 (by omega)
  refine idx_gd (i := 0) (d := []) rfl (by omega) ?_
  refine loop2_listF (by omega) (fun cols j => cols.length = j ∧ ∀ b, b < j → cols.getD b 0 = sm n (fun i => mt x i b)) ⟨rfl, fun b hb => by omega⟩ (fun cols j nx hj ⟨k1, k2⟩ hn => ?_) (fun cols ⟨k1, k2⟩ => ?_)
  · have hj' : j < m := by omega
    refine tColumn_ok g.sh (by omega) hj' fun s sl se => det1_of (sm n (fun i => mt x i j)) (tSum_ok ⟨by omega, fun i hi => by rw [se i (by omega)]; have := g.bd i j (by omega) hj'; omega⟩ ?_) ⟨by unfold ln; simp; omega, hn _ ⟨by simp; omega, fun b hb => ?_⟩⟩
    · unfold ls; rw [sl]; exact sm_congr fun i hi => se i hi
    · rw [getD_snoc k1]
      by_cases c : b < j
      · rw [if_pos c]; exact k2 b c
      · rw [if_neg c, if_pos (by omega), show b = j by omega]
  · rw [hxl] at h1 h2; rw [h0] at k1 k2
    refine tSum_ok ⟨by omega, fun i hi => by rw [h2 i (by omega)]; have := g.row (i := i) (by omega); omega⟩ (h _ _ _ ⟨h1, k1, h2, k2, ?_⟩)
    unfold ls; rw [h1]; exact sm_congr fun i hi => h2 i hi
end Go.Proofs.Ytommbnkecafodaa
