/- The program's fillings: a greatest one; a flow, if there is one. -/
import Derived.Test.YtommbnkecafodaaFS
set_option linter.unusedVariables false
set_option autoImplicit false
namespace Go.Gv
structure Fi (n m : Nat) (R C : Nat → Int) (lo hi y : Nat → Nat → Int) : Prop where
  bd : ∀ i j, i < n → j < m → lo i j ≤ y i j ∧ y i j ≤ hi i j
  row : ∀ i, i < n → sm m (y i) ≤ R i
  col : ∀ j, j < m → sm n (fun i => y i j) ≤ C j
theorem Fg.fi {n m : Nat} {R C : Nat → Int} {lo hi y : Nat → Nat → Int} (f : Fg n m R C lo hi y) : Fi n m R C lo hi y :=
  ⟨f.bd, fun i hi' => Int.le_of_eq (f.row i hi'), fun j hj => Int.le_of_eq (f.col j hj)⟩
def rf (n m : Nat) (lo hi : Nat → Nat → Int) (A B : Nat → Int) (I J u v : Nat) : Int :=
  if u < n + m ∧ v < n + m then rs n m lo hi lo (fun _ _ => true) u v else if u = n + m ∧ v < I then A v else if v = n + m + 1 ∧ n ≤ u ∧ u < n + J then B (u - n) else 0
section
variable {n m : Nat} {lo hi : Nat → Nat → Int} {A B R C : Nat → Int} {r' : Nat → Nat → Int} {L sent : Int}
theorem rf_in {I J u v : Nat} (hu : u < n + m) (hv : v < n + m) : rf n m lo hi A B I J u v = rs n m lo hi lo (fun _ _ => true) u v := if_pos ⟨hu, hv⟩
theorem rf_src {J i : Nat} (hi' : i < n) : rf n m lo hi A B n J (n + m) i = A i := by unfold rf; rw [if_neg (by omega), if_pos ⟨rfl, hi'⟩]
theorem rf_snk {I j : Nat} (hj : j < m) : rf n m lo hi A B I m (n + j) (n + m + 1) = B j := by
  unfold rf; rw [if_neg (by omega), if_neg (by omega), if_pos ⟨rfl, by omega, by omega⟩, Nat.add_sub_cancel_left]
theorem rf_no {I J u v : Nat} (h1 : ¬ (u < n + m ∧ v < n + m)) (h2 : ¬ (u = n + m ∧ v < I)) (h3 : ¬ (v = n + m + 1 ∧ n ≤ u ∧ u < n + J)) : rf n m lo hi A B I J u v = 0 := by
  unfold rf; rw [if_neg h1, if_neg h2, if_neg h3]
variable (P : Pu (n + m + 2) (rf n m lo hi A B n m) r' (n + m) (n + m + 1) L sent)
include P
theorem fF_in {i j : Nat} (hi' : i < n) (hj : j < m) : r' i (n + j) + r' (n + j) i = hi i j - lo i j := by
  have := P.pr i (n + j) (by omega) (by omega)
  rw [rf_in (by omega) (by omega), rf_in (by omega) (by omega), rs_rc hi' hj, rs_cr hi' hj, if_pos rfl, if_pos rfl] at this; omega
theorem fF_zero {u v : Nat} (hu : u < n + m + 2) (hv : v < n + m + 2) (h1 : rf n m lo hi A B n m u v = 0) (h2 : rf n m lo hi A B n m v u = 0) : r' u v = 0 := by
  have := P.pr u v hu hv; rw [h1, h2] at this
  have := P.nn u v hu hv; have := P.nn v u hv hu; omega
theorem fF_rr {u v : Nat} (hu : u < n) (hv : v < n) : r' u v = 0 :=
  fF_zero P (by omega) (by omega) (by rw [rf_in (by omega) (by omega)]; exact rs_rr hu hv) (by rw [rf_in (by omega) (by omega)]; exact rs_rr hv hu)
theorem fF_cc {u v : Nat} (hu : u < m) (hv : v < m) : r' (n + u) (n + v) = 0 :=
  fF_zero P (by omega) (by omega) (by rw [rf_in (by omega) (by omega)]; exact rs_cc) (by rw [rf_in (by omega) (by omega)]; exact rs_cc)
theorem fF_row {i : Nat} (hi' : i < n) : sm m (fun j => hi i j - r' i (n + j)) = sm m (lo i) + A i - r' (n + m) i := by
  have h := P.dv i (by omega)
  rw [if_neg (by omega), if_neg (by omega)] at h
  have e : sm (n + m + 2) (fun v => rf n m lo hi A B n m i v - r' i v) = sm (n + m) (fun v => rf n m lo hi A B n m i v - r' i v) + (rf n m lo hi A B n m i (n + m) - r' i (n + m)) + (rf n m lo hi A B n m i (n + m + 1) - r' i (n + m + 1)) := rfl
  rw [e, sm_split, sm_zero (fun v hv => by rw [rf_in (by omega) (by omega), rs_rr hi' hv, fF_rr P hi' hv]; rfl)] at h
  have e1 : sm m (fun j => rf n m lo hi A B n m i (n + j) - r' i (n + j)) = sm m (fun j => hi i j - r' i (n + j)) - sm m (lo i) := by
    rw [← sm_sub]
    refine sm_congr fun j hj => ?_
    rw [rf_in (by omega) (by omega), rs_rc hi' hj, if_pos rfl]; omega
  have e2 : rf n m lo hi A B n m i (n + m) = 0 := rf_no (by omega) (by omega) (by omega)
  have e3 : rf n m lo hi A B n m i (n + m + 1) = 0 := rf_no (by omega) (by omega) (by omega)
  have e4 : r' i (n + m + 1) = 0 := fF_zero P (by omega) (by omega) e3 (rf_no (by omega) (by omega) (by omega))
  have e5 := P.pr (n + m) i (by omega) (by omega)
  rw [rf_src hi', e2] at e5
  rw [e1, e2, e3, e4] at h
  omega
theorem fF_col {j : Nat} (hj : j < m) : sm n (fun i => hi i j - r' i (n + j)) = sm n (fun i => lo i j) + B j - r' (n + j) (n + m + 1) := by
  have h := P.dv (n + j) (by omega)
  rw [if_neg (by omega), if_neg (by omega)] at h
  have e : sm (n + m + 2) (fun v => rf n m lo hi A B n m (n + j) v - r' (n + j) v) = sm (n + m) (fun v => rf n m lo hi A B n m (n + j) v - r' (n + j) v) + (rf n m lo hi A B n m (n + j) (n + m) - r' (n + j) (n + m)) + (rf n m lo hi A B n m (n + j) (n + m + 1) - r' (n + j) (n + m + 1)) := rfl
  rw [e, sm_split, sm_zero (n := m) (fun v hv => by rw [rf_in (by omega) (by omega), rs_cc, fF_cc P hj hv]; rfl)] at h
  have e1 : sm n (fun i => rf n m lo hi A B n m (n + j) i - r' (n + j) i) = sm n (fun i => lo i j) - sm n (fun i => hi i j - r' i (n + j)) := by
    rw [← sm_sub]
    refine sm_congr fun i hi' => ?_
    have := fF_in P hi' hj
    rw [rf_in (by omega) (by omega), rs_cr hi' hj, if_pos rfl]; omega
  have e2 : rf n m lo hi A B n m (n + j) (n + m) = 0 := rf_no (by omega) (by omega) (by omega)
  have e3 : r' (n + j) (n + m) = 0 := fF_zero P (by omega) (by omega) e2 (rf_no (by omega) (by omega) (by omega))
  rw [e1, e2, e3, rf_snk hj] at h
  omega
theorem fF_fi (h0 : ∀ i j, i < n → j < m → lo i j ≤ hi i j) (hA : ∀ i, i < n → A i = R i - sm m (lo i)) (hB : ∀ j, j < m → B j = C j - sm n (fun i => lo i j)) :
    Fi n m R C lo hi (fun i j => hi i j - r' i (n + j)) := by
  refine ⟨fun i j hi' hj => ?_, fun i hi' => ?_, fun j hj => ?_⟩
  · have := fF_in P hi' hj; have := P.nn i (n + j) (by omega) (by omega); have := P.nn (n + j) i (by omega) (by omega)
    show lo i j ≤ hi i j - r' i (n + j) ∧ hi i j - r' i (n + j) ≤ hi i j; omega
  · have := fF_row P hi'; have := hA i hi'; have := P.nn (n + m) i (by omega) (by omega); omega
  · have := fF_col P hj; have := hB j hj; have := P.nn (n + j) (n + m + 1) (by omega) (by omega); omega
theorem fF_max (h0 : ∀ i j, i < n → j < m → 0 ≤ lo i j ∧ lo i j ≤ hi i j) (hA : ∀ i, i < n → A i = R i - sm m (lo i)) (hB : ∀ j, j < m → B j = C j - sm n (fun i => lo i j)) (hL : L = sm n R) {y : Nat → Nat → Int} (fy : Fi n m R C lo hi y) :
    sm n (fun i => sm m (y i)) ≤ sm n (fun i => sm m (fun j => hi i j - r' i (n + j))) := by
  by_cases c : sent < L
  · obtain ⟨T, Ts, Tt, hT⟩ := P.ct c
    refine fill_cut (R := R) (C := C) (lo := lo) (hi := hi) (x := fun i j => hi i j - r' i (n + j)) T (fun j => T (n + j)) (fun i j hi' hj h1 h2 => ?_) (fun i j hi' hj h1 h2 => ?_) (fun i hi' h1 => ?_) (fun j hj h1 => ?_) fy.bd fy.row fy.col
    · have := hT i (n + j) (by omega) (by omega) h1 h2; show hi i j ≤ hi i j - r' i (n + j); omega
    · have := hT (n + j) i (by omega) (by omega) h2 h1; have := fF_in P hi' hj; show hi i j - r' i (n + j) ≤ lo i j; omega
    · have := hT (n + m) i (by omega) (by omega) Ts h1; have := fF_row P hi'; have := hA i hi'
      show R i ≤ sm m (fun j => hi i j - r' i (n + j)); omega
    · have := hT (n + j) (n + m + 1) (by omega) (by omega) h1 Tt; have := fF_col P hj; have := hB j hj
      show C j ≤ sm n (fun i => hi i j - r' i (n + j)); omega
  · have hs : sent = L := by have := P.s1; omega
    have h := P.dv (n + m) (by omega)
    rw [if_pos rfl, if_neg (by omega)] at h
    have e : sm (n + m + 2) (fun v => rf n m lo hi A B n m (n + m) v - r' (n + m) v) = sm (n + m) (fun v => rf n m lo hi A B n m (n + m) v - r' (n + m) v) + (rf n m lo hi A B n m (n + m) (n + m) - r' (n + m) (n + m)) + (rf n m lo hi A B n m (n + m) (n + m + 1) - r' (n + m) (n + m + 1)) := rfl
    have z1 : ∀ j, j < m → rf n m lo hi A B n m (n + m) (n + j) = 0 := fun j hj => rf_no (by omega) (by omega) (by omega)
    have z2 : rf n m lo hi A B n m (n + m) (n + m) = 0 := rf_no (by omega) (by omega) (by omega)
    have z3 : rf n m lo hi A B n m (n + m) (n + m + 1) = 0 := rf_no (by omega) (by omega) (by omega)
    rw [e, sm_split, sm_zero (n := m) (fun j hj => by rw [z1 j hj, fF_zero P (by omega) (by omega) (z1 j hj) (rf_no (by omega) (by omega) (by omega))]; rfl), z2, z3, fF_zero P (by omega) (by omega) z2 z2, fF_zero P (by omega) (by omega) z3 (rf_no (by omega) (by omega) (by omega))] at h
    have e1 : sm n (fun v => rf n m lo hi A B n m (n + m) v - r' (n + m) v) = sm n A - sm n (r' (n + m)) := by
      rw [← sm_sub]; exact sm_congr fun i hi' => by rw [rf_src hi']
    have e2 : sm n A = sm n R - sm n (fun i => sm m (lo i)) := by rw [← sm_sub]; exact sm_congr fun i hi' => hA i hi'
    have p1 : 0 ≤ sm n (fun i => sm m (lo i)) := sm_nonneg fun i hi' => sm_nonneg fun j hj => (h0 i j hi' hj).1
    have e3 : sm n (fun i => sm m (fun j => hi i j - r' i (n + j))) = sm n R - sm n (r' (n + m)) := by
      rw [← sm_sub]; exact sm_congr fun i hi' => by have := fF_row P hi'; have := hA i hi'; omega
    have p2 : sm n (fun i => sm m (y i)) ≤ sm n R := sm_le fun i hi' => fy.row i hi'
    omega
end
end Go.Gv
namespace Go.Proofs.Ytommbnkecafodaa
open Go Go.RowKit Go.Gv

abbrev FI (t : Transport) (n m : Nat) (x : Nat → Nat → Int) : Prop := Fi n m (fun i => t.Rows.getD i 0) (fun j => t.Cols.getD j 0) (mt t.Lo) (mt t.Hi) x
theorem ls_rows {t : Transport} {n m : Nat} (g : Gd t n m) : ls t.Rows = sm n (fun i => t.Rows.getD i 0) := by unfold ls; rw [g.rl]
theorem ls_cols {t : Transport} {n m : Nat} (g : Gd t n m) : ls t.Cols = sm m (fun i => t.Cols.getD i 0) := by unfold ls; rw [g.cl]
theorem fill_ok {t : Transport} {n m : Nat} {Q : List (List Int) → Prop} (g : Gd t n m) (h0 : (∀ y, ¬ FI t n m y) → Q [])
    (h : ∀ out, Sh n m out → FI t n m (mt out) → (∀ y, FI t n m y → sm n (fun i => sm m (y i)) ≤ sm n (fun i => sm m (mt out i))) → Q out) : impl_fill t Q := by
  unfold impl_fill
  have hn8 := g.n8; have hm8 := g.m8; have hn1 := g.n1
  refine residual_ok g g.lo (fun i j hi hj => ⟨Int.le_refl _, (g.bd i j hi hj).2.1⟩) fun r hr er => ?_
  have er2 : ∀ u v, u < n + m → v < n + m → mt r u v = rs n m (mt t.Lo) (mt t.Hi) (mt t.Lo) (fun _ _ => true) u v := fun u v hu hv => by
    rw [er u v hu hv]; exact rs_same (fun a b _ _ => decide_eq_true (by omega)) hu hv
  rw [nm_eq g]
  have e2 : wr (((n + m : Nat) : Int) + 2) = ((n + m + 2 : Nat) : Int) := by rw [wr_in (by omega) (by omega)]; omega
  have e3 : wr (((n + m : Nat) : Int) + 1) = ((n + m + 1 : Nat) : Int) := by rw [wr_in (by omega) (by omega)]; omega
  rw [e2, e3]
  refine ⟨by omega, by omega, ?_⟩
  rw [Int.toNat_natCast]
  let A : Nat → Int := fun i => t.Rows.getD i 0 - sm m (mt t.Lo i)
  let B : Nat → Int := fun j => t.Cols.getD j 0 - sm n (fun i => mt t.Lo i j)
  let F := rf n m (mt t.Lo) (mt t.Hi) A B
  refine loop2_list (xs := List.replicate (n + m + 2) ([] : List Int)) (by rw [List.length_replicate]; omega)
    (fun q i => q.length = n + m + 2 ∧ ∀ u, u < i → (q.getD u []).length = n + m + 2 ∧ ∀ v, v < n + m + 2 → mt q u v = F 0 0 u v) ⟨by rw [List.length_replicate], fun u hu => by omega⟩ (fun q i nx hi ⟨h1, h2⟩ hn => ?_) (fun q ⟨h1, h2⟩ => ?_)
  · rw [List.length_replicate] at hi
    have fin : ∀ row : List Int, row.length = n + m + 2 → (∀ v, v < n + m + 2 → row.getD v 0 = F 0 0 i v) → (q.set i row).length = n + m + 2 ∧ ∀ u, u < i + 1 → ((q.set i row).getD u []).length = n + m + 2 ∧ ∀ v, v < n + m + 2 → mt (q.set i row) u v = F 0 0 u v := fun row k1 k2 => by
      refine ⟨by rw [List.length_set]; exact h1, fun u hu => ?_⟩
      unfold mt
      rw [getD_set (by omega)]
      by_cases c : u = i
      · subst c; rw [if_pos rfl]; exact ⟨k1, k2⟩
      · rw [if_neg c]; exact h2 u (by omega)
    by_cases c : i < n + m
    · refine jn_bool (q.set i (r.getD i [] ++ List.replicate 2 0)) (hn _ (fin _ ?_ fun v hv => ?_)) fun k hk => ⟨by omega, by omega, by omega, by rw [Int.toNat_natCast]; omega, br_yes (by omega) (idx_gd (d := []) rfl (by rw [List.length_set]; omega) (idx_gd (d := []) rfl (by rw [hr.1]; exact c) ?_))⟩
      · rw [List.length_append, hr.2 i c, List.length_replicate]
      · rw [List.getD_eq_getElem?_getD, List.getElem?_append, hr.2 i c]
        by_cases c2 : v < n + m
        · rw [if_pos c2, ← List.getD_eq_getElem?_getD]
          show mt r i v = _
          rw [er2 i v c c2]; exact (rf_in c c2).symm
        · rw [if_neg c2]
          have : F 0 0 i v = 0 := rf_no (by omega) (by omega) (by omega)
          rw [this, List.getElem?_replicate, if_pos (by omega)]; rfl
      · rw [Int.toNat_natCast, getD_set (by omega), if_pos rfl, List.length_replicate, List.set_set, hr.2 i c, List.take_of_length_le (by rw [hr.2 i c]; omega), List.drop_replicate]
        rw [show n + m + 2 - (n + m) = 2 by omega]; exact hk
    · refine jn_bool (q.set i (List.replicate (n + m + 2) 0)) (hn _ (fin _ (List.length_replicate ..) fun v hv => ?_)) fun k hk => ⟨by omega, by omega, by omega, by rw [Int.toNat_natCast]; omega, br_no (by omega) ?_⟩
      · have : F 0 0 i v = 0 := rf_no (by omega) (by omega) (by omega)
        rw [this]; simp [hv]
      · rw [Int.toNat_natCast]; exact hk
  rw [List.length_replicate] at h2
  have bl : bnd n m t.Lo := fun i j hi hj => by have := g.bd i j hi hj; omega
  refine rowSums_ok g.lo (by omega) (by omega) bl fun s1 sl1 se1 => colSums_ok g.lo hn1 (by omega) (by omega) bl fun s2 sl2 se2 => ?_
  have rl := g.rl; have cl := g.cl
  refine loop2_list (xs := t.Rows) (by omega) (fun q i => Sh (n + m + 2) (n + m + 2) q ∧ (∀ u v, u < n + m + 2 → v < n + m + 2 → mt q u v = F i 0 u v) ∧ ∀ a, a < i → sm m (mt t.Lo a) ≤ t.Rows.getD a 0) ⟨⟨h1, fun u hu => (h2 u hu).1⟩, fun u v hu hv => (h2 u hu).2 v hv, fun a ha => by omega⟩ (fun q i nx hi ⟨k1, k2, k3⟩ hn => ?_) (fun q ⟨k1, k2, k3⟩ => ?_)
  · have hi' : i < n := by omega
    refine idx_gd (d := 0) rfl hi (idx_gd (d := 0) rfl (by omega) ?_)
    rw [se1 i hi']
    refine br_dec (fun c => h0 fun y fy => ?_) (fun c => ?_)
    · have := fy.row i hi'
      have h3 : sm m (mt t.Lo i) ≤ sm m (y i) := sm_le fun j hj => (fy.bd i j hi' hj).1
      have h4 : sm m (y i) ≤ t.Rows.getD i 0 := this
      omega
    refine idx_gd (d := []) rfl (by rw [k1.1]; omega) (idx_gd (d := 0) rfl (by omega) ⟨by omega, by rw [Int.toNat_natCast, k1.2 _ (by omega)]; omega, ?_⟩)
    have hb1 := g.rw i hi'
    have hb2 := sm_bnd (n := m) (f := mt t.Lo i) (B := 1000000000) (fun j hj => bl i j hi' hj)
    rw [se1 i hi', Int.toNat_natCast, Int.toNat_natCast, wr_in (by omega) (by omega)]
    refine hn _ ⟨mst_sh (j := i) k1 (by omega), fun u v hu hv => ?_, fun a ha => ?_⟩
    · show mt (mst q (n + m) i (t.Rows.getD i 0 - sm m (mt t.Lo i))) u v = _
      rw [mst_mt k1 (by omega) (by omega), k2 u v hu hv]
      show (if _ then _ else rf n m (mt t.Lo) (mt t.Hi) A B i 0 u v) = rf n m (mt t.Lo) (mt t.Hi) A B (i + 1) 0 u v
      by_cases e : u = n + m ∧ v = i
      · obtain ⟨rfl, rfl⟩ := e
        rw [if_pos ⟨rfl, rfl⟩]; unfold rf; rw [if_neg (by omega), if_pos ⟨rfl, by omega⟩]
      · rw [if_neg e]; unfold rf
        by_cases e1 : u < n + m ∧ v < n + m
        · rw [if_pos e1, if_pos e1]
        · rw [if_neg e1, if_neg e1]
          by_cases e2 : u = n + m ∧ v < i
          · rw [if_pos e2, if_pos ⟨e2.1, by omega⟩]
          · rw [if_neg e2, if_neg (show ¬ (u = n + m ∧ v < i + 1) by omega)]
    · by_cases e : a = i
      · subst e; omega
      · exact k3 a (by omega)
  rw [rl] at k2 k3
  refine loop2_list (xs := t.Cols) (by omega) (fun q j => Sh (n + m + 2) (n + m + 2) q ∧ (∀ u v, u < n + m + 2 → v < n + m + 2 → mt q u v = F n j u v) ∧ ∀ b, b < j → sm n (fun i => mt t.Lo i b) ≤ t.Cols.getD b 0) ⟨k1, k2, fun b hb => by omega⟩ (fun q j nx hj ⟨p1, p2, p3⟩ hn => ?_) (fun q ⟨p1, p2, p3⟩ => ?_)
  · have hj' : j < m := by omega
    refine idx_gd (d := 0) rfl hj (idx_gd (d := 0) rfl (by omega) ?_)
    rw [se2 j hj']
    refine br_dec (fun c => h0 fun y fy => ?_) (fun c => ?_)
    · have h3 : sm n (fun i => mt t.Lo i j) ≤ sm n (fun i => y i j) := sm_le fun i hi => (fy.bd i j hi hj').1
      have h4 : sm n (fun i => y i j) ≤ t.Cols.getD j 0 := fy.col j hj'
      omega
    rw [col_eq g hj']
    refine idx_gd (d := []) rfl (by rw [p1.1]; omega) (idx_gd (d := 0) rfl (by omega) ⟨by omega, by rw [Int.toNat_natCast, p1.2 _ (by omega)]; omega, ?_⟩)
    have hb1 := g.cw j hj'
    have hb2 := sm_bnd (n := n) (f := fun i => mt t.Lo i j) (B := 1000000000) (fun i hi => bl i j hi hj')
    rw [se2 j hj', Int.toNat_natCast, Int.toNat_natCast, wr_in (by omega) (by omega)]
    refine hn _ ⟨mst_sh (j := n + m + 1) p1 (by omega), fun u v hu hv => ?_, fun b hb => ?_⟩
    · show mt (mst q (n + j) (n + m + 1) (t.Cols.getD j 0 - sm n (fun i => mt t.Lo i j))) u v = _
      rw [mst_mt p1 (by omega) (by omega), p2 u v hu hv]
      show (if _ then _ else rf n m (mt t.Lo) (mt t.Hi) A B n j u v) = rf n m (mt t.Lo) (mt t.Hi) A B n (j + 1) u v
      by_cases e : u = n + j ∧ v = n + m + 1
      · obtain ⟨rfl, rfl⟩ := e
        rw [if_pos ⟨rfl, rfl⟩]; unfold rf; rw [if_neg (by omega), if_neg (by omega), if_pos ⟨rfl, by omega, by omega⟩, Nat.add_sub_cancel_left]
      · rw [if_neg e]; unfold rf
        by_cases e1 : u < n + m ∧ v < n + m
        · rw [if_pos e1, if_pos e1]
        · rw [if_neg e1, if_neg e1]
          by_cases e2 : u = n + m ∧ v < n
          · rw [if_pos e2, if_pos e2]
          · rw [if_neg e2, if_neg e2]
            by_cases e3 : v = n + m + 1 ∧ n ≤ u ∧ u < n + j
            · rw [if_pos e3, if_pos (by omega)]
            · rw [if_neg e3, if_neg (by omega)]
    · by_cases e : b = j
      · subst e; omega
      · exact p3 b (by omega)
  rw [cl] at p2 p3
  refine total_ok g.lr ?_
  rw [ls_rows g]
  have hA : ∀ i, i < n → 0 ≤ A i ∧ A i ≤ 100000 := fun i hi => by
    have := k3 i hi; have := g.rw i hi
    have := sm_nonneg (n := m) (f := mt t.Lo i) (fun j hj => (bl i j hi hj).1)
    show 0 ≤ t.Rows.getD i 0 - sm m (mt t.Lo i) ∧ t.Rows.getD i 0 - sm m (mt t.Lo i) ≤ 100000; omega
  have hB : ∀ j, j < m → 0 ≤ B j ∧ B j ≤ 100000 := fun j hj => by
    have := p3 j hj; have := g.cw j hj
    have := sm_nonneg (n := n) (f := fun i => mt t.Lo i j) (fun i hi => (bl i j hi hj).1)
    show 0 ≤ t.Cols.getD j 0 - sm n (fun i => mt t.Lo i j) ∧ t.Cols.getD j 0 - sm n (fun i => mt t.Lo i j) ≤ 100000; omega
  have fb : ∀ u v, u < n + m + 2 → v < n + m + 2 → 0 ≤ F n m u v ∧ F n m u v ≤ 100000 := fun u v hu hv => by
    show 0 ≤ rf n m (mt t.Lo) (mt t.Hi) A B n m u v ∧ rf n m (mt t.Lo) (mt t.Hi) A B n m u v ≤ 100000
    unfold rf
    split
    · rename_i c; exact rs_bnd g.b0 (fun i j hi hj => ⟨Int.le_refl _, (g.bd i j hi hj).2.1⟩) c.1 c.2
    · split
      · rename_i c; exact hA v c.2
      · split
        · rename_i c; exact hB (u - n) (by omega)
        · omega
  have hR := sm_bnd (n := n) (f := fun i => t.Rows.getD i 0) (B := 100000) (fun i hi => g.rw i hi)
  refine push_ok p1 (by omega) (by omega) (by omega) (by omega) (fun u v hu hv => by rw [p2 u v hu hv]; have := fb u v hu hv; omega) (by omega) fun sent r' hr' P => ?_
  have P2 := P.cg p2
  have lb := fun {u v : Nat} (hu : u < n + m + 2) (hv : v < n + m + 2) => left_bnd P2 fb hu hv
  refine restore_ok (N := n + m + 2) g g.lo (by omega) hr' (fun i j hi hj => by have := lb (show i < n + m + 2 by omega) (show n + j < n + m + 2 by omega); omega) fun out ho eo => ?_
  have eo2 : ∀ i j, i < n → j < m → mt out i j = mt t.Hi i j - mt r' i (n + j) := fun i j hi hj => by rw [eo i j hi hj]; exact mv_yes (decide_eq_true (by omega))
  have f := fF_fi P2 (R := fun i => t.Rows.getD i 0) (C := fun j => t.Cols.getD j 0) (fun i j hi hj => (g.bd i j hi hj).2.1) (fun i _ => rfl) (fun j _ => rfl)
  refine h out ho ⟨fun i j hi hj => ?_, fun i hi => ?_, fun j hj => ?_⟩ fun y fy => ?_
  · rw [eo2 i j hi hj]; exact f.bd i j hi hj
  · rw [sm_congr (fun j hj => eo2 i j hi hj)]; exact f.row i hi
  · rw [sm_congr (fun i hi => eo2 i j hi hj)]; exact f.col j hj
  · have := fF_max P2 (R := fun i => t.Rows.getD i 0) (C := fun j => t.Cols.getD j 0) (fun i j hi hj => by have := g.bd i j hi hj; omega) (fun i _ => rfl) (fun j _ => rfl) rfl fy
    rw [sm_congr (f := fun i => sm m (mt out i)) (fun i hi => sm_congr fun j hj => eo2 i j hi hj)]; exact this
end Go.Proofs.Ytommbnkecafodaa
