/- Sums over the first numbers; cuts; networks of rows and columns: what a push along what is left does. -/
import Derived.Test.YtommbnkecafodaaPB
set_option linter.unusedVariables false
set_option autoImplicit false
namespace Go.Gv

def sm : Nat → (Nat → Int) → Int
  | 0, _ => 0
  | n + 1, f => sm n f + f n
theorem sm_congr {n : Nat} {f g : Nat → Int} (h : ∀ i, i < n → f i = g i) : sm n f = sm n g := by
  induction n with
  | zero => rfl
  | succ n ih => simp only [sm]; rw [ih (fun i hi => h i (by omega)), h n (by omega)]
theorem sm_add (n : Nat) (f g : Nat → Int) : sm n (fun i => f i + g i) = sm n f + sm n g := by
  induction n with
  | zero => rfl
  | succ n ih => simp only [sm, ih]; omega
theorem sm_sub (n : Nat) (f g : Nat → Int) : sm n (fun i => f i - g i) = sm n f - sm n g := by
  induction n with
  | zero => rfl
  | succ n ih => simp only [sm, ih]; omega
theorem sm_neg (n : Nat) (f : Nat → Int) : sm n (fun i => - f i) = - sm n f := by
  induction n with
  | zero => rfl
  | succ n ih => simp only [sm, ih]; omega
theorem sm_zero {n : Nat} {f : Nat → Int} (h : ∀ i, i < n → f i = 0) : sm n f = 0 := by
  induction n with
  | zero => rfl
  | succ n ih => simp only [sm]; rw [ih (fun i hi => h i (by omega)), h n (by omega)]; rfl
theorem sm_le {n : Nat} {f g : Nat → Int} (h : ∀ i, i < n → f i ≤ g i) : sm n f ≤ sm n g := by
  induction n with
  | zero => exact Int.le_refl _
  | succ n ih => simp only [sm]; have := ih (fun i hi => h i (by omega)); have := h n (by omega); omega
theorem sm_nonneg {n : Nat} {f : Nat → Int} (h : ∀ i, i < n → 0 ≤ f i) : 0 ≤ sm n f := by
  have := sm_le (n := n) (f := fun _ => 0) (g := f) h; rw [sm_zero (fun _ _ => rfl)] at this; exact this
theorem sm_one {n k : Nat} {f : Nat → Int} (hk : k < n) (h : ∀ i, i < n → i ≠ k → f i = 0) : sm n f = f k := by
  induction n with
  | zero => omega
  | succ n ih =>
    simp only [sm]
    by_cases e : k = n
    · subst e; rw [sm_zero (fun i hi => h i (by omega) (by omega))]; omega
    · rw [ih (by omega) (fun i hi hn => h i (by omega) hn), h n (by omega) (by omega)]; omega
/-- All but one are alike. -/
theorem sm_but {n k : Nat} {f g : Nat → Int} (hk : k < n) (h : ∀ i, i < n → i ≠ k → f i = g i) : sm n f - sm n g = f k - g k := by
  rw [← sm_sub]; exact sm_one hk (fun i hi hn => by rw [h i hi hn]; omega)
theorem sm_swap (n m : Nat) (f : Nat → Nat → Int) : sm n (fun i => sm m (f i)) = sm m (fun j => sm n (fun i => f i j)) := by
  induction n with
  | zero => simp only [sm]; rw [sm_zero (fun _ _ => rfl)]
  | succ n ih => simp only [sm]; rw [ih, ← sm_add]
theorem sm_split (n m : Nat) (f : Nat → Int) : sm (n + m) f = sm n f + sm m (fun i => f (n + i)) := by
  induction m with
  | zero => simp [sm]
  | succ m ih => rw [← Nat.add_assoc]; simp only [sm]; rw [ih]; omega
theorem sm_eq_zero {n : Nat} {f : Nat → Int} (h : ∀ i, i < n → 0 ≤ f i) (hs : sm n f ≤ 0) : ∀ i, i < n → f i = 0 := by
  induction n with
  | zero => intro i hi; omega
  | succ n ih =>
    simp only [sm] at hs
    have h1 := sm_nonneg (n := n) (f := f) (fun i hi => h i (by omega)); have h2 := h n (by omega)
    intro i hi
    by_cases e : i = n
    · subst e; omega
    · exact ih (fun i hi => h i (by omega)) (by omega) i (by omega)
/-- What leaves a set of nodes over whose edge nothing can go: it does not leave the one node of it that makes something. -/
theorem cut {N s : Nat} {T : Nat → Bool} {g : Nat → Nat → Int} (hs : s < N) (Ts : T s = true) (anti : ∀ u v, u < N → v < N → g u v = - g v u)
    (le : ∀ u v, u < N → v < N → T u = true → T v = false → g u v ≤ 0) (cons : ∀ u, u < N → T u = true → u ≠ s → sm N (g u) = 0) : sm N (g s) ≤ 0 := by
  have h1 : sm N (fun u => if T u = true then sm N (g u) else 0) = sm N (g s) := by
    rw [sm_one hs]
    · simp only [Ts, if_true]
    · intro u hu hn
      by_cases hT : T u = true
      · simp only [hT, if_true]; exact cons u hu hT hn
      · simp only [hT]; rfl
  have hX : sm N (fun u => sm N (fun v => if T u = true ∧ T v = true then g u v else 0)) = 0 := by
    have a : sm N (fun u => sm N (fun v => if T u = true ∧ T v = true then g u v else 0)) = - sm N (fun u => sm N (fun v => if T u = true ∧ T v = true then g u v else 0)) := by
      rw [← sm_neg]
      rw [sm_swap]
      refine sm_congr fun u hu => ?_
      rw [← sm_neg]
      refine sm_congr fun v hv => ?_
      have := anti v u hv hu
      by_cases c : T u = true ∧ T v = true
      · rw [if_pos c, if_pos ⟨c.2, c.1⟩]; exact this
      · rw [if_neg c, if_neg (fun d => c ⟨d.2, d.1⟩)]; rfl
    omega
  have h2 : sm N (fun u => if T u = true then sm N (g u) else 0) ≤ sm N (fun u => sm N (fun v => if T u = true ∧ T v = true then g u v else 0)) := by
    refine sm_le fun u hu => ?_
    by_cases hT : T u = true
    · simp only [hT, if_true, true_and]
      refine sm_le fun v hv => ?_
      by_cases hv' : T v = true
      · simp only [hv', if_true]; exact Int.le_refl _
      · have hf : T v = false := by revert hv'; cases T v <;> simp
        rw [if_neg hv']; exact le u v hu hv hT hf
    · rw [if_neg hT]; exact Int.le_of_eq (sm_zero (fun v hv => by rw [if_neg (fun c => hT c.1)])).symm
  omega

/-! ### what a push does -/
structure Pu (N : Nat) (r r' : Nat → Nat → Int) (s t : Nat) (L sent : Int) : Prop where
  nn : ∀ u v, u < N → v < N → 0 ≤ r' u v
  pr : ∀ u v, u < N → v < N → r' u v + r' v u = r u v + r v u
  dv : ∀ u, u < N → sm N (fun v => r u v - r' u v) = (if u = s then sent else 0) - (if u = t then sent else 0)
  s0 : 0 ≤ sent
  s1 : sent ≤ L
  ct : sent < L → ∃ T : Nat → Bool, T s = true ∧ T t = false ∧ ∀ u v, u < N → v < N → T u = true → T v = false → r' u v ≤ 0

/-- What is left between rows and columns, at the elements that are free. -/
def rs (n m : Nat) (lo hi x : Nat → Nat → Int) (fr : Nat → Nat → Bool) (u v : Nat) : Int :=
  if u < n ∧ n ≤ v ∧ v < n + m ∧ fr u (v - n) = true then hi u (v - n) - x u (v - n)
  else if n ≤ u ∧ u < n + m ∧ v < n ∧ fr v (u - n) = true then x v (u - n) - lo v (u - n) else 0
section
variable {n m : Nat} {lo hi x : Nat → Nat → Int} {fr : Nat → Nat → Bool}
theorem rs_rc {i j : Nat} (h1 : i < n) (h2 : j < m) : rs n m lo hi x fr i (n + j) = if fr i j = true then hi i j - x i j else 0 := by
  unfold rs; rw [Nat.add_sub_cancel_left]
  by_cases h : fr i j = true
  · rw [if_pos ⟨h1, by omega, by omega, h⟩, if_pos h]
  · rw [if_neg (fun c => h c.2.2.2), if_neg h, if_neg (by omega)]
theorem rs_cr {i j : Nat} (h1 : i < n) (h2 : j < m) : rs n m lo hi x fr (n + j) i = if fr i j = true then x i j - lo i j else 0 := by
  unfold rs; rw [Nat.add_sub_cancel_left]
  rw [if_neg (by omega)]
  by_cases h : fr i j = true
  · rw [if_pos ⟨by omega, by omega, h1, h⟩, if_pos h]
  · rw [if_neg (fun c => h c.2.2.2), if_neg h]
theorem rs_rr {u v : Nat} (h1 : u < n) (h2 : v < n) : rs n m lo hi x fr u v = 0 := by
  unfold rs; rw [if_neg (by omega), if_neg (by omega)]
theorem rs_cc {u v : Nat} : rs n m lo hi x fr (n + u) (n + v) = 0 := by
  unfold rs; rw [if_neg (by omega), if_neg (by omega)]

/-- The matrix behind a push, but for the element that the push goes around. -/
def mv (n : Nat) (hi x : Nat → Nat → Int) (fr : Nat → Nat → Bool) (r' : Nat → Nat → Int) (i j : Nat) : Int := if fr i j = true then hi i j - r' i (n + j) else x i j

variable {r' : Nat → Nat → Int} {a b : Nat} {L sent : Int}
theorem Pu.rc (P : Pu (n + m) (rs n m lo hi x fr) r' a b L sent) {i j : Nat} (h1 : i < n) (h2 : j < m) (h : fr i j = true) : r' i (n + j) + r' (n + j) i = hi i j - lo i j := by
  have := P.pr i (n + j) (by omega) (by omega)
  rw [rs_rc h1 h2, rs_cr h1 h2, if_pos h, if_pos h] at this; omega
theorem Pu.no (P : Pu (n + m) (rs n m lo hi x fr) r' a b L sent) {i j : Nat} (h1 : i < n) (h2 : j < m) (h : ¬ fr i j = true) : r' i (n + j) = 0 ∧ r' (n + j) i = 0 := by
  have := P.pr i (n + j) (by omega) (by omega)
  rw [rs_rc h1 h2, rs_cr h1 h2, if_neg h, if_neg h] at this
  have := P.nn i (n + j) (by omega) (by omega); have := P.nn (n + j) i (by omega) (by omega); omega
theorem Pu.rr (P : Pu (n + m) (rs n m lo hi x fr) r' a b L sent) {u v : Nat} (h1 : u < n) (h2 : v < n) : r' u v = 0 := by
  have := P.pr u v (by omega) (by omega)
  rw [rs_rr h1 h2, rs_rr h2 h1] at this
  have := P.nn u v (by omega) (by omega); have := P.nn v u (by omega) (by omega); omega
theorem Pu.cc (P : Pu (n + m) (rs n m lo hi x fr) r' a b L sent) {u v : Nat} (h1 : u < m) (h2 : v < m) : r' (n + u) (n + v) = 0 := by
  have := P.pr (n + u) (n + v) (by omega) (by omega)
  rw [rs_cc, rs_cc] at this
  have := P.nn (n + u) (n + v) (by omega) (by omega); have := P.nn (n + v) (n + u) (by omega) (by omega); omega
theorem Pu.bnd (P : Pu (n + m) (rs n m lo hi x fr) r' a b L sent) {i j : Nat} (h1 : i < n) (h2 : j < m) (h : fr i j = true) : lo i j ≤ mv n hi x fr r' i j ∧ mv n hi x fr r' i j ≤ hi i j := by
  have := P.rc h1 h2 h; have := P.nn i (n + j) (by omega) (by omega); have := P.nn (n + j) i (by omega) (by omega)
  unfold mv; rw [if_pos h]; omega
theorem Pu.row (P : Pu (n + m) (rs n m lo hi x fr) r' a b L sent) {i : Nat} (h1 : i < n) :
    sm m (mv n hi x fr r' i) - sm m (x i) = (if i = a then sent else 0) - (if i = b then sent else 0) := by
  rw [← P.dv i (by omega), sm_split, sm_zero (f := fun v => rs n m lo hi x fr i v - r' i v), ← sm_sub]
  · rw [Int.zero_add]
    refine sm_congr fun j hj => ?_
    rw [rs_rc h1 hj]; unfold mv
    by_cases h : fr i j = true
    · rw [if_pos h, if_pos h]; omega
    · rw [if_neg h, if_neg h, (P.no h1 hj h).1]; omega
  · intro v hv; rw [rs_rr h1 hv, P.rr h1 hv]; rfl
theorem Pu.col (P : Pu (n + m) (rs n m lo hi x fr) r' a b L sent) {j : Nat} (h1 : j < m) :
    sm n (fun i => x i j) - sm n (fun i => mv n hi x fr r' i j) = (if n + j = a then sent else 0) - (if n + j = b then sent else 0) := by
  rw [← P.dv (n + j) (by omega), sm_split, sm_zero (n := m), ← sm_sub]
  · rw [Int.add_zero]
    refine sm_congr fun i hi' => ?_
    rw [rs_cr hi' h1]; unfold mv
    by_cases h : fr i j = true
    · rw [if_pos h, if_pos h]; have := P.rc hi' h1 h; omega
    · rw [if_neg h, if_neg h, (P.no hi' h1 h).2]; omega
  · intro v hv; rw [rs_cc, P.cc h1 hv]; rfl

/-- How y differs from the matrix behind the push, as something that goes from node to node. -/
def dg (n m : Nat) (fr : Nat → Nat → Bool) (y z : Nat → Nat → Int) (u v : Nat) : Int :=
  if u < n ∧ n ≤ v ∧ v < n + m ∧ fr u (v - n) = true then y u (v - n) - z u (v - n)
  else if n ≤ u ∧ u < n + m ∧ v < n ∧ fr v (u - n) = true then z v (u - n) - y v (u - n) else 0
variable {y z : Nat → Nat → Int}
theorem dg_rc {i j : Nat} (h1 : i < n) (h2 : j < m) : dg n m fr y z i (n + j) = if fr i j = true then y i j - z i j else 0 := rs_rc h1 h2
theorem dg_cr {i j : Nat} (h1 : i < n) (h2 : j < m) : dg n m fr y z (n + j) i = if fr i j = true then z i j - y i j else 0 := rs_cr h1 h2
theorem dg_rr {u v : Nat} (h1 : u < n) (h2 : v < n) : dg n m fr y z u v = 0 := rs_rr h1 h2
theorem dg_cc {u v : Nat} : dg n m fr y z (n + u) (n + v) = 0 := rs_cc
theorem node {n m u : Nat} (h : u < n + m) : u < n ∨ ∃ j, j < m ∧ u = n + j := by
  by_cases h1 : u < n
  · exact .inl h1
  · exact .inr ⟨u - n, by omega, by omega⟩
theorem dg_anti {u v : Nat} (hu : u < n + m) (hv : v < n + m) : dg n m fr y z u v = - dg n m fr y z v u := by
  rcases node hu with h1 | ⟨j, hj, rfl⟩ <;> rcases node hv with h2 | ⟨k, hk, rfl⟩
  · rw [dg_rr h1 h2, dg_rr h2 h1]; rfl
  · rw [dg_rc h1 hk, dg_cr h1 hk]; split <;> omega
  · rw [dg_rc h2 hj, dg_cr h2 hj]; split <;> omega
  · rw [dg_cc, dg_cc]; rfl
theorem dg_row {i : Nat} (h : i < n) : sm (n + m) (dg n m fr y z i) = sm m (fun j => if fr i j = true then y i j - z i j else 0) := by
  rw [sm_split, sm_zero (f := dg n m fr y z i) (fun v hv => dg_rr h hv), Int.zero_add]
  exact sm_congr fun j hj => dg_rc h hj
theorem dg_col {j : Nat} (h : j < m) : sm (n + m) (dg n m fr y z (n + j)) = sm n (fun i => if fr i j = true then z i j - y i j else 0) := by
  rw [sm_split, sm_zero (n := m) (fun v hv => dg_cc), Int.add_zero]
  exact sm_congr fun i hi => dg_cr hi h
theorem Pu.dg_le (P : Pu (n + m) (rs n m lo hi x fr) r' a b L sent) (hy : ∀ i j, i < n → j < m → fr i j = true → lo i j ≤ y i j ∧ y i j ≤ hi i j) {u v : Nat} (hu : u < n + m) (hv : v < n + m) :
    dg n m fr y (mv n hi x fr r') u v ≤ r' u v := by
  have h0 := P.nn u v hu hv
  rcases node hu with h1 | ⟨j, hj, rfl⟩ <;> rcases node hv with h2 | ⟨k, hk, rfl⟩
  · rw [dg_rr h1 h2]; exact h0
  · rw [dg_rc h1 hk]; split
    · rename_i c; have := hy u k h1 hk c; unfold mv; rw [if_pos c]; omega
    · exact h0
  · rw [dg_cr h2 hj]; split
    · rename_i c; have := hy v j h2 hj c; have := P.rc h2 hj c; unfold mv; rw [if_pos c]; omega
    · exact h0
  · rw [dg_cc]; exact h0

/-- A push from the row to the column of an element: it is as small as it can be. -/
theorem Pu.down {i0 j0 : Nat} (P : Pu (n + m) (rs n m lo hi x fr) r' i0 (n + j0) L sent) (hi0 : i0 < n) (hj0 : j0 < m) (hfr : fr i0 j0 = false) (hs : sent < L)
    (hy : ∀ i j, i < n → j < m → fr i j = true → lo i j ≤ y i j ∧ y i j ≤ hi i j) (hk : ∀ i j, i < n → j < m → fr i j = false → ¬ (i = i0 ∧ j = j0) → y i j = x i j)
    (hr : ∀ i, i < n → sm m (y i) = sm m (x i)) (hc : ∀ j, j < m → sm n (fun i => y i j) = sm n (fun i => x i j)) : x i0 j0 - sent ≤ y i0 j0 := by
  obtain ⟨T, Ts, Tt, hT⟩ := P.ct hs
  have key := cut (N := n + m) (s := i0) (T := T) (g := dg n m fr y (mv n hi x fr r')) (by omega) Ts (fun u v hu hv => dg_anti hu hv)
    (fun u v hu hv h1 h2 => Int.le_trans (P.dg_le hy hu hv) (hT u v hu hv h1 h2)) (fun u hu hTu hn => ?_)
  · rw [dg_row hi0] at key
    have e : sm m (fun j => if fr i0 j = true then y i0 j - mv n hi x fr r' i0 j else 0) - sm m (fun j => y i0 j - mv n hi x fr r' i0 j) = 0 - (y i0 j0 - mv n hi x fr r' i0 j0) := by
      have := sm_but (n := m) (f := fun j => if fr i0 j = true then y i0 j - mv n hi x fr r' i0 j else 0) (g := fun j => y i0 j - mv n hi x fr r' i0 j) hj0 (fun j hj hne => ?_)
      · rw [this]; simp only [hfr]; rfl
      · show (if fr i0 j = true then _ else _) = _
        by_cases c : fr i0 j = true
        · rw [if_pos c]
        · have c' : fr i0 j = false := Bool.eq_false_iff.2 c
          rw [if_neg c, hk i0 j hi0 hj c' (fun d => hne d.2)]; unfold mv; rw [if_neg c]; omega
    rw [sm_sub] at e
    have h1 := P.row hi0
    have h2 := hr i0 hi0
    have h3 : mv n hi x fr r' i0 j0 = x i0 j0 := by unfold mv; rw [hfr]; rfl
    simp only [if_true] at h1
    rw [if_neg (by omega)] at h1
    have e2 : sm m (fun i => y i0 i) = sm m (y i0) := rfl
    have e3 : sm m (fun i => mv n hi x fr r' i0 i) = sm m (mv n hi x fr r' i0) := rfl
    omega
  · rcases node hu with h1 | ⟨j, hj, rfl⟩
    · rw [dg_row h1]
      have e : sm m (fun j => if fr u j = true then y u j - mv n hi x fr r' u j else 0) = sm m (fun j => y u j - mv n hi x fr r' u j) := by
        refine sm_congr fun j hj => ?_
        by_cases c : fr u j = true
        · rw [if_pos c]
        · have c' : fr u j = false := Bool.eq_false_iff.2 c
          rw [if_neg c, hk u j h1 hj c' (fun d => hn d.1)]; unfold mv; rw [if_neg c]; omega
      rw [e, sm_sub]
      have h2 := P.row h1; have h3 := hr u h1
      rw [if_neg hn, if_neg (by omega)] at h2
      have e2 : sm m (fun i => y u i) = sm m (y u) := rfl
      have e3 : sm m (fun i => mv n hi x fr r' u i) = sm m (mv n hi x fr r' u) := rfl
      omega
    · rw [dg_col hj]
      have hne : j ≠ j0 := fun e => by subst e; rw [hTu] at Tt; cases Tt
      have e : sm n (fun i => if fr i j = true then mv n hi x fr r' i j - y i j else 0) = sm n (fun i => mv n hi x fr r' i j - y i j) := by
        refine sm_congr fun i hi' => ?_
        by_cases c : fr i j = true
        · rw [if_pos c]
        · have c' : fr i j = false := Bool.eq_false_iff.2 c
          rw [if_neg c, hk i j hi' hj c' (fun d => hne d.2)]; unfold mv; rw [if_neg c]; omega
      rw [e, sm_sub]
      have h2 := P.col hj; have h3 := hc j hj
      rw [if_neg hn, if_neg (by omega)] at h2
      omega
/-- A push from the column to the row of an element: it is as great as it can be. -/
theorem Pu.up {i0 j0 : Nat} (P : Pu (n + m) (rs n m lo hi x fr) r' (n + j0) i0 L sent) (hi0 : i0 < n) (hj0 : j0 < m) (hfr : fr i0 j0 = false) (hs : sent < L)
    (hy : ∀ i j, i < n → j < m → fr i j = true → lo i j ≤ y i j ∧ y i j ≤ hi i j) (hk : ∀ i j, i < n → j < m → fr i j = false → ¬ (i = i0 ∧ j = j0) → y i j = x i j)
    (hr : ∀ i, i < n → sm m (y i) = sm m (x i)) (hc : ∀ j, j < m → sm n (fun i => y i j) = sm n (fun i => x i j)) : y i0 j0 ≤ x i0 j0 + sent := by
  obtain ⟨T, Ts, Tt, hT⟩ := P.ct hs
  have key := cut (N := n + m) (s := n + j0) (T := T) (g := dg n m fr y (mv n hi x fr r')) (by omega) Ts (fun u v hu hv => dg_anti hu hv)
    (fun u v hu hv h1 h2 => Int.le_trans (P.dg_le hy hu hv) (hT u v hu hv h1 h2)) (fun u hu hTu hn => ?_)
  · rw [dg_col hj0] at key
    have e : sm n (fun i => if fr i j0 = true then mv n hi x fr r' i j0 - y i j0 else 0) - sm n (fun i => mv n hi x fr r' i j0 - y i j0) = 0 - (mv n hi x fr r' i0 j0 - y i0 j0) := by
      have := sm_but (n := n) (f := fun i => if fr i j0 = true then mv n hi x fr r' i j0 - y i j0 else 0) (g := fun i => mv n hi x fr r' i j0 - y i j0) hi0 (fun i hi' hne => ?_)
      · rw [this]; simp only [hfr]; rfl
      · show (if fr i j0 = true then _ else _) = _
        by_cases c : fr i j0 = true
        · rw [if_pos c]
        · have c' : fr i j0 = false := Bool.eq_false_iff.2 c
          rw [if_neg c, hk i j0 hi' hj0 c' (fun d => hne d.1)]; unfold mv; rw [if_neg c]; omega
    rw [sm_sub] at e
    have h1 := P.col hj0
    have h2 := hc j0 hj0
    have h3 : mv n hi x fr r' i0 j0 = x i0 j0 := by unfold mv; rw [hfr]; rfl
    simp only [if_true] at h1
    rw [if_neg (by omega)] at h1
    omega
  · rcases node hu with h1 | ⟨j, hj, rfl⟩
    · rw [dg_row h1]
      have hne : u ≠ i0 := fun e => by subst e; rw [hTu] at Tt; cases Tt
      have e : sm m (fun j => if fr u j = true then y u j - mv n hi x fr r' u j else 0) = sm m (fun j => y u j - mv n hi x fr r' u j) := by
        refine sm_congr fun j hj => ?_
        by_cases c : fr u j = true
        · rw [if_pos c]
        · have c' : fr u j = false := Bool.eq_false_iff.2 c
          rw [if_neg c, hk u j h1 hj c' (fun d => hne d.1)]; unfold mv; rw [if_neg c]; omega
      rw [e, sm_sub]
      have h2 := P.row h1; have h3 := hr u h1
      rw [if_neg hn, if_neg hne] at h2
      have e2 : sm m (fun i => y u i) = sm m (y u) := rfl
      have e3 : sm m (fun i => mv n hi x fr r' u i) = sm m (mv n hi x fr r' u) := rfl
      omega
    · rw [dg_col hj]
      have hne : j ≠ j0 := fun e => hn (by rw [e])
      have e : sm n (fun i => if fr i j = true then mv n hi x fr r' i j - y i j else 0) = sm n (fun i => mv n hi x fr r' i j - y i j) := by
        refine sm_congr fun i hi' => ?_
        by_cases c : fr i j = true
        · rw [if_pos c]
        · have c' : fr i j = false := Bool.eq_false_iff.2 c
          rw [if_neg c, hk i j hi' hj c' (fun d => hne d.2)]; unfold mv; rw [if_neg c]; omega
      rw [e, sm_sub]
      have h2 := P.col hj; have h3 := hc j hj
      rw [if_neg (by omega), if_neg (by omega)] at h2
      omega
end
end Go.Gv
