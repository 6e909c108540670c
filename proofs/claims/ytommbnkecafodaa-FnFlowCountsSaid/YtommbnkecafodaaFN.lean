/- Networks: sizes, copies, sums, what is valid; matrices as lists of lists, and what is left of a network. -/
import Derived.Test.YtommbnkecafodaaFM
set_option linter.unusedVariables false
set_option autoImplicit false
namespace Go.Proofs.Ytommbnkecafodaa
open Go Go.RowKit Go.Gv

/-! ### sizes and copies -/
def small (a : List (List Int)) : Prop := a.length ≤ 1048576 ∧ ∀ r ∈ a, r.length ≤ 1048576
structure smallT (t : Transport) : Prop where
  r : t.Rows.length ≤ 1048576
  c : t.Cols.length ≤ 1048576
  l : small t.Lo
  h : small t.Hi
/-! ### elements, matrices -/
theorem idx_gd {α : Type} {xs : List α} {k : Int} {i : Nat} {d : α} {K : α → Prop} (e : k = (i : Int)) (h : i < xs.length) (hk : K (xs.getD i d)) : idx xs k K := by
  subst e
  refine idx_at h ?_
  have : xs.getD i d = xs[i] := by simp [h]
  rwa [this] at hk
def mt (x : List (List Int)) (i j : Nat) : Int := (x.getD i []).getD j 0
def Sh (n m : Nat) (x : List (List Int)) : Prop := x.length = n ∧ ∀ i, i < n → (x.getD i []).length = m
theorem idx_mt {n m : Nat} {x : List (List Int)} {k l : Int} {i j : Nat} {K : Int → Prop} (hs : Sh n m x) (e : k = (i : Int)) (e' : l = (j : Int)) (hi : i < n) (hj : j < m) (h : K (mt x i j)) : idx x k fun r => idx r l K :=
  idx_gd (d := []) e (by rw [hs.1]; exact hi) (idx_gd (d := 0) e' (by rw [hs.2 i hi]; exact hj) h)
def mst (x : List (List Int)) (i j : Nat) (v : Int) : List (List Int) := x.set i ((x.getD i []).set j v)
theorem getD_set {α : Type} {xs : List α} {i k : Nat} {d v : α} (h : i < xs.length) : (xs.set i v).getD k d = if k = i then v else xs.getD k d := by
  by_cases e : k = i
  · subst e; rw [if_pos rfl]; simp [h]
  · rw [if_neg e]; simp [List.getD_eq_getElem?_getD, List.getElem?_set_ne (Ne.symm e)]
theorem mst_sh {n m : Nat} {x : List (List Int)} {i j : Nat} {v : Int} (hs : Sh n m x) (hi : i < n) : Sh n m (mst x i j v) := by
  refine ⟨by unfold mst; rw [List.length_set]; exact hs.1, fun k hk => ?_⟩
  unfold mst; rw [getD_set (by rw [hs.1]; exact hi)]
  split
  · rw [List.length_set]; exact hs.2 i hi
  · exact hs.2 k hk
theorem mst_mt {n m : Nat} {x : List (List Int)} {i j a b : Nat} {v : Int} (hs : Sh n m x) (hi : i < n) (hj : j < m) : mt (mst x i j v) a b = if a = i ∧ b = j then v else mt x a b := by
  unfold mt mst; rw [getD_set (by rw [hs.1]; exact hi)]
  by_cases e : a = i
  · subst e; rw [if_pos rfl, getD_set (by rw [hs.2 a hi]; exact hj)]
    by_cases e2 : b = j
    · rw [if_pos e2, if_pos ⟨rfl, e2⟩]
    · rw [if_neg e2, if_neg (fun c => e2 c.2)]
  · rw [if_neg e, if_neg (fun c => e c.1)]
theorem mt_ext {n m : Nat} {x y : List (List Int)} (hx : Sh n m x) (hy : Sh n m y) (h : ∀ i j, i < n → j < m → mt x i j = mt y i j) : x = y := by
  refine List.ext_getElem (by rw [hx.1, hy.1]) fun i h1 h2 => ?_
  have hi : i < n := by rw [← hx.1]; exact h1
  have e1 : x.getD i [] = x[i] := by simp [h1]
  have e2 : y.getD i [] = y[i] := by simp [h2]
  have l1 := hx.2 i hi; have l2 := hy.2 i hi
  rw [e1] at l1; rw [e2] at l2
  refine List.ext_getElem (by rw [l1, l2]) fun j h3 h4 => ?_
  have := h i j hi (by omega)
  unfold mt at this; rw [e1, e2] at this
  simpa [h3, h4] using this
/-! ### sums -/
def ls (l : List Int) : Int := sm l.length fun j => l.getD j 0
theorem sm_bnd {n : Nat} {f : Nat → Int} {B : Int} (h : ∀ i, i < n → 0 ≤ f i ∧ f i ≤ B) : 0 ≤ sm n f ∧ sm n f ≤ B * n := by
  induction n with
  | zero => exact ⟨Int.le_refl _, by simp [sm]⟩
  | succ n ih =>
    have h1 := ih fun i hi => h i (by omega)
    have h2 := h n (by omega)
    have e : B * ((n + 1 : Nat) : Int) = B * n + B := by rw [Int.natCast_succ, Int.mul_add, Int.mul_one]
    unfold sm; rw [e]; omega
def lim (l : List Int) : Prop := l.length ≤ 1000 ∧ ∀ i, i < l.length → 0 ≤ l.getD i 0 ∧ l.getD i 0 ≤ 1000000000
theorem lim.part {l : List Int} (h : lim l) {i : Nat} (hi : i ≤ l.length) : 0 ≤ sm i (fun j => l.getD j 0) ∧ sm i (fun j => l.getD j 0) ≤ 1000000000 * i := sm_bnd fun k hk => h.2 k (by omega)
theorem total_ok {l : List Int} {Q : Int → Prop} (hl : lim l) (h : Q (ls l)) : impl_total l Q := by
  unfold impl_total
  have h0 := hl.1
  refine loop2_list (by omega) (fun s i => i ≤ l.length ∧ s = sm i fun j => l.getD j 0) ⟨by omega, rfl⟩ (fun s i nx hi ⟨_, e⟩ hx => idx_gd (d := 0) rfl hi ?_) (fun s ⟨_, e⟩ => by rw [e]; exact h)
  have h1 := hl.part (i := i) (by omega); have h2 := hl.2 i hi
  rw [← e] at h1
  rw [wr_in (by omega) (by omega)]
  exact hx _ ⟨by omega, by rw [e]; rfl⟩
theorem tSum_ok {l : List Int} {Q : Int → Prop} (hl : lim l) (h : Q (ls l)) : spec_tSum l Q := by
  unfold spec_tSum
  have h0 := hl.1
  refine loop2_list (by omega) (fun s i => i ≤ l.length ∧ s = sm i fun j => l.getD j 0) ⟨by omega, rfl⟩ (fun s i nx hi ⟨_, e⟩ hx => idx_gd (d := 0) rfl hi ?_) (fun s ⟨_, e⟩ => by rw [e]; exact h)
  have h1 := hl.part (i := i) (by omega); have h2 := hl.2 i hi
  rw [← e] at h1
  rw [wr_in (by omega) (by omega)]
  exact hx _ ⟨by omega, by rw [e]; rfl⟩
/-! ### what is valid -/
structure Gd (t : Transport) (n m : Nat) : Prop where
  rl : t.Rows.length = n
  cl : t.Cols.length = m
  n1 : 1 ≤ n
  n8 : n ≤ 8
  m1 : 1 ≤ m
  m8 : m ≤ 8
  rw : ∀ i, i < n → 0 ≤ t.Rows.getD i 0 ∧ t.Rows.getD i 0 ≤ 100000
  cw : ∀ i, i < m → 0 ≤ t.Cols.getD i 0 ∧ t.Cols.getD i 0 ≤ 100000
  lo : Sh n m t.Lo
  hi : Sh n m t.Hi
  bd : ∀ i j, i < n → j < m → 0 ≤ mt t.Lo i j ∧ mt t.Lo i j ≤ mt t.Hi i j ∧ mt t.Hi i j ≤ 100000
theorem Gd.lr {t : Transport} {n m : Nat} (g : Gd t n m) : lim t.Rows := ⟨by have := g.rl; have := g.n8; omega, fun i hi => by have := g.rw i (by have := g.rl; omega); omega⟩
theorem Gd.lc {t : Transport} {n m : Nat} (g : Gd t n m) : lim t.Cols := ⟨by have := g.cl; have := g.m8; omega, fun i hi => by have := g.cw i (by have := g.cl; omega); omega⟩
theorem all_get {l : List Int} {p : Int → Bool} : l.all p = true ↔ ∀ i, i < l.length → p (l.getD i 0) = true := by
  rw [List.all_eq_true]
  constructor
  · intro h i hi
    have : l.getD i 0 = l[i] := by simp [hi]
    rw [this]; exact h _ (List.getElem_mem hi)
  · intro h x hx
    obtain ⟨i, hi, rfl⟩ := List.mem_iff_getElem.1 hx
    have := h i hi
    simpa [hi] using this
theorem areSums_ok {l : List Int} {Q : Bool → Prop} (hl : l.length ≤ 1048576) (h : Q (decide (1 ≤ l.length ∧ l.length ≤ 8) && l.all (inb 0 100000))) : impl_areSums l Q := by
  unfold impl_areSums
  refine jn_bool (!decide (1 ≤ l.length ∧ l.length ≤ 8)) ?_ fun k hk => ?_
  · by_cases c : 1 ≤ l.length ∧ l.length ≤ 8
    · refine br_false (by simp [c]) ?_
      refine loop1_list (by omega) (fun i => ∀ k, k < i → inb 0 100000 (l.getD k 0) = true) (fun k hk => by omega) (fun i nx hi hj hx => idx_gd (d := 0) rfl hi ?_) (fun hj => ?_)
      · refine jn_bool (!inb 0 100000 (l.getD i 0)) ?_ fun k hk => ?_
        · by_cases c2 : inb 0 100000 (l.getD i 0) = true
          · refine br_false (by rw [c2]; rfl) (hx fun k hk => ?_)
            by_cases e : k = i
            · subst e; exact c2
            · exact hj k (by omega)
          · refine br_true (by simpa using c2) ?_
            have : l.all (inb 0 100000) = false := by
              rw [Bool.eq_false_iff]; exact fun h2 => c2 (all_get.1 h2 i hi)
            rw [this, Bool.and_false] at h; exact h
        · refine br_dec (fun g => ?_) (fun g => ?_)
          · have : inb 0 100000 (l.getD i 0) = false := by rw [Bool.eq_false_iff]; exact fun h2 => by have := inb_iff'.1 h2; omega
            rw [this] at hk; exact hk
          · have : (!inb 0 100000 (l.getD i 0)) = decide (l.getD i 0 > 100000) := by
              unfold inb; by_cases c3 : l.getD i 0 > 100000
              · rw [decide_eq_true c3]; have : ¬ l.getD i 0 ≤ 100000 := by omega
                rw [decide_eq_false this]; simp
              · rw [decide_eq_false c3]; have : l.getD i 0 ≤ 100000 := by omega
                rw [decide_eq_true this, decide_eq_true (show 0 ≤ l.getD i 0 by omega)]; rfl
            rw [this] at hk; exact hk
      · have : l.all (inb 0 100000) = true := all_get.2 hj
        rw [this, decide_eq_true c] at h; exact h
    · refine br_true (by simp only [decide_eq_false c]; rfl) ?_
      rw [decide_eq_false c] at h; exact h
  · refine br_dec (fun g => ?_) (fun g => ?_)
    · rw [decide_eq_false (by unfold ln at g; omega)] at hk; exact hk
    · have : (!decide (1 ≤ l.length ∧ l.length ≤ 8)) = decide (ln l > 8) := by
        unfold ln at g ⊢
        by_cases c : (l.length : Int) > 8
        · rw [decide_eq_true c, decide_eq_false (by omega)]; rfl
        · rw [decide_eq_false c, decide_eq_true (by omega)]; rfl
      rw [this] at hk; exact hk
theorem hasShape_ok {x : List (List Int)} {r c : Nat} {Q : Bool → Prop} (hx : x.length ≤ 1048576) (h : ∀ b, (b = true ↔ Sh r c x) → Q b) : impl_hasShape x r c Q := by
  unfold impl_hasShape
  refine br_ne (fun g => h _ ⟨(fun c => by cases c), fun s => (g (by unfold ln; rw [s.1])).elim⟩) (fun g => ?_)
  have hl : x.length = r := by unfold ln at g; omega
  refine loop1_list (by omega) (fun i => ∀ k, k < i → (x.getD k []).length = c) (fun k hk => by omega) (fun i nx hi hj hn => idx_gd (d := []) rfl hi ?_) (fun hj => h _ ⟨fun _ => ⟨hl, fun i hi => hj i (by omega)⟩, fun _ => rfl⟩)
  refine br_ne (fun g2 => h _ ⟨(fun c => by cases c), fun s => (g2 (by unfold ln; rw [s.2 i (by omega)])).elim⟩) (fun g2 => hn fun k hk => ?_)
  by_cases e : k = i
  · subst e; unfold ln at g2; omega
  · exact hj k (by omega)
theorem tSize_ok {t : Transport} {x : List (List Int)} {Q : Bool → Prop} (hx : x.length ≤ 1048576) (h : ∀ b, (b = true ↔ Sh t.Rows.length t.Cols.length x) → Q b) : spec_tSize t x Q := by
  unfold spec_tSize
  refine br_ne (fun g => h _ ⟨(fun c => by cases c), fun s => (g (by unfold ln; rw [s.1])).elim⟩) (fun g => ?_)
  have hl : x.length = t.Rows.length := by unfold ln at g; omega
  refine loop1_list (by omega) (fun i => ∀ k, k < i → (x.getD k []).length = t.Cols.length) (fun k hk => by omega) (fun i nx hi hj hn => idx_gd (d := []) rfl hi ?_) (fun hj => h _ ⟨fun _ => ⟨hl, fun i hi => hj i (by omega)⟩, fun _ => rfl⟩)
  refine br_ne (fun g2 => h _ ⟨(fun c => by cases c), fun s => (g2 (by unfold ln; rw [s.2 i (by omega)])).elim⟩) (fun g2 => hn fun k hk => ?_)
  by_cases e : k = i
  · subst e; unfold ln at g2; omega
  · exact hj k (by omega)
/-- The bounds of all elements. -/
def bds (t : Transport) (n m : Nat) : Prop := ∀ i j, i < n → j < m → 0 ≤ mt t.Lo i j ∧ mt t.Lo i j ≤ mt t.Hi i j ∧ mt t.Hi i j ≤ 100000
theorem IsTransport_ok {t : Transport} {Q : Bool → Prop} (hs : smallT t) (h : ∀ b, (b = true ↔ Gd t t.Rows.length t.Cols.length) → Q b) : impl_IsTransport t Q := by
  unfold impl_IsTransport
  obtain ⟨s1, s2, s3, s4⟩ := hs
  have sums : ∀ {l : List Int}, (decide (1 ≤ l.length ∧ l.length ≤ 8) && l.all (inb 0 100000)) = true ↔ (1 ≤ l.length ∧ l.length ≤ 8) ∧ ∀ i, i < l.length → 0 ≤ l.getD i 0 ∧ l.getD i 0 ≤ 100000 := by
    intro l; rw [Bool.and_eq_true, decide_eq_true_iff, all_get]
    exact ⟨fun ⟨a, b⟩ => ⟨a, fun i hi => inb_iff'.1 (b i hi)⟩, fun ⟨a, b⟩ => ⟨a, fun i hi => inb_iff'.2 (b i hi)⟩⟩
  have key : ∀ b : Bool, (b = true ↔ (((decide (1 ≤ t.Rows.length ∧ t.Rows.length ≤ 8) && t.Rows.all (inb 0 100000)) = true ∧ (decide (1 ≤ t.Cols.length ∧ t.Cols.length ≤ 8) && t.Cols.all (inb 0 100000)) = true ∧ Sh t.Rows.length t.Cols.length t.Lo ∧ Sh t.Rows.length t.Cols.length t.Hi) ∧ bds t t.Rows.length t.Cols.length)) → Q b := fun b hb => by
    refine h b (hb.trans ⟨fun ⟨⟨a, b, c, d⟩, e⟩ => ?_, fun g => ⟨⟨sums.2 ⟨⟨g.n1, g.n8⟩, g.rw⟩, sums.2 ⟨⟨g.m1, g.m8⟩, g.cw⟩, g.lo, g.hi⟩, g.bd⟩⟩)
    have a' := sums.1 a; have b' := sums.1 b
    exact ⟨rfl, rfl, a'.1.1, a'.1.2, b'.1.1, b'.1.2, a'.2, b'.2, c, d, e⟩
  by_cases hall : (decide (1 ≤ t.Rows.length ∧ t.Rows.length ≤ 8) && t.Rows.all (inb 0 100000)) = true ∧ (decide (1 ≤ t.Cols.length ∧ t.Cols.length ≤ 8) && t.Cols.all (inb 0 100000)) = true ∧ Sh t.Rows.length t.Cols.length t.Lo ∧ Sh t.Rows.length t.Cols.length t.Hi
  case neg =>
    refine jn_bool true (br_true rfl (key _ ⟨(fun c => by cases c), fun c => (hall c.1).elim⟩)) fun k hk => ?_
    refine areSums_ok s1 (br_nb (fun _ => hk) fun g1 => areSums_ok s2 (br_nb (fun _ => hk) fun g2 => hasShape_ok s3.1 fun b hb => br_nb (fun _ => hk) fun g3 => hasShape_ok s4.1 fun b' hb' => ?_))
    have : b' = false := by rw [Bool.eq_false_iff]; exact fun g4 => hall ⟨g1, g2, hb.1 g3, hb'.1 g4⟩
    rw [this]; exact hk
  obtain ⟨g1, g2, g3, g4⟩ := hall
  have hn := (sums.1 g1).1; have hm := (sums.1 g2).1
  refine jn_bool false ?_ fun k hk => ?_
  · refine br_false rfl ?_
    have fin : ∀ b : Bool, (b = true ↔ bds t t.Rows.length t.Cols.length) → Q b := fun b hb => key b (hb.trans ⟨fun x => ⟨⟨g1, g2, g3, g4⟩, x⟩, fun x => x.2⟩)
    have gl := g3.1
    refine loop1_list (by omega) (fun i => ∀ a j, a < i → j < t.Cols.length → 0 ≤ mt t.Lo a j ∧ mt t.Lo a j ≤ mt t.Hi a j ∧ mt t.Hi a j ≤ 100000) (fun a j ha => by omega) (fun i nx hi hj hx => idx_gd (d := []) rfl hi ?_) (fun hj => fin _ ⟨fun _ i j hi hj' => hj i j (by omega) hj', fun _ => rfl⟩)
    have hrow : (t.Lo.getD i []).length = t.Cols.length := g3.2 i (by omega)
    refine loop1_list (by omega) (fun j => ∀ b, b < j → 0 ≤ mt t.Lo i b ∧ mt t.Lo i b ≤ mt t.Hi i b ∧ mt t.Hi i b ≤ 100000) (fun b hb => by omega) (fun j nx2 hj2 hj3 hx2 => idx_gd (d := 0) rfl hj2 ?_) (fun hj3 => hx fun a j ha hjj => ?_)
    · have eg : (t.Lo.getD i []).getD j 0 = mt t.Lo i j := rfl
      by_cases c : 0 ≤ mt t.Lo i j ∧ mt t.Lo i j ≤ mt t.Hi i j ∧ mt t.Hi i j ≤ 100000
      · refine jn_bool false (br_false rfl (hx2 fun b hb => ?_)) fun k hk => br_no (by rw [eg]; omega) (idx_mt g4 rfl rfl (by omega) (by omega) (br_no (by rw [eg]; omega) (idx_mt g4 rfl rfl (by omega) (by omega) ?_)))
        · by_cases e : b = j
          · subst e; exact c
          · exact hj3 b (by omega)
        · rw [decide_eq_false (by omega)]; exact hk
      · refine jn_bool true (br_true rfl (fin _ ⟨(fun c => by cases c), fun x => (c (x i j (by omega) (by omega))).elim⟩)) fun k hk => br_dec (fun _ => hk) (fun h1 => idx_mt g4 rfl rfl (by omega) (by omega) (br_dec (fun _ => hk) fun h2 => idx_mt g4 rfl rfl (by omega) (by omega) ?_))
        rw [eg] at h1 h2
        rw [decide_eq_true (by omega)]; exact hk
    · by_cases e : a = i
      · subst e; exact hj3 j (by omega)
      · exact hj a j (by omega) hjj
  · refine areSums_ok s1 (br_false (by rw [g1]; rfl) (areSums_ok s2 (br_false (by rw [g2]; rfl) (hasShape_ok s3.1 fun b hb => br_false (by rw [hb.2 g3]; rfl) (hasShape_ok s4.1 fun b' hb' => ?_)))))
    rw [hb'.2 g4]; exact hk
theorem tGood_ok {t : Transport} {Q : Bool → Prop} (hs : smallT t) (h : ∀ b, (b = true ↔ Gd t t.Rows.length t.Cols.length) → Q b) : spec_tGood t Q := by
  unfold spec_tGood
  obtain ⟨s1, s2, s3, s4⟩ := hs
  have sums : ∀ {l : List Int}, (decide ((1 : Int) ≤ ln l) && decide (ln l ≤ 8)) = true ∧ l.all (inb 0 100000) = true ↔ (1 ≤ l.length ∧ l.length ≤ 8) ∧ ∀ i, i < l.length → 0 ≤ l.getD i 0 ∧ l.getD i 0 ≤ 100000 := by
    intro l; rw [Bool.and_eq_true, decide_eq_true_iff, decide_eq_true_iff, all_get]; unfold ln
    exact ⟨fun ⟨a, b⟩ => ⟨by omega, fun i hi => inb_iff'.1 (b i hi)⟩, fun ⟨a, b⟩ => ⟨by omega, fun i hi => inb_iff'.2 (b i hi)⟩⟩
  have key : ∀ b : Bool, (b = true ↔ (((decide ((1 : Int) ≤ ln t.Rows) && decide (ln t.Rows ≤ 8)) = true ∧ (decide ((1 : Int) ≤ ln t.Cols) && decide (ln t.Cols ≤ 8)) = true ∧ t.Rows.all (inb 0 100000) = true ∧ t.Cols.all (inb 0 100000) = true ∧ Sh t.Rows.length t.Cols.length t.Lo ∧ Sh t.Rows.length t.Cols.length t.Hi) ∧ bds t t.Rows.length t.Cols.length)) → Q b := fun b hb => by
    refine h b (hb.trans ⟨fun ⟨⟨a1, b1, a2, b2, c, d⟩, e⟩ => ?_, fun g => ?_⟩)
    · have a' := sums.1 ⟨a1, a2⟩; have b' := sums.1 ⟨b1, b2⟩
      exact ⟨rfl, rfl, a'.1.1, a'.1.2, b'.1.1, b'.1.2, a'.2, b'.2, c, d, e⟩
    · have a' := sums.2 ⟨⟨g.n1, g.n8⟩, g.rw⟩; have b' := sums.2 ⟨⟨g.m1, g.m8⟩, g.cw⟩
      exact ⟨⟨a'.1, b'.1, a'.2, b'.2, g.lo, g.hi⟩, g.bd⟩
  by_cases hall : (decide ((1 : Int) ≤ ln t.Rows) && decide (ln t.Rows ≤ 8)) = true ∧ (decide ((1 : Int) ≤ ln t.Cols) && decide (ln t.Cols ≤ 8)) = true ∧ t.Rows.all (inb 0 100000) = true ∧ t.Cols.all (inb 0 100000) = true ∧ Sh t.Rows.length t.Cols.length t.Lo ∧ Sh t.Rows.length t.Cols.length t.Hi
  case neg =>
    refine jn_bool true (br_true rfl (key _ ⟨(fun c => by cases c), fun c => (hall c.1).elim⟩)) fun k hk => ?_
    refine l1In_ok (br_nb (fun _ => hk) fun g1 => l1In_ok (br_nb (fun _ => hk) fun g2 => l1All_ok s1 (br_nb (fun _ => hk) fun g3 => l1All_ok s2 (br_nb (fun _ => hk) fun g4 => tSize_ok s3.1 fun b hb => br_nb (fun _ => hk) fun g5 => tSize_ok s4.1 fun b' hb' => ?_))))
    have : b' = false := by rw [Bool.eq_false_iff]; exact fun g6 => hall ⟨g1, g2, g3, g4, hb.1 g5, hb'.1 g6⟩
    rw [this]; exact hk
  obtain ⟨g1, g2, g5, g6, g3, g4⟩ := hall
  have hn := (sums.1 ⟨g1, g5⟩).1; have hm := (sums.1 ⟨g2, g6⟩).1
  refine jn_bool false ?_ fun k hk => ?_
  · refine br_false rfl ?_
    have fin : ∀ b : Bool, (b = true ↔ bds t t.Rows.length t.Cols.length) → Q b := fun b hb => key b (hb.trans ⟨fun x => ⟨⟨g1, g2, g5, g6, g3, g4⟩, x⟩, fun x => x.2⟩)
    have gl := g3.1
    refine loop1_list (by omega) (fun i => ∀ a j, a < i → j < t.Cols.length → 0 ≤ mt t.Lo a j ∧ mt t.Lo a j ≤ mt t.Hi a j ∧ mt t.Hi a j ≤ 100000) (fun a j ha => by omega) (fun i nx hi hj hx => idx_gd (d := []) rfl hi ?_) (fun hj => fin _ ⟨fun _ i j hi hj' => hj i j (by omega) hj', fun _ => rfl⟩)
    have hrow : (t.Lo.getD i []).length = t.Cols.length := g3.2 i (by omega)
    refine loop1_list (by omega) (fun j => ∀ b, b < j → 0 ≤ mt t.Lo i b ∧ mt t.Lo i b ≤ mt t.Hi i b ∧ mt t.Hi i b ≤ 100000) (fun b hb => by omega) (fun j nx2 hj2 hj3 hx2 => ?_) (fun hj3 => hx fun a j ha hjj => ?_)
    · by_cases c : 0 ≤ mt t.Lo i j ∧ mt t.Lo i j ≤ mt t.Hi i j ∧ mt t.Hi i j ≤ 100000
      · refine jn_bool false (br_false rfl (hx2 fun b hb => ?_)) fun k hk => idx_mt g4 rfl rfl (by omega) (by omega) (det1_of true (l1In_ok (by simp; omega)) (br_false rfl (idx_mt g3 rfl rfl (by omega) (by omega) (idx_mt g4 rfl rfl (by omega) (by omega) (det1_of true (l1In_ok (by simp; omega)) hk)))))
        by_cases e : b = j
        · subst e; exact c
        · exact hj3 b (by omega)
      · refine jn_bool true (br_true rfl (fin _ ⟨(fun c => by cases c), fun x => (c (x i j (by omega) (by omega))).elim⟩)) fun k hk => idx_mt g4 rfl rfl (by omega) (by omega) ?_
        by_cases c2 : 0 ≤ mt t.Hi i j ∧ mt t.Hi i j ≤ 100000
        · refine det1_of true (l1In_ok (by simp; omega)) (br_false rfl (idx_mt g3 rfl rfl (by omega) (by omega) (idx_mt g4 rfl rfl (by omega) (by omega) (det1_of false (l1In_ok ?_) hk))))
          simp; omega
        · refine det1_of false (l1In_ok ?_) (br_true rfl hk)
          simp; omega
    · by_cases e : a = i
      · subst e; exact hj3 j (by omega)
      · exact hj a j (by omega) hjj
  · refine l1In_ok (br_false (by rw [g1]; rfl) (l1In_ok (br_false (by rw [g2]; rfl) (l1All_ok s1 (br_false (by rw [g5]; rfl) (l1All_ok s2 (br_false (by rw [g6]; rfl) (tSize_ok s3.1 fun b hb => br_false (by rw [hb.2 g3]; rfl) (tSize_ok s4.1 fun b' hb' => ?_)))))))))
    rw [hb'.2 g4]; exact hk
end Go.Proofs.Ytommbnkecafodaa
