/- Ranges of elements, the greatest filling, and going from each flow to the next. -/
import Derived.Test.YtommbnkecafodaaFX
set_option linter.unusedVariables false
set_option autoImplicit false
namespace Go.Proofs.Ytommbnkecafodaa
open Go Go.RowKit Go.Gv

/-- The least and the greatest value of an element in all flows. -/
structure Rg (t : Transport) (n m i j : Nat) (lo hi : Int) : Prop where
  a : ∃ y, Fl t n m y ∧ y i j = lo
  b : ∀ y, Fl t n m y → lo ≤ y i j
  c : ∃ y, Fl t n m y ∧ y i j = hi
  d : ∀ y, Fl t n m y → y i j ≤ hi
theorem Rg.uniq {t : Transport} {n m i j : Nat} {lo hi lo' hi' : Int} (p : Rg t n m i j lo hi) (q : Rg t n m i j lo' hi') : lo = lo' ∧ hi = hi' := by
  obtain ⟨y1, f1, e1⟩ := p.a; obtain ⟨y2, f2, e2⟩ := q.a; obtain ⟨y3, f3, e3⟩ := p.c; obtain ⟨y4, f4, e4⟩ := q.c
  have := p.b y2 f2; have := q.b y1 f1; have := p.d y4 f4; have := q.d y3 f3
  omega
def but (i j : Nat) (a b : Nat) : Bool := !(Nat.beq a i && Nat.beq b j)
theorem but_no {i j : Nat} : but i j i j = false := by simp [but]
theorem but_eq {i j a b : Nat} (h : but i j a b = false) : a = i ∧ b = j := by simpa [but] using h
theorem but_ne {i j a b : Nat} (h : ¬ (a = i ∧ b = j)) : but i j a b = true := by
  cases hb : but i j a b
  · exact (h (but_eq hb)).elim
  · rfl
theorem row_mst {y : List (List Int)} {i j : Nat} {v : Int} : y.set i ((y.getD i []).set j v) = mst y i j v := rfl
theorem rangeOf1_ok {t : Transport} {n m i j : Nat} {x : List (List Int)} {Q : List (List Int) → Prop} (g : Gd t n m) (hx : Sh n m x) (f : Fl t n m (mt x)) (hi' : i < n) (hj : j < m)
    (h : ∀ r, Sh (n + m) (n + m) r → (∀ u v, u < n + m → v < n + m → mt r u v = rs n m (mt t.Lo) (mt t.Hi) (mt x) (but i j) u v) → Q r) : impl_rangeOf_1 t x i (ln t.Rows) j Q := by
  unfold impl_rangeOf_1
  have hn8 := g.n8; have hm8 := g.m8
  rw [col_eq g hj]
  refine residual_ok g hx f.bd fun r hr er => ?_
  refine idx_gd (i := i) (d := []) rfl (by rw [hr.1]; omega) (idx_gd (i := n + j) (d := []) rfl (by rw [hr.1]; omega) ⟨by omega, by rw [Int.toNat_natCast, hr.2 i (by omega)]; omega, ?_⟩)
  rw [Int.toNat_natCast, Int.toNat_natCast, row_mst]
  have s1 := mst_sh (v := 0) (j := n + j) hr (show i < n + m by omega)
  refine idx_gd (i := n + j) (d := []) rfl (by rw [s1.1]; omega) ⟨by omega, by rw [s1.2 (n + j) (by omega)]; omega, ?_⟩
  rw [row_mst]
  refine h _ (mst_sh s1 (by omega)) fun u v hu hv => ?_
  rw [mst_mt s1 (by omega) (by omega), mst_mt hr (by omega) (by omega), er u v hu hv]
  have free : ∀ a b, decide ((-1 : Int) < ((a * m + b : Nat) : Int)) = true := fun a b => decide_eq_true (by omega)
  rcases node hu with q | ⟨b, hb, rfl⟩ <;> rcases node hv with q2 | ⟨c, hc, rfl⟩
  · rw [if_neg (by omega), if_neg (by omega), rs_rr q q2, rs_rr q q2]
  · rw [rs_rc q hc, rs_rc q hc, if_pos (free _ _)]
    by_cases e : u = i ∧ c = j
    · obtain ⟨rfl, rfl⟩ := e; rw [if_neg (by omega), if_pos (by omega), but_no]; rfl
    · rw [if_neg (by omega), if_neg (by omega), but_ne e]; rfl
  · rw [rs_cr q2 hb, rs_cr q2 hb, if_pos (free _ _)]
    by_cases e : v = i ∧ b = j
    · obtain ⟨rfl, rfl⟩ := e; rw [if_pos (by omega), but_no]; rfl
    · rw [if_neg (by omega), if_neg (by omega), but_ne e]; rfl
  · rw [if_neg (by omega), if_neg (by omega), rs_cc, rs_cc]
theorem rangeOf_ok {t : Transport} {n m i j : Nat} {x : List (List Int)} {Q : Int → Int → Prop} (g : Gd t n m) (hx : Sh n m x) (f : Fl t n m (mt x)) (hi' : i < n) (hj : j < m)
    (h : ∀ lo hi, Rg t n m i j lo hi → Q lo hi) : impl_rangeOf t x i j Q := by
  unfold impl_rangeOf
  have hn8 := g.n8; have hm8 := g.m8
  have hb := f.bd i j hi' hj; have hb0 := g.b0 i j hi' hj
  refine idx_mt hx rfl rfl hi' hj (idx_mt g.lo rfl rfl hi' hj (idx_mt g.hi rfl rfl hi' hj ?_))
  rw [col_eq g hj]
  refine rangeOf1_ok g hx f hi' hj fun r hr er => ?_
  rw [wr_in (x := mt x i j - mt t.Lo i j) (by omega) (by omega)]
  have rb : ∀ r : List (List Int), (∀ u v, u < n + m → v < n + m → mt r u v = rs n m (mt t.Lo) (mt t.Hi) (mt x) (but i j) u v) → ∀ u v, u < n + m → v < n + m → 0 ≤ mt r u v ∧ mt r u v ≤ 1000000000 := fun r er u v hu hv => by
    rw [er u v hu hv]; have := rs_bnd (fr := but i j) g.b0 f.bd hu hv; omega
  refine push_ok hr (by omega) (by omega) (by omega) (by omega) (rb r er) (by omega) fun s1 r1 hr1 P1 => ?_
  refine rangeOf1_ok g hx f hi' hj fun q hq eq => ?_
  rw [wr_in (x := mt t.Hi i j - mt x i j) (by omega) (by omega)]
  refine push_ok hq (by omega) (by omega) (by omega) (by omega) (rb q eq) (by omega) fun s2 r2 hr2 P2 => ?_
  have a1 := P1.s0; have a2 := P1.s1; have b1 := P2.s0; have b2 := P2.s1
  rw [wr_in (x := mt x i j - s1) (by omega) (by omega), wr_in (x := mt x i j + s2) (by omega) (by omega)]
  have C1 := P1.cg er
  have C2 := P2.cg eq
  refine h _ _ ⟨⟨_, shift_down C1 f hi' hj but_no a2, if_pos ⟨rfl, rfl⟩⟩, fun y fy => ?_, ⟨_, shift_up C2 f hi' hj but_no b2, if_pos ⟨rfl, rfl⟩⟩, fun y fy => ?_⟩
  · by_cases c : s1 < mt x i j - mt t.Lo i j
    · exact C1.down hi' hj but_no c (fun a b ha hb _ => fy.bd a b ha hb) (fun a b ha hb hf hne => (hne (but_eq hf)).elim) (fun a ha => by rw [fy.row a ha, f.row a ha]) (fun b hb => by rw [fy.col b hb, f.col b hb])
    · have := fy.bd i j hi' hj; omega
  · by_cases c : s2 < mt t.Hi i j - mt x i j
    · exact C2.up hi' hj but_no c (fun a b ha hb _ => fy.bd a b ha hb) (fun a b ha hb hf hne => (hne (but_eq hf)).elim) (fun a ha => by rw [fy.row a ha, f.row a ha]) (fun b hb => by rw [fy.col b hb, f.col b hb])
    · have := fy.bd i j hi' hj; omega
theorem tHigh_ok {t : Transport} {n m i j : Nat} {Q : Int → Prop} (g : Gd t n m) (hi' : i < n) (hj : j < m) (hex : ∃ y, Fl t n m y) (h : ∀ v, (∃ y, Fl t n m y ∧ y i j = v) → (∀ y, Fl t n m y → y i j ≤ v) → Q v) : spec_tHigh t i j Q := by
  unfold spec_tHigh
  have hb := g.bd i j hi' hj
  refine idx_mt g.lo rfl rfl hi' hj (idx_mt g.hi rfl rfl hi' hj ?_)
  obtain ⟨y0, f0⟩ := hex
  refine ⟨fun lo hi => mt t.Lo i j ≤ lo ∧ lo ≤ hi ∧ hi ≤ mt t.Hi i j ∧ (∀ y, Fl t n m y → y i j ≤ hi) ∧ ∃ y, Fl t n m y ∧ lo ≤ y i j, fun lo hi => (hi - lo).toNat, ⟨Int.le_refl _, hb.2.1, Int.le_refl _, fun y f => (f.bd i j hi' hj).2, y0, f0, (f0.bd i j hi' hj).1⟩, ?_⟩
  rintro lo hi ⟨h1, h2, h3, h4, y1, f1, hy1⟩
  refine br_dec (fun c => ?_) (fun c => ?_)
  · have em : wr (Int.tdiv (wr (wr (lo + hi) + 1)) 2) = (lo + hi + 1) / 2 := by
      rw [wr_in (x := lo + hi) (by omega) (by omega), wr_in (x := lo + hi + 1) (by omega) (by omega), Int.tdiv_eq_ediv_of_nonneg (by omega)]
      exact wr_in (by omega) (by omega)
    refine idx_mt g.hi rfl rfl hi' hj ?_
    rw [em]
    have hm : lo < (lo + hi + 1) / 2 ∧ (lo + hi + 1) / 2 ≤ hi := by omega
    refine tWith_ok g hi' hj (feasible_ok (wt_gd g hi' hj (by omega)) (fun hno => br_false rfl ?_) fun x hx fx => br_true rfl ⟨⟨by omega, by omega, h3, h4, ?_⟩, by show (hi - (lo + hi + 1) / 2).toNat < (hi - lo).toNat; omega⟩)
    · rw [wr_in (by omega) (by omega)]
      have ge : ∀ y, Fl t n m y → y i j ≤ (lo + hi + 1) / 2 - 1 := fun y f => by
        refine Classical.byContradiction fun hlt => hno y ((wt_fl g hi' hj (by omega) (Int.le_refl _)).2 ⟨f, by omega, (f.bd i j hi' hj).2⟩)
      exact ⟨⟨h1, by omega, by omega, ge, y1, f1, hy1⟩, by show ((lo + hi + 1) / 2 - 1 - lo).toNat < (hi - lo).toNat; omega⟩
    · obtain ⟨f, b, _⟩ := (wt_fl g hi' hj (by omega) (Int.le_refl _)).1 fx
      exact ⟨_, f, b⟩
  · have e : lo = hi := by omega
    subst e
    exact h lo ⟨y1, f1, by have := h4 y1 f1; omega⟩ h4
theorem low_high {t : Transport} {n m i j : Nat} {Q : Int → Int → Prop} (g : Gd t n m) (hi' : i < n) (hj : j < m) (hex : ∃ y, Fl t n m y) (h : ∀ lo hi, Rg t n m i j lo hi → Q lo hi) :
    ∃ lo hi, Rg t n m i j lo hi ∧ spec_tLow t i j (fun x => x = lo) ∧ spec_tHigh t i j (fun x => x = hi) ∧ Q lo hi := by
  have q1 : ∃ lo, (∃ y, Fl t n m y ∧ y i j = lo) ∧ (∀ y, Fl t n m y → lo ≤ y i j) := by
    obtain ⟨y, f⟩ := hex
    have key : ∀ (k : Nat) (y : Nat → Nat → Int), Fl t n m y → y i j - mt t.Lo i j ≤ k → ∃ lo, (∃ y, Fl t n m y ∧ y i j = lo) ∧ (∀ y, Fl t n m y → lo ≤ y i j) := by
      intro k
      induction k with
      | zero => intro y f h0; exact ⟨y i j, ⟨y, f, rfl⟩, fun z fz => by have := (fz.bd i j hi' hj).1; omega⟩
      | succ k ih =>
        intro y f h0
        by_cases c : ∃ z, Fl t n m z ∧ z i j < y i j
        · obtain ⟨z, fz, hz⟩ := c; exact ih z fz (by omega)
        · exact ⟨y i j, ⟨y, f, rfl⟩, fun z fz => Int.not_lt.1 fun hh => c ⟨z, fz, hh⟩⟩
    exact key (y i j - mt t.Lo i j).toNat y f (by omega)
  have q2 : ∃ hi, (∃ y, Fl t n m y ∧ y i j = hi) ∧ (∀ y, Fl t n m y → y i j ≤ hi) := by
    obtain ⟨y, f⟩ := hex
    have key : ∀ (k : Nat) (y : Nat → Nat → Int), Fl t n m y → mt t.Hi i j - y i j ≤ k → ∃ hi, (∃ y, Fl t n m y ∧ y i j = hi) ∧ (∀ y, Fl t n m y → y i j ≤ hi) := by
      intro k
      induction k with
      | zero => intro y f h0; exact ⟨y i j, ⟨y, f, rfl⟩, fun z fz => by have := (fz.bd i j hi' hj).2; omega⟩
      | succ k ih =>
        intro y f h0
        by_cases c : ∃ z, Fl t n m z ∧ y i j < z i j
        · obtain ⟨z, fz, hz⟩ := c; exact ih z fz (by omega)
        · exact ⟨y i j, ⟨y, f, rfl⟩, fun z fz => Int.not_lt.1 fun hh => c ⟨z, fz, hh⟩⟩
    exact key (mt t.Hi i j - y i j).toNat y f (by omega)
  obtain ⟨lo, a1, b1⟩ := q1
  obtain ⟨hi, a2, b2⟩ := q2
  refine ⟨lo, hi, ⟨a1, b1, a2, b2⟩, tLow_ok g hi' hj hex fun v av bv => ?_, tHigh_ok g hi' hj hex fun v av bv => ?_, h lo hi ⟨a1, b1, a2, b2⟩⟩
  · obtain ⟨y, f, e⟩ := av; obtain ⟨z, fz, ez⟩ := a1; have := b1 y f; have := bv z fz; omega
  · obtain ⟨y, f, e⟩ := av; obtain ⟨z, fz, ez⟩ := a2; have := b2 y f; have := bv z fz; omega
theorem ln_ne {n m : Nat} {t : Transport} {x : List (List Int)} (g : Gd t n m) (hx : Sh n m x) : (ln x == 0) = false := by
  have : ln x = (n : Int) := by unfold ln; rw [hx.1]
  rw [this]; have := g.n1; simp; omega
/-! ### one element -/
structure Ce (t : Transport) (i j : Int) (n m a b : Nat) : Prop where
  g : Gd t n m
  i : i = (a : Int)
  j : j = (b : Int)
  a : a < n
  b : b < m
theorem cellRange_ok {t : Transport} {i j : Int} {Q : Int → Int → Bool → Prop} (hs : smallT t) (h0 : (¬ ∃ n m a b, Ce t i j n m a b ∧ ∃ y, Fl t n m y) → Q 0 0 false)
    (h1 : ∀ n m a b lo hi, Ce t i j n m a b → Rg t n m a b lo hi → Q lo hi true) : impl_CellRange t i j Q := by
  unfold impl_CellRange
  by_cases c : Gd t t.Rows.length t.Cols.length ∧ 0 ≤ i ∧ i < ln t.Rows ∧ 0 ≤ j ∧ j < ln t.Cols
  · obtain ⟨g, c1, c2, c3, c4⟩ := c
    have ce : Ce t i j t.Rows.length t.Cols.length i.toNat j.toNat := ⟨g, by omega, by omega, by unfold ln at c2; omega, by unfold ln at c4; omega⟩
    refine jn_bool false (br_false rfl ?_) fun k hk => IsTransport_ok (t := t) hs fun b hb => br_false (by rw [hb.2 g]; rfl) (br_no (by omega) (br_no (by omega) (br_no (by omega) (by rw [decide_eq_false (by omega)]; exact hk))))
    refine anyFlow_ok (t := t) g (fun hno => br_true rfl (h0 fun ⟨n, m, a, b, e, y, f⟩ => hno y ?_)) fun x hx f => br_false (ln_ne g hx) ?_
    · have e1 := e.g.rl; have e2 := e.g.cl; rw [e1, e2]; exact f
    · have e1 := ce.i; have e2 := ce.j
      rw [e1, e2]
      exact rangeOf_ok (t := t) g hx f ce.a ce.b fun lo hi r => h1 _ _ _ _ lo hi ce r
  · have no : Q 0 0 false := h0 fun ⟨n, m, a, b, e, _⟩ => c (by
      have e1 := e.g.rl; have e2 := e.g.cl; have := e.i; have := e.j; have := e.a; have := e.b
      exact ⟨by rw [e1, e2]; exact e.g, by omega, by unfold ln; omega, by omega, by unfold ln; omega⟩)
    refine jn_bool true (br_true rfl no) fun k hk => IsTransport_ok (t := t) hs fun b hb => br_nb (fun _ => hk) fun e => br_dec (fun _ => hk) fun d1 => br_dec (fun _ => hk) fun d2 => br_dec (fun _ => hk) fun d3 => ?_
    rw [decide_eq_true (Classical.byContradiction fun d4 => c ⟨hb.1 e, by omega, by omega, by omega, by omega⟩)]; exact hk
theorem specCell_ok {t : Transport} {i j : Int} {Q : Int → Int → Bool → Prop} (hs : smallT t) (h0 : (¬ ∃ n m a b, Ce t i j n m a b ∧ ∃ y, Fl t n m y) → Q 0 0 false)
    (h1 : ∀ n m a b lo hi, Ce t i j n m a b → Rg t n m a b lo hi → Q lo hi true) : spec_CellRange t i j Q := by
  unfold spec_CellRange
  have hr := hs.r; have hc := hs.c
  have w1 : wr (ln t.Rows - 1) = ln t.Rows - 1 := wr_in (by unfold ln; omega) (by unfold ln; omega)
  have w2 : wr (ln t.Cols - 1) = ln t.Cols - 1 := wr_in (by unfold ln; omega) (by unfold ln; omega)
  rw [w1, w2]
  by_cases c : Gd t t.Rows.length t.Cols.length ∧ 0 ≤ i ∧ i < ln t.Rows ∧ 0 ≤ j ∧ j < ln t.Cols
  · obtain ⟨g, c1, c2, c3, c4⟩ := c
    have ce : Ce t i j t.Rows.length t.Cols.length i.toNat j.toNat := ⟨g, by omega, by omega, by unfold ln at c2; omega, by unfold ln at c4; omega⟩
    refine jn_bool false (br_false rfl ?_) fun k hk => tGood_ok (t := t) hs fun b hb => br_false (by rw [hb.2 g]; rfl) (l1In_ok (br_false (by rw [decide_eq_true (by omega), decide_eq_true (by omega)]; rfl) (l1In_ok (by rw [decide_eq_true (by omega), decide_eq_true (by omega)]; exact hk))))
    unfold spec_tRange
    refine feasible_ok (t := t) g (fun hno => br_true rfl (h0 fun ⟨n, m, a, b, e, y, f⟩ => hno y ?_)) fun x hx f => br_false rfl ?_
    · have e1 := e.g.rl; have e2 := e.g.cl; rw [e1, e2]; exact f
    · have e1 := ce.i; have e2 := ce.j
      rw [e1, e2]
      obtain ⟨lo, hi, r, p1, p2, _⟩ := low_high (Q := fun _ _ => True) g ce.a ce.b ⟨_, f⟩ fun _ _ _ => trivial
      exact det1_of lo p1 (det1_of hi p2 (h1 _ _ _ _ lo hi ce r))
  · have no : Q 0 0 false := h0 fun ⟨n, m, a, b, e, _⟩ => c (by
      have e1 := e.g.rl; have e2 := e.g.cl; have := e.i; have := e.j; have := e.a; have := e.b
      exact ⟨by rw [e1, e2]; exact e.g, by omega, by unfold ln; omega, by omega, by unfold ln; omega⟩)
    refine jn_bool true (br_true rfl no) fun k hk => tGood_ok (t := t) hs fun b hb => br_nb (fun _ => hk) fun e => l1In_ok (br_nb (fun _ => hk) fun d1 => l1In_ok ?_)
    rw [Bool.and_eq_true, decide_eq_true_iff, decide_eq_true_iff] at d1
    have : (decide ((0 : Int) ≤ j) && decide (j ≤ ln t.Cols - 1)) = false := by
      rw [Bool.eq_false_iff, ne_eq, Bool.and_eq_true, decide_eq_true_iff, decide_eq_true_iff]
      exact fun d2 => c ⟨hb.1 e, by omega, by omega, by omega, by omega⟩
    rw [this]; exact hk
theorem Ce.uniq {t : Transport} {i j : Int} {n m a b n' m' a' b' : Nat} (p : Ce t i j n m a b) (q : Ce t i j n' m' a' b') : n = n' ∧ m = m' ∧ a = a' ∧ b = b' := by
  have := p.g.rl; have := q.g.rl; have := p.g.cl; have := q.g.cl; have := p.i; have := q.i; have := p.j; have := q.j
  omega
/-! ### all elements -/
structure Al (t : Transport) (n m : Nat) (L H : List (List Int)) : Prop where
  l : Sh n m L
  h : Sh n m H
  r : ∀ i j, i < n → j < m → Rg t n m i j (mt L i j) (mt H i j)
theorem Al.uniq {t : Transport} {n m : Nat} {L H L' H' : List (List Int)} (p : Al t n m L H) (q : Al t n m L' H') : L = L' ∧ H = H' :=
  ⟨mt_ext p.l q.l fun i j hi hj => ((p.r i j hi hj).uniq (q.r i j hi hj)).1, mt_ext p.h q.h fun i j hi hj => ((p.r i j hi hj).uniq (q.r i j hi hj)).2⟩
theorem set_range {t : Transport} {n m i j : Nat} {L H : List (List Int)} {lo hi : Int} (h1 : Sh n m L) (h2 : Sh n m H) (hi' : i < n) (hj : j < m) (h3 : ∀ a b, a < n → b < m → a < i ∨ (a = i ∧ b < j) → Rg t n m a b (mt L a b) (mt H a b)) (r : Rg t n m i j lo hi) :
    Sh n m (mst L i j lo) ∧ Sh n m (mst H i j hi) ∧ ∀ a b, a < n → b < m → a < i ∨ (a = i ∧ b < j + 1) → Rg t n m a b (mt (mst L i j lo) a b) (mt (mst H i j hi) a b) := by
  refine ⟨mst_sh h1 hi', mst_sh h2 hi', fun a b ha hb hab => ?_⟩
  rw [mst_mt h1 hi' hj, mst_mt h2 hi' hj]
  by_cases e : a = i ∧ b = j
  · obtain ⟨rfl, rfl⟩ := e; rw [if_pos ⟨rfl, rfl⟩, if_pos ⟨rfl, rfl⟩]; exact r
  · rw [if_neg e, if_neg e]; exact h3 a b ha hb (by omega)
theorem allRanges_ok {t : Transport} {n m : Nat} {x : List (List Int)} {Q : List (List Int) → List (List Int) → Prop} (g : Gd t n m) (hx : Sh n m x) (f : Fl t n m (mt x)) (h : ∀ L H, Al t n m L H → Q L H) : impl_allRanges t x Q := by
  unfold impl_allRanges
  have hn8 := g.n8; have hm8 := g.m8; have hn1 := g.n1; have hxl := hx.1
  have sx := hx.small (show n ≤ 1048576 by omega) (show m ≤ 1048576 by omega)
  refine copyMatrix_ok sx (by omega) (copyMatrix_ok sx (by omega) ?_)
  refine loop3_list (xs := x) (by omega) (fun L H i => Sh n m L ∧ Sh n m H ∧ ∀ a b, a < n → b < m → a < i → Rg t n m a b (mt L a b) (mt H a b)) ⟨hx, hx, fun a b _ _ _ => by omega⟩ (fun L H i nx hix ⟨h1, h2, h3⟩ hn => ?_) (fun L H ⟨h1, h2, h3⟩ => h L H ⟨h1, h2, fun i j hi hj => h3 i j hi hj (by omega)⟩)
  have hi' : i < n := by omega
  have hrow := hx.2 i hi'
  refine idx_gd (d := []) rfl hix ?_
  refine loop3_list (by omega) (fun L H j => Sh n m L ∧ Sh n m H ∧ ∀ a b, a < n → b < m → a < i ∨ (a = i ∧ b < j) → Rg t n m a b (mt L a b) (mt H a b)) ⟨h1, h2, fun a b ha hb c => h3 a b ha hb (by omega)⟩ (fun L H j nx2 hj ⟨k1, k2, k3⟩ hn2 => ?_) (fun L H ⟨k1, k2, k3⟩ => hn _ _ ⟨k1, k2, fun a b ha hb c => k3 a b ha hb (by omega)⟩)
  have hj' : j < m := by omega
  obtain ⟨lo, hi, r, _⟩ := low_high (Q := fun _ _ => True) g hi' hj' ⟨_, f⟩ fun _ _ _ => trivial
  refine idx_gd (i := i) (d := []) rfl (by rw [k1.1]; exact hi') (idx_gd (i := i) (d := []) rfl (by rw [k2.1]; exact hi') ⟨lo, hi, rangeOf_ok g hx f hi' hj' fun lo' hi2 r' => (r'.uniq r), by omega, by rw [Int.toNat_natCast, k1.2 i hi']; exact hj', by omega, by rw [Int.toNat_natCast, k2.2 i hi']; exact hj', ?_⟩)
  rw [Int.toNat_natCast, Int.toNat_natCast, row_mst, row_mst]
  exact hn2 _ _ (set_range k1 k2 hi' hj' k3 r)
theorem AllRanges_ok {t : Transport} {Q : List (List Int) → List (List Int) → Bool → Prop} (hs : smallT t) (h0 : (¬ ∃ n m, Gd t n m ∧ ∃ y, Fl t n m y) → Q [] [] false) (h1 : ∀ n m L H, Gd t n m → Al t n m L H → Q L H true) : impl_AllRanges t Q := by
  unfold impl_AllRanges
  refine IsTransport_ok (t := t) hs fun b hb => br_nb (fun e => h0 fun ⟨n, m, g, _⟩ => ?_) fun e => ?_
  · have e1 := g.rl; have e2 := g.cl
    rw [hb.2 (by rw [e1, e2]; exact g)] at e; cases e
  · have g := hb.1 e
    refine anyFlow_ok (t := t) g (fun hno => br_true rfl (h0 fun ⟨n, m, g', y, f⟩ => hno y ?_)) fun x hx f => br_false (ln_ne g hx) (allRanges_ok (t := t) g hx f fun L H a => h1 _ _ L H g a)
    have e1 := g'.rl; have e2 := g'.cl; rw [e1, e2]; exact f
theorem specAll_ok {t : Transport} {Q : List (List Int) → List (List Int) → Bool → Prop} (hs : smallT t) (h0 : (¬ ∃ n m, Gd t n m ∧ ∃ y, Fl t n m y) → Q [] [] false) (h1 : ∀ n m L H, Gd t n m → Al t n m L H → Q L H true) : spec_AllRanges t Q := by
  unfold spec_AllRanges
  refine tGood_ok (t := t) hs fun b hb => br_nb (fun e => h0 fun ⟨n, m, g, _⟩ => ?_) fun e => ?_
  · have e1 := g.rl; have e2 := g.cl
    rw [hb.2 (by rw [e1, e2]; exact g)] at e; cases e
  have g := hb.1 e
  generalize hn' : t.Rows.length = n at g
  generalize hm' : t.Cols.length = m at g
  have hn8 := g.n8; have hm8 := g.m8; have hn1 := g.n1
  refine feasible_ok (t := t) g (fun hno => br_true rfl (h0 fun ⟨n', m', g', y, f⟩ => hno y ?_)) fun x hx f => br_false rfl ?_
  · have e1 := g'.rl; have e2 := g'.cl; have e3 := g.rl; have e4 := g.cl
    have q1 : n = n' := by omega
    have q2 : m = m' := by omega
    subst q1; subst q2; exact f
  have hl := g.lo.1
  refine tOwn_ok (g.lo.small (by omega) (by omega)) (tOwn_ok (g.hi.small (by omega) (by omega)) ?_)
  refine loop3_list (xs := t.Lo) (by omega) (fun L H i => Sh n m L ∧ Sh n m H ∧ ∀ a b, a < n → b < m → a < i → Rg t n m a b (mt L a b) (mt H a b)) ⟨g.lo, g.hi, fun a b _ _ _ => by omega⟩ (fun L H i nx hix ⟨h1', h2, h3⟩ hn => ?_) (fun L H ⟨k1, k2, h3⟩ => h1 n m L H g ⟨k1, k2, fun i j hi hj => h3 i j hi hj (by omega)⟩)
  have hi' : i < n := by omega
  refine idx_gd (i := i) (d := []) rfl (by rw [h1'.1]; exact hi') ?_
  have hrow := h1'.2 i hi'
  refine loop3_list (by omega) (fun L H j => Sh n m L ∧ Sh n m H ∧ ∀ a b, a < n → b < m → a < i ∨ (a = i ∧ b < j) → Rg t n m a b (mt L a b) (mt H a b)) ⟨h1', h2, fun a b ha hb c => h3 a b ha hb (by omega)⟩ (fun L H j nx2 hj ⟨k1, k2, k3⟩ hn2 => ?_) (fun L H ⟨k1, k2, k3⟩ => hn _ _ ⟨k1, k2, fun a b ha hb c => k3 a b ha hb (by omega)⟩)
  have hj' : j < m := by omega
  obtain ⟨lo, hi, r, p1, p2, _⟩ := low_high (Q := fun _ _ => True) g hi' hj' ⟨_, f⟩ fun _ _ _ => trivial
  refine idx_gd (i := i) (d := []) rfl (by rw [k1.1]; exact hi') (det1_of lo p1 ⟨by omega, by rw [Int.toNat_natCast, k1.2 i hi']; exact hj', idx_gd (i := i) (d := []) rfl (by rw [k2.1]; exact hi') (det1_of hi p2 ⟨by omega, by rw [Int.toNat_natCast, k2.2 i hi']; exact hj', ?_⟩)⟩)
  rw [Int.toNat_natCast, Int.toNat_natCast, row_mst, row_mst]
  exact hn2 _ _ (set_range k1 k2 hi' hj' k3 r)
/-! ### the greatest filling -/
structure Bs (t : Transport) (n m : Nat) (v : Int) : Prop where
  a : ∃ y, FI t n m y ∧ sm n (fun i => sm m (y i)) = v
  b : ∀ y, FI t n m y → sm n (fun i => sm m (y i)) ≤ v
theorem Bs.uniq {t : Transport} {n m : Nat} {v v' : Int} (p : Bs t n m v) (q : Bs t n m v') : v = v' := by
  obtain ⟨y, f, e⟩ := p.a; obtain ⟨z, k, e2⟩ := q.a
  have := p.b z k; have := q.b y f; omega
theorem BestFill_ok {t : Transport} {Q : Int → Bool → Prop} (hs : smallT t) (h0 : (¬ ∃ n m, Gd t n m ∧ ∃ y, FI t n m y) → Q 0 false) (h1 : ∀ n m v, Gd t n m → Bs t n m v → Q v true) : impl_BestFill t Q := by
  unfold impl_BestFill
  refine IsTransport_ok (t := t) hs fun b hb => br_nb (fun e => h0 fun ⟨n, m, g, _⟩ => ?_) fun e => ?_
  · have e1 := g.rl; have e2 := g.cl
    rw [hb.2 (by rw [e1, e2]; exact g)] at e; cases e
  have g := hb.1 e
  generalize hn' : t.Rows.length = n at g
  generalize hm' : t.Cols.length = m at g
  have hn8 := g.n8; have hm8 := g.m8; have hn1 := g.n1
  refine fill_ok (t := t) g (fun hno => br_true rfl (h0 fun ⟨n', m', g', y, f⟩ => hno y ?_)) fun out ho f hmax => br_false (ln_ne g ho) ?_
  · have e1 := g'.rl; have e2 := g'.cl; have e3 := g.rl; have e4 := g.cl
    have q1 : n = n' := by omega
    have q2 : m = m' := by omega
    subst q1; subst q2; exact f
  have bo : bnd n m out := fun i j hi hj => by have := f.bd i j hi hj; have := g.bd i j hi hj; omega
  refine rowSums_ok ho (by omega) (by omega) bo fun s sl se => total_ok ⟨by omega, fun i hi => ?_⟩ (h1 n m _ g ⟨⟨_, f, ?_⟩, fun y fy => ?_⟩)
  · rw [se i (by omega)]; have := sm_bnd (n := m) (f := mt out i) (B := 100000) (fun j hj => by have := f.bd i j (by omega) hj; have := g.bd i j (by omega) hj; omega); omega
  · unfold ls; rw [sl]; exact (sm_congr se).symm
  · have := hmax y fy
    have e : ls s = sm n fun i => sm m (mt out i) := by unfold ls; rw [sl]; exact sm_congr se
    rw [e]; exact this
theorem specBest_ok {t : Transport} {Q : Int → Bool → Prop} (hs : smallT t) (h0 : (¬ ∃ n m, Gd t n m ∧ ∃ y, FI t n m y) → Q 0 false) (h1 : ∀ n m v, Gd t n m → Bs t n m v → Q v true) : spec_BestFill t Q := by
  unfold spec_BestFill
  refine tGood_ok (t := t) hs fun b hb => br_nb (fun e => h0 fun ⟨n, m, g, _⟩ => ?_) fun e => ?_
  · have e1 := g.rl; have e2 := g.cl
    rw [hb.2 (by rw [e1, e2]; exact g)] at e; cases e
  have g := hb.1 e
  generalize hn' : t.Rows.length = n at g
  generalize hm' : t.Cols.length = m at g
  have hn8 := g.n8; have hm8 := g.m8; have hn1 := g.n1
  refine tFilled_ok (t := t) g (fun hno f => br_true rfl (h0 fun ⟨n', m', g', y, f⟩ => hno y ?_)) fun X rows cols F hmax => br_false rfl ?_
  · have e1 := g'.rl; have e2 := g'.cl; have e3 := g.rl; have e4 := g.cl
    have q1 : n = n' := by omega
    have q2 : m = m' := by omega
    subst q1; subst q2; exact f
  have F' : Fs t n m X rows cols := F
  have hX := F'.sh
  have fX : FI t n m (mt X) := ⟨F'.bd, fun i hi => by have := F'.row i hi; have := F'.r0 i hi; show _ ≤ t.Rows.getD i 0; omega, fun j hj => by have := F'.col j hj; have := F'.c0 j hj; show _ ≤ t.Cols.getD j 0; omega⟩
  have hXl := hX.1
  have pB : ∀ i, i < n → 0 ≤ sm m (mt X i) ∧ sm m (mt X i) ≤ 800000 := fun i hi => by
    have := sm_bnd (n := m) (f := mt X i) (B := 100000) (fun j hj => by have := F'.bd i j hi hj; have := g.bd i j hi hj; omega); omega
  refine loop2_list (xs := X) (by omega) (fun s i => s = sm i fun a => sm m (mt X a)) rfl (fun s i nx hi e1 hn => ?_) (fun s e1 => h1 n m s g ⟨⟨_, fX, by rw [e1, hXl]⟩, fun y fy => by rw [e1, hXl]; exact hmax y fy⟩)
  have hi' : i < n := by omega
  obtain ⟨l1, l2⟩ := row_lim g hX F'.bd hi'
  refine idx_gd (d := []) rfl hi (tSum_ok l1 ?_)
  have bI := sm_bnd (n := i) (f := fun a => sm m (mt X a)) (B := 800000) (fun a ha => pB a (by omega))
  have := pB i hi'
  rw [l2, e1, wr_in (by omega) (by omega)]
  exact hn _ rfl
/-! ### from each flow to the next -/
theorem isFlow_ok {t : Transport} {n m : Nat} {x : List (List Int)} {Q : Bool → Bool → Prop} (hs : smallT t) (g : Gd t n m) (hx : Sh n m x) (f : Fl t n m (mt x)) (h : Q true true) : impl_IsFlow t x Q := by
  unfold impl_IsFlow
  have e1 := g.rl; have e2 := g.cl
  have hn8 := g.n8; have hm8 := g.m8; have hn1 := g.n1; have hxl := hx.1
  refine IsTransport_ok (t := t) hs fun b hb => br_false (by rw [hb.2 (by rw [e1, e2]; exact g)]; rfl) ?_
  refine hasShape_ok (by omega) fun b hb => br_false (by rw [hb.2 (by rw [e1, e2]; exact hx)]; rfl) ?_
  have bo : bnd n m x := fun i j hi hj => by have := f.bd i j hi hj; have := g.bd i j hi hj; omega
  refine loop1_list (xs := x) (by omega) (fun _ => True) trivial (fun i nx hi _ hn => ?_) (fun _ => ?_)
  · have hi' : i < n := by omega
    have hrow := hx.2 i hi'
    refine idx_gd (d := []) rfl hi (loop1_list (by omega) (fun _ => True) trivial (fun j nx2 hj _ hn2 => ?_) (fun _ => hn trivial))
    have hj' : j < m := by omega
    have hb := f.bd i j hi' hj'
    refine idx_gd (d := 0) rfl hj (jn_bool false (br_false rfl (hn2 trivial)) fun k hk => ?_)
    refine idx_mt g.lo rfl rfl hi' hj' (br_no (by show ¬ mt x i j < _; omega) (idx_mt g.hi rfl rfl hi' hj' ?_))
    rw [decide_eq_false (by show ¬ mt x i j > _; omega)]; exact hk
  · refine jn_bool true h fun k hk => rowSums_ok hx (by omega) (by omega) bo fun s sl se => det1_of true (slicesEqual_ok (by omega) (decide_eq_true ?_)) (br_true rfl (colSums_ok hx hn1 (by omega) (by omega) bo fun s2 sl2 se2 => det1_of true (slicesEqual_ok (by omega) (decide_eq_true ?_)) hk))
    · exact list_eq sl g.rl fun i hi => by rw [se i hi]; exact f.row i hi
    · exact list_eq sl2 g.cl fun i hi => by rw [se2 i hi]; exact f.col i hi
theorem FirstFlow_ok {t : Transport} {n m : Nat} {Q : List (List Int) → Bool → Prop} (hs : smallT t) (g : Gd t n m) (h0 : (∀ y, ¬ Fl t n m y) → Q [] false) (h1 : ∀ x, Sh n m x → Fl t n m (mt x) → tgt (n * m) (FF t n m) 0 (fl m (mt x)) → Q x true) : impl_FirstFlow t Q := by
  unfold impl_FirstFlow
  have e1 := g.rl; have e2 := g.cl
  refine IsTransport_ok (t := t) hs fun b hb => br_false (by rw [hb.2 (by rw [e1, e2]; exact g)]; rfl) (firstFlow_ok (t := t) g (fun hno => h0 hno) fun x hx f ht => ?_)
  rw [ln_ne g hx]; exact h1 x hx f ht
theorem NextFlow_ok {t : Transport} {n m : Nat} {x : List (List Int)} {Q : List (List Int) → Bool → Prop} (hs : smallT t) (g : Gd t n m) (hx : Sh n m x) (f : Fl t n m (mt x)) (h0 : (∀ q, q < n * m → top t n m (mt x) q) → Q [] false)
    (h1 : ∀ z p, p < n * m → Sh n m z → Fl t n m (mt z) → ag p (fl m (mt z)) (fl m (mt x)) → fl m (mt z) p = fl m (mt x) p + 1 → tgt (n * m) (FF t n m) (p + 1) (fl m (mt z)) → (∀ q, p < q → q < n * m → top t n m (mt x) q) → Q z true) : impl_NextFlow t x Q := by
  unfold impl_NextFlow
  refine isFlow_ok (t := t) hs g hx f (jn_bool false (br_false rfl (nextFlow_ok (t := t) g hx f h0 fun z p hp hz fz ha hz1 ht hn => ?_)) fun k hk => br_false rfl hk)
  rw [ln_ne g hz]; exact h1 z p hp hz fz ha hz1 ht hn
end Go.Proofs.Ytommbnkecafodaa
