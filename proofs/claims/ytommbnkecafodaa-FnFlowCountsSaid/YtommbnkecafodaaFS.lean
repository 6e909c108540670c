/- The program's flows: the next smaller element, the first flow from a place on. -/
import Derived.Test.YtommbnkecafodaaFR
set_option linter.unusedVariables false
set_option autoImplicit false
namespace Go.Gv
theorem Pu.cg {N s t : Nat} {r q r' : Nat → Nat → Int} {L sent : Int} (P : Pu N r r' s t L sent) (h : ∀ u v, u < N → v < N → r u v = q u v) : Pu N q r' s t L sent :=
  ⟨P.nn, fun u v hu hv => by rw [P.pr u v hu hv, h u v hu hv, h v u hv hu], fun u hu => by rw [← P.dv u hu]; exact sm_congr fun v hv => by rw [h u v hu hv], P.s0, P.s1, P.ct⟩
theorem rs_bnd {n m : Nat} {lo hi x : Nat → Nat → Int} {fr : Nat → Nat → Bool} (h0 : ∀ i j, i < n → j < m → 0 ≤ lo i j ∧ hi i j ≤ 100000) (h : ∀ i j, i < n → j < m → lo i j ≤ x i j ∧ x i j ≤ hi i j) {u v : Nat} (hu : u < n + m) (hv : v < n + m) :
    0 ≤ rs n m lo hi x fr u v ∧ rs n m lo hi x fr u v ≤ 100000 := by
  rcases node hu with q | ⟨b, hb, rfl⟩ <;> rcases node hv with q2 | ⟨c, hc, rfl⟩
  · rw [rs_rr q q2]; omega
  · rw [rs_rc q hc]; have := h u c q hc; have := h0 u c q hc; split <;> omega
  · rw [rs_cr q2 hb]; have := h v b q2 hb; have := h0 v b q2 hb; split <;> omega
  · rw [rs_cc]; omega
end Go.Gv
namespace Go.Proofs.Ytommbnkecafodaa
open Go Go.RowKit Go.Gv

abbrev Fl (t : Transport) (n m : Nat) (x : Nat → Nat → Int) : Prop := Fg n m (fun i => t.Rows.getD i 0) (fun j => t.Cols.getD j 0) (mt t.Lo) (mt t.Hi) x
theorem Gd.b0 {t : Transport} {n m : Nat} (g : Gd t n m) : ∀ i j, i < n → j < m → 0 ≤ mt t.Lo i j ∧ mt t.Hi i j ≤ 100000 := fun i j hi hj => by have := g.bd i j hi hj; omega
/-- The bounds of what a push leaves. -/
theorem left_bnd {N s t : Nat} {r r' : Nat → Nat → Int} {L sent B : Int} (P : Pu N r r' s t L sent) (h : ∀ u v, u < N → v < N → 0 ≤ r u v ∧ r u v ≤ B) {u v : Nat} (hu : u < N) (hv : v < N) : 0 ≤ r' u v ∧ r' u v ≤ 2 * B := by
  have := P.nn u v hu hv; have := P.nn v u hv hu; have := P.pr u v hu hv; have := h u v hu hv; have := h v u hv hu; omega
theorem mst_pt {n m : Nat} {x : List (List Int)} {z : Nat → Nat → Int} {i j : Nat} {v : Int} (hs : Sh n m x) (hi : i < n) (hj : j < m) (hz : ∀ a b, a < n → b < m → mt x a b = z a b) {a b : Nat} (ha : a < n) (hb : b < m) : mt (mst x i j v) a b = pt z i j v a b := by
  rw [mst_mt hs hi hj]; unfold pt; rw [hz a b ha hb]
theorem lowered_ok {t : Transport} {n m : Nat} {x : List (List Int)} {i j : Nat} {Q : List (List Int) → Prop} (g : Gd t n m) (hx : Sh n m x) (f : Fl t n m (mt x)) (hi' : i < n) (hj : j < m)
    (h : ∀ out, Sh n m out → Fl t n m (mt out) → (∀ a b, a < n → b < m → a * m + b < i * m + j → mt out a b = mt x a b) →
      (∀ y, Fl t n m y → (∀ a b, a < n → b < m → a * m + b < i * m + j → y a b = mt x a b) → mt out i j ≤ y i j) → Q out) : impl_lowered t x i j Q := by
  unfold impl_lowered
  have hn8 := g.n8; have hm8 := g.m8
  have hb := f.bd i j hi' hj; have hb0 := g.b0 i j hi' hj
  rw [pos_eq g hi' hj, col_eq g hj]
  refine residual_ok g hx f.bd fun r hr er => ?_
  refine idx_mt hx rfl rfl hi' hj (idx_mt g.lo rfl rfl hi' hj ?_)
  rw [wr_in (by omega) (by omega)]
  have rb : ∀ u v, u < n + m → v < n + m → 0 ≤ mt r u v ∧ mt r u v ≤ 100000 := fun u v hu hv => by rw [er u v hu hv]; exact rs_bnd g.b0 f.bd hu hv
  refine push_ok hr (by omega) (by omega) (by omega) (by omega) (fun u v hu hv => by have := rb u v hu hv; omega) (by omega) fun sent r' hr' P => ?_
  have P2 := P.cg er
  have hfr : (fun a b => decide (((i * m + j : Nat) : Int) < ((a * m + b : Nat) : Int))) i j = false := decide_eq_false (by omega)
  refine restore_ok g hx (Nat.le_refl _) hr' (fun a b ha hb => by have := left_bnd P rb (show a < n + m by omega) (show n + b < n + m by omega); omega) fun out ho eo => ?_
  refine idx_gd (d := []) rfl (by rw [ho.1]; exact hi') (idx_gd (d := 0) rfl (by rw [ho.2 i hi']; exact hj) ⟨by omega, by rw [Int.toNat_natCast, ho.2 i hi']; exact hj, ?_⟩)
  have e1 : mt out i j = mt x i j := by rw [eo i j hi' hj]; exact mv_no hfr
  have hs := P.s0; have hs1 := P.s1
  have ew : wr ((out.getD i []).getD j 0 - sent) = mt x i j - sent := by
    show wr (mt out i j - sent) = _
    rw [e1]; exact wr_in (by omega) (by omega)
  rw [ew, Int.toNat_natCast, Int.toNat_natCast]
  have hmt : ∀ a b, a < n → b < m → pt (mv n (mt t.Hi) (mt x) (fun a b => decide (((i * m + j : Nat) : Int) < ((a * m + b : Nat) : Int))) (mt r')) i j (mt x i j - sent) a b = mt (mst out i j (mt x i j - sent)) a b := fun a b ha hb => (mst_pt ho hi' hj eo ha hb).symm
  refine h (mst out i j (mt x i j - sent)) (mst_sh ho hi') ((shift_down P2 f hi' hj hfr hs1).congr hmt) (fun a b ha hb hp => ?_) fun y fy hy => ?_
  · rw [← hmt a b ha hb]; unfold pt
    rw [if_neg (fun e => by obtain ⟨rfl, rfl⟩ := e; omega)]
    exact mv_no (decide_eq_false (by omega))
  · rw [← hmt i j hi' hj]
    have e2 : pt (mv n (mt t.Hi) (mt x) (fun a b => decide (((i * m + j : Nat) : Int) < ((a * m + b : Nat) : Int))) (mt r')) i j (mt x i j - sent) i j = mt x i j - sent := if_pos ⟨rfl, rfl⟩
    rw [e2]
    by_cases c : sent < mt x i j - mt t.Lo i j
    · refine P2.down hi' hj hfr c (fun a b ha hb _ => fy.bd a b ha hb) (fun a b ha hb hf hne => hy a b ha hb ?_) (fun a ha => by rw [fy.row a ha, f.row a ha]) (fun b hb => by rw [fy.col b hb, f.col b hb])
      have := of_decide_eq_false hf
      have hne2 : a * m + b ≠ i * m + j := fun e => hne (ps_inj hj hb e)
      omega
    · have := fy.bd i j hi' hj; omega
theorem nm_mul {t : Transport} {n m : Nat} (g : Gd t n m) : wr (ln t.Rows * ln t.Cols) = ((n * m : Nat) : Int) ∧ n * m ≤ 64 := by
  have h1 : n * m ≤ 8 * 8 := Nat.mul_le_mul g.n8 g.m8
  have e : ln t.Rows * ln t.Cols = ((n * m : Nat) : Int) := by unfold ln; rw [g.rl, g.cl, Int.natCast_mul]
  rw [e, wr_in (by omega) (by omega)]; exact ⟨rfl, h1⟩
theorem wr_nat {k : Nat} (h : k ≤ 1000000) : wr (k : Int) = (k : Int) := wr_in (by omega) (by omega)
theorem td_eq {t : Transport} {n m : Nat} (g : Gd t n m) (p : Nat) (hp : p ≤ 64) : wr (Int.tdiv (p : Int) (ln t.Cols)) = ((p / m : Nat) : Int) ∧ Int.tmod (p : Int) (ln t.Cols) = ((p % m : Nat) : Int) := by
  have e : ln t.Cols = (m : Int) := by unfold ln; rw [g.cl]
  rw [e]
  have h1 : Int.tdiv (p : Int) (m : Int) = ((p / m : Nat) : Int) := rfl
  have h2 : Int.tmod (p : Int) (m : Int) = ((p % m : Nat) : Int) := rfl
  have : p / m ≤ p := Nat.div_le_self _ _
  rw [h1, h2, wr_nat (Nat.le_trans this (by omega))]; exact ⟨rfl, rfl⟩
/-- The flows of a network as rows, and their order. -/
abbrev FF (t : Transport) (n m : Nat) : (Nat → Int) → Prop := Ff n m (fun i => t.Rows.getD i 0) (fun j => t.Cols.getD j 0) (mt t.Lo) (mt t.Hi)
theorem tgt_fl {t : Transport} {n m k : Nat} {z : Nat → Nat → Int} (h : ∀ p, k ≤ p → p < n * m → ∀ y, Fl t n m y → (∀ a b, a < n → b < m → a * m + b < p → y a b = z a b) → z (p / m) (p % m) ≤ y (p / m) (p % m)) : tgt (n * m) (FF t n m) k (fl m z) := by
  intro q hk hq Y fY hY
  have := h q hk hq (unf m Y) fY fun a b ha hb hp => by have := hY _ hp; rwa [fl_at hb] at this
  unfold unf at this; rw [ps_eq] at this; exact this
theorem firstFrom_ok {t : Transport} {n m : Nat} {x : List (List Int)} {k : Nat} {fromx : Int} {Q : List (List Int) → Prop} (g : Gd t n m) (hx : Sh n m x) (f : Fl t n m (mt x)) (hk : k ≤ n * m) (ek : wr (fromx + 1) = (k : Int))
    (h : ∀ z, Sh n m z → Fl t n m (mt z) → ag k (fl m (mt z)) (fl m (mt x)) → tgt (n * m) (FF t n m) k (fl m (mt z)) → Q z) : impl_firstFrom t x fromx Q := by
  unfold impl_firstFrom
  obtain ⟨e64, h64⟩ := nm_mul g
  refine ⟨by unfold ln; rw [hx.1]; have := g.n1; omega, ?_⟩
  rw [ek, e64]
  refine ⟨fun z p => ∃ q : Nat, p = (q : Int) ∧ k ≤ q ∧ q ≤ n * m ∧ Sh n m z ∧ Fl t n m (mt z) ∧ (∀ a b, a < n → b < m → a * m + b < k → mt z a b = mt x a b) ∧
      ∀ p', k ≤ p' → p' < q → ∀ y, Fl t n m y → (∀ a b, a < n → b < m → a * m + b < p' → y a b = mt z a b) → mt z (p' / m) (p' % m) ≤ y (p' / m) (p' % m), fun _ p => n * m - p.toNat,
    ⟨k, rfl, Nat.le_refl _, hk, hx, f, fun _ _ _ _ _ => rfl, fun p' h1 h2 => by omega⟩, ?_⟩
  rintro z _ ⟨q, rfl, h1, h2, hz, fz, hag, ht⟩
  refine br_dec (fun hq => ?_) (fun hq => ?_)
  · have hq' : q < n * m := by omega
    obtain ⟨d1, d2⟩ := td_eq g q (by omega)
    have hm0 : ln t.Cols ≠ 0 := by unfold ln; rw [g.cl]; have := g.m1; omega
    refine ⟨hm0, hm0, ?_⟩
    rw [d1, d2]
    refine lowered_ok g hz fz (ps_row hq') (ps_col hq') fun out ho fo hag2 hmin => ?_
    rw [ps_eq] at hag2 hmin
    rw [wr_in (by omega) (by omega)]
    refine ⟨⟨q + 1, by omega, by omega, by omega, ho, fo, fun a b ha hb hp => by rw [hag2 a b ha hb (by omega), hag a b ha hb hp], fun p' h3 h4 y fy hy => ?_⟩, by show n * m - ((q : Int) + 1).toNat < n * m - (q : Int).toNat; omega⟩
    by_cases c : p' = q
    · subst c
      exact hmin y fy fun a b ha hb hp => by rw [hy a b ha hb hp, hag2 a b ha hb hp]
    · have hp' : p' < n * m := by omega
      rw [hag2 _ _ (ps_row hp') (ps_col hp') (by rw [ps_eq]; omega)]
      exact ht p' h3 (by omega) y fy fun a b ha hb hp => by rw [hy a b ha hb hp, hag2 a b ha hb (by omega)]
  · have : q = n * m := by omega
    subst this
    exact h z hz fz ((ag_fl hk).2 hag) (tgt_fl fun p h3 h4 y fy hy => ht p h3 h4 y fy hy)
end Go.Proofs.Ytommbnkecafodaa
