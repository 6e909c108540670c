/- The reference's flows: other bounds of an element, its least value, the number of flows; both count the same. -/
import Derived.Test.YtommbnkecafodaaFW
set_option linter.unusedVariables false
set_option autoImplicit false
namespace Go.Gv
/-- What is counted depends on what can follow alone. -/
theorem cn_cg2 {K : Nat} {lo hi lo' hi' : Nat → Int} {F F' : (Nat → Int) → Prop} : ∀ (d : Nat) (x : Nat → Int), d ≤ K → (∀ p, K - d ≤ p → p < K → lo p = lo' p ∧ hi p = hi' p) → (∀ z, ag (K - d) z x → (F z ↔ F' z)) → cn K lo hi F d x = cn K lo' hi' F' d x
  | 0, x, _, _, h => by
    unfold cn
    by_cases c : F x
    · rw [if_pos c, if_pos ((h x (ag.refl _ _)).1 c)]
    · rw [if_neg c, if_neg (fun f => c ((h x (ag.refl _ _)).2 f))]
  | d + 1, x, hd, hb, h => by
    unfold cn
    obtain ⟨e1, e2⟩ := hb (K - (d + 1)) (Nat.le_refl _) (by omega)
    rw [← e1, ← e2]
    refine sR_congr fun v _ _ => cn_cg2 d _ (by omega) (fun p h1 h2 => hb p (by omega) h2) fun z hz => h z ?_
    rw [show K - d = K - (d + 1) + 1 by omega, ag_succ] at hz
    exact hz.1
end Go.Gv
namespace Go.Proofs.Ytommbnkecafodaa
open Go Go.RowKit Go.Gv

def wt (t : Transport) (i j : Nat) (lo hi : Int) : Transport := ⟨t.Rows, t.Cols, mst t.Lo i j lo, mst t.Hi i j hi⟩
theorem tWith_ok {t : Transport} {n m i j : Nat} {lo hi : Int} {Q : Transport → Prop} (g : Gd t n m) (hi' : i < n) (hj : j < m) (h : Q (wt t i j lo hi)) : spec_tWith t i j lo hi Q := by
  unfold spec_tWith
  have hn8 := g.n8; have hm8 := g.m8
  have s1 := g.lo.small (show n ≤ 1048576 by omega) (show m ≤ 1048576 by omega)
  have s2 := g.hi.small (show n ≤ 1048576 by omega) (show m ≤ 1048576 by omega)
  have fin : idx t.Lo (i : Int) fun x336 => (0 : Int) ≤ (j : Int) ∧ Int.toNat (j : Int) < List.length x336 ∧ (idx t.Hi (i : Int) fun x359 => (0 : Int) ≤ (j : Int) ∧ Int.toNat (j : Int) < List.length x359 ∧ (
      Q ((Transport.mk t.Rows t.Cols (List.set t.Lo (Int.toNat (i : Int)) (List.set x336 (Int.toNat (j : Int)) lo)) (List.set t.Hi (Int.toNat (i : Int)) (List.set x359 (Int.toNat (j : Int)) hi)))))) :=
    idx_gd (d := []) rfl (by rw [g.lo.1]; exact hi') ⟨by omega, by rw [Int.toNat_natCast, g.lo.2 _ hi']; exact hj, idx_gd (d := []) rfl (by rw [g.hi.1]; exact hi') ⟨by omega, by rw [Int.toNat_natCast, g.hi.2 _ hi']; exact hj, by rw [Int.toNat_natCast, Int.toNat_natCast]; exact h⟩⟩
  refine jn_of ⟨tOwn_ok s1 ⟨tOwn_ok s2 fin, tOwn_ok s2 fin⟩, tOwn_ok s1 (tOwn_ok s2 fin)⟩
theorem wt_gd {t : Transport} {n m i j : Nat} {lo hi : Int} (g : Gd t n m) (hi' : i < n) (hj : j < m) (h : 0 ≤ lo ∧ lo ≤ hi ∧ hi ≤ 100000) : Gd (wt t i j lo hi) n m := by
  refine ⟨g.rl, g.cl, g.n1, g.n8, g.m1, g.m8, g.rw, g.cw, mst_sh g.lo hi', mst_sh g.hi hi', fun a b ha hb => ?_⟩
  show 0 ≤ mt (mst t.Lo i j lo) a b ∧ mt (mst t.Lo i j lo) a b ≤ mt (mst t.Hi i j hi) a b ∧ mt (mst t.Hi i j hi) a b ≤ 100000
  rw [mst_mt g.lo hi' hj, mst_mt g.hi hi' hj]
  by_cases c : a = i ∧ b = j
  · rw [if_pos c, if_pos c]; exact h
  · rw [if_neg c, if_neg c]; exact g.bd a b ha hb
theorem wt_fl {t : Transport} {n m i j : Nat} {lo hi : Int} (g : Gd t n m) (hi' : i < n) (hj : j < m) (h1 : mt t.Lo i j ≤ lo) (h2 : hi ≤ mt t.Hi i j) {y : Nat → Nat → Int} : Fl (wt t i j lo hi) n m y ↔ Fl t n m y ∧ lo ≤ y i j ∧ y i j ≤ hi := by
  have el : ∀ a b, mt (wt t i j lo hi).Lo a b = if a = i ∧ b = j then lo else mt t.Lo a b := fun a b => mst_mt g.lo hi' hj
  have eh : ∀ a b, mt (wt t i j lo hi).Hi a b = if a = i ∧ b = j then hi else mt t.Hi a b := fun a b => mst_mt g.hi hi' hj
  constructor
  · intro f
    have hb := f.bd i j hi' hj
    rw [el, eh, if_pos ⟨rfl, rfl⟩, if_pos ⟨rfl, rfl⟩] at hb
    refine ⟨⟨fun a b ha hb' => ?_, f.row, f.col⟩, hb⟩
    have := f.bd a b ha hb'
    rw [el, eh] at this
    by_cases c : a = i ∧ b = j
    · obtain ⟨rfl, rfl⟩ := c; omega
    · rw [if_neg c, if_neg c] at this; exact this
  · rintro ⟨f, hb⟩
    refine ⟨fun a b ha hb' => ?_, f.row, f.col⟩
    rw [el, eh]
    by_cases c : a = i ∧ b = j
    · obtain ⟨rfl, rfl⟩ := c; rw [if_pos ⟨rfl, rfl⟩, if_pos ⟨rfl, rfl⟩]; exact hb
    · rw [if_neg c, if_neg c]; exact f.bd a b ha hb'
theorem tLow_ok {t : Transport} {n m i j : Nat} {Q : Int → Prop} (g : Gd t n m) (hi' : i < n) (hj : j < m) (hex : ∃ y, Fl t n m y) (h : ∀ v, (∃ y, Fl t n m y ∧ y i j = v) → (∀ y, Fl t n m y → v ≤ y i j) → Q v) : spec_tLow t i j Q := by
  unfold spec_tLow
  have hb := g.bd i j hi' hj
  refine idx_mt g.lo rfl rfl hi' hj (idx_mt g.hi rfl rfl hi' hj ?_)
  obtain ⟨y0, f0⟩ := hex
  refine ⟨fun lo hi => mt t.Lo i j ≤ lo ∧ lo ≤ hi ∧ hi ≤ mt t.Hi i j ∧ (∀ y, Fl t n m y → lo ≤ y i j) ∧ ∃ y, Fl t n m y ∧ y i j ≤ hi, fun lo hi => (hi - lo).toNat, ⟨Int.le_refl _, hb.2.1, Int.le_refl _, fun y f => (f.bd i j hi' hj).1, y0, f0, (f0.bd i j hi' hj).2⟩, ?_⟩
  rintro lo hi ⟨h1, h2, h3, h4, y1, f1, hy1⟩
  refine br_dec (fun c => ?_) (fun c => ?_)
  · have em : wr (Int.tdiv (wr (lo + hi)) 2) = (lo + hi) / 2 := by
      rw [wr_in (x := lo + hi) (by omega) (by omega), Int.tdiv_eq_ediv_of_nonneg (by omega)]
      exact wr_in (by omega) (by omega)
    refine idx_mt g.lo rfl rfl hi' hj ?_
    rw [em]
    have hm : lo ≤ (lo + hi) / 2 ∧ (lo + hi) / 2 < hi := by omega
    refine tWith_ok g hi' hj (feasible_ok (wt_gd g hi' hj (by omega)) (fun hno => br_false rfl ?_) fun x hx fx => br_true rfl ⟨⟨h1, by omega, by omega, h4, ?_⟩, by show ((lo + hi) / 2 - lo).toNat < (hi - lo).toNat; omega⟩)
    · rw [wr_in (by omega) (by omega)]
      have ge : ∀ y, Fl t n m y → (lo + hi) / 2 + 1 ≤ y i j := fun y f => by
        refine Classical.byContradiction fun hlt => hno y ((wt_fl g hi' hj (Int.le_refl _) (by omega)).2 ⟨f, (f.bd i j hi' hj).1, by omega⟩)
      exact ⟨⟨by omega, by omega, h3, ge, y1, f1, hy1⟩, by show (hi - ((lo + hi) / 2 + 1)).toNat < (hi - lo).toNat; omega⟩
    · obtain ⟨f, _, b⟩ := (wt_fl g hi' hj (Int.le_refl _) (by omega)).1 fx
      exact ⟨_, f, b⟩
  · have e : lo = hi := by omega
    subst e
    exact h lo ⟨y1, f1, by have := h4 y1 f1; omega⟩ h4
/-- The flows of a network whose first k elements are told. -/
noncomputable def cnt (t : Transport) (n m k : Nat) : Nat := cn (n * m) (fl m (mt t.Lo)) (fl m (mt t.Hi)) (FF t n m) (n * m - k) (fl m (mt t.Lo))
theorem cnt_wt {t : Transport} {n m k : Nat} {v : Int} (g : Gd t n m) (hk : k < n * m) (hp : ∀ p, p < k → fl m (mt t.Lo) p = fl m (mt t.Hi) p) (hv : fl m (mt t.Lo) k ≤ v ∧ v ≤ fl m (mt t.Hi) k) :
    cnt (wt t (k / m) (k % m) v v) n m (k + 1) = cn (n * m) (fl m (mt t.Lo)) (fl m (mt t.Hi)) (FF t n m) (n * m - (k + 1)) (up (fl m (mt t.Lo)) k v) := by
  have hi' := ps_row hk; have hj := ps_col hk
  have el : ∀ p, p < n * m → fl m (mt (wt t (k / m) (k % m) v v).Lo) p = if p = k then v else fl m (mt t.Lo) p := fun p hp' => by
    show mt (mst t.Lo (k / m) (k % m) v) (p / m) (p % m) = _
    rw [mst_mt g.lo hi' hj]
    by_cases c : p = k
    · subst c; rw [if_pos rfl, if_pos ⟨rfl, rfl⟩]
    · rw [if_neg c, if_neg (fun e => c ?_)]; · rfl
      rw [← ps_eq (m := m) (p := p), e.1, e.2, ps_eq]
  have eh : ∀ p, p < n * m → fl m (mt (wt t (k / m) (k % m) v v).Hi) p = if p = k then v else fl m (mt t.Hi) p := fun p hp' => by
    show mt (mst t.Hi (k / m) (k % m) v) (p / m) (p % m) = _
    rw [mst_mt g.hi hi' hj]
    by_cases c : p = k
    · subst c; rw [if_pos rfl, if_pos ⟨rfl, rfl⟩]
    · rw [if_neg c, if_neg (fun e => c ?_)]; · rfl
      rw [← ps_eq (m := m) (p := p), e.1, e.2, ps_eq]
  unfold cnt
  have pre : ag (n * m - (n * m - (k + 1))) (fl m (mt (wt t (k / m) (k % m) v v).Lo)) (up (fl m (mt t.Lo)) k v) := fun p hp' => by
    rw [el p (by omega)]; unfold up; rfl
  rw [cn_congr Ff_fp _ _ (up (fl m (mt t.Lo)) k v) (by omega) pre]
  refine cn_cg2 _ _ (by omega) (fun p h1 h2 => ?_) fun z hz => ?_
  · rw [el p h2, eh p h2, if_neg (by omega), if_neg (by omega)]; exact ⟨rfl, rfl⟩
  · have e1 : unf m z (k / m) (k % m) = v := by
      have := hz k (by omega)
      unfold unf; rw [ps_eq, this, up_at]
    have := wt_fl (lo := v) (hi := v) (y := unf m z) g hi' hj hv.1 hv.2
    exact this.trans ⟨fun h => h.1, fun h => ⟨h, by omega, by omega⟩⟩
theorem run_ok {t : Transport} {n m : Nat} {Q : Int → Int → Prop} (g : Gd t n m) (hex : ∃ y, Fl t n m y) (h : ∀ N : Int, (cnt t n m 0 ≤ 2000 → N = cnt t n m 0) → (2000 < cnt t n m 0 → N = 2001) → Q N 2000) : spec_tCounter_run (TCounter.mk 0 2000) t 0 Q := by
  unfold spec_tCounter_run
  refine ⟨fun c t k Q => ∃ kk : Nat, k = (kk : Int) ∧ kk ≤ n * m ∧ Gd t n m ∧ (∀ p, p < kk → fl m (mt t.Lo) p = fl m (mt t.Hi) p) ∧ (∃ y, Fl t n m y) ∧ ∃ N0 : Nat, c.N = (N0 : Int) ∧ N0 ≤ 2000 ∧ c.Most = 2000 ∧
      ∀ N : Int, (N0 + cnt t n m kk ≤ 2000 → N = (N0 + cnt t n m kk : Nat)) → (2000 < N0 + cnt t n m kk → N = 2001) → Q N 2000, fun _ _ k => n * m - k.toNat,
    ⟨0, rfl, Nat.zero_le _, g, fun p hp => by omega, hex, 0, rfl, by omega, rfl, fun N a b => h N (fun x => by have := a (by omega); omega) (fun x => b (by omega))⟩, ?_⟩
  clear h hex g t
  rintro c t _ Q ⟨k, rfl, hk, g, hp, hex, N0, eN, hN, eM, h⟩
  obtain ⟨e64, h64⟩ := nm_mul g
  rw [e64]
  refine br_eq (fun e => ?_) (fun e => ?_)
  · have ek : k = n * m := by omega
    subst ek
    obtain ⟨y, f⟩ := hex
    have h1 : cnt t n m (n * m) = 1 := by
      unfold cnt
      rw [Nat.sub_self]; unfold cn
      refine if_pos (Ff_fl (f.congr fun i j hi hj => ?_))
      have hb := f.bd i j hi hj
      have := hp _ (ps_lt hi hj)
      rw [fl_at hj, fl_at hj] at this
      have e1 : mt t.Lo i j ≤ y i j := hb.1
      have e2 : y i j ≤ mt t.Hi i j := hb.2
      omega
    rw [eN, eM, wr_in (by omega) (by omega)]
    exact h _ (fun _ => by rw [h1]; omega) (fun x => by omega)
  have hk' : k < n * m := by omega
  have hm0 : ln t.Cols ≠ 0 := by unfold ln; rw [g.cl]; have := g.m1; omega
  obtain ⟨d1, d2⟩ := td_eq g k (by omega)
  refine ⟨hm0, hm0, ?_⟩
  rw [d1, d2]
  have hi' := ps_row hk'; have hj := ps_col hk'
  have hbd := g.bd _ _ hi' hj
  let W : Int → Nat := fun v => cn (n * m) (fl m (mt t.Lo)) (fl m (mt t.Hi)) (FF t n m) (n * m - (k + 1)) (up (fl m (mt t.Lo)) k v)
  refine tLow_ok (t := t) g hi' hj hex fun v0 ⟨y0, f0, ey0⟩ hlow => ?_
  have fb0 := f0.bd _ _ hi' hj
  have W0 : ∀ v, (∀ y, Fl t n m y → y (k / m) (k % m) ≠ v) → W v = 0 := fun v hv => cn_zero Ff_fp (by omega) fun Y fY hY => by
    have := hY k (by omega)
    rw [up_at] at this
    refine hv (unf m Y) fY ?_
    unfold unf; rw [ps_eq]; exact this
  have hsum : cnt t n m k = sR v0 (mt t.Hi (k / m) (k % m)) W := by
    unfold cnt
    rw [show n * m - k = (n * m - (k + 1)) + 1 by omega]; unfold cn
    rw [show n * m - (n * m - (k + 1) + 1) = k by omega]
    show sR (mt t.Lo (k / m) (k % m)) (mt t.Hi (k / m) (k % m)) W = _
    rw [sR_cut (c := v0) (by omega) (by omega), sR_zero, Nat.zero_add]
    intro v h1 h2
    exact W0 v fun y f e => by have := hlow y f; omega
  refine ⟨fun v N most => v0 ≤ v ∧ v ≤ mt t.Hi (k / m) (k % m) + 1 ∧ most = 2000 ∧ (N0 + sR v0 (v - 1) W ≤ 2000 → N = ((N0 + sR v0 (v - 1) W : Nat) : Int)) ∧ (2000 < N0 + sR v0 (v - 1) W → N = 2001), fun v _ _ => (mt t.Hi (k / m) (k % m) + 1 - v).toNat,
    ⟨Int.le_refl _, by omega, eM, fun _ => by rw [sR_none (by omega), eN]; omega, fun x => by rw [sR_none (by omega)] at x; omega⟩, ?_⟩
  rintro v N most ⟨q1, q2, rfl, q3, q4⟩
  have hle : v ≤ mt t.Hi (k / m) (k % m) + 1 → sR v0 (v - 1) W ≤ cnt t n m k := fun hv => by
    rw [hsum, sR_cut (a := v0) (b := mt t.Hi (k / m) (k % m)) (c := v) q1 hv]; omega
  by_cases c1 : v ≤ mt t.Hi (k / m) (k % m) ∧ N ≤ 2000
  · refine jn_bool true (br_true rfl ?_) fun k' hk' => idx_mt g.hi rfl rfl hi' hj (br_yes c1.1 (by rw [decide_eq_true c1.2]; exact hk'))
    have hNn : N0 + sR v0 (v - 1) W ≤ 2000 := by
      refine Classical.byContradiction fun hh => ?_
      have := q4 (by omega); omega
    have eN' := q3 hNn
    have gw := wt_gd (lo := v) (hi := v) g hi' hj (by omega)
    refine tWith_ok g hi' hj (feasible_ok gw (fun hno => br_true rfl ?_) fun x hx fx => br_false rfl ?_)
    · -- from here on nothing is left
      have hz : sR v (mt t.Hi (k / m) (k % m)) W = 0 := sR_zero fun v' h1 h2 => W0 v' fun y f e => by
        obtain ⟨z, fz, ez, _⟩ := between f0 f hi' hj (fun a b => !(decide (a = k / m) && decide (b = k % m))) (by simp) (fun a b ha hb hf hne => by simp at hf; exact (hne hf).elim) (v := v) (by omega) (by omega)
        exact hno z ((wt_fl g hi' hj (by omega) (by omega)).2 ⟨fz, by omega, by omega⟩)
      have ecnt : cnt t n m k = sR v0 (v - 1) W := by
        rw [hsum, sR_cut (a := v0) (b := mt t.Hi (k / m) (k % m)) (c := v) q1 (by omega), hz, Nat.add_zero]
      exact h N (fun _ => by rw [ecnt]; exact eN') (fun x => by rw [ecnt] at x; omega)
    · have hv : fl m (mt t.Lo) k ≤ v ∧ v ≤ fl m (mt t.Hi) k := by
        show mt t.Lo (k / m) (k % m) ≤ v ∧ v ≤ mt t.Hi (k / m) (k % m); omega
      have ecw : cnt (wt t (k / m) (k % m) v v) n m (k + 1) = W v := cnt_wt g hk' hp hv
      have estep : sR v0 v W = sR v0 (v - 1) W + W v := by
        rw [sR_cut (a := v0) (b := v) (c := v) q1 (by omega), sR_head (a := v) (b := v) (Int.le_refl _), sR_none (a := v + 1) (by omega)]; omega
      rw [wr_in (by omega) (by omega)]
      refine ⟨⟨k + 1, by omega, by omega, gw, fun p hp' => ?_, ⟨_, fx⟩, N0 + sR v0 (v - 1) W, eN', hNn, rfl, fun N' a b => ?_⟩, by show n * m - ((k : Int) + 1).toNat < n * m - (k : Int).toNat; omega⟩
      · show mt (mst t.Lo (k / m) (k % m) v) (p / m) (p % m) = mt (mst t.Hi (k / m) (k % m) v) (p / m) (p % m)
        rw [mst_mt g.lo hi' hj, mst_mt g.hi hi' hj]
        by_cases e1 : p / m = k / m ∧ p % m = k % m
        · rw [if_pos e1, if_pos e1]
        · rw [if_neg e1, if_neg e1]
          refine hp p ?_
          have : p ≠ k := fun e2 => by subst e2; exact e1 ⟨rfl, rfl⟩
          omega
      · rw [ecw] at a b
        rw [wr_in (by omega) (by omega)]
        refine ⟨⟨by omega, by omega, rfl, fun x => ?_, fun x => ?_⟩, by show (mt t.Hi (k / m) (k % m) + 1 - (v + 1)).toNat < (mt t.Hi (k / m) (k % m) + 1 - v).toNat; omega⟩
        · rw [show v + 1 - 1 = v by omega, estep] at x ⊢
          rw [a (by omega)]; omega
        · rw [show v + 1 - 1 = v by omega, estep] at x
          exact b (by omega)
  · refine jn_bool false (br_false rfl ?_) fun k' hk' => idx_mt g.hi rfl rfl hi' hj (br_dec (fun c2 => by rw [decide_eq_false (fun c3 => c1 ⟨c2, c3⟩)]; exact hk') (fun _ => hk'))
    by_cases c2 : v ≤ mt t.Hi (k / m) (k % m)
    · have hN2 : ¬ N ≤ 2000 := fun x => c1 ⟨c2, x⟩
      have hbig : 2000 < N0 + sR v0 (v - 1) W := by
        refine Classical.byContradiction fun hh => ?_
        have := q3 (by omega); omega
      have := hle q2
      exact h N (fun x => by omega) (fun _ => q4 hbig)
    · have ev : v - 1 = mt t.Hi (k / m) (k % m) := by omega
      rw [ev, ← hsum] at q3 q4
      exact h N q3 q4
theorem cnt_tot {t : Transport} {n m : Nat} : cnt t n m 0 = tot t n m := by
  unfold cnt tot
  rw [Nat.sub_zero]; exact cn_congr Ff_fp _ _ _ (Nat.le_refl _) fun p hp => by omega
theorem specCount_ok {t : Transport} {Q : Int → Bool → Prop} (hs : smallT t) (h0 : ¬ Gd t t.Rows.length t.Cols.length → Q 0 false)
    (h : ∀ n m, Gd t n m → Q (if n * m ≤ 16 ∧ tot t n m ≤ 2000 then (tot t n m : Int) else 0) (decide (n * m ≤ 16 ∧ tot t n m ≤ 2000))) : spec_CountFlows t Q := by
  unfold spec_CountFlows
  by_cases hg : Gd t t.Rows.length t.Cols.length
  case neg =>
    refine jn_bool true (br_true rfl (h0 hg)) fun k hk => tGood_ok hs fun b hb => br_nb (fun _ => hk) fun c => ?_
    exact (hg (hb.1 c)).elim
  have h := h _ _ hg
  obtain ⟨e64, h64⟩ := nm_mul hg
  by_cases c : t.Rows.length * t.Cols.length ≤ 16
  case neg =>
    refine jn_bool true (br_true rfl ?_) fun k hk => tGood_ok hs fun b hb => br_nb (fun _ => hk) fun c2 => ?_
    · rw [if_neg (by omega), decide_eq_false (by omega)] at h; exact h
    · rw [e64, decide_eq_true (by omega)]; exact hk
  refine jn_bool false (br_false rfl ?_) fun k hk => tGood_ok hs fun b hb => br_false (by rw [hb.2 hg]; rfl) (by rw [e64, decide_eq_false (by omega)]; exact hk)
  refine feasible_ok hg (fun hno => br_true rfl ?_) fun x hx fx => br_false rfl (run_ok hg ⟨_, fx⟩ fun N a b => ?_)
  · rw [tot_zero hno, if_pos (by omega), decide_eq_true (by omega)] at h; exact h
  · have ec : cnt (Transport.mk t.Rows t.Cols t.Lo t.Hi) t.Rows.length t.Cols.length 0 = tot t t.Rows.length t.Cols.length := cnt_tot
    rw [ec] at a b
    by_cases c2 : tot t t.Rows.length t.Cols.length ≤ 2000
    · rw [if_pos ⟨c, c2⟩, decide_eq_true ⟨c, c2⟩] at h
      rw [a c2]; exact br_no (by omega) h
    · rw [if_neg (fun x => c2 x.2), decide_eq_false (fun x => c2 x.2)] at h
      rw [b (by omega)]; exact br_yes (by omega) h
theorem implCount_ok {t : Transport} {Q : Int → Bool → Prop} (hs : smallT t) (h0 : ¬ Gd t t.Rows.length t.Cols.length → Q 0 false)
    (h : ∀ n m, Gd t n m → Q (if n * m ≤ 16 ∧ tot t n m ≤ 2000 then (tot t n m : Int) else 0) (decide (n * m ≤ 16 ∧ tot t n m ≤ 2000))) : impl_CountFlows t Q := by
  unfold impl_CountFlows
  refine IsTransport_ok hs fun b hb => br_nb (fun c => h0 fun hg => ?_) fun c => countFlows_ok (hb.1 c) (h _ _ (hb.1 c))
  rw [hb.2 hg] at c; cases c
end Go.Proofs.Ytommbnkecafodaa
