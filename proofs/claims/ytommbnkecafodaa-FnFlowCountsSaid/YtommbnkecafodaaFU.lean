/- The program's flows: any, the first, the next, their number. -/
import Derived.Test.YtommbnkecafodaaFT
set_option linter.unusedVariables false
set_option autoImplicit false
namespace Go.Proofs.Ytommbnkecafodaa
open Go Go.RowKit Go.Gv

theorem list_eq {a b : List Int} {n : Nat} (ha : a.length = n) (hb : b.length = n) (h : ∀ i, i < n → a.getD i 0 = b.getD i 0) : a = b := by
  refine List.ext_getElem (by rw [ha, hb]) fun i h1 h2 => ?_
  have := h i (by omega)
  simpa [h1, h2] using this
theorem anyFlow_ok {t : Transport} {n m : Nat} {Q : List (List Int) → Prop} (g : Gd t n m) (h0 : (∀ y, ¬ Fl t n m y) → Q []) (h1 : ∀ x, Sh n m x → Fl t n m (mt x) → Q x) : impl_anyFlow t Q := by
  unfold impl_anyFlow
  have hn8 := g.n8; have hm8 := g.m8; have hn1 := g.n1
  refine det1_of (ls t.Rows) (total_ok g.lr rfl) (det1_of (ls t.Cols) (total_ok g.lc rfl) ?_)
  rw [ls_rows g, ls_cols g]
  refine br_ne (fun c => h0 fun y fy => c ?_) (fun c => ?_)
  · have h2 : sm n (fun i => sm m (y i)) = sm n (fun i => t.Rows.getD i 0) := sm_congr fy.row
    rw [sm_swap] at h2
    rw [← h2]; exact sm_congr fy.col
  refine fill_ok g (fun hno => ?_) fun out ho fo' hmax => ?_
  · exact jn_bool true (br_true rfl (h0 fun y fy => hno y fy.fi)) fun k hk => br_true rfl hk
  have fo : FI t n m (mt out) := fo'
  have bo : bnd n m out := fun i j hi hj => by have := fo.bd i j hi hj; have := g.bd i j hi hj; omega
  have key : ∀ s : List Int, s.length = n → (∀ i, i < n → s.getD i 0 = sm m (mt out i)) → (s = t.Rows ↔ Fl t n m (mt out)) := fun s hs es => by
    constructor
    · intro e
      refine fill_flow fo.bd (fun i hi => ?_) fo.col c
      rw [← es i hi, e]
    · intro f
      exact list_eq hs g.rl fun i hi => by rw [es i hi]; exact f.row i hi
  have hne : (ln out == 0) = false := by
    have : ln out = (n : Int) := by unfold ln; rw [ho.1]
    rw [this]; simp; omega
  by_cases hf : Fl t n m (mt out)
  · refine jn_bool false (br_false rfl (h1 out ho hf)) fun k hk => br_false hne (rowSums_ok ho (by omega) (by omega) bo fun s hs es => det1_of true (slicesEqual_ok (by omega) ?_) hk)
    exact decide_eq_true ((key s hs es).2 hf)
  · refine jn_bool true (br_true rfl (h0 fun y fy => hf ?_)) fun k hk => br_false hne (rowSums_ok ho (by omega) (by omega) bo fun s hs es => det1_of false (slicesEqual_ok (by omega) ?_) hk)
    · refine fill_flow fo.bd ?_ fo.col c
      have h2 := hmax y fy.fi
      have h3 : sm n (fun i => sm m (y i)) = sm n (fun i => t.Rows.getD i 0) := sm_congr fy.row
      have h4 := sm_eq_zero (n := n) (f := fun i => t.Rows.getD i 0 - sm m (mt out i)) (fun i hi => by have := fo.row i hi; show 0 ≤ t.Rows.getD i 0 - _; omega) (by rw [sm_sub]; omega)
      intro i hi
      have h5 : t.Rows.getD i 0 - sm m (mt out i) = 0 := h4 i hi
      omega
    · exact decide_eq_false fun e => hf ((key s hs es).1 e)
theorem firstFlow_ok {t : Transport} {n m : Nat} {Q : List (List Int) → Prop} (g : Gd t n m) (h0 : (∀ y, ¬ Fl t n m y) → Q []) (h1 : ∀ x, Sh n m x → Fl t n m (mt x) → tgt (n * m) (FF t n m) 0 (fl m (mt x)) → Q x) : impl_firstFlow t Q := by
  unfold impl_firstFlow
  refine anyFlow_ok g (fun h => br_true rfl (h0 h)) fun x hx f => br_false ?_ (firstFrom_ok (k := 0) g hx f (Nat.zero_le _) rfl fun z hz fz _ ht => h1 z hz fz ht)
  have : ln x = (n : Int) := by unfold ln; rw [hx.1]
  rw [this]; have := g.n1; simp; omega
/-- At q nothing is greater, the elements before being as they are. -/
def top (t : Transport) (n m : Nat) (x : Nat → Nat → Int) (q : Nat) : Prop := ∀ y, FF t n m y → ag q y (fl m x) → ¬ fl m x q < y q
theorem nextFlow_ok {t : Transport} {n m : Nat} {x : List (List Int)} {Q : List (List Int) → Prop} (g : Gd t n m) (hx : Sh n m x) (f : Fl t n m (mt x)) (h0 : (∀ q, q < n * m → top t n m (mt x) q) → Q [])
    (h1 : ∀ z p, p < n * m → Sh n m z → Fl t n m (mt z) → ag p (fl m (mt z)) (fl m (mt x)) → fl m (mt z) p = fl m (mt x) p + 1 → tgt (n * m) (FF t n m) (p + 1) (fl m (mt z)) → (∀ q, p < q → q < n * m → top t n m (mt x) q) → Q z) : impl_nextFlow t x Q := by
  unfold impl_nextFlow
  have hn8 := g.n8; have hm8 := g.m8
  obtain ⟨e64, h64⟩ := nm_mul g
  have e1 : wr (wr (ln t.Rows * ln t.Cols) - 1) = ((n * m : Nat) : Int) - 1 := by rw [e64, wr_in (by omega) (by omega)]
  rw [e1]
  refine ⟨fun p => ∃ q : Nat, p = (q : Int) - 1 ∧ q ≤ n * m ∧ ∀ q', q ≤ q' → q' < n * m → top t n m (mt x) q', fun p => (p + 1).toNat, ⟨n * m, rfl, Nat.le_refl _, fun q' a b => by omega⟩, ?_⟩
  rintro _ ⟨q, rfl, hq, ht⟩
  refine br_dec (fun c => ?_) (fun c => h0 fun q' hq' => ht q' (by omega) hq')
  obtain ⟨p, rfl⟩ : ∃ p, q = p + 1 := ⟨q - 1, by omega⟩
  have ep : ((p + 1 : Nat) : Int) - 1 = (p : Int) := by omega
  rw [ep]
  have hp : p < n * m := by omega
  obtain ⟨d1, d2⟩ := td_eq g p (by omega)
  have hm0 : ln t.Cols ≠ 0 := by unfold ln; rw [g.cl]; have := g.m1; omega
  have hi' := ps_row hp; have hj := ps_col hp
  have hgo : top t n m (mt x) p → (fun p => ∃ q : Nat, p = (q : Int) - 1 ∧ q ≤ n * m ∧ ∀ q', q ≤ q' → q' < n * m → top t n m (mt x) q') (wr ((p : Int) - 1)) ∧ ((wr ((p : Int) - 1)) + 1).toNat < (((p : Int)) + 1).toNat := fun hpt => by
    rw [wr_in (by omega) (by omega)]
    refine ⟨⟨p, rfl, by omega, fun q' h2 h3 => ?_⟩, by omega⟩
    by_cases e : q' = p
    · rw [e]; exact hpt
    · exact ht q' (by omega) h3
  refine jn_of ?_
  refine ⟨hm0, hm0, ?_⟩
  rw [d1, d2]
  refine idx_mt hx rfl rfl hi' hj (idx_mt g.hi rfl rfl hi' hj (br_eq (fun c2 => hgo fun y fy hy => ?_) (fun c2 => ?_)))
  · have := (Ff_fp (n := n) (m := m)).bd y fy p hp
    have e : fl m (mt x) p = fl m (mt t.Hi) p := c2
    omega
  have hb := f.bd _ _ hi' hj; have hb0 := g.b0 _ _ hi' hj
  refine residual_ok g hx f.bd fun r hr er => ?_
  rw [col_eq g hj]
  have rb : ∀ u v, u < n + m → v < n + m → 0 ≤ mt r u v ∧ mt r u v ≤ 100000 := fun u v hu hv => by rw [er u v hu hv]; exact rs_bnd g.b0 f.bd hu hv
  refine push_ok hr (by omega) (by omega) (by omega) (by omega) (fun u v hu hv => by have := rb u v hu hv; omega) (by omega) fun sent r' hr' P => ?_
  have P2 : Pu (n + m) (rs n m (mt t.Lo) (mt t.Hi) (mt x) (fun a b => decide ((p : Int) < ((a * m + b : Nat) : Int)))) (mt r') (n + p % m) (p / m) 1 sent := P.cg er
  have hfr : (fun a b => decide ((p : Int) < ((a * m + b : Nat) : Int))) (p / m) (p % m) = false := decide_eq_false (by rw [ps_eq]; omega)
  have hs := P.s0; have hs1 := P.s1
  refine br_eq (fun c3 => hgo fun Y fY hY => ?_) (fun c3 => ?_)
  · have fy : Fl t n m (unf m Y) := fY
    have := P2.up hi' hj hfr (by omega) (fun a b ha hb _ => fy.bd a b ha hb) (fun a b ha hb hf hne => ?_) (fun a ha => by rw [fy.row a ha, f.row a ha]) (fun b hb => by rw [fy.col b hb, f.col b hb])
    · unfold unf at this; rw [ps_eq] at this
      show ¬ mt x (p / m) (p % m) < Y p
      omega
    · have := of_decide_eq_false hf
      have hne2 : a * m + b ≠ p := fun e => hne (ps_inj hj hb (by rw [ps_eq]; exact e))
      have := hY (a * m + b) (by omega)
      rwa [fl_at hb] at this
  have hs2 : sent = 1 := by omega
  subst hs2
  refine restore_ok g hx (Nat.le_refl _) hr' (fun a b ha hb => by have := left_bnd P rb (show a < n + m by omega) (show n + b < n + m by omega); omega) fun out ho eo => ?_
  refine idx_gd (d := []) rfl (by rw [ho.1]; exact hi') (idx_gd (d := 0) rfl (by rw [ho.2 _ hi']; exact hj) ⟨by omega, by rw [Int.toNat_natCast, ho.2 _ hi']; exact hj, ?_⟩)
  have e2 : mt out (p / m) (p % m) = mt x (p / m) (p % m) := by rw [eo _ _ hi' hj]; exact mv_no hfr
  have ew : wr ((out.getD (p / m) []).getD (p % m) 0 + 1) = mt x (p / m) (p % m) + 1 := by
    show wr (mt out (p / m) (p % m) + 1) = _
    rw [e2]; exact wr_in (by omega) (by omega)
  rw [ew, Int.toNat_natCast, Int.toNat_natCast]
  have hmt : ∀ a b, a < n → b < m → pt (mv n (mt t.Hi) (mt x) (fun a b => decide ((p : Int) < ((a * m + b : Nat) : Int))) (mt r')) (p / m) (p % m) (mt x (p / m) (p % m) + 1) a b = mt (mst out (p / m) (p % m) (mt x (p / m) (p % m) + 1)) a b := fun a b ha hb => (mst_pt ho hi' hj eo ha hb).symm
  have c2' : mt x (p / m) (p % m) ≠ mt t.Hi (p / m) (p % m) := c2
  have hf2 : Fl t n m (mt (mst out (p / m) (p % m) (mt x (p / m) (p % m) + 1))) := (shift_up P2 f hi' hj hfr (by omega)).congr hmt
  refine firstFrom_ok (k := p + 1) (x := mst out (p / m) (p % m) (mt x (p / m) (p % m) + 1)) g (mst_sh ho hi') hf2 (by omega) (by rw [wr_in (by omega) (by omega)]; omega) fun z hz fz hag htz => h1 z p hp hz fz ?_ ?_ htz fun q' a b => ht q' (by omega) b
  · refine (hag.le (by omega)).trans ((ag_fl (n := n) (by omega)).2 fun a b ha hb hab => ?_)
    rw [← hmt a b ha hb]; unfold pt
    rw [if_neg (fun e => by obtain ⟨rfl, rfl⟩ := e; rw [ps_eq] at hab; omega)]
    exact mv_no (decide_eq_false (by omega))
  · rw [hag p (by omega)]
    show mt (mst out (p / m) (p % m) _) (p / m) (p % m) = _
    rw [← hmt _ _ hi' hj]
    exact if_pos ⟨rfl, rfl⟩
/-- How many flows a network has. -/
noncomputable def tot (t : Transport) (n m : Nat) : Nat := cn (n * m) (fl m (mt t.Lo)) (fl m (mt t.Hi)) (FF t n m) (n * m) (fun _ => 0)
theorem tot_zero {t : Transport} {n m : Nat} (h : ∀ y, ¬ Fl t n m y) : tot t n m = 0 := cn_zero Ff_fp (Nat.le_refl _) fun y f _ => h _ f
theorem tot_first {t : Transport} {n m : Nat} {x : List (List Int)} (f : Fl t n m (mt x)) (ht : tgt (n * m) (FF t n m) 0 (fl m (mt x))) :
    tot t n m = 1 + rmn (n * m) (fl m (mt t.Lo)) (fl m (mt t.Hi)) (FF t n m) (n * m) (fl m (mt x)) := by
  unfold tot
  rw [cn_congr Ff_fp (n * m) _ (fl m (mt x)) (Nat.le_refl _) (fun p hp => by omega)]
  exact cn_tgt Ff_fp (Ff_fl f) (n * m) (Nat.le_refl _) (by rw [Nat.sub_self]; exact ht)
theorem rmn_top {t : Transport} {n m : Nat} {x : Nat → Nat → Int} (h : ∀ q, q < n * m → top t n m x q) : rmn (n * m) (fl m (mt t.Lo)) (fl m (mt t.Hi)) (FF t n m) (n * m) (fl m x) = 0 :=
  rmn_zero Ff_fp _ (Nat.le_refl _) fun q _ hq y fy hy => h q hq y fy hy
theorem rmn_next {t : Transport} {n m : Nat} {x z : Nat → Nat → Int} {p : Nat} (hp : p < n * m) (f : Fl t n m z) (ha : ag p (fl m z) (fl m x)) (hz : fl m z p = fl m x p + 1) (ht : tgt (n * m) (FF t n m) (p + 1) (fl m z)) (hn : ∀ q, p < q → q < n * m → top t n m x q) :
    rmn (n * m) (fl m (mt t.Lo)) (fl m (mt t.Hi)) (FF t n m) (n * m) (fl m x) = 1 + rmn (n * m) (fl m (mt t.Lo)) (fl m (mt t.Hi)) (FF t n m) (n * m) (fl m z) :=
  rmn_step Ff_fp hp (Ff_fl f) ha hz ht (fun q h1 h2 y fy hy => hn q h1 h2 y fy hy) _ (by omega) (Nat.le_refl _)
theorem countFlows_ok {t : Transport} {n m : Nat} {Q : Int → Bool → Prop} (g : Gd t n m) (h : Q (if n * m ≤ 16 ∧ tot t n m ≤ 2000 then (tot t n m : Int) else 0) (decide (n * m ≤ 16 ∧ tot t n m ≤ 2000))) : impl_countFlows t Q := by
  unfold impl_countFlows
  obtain ⟨e64, h64⟩ := nm_mul g
  rw [e64]
  refine br_dec (fun c => ?_) (fun c => ?_)
  · rw [if_neg (by omega), decide_eq_false (by omega)] at h; exact h
  have big : 2000 < tot t n m → Q 0 false := fun hb => by
    rw [if_neg (by omega), decide_eq_false (by omega)] at h; exact h
  have fine : ∀ k : Nat, k = tot t n m → k ≤ 2000 → Q (k : Int) true := fun k hk hle => by
    rw [if_pos (by omega), decide_eq_true (by omega)] at h; rw [hk]; exact h
  let G := fun x : List (List Int) => rmn (n * m) (fl m (mt t.Lo)) (fl m (mt t.Hi)) (FF t n m) (n * m) (fl m (mt x))
  have loop : ∀ x0 : List (List Int), ((x0 = [] ∧ tot t n m = 0) ∨ (Sh n m x0 ∧ Fl t n m (mt x0) ∧ tot t n m = 1 + G x0)) →
      Loop2 (fun (n1 : Int) (x34 : List (List Int)) nx => br (!(ln x34 == 0)) (br (decide ((wr (n1 + 1)) > 2000)) (Q 0 false) <| impl_nextFlow t x34 fun r53 => nx (wr (n1 + 1)) r53) <| Q n1 true) 0 x0 := fun x0 hx0 => by
    refine ⟨fun n1 x => ∃ k : Nat, n1 = (k : Int) ∧ k ≤ 2000 ∧ ((x = [] ∧ tot t n m = k) ∨ (Sh n m x ∧ Fl t n m (mt x) ∧ tot t n m = k + 1 + G x)), fun n1 _ => 2001 - n1.toNat, ⟨0, rfl, by omega, by omega⟩, ?_⟩
    rintro _ x ⟨k, rfl, hk, hx⟩
    rcases hx with ⟨rfl, hx⟩ | ⟨hx, fx, ex⟩
    · exact br_false rfl (fine k hx.symm hk)
    have hne : (!(ln x == 0)) = true := by
      have : ln x = (n : Int) := by unfold ln; rw [hx.1]
      rw [this]; have := g.n1; simp; omega
    refine br_true hne ?_
    rw [wr_in (by omega) (by omega)]
    refine br_dec (fun c2 => big (by omega)) (fun c2 => nextFlow_ok g hx fx (fun ht => ?_) fun z p hp hz fz ha hz1 htz hn => ?_)
    · have : G x = 0 := rmn_top ht
      exact ⟨⟨k + 1, by omega, by omega, .inl ⟨rfl, by omega⟩⟩, by show 2001 - ((k : Int) + 1).toNat < 2001 - (k : Int).toNat; omega⟩
    · have : G x = 1 + G z := rmn_next hp fz ha hz1 htz hn
      exact ⟨⟨k + 1, by omega, by omega, .inr ⟨hz, fz, by omega⟩⟩, by show 2001 - ((k : Int) + 1).toNat < 2001 - (k : Int).toNat; omega⟩
  exact firstFlow_ok g (fun hno => loop [] (.inl ⟨rfl, tot_zero hno⟩)) fun x hx fx htx => loop x (.inr ⟨hx, fx, tot_first fx htx⟩)
end Go.Proofs.Ytommbnkecafodaa
