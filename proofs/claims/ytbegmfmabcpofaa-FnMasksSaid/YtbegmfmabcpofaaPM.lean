/- Plain facts about lists of lists: sizes, copies, equality, marks; lists added by residues; masks of sites. -/
import Derived.Test.YtbegmfmabcpofaaPmPure
set_option linter.unusedVariables false
set_option autoImplicit false
namespace Go.Proofs.Ytbegmfmabcpofaa
open Go Go.RowKit Go.Gv

/-! ### lists of lists -/
def small (a : List (List Int)) : Prop := a.length ≤ 1048576 ∧ ∀ r ∈ a, r.length ≤ 1048576
theorem szIntS_ok {a : List Int} {left : Int} {Q : Int → Prop} (hw : a.length ≤ maxLen) (hl : 0 ≤ left ∧ left ≤ 1048576) (h : ∀ r, r ≤ left → (0 ≤ r → a.length ≤ 1048576) → Q r) : laws_szIntS a left Q := by
  unfold laws_szIntS
  have hm : a.length ≤ 9223372036854775807 := hw
  rw [wr_in (by unfold ln; omega) (by unfold ln; omega)]
  refine br_dec (fun g => h _ (by omega) (fun c => by omega)) (fun g => h _ (by unfold ln; omega) (fun _ => by unfold ln at g; omega))
theorem szIntSS_ok {a : List (List Int)} {left : Int} {Q : Int → Prop} (hw : Wf.wf a) (hl : 0 ≤ left ∧ left ≤ 1048576) (h : ∀ r, r ≤ left → (0 ≤ r → small a) → Q r) : laws_szIntSS a left Q := by
  unfold laws_szIntSS
  obtain ⟨hm, hx⟩ := hw
  have hm' : a.length ≤ 9223372036854775807 := hm
  rw [wr_in (by unfold ln; omega) (by unfold ln; omega)]
  refine br_dec (fun g => h _ (by omega) (fun c => by omega)) (fun g => ?_)
  have hal : a.length ≤ 1048576 := by unfold ln at g; omega
  refine loop2_list (by omega) (fun l i => 0 ≤ l ∧ l ≤ left ∧ ∀ j, (hj : j < a.length) → j < i → a[j].length ≤ 1048576) ⟨by omega, by unfold ln; omega, fun j hj c => by omega⟩ (fun l i nx hi ⟨h1, h2, h3⟩ hn => idx_at hi ?_) (fun l ⟨h1, h2, h3⟩ => ?_)
  · refine szIntS_ok (hx _ (List.getElem_mem hi)).1 (by omega) fun r hr hr2 => br_dec (fun g2 => h _ (by omega) (fun c => by omega)) (fun g2 => hn _ ⟨by omega, by omega, fun j hj hji => ?_⟩)
    by_cases e : j = i
    · subst e; exact hr2 (by omega)
    · exact h3 j hj (by omega)
  · refine h _ h2 fun _ => ⟨hal, fun r hr => ?_⟩
    obtain ⟨j, hj, rfl⟩ := List.mem_iff_getElem.1 hr
    exact h3 j hj hj
theorem toIntSS_ok {a : List (List Int)} {Q : List (List Int) → Prop} (hs : small a) (h : Q a) : laws_toIntSS a Q := by
  obtain ⟨hl, hr⟩ := hs
  unfold laws_toIntSS
  refine ⟨by unfold ln; omega, by unfold ln; omega, ?_⟩
  refine loop2_list (by omega) (fun out i => out.length = a.length ∧ out.take i = a.take i) ⟨by simp, by simp⟩ (fun out i nx hi ⟨h1, h2⟩ hx => idx_at hi (toIntS_ok (hr _ (List.getElem_mem hi)) ⟨by omega, by omega, ?_⟩)) (fun out ⟨h1, h2⟩ => ?_)
  · refine hx _ ⟨by simpa using h1, ?_⟩
    exact set_done h1 (by omega) h2
  · rw [eq_of_take h2 h1 rfl]; exact h
theorem eqIntS_same {a : List Int} {Q : Bool → Prop} (hl : a.length ≤ 1048576) (h : Q true) : laws_eqIntS a a Q := eqIntS_ok (by omega) (by simpa using h)
theorem eqIntSS_same {a : List (List Int)} {Q : Bool → Prop} (hs : small a) (h : Q true) : laws_eqIntSS a a Q := by
  obtain ⟨hl, hr⟩ := hs
  unfold laws_eqIntSS
  refine br_false (by simp) ?_
  exact loop1_list (by omega) (fun _ => True) trivial (fun i nx hi _ hn => idx_at hi (idx_at hi (det1_of true (eqIntS_same (hr _ (List.getElem_mem hi)) rfl) (br_false rfl (hn trivial))))) (fun _ => h)
theorem markIntSS_ok {a : List (List Int)} {k : Int} {Q : Int → List (List Int) → Prop} (hs : small a) (hk : 0 ≤ k ∧ k ≤ 1125899906842624) (h : ∀ k' a', 0 ≤ k' → k' ≤ k + 1099511627776 → Q k' a') : laws_markIntSS a k Q := by
  obtain ⟨hl, hr⟩ := hs
  unfold laws_markIntSS
  refine loop3_list (by omega) (fun a2 k2 i => 0 ≤ k2 ∧ k2 ≤ k + 1048576 * (i : Int) ∧ a2.length = a.length ∧ ∀ r ∈ a2, r.length ≤ 1048576) ⟨by omega, by omega, rfl, hr⟩ (fun a2 k2 i nx hi ⟨h1, h2, h3, h4⟩ hn => idx_at (by omega) ?_) (fun a2 k2 ⟨h1, h2, h3, h4⟩ => h _ _ h1 (by omega))
  have hm := h4 _ (List.getElem_mem (show i < a2.length by omega))
  refine markIntS_ok (by omega) (by omega) (by omega) (hn _ _ ⟨by omega, by omega, by simpa using h3, fun r hr' => ?_⟩)
  rcases List.mem_or_eq_of_mem_set hr' with q | q
  · exact h4 r q
  · rw [q, marks_length]; exact hm

/-! ### residues added -/
def resL (m : Int) (l : List Int) : Prop := ∀ x ∈ l, 0 ≤ x ∧ x ≤ m - 1
def cmb (s m : Int) (a b : List Int) : List Int := List.zipWith (fun x y => (x + s * y) % m) a b
theorem cmb_length {s m : Int} {a b : List Int} (h : a.length = b.length) : (cmb s m a b).length = a.length := by simp [cmb]; omega
theorem cmb_get {s m : Int} {a b : List Int} {i : Nat} (hi : i < (cmb s m a b).length) (ha : i < a.length) (hb : i < b.length) : (cmb s m a b)[i] = (a[i] + s * b[i]) % m := by simp [cmb]
theorem cmb_res {s m : Int} {a b : List Int} (hm : 2 ≤ m) : resL m (cmb s m a b) := fun x hx => by
  obtain ⟨i, hi, rfl⟩ := List.mem_iff_getElem.1 hx
  have : i < a.length ∧ i < b.length := by simp [cmb] at hi; omega
  rw [cmb_get hi this.1 this.2]
  have h1 := Int.emod_nonneg (a[i] + s * b[i]) (show m ≠ 0 by omega)
  have h2 := Int.emod_lt_of_pos (a[i] + s * b[i]) (show 0 < m by omega)
  omega
theorem sgn_mul {s y m : Int} (hs : s = 1 ∨ s = -1) (hy : 0 ≤ y ∧ y ≤ m - 1) : -(m - 1) ≤ s * y ∧ s * y ≤ m - 1 := by
  rcases hs with rfl | rfl <;> omega
theorem zeAdd_ok {a b : List Int} {s m : Int} {Q : List Int → Prop} (hm : 2 ≤ m ∧ m ≤ 1000000007) (hs : s = 1 ∨ s = -1) (hl : a.length ≤ 1048576) (he : a.length = b.length) (ha : resL m a) (hb : resL m b)
    (h : Q (cmb s m a b)) : spec_zeAdd a b s m Q := by
  unfold spec_zeAdd
  have hc := cmb_length (s := s) (m := m) he
  refine ⟨by unfold ln; omega, by unfold ln; omega, ?_⟩
  refine loop2_list (by omega) (fun out i => out.length = (cmb s m a b).length ∧ out.take i = (cmb s m a b).take i) ⟨by simp [hc], by simp⟩ (fun out i nx hi ⟨h1, h2⟩ hn => idx_at hi (idx_at (by omega) ?_)) (fun out ⟨h1, h2⟩ => ?_)
  · have hj : i < b.length := by omega
    have e1 := ha _ (List.getElem_mem hi)
    have e2 := hb _ (List.getElem_mem hj)
    have e3 := sgn_mul hs e2
    rw [wr_in (x := s * b[i]) (by omega) (by omega), wr_in (x := a[i] + s * b[i]) (by omega) (by omega)]
    refine det1_of _ (hMod_ok (by omega) (by omega) rfl) ⟨by omega, by omega, hn _ ⟨by simpa using h1, ?_⟩⟩
    have := set_done h1 (by omega) h2
    rw [cmb_get (by omega) hi hj] at this
    simpa using this
  · rw [eq_of_take h2 (by omega) hc]; exact h
theorem set_mid {α : Type} {ys a : List α} {i : Nat} (hy : i < ys.length) (ha : i < a.length) : (ys.take i ++ a.drop i).set i ys[i] = ys.take (i + 1) ++ a.drop (i + 1) := by
  have hl : (ys.take i).length = i := by rw [List.length_take]; omega
  rw [List.take_succ_eq_append_getElem hy]
  generalize ys[i] = v
  rw [List.set_append_right _ _ (by omega), hl, Nat.sub_self, List.drop_eq_getElem_cons ha, List.set_cons_zero]
  simp
theorem combine_ok {a b : List Int} {s m : Int} {Q : List Int → Prop} (hm : 2 ≤ m ∧ m ≤ 1000000007) (hs : s = 1 ∨ s = -1) (hl : a.length ≤ 1048576) (he : a.length = b.length) (ha : resL m a) (hb : resL m b)
    (h : Q (cmb s m a b)) : impl_combine a b s m Q := by
  unfold impl_combine
  have hc := cmb_length (s := s) (m := m) he
  refine loop2_list (by omega) (fun out i => out = (cmb s m a b).take i ++ a.drop i) (by simp) (fun out i nx hj h1 hn => ?_) (fun out h1 => ?_)
  · have hi : i < a.length := by omega
    have hlen : ((cmb s m a b).take i).length = i := by rw [List.length_take]; omega
    have hol : i < out.length := by rw [h1, List.length_append, hlen, List.length_drop]; omega
    have hget : out[i] = a[i] := by
      simp only [h1]
      rw [List.getElem_append_right (by omega)]
      simp [hlen]
    have e1 := ha _ (List.getElem_mem hi)
    have e2 := hb _ (List.getElem_mem hj)
    have e3 := sgn_mul hs e2
    refine idx_at hj (idx_at hol ⟨by omega, by omega, by simpa using hol, ?_⟩)
    rw [hget, wr_in (x := s * b[i]) (by omega) (by omega), wr_in (x := a[i] + s * b[i]) (by omega) (by omega), wr_in (x := a[i] + s * b[i] + m) (by omega) (by omega)]
    rw [Int.tmod_eq_emod_of_nonneg (by omega), Int.add_emod_right, ← cmb_get (by omega) hi hj]
    refine hn _ ?_
    subst h1
    rw [Int.toNat_natCast]
    exact set_mid (by omega) hi
  · rw [← he, List.drop_length, List.append_nil, ← hc, List.take_length] at h1
    rw [h1]; exact h

/-! ### masks -/
theorem dgOf_nonneg {l : List Int} (hl : l.length ≤ 1000) : 0 ≤ dgOf l := by
  have h := dg_bounds (show l.length ≤ 1000000 by omega) (l.length + 4)
  have e : (dg l (l.length + 4)).1 * 2 ^ 31 = (dg l (l.length + 4)).1 * 2147483648 := rfl
  unfold dgOf
  rw [e, wr_in (x := _ * _) (by omega) (by omega), wr_in (by omega) (by omega)]
  omega
theorem pmOf_length (seed i k round n m : Int) : (pmOf seed i k round n m).length = n.toNat := by simp [pmOf]
theorem pmOf_res {seed i k round n m : Int} (hm : 2 ≤ m) : resL m (pmOf seed i k round n m) := fun x hx => by
  obtain ⟨j, hj, rfl⟩ := List.mem_map.1 hx
  unfold pm1
  have h0 := dgOf_nonneg (l := [5, seed, i, k, round, (j : Int)]) (by simp)
  rw [Int.tmod_eq_emod_of_nonneg h0]
  have h1 := Int.emod_nonneg (dgOf [5, seed, i, k, round, (j : Int)]) (show m ≠ 0 by omega)
  have h2 := Int.emod_lt_of_pos (dgOf [5, seed, i, k, round, (j : Int)]) (show 0 < m by omega)
  omega
def sg (s : List (List Int)) (i k : Nat) : Int := (s.getD i []).getD k 0
def mkGo (s : List (List Int)) (i round n m : Int) : Nat → List Int
  | 0 => List.replicate n.toNat 0
  | k + 1 => if (k : Int) > i then cmb 1 m (mkGo s i round n m k) (pmOf (sg s i.toNat k) i k round n m)
    else if (k : Int) < i then cmb (-1) m (mkGo s i round n m k) (pmOf (sg s i.toNat k) k i round n m)
    else mkGo s i round n m k
def mkOf (s : List (List Int)) (i round n m : Int) : List Int := mkGo s i round n m s.length
theorem mkGo_length {s : List (List Int)} {i round n m : Int} : ∀ k, (mkGo s i round n m k).length = n.toNat
  | 0 => by simp [mkGo]
  | k + 1 => by
    have ih := mkGo_length (s := s) (i := i) (round := round) (n := n) (m := m) k
    unfold mkGo
    split
    · rw [cmb_length (by rw [ih, pmOf_length]), ih]
    · split
      · rw [cmb_length (by rw [ih, pmOf_length]), ih]
      · exact ih
theorem mkGo_res {s : List (List Int)} {i round n m : Int} (hm : 2 ≤ m) : ∀ k, resL m (mkGo s i round n m k)
  | 0 => fun x hx => by have := List.eq_of_mem_replicate hx; omega
  | k + 1 => by
    unfold mkGo
    split
    · exact cmb_res hm
    · split
      · exact cmb_res hm
      · exact mkGo_res hm k
theorem mkOf_length {s : List (List Int)} {i round n m : Int} : (mkOf s i round n m).length = n.toNat := mkGo_length _
theorem mkOf_res {s : List (List Int)} {i round n m : Int} (hm : 2 ≤ m) : resL m (mkOf s i round n m) := mkGo_res hm _
theorem sg_at {s : List (List Int)} {i k : Nat} (hi : i < s.length) (hk : k < s[i].length) : sg s i k = s[i][k] := by
  unfold sg; simp [List.getD_eq_getElem?_getD, hi, hk]
section
variable {s : List (List Int)} {i round n m : Int} {Q : List Int → Prop} (hs : s.length ≤ 8 ∧ ∀ r ∈ s, r.length = s.length) (hi : 0 ≤ i ∧ i < s.length) (hn : 0 ≤ n ∧ n ≤ 600) (hm : 2 ≤ m ∧ m ≤ 1000000007)
include hs hi hn hm
theorem zeMaskOf_ok (h : Q (mkOf s i round n m)) : spec_zeMaskOf s i round n m Q := by
  unfold spec_zeMaskOf
  refine ⟨hn.1, by omega, ?_⟩
  refine loop2_list (by omega) (fun out k => out = mkGo s i round n m k) rfl (fun out k nx hk ho hx => ?_) (fun out ho => by rw [ho]; exact h)
  have hit : i.toNat < s.length := by omega
  have hr := hs.2 _ (List.getElem_mem hit)
  have hl := mkGo_length (s := s) (i := i) (round := round) (n := n) (m := m) k
  have hres := mkGo_res (s := s) (i := i) (round := round) (n := n) hm.1 k
  refine jn_bool (mkGo s i round n m (k + 1)) (hx _ rfl) fun c hc => br_dec (fun g => idx_of hi.1 hit (idx_at (by omega) ?_)) (fun g => br_dec (fun g2 => idx_of hi.1 hit (idx_at (by omega) ?_)) (fun g2 => ?_))
  · rw [← sg_at hit (by omega)]
    refine zeMask_ok (by omega) (by omega) (zeAdd_ok hm (.inl rfl) (by rw [ho]; omega) (by rw [ho, hl, pmOf_length]) (by rw [ho]; exact hres) (pmOf_res hm.1) ?_)
    rw [mkGo, if_pos g] at hc; rw [ho]; exact hc
  · rw [← sg_at hit (by omega)]
    refine zeMask_ok (by omega) (by omega) (zeAdd_ok hm (.inr rfl) (by rw [ho]; omega) (by rw [ho, hl, pmOf_length]) (by rw [ho]; exact hres) (pmOf_res hm.1) ?_)
    rw [mkGo, if_neg g, if_pos g2] at hc; rw [ho]; exact hc
  · rw [mkGo, if_neg g, if_neg g2] at hc; rw [ho]; exact hc
theorem maskOf_ok (h : Q (mkOf s i round n m)) : impl_maskOf s i round n m Q := by
  unfold impl_maskOf
  refine ⟨hn.1, by omega, ?_⟩
  refine loop2_list (by omega) (fun out k => out = mkGo s i round n m k) rfl (fun out k nx hk ho hx => ?_) (fun out ho => by rw [ho]; exact h)
  have hit : i.toNat < s.length := by omega
  have hr := hs.2 _ (List.getElem_mem hit)
  have hl := mkGo_length (s := s) (i := i) (round := round) (n := n) (m := m) k
  have hres := mkGo_res (s := s) (i := i) (round := round) (n := n) hm.1 k
  refine jn_bool (mkGo s i round n m (k + 1)) (hx _ rfl) fun c hc => br_dec (fun g => idx_of hi.1 hit (idx_at (by omega) ?_)) (fun g => br_dec (fun g2 => idx_of hi.1 hit (idx_at (by omega) ?_)) (fun g2 => ?_))
  · rw [← sg_at hit (by omega)]
    refine pairMask_ok (by omega) (by omega) (by omega) (combine_ok hm (.inl rfl) (by rw [ho]; omega) (by rw [ho, hl, pmOf_length]) (by rw [ho]; exact hres) (pmOf_res hm.1) ?_)
    rw [mkGo, if_pos g] at hc; rw [ho]; exact hc
  · rw [← sg_at hit (by omega)]
    refine pairMask_ok (by omega) (by omega) (by omega) (combine_ok hm (.inr rfl) (by rw [ho]; omega) (by rw [ho, hl, pmOf_length]) (by rw [ho]; exact hres) (pmOf_res hm.1) ?_)
    rw [mkGo, if_neg g, if_pos g2] at hc; rw [ho]; exact hc
  · rw [mkGo, if_neg g, if_neg g2] at hc; rw [ho]; exact hc
end

/-! ### valid seeds -/
theorem range_succ_all {p : Nat → Bool} {i : Nat} (h : (List.range i).all p = true) (hp : p i = true) : (List.range (i + 1)).all p = true := by
  rw [List.range_succ, List.all_append, h]; simp [hp]
theorem range_all_no {p : Nat → Bool} {i n : Nat} (hi : i < n) (hp : p i = false) : (List.range n).all p = false := by
  rw [List.all_eq_false]; exact ⟨i, List.mem_range.2 hi, by simp [hp]⟩
theorem range_all_of {p : Nat → Bool} {n : Nat} (h : (List.range n).all p = true) {i : Nat} (hi : i < n) : p i = true := List.all_eq_true.1 h i (List.mem_range.2 hi)
def rowIn (s : List (List Int)) (i : Nat) : Bool := (decide ((s.getD i []).length = s.length) && (s.getD i []).all (inb 0 4611686016279904236)) && (List.range i).all fun k => sg s i k == sg s k i
def seedsIn (s : List (List Int)) : Bool := decide (2 ≤ s.length ∧ s.length ≤ 8) && (List.range s.length).all (rowIn s)
theorem getD_row {s : List (List Int)} {i : Nat} (h : i < s.length) : s.getD i [] = s[i] := by simp [List.getD_eq_getElem?_getD, h]
theorem rowIn_len {s : List (List Int)} {i : Nat} (hi : i < s.length) (h : rowIn s i = true) : s[i].length = s.length := by
  unfold rowIn at h
  simp only [Bool.and_eq_true, decide_eq_true_eq] at h
  rw [← getD_row hi]; exact h.1.1
theorem seedsIn_of {s : List (List Int)} (h : seedsIn s = true) : (2 ≤ s.length ∧ s.length ≤ 8) ∧ ∀ r ∈ s, r.length = s.length := by
  unfold seedsIn at h
  simp only [Bool.and_eq_true, decide_eq_true_eq] at h
  refine ⟨h.1, fun r hr => ?_⟩
  obtain ⟨i, hi, rfl⟩ := List.mem_iff_getElem.1 hr
  exact rowIn_len hi (range_all_of h.2 hi)
theorem sym_loop {s : List (List Int)} {i : Nat} {no yes : Prop} (hn : s.length ≤ 1048576) (hi : i < s.length) (hp : ∀ j, (hj : j < s.length) → j ≤ i → s[j].length = s.length)
    (hyes : ((List.range i).all fun k => sg s i k == sg s k i) = true → yes) (hno : ((List.range i).all fun k => sg s i k == sg s k i) = false → no) :
    Loop1 (fun (x : Int) nx => br (decide (x < (i : Int))) (idx s[i] x fun a => idx s x fun b => idx b (i : Int) fun c => br (a != c) no (nx (wr (x + 1)))) yes) 0 := by
  refine loop1_to (by omega) (fun k => ((List.range k).all fun k => sg s i k == sg s k i) = true) rfl (fun k nx hk hj hx => ?_) (fun k hk hj => ?_)
  · have hki : k < i := by omega
    have l1 := hp i hi (Nat.le_refl _)
    have l2 := hp k (by omega) (by omega)
    refine idx_at (by omega) (idx_at (by omega) (idx_at (by omega) (br_ne (fun g => hno (range_all_no hki ?_)) (fun g => hx (range_succ_all hj ?_)))))
    · rw [sg_at hi (by omega), sg_at (by omega) (by omega)]; simpa using g
    · rw [sg_at hi (by omega), sg_at (by omega) (by omega)]; simpa using g
  · have : k = i := by omega
    subst this; exact hyes hj
theorem zeSeeds_ok {s : List (List Int)} {Q : Bool → Prop} (hsm : small s) (h : Q (seedsIn s)) : spec_zeSeeds s Q := by
  unfold spec_zeSeeds
  refine l1In_ok (br_nb (fun g => ?_) (fun g => ?_))
  · have : ¬ (2 ≤ s.length ∧ s.length ≤ 8) := by have := inb_f g; unfold ln at this; omega
    unfold seedsIn at h; rw [decide_eq_false this] at h; exact h
  · have gl : 2 ≤ s.length ∧ s.length ≤ 8 := by have := inb_iff.1 g; unfold ln at this; omega
    unfold seedsIn at h; rw [decide_eq_true gl, Bool.true_and] at h
    refine loop1_list (by omega) (fun i => (List.range i).all (rowIn s) = true) rfl (fun i nx hi hj hx => idx_at hi ?_) (fun hj => by rw [hj] at h; exact h)
    have hb := hsm.2 _ (List.getElem_mem hi)
    refine jn_bool (!(decide (s[i].length = s.length) && s[i].all (inb 0 4611686016279904236))) ?_ fun k hk => br_ne (fun g2 => ?_) (fun g2 => hDigest_ok hb ?_)
    · refine br_nb (fun g2 => ?_) (fun g2 => ?_)
      · rw [range_all_no hi (by unfold rowIn; rw [getD_row hi, g2]; rfl)] at h; exact h
      · have g3 := g2
        simp only [Bool.and_eq_true, decide_eq_true_eq] at g3
        refine sym_loop (by omega) hi (fun j hj' hji => ?_) (fun gy => hx (range_succ_all hj ?_)) (fun gn => ?_)
        · by_cases e : j = i
          · subst e; exact g3.1
          · exact rowIn_len hj' (range_all_of hj (show j < i by omega))
        · unfold rowIn; rw [getD_row hi, g2, gy]; rfl
        · rw [range_all_no hi (by unfold rowIn; rw [getD_row hi, g2, gn]; rfl)] at h; exact h
    · rw [decide_eq_false (by unfold ln at g2; omega)] at hk; exact hk
    · rw [decide_eq_true (by unfold ln at g2; omega), Bool.true_and] at hk; exact hk
theorem areSeeds_ok {l : List Int} {Q : Bool → Prop} (hl : l.length ≤ 392) (h : Q (l.all (inb 0 4611686016279904236))) : impl_areSeeds l Q := by
  unfold impl_areSeeds
  refine br_no (by unfold ln; omega) ?_
  refine loop1_list (by omega) (fun i => (l.take i).all (inb 0 4611686016279904236) = true) (by simp) (fun i nx hi' hj hx => idx_at hi' (isSeed_ok (br_nb (fun hb => ?_) (fun hb => hx (all_take_succ hi' hj hb))))) (fun hj => ?_)
  · rw [all_false hi' hb] at h; exact h
  · rw [List.take_length] at hj; rw [hj] at h; exact h
theorem areSeedRows_ok {s : List (List Int)} {Q : Bool → Prop} (h : Q (seedsIn s)) : impl_areSeedRows s Q := by
  unfold impl_areSeedRows
  refine jn_bool (!decide (2 ≤ s.length ∧ s.length ≤ 8)) ?_ fun k hk => br_dec (fun g => ?_) (fun g => ?_)
  · refine br_nb (fun g => ?_) (fun g => ?_)
    · unfold seedsIn at h; rw [g] at h; exact h
    · have gl := of_decide_eq_true g
      unfold seedsIn at h; rw [g, Bool.true_and] at h
      refine loop1_list (by omega) (fun i => (List.range i).all (rowIn s) = true) rfl (fun i nx hi hj hx => idx_at hi ?_) (fun hj => by rw [hj] at h; exact h)
      refine jn_bool (!(decide (s[i].length = s.length) && s[i].all (inb 0 4611686016279904236))) ?_ fun k hk => br_ne (fun g2 => ?_) (fun g2 => areSeeds_ok (by unfold ln at g2; omega) ?_)
      · refine br_nb (fun g2 => ?_) (fun g2 => ?_)
        · rw [range_all_no hi (by unfold rowIn; rw [getD_row hi, g2]; rfl)] at h; exact h
        · have g3 := g2
          simp only [Bool.and_eq_true, decide_eq_true_eq] at g3
          refine sym_loop (by omega) hi (fun j hj' hji => ?_) (fun gy => hx (range_succ_all hj ?_)) (fun gn => ?_)
          · by_cases e : j = i
            · subst e; exact g3.1
            · exact rowIn_len hj' (range_all_of hj (show j < i by omega))
          · unfold rowIn; rw [getD_row hi, g2, gy]; rfl
          · rw [range_all_no hi (by unfold rowIn; rw [getD_row hi, g2, gn]; rfl)] at h; exact h
      · rw [decide_eq_false (by unfold ln at g2; omega)] at hk; exact hk
      · rw [decide_eq_true (by unfold ln at g2; omega), Bool.true_and] at hk; exact hk
  · rw [decide_eq_false (by unfold ln at g; omega)] at hk; exact hk
  · rw [show (!decide (2 ≤ s.length ∧ s.length ≤ 8)) = decide (ln s > 8) from by
      rw [← decide_not]; congr 1; unfold ln at *; rw [eq_iff_iff]; omega] at hk
    exact hk
end Go.Proofs.Ytbegmfmabcpofaa
