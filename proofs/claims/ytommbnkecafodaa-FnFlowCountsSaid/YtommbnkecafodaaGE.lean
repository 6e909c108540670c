/- Networks that are drawn: what their lists' lengths are. -/
import Derived.Test.YtommbnkecafodaaGD
set_option linter.unusedVariables false
set_option autoImplicit false
namespace Go.Proofs.Ytommbnkecafodaa
open Go Go.RowKit Go.Gv

/-! ### drawn numbers -/
def bytesOk (code : List B8) : Prop := ∀ x ∈ code, 0 ≤ x.v ∧ x.v ≤ 255
def atOk (a : Int) : Prop := 0 ≤ a ∧ a ≤ 1000000000000
theorem u64_in {x : Int} (h0 : 0 ≤ x) (h1 : x ≤ 18446744073709551615) : IntKind.u64.wrap x = x := IntWalk.u64_in x ⟨h0, h1⟩
theorem bits_255 (x : Int) : 0 ≤ bits .and .u64 x 255 ∧ bits .and .u64 x 255 ≤ 255 := by
  have h : ((BitVec.ofInt 64 x) &&& (BitVec.ofInt 64 255)).toNat ≤ 255 := by
    rw [BitVec.toNat_and]; exact Nat.le_trans Nat.and_le_right (by decide)
  have e : bits .and .u64 x 255 = IntKind.u64.wrap ((((BitVec.ofInt 64 x) &&& (BitVec.ofInt 64 255)).toNat : Nat) : Int) := rfl
  rw [e, u64_in (by omega) (by omega)]; omega
theorem next_ok {code : List B8} {a s : Int} {Q : Int → Int → Int → Prop} (hc : bytesOk code) (ha : 0 ≤ a ∧ a ≤ 2000000000000) (h : ∀ r a' s', 0 ≤ r → r ≤ 255 → 0 ≤ a' → a' ≤ a + 1 → Q r a' s') : spec_l1Cur_next ⟨code, a, s⟩ Q := by
  unfold spec_l1Cur_next
  dsimp only
  have key : ∀ b : Int, 0 ≤ b → b ≤ 255 → br (decide ((wr (a + 1)) ≤ (ln code))) (Q b (wr (a + 1)) (IntKind.u64.wrap ((IntKind.u64.wrap ((IntKind.u64.wrap (s * 6364136223846793005)) + (IntKind.u64.wrap b))) + 1442695040888963407)))
      (Q (wr (bits .and .u64 (Int.fdiv (IntKind.u64.wrap ((IntKind.u64.wrap ((IntKind.u64.wrap (s * 6364136223846793005)) + (IntKind.u64.wrap b))) + 1442695040888963407)) (2 ^ 40)) 255)) (wr (a + 1)) (IntKind.u64.wrap ((IntKind.u64.wrap ((IntKind.u64.wrap (s * 6364136223846793005)) + (IntKind.u64.wrap b))) + 1442695040888963407))) := by
    intro b hb0 hb1
    rw [wr_in (x := a + 1) (by omega) (by omega)]
    refine br_dec (fun _ => h _ _ _ hb0 hb1 (by omega) (by omega)) (fun _ => ?_)
    have hb := bits_255 (Int.fdiv (IntKind.u64.wrap ((IntKind.u64.wrap ((IntKind.u64.wrap (s * 6364136223846793005)) + (IntKind.u64.wrap b))) + 1442695040888963407)) (2 ^ 40))
    rw [wr_in (by omega) (by omega)]
    exact h _ _ _ hb.1 hb.2 (by omega) (by omega)
  by_cases g : a < ln code
  · have hi : a.toNat < code.length := by unfold ln at g; omega
    have hv := hc _ (List.getElem_mem hi)
    refine jn_of (br_yes g (idx_of ha.1 hi ?_))
    rw [wr_in (x := code[a.toNat].v) (by omega) (by omega)]
    exact key _ hv.1 hv.2
  · exact jn_of (br_no g (key 0 (by omega) (by omega)))
theorem pick_ok {code : List B8} {a s n : Int} {Q : Int → Int → Int → Prop} (hc : bytesOk code) (ha : atOk a) (h : ∀ r a' s', 0 ≤ r → (r < n ∨ r = 0 ∧ n ≤ 1) → r ≤ 65535 → 0 ≤ a' → a' ≤ a + 2 → Q r a' s') : spec_l1Cur_pick ⟨code, a, s⟩ n Q := by
  unfold spec_l1Cur_pick
  dsimp only
  have ha' := ha
  unfold atOk at ha'
  refine br_dec (fun g => h _ _ _ (by omega) (by omega) (by omega) (by omega) (by omega)) (fun g => next_ok hc (by omega) fun r a1 s1 h0 h1 h2 h3 => ?_)
  have fin : ∀ x a' s' : Int, 0 ≤ x → x ≤ 65535 → 0 ≤ a' → a' ≤ a + 2 → n ≠ 0 ∧ Q (x.tmod n) a' s' := fun x a' s' x0 x1 y0 y1 => by
    have l := Int.tmod_lt_of_pos x (show 0 < n by omega)
    have p := Int.tmod_nonneg n x0
    have q : x.tmod n ≤ x := by
      rw [Int.tmod_eq_emod_of_nonneg x0]
      have e := Int.emod_def x n
      have m := Int.mul_nonneg (show 0 ≤ n by omega) (Int.ediv_nonneg x0 (show 0 ≤ n by omega))
      omega
    exact ⟨by omega, h _ _ _ p (.inl l) (by omega) y0 y1⟩
  by_cases g2 : n > 200
  · refine jn_of (br_yes g2 (next_ok hc (by omega) fun r2 a2 s2 k0 k1 k2 k3 => ?_))
    show n ≠ 0 ∧ _
    rw [wr_in (x := r * 256) (by omega) (by omega), wr_in (by omega) (by omega)]
    exact fin _ _ _ (by omega) (by omega) k2 (by omega)
  · exact jn_of (br_no g2 (fin _ _ _ h0 (by omega) h2 (by omega)))
theorem among_ok {code : List B8} {a s : Int} {l : List Int} {Q : Int → Int → Int → Prop} (hc : bytesOk code) (ha : atOk a) (hl : 0 < l.length) (h : ∀ r ∈ l, ∀ a' s', 0 ≤ a' → a' ≤ a + 2 → Q r a' s') : spec_l1Cur_among ⟨code, a, s⟩ l Q := by
  unfold spec_l1Cur_among
  dsimp only
  refine pick_ok hc ha fun r a1 s1 h0 h1 _ h2 h3 => ?_
  have hi : r.toNat < l.length := by unfold ln at h1; omega
  exact idx_of h0 hi (h _ (List.getElem_mem hi) _ _ h2 h3)
theorem most_any {a b : Int} {Q : Int → Prop} (h : ∀ v, Q v) : spec_l1Most a b Q := br_dec (fun _ => h _) (fun _ => h _)
theorem small_pick {k r : Int} {n : Nat} (h0 : 0 ≤ r) (h1 : r < n ∨ r = 0 ∧ (n : Int) ≤ 1) (hn : 1 ≤ n ∧ n ≤ 100) (hk : 0 ≤ k ∧ k ≤ 100) : ∃ m : Nat, wr (k + r) = (m : Int) ∧ (k : Int) ≤ m ∧ (m : Int) < k + n :=
  ⟨(k + r).toNat, by rw [wr_in (by omega) (by omega)]; omega, by omega, by omega⟩
/-! ### networks -/
/-- Lists of lists whose rows have n elements. -/
def Rw (k n : Nat) (x : List (List Int)) : Prop := x.length = k ∧ ∀ r ∈ x, r.length = n
theorem Rw.snoc {k n : Nat} {x : List (List Int)} {r : List Int} (h : Rw k n x) (hr : r.length = n) : Rw (k + 1) n (x ++ [r]) :=
  ⟨by simp [h.1], fun q hq => by rcases List.mem_append.1 hq with hq | hq; (exact h.2 q hq); (simp at hq; rw [hq]; exact hr)⟩
theorem Rw.set {k n i : Nat} {x : List (List Int)} {r : List Int} (h : Rw k n x) (hr : r.length = n) : Rw k n (x.set i r) :=
  ⟨by simp [h.1], fun q hq => by rcases List.mem_or_eq_of_mem_set hq with hq | hq; (exact h.2 q hq); (rw [hq]; exact hr)⟩
structure Td (t : Transport) (m n : Nat) : Prop where
  r : t.Rows.length = m
  c : t.Cols.length = n
  l : Rw m n t.Lo
  h : Rw m n t.Hi
theorem transport_ok {code : List B8} {a s : Int} {Q : Transport → Int → Int → Prop} (hc : bytesOk code) (ha : 0 ≤ a ∧ a ≤ 900000000000) (h : ∀ t m n a' s', 1 ≤ m → m ≤ 3 → 1 ≤ n → n ≤ 3 → Td t m n → 0 ≤ a' → a' ≤ a + 80 → Q t a' s') : spec_l1Cur_transport ⟨code, a, s⟩ Q := by
  unfold spec_l1Cur_transport
  dsimp only
  have lo1 : ∀ {α : Type} (v : α), ln [v] = 1 := fun v => rfl
  refine pick_ok hc ⟨by omega, by omega⟩ fun r1 a1 s1 p1 p2 _ p3 p4 => pick_ok hc ⟨by omega, by omega⟩ fun r2 a2 s2 q1 q2 _ q3 q4 => ?_
  obtain ⟨m, em, m1, m3⟩ := small_pick (k := 1) (n := 3) p1 p2 (by omega) (by omega)
  obtain ⟨n, en, n1, n3⟩ := small_pick (k := 1) (n := 3) q1 q2 (by omega) (by omega)
  rw [em, en]
  refine ⟨by omega, by omega, by omega, by omega, ?_⟩
  rw [Int.toNat_natCast, Int.toNat_natCast]
  refine ⟨fun i at' seed rows cols lo hi => ∃ k : Nat, i = (k : Int) ∧ k ≤ m ∧ (0 ≤ at' ∧ at' ≤ a + 4 + 20 * (k : Int)) ∧ rows.length = m ∧ cols.length = n ∧ Rw k n lo ∧ Rw k n hi, fun i _ _ _ _ _ _ => (m - i).toNat, ⟨0, rfl, by omega, by omega, by simp, by simp, ⟨rfl, fun r hr => by cases hr⟩, rfl, fun r hr => by cases hr⟩, ?_⟩
  rintro _ at' seed rows cols lo hi ⟨k, rfl, hk, hat, hr, hcl, hlo, hhi⟩
  refine br_dec (fun c => ?_) (fun c => ?_)
  · refine ⟨fun l r j at2 seed2 rows cols => ∃ q : Nat, j = (q : Int) ∧ q ≤ n ∧ (0 ≤ at2 ∧ at2 ≤ at' + 6 * (q : Int)) ∧ rows.length = m ∧ cols.length = n ∧ l.length = q ∧ r.length = q, fun _ _ j _ _ _ _ => (n - j).toNat, ⟨0, rfl, by omega, by omega, hr, hcl, rfl, rfl⟩, ?_⟩
    rintro l r _ at2 seed2 rows cols ⟨q, rfl, hq, hat2, hr, hcl, hl, hr2⟩
    have s1 : ln l ≤ 4 := by unfold ln; omega
    have s2 : ln r ≤ 4 := by unfold ln; omega
    refine br_dec (fun c2 => ?_) (fun c2 => ?_)
    · refine pick_ok hc ⟨by omega, by omega⟩ fun b1 a3 s3 x1 x2 _ x3 x4 => pick_ok hc ⟨by omega, by omega⟩ fun b2 a4 s4 y1 y2 _ y3 y4 => most_any fun v => pick_ok hc ⟨by omega, by omega⟩ fun b3 a5 s5 z1 z2 _ z3 z4 => ⟨by rw [lo1]; omega, by rw [lo1]; omega, idx_gd (i := k) (d := 0) rfl (by omega) ⟨by omega, by rw [Int.toNat_natCast]; omega, idx_gd (i := q) (d := 0) rfl (by omega) ⟨by omega, by rw [Int.toNat_natCast]; omega, ?_⟩⟩⟩
      have e : wr ((q : Int) + 1) = ((q + 1 : Nat) : Int) := by rw [wr_in (by omega) (by omega)]; omega
      rw [e]
      exact ⟨⟨q + 1, rfl, by omega, by omega, by simpa using hr, by simpa using hcl, by simp [hl], by simp [hr2]⟩, by show ((n : Int) - ((q + 1 : Nat) : Int)).toNat < ((n : Int) - (q : Int)).toNat; omega⟩
    · have s3 : ln lo ≤ 4 := by unfold ln; have := hlo.1; omega
      have s4 : ln hi ≤ 4 := by unfold ln; have := hhi.1; omega
      have e : wr ((k : Int) + 1) = ((k + 1 : Nat) : Int) := by rw [wr_in (by omega) (by omega)]; omega
      rw [e]
      exact ⟨by rw [lo1]; omega, by rw [lo1]; omega, ⟨k + 1, rfl, by omega, by omega, hr, hcl, hlo.snoc (by omega), hhi.snoc (by omega)⟩, by show ((m : Int) - ((k + 1 : Nat) : Int)).toNat < ((m : Int) - (k : Int)).toNat; omega⟩
  · have ek : k = m := by omega
    subst ek
    have fin : ∀ (at3 seed3 : Int) (rows3 cols3 : List Int), 0 ≤ at3 → at3 ≤ a + 80 → rows3.length = k → cols3.length = n → Q (Transport.mk rows3 cols3 lo hi) at3 seed3 := fun at3 seed3 rows3 cols3 f1 f2 f3 f4 => h _ k n _ _ (by omega) (by omega) (by omega) (by omega) ⟨f3, f4, hlo, hhi⟩ f1 f2
    refine jn_of ?_
    refine pick_ok hc ⟨by omega, by omega⟩ fun b a3 s3 x1 x2 _ x3 x4 => br_eq (fun _ => ?_) (fun _ => br_eq (fun _ => ?_) (fun _ => fin _ _ _ _ x3 (by omega) hr hcl))
    · refine pick_ok hc ⟨by omega, by omega⟩ fun b1 a4 s4 y1 y2 _ y3 y4 => pick_ok hc ⟨by omega, by omega⟩ fun b2 a5 s5 z1 z2 _ z3 z4 => idx_gd (i := b2.toNat) (d := 0) (by omega) (by omega) ⟨by omega, by omega, pick_ok hc ⟨by omega, by omega⟩ fun b3 a6 s6 w1 w2 _ w3 w4 => idx_gd (i := b3.toNat) (d := 0) (by omega) (by omega) ⟨by omega, by omega, fin _ _ _ _ w3 (by omega) (by simpa using hr) (by simpa using hcl)⟩⟩
    · exact pick_ok hc ⟨by omega, by omega⟩ fun b2 a5 s5 z1 z2 _ z3 z4 => idx_gd (i := b2.toNat) (d := 0) (by omega) (by omega) ⟨by omega, by omega, fin _ _ _ _ z3 (by omega) (by simpa using hr) hcl⟩
theorem filled_ok {m n sum : Int} {M N : Nat} {Q : Transport → Prop} (em : m = (M : Int)) (en : n = (N : Int)) (hM : M ≤ 9) (hN : 1 ≤ N ∧ N ≤ 5) (hs : sum ≤ 2) (h : ∀ t, Td t M N → Q t) : spec_filled m n sum Q := by
  unfold spec_filled
  subst em; subst en
  have lo1 : ∀ {α : Type} (v : α), ln [v] = 1 := fun v => rfl
  refine ⟨by omega, by omega, ?_⟩
  rw [Int.toNat_natCast]
  refine ⟨fun i rows cols lo hi => ∃ k : Nat, i = (k : Int) ∧ k ≤ M ∧ rows.length = k ∧ cols.length = N ∧ Rw k N lo ∧ Rw k N hi, fun i _ _ _ _ => (M - i).toNat, ⟨0, rfl, by omega, rfl, by simp, ⟨rfl, fun r hr => by cases hr⟩, rfl, fun r hr => by cases hr⟩, ?_⟩
  rintro _ rows cols lo hi ⟨k, rfl, hk, hr, hcl, hlo, hhi⟩
  refine br_dec (fun c => ?_) (fun c => h _ ?_)
  · have s1 : ln rows ≤ 10 := by unfold ln; omega
    have s3 : ln lo ≤ 10 := by unfold ln; have := hlo.1; omega
    have s4 : ln hi ≤ 10 := by unfold ln; have := hhi.1; omega
    refine ⟨by rw [lo1]; omega, jn_of ⟨by omega, by omega, by omega, by omega, ?_⟩⟩
    refine loop2_list (xs := List.replicate N (0 : Int)) (by simp; omega) (fun r j => r.length = N) (by simp) (fun r j nx hj e hn => ?_) (fun r e => ⟨by rw [lo1]; omega, by rw [lo1]; omega, ?_⟩)
    · simp at hj
      exact ⟨by omega, by rw [Int.toNat_natCast]; omega, hn _ (by simpa using e)⟩
    · refine ⟨fun j cols => ∃ q : Nat, j = (q : Int) ∧ cols.length = N, fun j _ => (sum - j).toNat, ⟨0, rfl, hcl⟩, ?_⟩
      rintro _ cols ⟨q, rfl, hcl⟩
      refine br_dec (fun c2 => ⟨by omega, ?_⟩) (fun c2 => ?_)
      · have ew : wr ((k : Int) + (q : Int)) = (k : Int) + q := wr_in (by omega) (by omega)
        have t0 := Int.tmod_nonneg (N : Int) (show 0 ≤ wr ((k : Int) + (q : Int)) by omega)
        have t1 := Int.tmod_lt_of_pos (wr ((k : Int) + (q : Int))) (show 0 < (N : Int) by omega)
        refine idx_gd (i := (Int.tmod (wr ((k : Int) + (q : Int))) N).toNat) (d := 0) (by omega) (by omega) ⟨t0, by omega, ?_⟩
        have e1 : wr ((q : Int) + 1) = ((q + 1 : Nat) : Int) := by rw [wr_in (by omega) (by omega)]; omega
        rw [e1]
        exact ⟨⟨q + 1, rfl, by simpa using hcl⟩, by show (sum - ((q + 1 : Nat) : Int)).toNat < (sum - (q : Int)).toNat; omega⟩
      · have e1 : wr ((k : Int) + 1) = ((k + 1 : Nat) : Int) := by rw [wr_in (by omega) (by omega)]; omega
        rw [e1]
        exact ⟨⟨k + 1, rfl, by omega, by simp [hr], hcl, hlo.snoc (by simp), hhi.snoc e⟩, by show ((M : Int) - ((k + 1 : Nat) : Int)).toNat < ((M : Int) - (k : Int)).toNat; omega⟩
  · have ek : k = M := by omega
    subst ek
    exact ⟨hr, hcl, hlo, hhi⟩
theorem Rw.small {k n : Nat} {x : List (List Int)} (h : Rw k n x) (hk : k ≤ 100) (hn : n ≤ 100) : small x := ⟨by rw [h.1]; omega, fun r hr => by rw [h.2 r hr]; omega⟩
theorem anyTransport_ok {code : List B8} {a s : Int} {Q : Transport → Int → Int → Prop} (hc : bytesOk code) (ha : 0 ≤ a ∧ a ≤ 800000000000) (h : ∀ t a' s', smallT t → 0 ≤ a' → a' ≤ a + 100 → Q t a' s') : spec_l1Cur_anyTransport ⟨code, a, s⟩ Q := by
  unfold spec_l1Cur_anyTransport
  dsimp only
  refine transport_ok hc (by omega) fun t m n a1 s1 m1 m3 n1 n3 d p1 p2 => ?_
  obtain ⟨d1, d2, d3, d4⟩ := d
  have fin : ∀ (at3 seed3 : Int) (rows3 cols3 : List Int) (lo3 hi3 : List (List Int)), 0 ≤ at3 → at3 ≤ a + 100 → rows3.length ≤ 100 → cols3.length ≤ 100 → small lo3 → small hi3 → Q (Transport.mk rows3 cols3 lo3 hi3) at3 seed3 := fun at3 seed3 rows3 cols3 lo3 hi3 f1 f2 f3 f4 f5 f6 => h _ _ _ ⟨by show rows3.length ≤ _; omega, by show cols3.length ≤ _; omega, f5, f6⟩ f1 f2
  have hl := d3.1; have hh := d4.1
  have sl := d3.small (by omega) (by omega); have sh := d4.small (by omega) (by omega)
  have l0 : (t.Lo.getD 0 []).length = n := d3.2 _ (by rw [List.getD_eq_getElem?_getD, List.getElem?_eq_getElem (by omega)]; exact List.getElem_mem _)
  have h0 : (t.Hi.getD 0 []).length = n := d4.2 _ (by rw [List.getD_eq_getElem?_getD, List.getElem?_eq_getElem (by omega)]; exact List.getElem_mem _)
  have fd : ∀ (t' : Transport) (M N : Nat) (at3 seed3 : Int), Td t' M N → M ≤ 100 → N ≤ 100 → 0 ≤ at3 → at3 ≤ a + 100 → Q t' at3 seed3 := fun t' M N at3 seed3 d' hM hN f1 f2 => h _ _ _ ⟨by rw [d'.r]; omega, by rw [d'.c]; omega, d'.l.small hM hN, d'.h.small hM hN⟩ f1 f2
  refine jn_of ?_
  refine pick_ok hc ⟨by omega, by omega⟩ fun b a2 s2 x1 x2 _ x3 x4 => ?_
  refine br_eq (fun _ => ?_) (fun _ => br_eq (fun _ => ?_) (fun _ => br_eq (fun _ => ?_) (fun _ => br_eq (fun _ => ?_) (fun _ => br_eq (fun _ => ?_) (fun _ => br_eq (fun _ => ?_) (fun _ => br_eq (fun _ => ?_) (fun _ => fin _ _ _ _ _ _ x3 (by omega) (by omega) (by omega) sl sh)))))))
  · exact among_ok hc ⟨by omega, by omega⟩ (by simp) fun r _ a3 s3 y1 y2 => ⟨by omega, by rw [d1]; show 0 < _; omega, fin _ _ _ _ _ _ y1 (by omega) (by simp; omega) (by omega) sl sh⟩
  · exact idx_gd (i := 0) (d := []) rfl (by omega) (idx_gd (i := 0) (d := []) rfl (by omega) (idx_gd (i := 0) (d := 0) rfl (by omega) ⟨by omega, by rw [l0]; show 0 < _; omega, fin _ _ _ _ _ _ x3 (by omega) (by omega) (by omega) ((d3.set (by rw [List.length_set]; exact l0)).small (by omega) (by omega)) sh⟩))
  · refine ⟨by omega, by omega, by unfold ln; omega, fin _ _ _ _ _ _ x3 (by omega) (by omega) (by omega) ⟨by simp; omega, fun r hr => ?_⟩ sh⟩
    rw [d3.2 r (List.mem_of_mem_drop (List.mem_of_mem_take hr))]; omega
  · exact ⟨by unfold ln; simp; omega, fin _ _ _ _ _ _ x3 (by omega) (by omega) (by simp; omega) sl sh⟩
  · exact idx_gd (i := 0) (d := []) rfl (by omega) (among_ok hc ⟨by omega, by omega⟩ (by simp) fun r _ a3 s3 y1 y2 => ⟨by omega, by rw [h0]; show 0 < _; omega, fin _ _ _ _ _ _ y1 (by omega) (by omega) (by omega) sl ((d4.set (by rw [List.length_set]; exact h0)).small (by omega) (by omega))⟩)
  · refine pick_ok hc ⟨by omega, by omega⟩ fun b1 a3 s3 y1 y2 _ y3 y4 => ?_
    obtain ⟨N, eN, N1, N2⟩ := small_pick (k := 4) (n := 2) y1 y2 (by omega) (by omega)
    exact filled_ok (M := 4) (N := N) rfl eN (by omega) (by omega) (by omega) fun t' d' => fd _ _ _ _ _ d' (by omega) (by omega) y3 (by omega)
  · refine pick_ok hc ⟨by omega, by omega⟩ fun b1 a3 s3 y1 y2 _ y3 y4 => ?_
    obtain ⟨M, eM, M1, M2⟩ := small_pick (k := 8) (n := 2) y1 y2 (by omega) (by omega)
    exact filled_ok (M := M) (N := 1) eM rfl (by omega) (by omega) (by omega) fun t' d' => fd _ _ _ _ _ d' (by omega) (by omega) y3 (by omega)
theorem drawFlows_ok {code : List B8} {Q : Transport → Prop} (hc : bytesOk code) (h : ∀ t, smallT t → Q t) : spec_DrawCountFlows code Q := by
  unfold spec_DrawCountFlows spec_DrawIsTransport
  exact anyTransport_ok hc (by omega) fun t _ _ hs _ _ => h _ hs
theorem drawCell_ok {code : List B8} {Q : Transport → Int → Int → Prop} (hc : bytesOk code) (h : ∀ t i j, smallT t → Q t i j) : spec_DrawCellRange code Q := by
  unfold spec_DrawCellRange
  exact anyTransport_ok hc (by omega) fun t _ _ hs _ _ => pick_ok hc ⟨by omega, by omega⟩ fun r1 a1 s1 _ _ _ p1 p2 => pick_ok hc ⟨by omega, by omega⟩ fun r2 a2 s2 _ _ _ p1 p2 => pick_ok hc ⟨by omega, by omega⟩ fun r3 a3 s3 _ _ _ _ _ => h _ _ _ hs
end Go.Proofs.Ytommbnkecafodaa
