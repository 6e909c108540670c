/- Plain facts about drawn seeds, sites and shares: how long they are. -/
import Derived.Test.YtbegmfmabcpofaaDr
set_option linter.unusedVariables false
set_option autoImplicit false
namespace Go.Proofs.Ytbegmfmabcpofaa
open Go Go.RowKit Go.Gv

def shp (n : Nat) (out : List (List Int)) (i : Nat) : Prop := out.length = n ∧ ∀ j (hj : j < out.length), j < i → out[j].length = n
theorem shp_set {n i k : Nat} {out : List (List Int)} {r : List Int} (h : shp n out i) (hr : r.length = n) : shp n (out.set k r) i := by
  refine ⟨by simpa using h.1, fun j hj hji => ?_⟩
  have hj' : j < out.length := by simpa using hj
  by_cases e : k = j
  · subst e; simpa using hr
  · rw [List.getElem_set_ne e]; exact h.2 j hj' hji
theorem shp_next {n i : Nat} {out : List (List Int)} {r : List Int} (h : shp n out i) (hi : i < n) (hr : r.length = n) : shp n (out.set i r) (i + 1) := by
  refine ⟨by simpa using h.1, fun j hj hji => ?_⟩
  have hj' : j < out.length := by simpa using hj
  by_cases e : i = j
  · subst e; simpa using hr
  · rw [List.getElem_set_ne e]; exact h.2 j hj' (by omega)
theorem shp_all {n : Nat} {out : List (List Int)} (h : shp n out n) : ∀ r ∈ out, r.length = n := fun r hr => by
  obtain ⟨j, hj, rfl⟩ := List.mem_iff_getElem.1 hr
  exact h.2 j hj (by have := h.1; omega)
theorem pairSeeds_ok {code : List B8} {a s n : Int} {Q : List (List Int) → Int → Int → Prop} (hc : bytesOk code) (hn : 1 ≤ n ∧ n ≤ 9) (ha : 0 ≤ a ∧ a ≤ 999999990000)
    (h : ∀ out a' s', out.length ≤ 9 → (∀ r ∈ out, r.length ≤ 9) → 0 ≤ a' → a' ≤ a + 1000 → Q out a' s') : spec_l1Cur_pairSeeds ⟨code, a, s⟩ n Q := by
  unfold spec_l1Cur_pairSeeds
  dsimp only
  refine ⟨by omega, by omega, ?_⟩
  refine ⟨fun out x a1 s1 => ∃ i : Nat, x = (i : Int) ∧ i ≤ n.toNat ∧ shp n.toNat out i ∧ 0 ≤ a1 ∧ a1 ≤ a + 36 * (i : Int), fun _ x _ _ => n.toNat - x.toNat, ⟨0, rfl, Nat.zero_le _, ⟨by simp, fun j _ hj => by omega⟩, by omega, by omega⟩, ?_⟩
  rintro out x a1 s1 ⟨i, rfl, hi, hs, h0, h1⟩
  refine br_dec (fun g => ?_) (fun g => ?_)
  · have gi : i < n.toNat := by have := ln_nat.1 g; simpa using this
    refine ⟨by omega, by omega, by omega, by rw [hs.1]; simpa using gi, ?_⟩
    refine ⟨fun o2 k a2 s2 => ∃ j : Nat, k = (j : Int) ∧ j ≤ i ∧ shp n.toNat o2 (i + 1) ∧ 0 ≤ a2 ∧ a2 ≤ a + 36 * (i : Int) + 4 * (j : Int), fun _ k _ _ => i - k.toNat,
      ⟨0, rfl, Nat.zero_le _, shp_next hs gi (by simp), by omega, by omega⟩, ?_⟩
    rintro o2 k a2 s2 ⟨j, rfl, hj, hs2, k0, k1⟩
    refine br_dec (fun g2 => ?_) (fun g2 => ?_)
    · have hji : j < i := by omega
      have hio : i < o2.length := by rw [hs2.1]; exact gi
      have hri := hs2.2 i hio (by omega)
      refine idx_at hio (seed0_ok hc (by unfold atOk; omega) (by omega) fun r a3 s3 l0 l1 => ⟨by omega, by rw [hri]; omega, ?_⟩)
      simp only [Int.toNat_natCast]
      have hs3 : shp n.toNat (o2.set i (o2[i].set j r)) (i + 1) := shp_set hs2 (by simpa using hri)
      have hjo : j < (o2.set i (o2[i].set j r)).length := by rw [hs3.1]; omega
      have hio3 : i < (o2.set i (o2[i].set j r)).length := by rw [hs3.1]; omega
      have hrj := hs3.2 j hjo (by omega)
      have hri3 := hs3.2 i hio3 (by omega)
      refine idx_at hjo (idx_at hio3 (idx_at (by rw [hri3]; omega) ⟨by omega, by rw [hrj]; exact gi, ?_⟩))
      rw [wr_in (by omega) (by omega)]
      refine ⟨⟨j + 1, by omega, by omega, shp_set hs3 (by simpa using hrj), l0, by omega⟩, ?_⟩
      show i - ((j : Int) + 1).toNat < i - (j : Int).toNat
      omega
    · rw [wr_in (by omega) (by omega)]
      refine ⟨⟨i + 1, by omega, by omega, hs2, k0, by omega⟩, ?_⟩
      show n.toNat - ((i : Int) + 1).toNat < n.toNat - (i : Int).toNat
      omega
  · have gi : i = n.toNat := by
      have : ¬ i < n.toNat := fun c => g (ln_nat.2 (by simpa using c))
      omega
    subst gi
    have hall := shp_all hs
    have hl := hs.1
    refine jn_bool3 (fun o a' s' => o.length ≤ 9 ∧ (∀ r ∈ o, r.length ≤ 9) ∧ 0 ≤ a' ∧ a' ≤ a + 1000) (fun o a' s' ⟨p1, p2, p3, p4⟩ => h o a' s' p1 p2 p3 p4) fun k hk => ?_
    refine pick_ok hc (by unfold atOk; omega) fun r a2 s2 r0 r1 _ l0 l1 => br_eq (fun _ => br_dec (fun g1 => ?_) (fun g1 => ?_)) (fun _ => br_eq (fun _ => ?_) (fun _ => ?_))
    · have h1o : 1 < out.length := by omega
      have hr1 := hall _ (List.getElem_mem h1o)
      refine idx_of (by omega) h1o (idx_of (by omega) (by show 0 < (out[1]).length; omega) ⟨by omega, by show 0 < (out[1]).length; omega, hk _ _ _ ⟨by simp; omega, fun r hr => ?_, l0, by omega⟩⟩)
      rcases List.mem_or_eq_of_mem_set hr with q | q
      · have := hall r q; omega
      · rw [q, List.length_set]; show (out[1]).length ≤ 9; omega
    · exact hk _ _ _ ⟨by omega, fun r hr => by have := hall r hr; omega, l0, by omega⟩
    · refine ⟨by omega, by omega, by unfold ln; omega, h _ _ _ ?_ (fun r hr => ?_) l0 (by omega)⟩
      · rw [List.length_take, List.length_drop]; omega
      · have := hall r (List.mem_of_mem_drop (List.mem_of_mem_take hr)); omega
    · exact hk _ _ _ ⟨by omega, fun r hr => by have := hall r hr; omega, l0, by omega⟩
/-- What DrawMaskOf draws. -/
def dmOk (s : List (List Int)) : Prop := s.length ≤ 9 ∧ ∀ r ∈ s, r.length ≤ 9
theorem dmOk.small {s : List (List Int)} (h : dmOk s) : small s := ⟨by have := h.1; omega, fun r hr => by have := h.2 r hr; omega⟩
theorem drawMaskOf_ok {code : List B8} {Q : List (List Int) → Int → Int → Int → Int → Prop} (hc : bytesOk code) (h : ∀ s i round n m, dmOk s → 0 ≤ n → n ≤ 4 → 1 ≤ m → m ≤ 1000000008 → Q s i round n m) : spec_DrawMaskOf code Q := by
  unfold spec_DrawMaskOf
  refine siteCount_ok hc (by unfold atOk; omega) fun r a s r0 r1 a0 a1 => pairSeeds_ok hc ⟨r0, r1⟩ (by omega) fun o a2 s2 o1 o2 b0 b1 => ?_
  rw [wr_in (by omega) (by omega)]
  refine pick_ok hc (by unfold atOk; omega) fun i a3 s3 _ _ _ c0 c1 => among_ok hc (by unfold atOk; omega) (by simp) fun rd _ a4 s4 d0 d1 => pick_ok hc (by unfold atOk; omega) fun n a5 s5 n0 n1 _ e0 e1 => modulus_ok hc (by unfold atOk; omega) fun m a6 s6 m0 m1 _ _ => ?_
  exact h _ _ _ _ _ ⟨o1, o2⟩ n0 (by omega) m0 m1
theorem present_ok {code : List B8} {a s n : Int} {Q : List Int → Int → Int → Prop} (hc : bytesOk code) (hn : 0 ≤ n ∧ n ≤ 9) (ha : 0 ≤ a ∧ a ≤ 999999990000) (h : ∀ out a' s', out.length ≤ 10 → Q out a' s') : spec_l1Cur_present ⟨code, a, s⟩ n Q := by
  unfold spec_l1Cur_present
  dsimp only
  refine ⟨fun out x a1 s1 => ∃ i : Nat, x = (i : Int) ∧ i ≤ n.toNat ∧ out.length ≤ i ∧ 0 ≤ a1 ∧ a1 ≤ a + 2 * (i : Int), fun _ x _ _ => n.toNat - x.toNat, ⟨0, rfl, Nat.zero_le _, by simp, by omega, by omega⟩, ?_⟩
  rintro out x a1 s1 ⟨i, rfl, hi, hl, h0, h1⟩
  refine br_dec (fun g => ?_) (fun g => ?_)
  · refine jn_bool3 (fun o a' s' => o.length ≤ i + 1 ∧ 0 ≤ a' ∧ a' ≤ a + 2 * ((i : Int) + 1)) (fun o a' s' ⟨p1, p2, p3⟩ => ?_) fun k hk => one_ok hc (by unfold atOk; omega) fun r a2 s2 l0 l1 => br_nb (fun _ => ⟨by unfold ln; simp; omega, hk _ _ _ ⟨by simp; omega, l0, by omega⟩⟩) (fun _ => hk _ _ _ ⟨by omega, l0, by omega⟩)
    rw [wr_in (by omega) (by omega)]
    refine ⟨⟨i + 1, by omega, by omega, p1, p2, by omega⟩, ?_⟩
    show n.toNat - ((i : Int) + 1).toNat < n.toNat - (i : Int).toNat
    omega
  · refine jn_bool3 (fun o a' s' => o.length ≤ 10) (fun o a' s' p1 => h o a' s' p1) fun k hk => one_ok hc (by unfold atOk; omega) fun r a2 s2 l0 l1 => br_bo (fun _ => ⟨by unfold ln; simp; omega, hk _ _ _ (by simp; omega)⟩) (fun _ => hk _ _ _ (by omega))
theorem drawMaskRepair_ok {code : List B8} {Q : List (List Int) → List Int → Int → Int → Int → Prop} (hc : bytesOk code) (h : ∀ s p round n m, dmOk s → p.length ≤ 10 → 0 ≤ n → n ≤ 4 → 1 ≤ m → m ≤ 1000000008 → Q s p round n m) : spec_DrawMaskRepair code Q := by
  unfold spec_DrawMaskRepair
  refine drawMaskOf_ok hc fun s i round n m hs n0 n1 m0 m1 => present_ok hc (by have := hs.1; unfold ln; omega) (by omega) fun p a' s' hp => h _ _ _ _ _ hs hp n0 n1 m0 m1
theorem valuesBelow_ok {code : List B8} {a s m n : Int} {Q : List Int → Int → Int → Prop} (hc : bytesOk code) (hn : 0 ≤ n ∧ n ≤ 4) (ha : 0 ≤ a ∧ a ≤ 999999990000) (h : ∀ out a' s', out.length ≤ 4 → 0 ≤ a' → a' ≤ a + 8 → Q out a' s') : spec_l1Cur_valuesBelow ⟨code, a, s⟩ m n Q := by
  unfold spec_l1Cur_valuesBelow
  dsimp only
  refine ⟨fun n3 l a1 s1 => 0 ≤ n3 ∧ n3 ≤ n ∧ (l.length : Int) = n - n3 ∧ 0 ≤ a1 ∧ a1 ≤ a + 2 * (n - n3), fun n3 _ _ _ => n3.toNat, ⟨by omega, by omega, by simp, by omega, by omega⟩, ?_⟩
  rintro n3 l a1 s1 ⟨h0, h1, h2, h3, h4⟩
  refine br_dec (fun g => ?_) (fun g => h _ _ _ (by omega) h3 (by omega))
  have go : ∀ q : Int, spec_l1Cur_pick ⟨code, a1, s1⟩ q (fun r20 r21 r22 => (ln l + ln ([r20])) * 8 ≤ 140737488355328 ∧ ((0 ≤ wr (n3 - 1) ∧ wr (n3 - 1) ≤ n ∧ ((l ++ [r20]).length : Int) = n - wr (n3 - 1) ∧ 0 ≤ r21 ∧ r21 ≤ a + 2 * (n - wr (n3 - 1))) ∧ (wr (n3 - 1)).toNat < n3.toNat)) := fun q =>
    pick_ok hc (by unfold atOk; omega) fun r a2 s2 _ _ _ l0 l1 => by
      rw [wr_in (by omega) (by omega)]
      refine ⟨by unfold ln; simp; omega, ⟨by omega, by omega, by simp; omega, l0, by omega⟩, by omega⟩
  unfold spec_l1Least spec_l1Most
  exact br_dec (fun _ => br_dec (fun _ => go _) (fun _ => go _)) (fun _ => br_dec (fun _ => go _) (fun _ => go _))
theorem drawSumPresent_ok {code : List B8} {Q : List (List Int) → List Int → Int → Int → List (List Int) → Prop} (hc : bytesOk code) (h : ∀ s p round m q, dmOk s → p.length ≤ 10 → small q → Q s p round m q) : spec_DrawSumPresent code Q := by
  unfold spec_DrawSumPresent
  refine drawMaskRepair_ok hc fun s p round n m hs hp n0 n1 m0 m1 => ?_
  refine ⟨fun q x a1 s1 => ∃ i : Nat, x = (i : Int) ∧ i ≤ p.length ∧ q.length = i ∧ (∀ r ∈ q, r.length ≤ 4) ∧ 0 ≤ a1 ∧ a1 ≤ 8 * (i : Int), fun _ x _ _ => p.length - x.toNat, ⟨0, rfl, Nat.zero_le _, rfl, fun r hr => by simp at hr, by omega, by omega⟩, ?_⟩
  rintro q x a1 s1 ⟨i, rfl, hi, hl, hr, h0, h1⟩
  refine br_dec (fun g => ?_) (fun g => ?_)
  · have gi := ln_nat.1 g
    refine valuesBelow_ok hc ⟨n0, n1⟩ (by omega) fun o a2 s2 o1 l0 l1 => ⟨by unfold ln; simp; omega, ?_⟩
    rw [wr_in (by omega) (by omega)]
    refine ⟨⟨i + 1, by omega, by omega, by simp; omega, fun r hr' => ?_, l0, by omega⟩, ?_⟩
    · rcases List.mem_append.1 hr' with e | e
      · exact hr r e
      · simp at e; rw [e]; exact o1
    · show p.length - ((i : Int) + 1).toNat < p.length - (i : Int).toNat
      omega
  · refine jn_ok (fun q => small q) (fun q hq => h _ _ _ _ _ hs hp hq) fun k hk => one_ok hc (by unfold atOk; omega) fun r a2 s2 l0 l1 => br_bo (fun _ => valuesBelow_ok hc ⟨n0, n1⟩ (by omega) fun o a3 s3 o1 _ _ => ⟨by unfold ln; simp; omega, hk _ ⟨by simp; omega, fun r hr' => ?_⟩⟩) (fun _ => hk _ ⟨by omega, fun r hr' => by have := hr r hr'; omega⟩)
    rcases List.mem_append.1 hr' with e | e
    · have := hr r e; omega
    · simp at e; rw [e]; omega
theorem drawMaskCounts_ok {code : List B8} {Q : Int → Int → Prop} (hc : bytesOk code) (h : ∀ m n, Q m n) : spec_DrawMaskCounts code Q := by
  unfold spec_DrawMaskCounts
  exact among_ok hc (by unfold atOk; omega) (by simp) fun r _ a s a0 a1 => pick_ok hc (by unfold atOk; omega) fun n a2 s2 _ _ _ _ _ => h _ _
end Go.Proofs.Ytbegmfmabcpofaa
