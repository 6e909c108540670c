/- Plain facts about fractions as the numbers that they stand for; sums of shares, distances, the index of Gini. -/
import Derived.Test.YtbegmfmabcpofaaDsPure
import Derived.Test.YtbegmfmabcpofaaGnPure
import Derived.Test.YtbegmfmabcpofaaCsPure
import Derived.Test.YtbegmfmabcpofaaQuPure
set_option linter.unusedVariables false
set_option autoImplicit false
namespace Go.Proofs.Ytbegmfmabcpofaa
open Go Go.RowKit Go.Gv

/-- The fraction f stands for n over d. -/
def rep (f : Frac) (n d : Int) : Prop := f.Num * d = n * f.Den
theorem rep_of {n d : Int} (hd : 0 < d) (h : frIn n d = true) : rep (frOf n d) n d := by
  unfold rep frOf
  rw [h, if_pos rfl]
  show frNum n d * d = n * frDen n d
  rw [frDen_pos hd]
  unfold frNum
  rw [if_neg (by omega)]
  have hg := gcd_pos' (n := n) (show d ≠ 0 by omega)
  obtain ⟨a, ha⟩ := Int.gcd_dvd_left n d
  obtain ⟨b, hb⟩ := Int.gcd_dvd_right n d
  generalize ((Int.gcd n d : Nat) : Int) = g at hg ha hb
  have e1 : n.tdiv g = a := by rw [ha]; exact Int.mul_tdiv_cancel_left _ (by omega)
  have e2 : d.tdiv g = b := by rw [hb]; exact Int.mul_tdiv_cancel_left _ (by omega)
  rw [e1, e2]; grind
theorem rep_as {f : Frac} {n d m e : Int} (hd : d ≠ 0) (h : rep f n d) (h2 : n * e = m * d) : rep f m e := by
  unfold rep at *
  apply Int.eq_of_mul_eq_mul_right hd
  grind
theorem rep_add {s x : Frac} {P v S : Int} (hs : fOk s) (hx : fOk x) (h1 : rep s P S) (h2 : rep x v S) (hin : adIn s x = true) : rep (adOf s x) (P + v) S := by
  have hp := den_pos hs hx
  refine rep_as (by omega) (rep_of hp hin) ?_
  unfold rep at h1 h2; grind
theorem rep_sub {x y : Frac} {v w A B : Int} (hx : fOk x) (hy : fOk y) (h1 : rep x v A) (h2 : rep y w B) (hin : sbIn x y = true) : rep (sbOf x y) (v * B - w * A) (A * B) := by
  have hp := den_pos hx hy
  refine rep_as (by omega) (rep_of hp hin) ?_
  unfold rep at h1 h2; grind
theorem rep_abs {f : Frac} {n d : Int} (hf : fOk f) (hd : 0 < d) (h : rep f n d) : rep (abF f) (n.natAbs : Int) d := by
  have hD := hf.1.1
  unfold rep at *
  show ((f.Num.natAbs : Nat) : Int) * d = ((n.natAbs : Nat) : Int) * f.Den
  have e := congrArg Int.natAbs h
  rw [Int.natAbs_mul, Int.natAbs_mul] at e
  have e1 : ((d.natAbs : Nat) : Int) = d := by omega
  have e2 : ((f.Den.natAbs : Nat) : Int) = f.Den := by omega
  have e3 : ((f.Num.natAbs * d.natAbs : Nat) : Int) = ((n.natAbs * f.Den.natAbs : Nat) : Int) := by rw [e]
  rw [Int.natCast_mul, Int.natCast_mul, e1, e2] at e3; exact e3

/-! ### sums of shares -/
def sfGo : List Frac → Frac → Frac × Bool
  | [], s => (s, true)
  | x :: xs, s => if adIn s x then sfGo xs (adOf s x) else (⟨0, 0⟩, false)
theorem sumFracs_ok {l : List Frac} {Q : Frac → Bool → Prop} (hl : l.length ≤ 100) (hf : ∀ f ∈ l, fOk f) (h : Q (sfGo l ⟨0, 1⟩).1 (sfGo l ⟨0, 1⟩).2) : impl_SumFracs l Q := by
  unfold impl_SumFracs
  refine br_no (by unfold ln; omega) ?_
  refine loop3_listF (by omega) (fun n d i => fOk ⟨n, d⟩ ∧ sfGo l ⟨0, 1⟩ = sfGo (l.drop i) ⟨n, d⟩) ⟨zero_ok, rfl⟩ (fun n d i nx hi ⟨h1, h2⟩ hn => idx_at hi ?_) (fun n d ⟨h1, h2⟩ => ?_)
  · have hx := hf _ (List.getElem_mem hi)
    rw [drop_at hi] at h2
    refine addFrac_ok h1 hx (br_nb (fun q => ?_) (fun q => hn _ _ ⟨ad_ok h1 hx q, ?_⟩))
    · rw [h2] at h; simp only [sfGo] at h; rw [show adIn ⟨n, d⟩ l[i] = false from q] at h; exact h
    · rw [h2]; simp only [sfGo]; rw [show adIn ⟨n, d⟩ l[i] = true from q, if_pos rfl]; rfl
  · rw [List.drop_length] at h2; rw [h2] at h; exact h
theorem sf_rep {S : Int} (hS : 0 < S ∧ S ≤ 100000000) : ∀ (l : List Int) (s : Frac) (P : Int), (∀ v ∈ l, 0 ≤ v ∧ v ≤ 1000000) → fOk s → rep s P S → (sfGo (l.map fun v => frOf v S) s).2 = true →
    fOk (sfGo (l.map fun v => frOf v S) s).1 ∧ rep (sfGo (l.map fun v => frOf v S) s).1 (P + l.sum) S
  | [], s, P, _, hs, hr, _ => ⟨hs, by simpa [sfGo] using hr⟩
  | v :: l, s, P, hl, hs, hr, h => by
    have hv := hl v (by simp)
    have hx := share_ok hv hS
    simp only [List.map_cons, sfGo] at h ⊢
    cases q : adIn s (frOf v S) with
    | false => rw [q] at h; simp at h
    | true =>
      rw [q, if_pos rfl] at h
      rw [if_pos rfl]
      have := sf_rep hS l _ (P + v) (fun w hw => hl w (by simp [hw])) (ad_ok hs hx q) (rep_add hs hx hr (rep_of hS.1 (share_in hv hS)) q) h
      rw [List.sum_cons, ← Int.add_assoc]; exact this
theorem sum_one {l : List Int} (hc : cntIn l = true) (h : (sfGo (sh l) ⟨0, 1⟩).2 = true) : (sfGo (sh l) ⟨0, 1⟩).1 = ⟨1, 1⟩ := by
  obtain ⟨h0, h1, hx, hs⟩ := cntIn_of hc
  have hr := sf_rep hs l ⟨0, 1⟩ 0 hx zero_ok (by unfold rep; simp) h
  rw [show (l.map fun v => frOf v l.sum) = sh l from rfl] at hr
  generalize (sfGo (sh l) ⟨0, 1⟩).1 = f at hr
  obtain ⟨⟨a1, a2, a3⟩, hr⟩ := hr
  unfold rep at hr
  rw [Int.zero_add] at hr
  have e : f.Num = f.Den := by
    apply Int.eq_of_mul_eq_mul_right (show l.sum ≠ 0 by omega)
    rw [hr, Int.mul_comm]
  rw [e, Int.gcd_self] at a3
  obtain ⟨n, d⟩ := f
  simp only at e a1 a3
  have : d = 1 := by omega
  subst this; subst e; rfl

/-! ### the index of Gini -/
theorem gn_row_le : ∀ {l : List Int} {a : Int}, 0 ≤ a → (∀ x ∈ l, 0 ≤ x) → gnRow l a ≤ a * l.length + l.sum
  | [], a, _, _ => by simp [gnRow]
  | y :: l, a, ha, hl => by
    have ih := gn_row_le (l := l) ha (fun x hx => hl x (by simp [hx]))
    have hy := hl y (by simp)
    unfold gnRow at *
    simp only [List.map_cons, List.sum_cons, List.length_cons, Int.natCast_add, Int.mul_add]
    unfold gnD at *; omega
theorem gn_row_in : ∀ {l : List Int} {a : Int}, 0 ≤ a → (∀ x ∈ l, 0 ≤ x) → a ∈ l → gnRow l a + 2 * a ≤ a * l.length + l.sum
  | y :: l, a, ha, hl, hm => by
    have hy := hl y (by simp)
    have hl' : ∀ x ∈ l, 0 ≤ x := fun x hx => hl x (by simp [hx])
    simp only [gnRow, List.map_cons, List.sum_cons, List.length_cons, Int.natCast_add, Int.mul_add]
    rcases List.mem_cons.1 hm with e | e
    · have ih := gn_row_le (l := l) ha hl'
      unfold gnRow at ih
      subst e; unfold gnD at *; omega
    · have ih := gn_row_in ha hl' e
      unfold gnRow at ih
      unfold gnD at *; omega
theorem gn_sum_aux {l : List Int} (hl : ∀ x ∈ l, 0 ≤ x) : ∀ {k : List Int}, (∀ x ∈ k, x ∈ l) → (k.map (gnRow l)).sum + 2 * k.sum ≤ k.sum * l.length + k.length * l.sum
  | [], _ => by simp
  | a :: k, h => by
    have ih := gn_sum_aux hl (k := k) (fun x hx => h x (by simp [hx]))
    have ha := h a (by simp)
    have hr := gn_row_in (hl a ha) hl ha
    simp only [List.map_cons, List.sum_cons, List.length_cons, Int.natCast_add, Int.add_mul, Int.mul_add]
    omega
theorem gn_lt {l : List Int} (hc : cntIn l = true) : 0 ≤ gnSum l ∧ gnSum l < 2 * (l.length : Int) * l.sum := by
  obtain ⟨h0, h1, hx, hs⟩ := cntIn_of hc
  have hb := gnSum_in h1 hx l.length
  rw [List.take_length] at hb
  have h := gn_sum_aux (fun x hxl => (hx x hxl).1) (k := l) (fun x hxl => hxl)
  unfold gnSum
  refine ⟨hb.1, ?_⟩
  have e : l.sum * (l.length : Int) + (l.length : Int) * l.sum = 2 * (l.length : Int) * l.sum := by grind
  omega
theorem gn_frac {l : List Int} (h : gnIn l = true) : 0 ≤ (gnOf l).Num ∧ (gnOf l).Num < (gnOf l).Den := by
  have hc : cntIn l = true := by
    unfold gnIn at h; split at h
    · rename_i c; exact c
    · cases h
  unfold gnIn at h; rw [hc, if_pos rfl] at h
  obtain ⟨g0, g1⟩ := gn_lt hc
  have hd := gn_den hc
  have hr := rep_of hd.1 h
  have ho := fOk_of (by omega) h
  unfold gnOf
  rw [hc, if_pos rfl]
  generalize frOf (gnSum l) (2 * (l.length : Int) * l.sum) = f at hr ho
  generalize 2 * (l.length : Int) * l.sum = D at hr hd g1
  generalize gnSum l = N at hr g0 g1
  unfold rep at hr
  have hD := ho.1.1
  constructor
  · refine Classical.byContradiction fun c => ?_
    have e1 : f.Num * D < 0 := Int.mul_neg_of_neg_of_pos (by omega) hd.1
    have e2 : 0 ≤ N * f.Den := Int.mul_nonneg g0 (by omega)
    omega
  · refine Classical.byContradiction fun c => ?_
    have e1 : f.Den * D ≤ f.Num * D := Int.mul_le_mul_of_nonneg_right (by omega) (by omega)
    have e2 : N * f.Den < D * f.Den := Int.mul_lt_mul_of_pos_right g1 (by omega)
    rw [Int.mul_comm D] at e2; omega

/-! ### distances -/
def tds (A B : Int) : List Int → List Int → Int
  | x :: xs, y :: ys => ((x * B - y * A).natAbs : Int) + tds A B xs ys
  | _, _ => 0
theorem tds_le {A B : Int} (hA : 0 ≤ A) (hB : 0 ≤ B) : ∀ {a b : List Int}, a.length = b.length → (∀ x ∈ a, 0 ≤ x) → (∀ x ∈ b, 0 ≤ x) → 0 ≤ tds A B a b ∧ tds A B a b ≤ a.sum * B + b.sum * A
  | [], [], _, _, _ => by simp [tds]
  | x :: xs, y :: ys, h, h1, h2 => by
    have ih := tds_le hA hB (a := xs) (b := ys) (by simpa using h) (fun z hz => h1 z (by simp [hz])) (fun z hz => h2 z (by simp [hz]))
    have e1 := Int.mul_nonneg (h1 x (by simp)) hB
    have e2 := Int.mul_nonneg (h2 y (by simp)) hA
    simp only [tds, List.sum_cons, Int.add_mul]
    omega
  | [], _ :: _, h, _, _ => by simp at h
  | _ :: _, [], h, _, _ => by simp at h
theorem hd_rep {A B : Int} (hA : 0 < A ∧ A ≤ 100000000) (hB : 0 < B ∧ B ≤ 100000000) : ∀ (a b : List Int) (s : Frac) (T : Int), a.length = b.length → (∀ v ∈ a, 0 ≤ v ∧ v ≤ 1000000) → (∀ v ∈ b, 0 ≤ v ∧ v ≤ 1000000) →
    fOk s → rep s T (A * B) → 0 ≤ T → (hdGo (a.map fun v => frOf v A) (b.map fun v => frOf v B) s).2 = true →
    fOk (hdGo (a.map fun v => frOf v A) (b.map fun v => frOf v B) s).1 ∧ rep (hdGo (a.map fun v => frOf v A) (b.map fun v => frOf v B) s).1 (T + tds A B a b) (A * B * 2)
  | [], [], s, T, _, _, _, hs, hr, _, h => by
    simp only [List.map_nil, hdGo] at h ⊢
    unfold dvIn at h; unfold dvOf
    rw [if_neg (by decide)] at h
    rw [if_neg (by decide)]
    have hd : 0 < s.Den * (2 : Int) := by have := hs.1.1; omega
    refine ⟨fOk_of (by exact Int.ne_of_gt hd) h, rep_as (Int.ne_of_gt hd) (rep_of hd h) ?_⟩
    unfold rep at hr
    simp only [tds]; grind
  | x :: xs, y :: ys, s, T, hl, h1, h2, hs, hr, hT, h => by
    have hx := h1 x (by simp)
    have hy := h2 y (by simp)
    have ox := share_ok hx hA
    have oy := share_ok hy hB
    simp only [List.map_cons, hdGo] at h ⊢
    cases q : sbIn (frOf x A) (frOf y B) with
    | false => rw [q] at h; simp at h
    | true =>
      rw [q, if_pos rfl] at h
      rw [if_pos rfl]
      have os := sb_ok ox oy q
      have ob := ab_ok os
      cases q2 : adIn s (abF (sbOf (frOf x A) (frOf y B))) with
      | false => rw [q2] at h; simp at h
      | true =>
        rw [q2, if_pos rfl] at h
        rw [if_pos rfl]
        have hAB : 0 < A * B := Int.mul_pos hA.1 hB.1
        have r1 := rep_abs os hAB (rep_sub ox oy (rep_of hA.1 (share_in hx hA)) (rep_of hB.1 (share_in hy hB)) q)
        have := hd_rep hA hB xs ys _ (T + ((x * B - y * A).natAbs : Int)) (by simpa using hl) (fun z hz => h1 z (by simp [hz])) (fun z hz => h2 z (by simp [hz])) (ad_ok hs ob q2) (rep_add hs ob hr r1 q2) (by omega) h
        simp only [tds]; rw [← Int.add_assoc]; exact this
  | [], _ :: _, _, _, h, _, _, _, _, _, _ => by simp at h
  | _ :: _, [], _, _, h, _, _, _, _, _, _ => by simp at h
theorem ds_of {a b : List Int} (h : (dsAll a b).2 = true) : dsIn0 a b = true ∧ cntIn a = true ∧ cntIn b = true ∧ a.length = b.length := by
  unfold dsAll at h
  split at h
  · rename_i g
    refine ⟨g, ?_⟩
    unfold dsIn0 at g
    simp only [Bool.and_eq_true, decide_eq_true_eq] at g
    exact ⟨g.1, g.2.1, g.2.2⟩
  · cases h
theorem ds_frac {a b : List Int} (h : (dsAll a b).2 = true) : 0 ≤ (dsAll a b).1.Num ∧ (dsAll a b).1.Num ≤ (dsAll a b).1.Den := by
  obtain ⟨g, ga, gb, ge⟩ := ds_of h
  obtain ⟨a0, a1, ax, as⟩ := cntIn_of ga
  obtain ⟨b0, b1, bx, bs⟩ := cntIn_of gb
  unfold dsAll at h ⊢
  rw [g, if_pos rfl] at h
  rw [g, if_pos rfl]
  have hr := hd_rep as bs a b ⟨0, 1⟩ 0 ge ax bx zero_ok (by unfold rep; simp) (by omega) h
  rw [show (a.map fun v => frOf v a.sum) = sh a from rfl, show (b.map fun v => frOf v b.sum) = sh b from rfl] at hr
  generalize (hdGo (sh a) (sh b) ⟨0, 1⟩).1 = f at hr
  obtain ⟨ho, hr⟩ := hr
  have ht := tds_le (A := a.sum) (B := b.sum) (by omega) (by omega) ge (fun x hx => (ax x hx).1) (fun x hx => (bx x hx).1)
  rw [Int.zero_add] at hr
  unfold rep at hr
  have hD := ho.1.1
  have hAB : 0 < a.sum * b.sum := Int.mul_pos as.1 bs.1
  have e0 : a.sum * b.sum + b.sum * a.sum = a.sum * b.sum * 2 := by grind
  generalize tds a.sum b.sum a b = T at hr ht
  generalize a.sum * b.sum = D at hr ht hAB e0
  constructor
  · refine Classical.byContradiction fun c => ?_
    have e1 : f.Num * (D * 2) < 0 := Int.mul_neg_of_neg_of_pos (by omega) (by omega)
    have e2 : 0 ≤ T * f.Den := Int.mul_nonneg ht.1 (by omega)
    omega
  · refine Classical.byContradiction fun c => ?_
    have e1 : f.Den * (D * 2) < f.Num * (D * 2) := Int.mul_lt_mul_of_pos_right (by omega) (by omega)
    have e2 : T * f.Den ≤ (D * 2) * f.Den := Int.mul_le_mul_of_nonneg_right (by omega) (by omega)
    rw [Int.mul_comm (D * 2)] at e2; omega
theorem frNum_neg (n d : Int) : frNum (-n) d = -frNum n d := by
  unfold frNum
  rw [Int.neg_gcd, Int.neg_tdiv]
  split <;> rfl
theorem frDen_negn (n d : Int) : frDen (-n) d = frDen n d := by unfold frDen; rw [Int.neg_gcd]
theorem frIn_neg (n d : Int) : frIn (-n) d = frIn n d := by
  unfold frIn
  rw [frNum_neg, frDen_negn]
  congr 1; rw [eq_iff_iff]; omega
theorem sb_swap (x y : Frac) : sbIn y x = sbIn x y ∧ abF (sbOf y x) = abF (sbOf x y) := by
  have e1 : y.Num * x.Den - x.Num * y.Den = -(x.Num * y.Den - y.Num * x.Den) := by omega
  have e2 : y.Den * x.Den = x.Den * y.Den := Int.mul_comm _ _
  unfold sbIn sbOf
  rw [e1, e2, frIn_neg]
  refine ⟨rfl, ?_⟩
  unfold frOf
  rw [frIn_neg, frNum_neg, frDen_negn]
  split
  · unfold abF; simp
  · rfl
theorem hd_swap : ∀ (x y : List Frac) (s : Frac), hdGo y x s = hdGo x y s
  | [], [], s => rfl
  | [], _ :: _, s => rfl
  | _ :: _, [], s => rfl
  | a :: x, b :: y, s => by
    obtain ⟨e1, e2⟩ := sb_swap a b
    simp only [hdGo]
    rw [e1, e2, hd_swap x y]
theorem ds_swap (a b : List Int) : dsAll b a = dsAll a b := by
  have e : dsIn0 b a = dsIn0 a b := by
    unfold dsIn0
    rw [Bool.eq_iff_iff]; simp only [Bool.and_eq_true, decide_eq_true_eq]
    exact ⟨fun h => ⟨h.2.1, h.1, h.2.2.symm⟩, fun h => ⟨h.2.1, h.1, h.2.2.symm⟩⟩
  unfold dsAll
  rw [e, hd_swap]
end Go.Proofs.Ytbegmfmabcpofaa
