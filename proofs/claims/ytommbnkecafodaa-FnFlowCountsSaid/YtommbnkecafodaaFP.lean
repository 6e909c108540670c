/- push: along a shortest path as long as there is one. -/
import Derived.Test.YtommbnkecafodaaFO
set_option linter.unusedVariables false
set_option autoImplicit false
namespace Go.Gv
theorem sN_but {n k : Nat} {f g : Nat → Nat} (hk : k < n) (h : f k = g k + 1) (ho : ∀ i, i < n → i ≠ k → f i = g i) : sN n f = sN n g + 1 := by
  induction n with
  | zero => omega
  | succ n ih =>
    simp only [sN]
    by_cases e : k = n
    · subst e; rw [h, sN_congr (f := f) (g := g) (fun i hi => ho i (by omega) (by omega))]; omega
    · rw [ih (by omega) (fun i hi hn => ho i (by omega) hn), ho n (by omega) (by omega)]; omega
theorem sN_le {n : Nat} {f : Nat → Nat} (h : ∀ i, i < n → f i ≤ 1) : sN n f ≤ n := by
  induction n with
  | zero => exact Nat.le_refl _
  | succ n ih => simp only [sN]; have := ih fun i hi => h i (by omega); have := h n (by omega); omega
theorem edge_dv {N u v : Nat} {s : Int} {q q' r : Nat → Nat → Int} (huv : u ≠ v) (hu : u < N) (hv : v < N)
    (h : ∀ a b, q' a b = if a = v ∧ b = u then q v u + s else if a = u ∧ b = v then q u v - s else q a b) (w : Nat) :
    sm N (fun x => r w x - q' w x) = sm N (fun x => r w x - q w x) + (if w = u then s else 0) - (if w = v then s else 0) := by
  have e : sm N (fun x => r w x - q' w x) - sm N (fun x => r w x - q w x) = (if w = u then s else 0) - (if w = v then s else 0) := by
    rw [← sm_sub]
    by_cases c : w = u
    · subst c
      rw [sm_one hv]
      · rw [h, if_neg (fun d => huv d.1), if_pos ⟨rfl, rfl⟩, if_pos rfl, if_neg huv]; omega
      · intro x hx hxn
        rw [h, if_neg (fun d => huv d.1), if_neg (fun d => hxn d.2)]; omega
    · by_cases c2 : w = v
      · subst c2
        rw [sm_one hu]
        · rw [h, if_pos ⟨rfl, rfl⟩, if_neg c, if_pos rfl]; omega
        · intro x hx hxn
          rw [h, if_neg (fun d => hxn d.2), if_neg (fun d => c d.1)]; omega
      · rw [if_neg c, if_neg c2, sm_zero]; · rfl
        intro x hx
        rw [h, if_neg (fun d => c2 d.1), if_neg (fun d => c d.1)]; omega
  omega
end Go.Gv
namespace Go.Proofs.Ytommbnkecafodaa
open Go Go.RowKit Go.Gv

def und (N : Nat) (back : List Int) : Nat := sN N fun v => if back.getD v 0 < 0 then 1 else 0
theorem und_set {N v : Nat} {back : List Int} {x : Int} (hv : v < N) (hl : back.length = N) (h : back.getD v 0 < 0) (hx : 0 ≤ x) : und N back = und N (back.set v x) + 1 := by
  unfold und
  refine sN_but hv ?_ fun i hi hn => ?_
  · rw [getD_set (by omega), if_pos rfl, if_pos h, if_neg (by omega)]
  · rw [getD_set (by omega), if_neg hn]
/-- The tree of what has been reached: who reached it, in what order. -/
structure Bf (N : Nat) (r : Nat → Nat → Int) (s : Nat) (back queue : List Int) (d : Nat → Nat) (M : Nat) : Prop where
  bl : back.length = N
  src : back.getD s 0 = (s : Int)
  tr : ∀ v, v < N → v ≠ s → 0 ≤ back.getD v 0 → ∃ u : Nat, u < N ∧ back.getD v 0 = (u : Int) ∧ 0 ≤ back.getD u 0 ∧ d u < d v ∧ 0 < r u v
  lt : ∀ v, v < N → 0 ≤ back.getD v 0 → d v < M
  qu : ∀ q ∈ queue, ∃ u : Nat, q = (u : Int) ∧ u < N ∧ 0 ≤ back.getD u 0
theorem Bf.add {N s u v M : Nat} {r : Nat → Nat → Int} {back queue : List Int} {d : Nat → Nat} (b : Bf N r s back queue d M) (hu : u < N) (hv : v < N) (hbu : 0 ≤ back.getD u 0) (hbv : back.getD v 0 < 0) (hr : 0 < r u v) :
    Bf N r s (back.set v (u : Int)) (queue ++ [(v : Int)]) (fun x => if x = v then M else d x) (M + 1) := by
  have hl := b.bl
  have keep : ∀ w, 0 ≤ back.getD w 0 → w ≠ v := fun w hw e => by subst e; omega
  have gs : ∀ w, (back.set v (u : Int)).getD w 0 = if w = v then (u : Int) else back.getD w 0 := fun w => getD_set (by omega)
  refine ⟨by rw [List.length_set]; exact hl, ?_, fun w hw hws h => ?_, fun w hw h => ?_, fun q hq => ?_⟩
  · rw [gs, if_neg (by have := b.src; intro e; rw [e] at this; omega)]; exact b.src
  · rw [gs] at h
    by_cases c : w = v
    · subst c
      refine ⟨u, hu, by rw [gs, if_pos rfl], ?_, ?_, hr⟩
      · rw [gs, if_neg (keep u hbu)]; exact hbu
      · show (if u = w then M else d u) < (if w = w then M else d w)
        rw [if_neg (keep u hbu), if_pos rfl]; exact b.lt u hu hbu
    · rw [if_neg c] at h
      obtain ⟨x, h1, h2, h3, h4, h5⟩ := b.tr w hw hws h
      refine ⟨x, h1, by rw [gs, if_neg c]; exact h2, by rw [gs, if_neg (keep x h3)]; exact h3, ?_, h5⟩
      show (if x = v then M else d x) < (if w = v then M else d w)
      rw [if_neg (keep x h3), if_neg c]; exact h4
  · rw [gs] at h
    show (if w = v then M else d w) < M + 1
    by_cases c : w = v
    · rw [if_pos c]; omega
    · rw [if_neg c] at h ⊢; have := b.lt w hw h; omega
  · rcases List.mem_append.1 hq with hq | hq
    · obtain ⟨x, h1, h2, h3⟩ := b.qu q hq
      exact ⟨x, h1, h2, by rw [gs, if_neg (keep x h3)]; exact h3⟩
    · rw [List.mem_singleton] at hq
      exact ⟨v, hq, hv, by rw [gs, if_pos rfl]; omega⟩
theorem Bf.chain {N s M : Nat} {r : Nat → Nat → Int} {back queue : List Int} {d : Nat → Nat} (b : Bf N r s back queue d M) : ∀ (k v : Nat), d v ≤ k → v < N → 0 ≤ back.getD v 0 →
    ∃ (K : Nat) (c : Nat → Nat), c 0 = v ∧ c K = s ∧ ∀ j, j < K → c j ≠ s ∧ c j < N ∧ back.getD (c j) 0 = (c (j + 1) : Int) ∧ c (j + 1) < N ∧ d (c (j + 1)) < d (c j) ∧ 0 < r (c (j + 1)) (c j) := by
  intro k
  induction k with
  | zero =>
    intro v hd hv hb
    by_cases e : v = s
    · exact ⟨0, fun _ => v, rfl, e, fun j hj => by omega⟩
    · obtain ⟨u, h1, h2, h3, h4, h5⟩ := b.tr v hv e hb; omega
  | succ k ih =>
    intro v hd hv hb
    by_cases e : v = s
    · exact ⟨0, fun _ => v, rfl, e, fun j hj => by omega⟩
    · obtain ⟨u, h1, h2, h3, h4, h5⟩ := b.tr v hv e hb
      obtain ⟨K, c, c0, cK, hc⟩ := ih u (by omega) h1 h3
      refine ⟨K + 1, fun j => Nat.casesOn j v c, rfl, cK, fun j hj => ?_⟩
      cases j with
      | zero => refine ⟨e, hv, ?_, ?_, ?_, ?_⟩ <;> simp only [c0] <;> assumption
      | succ j => exact hc j (by omega)
theorem fst_ok {N s t : Nat} {back : List Int} {d : Nat → Nat} {r : List (List Int)} {c : Nat → Nat} {K : Nat} {L : Int} {E : Int → Prop} (hr : Sh N N r) (hbl : back.length = N) (c0 : c 0 = t) (cK : c K = s)
    (hc : ∀ j, j < K → c j ≠ s ∧ c j < N ∧ back.getD (c j) 0 = (c (j + 1) : Int) ∧ c (j + 1) < N ∧ d (c (j + 1)) < d (c j) ∧ 0 < mt r (c (j + 1)) (c j)) (hL : 0 < L)
    (h : ∀ step, 0 < step → step ≤ L → (∀ j, j < K → step ≤ mt r (c (j + 1)) (c j)) → E step) :
    Loop2 (fun (step : Int) (vx298 : Int) nx303 => br (vx298 != (s : Int)) (idx back vx298 fun x305 => idx r x305 fun x314 => idx x314 vx298 fun x326 => idx back vx298 fun x335 => nx303 (mn step x326) x335) (E step)) L (t : Int) := by
  refine ⟨fun step v => 0 < step ∧ step ≤ L ∧ ∃ k, k ≤ K ∧ v = (c k : Int) ∧ ∀ j, j < k → step ≤ mt r (c (j + 1)) (c j), fun _ v => d v.toNat, ⟨hL, Int.le_refl _, 0, Nat.zero_le _, by rw [c0], fun j hj => by omega⟩, ?_⟩
  rintro step _ ⟨h1, h2, k, hk, rfl, h3⟩
  refine br_ne (fun g => ?_) (fun g => ?_)
  · have hkK : k < K := by
      refine Classical.byContradiction fun hn => g ?_
      have : k = K := by omega
      rw [this, cK]
    obtain ⟨e1, e2, e3, e4, e5, e6⟩ := hc k hkK
    refine idx_gd (d := 0) rfl (by omega) (idx_mt hr e3 rfl e4 e2 (idx_gd (d := 0) rfl (by omega) ⟨⟨?_, ?_, k + 1, by omega, e3, fun j hj => ?_⟩, ?_⟩))
    · show 0 < mn step _; unfold mn; split <;> omega
    · show mn step _ ≤ L; unfold mn; split <;> omega
    · show mn step _ ≤ _
      by_cases e : j = k
      · subst e; unfold mn; split <;> omega
      · have := h3 j (by omega); unfold mn; split <;> omega
    · show d (back.getD (c k) 0).toNat < d (Int.toNat (c k : Int)); rw [e3, Int.toNat_natCast, Int.toNat_natCast]; exact e5
  · refine h step h1 h2 fun j hj => ?_
    by_cases e : k = K
    · subst e; exact h3 j hj
    · exact ((hc k (by omega)).1 (by omega)).elim
structure Sd (N : Nat) (r q : Nat → Nat → Int) (d : Nat → Nat) (step : Int) (v t : Nat) : Prop where
  nn : ∀ a b, a < N → b < N → 0 ≤ q a b
  pr : ∀ a b, a < N → b < N → q a b + q b a = r a b + r b a
  dv : ∀ a, a < N → sm N (fun x => r a x - q a x) = (if a = v then step else 0) - (if a = t then step else 0)
  un : ∀ a b, a < N → b < N → d a < d v ∨ d b < d v → q a b = r a b
theorem snd_ok {N s t : Nat} {back : List Int} {d : Nat → Nat} {r : List (List Int)} {c : Nat → Nat} {K : Nat} {step : Int} {E : List (List Int) → Prop} (hr : Sh N N r) (hbl : back.length = N) (ht : t < N) (c0 : c 0 = t) (cK : c K = s)
    (hc : ∀ j, j < K → c j ≠ s ∧ c j < N ∧ back.getD (c j) 0 = (c (j + 1) : Int) ∧ c (j + 1) < N ∧ d (c (j + 1)) < d (c j) ∧ 0 < mt r (c (j + 1)) (c j)) (hst : 0 < step ∧ step ≤ 1000000000) (hle : ∀ j, j < K → step ≤ mt r (c (j + 1)) (c j))
    (h0 : ∀ u v, u < N → v < N → 0 ≤ mt r u v ∧ mt r u v ≤ 2000000000)
    (h : ∀ q, Sh N N q → (∀ a b, a < N → b < N → 0 ≤ mt q a b) → (∀ a b, a < N → b < N → mt q a b + mt q b a = mt r a b + mt r b a) → (∀ a, a < N → sm N (fun x => mt r a x - mt q a x) = (if a = s then step else 0) - (if a = t then step else 0)) → E q) :
    Loop2 (fun (r344 : List (List Int)) (vx350 : Int) nx357 =>
      br (vx350 != (s : Int)) (idx back vx350 fun x359 =>
      idx r344 x359 fun x371 =>
      idx x371 vx350 fun x382 =>
      (0 : Int) ≤ vx350 ∧ Int.toNat vx350 < List.length x371 ∧ (
      idx (List.set r344 (Int.toNat x359) (List.set x371 (Int.toNat vx350) (wr (x382 - step)))) vx350 fun x407 =>
      idx back vx350 fun x423 =>
      idx x407 x423 fun x436 =>
      (0 : Int) ≤ x423 ∧ Int.toNat x423 < List.length x407 ∧ (
      idx back vx350 fun x467 =>
      nx357 (List.set (List.set r344 (Int.toNat x359) (List.set x371 (Int.toNat vx350) (wr (x382 - step)))) (Int.toNat vx350) (List.set x407 (Int.toNat x423) (wr (x436 + step)))) x467)))
      (E r344)) r (t : Int) := by
  refine ⟨fun q v => Sh N N q ∧ ∃ k, k ≤ K ∧ v = (c k : Int) ∧ Sd N (mt r) (mt q) d step (c k) t, fun _ v => d v.toNat, ⟨hr, 0, Nat.zero_le _, by rw [c0], fun a b ha hb => (h0 a b ha hb).1, fun _ _ _ _ => rfl, fun a ha => by rw [sm_zero (fun i _ => Int.sub_self _), c0]; omega, fun _ _ _ _ _ => rfl⟩, ?_⟩
  rintro q _ ⟨hq, k, hk, rfl, S⟩
  refine br_ne (fun g => ?_) (fun g => ?_)
  · have hkK : k < K := by
      refine Classical.byContradiction fun hn => g ?_
      have : k = K := by omega
      rw [this, cK]
    obtain ⟨e1, e2, e3, e4, e5, e6⟩ := hc k hkK
    have hle' := hle k hkK
    have hne : c (k + 1) ≠ c k := fun e => by rw [e] at e5; omega
    have eq1 := S.un (c (k + 1)) (c k) e4 e2 (.inl e5)
    have hb1 := h0 _ _ e4 e2; have hb2 := h0 _ _ e2 e4
    have hp := S.pr _ _ e4 e2; have hn1 := S.nn _ _ e2 e4
    refine idx_gd (d := 0) rfl (by omega) (idx_gd (i := c (k + 1)) (d := []) e3 (by rw [hq.1]; exact e4) (idx_gd (d := 0) rfl (by rw [hq.2 _ e4]; exact e2) ⟨by omega, by rw [Int.toNat_natCast, hq.2 _ e4]; exact e2, ?_⟩))
    rw [e3, Int.toNat_natCast, Int.toNat_natCast]
    have ew : wr ((q.getD (c (k + 1)) []).getD (c k) 0 - step) = mt q (c (k + 1)) (c k) - step := by
      show wr (mt q _ _ - step) = _; exact wr_in (by omega) (by omega)
    rw [ew]
    have hq1 := mst_sh (j := c k) (v := mt q (c (k + 1)) (c k) - step) hq e4
    have em : mt (mst q (c (k + 1)) (c k) (mt q (c (k + 1)) (c k) - step)) (c k) (c (k + 1)) = mt q (c k) (c (k + 1)) := by
      rw [mst_mt hq e4 e2, if_neg (fun d => hne d.1.symm)]
    refine idx_gd (d := []) rfl (by show _ < (mst q (c (k + 1)) (c k) _).length; rw [hq1.1]; exact e2) (idx_gd (d := 0) rfl (by omega) (idx_gd (i := c (k + 1)) (d := 0) e3 (by show _ < ((mst q (c (k + 1)) (c k) _).getD (c k) []).length; rw [hq1.2 _ e2]; exact e4) ⟨by rw [e3]; omega, ?_, idx_gd (d := 0) rfl (by omega) ?_⟩))
    · rw [e3, Int.toNat_natCast]; show _ < ((mst q (c (k + 1)) (c k) _).getD (c k) []).length; rw [hq1.2 _ e2]; exact e4
    rw [e3, Int.toNat_natCast]
    have ew2 : wr (((mst q (c (k + 1)) (c k) (mt q (c (k + 1)) (c k) - step)).getD (c k) []).getD (c (k + 1)) 0 + step) = mt q (c k) (c (k + 1)) + step := by
      show wr (mt (mst q (c (k + 1)) (c k) (mt q (c (k + 1)) (c k) - step)) (c k) (c (k + 1)) + step) = _
      rw [em]; exact wr_in (by omega) (by omega)
    show _ ∧ _
    have ef : ∀ a b, mt (mst (mst q (c (k + 1)) (c k) (mt q (c (k + 1)) (c k) - step)) (c k) (c (k + 1)) (mt q (c k) (c (k + 1)) + step)) a b = if a = c k ∧ b = c (k + 1) then mt q (c k) (c (k + 1)) + step else if a = c (k + 1) ∧ b = c k then mt q (c (k + 1)) (c k) - step else mt q a b := fun a b => by
      rw [mst_mt hq1 e2 e4, mst_mt hq e4 e2]
    refine ⟨?_, ?_⟩
    · refine ⟨mst_sh hq1 e2, k + 1, by omega, rfl, ?_⟩
      have ee : (List.set (mst q (c (k + 1)) (c k) (mt q (c (k + 1)) (c k) - step)) (c k) (List.set ((mst q (c (k + 1)) (c k) (mt q (c (k + 1)) (c k) - step)).getD (c k) []) (c (k + 1)) (wr (((mst q (c (k + 1)) (c k) (mt q (c (k + 1)) (c k) - step)).getD (c k) []).getD (c (k + 1)) 0 + step)))) = mst (mst q (c (k + 1)) (c k) (mt q (c (k + 1)) (c k) - step)) (c k) (c (k + 1)) (mt q (c k) (c (k + 1)) + step) := by
        rw [ew2]; rfl
      show Sd N (mt r) (mt (List.set (mst q (c (k + 1)) (c k) (mt q (c (k + 1)) (c k) - step)) (c k) (List.set ((mst q (c (k + 1)) (c k) (mt q (c (k + 1)) (c k) - step)).getD (c k) []) (c (k + 1)) (wr (((mst q (c (k + 1)) (c k) (mt q (c (k + 1)) (c k) - step)).getD (c k) []).getD (c (k + 1)) 0 + step))))) d step (c (k + 1)) t
      rw [ee]
      refine ⟨fun a b ha hb => ?_, fun a b ha hb => ?_, fun a ha => ?_, fun a b ha hb hd => ?_⟩
      · rw [ef]; have := S.nn a b ha hb
        split
        · omega
        · split
          · omega
          · exact this
      · rw [ef, ef]; have hpab := S.pr a b ha hb
        by_cases q1 : a = c k ∧ b = c (k + 1)
        · obtain ⟨rfl, rfl⟩ := q1
          rw [if_pos ⟨rfl, rfl⟩, if_neg (fun d => hne d.1), if_pos ⟨rfl, rfl⟩]; omega
        · rw [if_neg q1]
          by_cases q2 : a = c (k + 1) ∧ b = c k
          · obtain ⟨rfl, rfl⟩ := q2
            rw [if_pos ⟨rfl, rfl⟩, if_pos ⟨rfl, rfl⟩]; omega
          · rw [if_neg q2, if_neg (fun d => q2 ⟨d.2, d.1⟩), if_neg (fun d => q1 ⟨d.2, d.1⟩)]; exact hpab
      · rw [edge_dv (q := mt q) hne e4 e2 ef a, S.dv a ha]
        split <;> split <;> split <;> omega
      · rw [ef, if_neg (fun e => by obtain ⟨rfl, rfl⟩ := e; omega), if_neg (fun e => by obtain ⟨rfl, rfl⟩ := e; omega)]
        exact S.un a b ha hb (by omega)
    · show d (Int.toNat (c (k + 1) : Int)) < d (Int.toNat (c k : Int)); rw [Int.toNat_natCast, Int.toNat_natCast]; exact e5
  · have e : k = K := by
      refine Classical.byContradiction fun hn => (hc k (by omega)).1 (by omega)
    subst e
    refine h q hq S.nn S.pr fun a ha => ?_
    rw [S.dv a ha, cK]
end Go.Proofs.Ytommbnkecafodaa
