/- Plain facts about elimination, completions and smallest covers. -/
import Derived.Test.YtdaojggigfnnpaaPkPure
import Derived.Test.YtdaojggigfnnpaaNB
set_option linter.unusedVariables false
set_option autoImplicit false
namespace Go.Proofs.Ytdaojggigfnnpaa
open Go Go.RowKit Go.Gv

theorem inE_ofV {v : Int} : ∀ {r : List Variable} {n : Nat} {t : List Int}, t.length = r.length → (∀ i (h : i < r.length) (h2 : i < t.length), frs v (n + i) r[i] ≤ t[i] ∧ t[i] ≤ full r[i]) → inE v n r t
  | [], _, [], _, _ => trivial
  | x :: r, n, s :: t, hl, h => by
    have h0 := h 0 (by simp) (by simp)
    refine ⟨h0, inE_ofV (by simpa using hl) fun i h1 h2 => ?_⟩
    have := h (i + 1) (Nat.succ_lt_succ h1) (Nat.succ_lt_succ h2)
    rw [show n + 1 + i = n + (i + 1) by omega]
    exact this
theorem inE_atV {v : Int} : ∀ {r : List Variable} {n : Nat} {t : List Int} (i : Nat) (h : inE v n r t) (hi : i < r.length) (hi' : i < t.length), frs v (n + i) r[i] ≤ t[i] ∧ t[i] ≤ full r[i]
  | x :: r, n, s :: t, 0, h, _, _ => h.1
  | x :: r, n, s :: t, i + 1, h, hi, hi' => by
    have := inE_atV (r := r) (n := n + 1) (t := t) i h.2 (by simpa using hi) (by simpa using hi')
    rw [show n + (i + 1) = n + 1 + i by omega]
    exact this
theorem growV {v : Int} {sx : List Variable} {M : List Int → Bool} (hL : Lok sx) : ∀ (n : Nat) (t : List Int), wt t ≤ n → inE v 0 sx t → M t = true →
    ∃ t', inE v 0 sx t' ∧ keep sx M t' = true ∧ ∀ j (y : Int), tb (gi t j) y = true → tb (gi t' j) y = true := by
  intro n
  induction n with
  | zero =>
    intro t hn ht hM
    by_cases hg : grw sx M t = true
    · exfalso
      unfold grw at hg
      obtain ⟨k, hk, hg⟩ := range_any_of hg
      have hB := inE_B hL.2 ht
      have hsb := inB_Sb hL hB
      have := hsb _ (List.getElem_mem hk)
      have h1 := wt_at hk
      omega
    · exact ⟨t, ht, by unfold keep; rw [hM]; simp only [Bool.not_eq_true] at hg; rw [hg]; rfl, fun _ _ h => h⟩
  | succ n ih =>
    intro t hn ht hM
    by_cases hg : grw sx M t = true
    · have hg' := hg
      unfold grw at hg'
      obtain ⟨k, hk, hg'⟩ := range_any_of hg'
      obtain ⟨y, hy, hg'⟩ := range_any_of hg'
      simp only [Bool.and_eq_true, Bool.not_eq_true'] at hg'
      have hB := inE_B hL.2 ht
      have hl := inB_length hB
      have hsb := inB_Sb hL hB
      have hb := hsb _ (List.getElem_mem hk)
      have ⟨_, _, hlv⟩ := lv_at hL (show k < sx.length by omega)
      rw [vAt_at (by omega)] at hy
      have hin := inE_set (k := k) (y := y) hL.2 ht (by omega) (by rw [vAt_at (by omega)]; exact hy)
      have hb2 := sOr_b (y := y) hb (by omega)
      have hlt := sOr_gt (s := t[k]) (y := y) hb.1 (by rw [← gi_at hk]; exact hg'.1)
      have hwt := wt_set hsb hk hlt hb2.2
      rw [gi_at hk] at hin hg'
      obtain ⟨t', h1, h2, h3⟩ := ih _ (by omega) hin hg'.2
      refine ⟨t', h1, h2, fun j z hz => h3 j z ?_⟩
      rw [gi_set hk]
      split
      · rename_i e; subst e
        rw [gi_at hk] at hz
        rw [tb_sOr, hz]; rfl
      · exact hz
    · exact ⟨t, ht, by unfold keep; rw [hM]; simp only [Bool.not_eq_true] at hg; rw [hg]; rfl, fun _ _ h => h⟩

theorem hasB1 (v i : Nat) : hasB [(v : Int)] (i : Int) = decide (i = v) := by
  unfold hasB
  by_cases e : i = v
  · subst e; simp
  · have : ¬ ((v : Int) = (i : Int)) := by omega
    simp [this, e]
theorem elim_iff {sx : List Variable} {l : List Edit} {vs : List Int} {v : Nat} (hL : Lok sx) (hv : v < sx.length) (hf : fitOk sx vs = true) : (maxE sx l (v : Int)).any (fun e => boxIn e.Sets vs) = !compl sx l vs [(v : Int)] := by
  unfold fitOk at hf
  simp only [Bool.and_eq_true, decide_eq_true_eq] at hf
  have hlen := hf.1
  have hfit : ∀ i, i < sx.length → 0 ≤ gi vs i ∧ gi vs i < (lv (vAt sx i) : Int) := fun i hi => by
    have h1 := inb_iff'.1 (range_all_at hf.2 hi)
    have h2 := (lv_at hL hi).1
    rw [vAt_at hi] at h1 ⊢
    omega
  cases hcomp : compl sx l vs [(v : Int)] with
  | false =>
    let t0 : List Int := (List.range sx.length).map fun (i : Nat) => if i = v then full (vAt sx i) else one (gi vs i)
    have hl0 : t0.length = sx.length := by simp [t0]
    have hg0 : ∀ i, i < sx.length → gi t0 i = if i = v then full (vAt sx i) else one (gi vs i) := fun i hi => by
      rw [gi_at (by omega)]; simp [t0]
    have hE0 : inE (v : Int) 0 sx t0 := inE_ofV hl0 fun i h1 h2 => by
      rw [← gi_at h2, hg0 i h1, ← vAt_at h1, Nat.zero_add]
      unfold frs
      by_cases e : i = v
      · rw [if_pos e, if_pos (by omega)]; exact ⟨Int.le_refl _, Int.le_refl _⟩
      · rw [if_neg e, if_neg (by omega)]; exact one_full (hfit i h1)
    have hfree : freeP (pass sx l) t0 = true := List.all_eq_true.2 fun c hc => by
      cases hb : boxIn t0 c with
      | false => rfl
      | true =>
        exfalso
        have hcl := ((pass_ok (l := l) hL).2 c hc).2
        have hcv := ((pass_ok (l := l) hL).2 c hc).1
        have : agree sx [(v : Int)] vs c = true := agree_iff.2 fun i hi hbi => by
          have h1 := boxIn_iff.1 hb i (by omega)
          rw [hasB1] at hbi
          have hne := of_decide_eq_false hbi
          rw [hg0 i hi, if_neg hne] at h1
          rw [tb_one] at h1
          have h2 := of_decide_eq_true h1
          have h3 := hfit i hi
          have h4 := hcv (gi c i) (by rw [gi_at (by omega)]; exact List.getElem_mem _)
          omega
        have : compl sx l vs [(v : Int)] = true := List.any_eq_true.2 ⟨c, hc, this⟩
        rw [hcomp] at this; cases this
    obtain ⟨t, ht, hk, hsub⟩ := growV (M := freeP (pass sx l)) hL (wt t0) t0 (Nat.le_refl _) hE0 hfree
    have hmem : (⟨t⟩ : Edit) ∈ maxE sx l (v : Int) := by
      unfold maxE res
      exact List.mem_map.2 ⟨t, List.mem_filter.2 ⟨mem_enum.2 ht, hk⟩, rfl⟩
    refine List.any_eq_true.2 ⟨_, hmem, boxIn_iff.2 fun i hi => hsub i _ ?_⟩
    rw [hg0 i (by omega)]
    have hfi := hfit i (by omega)
    split
    · have := tb_full (x := vAt sx i) (y := (gi vs i).toNat)
      rw [show (((gi vs i).toNat : Nat) : Int) = gi vs i by omega] at this
      rw [this]; exact decide_eq_true (by omega)
    · rw [tb_one]; exact decide_eq_true rfl
  | true =>
    obtain ⟨c, hc, hag⟩ := List.any_eq_true.1 hcomp
    have hag := agree_iff.1 hag
    have hcl := ((pass_ok (l := l) hL).2 c hc).2
    obtain ⟨ci, _, hci⟩ := List.mem_map.1 hc
    show _ = false
    rw [List.any_eq_false]
    intro e he hb
    have ⟨hE, hfree⟩ := maxE_mem he
    have hel := inB_length (inE_B hL.2 hE)
    have h1 := List.all_eq_true.1 hfree c hc
    have : boxIn e.Sets c = true := boxIn_iff.2 fun i hi => by
      have hi' : i < sx.length := by omega
      by_cases ev : i = v
      · have hfull : gi e.Sets i = full (vAt sx i) := by
          have := inE_atV i hE hi' (by omega)
          rw [Nat.zero_add] at this
          unfold frs at this
          rw [if_pos (by omega)] at this
          rw [gi_at (by omega), vAt_at hi']; omega
        have hf := vals_fit hL ci i hi'
        rw [hci] at hf
        rw [hfull]
        have := tb_full (x := vAt sx i) (y := (gi c i).toNat)
        rw [show (((gi c i).toNat : Nat) : Int) = gi c i by omega] at this
        rw [this]; exact decide_eq_true (by omega)
      · rw [hag i hi' (by rw [hasB1]; exact decide_eq_false ev)]
        exact boxIn_iff.1 hb i (by omega)
    rw [this] at h1
    cases h1
/-! ### the reference's completions -/
theorem oth_len {sx : List Variable} {vars : List Int} : (oth sx vars).length ≤ sx.length := by
  unfold oth
  rw [List.length_map]
  have := List.length_filter_le (fun (i : Nat) => !hasB vars (i : Int)) (List.range sx.length)
  rwa [List.length_range] at this
theorem oth_at {sx : List Variable} {vars : List Int} {j : Nat} (hj : j < (oth sx vars).length) : ∃ i : Nat, (oth sx vars)[j] = (i : Int) ∧ i < sx.length := by
  have := List.getElem_mem hj
  unfold oth at this
  obtain ⟨i, hi, e⟩ := List.mem_map.1 this
  exact ⟨i, e.symm, List.mem_range.1 (List.mem_filter.1 hi).1⟩
theorem oth_rising {sx : List Variable} {vars : List Int} : risOk sx.length (oth sx vars) = true := by
  have hp : (oth sx vars).Pairwise (· < ·) := by
    unfold oth
    refine List.Pairwise.map _ ?_ (List.Pairwise.filter _ List.pairwise_lt_range)
    intro a b h; omega
  have hp := List.pairwise_iff_getElem.1 hp
  unfold risOk
  refine List.all_eq_true.2 fun j hj => ?_
  have hj := List.mem_range.1 hj
  obtain ⟨i, ei, hi⟩ := oth_at hj
  simp only [Bool.and_eq_true, Bool.or_eq_true, decide_eq_true_eq]
  refine ⟨inb_iff'.2 ?_, ?_⟩
  · rw [gi_at hj, ei]; omega
  · rcases Nat.eq_zero_or_pos j with h | h
    · exact .inl h
    · right
      rw [gi_at hj, gi_at (show j - 1 < _ by omega)]
      exact hp (j - 1) j (by omega) hj (by omega)
theorem eComplete_ok {sx : List Variable} {l : List Edit} {vs vars : List Int} {Q : List Int → Bool → Prop} (hL : Lok sx) (he : Eok sx.length l) (hvs : vs.length = sx.length)
    (hq : ∀ r : List Int, Q r (compl sx l vs vars)) : spec_eComplete sx l (oth sx vars) vs Q := by
  have h0 := hL.1
  have hcs := cnt_small' hL
  have ho := oth_len (sx := sx) (vars := vars)
  unfold spec_eComplete
  refine ⟨fun x => ∃ n : Nat, x = (n : Int) ∧ n ≤ cnt sx ∧ (List.range n).all (fun i => failsB l (vals sx i) || !agree sx vars vs (vals sx i)) = true, fun x => ((cnt sx : Int) - x).toNat, ⟨0, rfl, Nat.zero_le _, by simp⟩, ?_⟩
  rintro x ⟨n, rfl, hn, hj⟩
  refine sCount_ok hL (br_dec (fun g => sAt_ok hL (by omega) ?_) (fun g => ?_))
  · have hvl := vals_length sx n
    refine eFailed_ok (by rw [hvl]; exact he) (vals_ok n hL.2) (by omega) fun o hoo => ?_
    have e0 : ((ln o) == 0) = !failsB l (vals sx n) := by
      unfold ln
      cases hfb : failsB l (vals sx n) with
      | false => have := hoo.2 hfb; simp; exact List.eq_nil_of_length_eq_zero this
      | true =>
        have : ¬ o.length = 0 := fun c => by rw [hoo.1 c] at hfb; cases hfb
        simp; intro c; exact this (by rw [c]; rfl)
    rw [e0]
    refine loop2_list (xs := oth sx vars) (by omega) (fun f i => f = (!failsB l (vals sx n) && ((oth sx vars).take i).all (fun v => gi (vals sx n) v.toNat == gi vs v.toNat))) (by simp) ?_ ?_
    · rintro f i nx hi rfl hx
      obtain ⟨m, em, hm⟩ := oth_at hi
      refine jn_bool _ (hx _ rfl) fun k hk => idx_at hi ?_
      rw [List.take_succ_eq_append_getElem hi, List.all_append] at hk
      simp only [List.all_cons, List.all_nil, Bool.and_true] at hk
      rw [← Bool.and_assoc] at hk
      rw [em] at hk ⊢
      refine br_bo (fun g1 => idx_at (by omega) (idx_at (by omega) ?_)) (fun g1 => ?_)
      · rw [g1, Bool.true_and, Int.toNat_natCast, gi_at (show m < (vals sx n).length by omega), gi_at (show m < vs.length by omega)] at hk; exact hk
      · rw [g1, Bool.false_and] at hk; exact hk
    · rintro f rfl
      rw [List.take_length]
      have ea : ((oth sx vars).all fun v => gi (vals sx n) v.toNat == gi vs v.toNat) = agree sx vars vs (vals sx n) := rfl
      rw [ea]
      refine br_bo (fun g1 => ?_) (fun g1 => ?_)
      · simp only [Bool.and_eq_true, Bool.not_eq_true'] at g1
        have : compl sx l vs vars = true := List.any_eq_true.2 ⟨vals sx n, List.mem_map.2 ⟨n, List.mem_filter.2 ⟨List.mem_range.2 (by omega), by rw [g1.1]; rfl⟩, rfl⟩, g1.2⟩
        have h := hq (vals sx n); rw [this] at h; exact h
      · rw [wr_in (by omega) (by omega)]
        refine ⟨⟨n + 1, by omega, by omega, range_all_succ hj ?_⟩, by dsimp only; omega⟩
        cases hfb : failsB l (vals sx n) with
        | true => rfl
        | false => rw [hfb, Bool.not_false, Bool.true_and] at g1; rw [g1]; rfl
  · have e1 : n = cnt sx := by omega
    subst e1
    have : compl sx l vs vars = false := by
      unfold compl pass
      rw [List.any_map, List.any_eq_false]
      intro i hi
      have hf := List.mem_filter.1 hi
      have := List.all_eq_true.1 hj i hf.1
      have h2 : failsB l (vals sx i) = false := by simpa using hf.2
      rw [h2, Bool.false_or] at this
      simpa using this
    have h := hq []; rw [this] at h; exact h
end Go.Proofs.Ytdaojggigfnnpaa
