/- The plain law of IsCover: some completion passes exactly if every maximal edit that the values fail involves a variable that may be changed. -/
import Derived.Test.YtklajcbpnpkniaaEoPure
set_option linter.unusedVariables false
set_option autoImplicit false
namespace Go.Proofs.Ytklajcbpnpkniaa
open Go Go.RowKit Go.Gv

/-! ### bits of full sets and of single levels -/
theorem tb_full {x : Variable} {y : Nat} : tb (full x) (y : Int) = decide (y < lv x) := by
  unfold tb full
  have : (((2 ^ lv x : Nat) : Int) - 1).toNat = 2 ^ lv x - 1 := by omega
  rw [this, Int.toNat_natCast, Nat.testBit_two_pow_sub_one]
theorem full_of {x : Variable} {s : Int} (h : 0 ≤ s ∧ s ≤ full x) (hb : ∀ y : Nat, y < lv x → tb s (y : Int) = true) : s = full x := by
  have hf : full x = ((2 ^ lv x - 1 : Nat) : Int) := by
    have : 0 < 2 ^ lv x := Nat.pow_pos (by decide)
    unfold full; omega
  have h1 : s.toNat = 2 ^ lv x - 1 := by
    apply Nat.eq_of_testBit_eq; intro i
    rw [Nat.testBit_two_pow_sub_one]
    by_cases hi : i < lv x
    · have := hb i hi
      unfold tb at this; rw [Int.toNat_natCast] at this
      rw [this, decide_eq_true hi]
    · rw [decide_eq_false hi]
      have hp : 0 < 2 ^ lv x := Nat.pow_pos (by decide)
      exact Nat.testBit_lt_two_pow (Nat.lt_of_lt_of_le (show s.toNat < 2 ^ lv x by omega) (Nat.pow_le_pow_right (by decide) (by omega)))
  omega
def one (v : Int) : Int := ((2 ^ v.toNat : Nat) : Int)
theorem tb_one {v : Int} {y : Int} : tb (one v) y = decide (v.toNat = y.toNat) := by
  unfold tb one; rw [Int.toNat_natCast, Nat.testBit_two_pow]
theorem one_full {x : Variable} {v : Int} (h : 0 ≤ v ∧ v < (lv x : Int)) : 1 ≤ one v ∧ one v ≤ full x := by
  unfold one full
  have h1 : 2 ^ v.toNat < 2 ^ lv x := Nat.pow_lt_pow_right (by decide) (by omega)
  have : 0 < 2 ^ v.toNat := Nat.pow_pos (by decide)
  omega
theorem sOr_gt {s : Int} {y : Nat} (h : 0 ≤ s) (hb : tb s (y : Int) = false) : s < sOr s (y : Int) := by
  have h1 := sOr_ge (y := y) h
  have h2 : sOr s (y : Int) ≠ s := fun e => by
    have := tb_sOr (s := s) (x := (y : Int)) (y := (y : Int))
    rw [e, hb] at this; simp at this
  omega
/-! ### a free list of sets lies in one that does not grow -/
def wt : List Int → Nat
  | [] => 0
  | s :: t => (256 - s.toNat) + wt t
theorem wt_set : ∀ {t : List Int} {k : Nat} {s : Int}, Sb t → (hk : k < t.length) → t[k] < s → s < 256 → wt (t.set k s) < wt t
  | u :: t, 0, s, hs, _, h, h2 => by
    have h1 : u < s := h
    have := hs u (List.mem_cons_self ..)
    simp only [List.set_cons_zero, wt]; omega
  | u :: t, k + 1, s, hs, hk, h, h2 => by
    have := wt_set (t := t) (k := k) (s := s) (fun a ha => hs a (List.mem_cons_of_mem _ ha)) (by simpa using hk) (by simpa using h) h2
    simp only [List.set_cons_succ, wt]; omega
theorem gi_set {t : List Int} {k j : Nat} {s : Int} (hk : k < t.length) : gi (t.set k s) j = if k = j then s else gi t j := by
  unfold gi
  by_cases e : k = j
  · subst e; simp [List.getD_eq_getElem?_getD, hk]
  · simp [List.getD_eq_getElem?_getD, e]
theorem wt_at : ∀ {t : List Int} {k : Nat} (hk : k < t.length), 256 - t[k].toNat ≤ wt t
  | u :: t, 0, _ => by simp only [List.getElem_cons_zero, wt]; omega
  | u :: t, k + 1, hk => by
    have := wt_at (t := t) (k := k) (by simpa using hk)
    simp only [List.getElem_cons_succ, wt]; omega
theorem range_any_of {n : Nat} {p : Nat → Bool} (h : (List.range n).any p = true) : ∃ i, i < n ∧ p i = true := by
  obtain ⟨i, hi, hp⟩ := List.any_eq_true.1 h
  exact ⟨i, List.mem_range.1 hi, hp⟩
theorem grow {sx : List Variable} {M : List Int → Bool} (hL : Lok sx) : ∀ (n : Nat) (t : List Int), wt t ≤ n → inE (-1) 0 sx t → M t = true →
    ∃ t', inE (-1) 0 sx t' ∧ keep sx M t' = true ∧ ∀ j (y : Int), tb (gi t j) y = true → tb (gi t' j) y = true := by
  intro n
  induction n with
  | zero =>
    intro t hn ht hM
    by_cases hg : grw sx M t = true
    · exfalso
      unfold grw at hg
      obtain ⟨k, hk, hg⟩ := range_any_of hg
      have hB := inE_B hL.2 ht
      have hsb := inB_Sb hL hB
      have := hsb _ (List.getElem_mem hk)
      have h1 := wt_at hk
      omega
    · exact ⟨t, ht, by unfold keep; rw [hM]; simp only [Bool.not_eq_true] at hg; rw [hg]; rfl, fun _ _ h => h⟩
  | succ n ih =>
    intro t hn ht hM
    by_cases hg : grw sx M t = true
    · have hg' := hg
      unfold grw at hg'
      obtain ⟨k, hk, hg'⟩ := range_any_of hg'
      obtain ⟨y, hy, hg'⟩ := range_any_of hg'
      simp only [Bool.and_eq_true, Bool.not_eq_true'] at hg'
      have hB := inE_B hL.2 ht
      have hl := inB_length hB
      have hsb := inB_Sb hL hB
      have hb := hsb _ (List.getElem_mem hk)
      have ⟨_, _, hlv⟩ := lv_at hL (show k < sx.length by omega)
      rw [vAt_at (by omega)] at hy
      have hin := inE_set (k := k) (y := y) hL.2 ht (by omega) (by rw [vAt_at (by omega)]; exact hy)
      have hb2 := sOr_b (y := y) hb (by omega)
      have hlt := sOr_gt (s := t[k]) (y := y) hb.1 (by rw [← gi_at hk]; exact hg'.1)
      have hwt := wt_set hsb hk hlt hb2.2
      rw [gi_at hk] at hin hg'
      obtain ⟨t', h1, h2, h3⟩ := ih _ (by omega) hin hg'.2
      refine ⟨t', h1, h2, fun j z hz => h3 j z ?_⟩
      rw [gi_set hk]
      split
      · rename_i e; subst e
        rw [gi_at hk] at hz
        rw [tb_sOr, hz]; rfl
      · exact hz
    · exact ⟨t, ht, by unfold keep; rw [hM]; simp only [Bool.not_eq_true] at hg; rw [hg]; rfl, fun _ _ h => h⟩
/-! ### both ways to say it -/
def fitOk (sx : List Variable) (vs : List Int) : Bool := decide (vs.length = sx.length) && (List.range sx.length).all fun i => inb 0 ((vAt sx i).Levels - 1) (gi vs i)
def oth (sx : List Variable) (vars : List Int) : List Int := ((List.range sx.length).filter fun (i : Nat) => !hasB vars (i : Int)).map fun (i : Nat) => (i : Int)
def agree (sx : List Variable) (vars vs c : List Int) : Bool := (oth sx vars).all fun v => gi c v.toNat == gi vs v.toNat
def compl (sx : List Variable) (l : List Edit) (vs vars : List Int) : Bool := (pass sx l).any (agree sx vars vs)
def metB (sx : List Variable) (vs vars : List Int) (e : Edit) : Bool := !(boxIn e.Sets vs && !((invl sx e.Sets).any fun v => hasB vars v))
def isC (sx : List Variable) (l : List Edit) (vs vars : List Int) : Bool := (maxE sx l (-1)).all (metB sx vs vars)
theorem agree_iff {sx : List Variable} {vars vs c : List Int} : agree sx vars vs c = true ↔ ∀ i, i < sx.length → hasB vars (i : Int) = false → gi c i = gi vs i := by
  unfold agree oth
  rw [List.all_map, List.all_filter, List.all_eq_true]
  constructor
  · intro h i hi hb
    have := h i (List.mem_range.2 hi)
    simp only [Function.comp_def, hb, Bool.not_false, Bool.not_true, Bool.false_or, Int.toNat_natCast, beq_iff_eq] at this
    exact this
  · intro h i hi
    cases hb : hasB vars (i : Int) with
    | true => simp
    | false => simp [h i (List.mem_range.1 hi) hb]
theorem boxIn_iff {t vs : List Int} : boxIn t vs = true ↔ ∀ i, i < vs.length → tb (gi t i) (gi vs i) = true := by
  unfold boxIn
  rw [List.all_eq_true]
  exact ⟨fun h i hi => h i (List.mem_range.2 hi), fun h i hi => h i (List.mem_range.1 hi)⟩
theorem mem_invl {sx : List Variable} {t : List Int} {v : Int} : v ∈ invl sx t ↔ ∃ i : Nat, v = (i : Int) ∧ i < t.length ∧ gi t i ≠ full (vAt sx i) := by
  unfold invl
  rw [List.mem_map]
  constructor
  · rintro ⟨i, hi, rfl⟩
    have ⟨h1, h2⟩ := List.mem_filter.1 hi
    exact ⟨i, rfl, List.mem_range.1 h1, of_decide_eq_true h2⟩
  · rintro ⟨i, rfl, h1, h2⟩
    exact ⟨i, List.mem_filter.2 ⟨List.mem_range.2 h1, decide_eq_true h2⟩, rfl⟩
theorem inE_of {sx : List Variable} {t : List Int} : ∀ {r : List Variable} {n : Nat} {t : List Int}, t.length = r.length → (∀ i (h : i < r.length) (h2 : i < t.length), 1 ≤ t[i] ∧ t[i] ≤ full r[i]) → inE (-1) n r t
  | [], _, [], _, _ => trivial
  | x :: r, n, s :: t, hl, h => by
    have h0 := h 0 (by simp) (by simp)
    refine ⟨⟨?_, h0.2⟩, inE_of (sx := sx) (t := t) (by simpa using hl) fun i h1 h2 => h (i + 1) (Nat.succ_lt_succ h1) (Nat.succ_lt_succ h2)⟩
    have e : frs (-1) n x = 1 := by unfold frs; rw [if_neg (by omega)]
    rw [e]; exact h0.1
theorem vals_fit {sx : List Variable} (hL : Lok sx) (i : Nat) : ∀ (j : Nat), j < sx.length → 0 ≤ gi (vals sx i) j ∧ gi (vals sx i) j < (lv (vAt sx j) : Int) := by
  have key : ∀ (r : List Variable) (j : Nat), (∀ x ∈ r, 2 ≤ x.Levels ∧ x.Levels ≤ 8) → j < r.length → 0 ≤ gi (vals r i) j ∧ gi (vals r i) j < (lv (vAt r j) : Int) := by
    intro r
    induction r with
    | nil => intro j _ hj; simp at hj
    | cons x r ih =>
      intro j h hj
      cases j with
      | zero =>
        have h3 := h x (List.mem_cons_self ..)
        have hlt : i / cnt r % lv x < lv x := Nat.mod_lt _ (by unfold lv; omega)
        show 0 ≤ ((i / cnt r % lv x : Nat) : Int) ∧ ((i / cnt r % lv x : Nat) : Int) < (lv x : Int)
        generalize i / cnt r % lv x = q at hlt
        omega
      | succ j => exact ih j (fun y hy => h y (List.mem_cons_of_mem _ hy)) (by simpa using hj)
  exact fun j hj => key sx j hL.2 hj
theorem cover_iff {sx : List Variable} {l : List Edit} {vs vars : List Int} (hL : Lok sx) (hf : fitOk sx vs = true) : isC sx l vs vars = compl sx l vs vars := by
  unfold fitOk at hf
  simp only [Bool.and_eq_true, decide_eq_true_eq] at hf
  have hlen := hf.1
  have hfit : ∀ i, i < sx.length → 0 ≤ gi vs i ∧ gi vs i < (lv (vAt sx i) : Int) := fun i hi => by
    have h1 := inb_iff'.1 (range_all_at hf.2 hi)
    have h2 := (lv_at hL hi).1
    rw [vAt_at hi] at h1 ⊢
    omega
  rw [Bool.eq_iff_iff]
  constructor
  · intro hC
    cases hcomp : compl sx l vs vars with
    | true => rfl
    | false =>
      exfalso
      -- sets that hold what agrees with the values
      let t0 : List Int := (List.range sx.length).map fun (i : Nat) => if hasB vars (i : Int) then full (vAt sx i) else one (gi vs i)
      have hl0 : t0.length = sx.length := by simp [t0]
      have hg0 : ∀ i, i < sx.length → gi t0 i = if hasB vars (i : Int) then full (vAt sx i) else one (gi vs i) := fun i hi => by
        rw [gi_at (by omega)]; simp [t0]
      have hE0 : inE (-1) 0 sx t0 := inE_of (sx := sx) (t := t0) hl0 fun i h1 h2 => by
        rw [← gi_at h2, hg0 i h1, ← vAt_at h1]
        have hfi := hfit i h1
        split
        · have := full_at hL h1
          rw [vAt_at h1]; omega
        · exact one_full hfi
      have hfree : freeP (pass sx l) t0 = true := List.all_eq_true.2 fun c hc => by
        cases hb : boxIn t0 c with
        | false => rfl
        | true =>
          exfalso
          have hcl := ((pass_ok (l := l) hL).2 c hc).2
          have hcv := ((pass_ok (l := l) hL).2 c hc).1
          have : agree sx vars vs c = true := agree_iff.2 fun i hi hbi => by
            have h1 := boxIn_iff.1 hb i (by omega)
            rw [hg0 i hi, hbi] at h1
            simp only [Bool.false_eq_true, if_false] at h1
            rw [tb_one] at h1
            have h2 := of_decide_eq_true h1
            have h3 := hfit i hi
            have h4 := hcv (gi c i) (by rw [gi_at (by omega)]; exact List.getElem_mem _)
            omega
          have : compl sx l vs vars = true := List.any_eq_true.2 ⟨c, hc, this⟩
          rw [hcomp] at this; cases this
      obtain ⟨t, ht, hk, hsub⟩ := grow (M := freeP (pass sx l)) hL (wt t0) t0 (Nat.le_refl _) hE0 hfree
      have hB := inE_B hL.2 ht
      have htl := inB_length hB
      have hmem : (⟨t⟩ : Edit) ∈ maxE sx l (-1) := by
        unfold maxE res
        exact List.mem_map.2 ⟨t, List.mem_filter.2 ⟨mem_enum.2 ht, hk⟩, rfl⟩
      have hmet := List.all_eq_true.1 hC _ hmem
      have hbox : boxIn t vs = true := boxIn_iff.2 fun i hi => hsub i _ (by
        rw [hg0 i (by omega)]
        have hfi := hfit i (by omega)
        split
        · have := tb_full (x := vAt sx i) (y := (gi vs i).toNat)
          rw [show (((gi vs i).toNat : Nat) : Int) = gi vs i by omega] at this
          rw [this]; exact decide_eq_true (by omega)
        · rw [tb_one]; exact decide_eq_true rfl)
      have hnone : ((invl sx t).any fun v => hasB vars v) = false := by
        rw [List.any_eq_false]
        intro v hv hv2
        obtain ⟨i, rfl, hi, hne⟩ := mem_invl.1 hv
        apply hne
        have hi' : i < sx.length := by omega
        have hbi := inB_at i hB hi' hi
        rw [gi_at hi, vAt_at hi']
        refine full_of hbi fun y hy => ?_
        rw [← gi_at hi]
        refine hsub i _ ?_
        rw [hg0 i hi', if_pos hv2, tb_full, vAt_at hi']
        exact decide_eq_true hy
      unfold metB at hmet
      rw [hbox, hnone] at hmet
      cases hmet
  · intro hC
    obtain ⟨c, hc, hag⟩ := List.any_eq_true.1 hC
    have hag := agree_iff.1 hag
    have hcl := ((pass_ok (l := l) hL).2 c hc).2
    obtain ⟨ci, _, hci⟩ := List.mem_map.1 hc
    refine List.all_eq_true.2 fun e he => ?_
    have hE := maxE_sets hL e he
    have hel := inB_length (inE_B hL.2 hE)
    unfold metB
    cases hb : boxIn e.Sets vs with
    | false => rfl
    | true =>
      cases hm : (invl sx e.Sets).any (fun v => hasB vars v) with
      | true => rfl
      | false =>
        exfalso
        have hfree : freeP (pass sx l) e.Sets = true := by
          unfold maxE res at he
          obtain ⟨t, ht, rfl⟩ := List.mem_map.1 he
          have := (List.mem_filter.1 ht).2
          unfold keep at this
          simp only [Bool.and_eq_true] at this
          exact this.1
        have h1 := List.all_eq_true.1 hfree c hc
        have : boxIn e.Sets c = true := boxIn_iff.2 fun i hi => by
          have hi' : i < sx.length := by omega
          cases hv : hasB vars (i : Int) with
          | false =>
            rw [hag i hi' hv]
            exact boxIn_iff.1 hb i (by omega)
          | true =>
            have hfull : gi e.Sets i = full (vAt sx i) := Classical.byContradiction fun hne => by
              have := List.any_eq_false.1 hm (i : Int) (mem_invl.2 ⟨i, rfl, by omega, hne⟩)
              exact this hv
            have hf := vals_fit hL ci i hi'
            rw [hci] at hf
            rw [hfull]
            have := tb_full (x := vAt sx i) (y := (gi c i).toNat)
            rw [show (((gi c i).toNat : Nat) : Int) = gi c i by omega] at this
            rw [this]; exact decide_eq_true (by omega)
        rw [this] at h1
        cases h1
end Go.Proofs.Ytklajcbpnpkniaa
