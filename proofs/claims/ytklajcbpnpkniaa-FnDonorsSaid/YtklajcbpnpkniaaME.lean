/- Plain facts about first completions, records, and mended data. -/
import Derived.Test.YtklajcbpnpkniaaMDPure
set_option linter.unusedVariables false
set_option autoImplicit false
namespace Go.Proofs.Ytklajcbpnpkniaa
open Go Go.RowKit Go.Gv

/-- The first values that fail no edit and agree with others outside of some variables. -/
def fc (sx : List Variable) (l : List Edit) (vs vars : List Int) : List Int :=
  match (List.range (cnt sx)).find? (fun i => !failsB l (vals sx i) && agree sx vars vs (vals sx i)) with
  | some i => vals sx i
  | none => []
theorem fc_some {sx : List Variable} {l : List Edit} {vs vars : List Int} {n : Nat} (hn : n < cnt sx) (hj : (List.range n).all (fun i => failsB l (vals sx i) || !agree sx vars vs (vals sx i)) = true) (h1 : failsB l (vals sx n) = false) (h2 : agree sx vars vs (vals sx n) = true) : fc sx l vs vars = vals sx n := by
  unfold fc
  have : (List.range (cnt sx)).find? (fun i => !failsB l (vals sx i) && agree sx vars vs (vals sx i)) = some n := by
    rw [List.find?_range_eq_some]
    refine ⟨by rw [h1, h2]; rfl, List.mem_range.2 hn, fun j hj2 => ?_⟩
    have := List.all_eq_true.1 hj j (List.mem_range.2 hj2)
    cases ha : failsB l (vals sx j) with
    | true => rfl
    | false => rw [ha, Bool.false_or] at this; simpa using this
  rw [this]
theorem fc_none {sx : List Variable} {l : List Edit} {vs vars : List Int} (hj : (List.range (cnt sx)).all (fun i => failsB l (vals sx i) || !agree sx vars vs (vals sx i)) = true) : fc sx l vs vars = [] := by
  unfold fc
  have : (List.range (cnt sx)).find? (fun i => !failsB l (vals sx i) && agree sx vars vs (vals sx i)) = none := by
    rw [List.find?_eq_none]
    intro j hj2 h
    have := List.all_eq_true.1 hj j hj2
    simp only [Bool.and_eq_true, Bool.not_eq_true'] at h
    rw [h.1, h.2] at this; cases this
  rw [this]
theorem fc_in {sx : List Variable} {l : List Edit} {vs vars : List Int} (h : compl sx l vs vars = true) : fc sx l vs vars ∈ pass sx l ∧ agree sx vars vs (fc sx l vs vars) = true := by
  unfold fc
  cases e : (List.range (cnt sx)).find? (fun i => !failsB l (vals sx i) && agree sx vars vs (vals sx i)) with
  | some i =>
    have h1 := List.find?_some e
    have h2 := List.mem_of_find?_eq_some e
    simp only [Bool.and_eq_true, Bool.not_eq_true'] at h1
    exact ⟨List.mem_map.2 ⟨i, List.mem_filter.2 ⟨h2, by rw [h1.1]; rfl⟩, rfl⟩, h1.2⟩
  | none =>
    exfalso
    obtain ⟨c, hc, ha⟩ := List.any_eq_true.1 h
    obtain ⟨i, hi, rfl⟩ := List.mem_map.1 hc
    have h1 := List.mem_filter.1 hi
    exact List.find?_eq_none.1 e i h1.1 (by rw [ha, Bool.and_true]; exact h1.2)
theorem completionOf_eq {sx : List Variable} {l : List Edit} {vs vars : List Int} {Q : List Int → Prop} (hL : Lok sx) (h1 : 1 ≤ sx.length) (he : Eok sx.length l) (hvs : vs.length = sx.length)
    (hq : Q (fc sx l vs vars)) : impl_completionOf sx l (oth sx vars) vs Q := by
  have h0 := hL.1
  have hcs := cnt_small' hL
  have ho : (oth sx vars).length ≤ sx.length := by
    unfold oth
    rw [List.length_map]
    have := List.length_filter_le (fun (i : Nat) => !hasB vars (i : Int)) (List.range sx.length)
    rwa [List.length_range] at this
  have hov : ∀ j (hj : j < (oth sx vars).length), ∃ i : Nat, (oth sx vars)[j] = (i : Int) ∧ i < sx.length := fun j hj => by
    have := List.getElem_mem hj
    unfold oth at this
    obtain ⟨i, hi, e⟩ := List.mem_map.1 this
    exact ⟨i, e.symm, List.mem_range.1 (List.mem_filter.1 hi).1⟩
  unfold impl_completionOf impl_passing_impl_completionOf_1
  refine combinations_ok hL ?_
  refine ⟨fun x f => ∃ n : Nat, x = (n : Int) ∧ n ≤ cnt sx ∧ f = [] ∧ (List.range n).all (fun i => failsB l (vals sx i) || !agree sx vars vs (vals sx i)) = true, fun x _ => ((cnt sx : Int) - x).toNat, ⟨0, rfl, Nat.zero_le _, rfl, by simp⟩, ?_⟩
  rintro x f ⟨n, rfl, hn, rfl, hj⟩
  refine br_dec (fun g => valuesAt_ok hL (by omega) ?_) (fun g => ?_)
  · have hn' : n < cnt sx := by omega
    have hvl := vals_length sx n
    refine jn_bool2 (!(failsB l (vals sx n) || !agree sx vars vs (vals sx n))) (if !(failsB l (vals sx n) || !agree sx vars vs (vals sx n)) then vals sx n else []) ?_ fun k hk => failsOne_ok (by rw [hvl]; exact he) (vals_ok n hL.2) (by omega) ?_
    · refine br_nb (fun g1 => ?_) (fun g1 => ?_)
      · rw [g1, Bool.not_false, if_pos rfl]
        simp only [Bool.or_eq_false_iff, Bool.not_eq_false'] at g1
        rw [fc_some hn' hj g1.1 g1.2] at hq; exact hq
      · rw [g1, Bool.not_true, if_neg (by decide), wr_in (by omega) (by omega)]
        refine ⟨⟨n + 1, by omega, hn', rfl, range_all_succ hj g1⟩, ?_⟩
        show ((cnt sx : Int) - ((n : Int) + 1)).toNat < ((cnt sx : Int) - (n : Int)).toNat
        omega
    · refine br_nb (fun g1 => ?_) (fun g1 => ?_)
      · have g1' : failsB l (vals sx n) = false := g1
        rw [g1', Bool.false_or, Bool.not_not] at hk
        unfold impl_completionOf_1
        refine loop1_list (by omega) (fun i => ((oth sx vars).take i).all (fun v => gi (vals sx n) v.toNat == gi vs v.toNat) = true) (by simp) (fun i nx hi hji hx => ?_) (fun hji => ⟨by unfold ln; omega, ?_⟩)
        · obtain ⟨m, em, hm⟩ := hov i hi
          refine idx_at hi ?_
          rw [em]
          refine idx_at (by omega) (idx_at (by omega) (br_ne (fun g2 => ?_) (fun g2 => hx (lall_succ hi hji ?_))))
          · have : agree sx vars vs (vals sx n) = false := by
              refine lall_no hi ?_
              rw [em, Int.toNat_natCast, gi_at (by omega), gi_at (by omega)]
              simpa using g2
            rw [this] at hk; simpa using hk
          · rw [em, Int.toNat_natCast, gi_at (by omega), gi_at (by omega)]
            simpa using g2
        · rw [List.take_length] at hji
          have : agree sx vars vs (vals sx n) = true := hji
          rw [this] at hk; simpa using hk
      · have g1' : failsB l (vals sx n) = true := g1
        rw [g1', Bool.true_or] at hk
        simpa using hk
  · have e1 : n = cnt sx := by omega
    subst e1
    rw [fc_none hj] at hq; exact hq
theorem eComplete_eq {sx : List Variable} {l : List Edit} {vs vars : List Int} {Q : List Int → Bool → Prop} (hL : Lok sx) (he : Eok sx.length l) (hvs : vs.length = sx.length)
    (hq : Q (fc sx l vs vars) (compl sx l vs vars)) : spec_eComplete sx l (oth sx vars) vs Q := by
  have h0 := hL.1
  have hcs := cnt_small' hL
  have ho := oth_len (sx := sx) (vars := vars)
  unfold spec_eComplete
  refine ⟨fun x => ∃ n : Nat, x = (n : Int) ∧ n ≤ cnt sx ∧ (List.range n).all (fun i => failsB l (vals sx i) || !agree sx vars vs (vals sx i)) = true, fun x => ((cnt sx : Int) - x).toNat, ⟨0, rfl, Nat.zero_le _, by simp⟩, ?_⟩
  rintro x ⟨n, rfl, hn, hj⟩
  refine sCount_ok hL (br_dec (fun g => sAt_ok hL (by omega) ?_) (fun g => ?_))
  · have hvl := vals_length sx n
    refine eFailed_ok (by rw [hvl]; exact he) (vals_ok n hL.2) (by omega) fun o hoo => ?_
    have e0 : ((ln o) == 0) = !failsB l (vals sx n) := by
      unfold ln
      cases hfb : failsB l (vals sx n) with
      | false => have := hoo.2 hfb; simp; exact List.eq_nil_of_length_eq_zero this
      | true =>
        have : ¬ o.length = 0 := fun c => by rw [hoo.1 c] at hfb; cases hfb
        simp; intro c; exact this (by rw [c]; rfl)
    rw [e0]
    refine loop2_list (xs := oth sx vars) (by omega) (fun f i => f = (!failsB l (vals sx n) && ((oth sx vars).take i).all (fun v => gi (vals sx n) v.toNat == gi vs v.toNat))) (by simp) ?_ ?_
    · rintro f i nx hi rfl hx
      obtain ⟨m, em, hm⟩ := oth_at hi
      refine jn_bool _ (hx _ rfl) fun k hk => idx_at hi ?_
      rw [List.take_succ_eq_append_getElem hi, List.all_append] at hk
      simp only [List.all_cons, List.all_nil, Bool.and_true] at hk
      rw [← Bool.and_assoc] at hk
      rw [em] at hk ⊢
      refine br_bo (fun g1 => idx_at (by omega) (idx_at (by omega) ?_)) (fun g1 => ?_)
      · rw [g1, Bool.true_and, Int.toNat_natCast, gi_at (show m < (vals sx n).length by omega), gi_at (show m < vs.length by omega)] at hk; exact hk
      · rw [g1, Bool.false_and] at hk; exact hk
    · rintro f rfl
      rw [List.take_length]
      have ea : ((oth sx vars).all fun v => gi (vals sx n) v.toNat == gi vs v.toNat) = agree sx vars vs (vals sx n) := rfl
      rw [ea]
      refine br_bo (fun g1 => ?_) (fun g1 => ?_)
      · simp only [Bool.and_eq_true, Bool.not_eq_true'] at g1
        have : compl sx l vs vars = true := List.any_eq_true.2 ⟨vals sx n, List.mem_map.2 ⟨n, List.mem_filter.2 ⟨List.mem_range.2 (by omega), by rw [g1.1]; rfl⟩, rfl⟩, g1.2⟩
        rw [fc_some (by omega) hj g1.1 g1.2, this] at hq; exact hq
      · rw [wr_in (by omega) (by omega)]
        refine ⟨⟨n + 1, by omega, by omega, range_all_succ hj ?_⟩, by dsimp only; omega⟩
        cases hfb : failsB l (vals sx n) with
        | true => rfl
        | false => rw [hfb, Bool.not_false, Bool.true_and] at g1; rw [g1]; rfl
  · have e1 : n = cnt sx := by omega
    subst e1
    have : compl sx l vs vars = false := by
      unfold compl pass
      rw [List.any_map, List.any_eq_false]
      intro i hi
      have hf := List.mem_filter.1 hi
      have := List.all_eq_true.1 hj i hf.1
      have h2 : failsB l (vals sx i) = false := by simpa using hf.2
      rw [h2, Bool.false_or] at this
      simpa using this
    rw [fc_none hj, this] at hq; exact hq

/-! ### records -/
def recOk (sx : List Variable) (r : Record) : Bool := (inb 0 29 r.Area && inb 0 999 r.House) && fitOk sx r.Values
def dOk (sx : List Variable) (data : List Record) : Bool := decide (data.length ≤ 40) && data.all (recOk sx)
theorem recOk_no {sx : List Variable} {r : Record} (h : ¬ ((0 ≤ r.Area ∧ r.Area ≤ 29) ∧ (0 ≤ r.House ∧ r.House ≤ 999))) : recOk sx r = false := by
  cases e : recOk sx r with
  | false => rfl
  | true =>
    unfold recOk at e
    simp only [Bool.and_eq_true, inb_iff'] at e
    exact absurd e.1 h
theorem recOk_yes {sx : List Variable} {r : Record} (h : (0 ≤ r.Area ∧ r.Area ≤ 29) ∧ (0 ≤ r.House ∧ r.House ≤ 999)) : recOk sx r = fitOk sx r.Values := by
  unfold recOk; rw [inb_iff'.2 h.1, inb_iff'.2 h.2]; rfl
theorem isRecord_ok {sx : List Variable} {r : Record} {Q : Bool → Prop} (hL : Lok sx) (hq : Q (recOk sx r)) : impl_isRecord sx r Q := by
  unfold impl_isRecord
  refine jn_bool (recOk sx r) hq fun k hk => br_dec (fun a => br_dec (fun b => br_dec (fun c => br_dec (fun d => areValues_ok hL ?_) (fun d => ?_)) (fun c => ?_)) (fun b => ?_)) (fun a => ?_)
  · rw [recOk_yes (by omega)] at hk; exact hk
  all_goals rw [recOk_no (by omega)] at hk; exact hk
theorem rGood_ok {sx : List Variable} {r : Record} {Q : Bool → Prop} (hL : Lok sx) (hq : Q (recOk sx r)) : spec_rGood sx r Q := by
  unfold spec_rGood
  refine jn_bool (recOk sx r) hq fun k hk => l1In_ok (br_bo (fun a => l1In_ok (br_bo (fun b => sFits_ok hL ?_) (fun b => ?_))) (fun a => ?_))
  · rw [recOk_yes ⟨inb_iff'.1 a, inb_iff'.1 b⟩] at hk; exact hk
  · have : recOk sx r = false := by unfold recOk; rw [show inb 0 999 r.House = false from b, Bool.and_false]; rfl
    rw [this] at hk; exact hk
  · have : recOk sx r = false := by unfold recOk; rw [show inb 0 29 r.Area = false from a]; rfl
    rw [this] at hk; exact hk
theorem isData_ok {sx : List Variable} {l : List Record} {Q : Bool → Prop} (hL : Lok sx) (hq : Q (dOk sx l)) : impl_isData sx l Q := by
  unfold impl_isData
  refine br_dec (fun g => ?_) (fun g => ?_)
  · have : dOk sx l = false := by unfold dOk; rw [decide_eq_false (by unfold ln at g; omega)]; rfl
    rw [this] at hq; exact hq
  · refine loop1_list (by unfold ln at g; omega) (fun i => (l.take i).all (recOk sx) = true) (by simp) (fun i nx hi hj hx => idx_at hi (isRecord_ok hL ?_)) (fun hj => ?_)
    · refine br_nb (fun g1 => ?_) (fun g1 => hx (lall_succ hi hj g1))
      have : dOk sx l = false := by unfold dOk; rw [lall_no hi g1, Bool.and_false]
      rw [this] at hq; exact hq
    · rw [List.take_length] at hj
      have : dOk sx l = true := by unfold dOk; rw [hj, decide_eq_true (by unfold ln at g; omega)]; rfl
      rw [this] at hq; exact hq
theorem dGood_ok {sx : List Variable} {l : List Record} {Q : Bool → Prop} (hL : Lok sx) (hl : l.length ≤ 1048576) (hq : Q (dOk sx l)) : spec_dGood sx l Q := by
  unfold spec_dGood
  refine loop1_list (by omega) (fun i => (l.take i).all (recOk sx) = true) (by simp) (fun i nx hi hj hx => idx_at hi (rGood_ok hL ?_)) (fun hj => ?_)
  · refine br_nb (fun g1 => ?_) (fun g1 => hx (lall_succ hi hj g1))
    have : dOk sx l = false := by unfold dOk; rw [lall_no hi g1, Bool.and_false]
    rw [this] at hq; exact hq
  · rw [List.take_length] at hj
    have : dOk sx l = decide (ln l ≤ 40) := by unfold dOk ln; rw [hj, Bool.and_true]; exact decide_eq_decide.2 (by omega)
    rw [this] at hq; exact hq
/-! ### draws -/
def rdOk (l : List Record) : Prop := l.length ≤ 100 ∧ ∀ r ∈ l, r.Values.length ≤ 100
theorem mem_snoc {α : Type} {p : α → Prop} {l : List α} {x : α} (h : ∀ y ∈ l, p y) (hx : p x) : ∀ y ∈ l ++ [x], p y := fun y hy => by
  rcases List.mem_append.1 hy with hy | hy
  · exact h y hy
  · rw [List.mem_singleton.1 hy]; exact hx
theorem record_ok {code : List B8} {sx : List Variable} {a s : Int} {areas : List Int} {Q : Record → Int → Int → Prop} (hc : bytesOk code) (hl : sx.length ≤ 7) (hA : 0 < areas.length) (ha : 0 ≤ a ∧ a ≤ 800000000000) (h : ∀ r a' s', r.Values.length ≤ 8 → 0 ≤ a' → a' ≤ a + 20 → Q r a' s') : spec_l1Cur_record ⟨code, a, s⟩ sx areas Q := by
  unfold spec_l1Cur_record
  dsimp only
  refine among_ok hc (by unfold atOk; omega) hA fun v hv a1 s1 h0 h1 => pick_ok hc (by unfold atOk; omega) fun r a2 s2 _ _ _ q0 q1 => values_ok hc hl (by omega) fun vs a3 s3 hv3 p0 p1 => h _ _ _ (by show vs.length ≤ 8; omega) p0 (by omega)
theorem data_ok {code : List B8} {sx : List Variable} {a s : Int} {areas : List Int} {Q : List Record → Int → Int → Prop} (hc : bytesOk code) (hl : sx.length ≤ 7) (hA : 0 < areas.length) (ha : 0 ≤ a ∧ a ≤ 700000000000) (h : ∀ d a' s', d.length ≤ 22 → (∀ r ∈ d, r.Values.length ≤ 8) → 0 ≤ a' → a' ≤ a + 300 → Q d a' s') : spec_l1Cur_data ⟨code, a, s⟩ sx areas Q := by
  unfold spec_l1Cur_data
  dsimp only
  refine pick_ok hc (by unfold atOk; omega) fun r a1 s1 h0 h1 _ h2 h3 => ?_
  refine ⟨fun o k at1 _ => ∃ n : Nat, k = (n : Int) ∧ n ≤ 11 ∧ o.length + 2 * n ≤ 22 ∧ (∀ r ∈ o, r.Values.length ≤ 8) ∧ 0 ≤ at1 ∧ at1 + 22 * (n : Int) ≤ a1 + 242, fun _ k _ _ => k.toNat, ⟨r.toNat, by omega, by omega, by simp; omega, by simp, h2, by omega⟩, ?_⟩
  rintro o k at1 s2 ⟨n, rfl, hn, hol, ho, g0, g1⟩
  refine br_dec (fun g => ?_) (fun g => h _ _ _ (by omega) ho g0 (by omega))
  refine jn_ok (fun k => ∀ (d : List Record) a' s', d.length + 2 * (n - 1) ≤ 22 → (∀ r ∈ d, r.Values.length ≤ 8) → 0 ≤ a' → a' ≤ at1 + 22 → k d a' s') (fun d a2 s3 u1 u2 u3 u4 => ?_) fun k hk => ?_
  · rw [wr_in (by omega) (by omega)]
    exact ⟨⟨n - 1, by omega, by omega, u1, u2, u3, by omega⟩, by dsimp only; omega⟩
  · refine record_ok hc hl hA (by omega) fun r a2 s3 hr q0 q1 => ⟨by unfold ln; simp only [List.length_singleton]; omega, ?_⟩
    refine one_ok hc (by unfold atOk; omega) fun b a3 s4 p0 p1 => br_bo (fun _ => ?_) (fun _ => hk _ _ _ (by simp; omega) (mem_snoc ho hr) p0 (by omega))
    unfold spec_rOwn
    exact l1Own_ok (by show r.Values.length ≤ _; omega) ⟨by unfold ln; simp only [List.length_append, List.length_singleton]; omega, hk _ _ _ (by simp; omega) (mem_snoc (mem_snoc ho hr) hr) p0 (by omega)⟩
theorem anyData_ok {code : List B8} {sx : List Variable} {a s : Int} {Q : List Record → Int → Int → Prop} (hc : bytesOk code) (hl : sx.length ≤ 7) (ha : 0 ≤ a ∧ a ≤ 600000000000) (h : ∀ d a' s', rdOk d → Q d a' s') : spec_l1Cur_anyData ⟨code, a, s⟩ sx Q := by
  unfold spec_l1Cur_anyData
  dsimp only
  refine data_ok hc hl (by simp) (by omega) fun d a1 s1 hd1 hd2 h0 h1 => ?_
  have fin : ∀ (d : List Record) a' s', d.length ≤ 100 → (∀ r ∈ d, r.Values.length ≤ 8) → Q d a' s' := fun d a' s' g1 g2 => h _ _ _ ⟨g1, fun r hr => by have := g2 r hr; omega⟩
  refine jn_of (pick_ok hc (by unfold atOk; omega) fun r a2 s2 _ _ _ q0 q1 => ?_)
  refine br_eq (fun _ => ?_) (fun _ => br_eq (fun _ => ?_) (fun _ => fin _ _ _ (by omega) hd2))
  · refine among_ok hc (by unfold atOk; omega) (by simp) fun v hv a3 s3 u0 u1 => among_ok hc (by unfold atOk; omega) (by simp) fun v2 hv2 a4 s4 p0 p1 => anyValues_ok2 hc hl (by omega) fun vs a5 s5 hvs t0 t1 => ⟨by unfold ln; simp only [List.length_singleton]; omega, fin _ _ _ (by simp; omega) (mem_snoc hd2 hvs)⟩
  · refine ⟨fun o at1 _ => o.length ≤ 42 ∧ (∀ r ∈ o, r.Values.length ≤ 8) ∧ 0 ≤ at1 ∧ at1 ≤ a2 + 20 * (o.length : Int), fun o _ _ => 60 - o.length, ⟨by omega, hd2, q0, by omega⟩, ?_⟩
    rintro o at1 s3 ⟨ho1, ho2, u0, u1⟩
    refine pick_ok hc (by unfold atOk; omega) fun r2 a3 s4 p0 p1 _ p2 p3 => ?_
    rw [wr_in (by omega) (by omega)]
    refine br_dec (fun g => ?_) (fun g => fin _ _ _ (by omega) ho2)
    unfold ln at g
    refine values_ok hc hl (by omega) fun vs a4 s5 hvs t0 t1 => ⟨by unfold ln; simp only [List.length_singleton]; omega, ⟨by simp; omega, mem_snoc ho2 (by show vs.length ≤ 8; omega), t0, by simp only [List.length_append, List.length_singleton]; omega⟩, by simp only [List.length_append, List.length_singleton]; omega⟩
end Go.Proofs.Ytklajcbpnpkniaa
