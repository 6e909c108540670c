/- What the functions of mending compute. -/
import Derived.Test.YtklajcbpnpkniaaMB
import Derived.Test.YtklajcbpnpkniaaNFPure
set_option linter.unusedVariables false
set_option autoImplicit false
namespace Go.Proofs.Ytklajcbpnpkniaa
open Go Go.RowKit Go.Gv

/-! ### draws -/
theorem anyValues_ok2 {code : List B8} {sx : List Variable} {a s : Int} {Q : List Int → Int → Int → Prop} (hc : bytesOk code) (hl : sx.length ≤ 7) (ha : 0 ≤ a ∧ a ≤ 800000000000) (h : ∀ l a' s', l.length ≤ 8 → 0 ≤ a' → a' ≤ a + 30 → Q l a' s') : spec_l1Cur_anyValues ⟨code, a, s⟩ sx Q := by
  unfold spec_l1Cur_anyValues
  dsimp only
  refine values_ok hc hl (by omega) fun l a1 s1 hll h0 h1 => ?_
  refine jn_of (jn_ok (fun k => (0 < l.length → ∀ a' s', 0 ≤ a' → a' ≤ a1 + 2 → k true a' s') ∧ ∀ a' s', 0 ≤ a' → a' ≤ a1 + 2 → k false a' s') ⟨fun hp a' s' g0 g1 => br_true rfl ?_, fun a' s' g0 g1 => br_false rfl ?_⟩ fun k hk => ?_)
  · refine pick_ok hc (by unfold atOk; omega) fun r a2 s2 q0 q1 _ q2 q3 => among_ok hc (by unfold atOk; omega) (by simp) fun v hv a3 s3 u0 u1 => ⟨q0, by unfold ln at q1; omega, h _ _ _ (by rw [List.length_set]; omega) u0 (by omega)⟩
  · refine one_ok hc (by unfold atOk; omega) fun b a2 s2 u0 u1 => br_bo (fun _ => ⟨by unfold ln; simp only [List.length_singleton]; omega, h _ _ _ (by simp; omega) u0 (by omega)⟩) (fun _ => h _ _ _ (by omega) u0 (by omega))
  · refine br_dec (fun g => one_ok hc (by unfold atOk; omega) fun b a2 s2 j0 j1 => ?_) (fun g => hk.2 _ _ h0 (by omega))
    cases b with
    | true => exact hk.1 (by unfold ln at g; omega) _ _ j0 j1
    | false => exact hk.2 _ _ j0 j1

theorem sCount_any {sx : List Variable} {Q : Int → Prop} (hl : sx.length ≤ 1048576) (h : ∀ n, Q n) : spec_sCount sx Q := by
  unfold spec_sCount
  exact loop2_list (by omega) (fun _ _ => True) trivial (fun a i nx hi _ hx => idx_at hi (hx _ trivial)) (fun a _ => h a)
theorem weights_ok {code : List B8} {sx : List Variable} {a s : Int} {Q : List Int → Int → Int → Prop} (hc : bytesOk code) (hl : sx.length ≤ 7) (ha : 0 ≤ a ∧ a ≤ 800000000000) (h : ∀ l a' s', l.length ≤ 8 → 0 ≤ a' → a' ≤ a + 30 → Q l a' s') : spec_l1Cur_weights ⟨code, a, s⟩ sx Q := by
  unfold spec_l1Cur_weights
  dsimp only
  refine ⟨fun o x at1 _ => ∃ n : Nat, x = (n : Int) ∧ n ≤ sx.length ∧ o.length = n ∧ 0 ≤ at1 ∧ at1 ≤ a + 2 * (n : Int), fun _ x _ _ => ((sx.length : Int) - x).toNat, ⟨0, rfl, Nat.zero_le _, rfl, ha.1, by omega⟩, ?_⟩
  rintro o _ at1 s1 ⟨n, rfl, hn, hlo, h0, h1⟩
  refine br_dec (fun g => ?_) (fun g => ?_)
  · unfold ln at g
    refine pick_ok hc (by unfold atOk; omega) fun r a1 s2 _ _ _ k2 k3 => ⟨by unfold ln; simp only [List.length_singleton]; omega, ?_⟩
    rw [wr_in (x := (n : Int) + 1) (by omega) (by omega)]
    exact ⟨⟨n + 1, by omega, by omega, by simp; omega, k2, by omega⟩, by dsimp only; omega⟩
  · refine jn_of (pick_ok hc (by unfold atOk; omega) fun r a1 s2 _ _ _ k2 k3 => ?_)
    refine br_eq (fun _ => ⟨by unfold ln; simp only [List.length_singleton]; omega, h _ _ _ (by simp; omega) k2 (by omega)⟩) (fun _ => br_eq (fun _ => br_dec (fun g2 => ?_) (fun _ => h _ _ _ (by omega) k2 (by omega))) (fun _ => h _ _ _ (by omega) k2 (by omega)))
    exact among_ok hc (by unfold atOk; omega) (by simp) fun v hv a3 s3 u0 u1 => ⟨by omega, by unfold ln at g2; show 0 < o.length; omega, h _ _ _ (by rw [List.length_set]; omega) u0 (by omega)⟩
theorem mended_ok {code : List B8} {Q : List Variable → List Edit → List Int → List Int → Int → Int → Prop} (hc : bytesOk code) (h : ∀ sx l w vs a' s', sdOk sx → Wide sx l → w.length ≤ 8 → vs.length ≤ 8 → 0 ≤ a' → a' ≤ 2000 → Q sx l w vs a' s') : spec_l1Cur_mended ⟨code, 0, 0⟩ Q := by
  unfold spec_l1Cur_mended
  dsimp only
  refine anySchema_ok hc (by omega) fun sx a1 s1 hs h0 h1 => ?_
  refine jn_ok (fun k => ∀ sx a' s', sdOk sx → 0 ≤ a' → a' ≤ a1 + 2 → k sx a' s') (fun sx a2 s2 hs g0 g1 => ?_) fun k hk => ?_
  · refine edits_ok hc hs (by omega) fun l a3 s3 hl q0 q1 => ?_
    refine jn_ok (fun k => ∀ (l : List Edit) a' s', l.length ≤ 101 → (∀ e ∈ l, e.Sets.length ≤ 100) → 0 ≤ a' → a' ≤ a3 + 40 → k l a' s') (fun l a4 s4 hl1 hl2 u0 u1 => ?_) fun k hk => ?_
    · refine weights_ok hc hs.1 (by omega) fun w a5 s5 hw p0 p1 => anyValues_ok2 hc hs.1 (by omega) fun vs a6 s6 hv t0 t1 => h _ _ _ _ _ _ hs ⟨hs.wide, ⟨by omega, fun e he => by have := hl2 e he; omega⟩⟩ hw hv t0 (by omega)
    · have hl0 := hl.1
      refine one_ok hc (by unfold atOk; omega) fun b a4 s4 u0 u1 => br_bo (fun _ => anyEdit_ok hc hs (by omega) fun e a5 s5 he p0 p1 => ⟨by unfold ln; simp only [List.length_singleton]; omega, hk _ _ _ (by simp; omega) (fun x hx => ?_) p0 (by omega)⟩) (fun _ => hk _ _ _ (by omega) hl.2 u0 (by omega))
      rcases List.mem_append.1 hx with hx | hx
      · exact hl.2 x hx
      · rw [List.mem_singleton.1 hx]; show e.Sets.length ≤ _; omega
  · refine jn_ok (fun k => ∀ b a' s', 0 ≤ a' → a' ≤ a1 + 2 → k b a' s') (fun b a2 s2 g0 g1 => br_bo (fun _ => hk _ _ _ ⟨by simp, fun x hx => ?_⟩ g0 g1) (fun _ => hk _ _ _ hs g0 g1)) fun k2 hk2 => ?_
    · simp only [List.mem_cons, List.not_mem_nil, or_false] at hx
      rcases hx with rfl | rfl | rfl <;> decide
    · exact sCount_any hs.wide.1 fun n => br_dec (fun _ => one_ok hc (by unfold atOk; omega) fun b a2 s2 g0 g1 => hk2 _ _ _ g0 g1) (fun _ => hk2 _ _ _ h0 (by omega))
/-! ### costs -/
theorem costL_take {w vars : List Int} {i : Nat} (hi : i < vars.length) : costL w (vars.take (i + 1)) = costL w (vars.take i) + gi w vars[i].toNat := by
  rw [List.take_succ_eq_append_getElem hi, costL_append]; simp [costL]
def inV (w vars : List Int) : Prop := (∀ x ∈ w, 1 ≤ x ∧ x ≤ 100) ∧ vars.length ≤ 12 ∧ ∀ v ∈ vars, 0 ≤ v ∧ v.toNat < w.length
theorem inV.at {w vars : List Int} (h : inV w vars) {i : Nat} (hi : i < vars.length) : 0 ≤ vars[i] ∧ vars[i].toNat < w.length ∧ 1 ≤ gi w vars[i].toNat ∧ gi w vars[i].toNat ≤ 100 := by
  have h1 := h.2.2 _ (List.getElem_mem hi)
  refine ⟨h1.1, h1.2, ?_⟩
  rw [gi_at h1.2]; exact h.1 _ (List.getElem_mem _)
theorem costL_b {w vars : List Int} (h : inV w vars) : ∀ i, i ≤ vars.length → 0 ≤ costL w (vars.take i) ∧ costL w (vars.take i) ≤ 100 * (i : Int) := by
  intro i
  induction i with
  | zero => intro _; rw [List.take_zero]; exact ⟨Int.le_refl _, Int.le_refl _⟩
  | succ i ih =>
    intro hi
    have := ih (by omega)
    have h2 := (h.at (show i < vars.length by omega)).2.2
    rw [costL_take (by omega)]; omega
theorem weightOf_ok {w vars : List Int} {Q : Int → Prop} (h : inV w vars) (hq : Q (costL w vars)) : impl_weightOf w vars Q := by
  have h12 := h.2.1
  unfold impl_weightOf
  refine loop2_list (by omega) (fun s i => s = costL w (vars.take i)) rfl ?_ ?_
  · rintro _ i nx hi rfl hx
    obtain ⟨a0, a1, a2, a3⟩ := h.at hi
    have hb := costL_b h i (by omega)
    refine idx_at hi (idx_of a0 a1 (hx _ ?_))
    have e : gi w vars[i].toNat = w[vars[i].toNat] := gi_at a1
    rw [costL_take hi, e]
    rw [e] at a2 a3
    exact wr_in (by omega) (by omega)
  · rintro _ rfl
    rw [List.take_length]; exact hq
theorem iSum_ok {w vars : List Int} {Q : Int → Prop} (h : inV w vars) (hq : Q (costL w vars)) : spec_iSum w vars Q := weightOf_ok h hq
theorem iOthers_ok {sx : List Variable} {vars : List Int} {Q : List Int → Prop} (hl : sx.length ≤ 1048576) (hv : vars.length ≤ 1048576) (hq : Q (oth sx vars)) : spec_iOthers sx vars Q := by
  unfold spec_iOthers
  exact othLoop_ok hl hv hq
theorem inV_bl {w : List Int} {m n : Nat} (hw : w.length = n ∧ ∀ x ∈ w, 1 ≤ x ∧ x ≤ 100) (hm : m < 2 ^ n) : inV w (cI (bl m)) := by
  refine ⟨hw.2, cI_len, fun v hv => ?_⟩
  unfold cI at hv
  obtain ⟨k, hk, rfl⟩ := List.mem_map.1 hv
  have := bl_lt hm hk
  omega
theorem or_bt2 {c d : Int} {a b : List Int} : decide (orL [sg c d, sg (ln a) (ln b), cmpL a b] ≥ 0) = !bt2 c d a b := by
  unfold bt2
  by_cases h1 : c < d
  · rw [show sg c d = -1 from if_pos h1, decide_eq_true h1]; rfl
  · rw [decide_eq_false h1, Bool.false_or]
    by_cases h2 : c = d
    · rw [show sg c d = 0 by unfold sg; rw [if_neg (by omega), if_neg (by omega)], decide_eq_true h2, Bool.true_and, ← or_btr]
      have : orL [0, sg (ln a) (ln b), cmpL a b] = orL [sg (ln a) (ln b), sg (ln a) (ln b), cmpL a b] := by
        show (if sg (ln a) (ln b) ≠ 0 then _ else _) = (if sg (ln a) (ln b) ≠ 0 then _ else (if sg (ln a) (ln b) ≠ 0 then _ else _))
        split <;> rfl
      rw [this]
    · rw [show sg c d = 1 by unfold sg; rw [if_neg (by omega), if_pos (by omega)], decide_eq_false h2]; rfl
/-! ### the cheapest change -/
theorem best_in {sx : List Variable} {l : List Edit} {w vs : List Int} {m : Nat} (hw : w.length = sx.length ∧ ∀ x ∈ w, 1 ≤ x ∧ x ≤ 100) (hm : m ≤ 2 ^ sx.length) (g : (ccv sx l w vs m).2.2 = true) : inV w (ccv sx l w vs m).1 ∧ costL w (ccv sx l w vs m).1 = (ccv sx l w vs m).2.1 := by
  obtain ⟨k, hk, e1, e2, _⟩ := (ccv_fact (sx := sx) (l := l) (w := w) (vs := vs) m).1 g
  rw [e1, e2]
  exact ⟨inV_bl hw (by omega), rfl⟩
theorem leastCheap_ok {sx : List Variable} {l : List Edit} {w vs : List Int} {Q : List Int → Bool → Prop} (hL : Lok sx) (h1 : 1 ≤ sx.length) (he : Eok sx.length l) (hvs : vs.length = sx.length) (hw : w.length = sx.length ∧ ∀ x ∈ w, 1 ≤ x ∧ x ≤ 100)
    (hq : Q (ccv sx l w vs (2 ^ sx.length)).1 (ccv sx l w vs (2 ^ sx.length)).2.2) : impl_leastCover_impl_cheapestChange_1 sx l vs w Q := by
  have h6 := hL.1
  have h64 := p64 h6
  unfold impl_leastCover_impl_cheapestChange_1 impl_cheapestChange_1
  refine ⟨by unfold ln; omega, ⟨fun b f x => ∃ m : Nat, x = (m : Int) ∧ m ≤ 2 ^ sx.length ∧ b = (ccv sx l w vs m).1 ∧ f = (ccv sx l w vs m).2.2, fun _ _ x => 2 ^ sx.length - x.toNat, ⟨0, rfl, Nat.zero_le _, rfl, rfl⟩, ?_⟩⟩
  rintro _ _ _ ⟨m, rfl, hm, rfl, rfl⟩
  rw [shlN h6]
  have hcl := cI_len (m := m)
  have hsl := ccv_len (sx := sx) (l := l) (w := w) (vs := vs) m
  refine br_dec (fun g => ?_) (fun g => ?_)
  · have hstep : ccv sx l w vs (m + 1) = if compl sx l vs (cI (bl m)) && (!(ccv sx l w vs m).2.2 || bt2 (costL w (cI (bl m))) (ccv sx l w vs m).2.1 (cI (bl m)) (ccv sx l w vs m).1) then (cI (bl m), costL w (cI (bl m)), true) else ccv sx l w vs m := rfl
    refine jn_bool2 (ccv sx l w vs (m + 1)).1 (ccv sx l w vs (m + 1)).2.2 ?_ fun k hk => membersOf_ok (by omega) ?_
    · rw [wr_in (by omega) (by omega)]
      exact ⟨⟨m + 1, by omega, by omega, rfl, rfl⟩, by dsimp only; omega⟩
    · refine jn_bool ((ccv sx l w vs m).2.2 && !bt2 (costL w (cI (bl m))) (ccv sx l w vs m).2.1 (cI (bl m)) (ccv sx l w vs m).1) ?_ fun k2 hk2 => br_bo (fun g1 => ?_) (fun g1 => ?_)
      · refine br_bo (fun g1 => ?_) (fun g1 => ?_)
        · have : (!(ccv sx l w vs m).2.2 || bt2 (costL w (cI (bl m))) (ccv sx l w vs m).2.1 (cI (bl m)) (ccv sx l w vs m).1) = false := by
            simp only [Bool.and_eq_true, Bool.not_eq_true'] at g1
            rw [g1.1, g1.2]; rfl
          rw [hstep, this, Bool.and_false, if_neg (by decide)] at hk; exact hk
        · have hb : (!(ccv sx l w vs m).2.2 || bt2 (costL w (cI (bl m))) (ccv sx l w vs m).2.1 (cI (bl m)) (ccv sx l w vs m).1) = true := by
            cases h2 : (ccv sx l w vs m).2.2 with
            | false => rfl
            | true => rw [h2, Bool.true_and] at g1; simpa using g1
          rw [hstep, hb, Bool.and_true] at hk
          refine otherVars_ok (by omega) (by omega) (completionOf_ok hL h1 he hvs fun r hr => ?_)
          have e : (!(ln r == 0)) = compl sx l vs (cI (bl m)) := by
            unfold ln
            cases hc : compl sx l vs (cI (bl m)) with
            | false => have := hr.2 hc; simp; exact List.eq_nil_of_length_eq_zero this
            | true =>
              have : ¬ r.length = 0 := fun c => by rw [hr.1 c] at hc; cases hc
              simp; intro c; exact this (by rw [c]; rfl)
          rw [e]
          refine br_bo (fun g2 => ?_) (fun g2 => ?_)
          · rw [g2, if_pos rfl] at hk; exact hk
          · rw [g2, if_neg (by decide)] at hk; exact hk
      · have ⟨b1, b2⟩ := best_in hw hm g1
        refine weightOf_ok (inV_bl hw (by omega)) (weightOf_ok b1 ?_)
        rw [b2]
        refine cmpInt_ok (cmpInt_ok (sCompare_ok (by omega) (cmpOr_ok (by simp) ?_)))
        rw [or_bt2]
        rw [g1, Bool.true_and] at hk2; exact hk2
      · rw [g1, Bool.false_and] at hk2; exact hk2
  · have : m = 2 ^ sx.length := by omega
    subst this; exact hq
theorem iCheapest_ok {sx : List Variable} {l : List Edit} {w vs : List Int} {Q : List Int → Int → Bool → Prop} (hL : Lok sx) (he : Eok sx.length l) (hvs : vs.length = sx.length) (hw : w.length = sx.length ∧ ∀ x ∈ w, 1 ≤ x ∧ x ≤ 100)
    (hq : Q (ccv sx l w vs (2 ^ sx.length)).1 (ccv sx l w vs (2 ^ sx.length)).2.1 (ccv sx l w vs (2 ^ sx.length)).2.2) : spec_iCheapest sx l w vs Q := by
  have h6 := hL.1
  have h64 := p64 h6
  unfold spec_iCheapest
  refine ⟨fun b c f x => ∃ m : Nat, x = (m : Int) ∧ m ≤ 2 ^ sx.length ∧ b = (ccv sx l w vs m).1 ∧ c = (ccv sx l w vs m).2.1 ∧ f = (ccv sx l w vs m).2.2, fun _ _ _ x => 2 ^ sx.length - x.toNat, ⟨0, rfl, Nat.zero_le _, rfl, rfl, rfl⟩, ?_⟩
  rintro _ _ _ _ ⟨m, rfl, hm, rfl, rfl, rfl⟩
  rw [wrap_u64 (by unfold ln; omega) (by unfold ln; omega), shlN h6]
  have hcl := cI_len (m := m)
  have hsl := ccv_len (sx := sx) (l := l) (w := w) (vs := vs) m
  refine ⟨by unfold ln; omega, br_dec (fun g => ?_) (fun g => ?_)⟩
  · have hstep : ccv sx l w vs (m + 1) = if compl sx l vs (cI (bl m)) && (!(ccv sx l w vs m).2.2 || bt2 (costL w (cI (bl m))) (ccv sx l w vs m).2.1 (cI (bl m)) (ccv sx l w vs m).1) then (cI (bl m), costL w (cI (bl m)), true) else ccv sx l w vs m := rfl
    refine jn_ok (fun k => k (ccv sx l w vs (m + 1)).1 (ccv sx l w vs (m + 1)).2.1 (ccv sx l w vs (m + 1)).2.2) ?_ fun k hk => iBits_ok (by omega) (iSum_ok (inV_bl hw (by omega)) ?_)
    · rw [wr_in (by omega) (by omega)]
      exact ⟨⟨m + 1, by omega, by omega, rfl, rfl, rfl⟩, by dsimp only; omega⟩
    · refine jn_bool ((ccv sx l w vs m).2.2 && !bt2 (costL w (cI (bl m))) (ccv sx l w vs m).2.1 (cI (bl m)) (ccv sx l w vs m).1) ?_ fun k2 hk2 => br_bo (fun g1 => ?_) (fun g1 => ?_)
      · refine br_bo (fun g1 => ?_) (fun g1 => ?_)
        · have : (!(ccv sx l w vs m).2.2 || bt2 (costL w (cI (bl m))) (ccv sx l w vs m).2.1 (cI (bl m)) (ccv sx l w vs m).1) = false := by
            simp only [Bool.and_eq_true, Bool.not_eq_true'] at g1
            rw [g1.1, g1.2]; rfl
          rw [hstep, this, Bool.and_false, if_neg (by decide)] at hk; exact hk
        · have hb : (!(ccv sx l w vs m).2.2 || bt2 (costL w (cI (bl m))) (ccv sx l w vs m).2.1 (cI (bl m)) (ccv sx l w vs m).1) = true := by
            cases h2 : (ccv sx l w vs m).2.2 with
            | false => rfl
            | true => rw [h2, Bool.true_and] at g1; simpa using g1
          rw [hstep, hb, Bool.and_true] at hk
          refine iOthers_ok (by omega) (by omega) (eComplete_ok hL he hvs fun r => br_bo (fun g2 => ?_) (fun g2 => ?_))
          · rw [g2, if_pos rfl] at hk; exact hk
          · rw [g2, if_neg (by decide)] at hk; exact hk
      · rw [g1, Bool.true_and] at hk2
        unfold bt2 btr at hk2
        refine br_dec (fun g2 => ?_) (fun g2 => br_eq (fun g3 => br_dec (fun g4 => ?_) (fun g4 => br_eq (fun g5 => l1Less_ok (by omega) (by omega) ?_) (fun g5 => ?_))) (fun g3 => ?_))
        · rw [decide_eq_false (by omega), decide_eq_false (by omega)] at hk2; exact hk2
        · unfold ln at g4
          rw [decide_eq_false (by omega), decide_eq_false (show ¬ (cI (bl m)).length < _ by omega), decide_eq_false (show ¬ (cI (bl m)).length = _ by omega), Bool.false_and, Bool.or_false, Bool.and_false, Bool.or_false] at hk2; exact hk2
        · unfold ln at g4 g5
          rw [decide_eq_false (show ¬ costL w (cI (bl m)) < _ by omega), decide_eq_true g3, decide_eq_false (show ¬ (cI (bl m)).length < _ by omega), decide_eq_true (show (cI (bl m)).length = _ by omega), Bool.false_or, Bool.true_and, Bool.false_or, Bool.true_and, ← decide_not] at hk2
          rw [show decide (cmpL (cI (bl m)) (ccv sx l w vs m).1 ≥ 0) = decide (¬ cmpL (cI (bl m)) (ccv sx l w vs m).1 < 0) from decide_eq_decide.2 (by omega)]
          exact hk2
        · unfold ln at g4 g5
          rw [decide_eq_false (show ¬ costL w (cI (bl m)) < _ by omega), decide_eq_true g3, decide_eq_true (show (cI (bl m)).length < _ by omega)] at hk2; exact hk2
        · rw [decide_eq_true (show costL w (cI (bl m)) < _ by omega)] at hk2; exact hk2
      · rw [g1, Bool.false_and] at hk2; exact hk2
  · have : m = 2 ^ sx.length := by omega
    subst this; exact hq
end Go.Proofs.Ytklajcbpnpkniaa
