/- The plain law of FnDonors. -/
import Derived.Test.YtklajcbpnpkniaaMF
set_option linter.unusedVariables false
set_option autoImplicit false
namespace Go.Proofs.Ytklajcbpnpkniaa
open Go Go.RowKit Go.Gv

/-! ### every list of values is at an index -/
theorem vals_surj : ∀ {sx : List Variable} {vs : List Int}, (∀ x ∈ sx, 1 ≤ lv x) → vs.length = sx.length → (∀ i, i < sx.length → 0 ≤ gi vs i ∧ gi vs i < (lv (vAt sx i) : Int)) → ∃ j, j < cnt sx ∧ vals sx j = vs
  | [], [], _, _, _ => ⟨0, by simp [cnt], rfl⟩
  | x :: r, v :: t, h, hl, hv => by
    have h0 : 0 ≤ v ∧ v < (lv x : Int) := hv 0 (by simp)
    obtain ⟨j, hj, e⟩ := vals_surj (sx := r) (vs := t) (fun y hy => h y (List.mem_cons_of_mem _ hy)) (by simpa using hl) (fun i hi => hv (i + 1) (by simpa using hi))
    refine ⟨v.toNat * cnt r + j, ?_, ?_⟩
    · have h1 : (v.toNat + 1) * cnt r ≤ lv x * cnt r := Nat.mul_le_mul_right _ (by omega)
      rw [Nat.add_mul, Nat.one_mul] at h1
      show _ < lv x * cnt r
      omega
    · show ((((v.toNat * cnt r + j) / cnt r % lv x : Nat) : Int)) :: vals r (v.toNat * cnt r + j) = v :: t
      rw [vals_add r _ _ (fun y hy => h y (List.mem_cons_of_mem _ hy)), e]
      have h2 : (v.toNat * cnt r + j) / cnt r = v.toNat := by
        rw [Nat.mul_comm, Nat.mul_add_div (by omega), Nat.div_eq_of_lt hj, Nat.add_zero]
      rw [h2, Nat.mod_eq_of_lt (by omega)]
      congr 1; omega
theorem pass_of_fit {sx : List Variable} {l : List Edit} {vs : List Int} (hL : Lok sx) (hf : fitOk sx vs = true) (h : failsB l vs = false) : vs ∈ pass sx l := by
  have hl := fit_len hf
  unfold fitOk at hf; simp only [Bool.and_eq_true, decide_eq_true_eq] at hf
  obtain ⟨j, hj, rfl⟩ := vals_surj (sx := sx) (vs := vs) (fun x hx => by have := hL.2 x hx; unfold lv; omega) hl (fun i hi => by
    have h1 := inb_iff'.1 (range_all_at hf.2 hi)
    have h2 := lv_at hL hi
    rw [vAt_at hi] at h1 ⊢
    omega)
  exact List.mem_map.2 ⟨j, List.mem_filter.2 ⟨List.mem_range.2 hj, by rw [h]; rfl⟩, rfl⟩
theorem cov_found {sx : List Variable} {l : List Edit} {w vs x : List Int} (hL : Lok sx) (hx : x ∈ pass sx l) : (cov sx l w vs).2.2 = true := by
  have h6 := hL.1
  have ⟨m1, m2⟩ := mkp_ok (p := fun _ => true) sx.length
  have hcm : compl sx l vs (cI (bl (mkp (fun _ => true) sx.length))) = true := List.any_eq_true.2 ⟨x, hx, agree_iff.2 fun i hi hb => by
    rw [hasB_bl (by omega), m2 i hi] at hb; cases hb⟩
  exact ((ccv_fact (sx := sx) (l := l) (w := w) (vs := vs) (2 ^ sx.length)).2.1 _ m1 hcm).1
/-! ### the nearest donor -/
def ndc (w : List Int) (n : Nat) (r : Record) (vs : List Int) : Int := wsm w (dif r.Values vs) n
def nd (sx : List Variable) (l : List Edit) (w : List Int) (d : List Record) (vs : List Int) : Nat → Int × Int
  | 0 => (-1, 0)
  | i + 1 => match d[i]? with
    | none => nd sx l w d vs i
    | some r => if failsB l r.Values then nd sx l w d vs i else if decide ((nd sx l w d vs i).1 < 0) || decide (ndc w sx.length r vs < (nd sx l w d vs i).2) then ((i : Int), ndc w sx.length r vs) else nd sx l w d vs i
theorem nd_succ {sx : List Variable} {l : List Edit} {w : List Int} {d : List Record} {vs : List Int} {i : Nat} (hi : i < d.length) : nd sx l w d vs (i + 1) = if failsB l d[i].Values then nd sx l w d vs i else if decide ((nd sx l w d vs i).1 < 0) || decide (ndc w sx.length d[i] vs < (nd sx l w d vs i).2) then ((i : Int), ndc w sx.length d[i] vs) else nd sx l w d vs i := by
  have e : d[i]? = some d[i] := List.getElem?_eq_getElem hi
  rw [nd, e]
theorem nd_fact {sx : List Variable} {l : List Edit} {w : List Int} {d : List Record} {vs : List Int} : ∀ i, i ≤ d.length → (nd sx l w d vs i).1 = -1 ∨ ∃ j, ∃ hj : j < d.length, (nd sx l w d vs i).1 = (j : Int) ∧ failsB l d[j].Values = false
  | 0, _ => .inl rfl
  | i + 1, hi => by
    have ih := nd_fact (sx := sx) (l := l) (w := w) (d := d) (vs := vs) i (by omega)
    rw [nd_succ (by omega)]
    split
    · exact ih
    · rename_i g
      split
      · exact .inr ⟨i, by omega, rfl, by simpa using g⟩
      · exact ih
def ndG (sx : List Variable) (l : List Edit) (w : List Int) (d : List Record) (vs : List Int) : Bool := mGuard sx l w d && fitOk sx vs
def ndO (sx : List Variable) (l : List Edit) (w : List Int) (d : List Record) (vs : List Int) : Bool := ndG sx l w d vs && !decide ((nd sx l w d vs d.length).1 < 0)
def ndI (sx : List Variable) (l : List Edit) (w : List Int) (d : List Record) (vs : List Int) : Int := if ndO sx l w d vs then (nd sx l w d vs d.length).1 else 0
theorem iND_ok {sx : List Variable} {l : List Edit} {w : List Int} {d : List Record} {vs : List Int} {Q : Int → Bool → Prop} (hW : Wide sx l) (hww : w.length ≤ 1048576)
    (hq : Q (ndI sx l w d vs) (ndO sx l w d vs)) : impl_NearestDonor sx l w d vs Q := by
  unfold impl_NearestDonor
  refine jn_bool (!ndG sx l w d vs) ?_ fun k hk => isMendable_ok hW hww (br_nb (fun g => ?_) (fun g => isData_ok (by simp only [Bool.and_eq_true] at g; exact (maxOk_of g.1).1) (br_nb (fun g1 => ?_) (fun g1 => areValues_ok (by simp only [Bool.and_eq_true] at g; exact (maxOk_of g.1).1) ?_))))
  · refine br_nb (fun g => ?_) (fun g => ?_)
    · unfold ndI ndO at hq; rw [g] at hq; exact hq
    · have g0 := g
      unfold ndG at g0
      simp only [Bool.and_eq_true] at g0
      have ⟨gm, gw, h40, hrec⟩ := mG_of g0.1
      have ⟨hL, _, he⟩ := maxOk_of gm
      have hw := w_of gw
      have h6 := hL.1
      have hvl2 := fit_len g0.2
      refine loop3_list (by omega) (fun b c i => b = (nd sx l w d vs i).1 ∧ c = (nd sx l w d vs i).2) ⟨rfl, rfl⟩ ?_ ?_
      · rintro _ _ i nx hi ⟨rfl, rfl⟩ hx
        have hfit := rec_fit (hrec _ (List.getElem_mem hi))
        have hvl := fit_len hfit
        refine jn_bool2 (nd sx l w d vs (i + 1)).1 (nd sx l w d vs (i + 1)).2 (hx _ _ ⟨rfl, rfl⟩) fun k hk => idx_at hi (failsOne_ok (by rw [hvl]; exact he) (fit_vok hL hfit) (by omega) (br_bo (fun g1 => ?_) (fun g1 => changeCost_ok hw hvl hvl2 h6 ?_)))
        · rw [nd_succ hi, g1, if_pos rfl] at hk; exact hk
        · rw [nd_succ hi, g1, if_neg (by decide)] at hk
          refine jn_bool (decide ((nd sx l w d vs i).1 < 0) || decide (ndc w sx.length d[i] vs < (nd sx l w d vs i).2)) ?_ fun k2 hk2 => br_dec (fun g2 => ?_) (fun g2 => ?_)
          · refine br_bo (fun g2 => ?_) (fun g2 => ?_)
            · rw [g2, if_pos rfl] at hk; exact hk
            · rw [g2, if_neg (by decide)] at hk; exact hk
          · rw [decide_eq_true g2] at hk2; exact hk2
          · rw [decide_eq_false g2, Bool.false_or] at hk2; exact hk2
      · rintro _ _ ⟨rfl, rfl⟩
        unfold ndI ndO at hq
        rw [g, Bool.true_and] at hq
        refine br_dec (fun g2 => ?_) (fun g2 => ?_)
        · rw [decide_eq_true g2] at hq; exact hq
        · rw [decide_eq_false g2] at hq; exact hq
  · have : ndG sx l w d vs = false := by unfold ndG mGuard; rw [g]; rfl
    rw [this] at hk; exact hk
  · have : ndG sx l w d vs = false := by unfold ndG mGuard; rw [g1, Bool.and_false]; rfl
    rw [this] at hk; exact hk
  · have : ndG sx l w d vs = fitOk sx vs := by unfold ndG mGuard; rw [g, g1]; rfl
    rw [this] at hk; exact hk
theorem sND_ok {sx : List Variable} {l : List Edit} {w : List Int} {d : List Record} {vs : List Int} {Q : Int → Bool → Prop} (hW : Wide sx l) (hww : w.length ≤ 1048576) (hd : d.length ≤ 1048576)
    (hq : Q (ndI sx l w d vs) (ndO sx l w d vs)) : spec_NearestDonor sx l w d vs Q := by
  unfold spec_NearestDonor
  refine jn_bool (!ndG sx l w d vs) ?_ fun k hk => iInput_ok hW hww (br_nb (fun g => ?_) (fun g => dGood_ok (by unfold pkOk at g; simp only [Bool.and_eq_true] at g; exact (maxOk_of g.1.1).1) hd ?_))
  · refine br_nb (fun g => ?_) (fun g => ?_)
    · unfold ndI ndO at hq; rw [g] at hq; exact hq
    · have g0 := g
      unfold ndG at g0
      simp only [Bool.and_eq_true] at g0
      have ⟨gm, gw, h40, hrec⟩ := mG_of g0.1
      have ⟨hL, _, he⟩ := maxOk_of gm
      have hw := w_of gw
      have h6 := hL.1
      have hvl2 := fit_len g0.2
      refine loop3_list (by omega) (fun b c i => b = (nd sx l w d vs i).1 ∧ c = (nd sx l w d vs i).2) ⟨rfl, rfl⟩ ?_ ?_
      · rintro _ _ i nx hi ⟨rfl, rfl⟩ hx
        have hfit := rec_fit (hrec _ (List.getElem_mem hi))
        have hvl := fit_len hfit
        refine jn_bool2 (nd sx l w d vs (i + 1)).1 (nd sx l w d vs (i + 1)).2 (hx _ _ ⟨rfl, rfl⟩) fun k hk => idx_at hi (eFailed_b (by rw [hvl]; exact he) (fit_vok hL hfit) (by omega) (fun g1 => ?_) (fun g1 => iChanged_ok hw hvl hvl2 h6 ?_))
        · rw [nd_succ hi, g1, if_pos rfl] at hk; exact hk
        · rw [nd_succ hi, g1, if_neg (by decide)] at hk
          refine jn_bool (decide ((nd sx l w d vs i).1 < 0) || decide (ndc w sx.length d[i] vs < (nd sx l w d vs i).2)) ?_ fun k2 hk2 => br_dec (fun g2 => ?_) (fun g2 => ?_)
          · refine br_bo (fun g2 => ?_) (fun g2 => ?_)
            · rw [g2, if_pos rfl] at hk; exact hk
            · rw [g2, if_neg (by decide)] at hk; exact hk
          · rw [decide_eq_true g2] at hk2; exact hk2
          · rw [decide_eq_false g2, Bool.false_or] at hk2; exact hk2
      · rintro _ _ ⟨rfl, rfl⟩
        unfold ndI ndO at hq
        rw [g, Bool.true_and] at hq
        refine br_dec (fun g2 => ?_) (fun g2 => ?_)
        · rw [decide_eq_true g2] at hq; exact hq
        · rw [decide_eq_false g2] at hq; exact hq
  · have : ndG sx l w d vs = false := by
      unfold ndG mGuard
      unfold pkOk at g
      rw [Bool.and_assoc, Bool.and_comm (dOk sx d), ← Bool.and_assoc, g, Bool.false_and]
    rw [this] at hk; exact hk
  · have : ndG sx l w d vs = dOk sx d := by
      unfold ndG mGuard
      unfold pkOk at g
      rw [Bool.and_assoc, Bool.and_comm (dOk sx d), ← Bool.and_assoc, g, Bool.true_and]
    rw [this] at hk; exact hk
/-! ### donated values -/
theorem fit_set {sx : List Variable} {m : List Int} {i : Nat} {x : Int} (hm : fitOk sx m = true) (hx : i < sx.length → 0 ≤ x ∧ x ≤ (vAt sx i).Levels - 1) : fitOk sx (m.set i x) = true := by
  have hl := fit_len hm
  unfold fitOk at hm ⊢
  simp only [Bool.and_eq_true, decide_eq_true_eq] at hm ⊢
  refine ⟨by rw [List.length_set]; exact hm.1, List.all_eq_true.2 fun j hj => ?_⟩
  have hj := List.mem_range.1 hj
  by_cases e : i = j
  · subst e
    rw [gi_set (by omega), if_pos rfl, inb_iff']; exact hx hj
  · have h1 := range_all_at hm.2 hj
    unfold gi at h1 ⊢
    simpa [List.getD_eq_getElem?_getD, e] using h1
theorem donor_ok {sx : List Variable} {l : List Edit} {w vs x : List Int} {Q : List Int → Bool → Bool → Prop} (hW : Wide sx l) (hww : w.length ≤ 1048576) (hm : maxOk sx l = true) (hwo : wOk sx w = true) (hf : fitOk sx vs = true) (hfx : fitOk sx x = true) (hx : failsB l x = false)
    (hq : ∀ y b, fitOk sx y = true → failsB l y = false → Q y b true) : impl_DonorMend sx l w vs x Q := by
  have ⟨hL, _, he⟩ := maxOk_of hm
  have hw := w_of hwo
  have h6 := hL.1
  have h1 := len1_max hm
  have hvl := fit_len hf
  have hxl := fit_len hfx
  unfold impl_DonorMend impl_cheapestChange
  refine jn_bool false ?_ fun k hk => isMendable_ok hW hww ?_
  · refine br_false rfl (leastCheap_ok hL h1 he hvl hw ?_)
    have hfo := cov_found (w := w) (vs := vs) hL (pass_of_fit hL hfx hx)
    have ⟨c1, c2, c3, c4, c5, c6⟩ := cov_at hL hw hfo
    have hcl := cov_len (sx := sx) (l := l) (w := w) (vs := vs)
    have hfo' : (ccv sx l w vs (2 ^ sx.length)).2.2 = true := hfo
    rw [hfo']
    refine br_false rfl (Clone_ok (by omega) ?_)
    refine loop2_list (xs := (ccv sx l w vs (2 ^ sx.length)).1) (by unfold cov at hcl; omega) (fun m i => fitOk sx m = true) hf ?_ ?_
    · intro m i nx hi hmf hx2
      have hv := c6 _ (List.getElem_mem hi)
      have hml := fit_len hmf
      refine idx_at hi (idx_of hv.1 (by omega) ⟨hv.1, by omega, hx2 _ (fit_set hmf fun hlt => ?_)⟩)
      have hfx2 := hfx
      unfold fitOk at hfx2; simp only [Bool.and_eq_true, decide_eq_true_eq] at hfx2
      have := inb_iff'.1 (range_all_at hfx2.2 hlt)
      rw [gi_at (by omega)] at this
      exact this
    · intro m hmf
      have hml := fit_len hmf
      refine failsOne_ok (by rw [hml]; exact he) (fit_vok hL hmf) (by omega) (br_nb (fun g1 => hq _ _ hmf g1) (fun g1 => ?_))
      refine otherVars_ok (by omega) (by unfold cov at hcl; omega) (completionOf_eq hL h1 he hvl ?_)
      have hp := pass_in hL c4
      exact hq _ _ hp.1 hp.2.2.2
  · rw [hm, hwo]
    refine br_false rfl (areValues_ok hL ?_)
    rw [hf]
    refine br_false rfl (areValues_ok hL ?_)
    rw [hfx]; exact hk
theorem failedEdits_ok {sx : List Variable} {l : List Edit} {y : List Int} {Q : List Int → Bool → Prop} (hW : Wide sx l) (hm : maxOk sx l = true) (hf : fitOk sx y = true) (hx : failsB l y = false) (hq : ∀ o : List Int, o.length = 0 → Q o true) : impl_FailedEdits sx l y Q := by
  have ⟨hL, _, he⟩ := maxOk_of hm
  have h6 := hL.1
  have hyl := fit_len hf
  have hyo := fit_vok hL hf
  have hm' := hm
  unfold maxOk smOk at hm'
  simp only [Bool.and_eq_true] at hm'
  have hE := he.1
  unfold impl_FailedEdits
  refine jn_bool false ?_ fun k hk => IsSchema_ok hW.1.1 ?_
  · refine br_false rfl (loop2_list (by omega) (fun o i => o.length = 0) rfl ?_ ?_)
    · intro o i nx hi ho hx2
      refine jn_bool o (hx2 _ ho) fun k hk => idx_at hi (fails_ok (he.2 _ (List.getElem_mem hi)).1 hyo (by have := (he.2 _ (List.getElem_mem hi)).2; show y.length ≤ l[i].Sets.length; omega) (by omega) ?_)
      have : boxIn l[i].Sets y = false := by
        cases e : boxIn l[i].Sets y with
        | false => rfl
        | true => have := lany_yes (p := fun e => boxIn e.Sets y) hi e; unfold failsB at hx; rw [hx] at this; cases this
      have this' : boxIn (Edit.mk l[i].Sets).Sets y = false := this
      rw [this']
      exact br_false rfl hk
    · intro o ho; exact hq o ho
  · rw [hm'.1.1]
    refine br_false rfl (areEdits_ok hL hW.2.2 ?_)
    rw [hm'.2]
    refine br_false rfl (areValues_ok hL ?_)
    rw [hf]; exact hk
theorem failingRecords_ok {sx : List Variable} {l : List Edit} {d : List Record} {Q : List Int → Bool → Prop} (hW : Wide sx l) (hm : maxOk sx l = true) (hd : dOk sx d = true) (hq : ∀ o : List Int, o.length ≤ d.length → ((∀ r ∈ d, failsB l r.Values = false) → o.length = 0) → Q o true) : impl_FailingRecords sx l d Q := by
  have ⟨hL, _, he⟩ := maxOk_of hm
  have h6 := hL.1
  have hd0 := hd
  unfold dOk at hd0
  simp only [Bool.and_eq_true, decide_eq_true_eq] at hd0
  have hm' := hm
  unfold maxOk at hm'
  simp only [Bool.and_eq_true] at hm'
  unfold impl_FailingRecords
  refine jn_bool false ?_ fun k hk => isSmall_ok hW.1.1 ?_
  · refine br_false rfl (loop2_list (by omega) (fun o i => o.length ≤ i ∧ ((∀ r ∈ d, failsB l r.Values = false) → o.length = 0)) ⟨by simp, by simp⟩ ?_ ?_)
    · rintro o i nx hi ⟨ho1, ho2⟩ hx2
      have hfit := rec_fit (List.all_eq_true.1 hd0.2 _ (List.getElem_mem hi))
      have hvl := fit_len hfit
      refine jn_ok (fun k => ∀ o : List Int, o.length ≤ i + 1 → ((∀ r ∈ d, failsB l r.Values = false) → o.length = 0) → k o) (fun o a b => hx2 _ ⟨a, b⟩) fun k hk => idx_at hi (failsOne_ok (by rw [hvl]; exact he) (fit_vok hL hfit) (by omega) (br_bo (fun g => ⟨by unfold ln; simp only [List.length_singleton]; omega, hk _ (by simp; omega) fun hall => ?_⟩) (fun g => hk _ (by omega) ho2)))
      have := hall _ (List.getElem_mem hi)
      rw [g] at this; cases this
    · rintro o ⟨ho1, ho2⟩; exact hq o ho1 ho2
  · rw [hm'.1]
    refine br_false rfl (areEdits_ok hL hW.2.2 ?_)
    rw [hm'.2]
    refine br_false rfl (isData_ok hL ?_)
    rw [hd]; exact hk
/-! ### the law -/
theorem qRecord_same {r : Record} {Q : Bool → Prop} (hl : r.Values.length ≤ 1048576) (hq : Q true) : laws_qRecord r r Q := by
  unfold laws_qRecord
  exact jn_bool true hq fun k hk => br_true (by simp) (br_true (by simp) (qInts_same hl hk))
theorem qData_same {d : List Record} {Q : Bool → Prop} (hl : d.length ≤ 1048576) (hv : ∀ r ∈ d, r.Values.length ≤ 1048576) (hq : Q true) : laws_qData d d Q := by
  unfold laws_qData
  exact br_false (by simp) (loop1_list (by omega) (fun _ => True) trivial (fun i nx hi _ hx => idx_at hi (idx_at hi (det1_of true (qRecord_same (hv _ (List.getElem_mem hi)) rfl) (br_false rfl (hx trivial))))) (fun _ => hq))
theorem mD_facts {sx : List Variable} {l : List Edit} {w : List Int} {d : List Record} (g : mOk sx l w d = true) : mGuard sx l w d = true ∧ dOk sx (mD sx l w d) = true ∧ (∀ r ∈ mD sx l w d, failsB l r.Values = false) ∧ (mC sx l w d).length = d.length ∧ d.length ≤ 40 := by
  have g0 := g
  unfold mOk at g0
  simp only [Bool.and_eq_true] at g0
  have ⟨gm, gw, h40, hrec⟩ := mG_of g0.1
  have ⟨hL, _, he⟩ := maxOk_of gm
  have hw := w_of gw
  have key : ∀ r ∈ d, fitOk sx (mvals sx l w r) = true ∧ failsB l (mvals sx l w r) = false := fun r hr => by
    unfold mvals
    cases e : failsB l r.Values with
    | false => exact ⟨rec_fit (hrec r hr), e⟩
    | true =>
      have hf := List.all_eq_true.1 g0.2 r hr
      unfold mfound at hf
      rw [e, Bool.not_true, Bool.false_or] at hf
      have ⟨_, _, _, c4, _, _⟩ := cov_at hL hw hf
      have hp := pass_in hL c4
      exact ⟨hp.1, hp.2.2.2⟩
  unfold mD mC
  rw [g, if_pos rfl, if_pos rfl]
  refine ⟨g0.1, ?_, fun r hr => ?_, by simp, h40⟩
  · unfold dOk
    simp only [Bool.and_eq_true, decide_eq_true_eq]
    refine ⟨by simpa using h40, List.all_eq_true.2 fun r hr => ?_⟩
    obtain ⟨q, hq, rfl⟩ := List.mem_map.1 hr
    have h1 := hrec q hq
    unfold recOk at h1 ⊢
    simp only [Bool.and_eq_true] at h1 ⊢
    exact ⟨h1.1, (key q hq).1⟩
  · obtain ⟨q, hq, rfl⟩ := List.mem_map.1 hr
    exact (key q hq).2
theorem mD_len {sx : List Variable} {l : List Edit} {w : List Int} {d : List Record} : (mD sx l w d).length ≤ 40 ∧ (∀ r ∈ mD sx l w d, r.Values.length ≤ 1048576) ∧ (mC sx l w d).length ≤ 40 := by
  cases g : mOk sx l w d with
  | false => unfold mD mC; rw [g]; exact ⟨by simp, fun r hr => by simp at hr, by simp⟩
  | true =>
    have ⟨h1, h2, _, h4, h5⟩ := mD_facts g
    have ⟨gm, _, _, _⟩ := mG_of h1
    have h6 := (maxOk_of gm).1.1
    unfold dOk at h2
    simp only [Bool.and_eq_true, decide_eq_true_eq] at h2
    exact ⟨h2.1, fun r hr => by have := fit_len (rec_fit (List.all_eq_true.1 h2.2 r hr)); omega, by omega⟩
theorem lawDonors (code more : List B8) (w0 : Wf.wf code) (w1 : Wf.wf more) : laws_FnDonors code more (fun r => r = true) := by
  have c1 : bytesOk code := w0.2
  have c2 : bytesOk more := w1.2
  unfold laws_FnDonors
  refine br_bo (fun _ => rfl) (fun _ => ?_)
  unfold spec_DrawMendData
  refine mended_ok c1 fun sx l w vs a1 s1 hs hW hwl hvl q0 q1 => anyData_ok c1 hs.1 (by omega) fun d _ _ hd => ?_
  have hdl := hd.1
  have hdv : ∀ r ∈ d, r.Values.length ≤ 1048576 := fun r hr => by have := hd.2 r hr; omega
  refine iMD_ok hW (by omega) (by omega) hdv (sMD_ok hW (by omega) (by omega) hdv ?_)
  unfold spec_DrawNearestDonor
  refine mended_ok c2 fun sx2 l2 w2 vs2 a2 s2 hs2 hW2 hwl2 hvl2 p0 p1 => anyData_ok c2 hs2.1 (by omega) fun d2 _ _ hd2 => ?_
  have hdl2 := hd2.1
  refine iND_ok hW2 (by omega) (sND_ok hW2 (by omega) (by omega) ?_)
  have ⟨m1, m2, m3⟩ := mD_len (sx := sx) (l := l) (w := w) (d := d)
  refine jn_bool false ?_ fun k hk => br_false (by simp) (qData_same (by omega) m2 (br_false rfl (qInts_same (by omega) (br_false rfl (br_false (by simp) (by simpa using hk))))))
  refine br_false rfl (jn_ok (fun K => K) ?_ fun K hK => ?_)
  · refine br_nb (fun _ => rfl) (fun g => ?_)
    have ⟨f1, f2, f3, f4, f5⟩ := mD_facts g
    have ⟨gm, gw, h40, hrec⟩ := mG_of f1
    have fd : dOk sx d = true := by
      unfold dOk; rw [decide_eq_true h40, List.all_eq_true.2 hrec]; rfl
    refine failingRecords_ok hW gm f2 fun o ho1 ho2 => failingRecords_ok hW gm fd fun o2 ho3 _ => ?_
    have h0 := ho2 f3
    refine jn_bool true rfl fun k hk => br_true rfl (br_true rfl (br_true (by unfold ln; rw [h0]; rfl) (br_yes (by unfold ln; omega) ?_)))
    have : (ln (mC sx l w d) == ln d) = true := by unfold ln; rw [f4]; simp
    rw [this]; exact hk
  · refine br_bo (fun g => ?_) (fun _ => hK)
    have g0 := g
    unfold ndO ndG at g0
    simp only [Bool.and_eq_true, Bool.not_eq_true', decide_eq_false_iff_not] at g0
    have ⟨gm, gw, h40, hrec⟩ := mG_of g0.1.1
    have eI : ndI sx2 l2 w2 d2 vs2 = (nd sx2 l2 w2 d2 vs2 d2.length).1 := by unfold ndI; rw [g, if_pos rfl]
    rcases nd_fact (sx := sx2) (l := l2) (w := w2) (d := d2) (vs := vs2) d2.length (Nat.le_refl _) with h | ⟨j, hj, ej, hfj⟩
    · rw [h] at g0; omega
    · rw [eI, ej]
      have hfit := rec_fit (hrec _ (List.getElem_mem hj))
      refine idx_at hj (donor_ok hW2 (by omega) gm gw g0.1.2 hfit hfj fun y b hy1 hy2 => failedEdits_ok hW2 gm hy1 hy2 fun o ho => ?_)
      refine jn_bool false (br_false rfl hK) fun k hk => br_false rfl (br_false rfl ?_)
      rw [decide_eq_false (by unfold ln; omega)]; exact hk
end Go.Proofs.Ytklajcbpnpkniaa
