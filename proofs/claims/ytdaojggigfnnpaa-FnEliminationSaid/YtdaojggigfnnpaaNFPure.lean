/- The plain law of FnElimination. -/
import Derived.Test.YtdaojggigfnnpaaNE
set_option linter.unusedVariables false
set_option autoImplicit false
namespace Go.Proofs.Ytdaojggigfnnpaa
open Go Go.RowKit Go.Gv

/-! ### draws -/
theorem values_ok {code : List B8} {sx : List Variable} {a s : Int} {Q : List Int → Int → Int → Prop} (hc : bytesOk code) (hl : sx.length ≤ 7) (ha : 0 ≤ a ∧ a ≤ 900000000000) (h : ∀ l a' s', l.length = sx.length → 0 ≤ a' → a' ≤ a + 14 → Q l a' s') : spec_l1Cur_values ⟨code, a, s⟩ sx Q := by
  unfold spec_l1Cur_values
  dsimp only
  refine ⟨fun o x at1 _ => ∃ n : Nat, x = (n : Int) ∧ n ≤ sx.length ∧ o.length = n ∧ 0 ≤ at1 ∧ at1 ≤ a + 2 * (n : Int), fun _ x _ _ => ((sx.length : Int) - x).toNat, ⟨0, rfl, Nat.zero_le _, rfl, ha.1, by omega⟩, ?_⟩
  rintro o _ at1 s1 ⟨n, rfl, hn, hlo, h0, h1⟩
  refine br_dec (fun g => ?_) (fun g => h _ _ _ (by unfold ln at g; omega) h0 (by omega))
  unfold ln at g
  refine idx_at (by omega) (pick_ok hc (by unfold atOk; omega) fun r a1 s2 _ _ _ k2 k3 => ⟨by unfold ln; simp only [List.length_singleton]; omega, ?_⟩)
  rw [wr_in (by omega) (by omega)]
  exact ⟨⟨n + 1, by omega, by omega, by simp; omega, k2, by omega⟩, by dsimp only; omega⟩
theorem anyValues_ok {code : List B8} {sx : List Variable} {a s : Int} {Q : List Int → Int → Int → Prop} (hc : bytesOk code) (hl : sx.length ≤ 7) (ha : 0 ≤ a ∧ a ≤ 800000000000) (h : ∀ l a' s', l.length ≤ 8 → Q l a' s') : spec_l1Cur_anyValues ⟨code, a, s⟩ sx Q := by
  unfold spec_l1Cur_anyValues
  dsimp only
  refine values_ok hc hl (by omega) fun l a1 s1 hll h0 h1 => ?_
  refine jn_of (jn_ok (fun k => (0 < l.length → ∀ a' s', 0 ≤ a' → a' ≤ a1 + 2 → k true a' s') ∧ ∀ a' s', 0 ≤ a' → a' ≤ a1 + 2 → k false a' s') ⟨fun hp a' s' g0 g1 => br_true rfl ?_, fun a' s' g0 g1 => br_false rfl ?_⟩ fun k hk => ?_)
  · refine pick_ok hc (by unfold atOk; omega) fun r a2 s2 q0 q1 _ q2 q3 => among_ok hc (by unfold atOk; omega) (by simp) fun v hv a3 s3 _ _ => ⟨q0, by unfold ln at q1; omega, h _ _ _ (by rw [List.length_set]; omega)⟩
  · refine one_ok hc (by unfold atOk; omega) fun b a2 s2 _ _ => br_bo (fun _ => ⟨by unfold ln; simp only [List.length_singleton]; omega, h _ _ _ (by simp; omega)⟩) (fun _ => h _ _ _ (by omega))
  · refine br_dec (fun g => one_ok hc (by unfold atOk; omega) fun b a2 s2 j0 j1 => ?_) (fun g => hk.2 _ _ h0 (by omega))
    cases b with
    | true => exact hk.1 (by unfold ln at g; omega) _ _ j0 j1
    | false => exact hk.2 _ _ j0 j1
theorem drawFailed_ok {code : List B8} {Q : List Variable → List Edit → List Int → Prop} (hc : bytesOk code) (h : ∀ sx l vs, sdOk sx → edOk l → Q sx l vs) : spec_DrawFailedEdits code Q := by
  unfold spec_DrawFailedEdits
  exact anySchema_ok hc (by omega) fun sx a1 s1 hs h0 h1 => edits_ok hc hs (by omega) fun l a2 s2 hl g0 g1 => anyValues_ok hc hs.1 (by omega) fun vs a3 s3 _ => h _ _ _ hs hl
theorem drawElim_ok {code : List B8} {Q : List Variable → List Edit → Int → Prop} (hc : bytesOk code) (h : ∀ sx l v, sdOk sx → edOk l → Q sx l v) : spec_DrawEliminateVariable code Q := by
  unfold spec_DrawEliminateVariable
  refine countPassing_ok hc fun sx l hs hl => pick_ok hc (by unfold atOk; omega) fun r a1 s1 _ _ _ _ _ => pick_ok hc (by unfold atOk; omega) fun r2 a2 s2 _ _ _ _ _ => h _ _ _ hs hl
theorem wide_of {sx : List Variable} {l : List Edit} (hs : sdOk sx) (hl : edOk l) : Wide sx l := ⟨hs.wide, ⟨by have := hl.1; omega, fun e he => by have := hl.2 e he; omega⟩⟩
theorem numberOf_ok {b : List B8} {Q : Int → Prop} (hb : b.length ≤ 4611686018427387904) (h : ∀ m, Q m) : laws_numberOf b Q := by
  unfold laws_numberOf
  exact loop2_list hb (fun _ _ => True) trivial (fun a i nx hi _ hx => idx_at hi (hx _ trivial)) (fun a _ => h a)
/-! ### what the law asks -/
theorem failsEdit_ok {sx : List Variable} {e : Edit} {vs : List Int} {Q : Bool → Bool → Prop} (hg : schOk sx = true) (heo : eOk sx e = true) (hf : fitOk sx vs = true) (hv : Vok vs) (hq : Q (boxIn e.Sets vs) true) : impl_FailsEdit sx e vs Q := by
  have hL := Lok_of hg
  have h6 := hL.1
  have ⟨hs, hn⟩ := sok_of hL heo
  have hvl := fit_len hf
  unfold impl_FailsEdit
  refine jn_bool false ?_ fun k hk => IsSchema_ok (by omega) ?_
  · exact br_false rfl (fails_ok hs hv (by show _ ≤ e.Sets.length; omega) (by omega) hq)
  · rw [hg]
    refine br_false rfl (isEdit_ok hL (by show e.Sets.length ≤ _; omega) ?_)
    rw [show eOk sx ⟨e.Sets⟩ = true from heo]
    refine br_false rfl (areValues_ok hL ?_)
    rw [hf]; exact hk
theorem canComplete_ok {sx : List Variable} {l : List Edit} {vs vars : List Int} {Q : Bool → Bool → Prop} (hW : Wide sx l) (hm : maxOk sx l = true) (hf : fitOk sx vs = true) (hq : Q (compl sx l vs vars) true) : impl_CanComplete sx l (oth sx vars) vs Q := by
  have ⟨hL, _, he⟩ := maxOk_of hm
  have h6 := hL.1
  have hm' := hm
  unfold maxOk at hm'
  simp only [Bool.and_eq_true] at hm'
  have ho := oth_len (sx := sx) (vars := vars)
  unfold impl_CanComplete
  refine jn_bool false ?_ fun k hk => isSmall_ok hW.1.1 ?_
  · refine br_false rfl (completionOf_ok hL (smOk_of hm'.1).2.2 he (fit_len hf) fun r hr => ?_)
    have e : (!(ln r == 0)) = compl sx l vs vars := by
      unfold ln
      cases hc : compl sx l vs vars with
      | false => have := hr.2 hc; simp; exact List.eq_nil_of_length_eq_zero this
      | true =>
        have : ¬ r.length = 0 := fun c => by rw [hr.1 c] at hc; cases hc
        simp; intro c; exact this (by rw [c]; rfl)
    rw [e]; exact hq
  · rw [hm'.1]
    refine br_false rfl (areEdits_ok hL hW.2.2 ?_)
    rw [hm'.2]
    refine br_false rfl (areVars_ok (by omega) hW.1.1 ?_)
    rw [oth_rising]
    refine br_false rfl (areValues_ok hL ?_)
    rw [hf]; exact hk
theorem vals_fitOk {sx : List Variable} (hL : Lok sx) (i : Nat) : fitOk sx (vals sx i) = true := by
  unfold fitOk
  simp only [Bool.and_eq_true, decide_eq_true_eq]
  refine ⟨vals_length sx i, List.all_eq_true.2 fun j hj => ?_⟩
  have hj := List.mem_range.1 hj
  have h1 := vals_fit hL i j hj
  have h2 := (lv_at hL hj).1
  rw [vAt_at hj] at h1 ⊢
  rw [inb_iff']; omega
theorem big_ok2 {code more : List B8} {Q : Bool → Prop} (h : ∀ b, (b = false → more.length ≤ 1048576) → Q b) : laws_big code more Q := by
  unfold laws_big
  refine jn_of (br_dec (fun _ => h _ (fun c => by cases c)) (fun g => h _ (fun c => ?_)))
  have c := of_decide_eq_false c
  unfold ln at *
  rw [wr_in (by omega) (by omega)] at c
  omega
theorem lawElimination (code more : List B8) (w0 : Wf.wf code) (w1 : Wf.wf more) : laws_FnElimination code more (fun r => r = true) := by
  have c1 : bytesOk code := w0.2
  have c2 : bytesOk more := w1.2
  unfold laws_FnElimination
  refine big_ok2 fun b hb => br_bo (fun _ => rfl) (fun gb => ?_)
  have hmore := hb gb
  refine drawElim_ok c1 fun sx l v hs hl => ?_
  have hW := wide_of hs hl
  refine iElim_ok hW (sElim_ok hW ?_)
  have hlen := elimE_len (sx := sx) (l := l) (v := v)
  refine jn_bool false ?_ fun k hk => br_false (by simp) (pSameEdits_same hlen (by simpa using hk))
  refine br_false rfl ?_
  refine jn_ok (fun K => K) ?_ fun K hK => ?_
  · refine drawFailed_ok c2 fun sx l vs hs hl => ?_
    have hW := wide_of hs hl
    refine iSC_ok hW (sSC_ok hW ?_)
    have := scR_len (sx := sx) (l := l) (vs := vs)
    exact jn_bool true rfl fun k hk => br_true (by simp) (sameInts_same (by omega) hk)
  · refine br_bo (fun g => ?_) (fun _ => hK)
    have g0 := g
    unfold elimOk at g0
    simp only [Bool.and_eq_true, decide_eq_true_eq] at g0
    obtain ⟨n, rfl⟩ : ∃ n : Nat, v = (n : Int) := ⟨v.toNat, by omega⟩
    have hm : maxOk sx l = true := by unfold maxOk; rw [g0.1.1, g0.1.2]; rfl
    obtain ⟨hL, hc, he⟩ := maxOk_of hm
    have h6 := hL.1
    have hE : elimE sx l n = maxE sx l n := by unfold elimE; rw [if_pos g]
    have hsch : schOk sx = true := by
      have := g0.1.1
      unfold smOk at this
      simp only [Bool.and_eq_true] at this
      exact this.1
    have hcs := cnt_small' hL
    unfold spec_CombinationCount
    refine sGood_ok hs.wide.1 hs.wide.2 ?_
    rw [hsch]
    refine br_false rfl (sCount_ok hL (numberOf_ok (by omega) fun m => ⟨by omega, ?_⟩))
    generalize Int.tmod m (cnt sx : Int) = i
    unfold spec_CombinationAt
    refine jn_bool (!inb 0 ((cnt sx : Int) - 1) i) ?_ fun k hk => sGood_ok hs.wide.1 hs.wide.2 ?_
    · refine br_nb (fun g1 => br_true rfl rfl) (fun g1 => ?_)
      have g1 := inb_iff'.1 g1
      obtain ⟨j, rfl⟩ : ∃ j : Nat, i = (j : Int) := ⟨i.toNat, by omega⟩
      refine sAt_ok hL (by omega) (br_false rfl ?_)
      have hfit := vals_fitOk hL j
      have hvo := vals_ok (sx := sx) j hL.2
      refine loop2_list (by omega) (fun p q => p = !((elimE sx l n).take q).any (fun e => boxIn e.Sets (vals sx j))) (by simp) ?_ ?_
      · rintro p q nx hi rfl hx
        refine jn_bool _ (hx _ rfl) fun k hk => idx_at hi (failsEdit_ok hsch ?_ hfit hvo (br_false rfl ?_))
        · have hmem : (elimE sx l n)[q] ∈ maxE sx l n := by rw [← hE]; exact List.getElem_mem hi
          exact eOk_of_inE hL (maxE_mem hmem).1
        · rw [lany_succ hi, Bool.not_or] at hk
          refine br_bo (fun g2 => ?_) (fun g2 => ?_)
          · rw [g2, Bool.true_and] at hk; exact hk
          · rw [g2, Bool.false_and] at hk; exact hk
      · rintro p rfl
        rw [List.take_length, hE, elim_iff hL (by omega) hfit, Bool.not_not]
        refine loop2_list (by omega) (fun o i => o = ((List.range i).filter fun (i : Nat) => !hasB [(n : Int)] (i : Int)).map fun (i : Nat) => (i : Int)) rfl ?_ ?_
        · rintro _ i nx hi rfl hx
          have hp : (((List.range i).filter fun (i : Nat) => !hasB [(n : Int)] (i : Int)).map fun (i : Nat) => (i : Int)).length ≤ i := by
            rw [List.length_map]
            have := List.length_filter_le (fun (i : Nat) => !hasB [(n : Int)] (i : Int)) (List.range i)
            rwa [List.length_range] at this
          refine jn_bool (((List.range (i + 1)).filter fun (i : Nat) => !hasB [(n : Int)] (i : Int)).map fun (i : Nat) => (i : Int)) (hx _ rfl) fun k hk => ?_
          rw [List.range_succ, List.filter_append, List.map_append, List.filter_cons, List.filter_nil, hasB1] at hk
          refine br_ne (fun g2 => ⟨by unfold ln; simp only [List.length_singleton]; omega, ?_⟩) (fun g2 => ?_)
          · rw [decide_eq_false (by omega)] at hk; exact hk
          · rw [decide_eq_true (by omega)] at hk; simpa using hk
        · rintro _ rfl
          refine canComplete_ok (vars := [(n : Int)]) hW hm hfit ?_
          refine jn_bool false (br_false rfl hK) fun k hk => br_false rfl (by simpa using hk)
    · rw [hsch]
      refine br_false rfl (sCount_ok hL (l1In_ok ?_))
      rw [wr_in (by omega) (by omega)]
      exact hk
end Go.Proofs.Ytdaojggigfnnpaa
