/- The plain law of FnImplied. -/
import Derived.Test.YtdaojggigfnnpaaNB
set_option linter.unusedVariables false
set_option autoImplicit false
namespace Go.Proofs.Ytdaojggigfnnpaa
open Go Go.RowKit Go.Gv

theorem containsEdit_ok {code : List B8} {Q : List Variable → Edit → Edit → Prop} (hc : bytesOk code) (h : ∀ sx e f, sdOk sx → e.Sets.length ≤ 8 → f.Sets.length ≤ 8 → Q sx e f) : spec_DrawContainsEdit code Q := by
  unfold spec_DrawContainsEdit
  refine anySchema_ok hc (by omega) fun sx a1 s1 hs h0 h1 => anyEdit_ok hc hs (by omega) fun e a2 s2 he q0 q1 => anyEdit_ok hc hs (by omega) fun f a3 s3 hf p0 p1 => ?_
  refine jn_ok (fun K => ∀ s : List Int, s.length ≤ 8 → K s) (fun s hs' => h _ _ _ hs he hs') fun K hK => ?_
  refine jn_ok (fun k => k false ∧ (schOk sx = true → eOk sx e = true → eOk sx f = true → k true)) ⟨br_false rfl (hK _ hf), fun g1 g2 g3 => br_true rfl ?_⟩ fun k hk => ?_
  · have l1 := (eOk_of g2).1
    have l2 := (eOk_of g3).1
    refine loop2_listF (by omega) (fun o i => o.length = f.Sets.length) rfl ?_ ?_
    · intro o i nx hi ho hx
      refine jn_of (idx_at (by omega) (idx_at (by omega) (br_bo (fun _ => idx_at (by omega) (idx_at (by omega) ⟨by omega, by omega, hx _ ?_⟩)) (fun _ => hx _ ho))))
      rw [List.length_set]; exact ho
    · intro o ho
      exact hK _ (by omega)
  · refine one_ok hc (by unfold atOk; omega) fun b a4 s4 _ _ => br_bo (fun _ => sGood_ok hs.wide.1 hs.wide.2 (br_bo (fun g => eGood_ok (Lok_of g) (by show e.Sets.length ≤ _; omega) (br_bo (fun g2 => eGood_ok (Lok_of g) (by show f.Sets.length ≤ _; omega) ?_) (fun _ => hk.1))) (fun _ => hk.1))) (fun _ => hk.1)
    cases hef : eOk sx f with
    | true => exact hk.2 g g2 hef
    | false => exact hk.1
theorem drawResolve_ok {code : List B8} {Q : List Variable → Edit → Edit → Int → Prop} (hc : bytesOk code) (h : ∀ sx e f v, sdOk sx → e.Sets.length ≤ 8 → f.Sets.length ≤ 8 → Q sx e f v) : spec_DrawResolveEdits code Q := by
  unfold spec_DrawResolveEdits
  refine containsEdit_ok hc fun sx e f hs he hf => ?_
  refine pick_ok hc (by unfold atOk; omega) fun r a1 s1 _ _ _ _ _ => pick_ok hc (by unfold atOk; omega) fun r2 a2 s2 _ _ _ _ _ => h _ _ _ _ hs he hf
theorem lawImplied (code more : List B8) (w0 : Wf.wf code) (w1 : Wf.wf more) : laws_FnImplied code more (fun r => r = true) := by
  have c1 : bytesOk code := w0.2
  have c2 : bytesOk more := w1.2
  unfold laws_FnImplied
  refine big_ok fun b => br_bo (fun _ => rfl) (fun _ => ?_)
  unfold spec_DrawMaximalEdits
  refine countPassing_ok c1 fun sx l hs hl => ?_
  have hW : Wide sx l := ⟨hs.wide, ⟨by have := hl.1; omega, fun e he => by have := hl.2 e he; omega⟩⟩
  refine iMax_ok hW (sMax_ok hW ?_)
  have hlen := maxR_len (sx := sx) (l := l)
  refine jn_bool false ?_ fun k hk => br_false (by simp) (pSameEdits_same hlen (by simpa using hk))
  refine br_false rfl (loop1_list (by omega) (fun _ => True) trivial (fun i nx hi _ hx => idx_at hi ?_) (fun _ => ?_))
  · cases g : maxOk sx l with
    | false => exfalso; unfold maxR at hi; rw [g] at hi; simp at hi
    | true =>
      have hm : maxR sx l = maxE sx l (-1) := by unfold maxR; rw [if_pos g]
      have he := maxE_imp g (e := (maxR sx l)[i]) (by rw [← hm]; exact List.getElem_mem hi)
      have he1 : impOk sx l ⟨(maxR sx l)[i].Sets⟩ = true := he.1
      have he2 : impB sx l (Edit.mk (maxR sx l)[i].Sets).Sets = true := he.2
      refine isImplied_ok hs.wide.1 hW.2.2 (hlen.2 _ (List.getElem_mem hi)) ?_
      rw [he1, he2]
      exact jn_of (br_false rfl (br_false rfl (br_dec (fun g => decide_eq_true g) (fun _ => hx trivial))))
  · refine jn_ok (fun K => K) ?_ fun K hK => ?_
    · refine drawResolve_ok c2 fun sx e f v hs he hf => ?_
      refine iResolve_ok hs.wide.1 (by show e.Sets.length ≤ _; omega) (by show f.Sets.length ≤ _; omega) (sResolve_ok hs.wide.1 hs.wide.2 (by show e.Sets.length ≤ _; omega) (by show f.Sets.length ≤ _; omega) ?_)
      have hrl := rsR_len (sx := sx) (e := e) (f := f) (v := v) (by omega)
      refine jn_bool false ?_ fun k hk => br_false (by simp) (sameInts_same hrl (by simpa using hk))
      refine br_false rfl (br_bo (fun g => ?_) (fun _ => rfl))
      have ⟨g1, g2⟩ := rs_imp (sx := sx) (e := e) (f := f) (v := v) g
      refine isImplied_ok hs.wide.1 (wide2 (by show e.Sets.length ≤ _; omega) (by show f.Sets.length ≤ _; omega)) hrl ?_
      have g1' : impOk sx [⟨e.Sets⟩, ⟨f.Sets⟩] ⟨(rsR sx ⟨e.Sets⟩ ⟨f.Sets⟩ v).Sets⟩ = true := g1
      have g2' : impB sx [⟨e.Sets⟩, ⟨f.Sets⟩] (Edit.mk (rsR sx ⟨e.Sets⟩ ⟨f.Sets⟩ v).Sets).Sets = true := g2
      rw [g1', g2']
      exact jn_of (br_true rfl rfl)
    · refine jn_of (br_bo (fun g => br_dec (fun g2 => ?_) (fun _ => hK)) (fun _ => br_false rfl hK))
      have hm : maxR sx l = maxE sx l (-1) := by unfold maxR; rw [if_pos g]
      have hl0 := hl.1
      refine loop1_list (by omega) (fun _ => True) trivial (fun i nx hi _ hx => idx_at hi ?_) (fun _ => hK)
      have he := imp_maxE g (by rw [← hm]; unfold ln at g2; omega) (e := l[i]) (List.getElem_mem hi)
      rw [← hm] at he
      have he1 : impOk sx (maxR sx l) ⟨l[i].Sets⟩ = true := he.1
      have he2 : impB sx (maxR sx l) (Edit.mk l[i].Sets).Sets = true := he.2
      refine isImplied_ok hs.wide.1 hlen.2 (hW.2.2 _ (List.getElem_mem hi)) ?_
      rw [he1, he2]
      exact jn_of (br_false rfl (br_false rfl (hx trivial)))
end Go.Proofs.Ytdaojggigfnnpaa
