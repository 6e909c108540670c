/- The plain law of FnMending. -/
import Derived.Test.YtklajcbpnpkniaaMC
set_option linter.unusedVariables false
set_option autoImplicit false
namespace Go.Proofs.Ytklajcbpnpkniaa
open Go Go.RowKit Go.Gv

theorem qInts_same {l : List Int} {Q : Bool → Prop} (hl : l.length ≤ 1048576) (hq : Q true) : laws_qInts l l Q := by
  unfold laws_qInts
  refine br_false (by simp) (loop1_list (by omega) (fun _ => True) trivial (fun i nx hi _ hx => idx_at hi (idx_at hi (br_false (by simp) (hx trivial)))) (fun _ => hq))
def chR (sx : List Variable) (l : List Edit) (w vs : List Int) : List Int × Int × Bool := if pkOk sx l w vs then ccv sx l w vs (2 ^ sx.length) else ([], 0, false)
theorem len1_of {sx : List Variable} {l : List Edit} {w vs : List Int} (g : pkOk sx l w vs = true) : 1 ≤ sx.length := by
  unfold pkOk maxOk at g
  simp only [Bool.and_eq_true] at g
  exact (smOk_of g.1.1.1).2.2
theorem sCh_ok {sx : List Variable} {l : List Edit} {w vs : List Int} {Q : List Int → Int → Bool → Prop} (hW : Wide sx l) (hww : w.length ≤ 1048576) (hq : Q (chR sx l w vs).1 (chR sx l w vs).2.1 (chR sx l w vs).2.2) : spec_CheapestChange sx l w vs Q := by
  unfold spec_CheapestChange
  refine iInput_ok hW hww (br_nb (fun g => ?_) (fun g => ?_))
  · unfold chR at hq; rw [g] at hq; exact hq
  · unfold chR at hq; rw [g, if_pos rfl] at hq
    have ⟨⟨hL, _, he⟩, hw, hvl, _⟩ := pk_facts g
    exact iCheapest_ok hL he hvl hw hq
theorem iGuard {sx : List Variable} {l : List Edit} {w vs : List Int} {K : Bool → Prop} (hW : Wide sx l) (hww : w.length ≤ 1048576) (hq : K (!pkOk sx l w vs)) :
    jn (fun (k : Bool → Prop) => impl_isMendable sx l w fun r24 => br (!r24) (k true) <| impl_areValues sx vs fun r32 => k (!r32)) K := by
  refine jn_bool (!pkOk sx l w vs) hq fun k hk => isMendable_ok hW hww (br_nb (fun g => ?_) (fun g => areValues_ok (by simp only [Bool.and_eq_true] at g; exact (maxOk_of g.1).1) ?_))
  · unfold pkOk at hk; rw [g] at hk; exact hk
  · unfold pkOk at hk; rw [g, Bool.true_and] at hk; exact hk
theorem iCh_ok {sx : List Variable} {l : List Edit} {w vs : List Int} {Q : List Int → Int → Bool → Prop} (hW : Wide sx l) (hww : w.length ≤ 1048576) (hq : Q (chR sx l w vs).1 (chR sx l w vs).2.1 (chR sx l w vs).2.2) : impl_CheapestChange sx l w vs Q := by
  unfold impl_CheapestChange impl_cheapestChange
  refine iGuard hW hww (br_nb (fun g => ?_) (fun g => ?_))
  · unfold chR at hq; rw [g] at hq; exact hq
  · unfold chR at hq; rw [g, if_pos rfl] at hq
    have ⟨⟨hL, _, he⟩, hw, hvl, _⟩ := pk_facts g
    refine leastCheap_ok hL (len1_of g) he hvl hw (br_nb (fun g1 => ?_) (fun g1 => ?_))
    · have ⟨e1, e2⟩ := (ccv_fact (sx := sx) (l := l) (w := w) (vs := vs) (2 ^ sx.length)).2.2 g1
      rw [g1, e1, e2] at hq; exact hq
    · have ⟨b1, b2⟩ := best_in hw (Nat.le_refl _) g1
      refine weightOf_ok b1 ?_
      rw [b2]; rw [g1] at hq; exact hq
theorem iMendV_ok {sx : List Variable} {l : List Edit} {w vs : List Int} {Q : List Int → Bool → Prop} (hW : Wide sx l) (hww : w.length ≤ 1048576) (g : pkOk sx l w vs = true) {k : Nat} (hf : (ccv sx l w vs (2 ^ sx.length)).2.2 = true) (hV : (ccv sx l w vs (2 ^ sx.length)).1 = cI (bl k)) (hc : compl sx l vs (cI (bl k)) = true)
    (hq : ∀ x, x ∈ pass sx l → agree sx (cI (bl k)) vs x = true → Q x true) : impl_MendValues sx l w vs Q := by
  unfold impl_MendValues impl_mendValues impl_cheapestChange
  have ⟨⟨hL, _, he⟩, hw, hvl, _⟩ := pk_facts g
  have h6 := hL.1
  have hcl := cI_len (m := k)
  refine iGuard hW hww ?_
  rw [g]
  refine br_false rfl (leastCheap_ok hL (len1_of g) he hvl hw ?_)
  rw [hf, hV]
  refine br_false rfl (otherVars_ok (by omega) (by omega) (completionOf_in hL (len1_of g) he hvl fun r hr => ?_))
  rcases hr with ⟨_, hr⟩ | ⟨h1, h2, _⟩
  · rw [hc] at hr; cases hr
  · exact hq r h1 h2
theorem risBl {k n : Nat} (hk : k < 2 ^ n) : risOk n (cI (bl k)) = true := by
  have hp : (cI (bl k)).Pairwise (· < ·) := by
    unfold cI bl
    refine List.Pairwise.map _ ?_ (List.Pairwise.filter _ List.pairwise_lt_range)
    intro a b h; omega
  have hp := List.pairwise_iff_getElem.1 hp
  unfold risOk
  refine List.all_eq_true.2 fun j hj => ?_
  have hj := List.mem_range.1 hj
  simp only [Bool.and_eq_true, Bool.or_eq_true, decide_eq_true_eq]
  refine ⟨inb_iff'.2 ?_, ?_⟩
  · have hm := List.getElem_mem hj
    unfold cI at hm
    obtain ⟨i, hi, e⟩ := List.mem_map.1 hm
    have := bl_lt hk hi
    rw [gi_at hj]
    have e2 : (cI (bl k))[j] = (i : Int) := e.symm
    rw [e2]; omega
  · rcases Nat.eq_zero_or_pos j with h | h
    · exact .inl h
    · right
      rw [gi_at hj, gi_at (show j - 1 < _ by omega)]
      exact hp (j - 1) j (by omega) hj (by omega)
theorem pass_in {sx : List Variable} {l : List Edit} {x : List Int} (hL : Lok sx) (hx : x ∈ pass sx l) : fitOk sx x = true ∧ Vok x ∧ x.length = sx.length ∧ failsB l x = false := by
  obtain ⟨i, hi, rfl⟩ := List.mem_map.1 hx
  have h := (List.mem_filter.1 hi).2
  exact ⟨vals_fitOk hL i, vals_ok i hL.2, vals_length sx i, by simpa using h⟩
theorem iMend_ok {sx : List Variable} {l : List Edit} {vs x : List Int} {k : Nat} {Q : Bool → Bool → Prop} (hW : Wide sx l) (hm : maxOk sx l = true) (hf : fitOk sx vs = true) (hk : k < 2 ^ sx.length) (hx : x ∈ pass sx l) (ha : agree sx (cI (bl k)) vs x = true) (hq : Q true true) : impl_IsMend sx l (cI (bl k)) vs x Q := by
  have ⟨hL, _, he⟩ := maxOk_of hm
  have h6 := hL.1
  have hcl := cI_len (m := k)
  have ⟨p1, p2, p3, p4⟩ := pass_in hL hx
  have hvl := fit_len hf
  have hm' := hm
  unfold maxOk at hm'
  simp only [Bool.and_eq_true] at hm'
  unfold impl_IsMend
  refine jn_bool false ?_ fun kk hk2 => isSmall_ok hW.1.1 ?_
  · refine br_false rfl (jn_bool false ?_ fun kk hk2 => areValues_ok hL ?_)
    · refine br_false rfl (otherVars_ok (by omega) (by omega) ?_)
      have ho := oth_len (sx := sx) (vars := cI (bl k))
      refine loop1_list (by omega) (fun _ => True) trivial (fun i nx hi _ hx => ?_) (fun _ => hq)
      obtain ⟨m, em, hm2⟩ := oth_at hi
      refine idx_at hi ?_
      rw [em]
      refine idx_at (by omega) (idx_at (by omega) (br_ne (fun g2 => ?_) (fun g2 => hx trivial)))
      exfalso
      have hag := List.all_eq_true.1 ha _ (List.getElem_mem hi)
      rw [em, Int.toNat_natCast, gi_at (show m < x.length by omega), gi_at (show m < vs.length by omega)] at hag
      have : x[m] = vs[m] := by simpa using hag
      exact g2 this
    · rw [p1]
      refine br_false rfl (failsOne_ok (by rw [p3]; exact he) p2 (by omega) ?_)
      rw [p4]; exact hk2
  · rw [hm'.1]
    refine br_false rfl (areEdits_ok hL hW.2.2 ?_)
    rw [hm'.2]
    refine br_false rfl (areVars_ok (by omega) hW.1.1 ?_)
    rw [risBl hk]
    refine br_false rfl (areValues_ok hL ?_)
    rw [hf]; exact hk2
theorem iCost_ok {sx : List Variable} {l : List Edit} {w vs x : List Int} {Q : Int → Bool → Prop} (hW : Wide sx l) (hww : w.length ≤ 1048576) (g : pkOk sx l w vs = true) (hf2 : fitOk sx x = true) (hq : Q (wsm w (dif vs x) sx.length) true) : impl_ChangeCost sx w vs x Q := by
  have ⟨⟨hL, _, he⟩, hw, hvl, _⟩ := pk_facts g
  have h6 := hL.1
  have hwi := w_in hw
  have g0 := g
  unfold pkOk maxOk smOk at g0
  simp only [Bool.and_eq_true] at g0
  have hxl := fit_len hf2
  unfold impl_ChangeCost
  refine jn_bool false ?_ fun kk hk2 => IsSchema_ok hW.1.1 ?_
  · refine br_false rfl ?_
    unfold impl_changeCost
    refine loop2_list (by omega) (fun c i => c = wsm w (dif vs x) i) rfl ?_ ?_
    · rintro _ i nx hi rfl hx
      have hb := ws_le (w := w) (p := dif vs x) (n := i) (fun j hj => by have := hwi j (by omega); omega)
      have hb0 := ws_nonneg (w := w) (p := dif vs x) (n := i) (fun j hj => by have := hwi j (by omega); omega)
      have hwb := hwi i (by omega)
      refine jn_bool (wsm w (dif vs x) (i + 1)) (hx _ rfl) fun k hk => idx_at hi (idx_at (by omega) ?_)
      rw [ws_succ] at hk
      have ed : dif vs x i = (vs[i] != x[i]'(by omega)) := by unfold dif; rw [gi_at hi, gi_at (show i < x.length by omega)]
      refine br_bo (fun g2 => idx_at (by omega) ?_) (fun g2 => ?_)
      · have e : gi w i = w[i]'(by omega) := gi_at (by omega)
        rw [ed, g2, if_pos rfl, e] at hk
        rw [e] at hwb
        rw [wr_in (by omega) (by omega)]; exact hk
      · rw [ed, g2, if_neg (by decide), Int.add_zero] at hk; exact hk
    · rintro _ rfl
      rw [hvl]; exact hq
  · rw [g0.1.1.1.1]
    refine br_false rfl (areWeights_ok hww ?_)
    rw [g0.1.2]
    refine br_false rfl (areValues_ok hL ?_)
    rw [g0.2]
    refine br_false rfl (areValues_ok hL ?_)
    rw [hf2]; exact hk2
theorem chR_len {sx : List Variable} {l : List Edit} {w vs : List Int} : (chR sx l w vs).1.length ≤ 12 := by
  unfold chR
  split
  · exact ccv_len _
  · simp
theorem lawMending (code more : List B8) (w0 : Wf.wf code) (w1 : Wf.wf more) : laws_FnMending code more (fun r => r = true) := by
  have c1 : bytesOk code := w0.2
  have c2 : bytesOk more := w1.2
  unfold laws_FnMending
  refine br_bo (fun _ => rfl) (fun _ => ?_)
  unfold spec_DrawCheapestChange
  refine mended_ok c1 fun sx l w vs _ _ hs hW hwl hvl _ _ => ?_
  refine iCh_ok hW (by omega) (sCh_ok hW (by omega) ?_)
  unfold spec_DrawIsCover
  refine mended_ok c2 fun sx2 l2 w2 vs2 a2 s2 hs2 hW2 _ hvl2 q0 q1 => someVars_ok c2 hs2.1 (by omega) fun vars2 _ _ hr2 => ?_
  refine iCover_ok hW2 (by omega) (by omega) (sCover_ok hW2 (by omega) (by omega) ?_)
  have hlen := chR_len (sx := sx) (l := l) (w := w) (vs := vs)
  refine jn_bool false ?_ fun k hk => br_false (by simp) (qInts_same (by omega) (br_false rfl (br_false (by simp) (br_false (by simp) (by simpa using hk)))))
  refine br_false rfl (br_nb (fun _ => rfl) (fun g => ?_))
  cases gp : pkOk sx l w vs with
  | false => unfold chR at g; rw [gp] at g; cases g
  | true =>
    have hR : chR sx l w vs = ccv sx l w vs (2 ^ sx.length) := by unfold chR; rw [gp, if_pos rfl]
    rw [hR] at g
    have ⟨⟨hL, hcn, he⟩, hw, hvs, _⟩ := pk_facts gp
    have gp0 := gp
    unfold pkOk at gp0
    simp only [Bool.and_eq_true] at gp0
    have hcc := ccv_fact (sx := sx) (l := l) (w := w) (vs := vs) (2 ^ sx.length)
    obtain ⟨k, hk, e1, e2, hc⟩ := hcc.1 g
    have hmin : ∀ m, m < 2 ^ sx.length → compl sx l vs (cI (bl m)) = true → costL w (cI (bl k)) ≤ costL w (cI (bl m)) := fun m hm hcm => by
      rw [← e2]; exact (hcc.2.1 m hm hcm).2
    have hC : isC sx l vs (cI (bl k)) = true := by rw [cover_iff hL gp0.2]; exact hc
    have hic : icOk sx l vs (cI (bl k)) = true := by unfold icOk; rw [gp0.1.1, gp0.2, risBl hk]; rfl
    have hcl := cI_len (m := k)
    rw [hR, e1, e2]
    refine iMendV_ok hW (by omega) gp g e1 hc fun x hx ha => ?_
    have ⟨p1, p2, p3, p4⟩ := pass_in hL hx
    refine iMend_ok hW gp0.1.1 gp0.2 hk hx ha (iCost_ok hW (by omega) gp p1 ?_)
    rw [cost_eq hL hw hk hx ha hmin]
    refine iCover_ok hW (by omega) (by omega) ?_
    rw [hic, hC]
    refine iPack_ok hW (by omega) (by omega) ?_
    refine jn_bool true rfl fun kk hk2 => br_true rfl (br_true rfl (br_true rfl (br_true rfl (br_true rfl (br_true rfl (br_true (by simp) (br_nb (fun _ => hk2) (fun g3 => ?_))))))))
    rw [decide_eq_true (pack_cover g3 hk hc)]; exact hk2
end Go.Proofs.Ytklajcbpnpkniaa
