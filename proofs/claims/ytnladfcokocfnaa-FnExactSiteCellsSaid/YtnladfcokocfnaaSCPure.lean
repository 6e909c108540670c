/- The plain law of SiteCells. -/
import Derived.Test.YtnladfcokocfnaaSB
set_option linter.unusedVariables false
set_option autoImplicit false
namespace Go.Proofs.Ytnladfcokocfnaa
open Go Go.RowKit Go.Gv

def stIn (p : List Int) (sx : List Variable) (t : Table) (l : List (List Record)) : Bool := ((gOk p && schOk sx) && tOk p sx t) && ((decide (2 ≤ l.length) && decide (l.length ≤ 8)) && l.all (svOk p sx))
def stV (p : List Int) (sx : List Variable) (t : Table) (l : List (List Record)) : List (List Int) := if stIn p sx t l = true then l.map (tabF p sx t) else []
structure WS (p : List Int) (sx : List Variable) (t : Table) (l : List (List Record)) : Prop where
  p : p.length ≤ 1048576
  s : sx.length ≤ 1048576 ∧ ∀ x ∈ sx, x.Name.size ≤ 1048576
  v : t.Vars.length ≤ 1048576
  w : t.Where.length ≤ 1048576
  l : smRR l
theorem zeSites_ok {p : List Int} {sx : List Variable} {t : Table} {l : List (List Record)} {Q : Bool → Prop} (w : WS p sx t l) (hq : Q (stIn p sx t l)) : spec_zeSites ⟨p⟩ sx t l Q := by
  have hl := w.l.1
  unfold spec_zeSites
  refine jn_bool (!(((gOk p && schOk sx) && tOk p sx t) && (decide (2 ≤ l.length) && decide (l.length ≤ 8)))) ?_ fun k hk => uGood_ok (p := p) w.p w.s.1 w.s.2 w.v (br_nb (fun g => ?_) (fun g => l1In_ok ?_))
  · refine br_nb (fun g => ?_) (fun g => ?_)
    · have : stIn p sx t l = false := by unfold stIn; rw [← Bool.and_assoc, g, Bool.false_and]
      rw [this] at hq; exact hq
    · have gg := g
      simp only [Bool.and_eq_true] at gg
      refine loop1_list (by omega) (fun i => (l.take i).all (svOk p sx) = true) (by simp) (fun i nx hi hj hx => idx_at hi (uSurvey_ok (p := p) w.p w.s.1 w.s.2 (w.l.2 _ (List.getElem_mem hi)).1 (br_nb (fun g2 => ?_) (fun g2 => hx (lallS hi hj ?_))))) (fun hj => ?_)
      · rw [gg.1.1.1, gg.1.1.2, Bool.true_and, Bool.true_and] at g2
        have : stIn p sx t l = false := by unfold stIn; rw [all_no hi g2, Bool.and_false, Bool.and_false]
        rw [this] at hq; exact hq
      · rw [gg.1.1.1, gg.1.1.2, Bool.true_and, Bool.true_and] at g2; exact g2
      · rw [List.take_length] at hj
        have : stIn p sx t l = true := by unfold stIn; rw [← Bool.and_assoc, g, hj]; rfl
        rw [this] at hq; exact hq
  · rw [g, Bool.false_and] at hk; exact hk
  · rw [g, Bool.true_and] at hk
    have e : (decide (2 ≤ ln l) && decide (ln l ≤ 8)) = (decide (2 ≤ l.length) && decide (l.length ≤ 8)) := by unfold ln; rw [Bool.eq_iff_iff]; simp only [Bool.and_eq_true, decide_eq_true_eq]; omega
    rw [e]; exact hk
theorem stIn_of {p : List Int} {sx : List Variable} {t : Table} {l : List (List Record)} (h : stIn p sx t l = true) : gOk p = true ∧ Lok sx ∧ tOk p sx t = true ∧ (2 ≤ l.length ∧ l.length ≤ 8) ∧ ∀ x ∈ l, svOk p sx x = true := by
  unfold stIn at h
  simp only [Bool.and_eq_true, decide_eq_true_eq] at h
  exact ⟨h.1.1.1, Lok_of h.1.1.2, h.1.2, h.2.1, fun x hx => List.all_eq_true.1 h.2.2 x hx⟩
theorem sSites_ok {p : List Int} {sx : List Variable} {t : Table} {l : List (List Record)} {Q : List (List Int) → Bool → Prop} (w : WS p sx t l) (hq : Q (stV p sx t l) (stIn p sx t l)) : spec_SiteCells ⟨p⟩ sx t l Q := by
  unfold spec_SiteCells
  refine zeSites_ok (p := p) w (br_nb (fun g => ?_) (fun g => ?_))
  · unfold stV at hq; rw [g] at hq; simpa using hq
  · have ⟨a, b, c, d, e⟩ := stIn_of g
    unfold stV at hq; rw [g, if_pos rfl] at hq
    refine loop2_list (by omega) (fun out i => out = (l.take i).map (tabF p sx t)) rfl ?_ ?_
    · rintro out i nx hi rfl hx
      refine idx_at hi (uTable_ok (p := p) a b c (e _ (List.getElem_mem hi)) ⟨by unfold ln; simp; omega, hx _ ?_⟩)
      rw [List.take_add_one, List.getElem?_eq_getElem hi, List.map_append]; rfl
    · rintro out rfl
      rw [List.take_of_length_le (Nat.le_refl _)]; exact hq
theorem areTabled_ok {p : List Int} {sx : List Variable} {t : Table} {Q : Bool → Prop} (hp : p.length ≤ 1048576) (hs : sx.length ≤ 1048576) (hv : t.Vars.length ≤ 1048576) (hq : Q ((gOk p && schOk sx) && tOk p sx t)) : impl_areTabled ⟨p⟩ sx t Q := by
  unfold impl_areTabled
  refine jn_bool _ hq fun k hk => IsGeo_ok (p := p) hp (br_bo (fun g => IsSchema_ok hs (br_bo (fun g1 => isTable_ok (p := p) g (Lok_of g1) hv ?_) (fun g1 => ?_))) (fun g => ?_))
  · rw [g, g1] at hk; exact hk
  · rw [g, g1] at hk; exact hk
  · rw [g] at hk; exact hk
theorem iSites_ok {p : List Int} {sx : List Variable} {t : Table} {l : List (List Record)} {Q : List (List Int) → Bool → Prop} (w : WS p sx t l) (hq : Q (stV p sx t l) (stIn p sx t l)) : impl_SiteCells ⟨p⟩ sx t l Q := by
  have hl := w.l.1
  unfold impl_SiteCells impl_siteCells
  refine jn_bool (!(((gOk p && schOk sx) && tOk p sx t) && (decide (2 ≤ l.length) && decide (l.length ≤ 8)))) ?_ fun k hk => areTabled_ok (p := p) w.p w.s.1 w.v (br_nb (fun g => ?_) (fun g => br_dec (fun g1 => ?_) (fun g1 => ?_)))
  · refine br_nb (fun g => ?_) (fun g => ?_)
    · have : stIn p sx t l = false := by unfold stIn; rw [← Bool.and_assoc, g, Bool.false_and]
      unfold stV at hq; rw [this] at hq; simpa using hq
    · have gg := g
      simp only [Bool.and_eq_true, decide_eq_true_eq] at gg
      have hL := Lok_of gg.1.1.2
      refine ⟨by unfold ln; omega, by unfold ln; omega, ?_⟩
      have en : Int.toNat (ln l) = l.length := by unfold ln; omega
      rw [en]
      refine loop2_list (by omega) (fun out i => out.length = l.length ∧ (l.take i).all (svOk p sx) = true ∧ out.take i = (l.map (tabF p sx t)).take i) ⟨by simp, by simp, by simp⟩ ?_ ?_
      · rintro out i nx hi ⟨n1, n2, n3⟩ hx
        refine idx_at hi (isSurvey_ok (p := p) gg.1.1.1 hL (w.l.2 _ (List.getElem_mem hi)).1 (br_nb (fun g2 => ?_) (fun g2 => tableOf_ok (p := p) gg.1.1.1 hL gg.1.2 g2 ⟨by omega, by omega, hx _ ⟨by simpa using n1, lallS hi n2 g2, ?_⟩⟩)))
        · have : stIn p sx t l = false := by unfold stIn; rw [all_no hi g2, Bool.and_false, Bool.and_false]
          unfold stV at hq; rw [this] at hq; simpa using hq
        · exact setDone (by rw [List.length_map]; exact n1) (by rw [List.length_map]; exact hi) n3 (by simp)
      · rintro out ⟨n1, n2, n3⟩
        rw [List.take_length] at n2
        have : stIn p sx t l = true := by unfold stIn; rw [← Bool.and_assoc, g, n2]; rfl
        unfold stV at hq; rw [this, if_pos rfl] at hq
        have e : out = l.map (tabF p sx t) := by
          rw [List.take_of_length_le (by omega), List.take_of_length_le (by rw [List.length_map]; omega)] at n3; exact n3
        rw [e]; exact hq
  · rw [g, Bool.false_and] at hk; exact hk
  · rw [decide_eq_false (by unfold ln at g1; omega : ¬ 2 ≤ l.length), Bool.false_and, Bool.and_false] at hk; exact hk
  · have e : decide (ln l > 8) = !(((gOk p && schOk sx) && tOk p sx t) && (decide (2 ≤ l.length) && decide (l.length ≤ 8))) := by
      rw [g, decide_eq_true (by unfold ln at g1; omega : 2 ≤ l.length), Bool.true_and, Bool.true_and, Bool.eq_iff_iff]; unfold ln; simp only [decide_eq_true_eq, Bool.not_eq_true', decide_eq_false_iff_not]; omega
    rw [e]; exact hk
theorem cLL_b {n : Nat} : ∀ {l : List (List Int)}, (∀ x ∈ l, x.length ≤ n) → cLL l ≤ (l.length : Int) * (n : Int)
  | [], _ => by simp [cLL]
  | x :: l, h => by
    have h1 := h x (List.mem_cons_self ..)
    have := cLL_b (l := l) fun y hy => h y (List.mem_cons_of_mem _ hy)
    simp only [cLL, List.length_cons]
    rw [Int.natCast_add, Int.add_mul]; omega
theorem stV_len {p : List Int} {sx : List Variable} {t : Table} {l : List (List Record)} : (stV p sx t l).length ≤ 8 ∧ ∀ x ∈ stV p sx t l, x.length ≤ 600 := by
  unfold stV
  split
  · rename_i h
    have ⟨a, b, c, d, e⟩ := stIn_of h
    refine ⟨by rw [List.length_map]; exact d.2, fun x hx => ?_⟩
    obtain ⟨r, hr, rfl⟩ := List.mem_map.1 hx
    rw [(tabF_in a b c (e r hr)).1]
    exact (tOk_b c).2
  · exact ⟨by simp, fun x hx => by cases hx⟩
theorem lawSites (aG : Geo) (aS : List Variable) (aT : Table) (aL : List (List Record)) (w0 : Wf.wf aG) (w1 : Wf.wf aS) (w2 : Wf.wf aT) (w3 : Wf.wf aL) : laws_FnExactSiteCells aG aS aT aL (fun r => r = true) := by
  have hG : aG.Parents.length ≤ maxLen := w0.1
  have hS : aS.length ≤ maxLen ∧ ∀ x ∈ aS, x.Name.size ≤ maxLen := ⟨w1.1, fun x hx => (w1.2 x hx).1⟩
  have hR : aL.length ≤ maxLen ∧ ∀ x ∈ aL, x.length ≤ maxLen ∧ ∀ r ∈ x, r.Values.length ≤ maxLen := ⟨w3.1, fun x hx => ⟨(w3.2 x hx).1, fun r hr => ((w3.2 x hx).2 r hr).2.2.1⟩⟩
  unfold laws_FnExactSiteCells
  refine szG_ok (a := aG) hG (by omega) fun r1 a1 b1 => br_dec (fun g => rfl) (fun g1 => szVariableS_ok hS (by omega) fun r2 a2 b2 => br_dec (fun g => rfl) (fun g2 => szT_ok (t := aT) w2.2.1.1 w2.2.2.1.1 (by omega) fun r3 a3 b3 => br_dec (fun g => rfl) (fun g3 => szRecordSS_ok hR (by omega) fun r4 a4 b4 => br_dec (fun g => rfl) (fun g4 => ?_))))
  have ⟨t1, t2⟩ := b3 (by omega)
  have w : WS aG.Parents aS aT aL := ⟨b1 (by omega), b2 (by omega), t1, t2, b4 (by omega)⟩
  have hp := w.p
  have hs := w.s.1
  have ⟨v1, v2⟩ := stV_len (p := aG.Parents) (sx := aS) (t := aT) (l := aL)
  have hc := cLL_b v2
  have hc0 := cLL_nonneg (stV aG.Parents aS aT aL)
  have hcc : cLL (stV aG.Parents aS aT aL) ≤ 4800 := by
    have : ((stV aG.Parents aS aT aL).length : Int) * (600 : Nat) ≤ 8 * 600 := Int.mul_le_mul_of_nonneg_right (by omega) (by omega)
    omega
  have sm : (stV aG.Parents aS aT aL).length ≤ 1048576 ∧ ∀ x ∈ stV aG.Parents aS aT aL, x.length ≤ 1048576 := ⟨by omega, fun x hx => by have := v2 x hx; omega⟩
  refine toG_ok (a := aG) w.p (toVariableS_ok w.s.1 (toT_ok (t := aT) t1 t2 (toRecordSS_ok w.l (sSites_ok (p := aG.Parents) (t := aT) w (toG_ok (a := aG) w.p (toVariableS_ok w.s.1 (toT_ok (t := aT) t1 t2 (toRecordSS_ok w.l (iSites_ok (p := aG.Parents) (t := aT) w ?_)))))))))
  refine jn_bool false ?_ fun k hk => eqIntSS_same sm (br_false rfl (by simpa using hk))
  refine br_false rfl (toG_ok (a := aG) w.p (eqG_same (a := aG) w.p (br_false rfl (toVariableS_ok w.s.1 (eqVariableS_same w.s.1 (br_false rfl (toT_ok (t := aT) t1 t2 (eqT_same (t := aT) t1 t2 (br_false rfl (toRecordSS_ok w.l (eqRecordSS_same w.l (br_false rfl ?_))))))))))))
  refine markG_ok (a := aG) w.p (by omega) fun x1 => markVariableS_ok w.s.1 (by omega) fun x2 => markT_ok (t := aT) t1 t2 (by omega) fun k1 y1 y2 h1 h2 => markRecordSS_ok w.l (by omega) fun k' x3 hk' => ?_
  refine jn_bool false ?_ fun k hk => br_dec (fun g => by omega) (fun g => eqIntSS_same sm (br_false rfl (by simpa using hk)))
  refine br_false rfl (markIntSS_ok (by omega) (by omega) (by omega) (heldIntSS_ok (by omega) (by omega) (by omega) ?_))
  refine br_dec (fun g => by omega) (fun g => br_ne (fun g => absurd rfl g) (fun _ => ?_))
  refine toG_ok (a := aG) w.p (toVariableS_ok w.s.1 (toT_ok (t := aT) t1 t2 (toRecordSS_ok w.l (iSites_ok (p := aG.Parents) (t := aT) w ?_))))
  refine jn_bool false ?_ fun k hk => eqIntSS_same sm (br_false rfl (by simpa using hk))
  refine br_false rfl (heldIntSS_ok (by omega) (by omega) (by omega) (br_dec (fun g => by omega) (fun g => br_ne (fun g => absurd rfl g) (fun _ => rfl))))
end Go.Proofs.Ytnladfcokocfnaa
