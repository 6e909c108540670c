/- The plain law of SiteCells. -/
import Derived.Test.YtnladfcokocfnaaGreatSB
set_option linter.unusedVariables false
set_option autoImplicit false
namespace Go.Proofs.YtnladfcokocfnaaGreat
open Go Go.RowKit Go.Gv

def stIn (p : List Int) (sx : List Variable) (t : Table) (l : List (List Record)) : Bool := ((gOk p && schOk sx) && tOk p sx t) && ((decide (2 ≤ l.length) && decide (l.length ≤ 8)) && l.all (svOk p sx))
def stV (p : List Int) (sx : List Variable) (t : Table) (l : List (List Record)) : List (List Int) := if stIn p sx t l = true then l.map (tabF p sx t) else []
structure WS (p : List Int) (sx : List Variable) (t : Table) (l : List (List Record)) : Prop where
  p : p.length ≤ 1048576
  s : sx.length ≤ 1048576 ∧ ∀ x ∈ sx, x.Name.size ≤ 1048576
  v : t.Vars.length ≤ 1048576
  w : t.Where.length ≤ 1048576
  l : smRR l
theorem zeSites_ok {p : List Int} {sx : List Variable} {t : Table} {l : List (List Record)} {Q : Bool → Prop} (w : WS p sx t l) (hq : Q (stIn p sx t l)) : spec_zeSites ⟨p⟩ sx t l Q := by
  have hl := w.l.1
  unfold spec_zeSites
  refine jn_bool (!(((gOk p && schOk sx) && tOk p sx t) && (decide (2 ≤ l.length) && decide (l.length ≤ 8)))) ?_ fun k hk => uGood_ok (p := p) w.p w.s.1 w.s.2 w.v (br_nb (fun g => ?_) (fun g => l1In_ok ?_))
  · refine br_nb (fun g => ?_) (fun g => ?_)
    · have : stIn p sx t l = false := by unfold stIn; rw [← Bool.and_assoc, g, Bool.false_and]
      rw [this] at hq; exact hq
    · have gg := g
      simp only [Bool.and_eq_true] at gg
      refine loop1_list (by omega) (fun i => (l.take i).all (svOk p sx) = true) (by simp) (fun i nx hi hj hx => idx_at hi (uSurvey_ok (p := p) w.p w.s.1 w.s.2 (w.l.2 _ (List.getElem_mem hi)).1 (br_nb (fun g2 => ?_) (fun g2 => hx (lallS hi hj ?_))))) (fun hj => ?_)
      · rw [gg.1.1.1, gg.1.1.2, Bool.true_and, Bool.true_and] at g2
        have : stIn p sx t l = false := by unfold stIn; rw [all_no hi g2, Bool.and_false, Bool.and_false]
        rw [this] at hq; exact hq
      · rw [gg.1.1.1, gg.1.1.2, Bool.true_and, Bool.true_and] at g2; exact g2
      · rw [List.take_length] at hj
        have : stIn p sx t l = true := by unfold stIn; rw [← Bool.and_assoc, g, hj]; rfl
        rw [this] at hq; exact hq
  · rw [g, Bool.false_and] at hk; exact hk
  · rw [g, Bool.true_and] at hk
    have e : (decide (2 ≤ ln l) && decide (ln l ≤ 8)) = (decide (2 ≤ l.length) && decide (l.length ≤ 8)) := by unfold ln; rw [Bool.eq_iff_iff]; simp only [Bool.and_eq_true, decide_eq_true_eq]; omega
    rw [e]; exact hk
theorem stIn_of {p : List Int} {sx : List Variable} {t : Table} {l : List (List Record)} (h : stIn p sx t l = true) : gOk p = true ∧ Lok sx ∧ tOk p sx t = true ∧ (2 ≤ l.length ∧ l.length ≤ 8) ∧ ∀ x ∈ l, svOk p sx x = true := by
  unfold stIn at h
  simp only [Bool.and_eq_true, decide_eq_true_eq] at h
  exact ⟨h.1.1.1, Lok_of h.1.1.2, h.1.2, h.2.1, fun x hx => List.all_eq_true.1 h.2.2 x hx⟩
theorem sSites_ok {p : List Int} {sx : List Variable} {t : Table} {l : List (List Record)} {Q : List (List Int) → Bool → Prop} (w : WS p sx t l) (hq : Q (stV p sx t l) (stIn p sx t l)) : spec_SiteCells ⟨p⟩ sx t l Q := by
  unfold spec_SiteCells
  refine zeSites_ok (p := p) w (br_nb (fun g => ?_) (fun g => ?_))
  · unfold stV at hq; rw [g] at hq; simpa using hq
  · have ⟨a, b, c, d, e⟩ := stIn_of g
    unfold stV at hq; rw [g, if_pos rfl] at hq
    refine loop2_list (by omega) (fun out i => out = (l.take i).map (tabF p sx t)) rfl ?_ ?_
    · rintro out i nx hi rfl hx
      refine idx_at hi (uTable_ok (p := p) a b c (e _ (List.getElem_mem hi)) ⟨by unfold ln; simp; omega, hx _ ?_⟩)
      rw [List.take_add_one, List.getElem?_eq_getElem hi, List.map_append]; rfl
    · rintro out rfl
      rw [List.take_of_length_le (Nat.le_refl _)]; exact hq
theorem areTabled_ok {p : List Int} {sx : List Variable} {t : Table} {Q : Bool → Prop} (hp : p.length ≤ 1048576) (hs : sx.length ≤ 1048576) (hv : t.Vars.length ≤ 1048576) (hq : Q ((gOk p && schOk sx) && tOk p sx t)) : impl_areTabled ⟨p⟩ sx t Q := by
  unfold impl_areTabled
  refine jn_bool _ hq fun k hk => IsGeo_ok (p := p) hp (br_bo (fun g => IsSchema_ok hs (br_bo (fun g1 => isTable_ok (p := p) g (Lok_of g1) hv ?_) (fun g1 => ?_))) (fun g => ?_))
  · rw [g, g1] at hk; exact hk
  · rw [g, g1] at hk; exact hk
  · rw [g] at hk; exact hk
end Go.Proofs.YtnladfcokocfnaaGreat
