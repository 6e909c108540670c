/- Plain facts about geographies and published tables, as the laws handle them. -/
import Derived.Test.YtkebfmobfeponaaQA
set_option linter.unusedVariables false
set_option autoImplicit false
namespace Go.Proofs.Ytkebfmobfeponaa
open Go Go.RowKit Go.Gv

theorem szIntS_ok {a : List Int} {left : Int} {Q : Int → Prop} (hw : a.length ≤ maxLen) (hl : 0 ≤ left ∧ left ≤ 1048576) (h : ∀ r, r ≤ left → (0 ≤ r → a.length ≤ 1048576) → Q r) : laws_szIntS a left Q := by
  unfold laws_szIntS
  have hw1 : (a.length : Int) ≤ 9223372036854775807 := by simp only [maxLen] at hw; omega
  rw [wr_in (x := left - ln a) (by unfold ln; omega) (by unfold ln; omega)]
  refine br_dec (fun g => h _ (by omega) (fun c => by omega)) (fun g => h _ (by unfold ln; omega) (fun c => by unfold ln at g; omega))
theorem szGeo_ok {a : Geo} {left : Int} {Q : Int → Prop} (hw : a.Parents.length ≤ maxLen) (hl : 0 ≤ left ∧ left ≤ 1048576) (h : ∀ r, r ≤ left → (0 ≤ r → a.Parents.length ≤ 1048576) → Q r) : laws_szGeo a left Q := by
  unfold laws_szGeo
  exact szIntS_ok hw hl fun r h1 h2 => br_dec (fun g => h _ (by omega) (fun c => by omega)) (fun g => h _ h1 h2)
def WpM (b : Published) : Prop := (b.Table.Vars.length ≤ maxLen ∧ b.Table.Where.length ≤ maxLen) ∧ b.Cells.length ≤ maxLen
def Wp1 (b : Published) : Prop := (b.Table.Vars.length ≤ 1048576 ∧ b.Table.Where.length ≤ 1048576) ∧ b.Cells.length ≤ 1048576
theorem szPublished_ok {b : Published} {left : Int} {Q : Int → Prop} (hw : WpM b) (hl : 0 ≤ left ∧ left ≤ 1048576) (h : ∀ r, r ≤ left → (0 ≤ r → Wp1 b) → Q r) : laws_szPublished b left Q := by
  unfold laws_szPublished laws_szTable
  refine szIntS_ok hw.1.1 hl fun r1 a1 b1 => br_dec (fun g => br_yes (by omega) (h _ (by omega) (fun c => by omega))) (fun g => ?_)
  refine szIntS_ok hw.1.2 (by omega) fun r2 a2 b2 => br_dec (fun g2 => br_yes (by omega) (h _ (by omega) (fun c => by omega))) (fun g2 => br_no g2 ?_)
  refine szIntS_ok hw.2 (by omega) fun r3 a3 b3 => br_dec (fun g3 => h _ (by omega) (fun c => by omega)) (fun g3 => h _ (by omega) fun _ => ⟨⟨b1 (by omega), b2 (by omega)⟩, b3 (by omega)⟩)
theorem szPublishedS_ok {a : List Published} {left : Int} {Q : Int → Prop} (hw : a.length ≤ maxLen ∧ ∀ x ∈ a, WpM x) (hl : 0 ≤ left ∧ left ≤ 1048576)
    (h : ∀ r, r ≤ left → (0 ≤ r → Wp a) → Q r) : laws_szPublishedS a left Q := by
  unfold laws_szPublishedS
  have hw1 : (a.length : Int) ≤ 9223372036854775807 := by have := hw.1; simp only [maxLen] at this; omega
  rw [wr_in (x := left - ln a) (by unfold ln; omega) (by unfold ln; omega)]
  refine br_dec (fun g => h _ (by omega) (fun c => by omega)) (fun g => ?_)
  have hlen : a.length ≤ 1048576 := by unfold ln at g; omega
  refine ⟨fun l i => l ≤ left ∧ 0 ≤ l ∧ 0 ≤ i ∧ i ≤ a.length ∧ ∀ j, (hj : j < a.length) → j < i.toNat → Wp1 a[j], fun _ i => ((a.length : Int) - i).toNat, ⟨by unfold ln; omega, by omega, by omega, by omega, fun j hj h => by simp at h⟩, fun l i ⟨h1, h2, h3, h4, h5⟩ => br_dec (fun g2 => ?_) (fun g2 => h l h1 fun _ => ⟨hlen, fun x hx => ?_⟩)⟩
  · have hi : i.toNat < a.length := by unfold ln at g2; omega
    refine idx_of h3 hi (szPublished_ok (hw.2 _ (List.getElem_mem hi)) (by omega) fun r a1 b1 => br_dec (fun g3 => h _ (by omega) (fun c => by omega)) (fun g3 => ?_))
    rw [wr_in (x := i + 1) (by omega) (by omega)]
    refine ⟨⟨by omega, by omega, by omega, by omega, fun j hj hji => ?_⟩, ?_⟩
    · by_cases e : j = i.toNat
      · subst e; exact b1 (by omega)
      · exact h5 j hj (by omega)
    · show ((a.length : Int) - (i + 1)).toNat < ((a.length : Int) - i).toNat
      omega
  · obtain ⟨j, hj, rfl⟩ := List.mem_iff_getElem.1 hx
    exact h5 j hj (by unfold ln at g2; omega)
theorem toGeo_ok {a : Geo} {Q : Geo → Prop} (hl : a.Parents.length ≤ 1048576) (h : Q a) : laws_toGeo a Q := toIntS_ok hl h
theorem toPublished_ok {b : Published} {Q : Published → Prop} (hl : Wp1 b) (h : Q b) : laws_toPublished b Q := toIntS_ok hl.1.1 (toIntS_ok hl.1.2 (toIntS_ok hl.2 h))
theorem toPublishedS_ok {a : List Published} {Q : List Published → Prop} (hl : Wp a) (h : Q a) : laws_toPublishedS a Q := by
  unfold laws_toPublishedS
  have hl1 := hl.1
  refine ⟨by unfold ln; omega, by unfold ln; omega, ?_⟩
  refine loop2_list (by omega) (fun out i => out.length = a.length ∧ out.take i = a.take i) ⟨by simp, by simp⟩ (fun out i nx hi ⟨h1, h2⟩ hx => idx_at hi (toPublished_ok (hl.2 _ (List.getElem_mem hi)) ?_)) (fun out ⟨h1, h2⟩ => ?_)
  · refine ⟨by omega, by omega, ?_⟩
    exact hx _ ⟨by simpa using h1, set_done h1 (by omega) h2⟩
  · have : out = a := by rw [← List.take_length (l := out), h1, h2, List.take_length]
    rw [this]; exact h
theorem eqGeo_same {a : Geo} {Q : Bool → Prop} (hl : a.Parents.length ≤ 1048576) (h : Q true) : laws_eqGeo a a Q := by
  unfold laws_eqGeo
  exact eqIntS_same hl (br_false rfl h)
theorem eqPublished_same {b : Published} {Q : Bool → Prop} (hl : Wp1 b) (h : Q true) : laws_eqPublished b b Q := by
  unfold laws_eqPublished laws_eqTable
  refine br_false (by simp) (eqIntS_same hl.1.1 (br_false rfl (eqIntS_same hl.1.2 (br_false rfl (br_false (by simp) (br_false rfl (eqIntS_same hl.2 (br_false rfl h))))))))
theorem eqPublishedS_same {a : List Published} {Q : Bool → Prop} (hl : Wp a) (h : Q true) : laws_eqPublishedS a a Q := by
  unfold laws_eqPublishedS
  have hl1 := hl.1
  refine br_false (by simp) (loop1_list (by omega) (fun _ => True) trivial (fun i nx hi _ hx => idx_at hi (idx_at hi ?_)) fun _ => h)
  exact ⟨true, eqPublished_same (hl.2 _ (List.getElem_mem hi)) rfl, br_false rfl (hx trivial)⟩
end Go.Proofs.Ytkebfmobfeponaa
