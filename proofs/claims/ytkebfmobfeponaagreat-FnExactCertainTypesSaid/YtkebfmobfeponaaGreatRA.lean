/- Plain facts about published tables, marked. -/
import Derived.Test.YtkebfmobfeponaaGreatQF
set_option linter.unusedVariables false
set_option autoImplicit false
namespace Go.Proofs.YtkebfmobfeponaaGreat
open Go Go.RowKit Go.Gv

theorem markGeo_ok {a : Geo} {k : Int} {Q : Int → List Int → Prop} (hl : a.Parents.length ≤ 1048576) (hk : 0 ≤ k ∧ k ≤ 1000000) (h : ∀ b, Q (k + (a.Parents.length : Int)) b) : laws_markGeo a k Q := by
  unfold laws_markGeo
  exact markIntS_ok (by omega) (by omega) (by omega) (h _)
theorem idx_set {α : Type} {xs : List α} {i : Int} {y : α} {K : α → Prop} (h0 : 0 ≤ i) (hi : i.toNat < xs.length) (h : K y) : idx (xs.set i.toNat y) i K :=
  ⟨y, h0, by rw [List.getElem?_set_self hi], h⟩
theorem markPublishedS_ok {a : List Published} {k : Int} {Q : Int → List Published → Prop} (hl : Wp a) (hk : 0 ≤ k ∧ k ≤ 100000000) (h : ∀ k' b, 0 ≤ k' → Q k' b) : laws_markPublishedS a k Q := by
  unfold laws_markPublishedS
  have hl1 := hl.1
  refine ⟨fun a2 k2 i => 0 ≤ i ∧ i ≤ a.length ∧ a2.length = a.length ∧ 0 ≤ k2 ∧ k2 ≤ k + 4000000 * i ∧ ∀ x ∈ a2.drop i.toNat, Wp1 x, fun _ _ i => ((a.length : Int) - i).toNat, ⟨by omega, by omega, rfl, by omega, by omega, fun x hx => hl.2 x (by simpa using hx)⟩, fun a2 k2 i ⟨h0, h1, h2, h3, h4, h5⟩ => br_dec (fun g => ?_) (fun g => h _ _ h3)⟩
  have hi : i.toNat < a2.length := by unfold ln at g; omega
  have hx := h5 a2[i.toNat] (by rw [List.drop_eq_getElem_cons hi]; exact List.mem_cons_self ..)
  refine idx_of h0 hi (idx_set h0 hi ?_)
  generalize a2[i.toNat] = x at hx
  obtain ⟨⟨w1, w2⟩, w3⟩ := hx
  rw [wr_in (x := k2 + 1) (by omega) (by omega)]
  refine markIntS_ok (by show x.Table.Vars.length ≤ _; omega) (by omega) (by omega) (idx_set h0 (by simpa using hi) ?_)
  refine markIntS_ok (by show x.Table.Where.length ≤ _; omega) (by show _ ≤ _ + ((x.Table.Vars.length : Nat) : Int); omega) (by show _ + ((x.Table.Vars.length : Nat) : Int) ≤ _; omega) (idx_set h0 (by simpa using hi) (idx_set h0 (by simpa using hi) ?_))
  show laws_markIntS x.Cells (wr (k2 + 1 + ((x.Table.Vars.length : Nat) : Int) + ((x.Table.Where.length : Nat) : Int) + 1)) _
  rw [wr_in (x := k2 + 1 + ((x.Table.Vars.length : Nat) : Int) + ((x.Table.Where.length : Nat) : Int) + 1) (by omega) (by omega)]
  refine markIntS_ok (by omega) (by omega) (by omega) ?_
  rw [wr_in (x := i + 1) (by omega) (by omega)]
  refine ⟨⟨by omega, by unfold ln at g; omega, by simpa using h2, by omega, by omega, fun y hy => h5 y ?_⟩, ?_⟩
  · rw [show (i + 1).toNat = i.toNat + 1 by omega] at hy
    rw [List.drop_set_of_lt (by omega), List.drop_set_of_lt (by omega), List.drop_set_of_lt (by omega), List.drop_set_of_lt (by omega), List.drop_set_of_lt (by omega)] at hy
    rw [List.drop_eq_getElem_cons hi]
    exact List.mem_cons_of_mem _ hy
  · show ((a.length : Int) - (i + 1)).toNat < ((a.length : Int) - i).toNat
    unfold ln at g; omega
end Go.Proofs.YtkebfmobfeponaaGreat
