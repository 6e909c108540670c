/- Plain facts, further: copies, bounds, sums. -/
import Derived.Test.YtbegmfmabcpofaaPB
set_option linter.unusedVariables false
set_option autoImplicit false
namespace Go.Proofs.Ytbegmfmabcpofaa
open Go Go.RowKit Go.Gv

theorem jn_bool {A : Type} {f : (A → Prop) → Prop} {k : A → Prop} (b : A) (h : k b) (hf : ∀ k' : A → Prop, k' b → f k') : jn f k := hf k h
theorem det1_of {A : Type} {f : (A → Prop) → Prop} {k : A → Prop} (a : A) (h : f (fun x => x = a)) (hk : k a) : det1 f k := ⟨a, h, hk⟩
theorem det2_of {A B : Type} {f : (A → B → Prop) → Prop} {k : A → B → Prop} (a : A) (b : B) (h : f (fun x y => x = a ∧ y = b)) (hk : k a b) : det2 f k := ⟨a, b, h, hk⟩
theorem ln_le {α : Type} {xs : List α} {n : Nat} (h : xs.length ≤ n) : ln xs ≤ n := by unfold ln; omega

/-- A list filled from the front: the first i are done. -/
theorem set_done {α : Type} {xs ys : List α} {i : Nat} (hl : xs.length = ys.length) (hi : i < xs.length) (h : xs.take i = ys.take i) : (xs.set i (ys[i]'(hl ▸ hi))).take (i + 1) = ys.take (i + 1) := by
  have hy : i < ys.length := hl ▸ hi
  rw [List.take_succ_eq_append_getElem (by simpa using hi), List.take_succ_eq_append_getElem hy]
  simp only [List.getElem_set_self]
  congr 1
  rw [List.take_set, List.set_eq_of_length_le (by rw [List.length_take]; omega), h]

theorem eq_of_take {α : Type} {a b : List α} {n : Nat} (h : a.take n = b.take n) (ha : a.length = n) (hb : b.length = n) : a = b := by
  rw [← List.take_length (l := a), ← List.take_length (l := b), ha, hb]; exact h
theorem toIntS_ok {a : List Int} {Q : List Int → Prop} (hl : a.length ≤ 1048576) (h : Q a) : laws_toIntS a Q := by
  unfold laws_toIntS
  refine ⟨by unfold ln; omega, by unfold ln; omega, ?_⟩
  refine loop2_list (by omega) (fun out i => out.length = a.length ∧ out.take i = a.take i) ⟨by simp, by simp⟩ (fun out i nx hi ⟨h1, h2⟩ hx => idx_at hi ⟨by omega, by omega, ?_⟩) (fun out ⟨h1, h2⟩ => ?_)
  · refine hx _ ⟨by simpa using h1, ?_⟩
    exact set_done h1 (by omega) h2
  · have : out = a := by rw [← List.take_length (l := out), h1, h2, List.take_length]
    rw [this]; exact h

def inb (lo hi x : Int) : Bool := decide (lo ≤ x) && decide (x ≤ hi)
theorem inb_iff' {lo hi x : Int} : inb lo hi x = true ↔ lo ≤ x ∧ x ≤ hi := by simp [inb]
theorem all_take_succ {p : Int → Bool} {l : List Int} {i : Nat} (hi : i < l.length) (h : (l.take i).all p = true) (hp : p l[i] = true) : (l.take (i + 1)).all p = true := by
  rw [List.take_succ_eq_append_getElem hi, List.all_append, h]; simp [hp]
theorem all_false {p : Int → Bool} {l : List Int} {i : Nat} (hi : i < l.length) (hp : p l[i] = false) : l.all p = false := by
  rw [List.all_eq_false]; exact ⟨l[i], List.getElem_mem hi, by simp [hp]⟩
theorem l1All_ok {l : List Int} {lo hi : Int} {Q : Bool → Prop} (hl : l.length ≤ 1048576) (h : Q (l.all (inb lo hi))) : spec_l1All l lo hi Q := by
  unfold spec_l1All
  refine loop1_list (by omega) (fun i => (l.take i).all (inb lo hi) = true) (by simp) (fun i nx hi' hj hx => idx_at hi' (l1In_ok (br_nb (fun hb => ?_) (fun hb => hx (all_take_succ hi' hj hb))))) (fun hj => ?_)
  · rw [all_false hi' hb] at h; exact h
  · rw [List.take_length] at hj; rw [hj] at h; exact h
theorem areWithin_ok {l : List Int} {lo hi : Int} {Q : Bool → Prop} (hl : l.length ≤ 1048576) (h : Q (l.all (inb lo hi))) : impl_areWithin l lo hi Q := by
  unfold impl_areWithin
  refine loop1_list (by omega) (fun i => (l.take i).all (inb lo hi) = true) (by simp) (fun i nx hi' hj hx => idx_at hi' (jn_bool (!(inb lo hi l[i])) ?_ fun k hk => br_dec (fun g => ?_) (fun g => ?_))) (fun hj => ?_)
  · refine br_nb (fun hb => ?_) (fun hb => hx (all_take_succ hi' hj hb))
    rw [all_false hi' hb] at h; exact h
  · have : inb lo hi l[i] = false := by unfold inb; rw [decide_eq_false (by omega)]; rfl
    rw [this] at hk; exact hk
  · have : (!inb lo hi l[i]) = decide (l[i] > hi) := by
      unfold inb; rw [decide_eq_true (by omega : lo ≤ l[i]), Bool.true_and, ← decide_not]; congr 1; simp
    rw [this] at hk; exact hk
  · rw [List.take_length] at hj; rw [hj] at h; exact h

/-! ### sums -/
theorem sum_take_succ {l : List Int} {i : Nat} (hi : i < l.length) : (l.take (i + 1)).sum = (l.take i).sum + l[i] := by
  rw [List.take_succ_eq_append_getElem hi, List.sum_append]; simp
theorem sum_within {B : Int} : ∀ {l : List Int}, (∀ x ∈ l, 0 ≤ x ∧ x ≤ B) → 0 ≤ l.sum ∧ l.sum ≤ B * l.length
  | [], _ => by simp
  | x :: xs, h => by
    have h1 := h x (by simp)
    have h2 := sum_within (l := xs) (fun y hy => h y (by simp [hy]))
    simp only [List.sum_cons, List.length_cons, Int.natCast_add, Int.mul_add]
    omega
theorem inb_all {l : List Int} {lo hi : Int} (h : l.all (inb lo hi) = true) : ∀ x ∈ l, lo ≤ x ∧ x ≤ hi := fun x hx => by
  have := List.all_eq_true.1 h x hx
  simpa [inb] using this
theorem mem_take {l : List Int} {p : Int → Prop} (h : ∀ x ∈ l, p x) (i : Nat) : ∀ x ∈ l.take i, p x := fun x hx => h x (List.mem_of_mem_take hx)
theorem sum_small {l : List Int} (hl : l.length ≤ 100) (h : ∀ x ∈ l, 0 ≤ x ∧ x ≤ 1000000) (i : Nat) : 0 ≤ (l.take i).sum ∧ (l.take i).sum ≤ 100000000 := by
  have := sum_within (mem_take h i)
  have h2 : (l.take i).length ≤ 100 := by rw [List.length_take]; omega
  omega
end Go.Proofs.Ytbegmfmabcpofaa
