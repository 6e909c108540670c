/- Plain facts: lists of sets in order; which are free, which grow; both searches give the same edits. -/
import Derived.Test.YtklajcbpnpkniaaPE
set_option linter.unusedVariables false
set_option autoImplicit false
namespace Go.Proofs.Ytklajcbpnpkniaa
open Go Go.RowKit Go.Gv

/-! ### the lists of sets, in order -/
def frs (v : Int) (n : Nat) (x : Variable) : Int := if (n : Int) = v then full x else 1
def chs (v : Int) (n : Nat) (x : Variable) : List Int := (List.range ((full x + 1 - frs v n x).toNat)).map fun (i : Nat) => frs v n x + (i : Int)
def enum (v : Int) : Nat → List Variable → List (List Int)
  | _, [] => [[]]
  | n, x :: r => (chs v n x).flatMap fun s => (enum v (n + 1) r).map (s :: ·)
def Rok (r : List Variable) : Prop := ∀ x ∈ r, 2 ≤ x.Levels ∧ x.Levels ≤ 8
theorem Rok.tail {x : Variable} {r : List Variable} (h : Rok (x :: r)) : Rok r := fun y hy => h y (List.mem_cons_of_mem _ hy)
theorem Rok.head {x : Variable} {r : List Variable} (h : Rok (x :: r)) : (2 ≤ lv x ∧ lv x ≤ 8) ∧ 3 ≤ full x ∧ full x ≤ 255 ∧ ((2 ^ lv x : Nat) : Int) = full x + 1 := by
  have := h x (List.mem_cons_self ..)
  have h1 : 2 ≤ lv x ∧ lv x ≤ 8 := by unfold lv; omega
  have := pow8 h1.2; have := pow2 h1.1
  exact ⟨h1, by unfold full; omega, by unfold full; omega, by unfold full; omega⟩
theorem frs_at {v : Int} {n : Nat} {x : Variable} (h : 3 ≤ full x) : 1 ≤ frs v n x ∧ frs v n x ≤ full x := by unfold frs; split <;> omega
/-- What sets are taken. -/
def inE (v : Int) : Nat → List Variable → List Int → Prop
  | _, [], [] => True
  | n, x :: r, s :: t => (frs v n x ≤ s ∧ s ≤ full x) ∧ inE v (n + 1) r t
  | _, _, _ => False
/-! ### what is found -/
def res (v : Int) (K : List Int → Bool) (n : Nat) (r : List Variable) (sets : List Int) : List Edit := ((enum v n r).filter fun t => K (sets ++ t)).map fun t => ⟨sets ++ t⟩
/-- Whether a level can be added such that what comes is free. -/
def grw (sx : List Variable) (M : List Int → Bool) (sets : List Int) : Bool :=
  (List.range sets.length).any fun k => (List.range (lv (vAt sx k))).any fun (y : Nat) => !tb (gi sets k) (y : Int) && M (sets.set k (sOr (gi sets k) (y : Int)))
def Sb (t : List Int) : Prop := ∀ s ∈ t, 0 ≤ s ∧ s < 256
theorem Sb.ok {t : List Int} (h : Sb t) : Sok t := fun s hs => by have := h s hs; omega
theorem sOr_b {s : Int} {y : Nat} (h : 0 ≤ s ∧ s < 256) (hy : y < 8) : 0 ≤ sOr s (y : Int) ∧ sOr s (y : Int) < 256 :=
  sOr_lt (L := 8) h.1 (by have : (2 : Int) ^ 8 = 256 := by decide
                          omega) (by omega) (by omega)
theorem Sb.set {t : List Int} (h : Sb t) {k y : Nat} (hk : k < t.length) (hy : y < 8) : Sb (t.set k (sOr (gi t k) (y : Int))) := fun s hs => by
  rcases List.mem_or_eq_of_mem_set hs with hs | rfl
  · exact h s hs
  · rw [gi_at hk]; exact sOr_b (h _ (List.getElem_mem hk)) hy
theorem l1Own_ok {l : List Int} {Q : List Int → Prop} (hl : l.length ≤ 1048576) (hq : Q l) : spec_l1Own l Q := ⟨by unfold ln; simp; omega, by simpa using hq⟩
def keep (sx : List Variable) (M : List Int → Bool) (t : List Int) : Bool := M t && !grw sx M t
end Go.Proofs.Ytklajcbpnpkniaa
