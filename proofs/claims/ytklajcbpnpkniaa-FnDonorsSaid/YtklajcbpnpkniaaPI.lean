/- Plain facts: the program's search gives the edits that the reference's search gives. -/
import Derived.Test.YtklajcbpnpkniaaPG
set_option linter.unusedVariables false
set_option autoImplicit false
namespace Go.Proofs.Ytklajcbpnpkniaa
open Go Go.RowKit Go.Gv

/-! ### keys -/
/-- Sets of levels. -/
def inB : List Variable → List Int → Prop
  | [], [] => True
  | x :: r, s :: t => (0 ≤ s ∧ s ≤ full x) ∧ inB r t
  | _, _ => False
theorem inB_length : ∀ {r : List Variable} {t : List Int}, inB r t → t.length = r.length
  | [], [], _ => rfl
  | x :: r, s :: t, h => by simp [inB_length h.2]
theorem inB_at : ∀ {r : List Variable} {t : List Int} (i : Nat) (h : inB r t) (hi : i < r.length) (hi' : i < t.length), 0 ≤ t[i] ∧ t[i] ≤ full r[i]
  | x :: r, s :: t, 0, h, _, _ => h.1
  | x :: r, s :: t, i + 1, h, hi, hi' => by simpa using inB_at (r := r) (t := t) i h.2 (by simpa using hi) (by simpa using hi')
theorem inE_B {v : Int} : ∀ {r : List Variable} {n : Nat} {t : List Int}, Rok r → inE v n r t → inB r t
  | [], _, [], _, _ => trivial
  | x :: r, n, s :: t, hr, h => by
    have ⟨_, h3, _, _⟩ := hr.head
    have := frs_at (v := v) (n := n) h3
    exact ⟨by have := h.1; omega, inE_B hr.tail h.2⟩
theorem inB_Sb {sx : List Variable} {t : List Int} (hL : Lok sx) (h : inB sx t) : Sb t := fun s hs => by
  obtain ⟨i, hi, rfl⟩ := List.mem_iff_getElem.1 hs
  have hl := inB_length h
  have := inB_at i h (by omega) hi
  have := full_at hL (show i < sx.length by omega)
  omega
/-! ### the map -/
/-! ### which values fail -/
/-! ### the search -/
def stp (x : Variable) (inx : List Bool) (s : Int) : List Bool :=
  (List.range (inx.length / lv x)).map fun (i : Nat) => (List.range (lv x)).all fun (y : Nat) => !tb s (y : Int) || inx.getD (y * (inx.length / lv x) + i) false
def fs : List Variable → List Bool → List Int → Bool
  | [], inx, _ => inx.getD 0 false
  | x :: r, inx, s :: t => fs r (stp x inx s) t
  | _ :: _, _, [] => false
theorem Clone_ok {l : List Int} {Q : List Int → Prop} (hl : l.length ≤ 1048576) (hq : Q l) : slices_Clone_int_int l Q := by
  unfold slices_Clone_int_int nilq
  intro b hb
  refine br_bo (fun g => ?_) (fun g => ⟨by unfold ln; simp; omega, by simpa using hq⟩)
  rw [hb g] at hq; exact hq
end Go.Proofs.Ytklajcbpnpkniaa
