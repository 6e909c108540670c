/- The plain law of EditsOnly. -/
import Derived.Test.YtklajcbpnpkniaaMxPure
set_option linter.unusedVariables false
set_option autoImplicit false
namespace Go.Proofs.Ytklajcbpnpkniaa
open Go Go.RowKit Go.Gv

/-! ### lists of variables -/
/-! ### who is involved -/
def hasB (l : List Int) (n : Int) : Bool := l.any fun x => x == n
theorem lany_no {α : Type} {p : α → Bool} {l : List α} {i : Nat} (hi : i < l.length) (h : (l.take i).any p = false) (hp : p l[i] = false) : (l.take (i + 1)).any p = false := by rw [lany_succ hi, h, hp]; rfl
theorem l1Has_ok {l : List Int} {n : Int} {Q : Bool → Prop} (hl : l.length ≤ 1048576) (hq : Q (hasB l n)) : spec_l1Has l n Q := by
  unfold spec_l1Has
  refine loop1_list (by omega) (fun i => (l.take i).any (fun x => x == n) = false) (by simp) (fun i nx hi hj hx => idx_at hi (br_bo (fun g => ?_) (fun g => hx (lany_no hi hj g)))) (fun hj => ?_)
  · have : hasB l n = true := lany_yes hi g
    rw [this] at hq; exact hq
  · rw [List.take_length] at hj
    have : hasB l n = false := hj
    rw [this] at hq; exact hq
theorem Contains_ok {l : List Int} {n : Int} {Q : Bool → Prop} (hl : l.length ≤ 1048576) (hq : Q (hasB l n)) : slices_Contains_int_int l n Q := by
  unfold slices_Contains_int_int slices_Index_int_int
  refine loop1_list (by omega) (fun i => (l.take i).any (fun x => x == n) = false) (by simp) (fun i nx hi hj hx => idx_at hi (br_eq (fun g => ?_) (fun g => hx (lany_no hi hj (by simp; omega))))) (fun hj => ?_)
  · have : hasB l n = true := lany_yes hi (by simp; omega)
    rw [this] at hq
    have e : decide ((i : Int) ≥ 0) = true := decide_eq_true (by omega)
    show Q (decide ((i : Int) ≥ 0))
    rw [e]; exact hq
  · rw [List.take_length] at hj
    have : hasB l n = false := hj
    rw [this] at hq; exact hq
/-! ### EditsOnly -/
end Go.Proofs.Ytklajcbpnpkniaa
