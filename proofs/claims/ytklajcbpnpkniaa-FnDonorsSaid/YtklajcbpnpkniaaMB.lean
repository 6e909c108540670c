/- Plain facts about mended values: their cost, and the bound of a packing. -/
import Derived.Test.YtklajcbpnpkniaaMA
set_option linter.unusedVariables false
set_option autoImplicit false
namespace Go.Proofs.Ytklajcbpnpkniaa
open Go Go.RowKit Go.Gv

theorem w_in {sx : List Variable} {w : List Int} (hw : w.length = sx.length ∧ ∀ x ∈ w, 1 ≤ x ∧ x ≤ 100) : ∀ i, i < sx.length → 1 ≤ gi w i ∧ gi w i ≤ 100 := fun i hi => by
  rw [gi_at (by omega)]; exact hw.2 _ (List.getElem_mem _)
/-- What mended values cost. -/
def dif (vs x : List Int) (i : Nat) : Bool := gi vs i != gi x i
theorem cost_eq {sx : List Variable} {l : List Edit} {w vs x : List Int} {k : Nat} (hL : Lok sx) (hw : w.length = sx.length ∧ ∀ x ∈ w, 1 ≤ x ∧ x ≤ 100) (hk : k < 2 ^ sx.length) (hx : x ∈ pass sx l) (ha : agree sx (cI (bl k)) vs x = true)
    (hmin : ∀ m, m < 2 ^ sx.length → compl sx l vs (cI (bl m)) = true → costL w (cI (bl k)) ≤ costL w (cI (bl m))) : wsm w (dif vs x) sx.length = costL w (cI (bl k)) := by
  have h6 := hL.1
  have hwi := w_in hw
  have ⟨m1, m2⟩ := mkp_ok (p := dif vs x) sx.length
  have hcm : compl sx l vs (cI (bl (mkp (dif vs x) sx.length))) = true := by
    refine List.any_eq_true.2 ⟨x, hx, agree_iff.2 fun i hi hb => ?_⟩
    rw [hasB_bl (by omega), m2 i hi] at hb
    unfold dif at hb
    have : gi vs i = gi x i := by simpa using hb
    exact this.symm
  have h1 := hmin _ m1 hcm
  rw [costL_bl m1 (by omega), costL_bl hk (by omega)] at h1
  rw [costL_bl hk (by omega)]
  rw [ws_congr (q := dif vs x) (fun i hi => m2 i hi)] at h1
  have h2 := ws_mono (w := w) (p := dif vs x) (q := k.testBit) (n := sx.length) (fun i hi => by have := hwi i hi; omega) (fun i hi hd => by
    cases hb : k.testBit i with
    | true => rfl
    | false =>
      have := agree_iff.1 ha i hi (by rw [hasB_bl (by omega)]; exact hb)
      unfold dif at hd
      rw [this] at hd; simp at hd)
  omega
end Go.Proofs.Ytklajcbpnpkniaa
