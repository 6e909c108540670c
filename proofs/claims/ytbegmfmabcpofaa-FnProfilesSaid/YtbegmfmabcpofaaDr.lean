/- Plain facts about the numbers that are drawn from bytes. -/
import Derived.Test.YtbegmfmabcpofaaPC
set_option linter.unusedVariables false
set_option autoImplicit false
namespace Go.Proofs.Ytbegmfmabcpofaa
open Go Go.RowKit Go.Gv

/-- Ways that meet: what holds at each of them. -/
theorem jn_bool3 {A B C : Type} {f : (A → B → C → Prop) → Prop} {k : A → B → C → Prop} (J : A → B → C → Prop) (h : ∀ a b c, J a b c → k a b c) (hf : ∀ k' : A → B → C → Prop, (∀ a b c, J a b c → k' a b c) → f k') : jn f k := hf k h
theorem jn_ok {A : Type} {f : (A → Prop) → Prop} {k : A → Prop} (J : A → Prop) (h : ∀ a, J a → k a) (hf : ∀ k' : A → Prop, (∀ a, J a → k' a) → f k') : jn f k := hf k h
/-- What is asked of the bytes, and of the place that has been come to. -/
def bytesOk (code : List B8) : Prop := ∀ x ∈ code, 0 ≤ x.v ∧ x.v ≤ 255
def atOk (a : Int) : Prop := 0 ≤ a ∧ a ≤ 1000000000000
theorem u64_in {x : Int} (h0 : 0 ≤ x) (h1 : x ≤ 18446744073709551615) : IntKind.u64.wrap x = x := IntWalk.u64_in x ⟨h0, h1⟩
theorem bits_255 (x : Int) : 0 ≤ bits .and .u64 x 255 ∧ bits .and .u64 x 255 ≤ 255 := by
  have h : ((BitVec.ofInt 64 x) &&& (BitVec.ofInt 64 255)).toNat ≤ 255 := by
    rw [BitVec.toNat_and]; exact Nat.le_trans Nat.and_le_right (by decide)
  have e : bits .and .u64 x 255 = IntKind.u64.wrap ((((BitVec.ofInt 64 x) &&& (BitVec.ofInt 64 255)).toNat : Nat) : Int) := rfl
  rw [e, u64_in (by omega) (by omega)]; omega
theorem next_ok {code : List B8} {a s : Int} {Q : Int → Int → Int → Prop} (hc : bytesOk code) (ha : 0 ≤ a ∧ a ≤ 2000000000000) (h : ∀ r a' s', 0 ≤ r → r ≤ 255 → 0 ≤ a' → a' ≤ a + 1 → Q r a' s') : spec_l1Cur_next ⟨code, a, s⟩ Q := by
  unfold spec_l1Cur_next
  dsimp only
  have key : ∀ b : Int, 0 ≤ b → b ≤ 255 → br (decide ((wr (a + 1)) ≤ (ln code))) (Q b (wr (a + 1)) (IntKind.u64.wrap ((IntKind.u64.wrap ((IntKind.u64.wrap (s * 6364136223846793005)) + (IntKind.u64.wrap b))) + 1442695040888963407)))
      (Q (wr (bits .and .u64 (Int.fdiv (IntKind.u64.wrap ((IntKind.u64.wrap ((IntKind.u64.wrap (s * 6364136223846793005)) + (IntKind.u64.wrap b))) + 1442695040888963407)) (2 ^ 40)) 255)) (wr (a + 1)) (IntKind.u64.wrap ((IntKind.u64.wrap ((IntKind.u64.wrap (s * 6364136223846793005)) + (IntKind.u64.wrap b))) + 1442695040888963407))) := by
    intro b hb0 hb1
    rw [wr_in (x := a + 1) (by omega) (by omega)]
    refine br_dec (fun _ => h _ _ _ hb0 hb1 (by omega) (by omega)) (fun _ => ?_)
    have hb := bits_255 (Int.fdiv (IntKind.u64.wrap ((IntKind.u64.wrap ((IntKind.u64.wrap (s * 6364136223846793005)) + (IntKind.u64.wrap b))) + 1442695040888963407)) (2 ^ 40))
    rw [wr_in (by omega) (by omega)]
    exact h _ _ _ hb.1 hb.2 (by omega) (by omega)
  by_cases g : a < ln code
  · have hi : a.toNat < code.length := by unfold ln at g; omega
    have hv := hc _ (List.getElem_mem hi)
    refine jn_of (br_yes g (idx_of ha.1 hi ?_))
    rw [wr_in (x := code[a.toNat].v) (by omega) (by omega)]
    exact key _ hv.1 hv.2
  · exact jn_of (br_no g (key 0 (by omega) (by omega)))
theorem pick_ok {code : List B8} {a s n : Int} {Q : Int → Int → Int → Prop} (hc : bytesOk code) (ha : atOk a) (h : ∀ r a' s', 0 ≤ r → (r < n ∨ r = 0 ∧ n ≤ 1) → r ≤ 65535 → 0 ≤ a' → a' ≤ a + 2 → Q r a' s') : spec_l1Cur_pick ⟨code, a, s⟩ n Q := by
  unfold spec_l1Cur_pick
  dsimp only
  have ha' := ha
  unfold atOk at ha'
  refine br_dec (fun g => h _ _ _ (by omega) (by omega) (by omega) (by omega) (by omega)) (fun g => next_ok hc (by omega) fun r a1 s1 h0 h1 h2 h3 => ?_)
  have fin : ∀ x a' s' : Int, 0 ≤ x → x ≤ 65535 → 0 ≤ a' → a' ≤ a + 2 → n ≠ 0 ∧ Q (x.tmod n) a' s' := fun x a' s' x0 x1 y0 y1 => by
    have l := Int.tmod_lt_of_pos x (show 0 < n by omega)
    have p := Int.tmod_nonneg n x0
    have q : x.tmod n ≤ x := by
      rw [Int.tmod_eq_emod_of_nonneg x0]
      have e := Int.emod_def x n
      have m := Int.mul_nonneg (show 0 ≤ n by omega) (Int.ediv_nonneg x0 (show 0 ≤ n by omega))
      omega
    exact ⟨by omega, h _ _ _ p (.inl l) (by omega) y0 y1⟩
  by_cases g2 : n > 200
  · refine jn_of (br_yes g2 (next_ok hc (by omega) fun r2 a2 s2 k0 k1 k2 k3 => ?_))
    show n ≠ 0 ∧ _
    rw [wr_in (x := r * 256) (by omega) (by omega), wr_in (by omega) (by omega)]
    exact fin _ _ _ (by omega) (by omega) k2 (by omega)
  · exact jn_of (br_no g2 (fin _ _ _ h0 (by omega) h2 (by omega)))
theorem among_ok {code : List B8} {a s : Int} {l : List Int} {Q : Int → Int → Int → Prop} (hc : bytesOk code) (ha : atOk a) (hl : 0 < l.length) (h : ∀ r ∈ l, ∀ a' s', 0 ≤ a' → a' ≤ a + 2 → Q r a' s') : spec_l1Cur_among ⟨code, a, s⟩ l Q := by
  unfold spec_l1Cur_among
  dsimp only
  refine pick_ok hc ha fun r a1 s1 h0 h1 _ h2 h3 => ?_
  have hi : r.toNat < l.length := by unfold ln at h1; omega
  exact idx_of h0 hi (h _ (List.getElem_mem hi) _ _ h2 h3)
end Go.Proofs.Ytbegmfmabcpofaa
