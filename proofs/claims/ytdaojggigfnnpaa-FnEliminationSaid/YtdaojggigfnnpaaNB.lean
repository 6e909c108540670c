/- Plain facts about implied edits and resolvents. -/
import Derived.Test.YtdaojggigfnnpaaIcPure
import Derived.Test.YtdaojggigfnnpaaNA
set_option linter.unusedVariables false
set_option autoImplicit false
namespace Go.Proofs.Ytdaojggigfnnpaa
open Go Go.RowKit Go.Gv

theorem sameInts_same {l : List Int} {Q : Bool → Prop} (hl : l.length ≤ 1048576) (hq : Q true) : laws_sameInts l l Q := by
  unfold laws_sameInts
  refine br_false (by simp) (loop1_list (by omega) (fun _ => True) trivial (fun i nx hi _ hx => idx_at hi (idx_at hi (br_false (by simp) (hx trivial)))) (fun _ => hq))
theorem pSameEdits_same {l : List Edit} {Q : Bool → Prop} (hl : l.length ≤ 1048576 ∧ ∀ e ∈ l, e.Sets.length ≤ 1048576) (hq : Q true) : laws_pSameEdits l l Q := by
  unfold laws_pSameEdits
  have h0 := hl.1
  refine br_false (by simp) (loop1_list (by omega) (fun _ => True) trivial (fun i nx hi _ hx => idx_at hi (idx_at hi (det1_of true (sameInts_same (hl.2 _ (List.getElem_mem hi)) rfl) (br_false rfl (hx trivial))))) (fun _ => hq))
/-! ### what is implied -/
theorem sok_of {sx : List Variable} {e : Edit} (hL : Lok sx) (h : eOk sx e = true) : Sok e.Sets ∧ e.Sets.length = sx.length := by
  have ⟨h1, h2⟩ := eOk_of h
  refine ⟨fun s hs => ?_, h1⟩
  obtain ⟨i, hi, rfl⟩ := List.mem_iff_getElem.1 hs
  have ⟨a, b⟩ := h2 i (by omega)
  rw [gi_at hi] at a b
  rw [vAt_at (by omega)] at b
  have := full_at hL (show i < sx.length by omega)
  omega
/-! ### maximal edits are implied, and imply the list -/
theorem maxE_mem {sx : List Variable} {l : List Edit} {v : Int} {e : Edit} (h : e ∈ maxE sx l v) : inE v 0 sx e.Sets ∧ freeP (pass sx l) e.Sets = true := by
  unfold maxE res at h
  obtain ⟨t, ht, rfl⟩ := List.mem_map.1 h
  have ⟨h1, h2⟩ := List.mem_filter.1 ht
  refine ⟨mem_enum.1 h1, ?_⟩
  unfold keep at h2
  simp only [Bool.and_eq_true] at h2
  exact h2.1
theorem inE_at {v : Int} : ∀ {r : List Variable} {n : Nat} {t : List Int} (i : Nat) (hr : Rok r) (h : inE v n r t) (hi : i < r.length) (hi' : i < t.length), 1 ≤ t[i] ∧ t[i] ≤ full r[i]
  | x :: r, n, s :: t, 0, hr, h, _, _ => by
    have h1 := h.1
    have h2 := frs_at (v := v) (n := n) hr.head.2.1
    exact ⟨by show 1 ≤ s; omega, h1.2⟩
  | x :: r, n, s :: t, i + 1, hr, h, hi, hi' => by simpa using inE_at (r := r) (t := t) i hr.tail h.2 (by simpa using hi) (by simpa using hi')
theorem eOk_of_inE {sx : List Variable} {v : Int} {t : List Int} (hL : Lok sx) (h : inE v 0 sx t) : eOk sx ⟨t⟩ = true := by
  have hl := inB_length (inE_B hL.2 h)
  unfold eOk
  simp only [Bool.and_eq_true, decide_eq_true_eq]
  refine ⟨hl, List.all_eq_true.2 fun i hi => ?_⟩
  have hi := List.mem_range.1 hi
  have := inE_at i hL.2 h hi (by omega)
  rw [inb_iff', gi_at (by omega), vAt_at hi]
  exact this
/-! ### resolvents -/
end Go.Proofs.Ytdaojggigfnnpaa
