/- Flows as functions: what a push makes of a flow; fillings that cannot be greater; flows as rows of elements. -/
import Derived.Test.YtommbnkecafodaaFQ
set_option linter.unusedVariables false
set_option autoImplicit false
namespace Go.Gv
structure Fg (n m : Nat) (R C : Nat → Int) (lo hi y : Nat → Nat → Int) : Prop where
  bd : ∀ i j, i < n → j < m → lo i j ≤ y i j ∧ y i j ≤ hi i j
  row : ∀ i, i < n → sm m (y i) = R i
  col : ∀ j, j < m → sm n (fun i => y i j) = C j
/-- z with another value at one place. -/
def pt (z : Nat → Nat → Int) (i j : Nat) (v : Int) (a b : Nat) : Int := if a = i ∧ b = j then v else z a b
section
variable {n m : Nat} {R C : Nat → Int} {lo hi x z : Nat → Nat → Int} {fr : Nat → Nat → Bool} {r' : Nat → Nat → Int} {L sent : Int} {i j : Nat}
theorem pt_row {v : Int} (hj : j < m) (a : Nat) : sm m (pt z i j v a) = sm m (z a) + (if a = i then v - z i j else 0) := by
  by_cases c : a = i
  · subst c
    have := sm_but (n := m) (f := pt z a j v a) (g := z a) hj (fun b hb hn => by unfold pt; rw [if_neg (fun d => hn d.2)])
    have e : pt z a j v a j = v := if_pos ⟨rfl, rfl⟩
    rw [e] at this; rw [if_pos rfl]; omega
  · rw [if_neg c, Int.add_zero]
    exact sm_congr fun b hb => by unfold pt; rw [if_neg (fun d => c d.1)]
theorem pt_col {v : Int} (hi' : i < n) (b : Nat) : sm n (fun a => pt z i j v a b) = sm n (fun a => z a b) + (if b = j then v - z i j else 0) := by
  by_cases c : b = j
  · subst c
    have := sm_but (n := n) (f := fun a => pt z i b v a b) (g := fun a => z a b) hi' (fun a ha hn => by show pt z i b v a b = z a b; unfold pt; rw [if_neg (fun d => hn d.1)])
    have e : pt z i b v i b = v := if_pos ⟨rfl, rfl⟩
    rw [e] at this; rw [if_pos rfl]; omega
  · rw [if_neg c, Int.add_zero]
    exact sm_congr fun a ha => by unfold pt; rw [if_neg (fun d => c d.2)]
theorem shift_down (P : Pu (n + m) (rs n m lo hi x fr) r' i (n + j) L sent) (f : Fg n m R C lo hi x) (hi' : i < n) (hj : j < m) (hfr : fr i j = false) (hL : sent ≤ x i j - lo i j) :
    Fg n m R C lo hi (pt (mv n hi x fr r') i j (x i j - sent)) := by
  have em : mv n hi x fr r' i j = x i j := by unfold mv; rw [hfr]; rfl
  have h0 := P.s0
  refine ⟨fun a b ha hb => ?_, fun a ha => ?_, fun b hb => ?_⟩
  · unfold pt
    split
    · rename_i c; obtain ⟨rfl, rfl⟩ := c; have := f.bd a b ha hb; omega
    · by_cases c : fr a b = true
      · exact P.bnd ha hb c
      · unfold mv; rw [if_neg c]; exact f.bd a b ha hb
  · rw [pt_row hj]; have := P.row ha; have := f.row a ha
    rw [if_neg (show ¬ a = n + j by omega)] at *
    rw [em]
    by_cases c : a = i
    · rw [if_pos c] at *; omega
    · rw [if_neg c] at *; omega
  · rw [pt_col hi']; have := P.col hb; have := f.col b hb
    rw [if_neg (show ¬ n + b = i by omega)] at *
    rw [em]
    by_cases c : b = j
    · subst c; rw [if_pos rfl] at *; omega
    · rw [if_neg c]; rw [if_neg (show ¬ n + b = n + j by omega)] at *; omega
theorem shift_up (P : Pu (n + m) (rs n m lo hi x fr) r' (n + j) i L sent) (f : Fg n m R C lo hi x) (hi' : i < n) (hj : j < m) (hfr : fr i j = false) (hL : sent ≤ hi i j - x i j) :
    Fg n m R C lo hi (pt (mv n hi x fr r') i j (x i j + sent)) := by
  have em : mv n hi x fr r' i j = x i j := by unfold mv; rw [hfr]; rfl
  have h0 := P.s0
  refine ⟨fun a b ha hb => ?_, fun a ha => ?_, fun b hb => ?_⟩
  · unfold pt
    split
    · rename_i c; obtain ⟨rfl, rfl⟩ := c; have := f.bd a b ha hb; omega
    · by_cases c : fr a b = true
      · exact P.bnd ha hb c
      · unfold mv; rw [if_neg c]; exact f.bd a b ha hb
  · rw [pt_row hj]; have := P.row ha; have := f.row a ha
    rw [if_neg (show ¬ a = n + j by omega)] at *
    rw [em]
    by_cases c : a = i
    · rw [if_pos c] at *; omega
    · rw [if_neg c] at *; omega
  · rw [pt_col hi']; have := P.col hb; have := f.col b hb
    rw [if_neg (show ¬ n + b = i by omega)] at *
    rw [em]
    by_cases c : b = j
    · subst c; rw [if_pos rfl] at *; omega
    · rw [if_neg c]; rw [if_neg (show ¬ n + b = n + j by omega)] at *; omega
/-- Over no edge out of T can more go: no filling is greater. -/
theorem fill_cut {y : Nat → Nat → Int} (T U : Nat → Bool) (h1 : ∀ i j, i < n → j < m → T i = true → U j = false → hi i j ≤ x i j) (h2 : ∀ i j, i < n → j < m → T i = false → U j = true → x i j ≤ lo i j)
    (h3 : ∀ i, i < n → T i = false → R i ≤ sm m (x i)) (h4 : ∀ j, j < m → U j = true → C j ≤ sm n (fun i => x i j))
    (hy : ∀ i j, i < n → j < m → lo i j ≤ y i j ∧ y i j ≤ hi i j) (hr : ∀ i, i < n → sm m (y i) ≤ R i) (hc : ∀ j, j < m → sm n (fun i => y i j) ≤ C j) :
    sm n (fun i => sm m (y i)) ≤ sm n (fun i => sm m (x i)) := by
  have key : sm n (fun i => sm m (fun j => y i j - x i j)) ≤ sm n (fun i => if T i = true then 0 else sm m (y i) - sm m (x i)) + sm m (fun j => if U j = true then sm n (fun i => y i j) - sm n (fun i => x i j) else 0) := by
    have e1 : sm n (fun i => if T i = true then 0 else sm m (y i) - sm m (x i)) = sm n (fun i => sm m (fun j => if T i = true then 0 else y i j - x i j)) := sm_congr fun i hi' => by
      by_cases c : T i = true
      · rw [if_pos c, sm_zero]; intro j hj; rw [if_pos c]
      · rw [if_neg c, ← sm_sub]; exact sm_congr fun j hj => by rw [if_neg c]
    have e2 : sm m (fun j => if U j = true then sm n (fun i => y i j) - sm n (fun i => x i j) else 0) = sm n (fun i => sm m (fun j => if U j = true then y i j - x i j else 0)) := by
      rw [sm_swap]
      refine sm_congr fun j hj => ?_
      by_cases c : U j = true
      · rw [if_pos c, ← sm_sub]; exact sm_congr fun i hi' => by rw [if_pos c]
      · rw [if_neg c, sm_zero]; intro i hi'; rw [if_neg c]
    rw [e1, e2, ← sm_add]
    refine sm_le fun i hi' => ?_
    rw [← sm_add]
    refine sm_le fun j hj => ?_
    have hb := hy i j hi' hj
    by_cases c : T i = true <;> by_cases d : U j = true
    · rw [if_pos c, if_pos d]; omega
    · rw [if_pos c, if_neg d]; have := h1 i j hi' hj c (Bool.eq_false_iff.2 d); omega
    · rw [if_neg c, if_pos d]; have := h2 i j hi' hj (Bool.eq_false_iff.2 c) d; omega
    · rw [if_neg c, if_neg d]; omega
  have k1 : sm n (fun i => if T i = true then 0 else sm m (y i) - sm m (x i)) ≤ 0 := by
    have q : sm n (fun _ => 0) = 0 := sm_zero fun _ _ => rfl
    rw [← q]
    refine sm_le fun i hi' => ?_
    by_cases c : T i = true
    · rw [if_pos c]; exact Int.le_of_eq q
    · rw [if_neg c]; have := h3 i hi' (Bool.eq_false_iff.2 c); have := hr i hi'; omega
  have k2 : sm m (fun j => if U j = true then sm n (fun i => y i j) - sm n (fun i => x i j) else 0) ≤ 0 := by
    have q : sm m (fun _ => 0) = 0 := sm_zero fun _ _ => rfl
    rw [← q]
    refine sm_le fun j hj => ?_
    by_cases c : U j = true
    · rw [if_pos c]; have := h4 j hj c; have := hc j hj; omega
    · rw [if_neg c]; exact Int.le_of_eq q
  have e3 : sm n (fun i => sm m (fun j => y i j - x i j)) = sm n (fun i => sm m (y i)) - sm n (fun i => sm m (x i)) := by
    rw [← sm_sub]; exact sm_congr fun i _ => sm_sub _ _ _
  omega
/-- A filling that leaves nothing of the rows is a flow. -/
theorem fill_flow (hb : ∀ i j, i < n → j < m → lo i j ≤ x i j ∧ x i j ≤ hi i j) (hr : ∀ i, i < n → sm m (x i) = R i) (hc : ∀ j, j < m → sm n (fun i => x i j) ≤ C j) (ht : sm n R = sm m C) : Fg n m R C lo hi x := by
  refine ⟨hb, hr, fun j hj => ?_⟩
  have h1 : sm n (fun i => sm m (x i)) = sm n R := sm_congr hr
  rw [sm_swap] at h1
  have h2 := sm_eq_zero (n := m) (f := fun j => C j - sm n (fun i => x i j)) (fun j hj => by have := hc j hj; show 0 ≤ C j - _; omega) (by rw [sm_sub]; have : sm m (fun j => C j) = sm m C := rfl; omega) j hj
  have h3 : C j - sm n (fun i => x i j) = 0 := h2
  omega
/-- Between two values of an element lies a flow with each. -/
theorem between {y : Nat → Nat → Int} (f : Fg n m R C lo hi x) (g : Fg n m R C lo hi y) (hi' : i < n) (hj : j < m) (fr : Nat → Nat → Bool) (hfr : fr i j = false)
    (hk : ∀ a b, a < n → b < m → fr a b = false → ¬ (a = i ∧ b = j) → y a b = x a b) {v : Int} (h1 : x i j ≤ v) (h2 : v ≤ y i j) :
    ∃ z, Fg n m R C lo hi z ∧ z i j = v ∧ ∀ a b, a < n → b < m → fr a b = false → ¬ (a = i ∧ b = j) → z a b = x a b := by
  have h0 : ∀ u v, u < n + m → v < n + m → 0 ≤ rs n m lo hi x fr u v := fun u v hu hv => by
    rcases node hu with q | ⟨b, hb, rfl⟩ <;> rcases node hv with q2 | ⟨c, hc, rfl⟩
    · rw [rs_rr q q2]; exact Int.le_refl _
    · rw [rs_rc q hc]; have := f.bd u c q hc; split <;> omega
    · rw [rs_cr q2 hb]; have := f.bd v b q2 hb; split <;> omega
    · rw [rs_cc]; exact Int.le_refl _
  obtain ⟨r', sent, P⟩ := push_ex h0 (show n + j < n + m by omega) (show i < n + m by omega) (by omega) (v - x i j).toNat
  have hs := P.s1
  have he : sent = v - x i j := by
    refine Classical.byContradiction fun hne => ?_
    have := P.up hi' hj hfr (by omega) (fun a b ha hb _ => g.bd a b ha hb) hk (fun a ha => by rw [g.row a ha, f.row a ha]) (fun b hb => by rw [g.col b hb, f.col b hb])
    omega
  have hg := g.bd i j hi' hj
  refine ⟨_, shift_up P f hi' hj hfr (by omega), ?_, fun a b ha hb h3 h4 => ?_⟩
  · unfold pt; rw [if_pos ⟨rfl, rfl⟩]; omega
  · unfold pt; rw [if_neg h4]; unfold mv; rw [h3]; rfl
end

/-! ### positions -/
section
variable {n m i j p : Nat}
theorem ps_lt (hi : i < n) (hj : j < m) : i * m + j < n * m := by
  have : (i + 1) * m ≤ n * m := Nat.mul_le_mul_right _ (by omega)
  rw [Nat.succ_mul] at this; omega
theorem ps_div (hj : j < m) : (i * m + j) / m = i := by
  rw [Nat.mul_comm, Nat.mul_add_div (by omega), Nat.div_eq_of_lt hj, Nat.add_zero]
theorem ps_mod (hj : j < m) : (i * m + j) % m = j := by
  rw [Nat.mul_comm, Nat.mul_add_mod, Nat.mod_eq_of_lt hj]
theorem ps_row (hp : p < n * m) : p / m < n := Nat.div_lt_of_lt_mul (by rw [Nat.mul_comm]; exact hp)
theorem ps_col (hp : p < n * m) : p % m < m := Nat.mod_lt _ (by
  refine Nat.pos_of_ne_zero fun e => ?_
  subst e; rw [Nat.mul_zero] at hp; omega)
theorem ps_eq : (p / m) * m + p % m = p := by rw [Nat.mul_comm]; exact Nat.div_add_mod p m
theorem ps_inj {a b : Nat} (hj : j < m) (hb : b < m) (e : a * m + b = i * m + j) : a = i ∧ b = j := by
  have h1 : (a * m + b) / m = (i * m + j) / m := by rw [e]
  have h2 : (a * m + b) % m = (i * m + j) % m := by rw [e]
  rw [ps_div hb, ps_div hj] at h1; rw [ps_mod hb, ps_mod hj] at h2
  exact ⟨h1, h2⟩
end
/-- A matrix as one row. -/
def fl (m : Nat) (x : Nat → Nat → Int) (p : Nat) : Int := x (p / m) (p % m)
def unf (m : Nat) (X : Nat → Int) (i j : Nat) : Int := X (i * m + j)
section
variable {n m : Nat} {R C : Nat → Int} {lo hi x y : Nat → Nat → Int}
theorem fl_at {i j : Nat} (hj : j < m) : fl m x (i * m + j) = x i j := by unfold fl; rw [ps_div hj, ps_mod hj]
theorem unf_fl {i j : Nat} (hj : j < m) : unf m (fl m x) i j = x i j := fl_at hj
theorem Fg.congr (f : Fg n m R C lo hi x) (h : ∀ i j, i < n → j < m → x i j = y i j) : Fg n m R C lo hi y :=
  ⟨fun i j hi' hj => by rw [← h i j hi' hj]; exact f.bd i j hi' hj, fun i hi' => by rw [← f.row i hi']; exact sm_congr fun j hj => (h i j hi' hj).symm, fun j hj => by rw [← f.col j hj]; exact sm_congr fun i hi' => (h i j hi' hj).symm⟩
def Ff (n m : Nat) (R C : Nat → Int) (lo hi : Nat → Nat → Int) (X : Nat → Int) : Prop := Fg n m R C lo hi (unf m X)
theorem Ff_fl (f : Fg n m R C lo hi x) : Ff n m R C lo hi (fl m x) := f.congr fun i j _ hj => (unf_fl hj).symm
theorem Ff_fp : Fp (n * m) (fl m lo) (fl m hi) (Ff n m R C lo hi) := by
  refine ⟨fun x f p hp => ?_, fun x y f h => f.congr fun i j hi' hj => h _ (ps_lt hi' hj)⟩
  have := f.bd (p / m) (p % m) (ps_row hp) (ps_col hp)
  unfold unf at this; rw [ps_eq] at this
  exact this
/-- Alike up to a place: as rows, and as matrices. -/
theorem ag_fl {k : Nat} (hk : k ≤ n * m) : ag k (fl m x) (fl m y) ↔ ∀ i j, i < n → j < m → i * m + j < k → x i j = y i j := by
  constructor
  · intro h i j hi' hj hp
    have := h _ hp; rwa [fl_at hj, fl_at hj] at this
  · intro h p hp
    have hp' : p < n * m := by omega
    exact h _ _ (ps_row hp') (ps_col hp') (by rw [ps_eq]; exact hp)
end
end Go.Gv
