/- A greatest push there always is; flows counted in the order of matrices. -/
import Derived.Test.YtommbnkecafodaaFL
set_option linter.unusedVariables false
set_option autoImplicit false
namespace Go.Gv

/-! ### there is a push -/
def Rc (N : Nat) (r : Nat → Nat → Int) (s : Nat) : Nat → Nat → Prop
  | 0, u => u = s
  | k + 1, v => ∃ u, u < N ∧ Rc N r s k u ∧ 0 < r u v
theorem unit_path {N s : Nat} {r : Nat → Nat → Int} (h0 : ∀ u v, u < N → v < N → 0 ≤ r u v) (hs : s < N) : ∀ (k v : Nat), v < N → Rc N r s k v → (∀ j, j < k → ¬ Rc N r s j v) →
    ∃ r' : Nat → Nat → Int, (∀ u v, u < N → v < N → 0 ≤ r' u v) ∧ (∀ u v, u < N → v < N → r' u v + r' v u = r u v + r v u) ∧
      (∀ u, u < N → sm N (fun x => r u x - r' u x) = (if u = s then 1 else 0) - (if u = v then 1 else 0)) ∧
      (∀ a b, r' a b ≠ r a b → (∃ j, j ≤ k ∧ Rc N r s j a) ∧ ∃ j, j ≤ k ∧ Rc N r s j b)
  | 0, v, hv, h, _ => by
    have e : v = s := h
    subst e
    exact ⟨r, h0, fun _ _ _ _ => rfl, fun u hu => by rw [sm_zero (fun i _ => Int.sub_self _)]; omega, fun a b hne => absurd rfl hne⟩
  | k + 1, v, hv, ⟨u, hu, hru, hpos⟩, hmin => by
    obtain ⟨r1, n1, p1, d1, c1⟩ := unit_path h0 hs k u hu hru (fun j hj hR => hmin (j + 1) (by omega) ⟨u, hu, hR, hpos⟩)
    have huv : u ≠ v := fun e => by subst e; exact hmin k (by omega) hru
    have e1 : r1 u v = r u v := by
      refine Classical.byContradiction fun hne => ?_
      obtain ⟨_, j, hj, hR⟩ := c1 u v hne
      exact hmin j (by omega) hR
    refine ⟨fun a b => if a = u ∧ b = v then r1 a b - 1 else if a = v ∧ b = u then r1 a b + 1 else r1 a b, fun a b ha hb => ?_, fun a b ha hb => ?_, fun w hw => ?_, fun a b hne => ?_⟩
    · show 0 ≤ (if a = u ∧ b = v then r1 a b - 1 else if a = v ∧ b = u then r1 a b + 1 else r1 a b)
      have := n1 a b ha hb
      split
      · rename_i c; obtain ⟨rfl, rfl⟩ := c; rw [e1]; omega
      · split <;> omega
    · show (if a = u ∧ b = v then r1 a b - 1 else if a = v ∧ b = u then r1 a b + 1 else r1 a b) + (if b = u ∧ a = v then r1 b a - 1 else if b = v ∧ a = u then r1 b a + 1 else r1 b a) = _
      have := p1 a b ha hb
      by_cases c : a = u ∧ b = v
      · obtain ⟨rfl, rfl⟩ := c
        rw [if_pos ⟨rfl, rfl⟩, if_neg (fun d => huv d.1.symm), if_pos ⟨rfl, rfl⟩]; omega
      · rw [if_neg c]
        by_cases c2 : a = v ∧ b = u
        · obtain ⟨rfl, rfl⟩ := c2
          rw [if_pos ⟨rfl, rfl⟩, if_pos ⟨rfl, rfl⟩]; omega
        · rw [if_neg c2, if_neg (fun d => c2 ⟨d.2, d.1⟩), if_neg (fun d => c ⟨d.2, d.1⟩)]; exact this
    · have h := d1 w hw
      have e : sm N (fun x => r w x - (if w = u ∧ x = v then r1 w x - 1 else if w = v ∧ x = u then r1 w x + 1 else r1 w x)) - sm N (fun x => r w x - r1 w x) = (if w = u then 1 else 0) - (if w = v then 1 else 0) := by
        rw [← sm_sub]
        by_cases c : w = u
        · subst c
          rw [sm_one hv]
          · rw [if_pos ⟨rfl, rfl⟩, if_pos rfl, if_neg huv]; omega
          · intro x hx hxn
            rw [if_neg (fun d => hxn d.2), if_neg (fun d => huv d.1)]; omega
        · by_cases c2 : w = v
          · subst c2
            rw [sm_one hu]
            · rw [if_neg (fun d => c d.1), if_pos ⟨rfl, rfl⟩, if_neg c, if_pos rfl]; omega
            · intro x hx hxn
              rw [if_neg (fun d => c d.1), if_neg (fun d => hxn d.2)]; omega
          · rw [if_neg c, if_neg c2, sm_zero]; · rfl
            intro x hx
            rw [if_neg (fun d => c d.1), if_neg (fun d => c2 d.1)]; omega
      show sm N (fun x => r w x - (if w = u ∧ x = v then r1 w x - 1 else if w = v ∧ x = u then r1 w x + 1 else r1 w x)) = _
      omega
    · have up : ∀ {x : Nat}, (∃ j, j ≤ k ∧ Rc N r s j x) → ∃ j, j ≤ k + 1 ∧ Rc N r s j x := fun ⟨j, hj, hR⟩ => ⟨j, by omega, hR⟩
      have hv2 : ∃ j, j ≤ k + 1 ∧ Rc N r s j v := ⟨k + 1, Nat.le_refl _, u, hu, hru, hpos⟩
      have hu2 : ∃ j, j ≤ k + 1 ∧ Rc N r s j u := ⟨k, by omega, hru⟩
      by_cases c : a = u ∧ b = v
      · obtain ⟨rfl, rfl⟩ := c; exact ⟨hu2, hv2⟩
      · by_cases c2 : a = v ∧ b = u
        · obtain ⟨rfl, rfl⟩ := c2; exact ⟨hv2, hu2⟩
        · have hne' : r1 a b ≠ r a b := by
            have : (if a = u ∧ b = v then r1 a b - 1 else if a = v ∧ b = u then r1 a b + 1 else r1 a b) ≠ r a b := hne
            rwa [if_neg c, if_neg c2] at this
          obtain ⟨x, y⟩ := c1 a b hne'
          exact ⟨up x, up y⟩
open Classical in
theorem push_ex {N s t : Nat} {r : Nat → Nat → Int} (h0 : ∀ u v, u < N → v < N → 0 ≤ r u v) (hs : s < N) (ht : t < N) (hst : s ≠ t) : ∀ L : Nat, ∃ r' sent, Pu N r r' s t L sent
  | 0 => ⟨r, 0, h0, fun _ _ _ _ => rfl, fun u hu => by rw [sm_zero (fun i _ => Int.sub_self _)]; split <;> split <;> rfl, Int.le_refl _, Int.le_refl _, fun h => by have := Int.lt_irrefl _ h; exact this.elim⟩
  | L + 1 => by
    obtain ⟨r1, s1, P⟩ := push_ex h0 hs ht hst L
    by_cases hlt : s1 < L
    · exact ⟨r1, s1, P.nn, P.pr, P.dv, P.s0, by have := P.s1; omega, fun _ => P.ct hlt⟩
    have e : s1 = L := by have := P.s1; omega
    subst e
    by_cases hr : ∃ k, Rc N r1 s k t
    · obtain ⟨k, hk, hmin⟩ : ∃ k, Rc N r1 s k t ∧ ∀ j, j < k → ¬ Rc N r1 s j t := by
        obtain ⟨k, hk⟩ := hr
        induction k using Nat.strongRecOn with
        | _ k ih =>
          by_cases h : ∃ j, j < k ∧ Rc N r1 s j t
          · obtain ⟨j, hj, hR⟩ := h; exact ih j hj hR
          · exact ⟨k, hk, fun j hj hR => h ⟨j, hj, hR⟩⟩
      obtain ⟨r2, n2, p2, d2, _⟩ := unit_path P.nn hs k t ht hk hmin
      refine ⟨r2, (L : Int) + 1, n2, fun u v hu hv => by rw [p2 u v hu hv, P.pr u v hu hv], fun u hu => ?_, by omega, by omega, fun h => by omega⟩
      have h1 := d2 u hu; have h2 := P.dv u hu
      have e : sm N (fun v => r u v - r2 u v) = sm N (fun v => r u v - r1 u v) + sm N (fun v => r1 u v - r2 u v) := by
        rw [← sm_add]; exact sm_congr fun i _ => by omega
      rw [e, h1, h2]
      split <;> split <;> omega
    · refine ⟨r1, L, P.nn, P.pr, P.dv, P.s0, by omega, fun _ => ⟨fun u => decide (∃ k, Rc N r1 s k u), decide_eq_true ⟨0, rfl⟩, decide_eq_false hr, fun u v hu hv h1 h2 => ?_⟩⟩
      refine Classical.byContradiction fun hp => ?_
      obtain ⟨k, hk⟩ := of_decide_eq_true h1
      exact of_decide_eq_false h2 ⟨k + 1, u, hu, hk, by omega⟩

/-! ### sums of numbers of ways -/
def sN : Nat → (Nat → Nat) → Nat
  | 0, _ => 0
  | n + 1, f => sN n f + f n
theorem sN_congr {n : Nat} {f g : Nat → Nat} (h : ∀ i, i < n → f i = g i) : sN n f = sN n g := by
  induction n with
  | zero => rfl
  | succ n ih => simp only [sN]; rw [ih (fun i hi => h i (by omega)), h n (by omega)]
theorem sN_zero {n : Nat} {f : Nat → Nat} (h : ∀ i, i < n → f i = 0) : sN n f = 0 := by
  induction n with
  | zero => rfl
  | succ n ih => simp only [sN]; rw [ih (fun i hi => h i (by omega)), h n (by omega)]
theorem sN_split (a b : Nat) (f : Nat → Nat) : sN (a + b) f = sN a f + sN b (fun i => f (a + i)) := by
  induction b with
  | zero => simp [sN]
  | succ b ih => rw [← Nat.add_assoc]; simp only [sN]; rw [ih]; omega
theorem sN_pos {n : Nat} {f : Nat → Nat} : 0 < sN n f ↔ ∃ i, i < n ∧ 0 < f i := by
  induction n with
  | zero => simp [sN]
  | succ n ih =>
    simp only [sN]
    constructor
    · intro h
      by_cases c : 0 < f n
      · exact ⟨n, by omega, c⟩
      · obtain ⟨i, hi, hp⟩ := ih.1 (by omega); exact ⟨i, by omega, hp⟩
    · rintro ⟨i, hi, hp⟩
      by_cases e : i = n
      · subst e; omega
      · have := ih.2 ⟨i, by omega, hp⟩; omega
/-- The sum over a to b. -/
def sR (a b : Int) (f : Int → Nat) : Nat := sN (b + 1 - a).toNat (fun i => f (a + (i : Int)))
theorem sR_none {a b : Int} {f : Int → Nat} (h : b < a) : sR a b f = 0 := by
  unfold sR; rw [show (b + 1 - a).toNat = 0 by omega]; rfl
theorem sR_zero {a b : Int} {f : Int → Nat} (h : ∀ v, a ≤ v → v ≤ b → f v = 0) : sR a b f = 0 :=
  sN_zero fun i hi => h _ (by omega) (by omega)
theorem sR_congr {a b : Int} {f g : Int → Nat} (h : ∀ v, a ≤ v → v ≤ b → f v = g v) : sR a b f = sR a b g :=
  sN_congr fun i hi => h _ (by omega) (by omega)
theorem sR_pos {a b : Int} {f : Int → Nat} : 0 < sR a b f ↔ ∃ v, a ≤ v ∧ v ≤ b ∧ 0 < f v := by
  unfold sR; rw [sN_pos]
  constructor
  · rintro ⟨i, hi, hp⟩; exact ⟨_, by omega, by omega, hp⟩
  · rintro ⟨v, h1, h2, hp⟩; refine ⟨(v - a).toNat, by omega, ?_⟩
    rw [show a + ((v - a).toNat : Int) = v by omega]; exact hp
theorem sR_cut {a b c : Int} {f : Int → Nat} (h1 : a ≤ c) (h2 : c ≤ b + 1) : sR a b f = sR a (c - 1) f + sR c b f := by
  unfold sR
  rw [show (b + 1 - a).toNat = (c - 1 + 1 - a).toNat + (b + 1 - c).toNat by omega, sN_split]
  congr 1
  refine sN_congr fun i _ => ?_
  congr 1; omega
theorem sR_head {a b : Int} {f : Int → Nat} (h : a ≤ b) : sR a b f = f a + sR (a + 1) b f := by
  rw [sR_cut (c := a + 1) (by omega) (by omega)]
  congr 1
  unfold sR; rw [show (a + 1 - 1 + 1 - a).toNat = 1 by omega]; simp [sN]

/-! ### flows in the order of matrices, as rows of K elements -/
def up (x : Nat → Int) (k : Nat) (v : Int) : Nat → Int := fun p => if p = k then v else x p
def ag (k : Nat) (y x : Nat → Int) : Prop := ∀ p, p < k → y p = x p
theorem ag.symm {k : Nat} {y x : Nat → Int} (h : ag k y x) : ag k x y := fun p hp => (h p hp).symm
theorem ag.trans {k : Nat} {x y z : Nat → Int} (h : ag k x y) (g : ag k y z) : ag k x z := fun p hp => (h p hp).trans (g p hp)
theorem ag.le {k l : Nat} {y x : Nat → Int} (h : ag k y x) (hl : l ≤ k) : ag l y x := fun p hp => h p (by omega)
theorem ag.refl (k : Nat) (x : Nat → Int) : ag k x x := fun _ _ => rfl
theorem ag_up {k : Nat} {x : Nat → Int} {v : Int} : ag k (up x k v) x := fun p hp => by unfold up; rw [if_neg (by omega)]
theorem up_at {k : Nat} {x : Nat → Int} {v : Int} : up x k v k = v := by unfold up; rw [if_pos rfl]
theorem ag_succ {k : Nat} {y x : Nat → Int} {v : Int} : ag (k + 1) y (up x k v) ↔ ag k y x ∧ y k = v := by
  constructor
  · intro h; exact ⟨(h.le (by omega)).trans ag_up, by rw [h k (by omega), up_at]⟩
  · rintro ⟨h, e⟩ p hp
    by_cases c : p = k
    · subst c; rw [up_at]; exact e
    · unfold up; rw [if_neg c]; exact h p (by omega)
theorem up_self {k : Nat} {x : Nat → Int} : up x k (x k) = x := by funext p; unfold up; split <;> simp_all
structure Fp (K : Nat) (lo hi : Nat → Int) (F : (Nat → Int) → Prop) : Prop where
  bd : ∀ x, F x → ∀ p, p < K → lo p ≤ x p ∧ x p ≤ hi p
  cg : ∀ x y, F x → ag K x y → F y
section
variable {K : Nat} {lo hi : Nat → Int} {F : (Nat → Int) → Prop}
open Classical in
/-- How many flows begin as x does, but for the last d elements. -/
noncomputable def cn (K : Nat) (lo hi : Nat → Int) (F : (Nat → Int) → Prop) : Nat → (Nat → Int) → Nat
  | 0, x => if F x then 1 else 0
  | d + 1, x => sR (lo (K - (d + 1))) (hi (K - (d + 1))) fun v => cn K lo hi F d (up x (K - (d + 1)) v)
theorem cn_congr (fp : Fp K lo hi F) : ∀ (d : Nat) (x y : Nat → Int), d ≤ K → ag (K - d) x y → cn K lo hi F d x = cn K lo hi F d y
  | 0, x, y, _, h => by
    unfold cn
    have : F x ↔ F y := ⟨fun f => fp.cg x y f h, fun f => fp.cg y x f h.symm⟩
    by_cases c : F x
    · rw [if_pos c, if_pos (this.1 c)]
    · rw [if_neg c, if_neg (fun f => c (this.2 f))]
  | d + 1, x, y, hd, h => by
    unfold cn
    refine sR_congr fun v _ _ => cn_congr fp d _ _ (by omega) ?_
    rw [show K - d = K - (d + 1) + 1 by omega, ag_succ]
    exact ⟨ag_up.trans h, up_at⟩
theorem cn_pos (fp : Fp K lo hi F) : ∀ (d : Nat) (x : Nat → Int), d ≤ K → (0 < cn K lo hi F d x ↔ ∃ y, F y ∧ ag (K - d) y x)
  | 0, x, _ => by
    unfold cn
    constructor
    · intro h
      by_cases c : F x
      · exact ⟨x, c, ag.refl _ _⟩
      · rw [if_neg c] at h; omega
    · rintro ⟨y, f, h⟩
      rw [if_pos (fp.cg y x f h)]; omega
  | d + 1, x, hd => by
    unfold cn; rw [sR_pos]
    constructor
    · rintro ⟨v, h1, h2, hp⟩
      obtain ⟨y, f, h⟩ := (cn_pos fp d _ (by omega)).1 hp
      rw [show K - d = K - (d + 1) + 1 by omega, ag_succ] at h
      exact ⟨y, f, h.1⟩
    · rintro ⟨y, f, h⟩
      have := fp.bd y f (K - (d + 1)) (by omega)
      refine ⟨y (K - (d + 1)), this.1, this.2, (cn_pos fp d _ (by omega)).2 ⟨y, f, ?_⟩⟩
      rw [show K - d = K - (d + 1) + 1 by omega, ag_succ]
      exact ⟨h, rfl⟩
theorem cn_zero (fp : Fp K lo hi F) {d : Nat} {x : Nat → Int} (hd : d ≤ K) (h : ∀ y, F y → ag (K - d) y x → False) : cn K lo hi F d x = 0 := by
  refine Nat.eq_zero_of_not_pos fun hp => ?_
  obtain ⟨y, f, g⟩ := (cn_pos fp d x hd).1 hp
  exact h y f g
/-- How many flows begin as x does, but for the last d elements, and come behind x. -/
noncomputable def rmn (K : Nat) (lo hi : Nat → Int) (F : (Nat → Int) → Prop) : Nat → (Nat → Int) → Nat
  | 0, x => 0
  | d + 1, x => rmn K lo hi F d x + sR (x (K - (d + 1)) + 1) (hi (K - (d + 1))) fun v => cn K lo hi F d (up x (K - (d + 1)) v)
/-- From k on, z is as small as it can be. -/
def tgt (K : Nat) (F : (Nat → Int) → Prop) (k : Nat) (z : Nat → Int) : Prop := ∀ q, k ≤ q → q < K → ∀ y, F y → ag q y z → z q ≤ y q
theorem cn_tgt (fp : Fp K lo hi F) {z : Nat → Int} (f : F z) : ∀ d, d ≤ K → tgt K F (K - d) z → cn K lo hi F d z = 1 + rmn K lo hi F d z
  | 0, _, _ => by unfold cn rmn; rw [if_pos f]
  | d + 1, hd, h => by
    have ih := cn_tgt fp f d (by omega) (fun q h1 h2 => h q (by omega) h2)
    have hb := fp.bd z f (K - (d + 1)) (by omega)
    unfold cn rmn
    rw [sR_cut (c := z (K - (d + 1))) hb.1 (by omega), sR_zero, sR_head hb.2, up_self, ih]
    · omega
    · intro v h1 h2
      refine cn_zero fp (by omega) fun y fy hy => ?_
      rw [show K - d = K - (d + 1) + 1 by omega, ag_succ] at hy
      have := h (K - (d + 1)) (Nat.le_refl _) (by omega) y fy hy.1
      omega
theorem rmn_zero (fp : Fp K lo hi F) {x : Nat → Int} : ∀ d, d ≤ K → (∀ q, K - d ≤ q → q < K → ∀ y, F y → ag q y x → ¬ x q < y q) → rmn K lo hi F d x = 0
  | 0, _, _ => rfl
  | d + 1, hd, h => by
    unfold rmn
    rw [rmn_zero fp d (by omega) (fun q h1 h2 => h q (by omega) h2), sR_zero]
    intro v h1 h2
    refine cn_zero fp (by omega) fun y fy hy => ?_
    rw [show K - d = K - (d + 1) + 1 by omega, ag_succ] at hy
    exact h (K - (d + 1)) (Nat.le_refl _) (by omega) y fy hy.1 (by omega)
/-- z comes next behind x: alike up to p, one more there, and from there on as small as it can be; behind p nothing greater was to be had. -/
theorem rmn_step (fp : Fp K lo hi F) {x z : Nat → Int} {p : Nat} (hp : p < K) (f : F z) (ha : ag p z x) (hz : z p = x p + 1) (ht : tgt K F (p + 1) z)
    (hn : ∀ q, p < q → q < K → ∀ y, F y → ag q y x → ¬ x q < y q) : ∀ d, K - p ≤ d → d ≤ K → rmn K lo hi F d x = 1 + rmn K lo hi F d z := by
  intro d
  induction d with
  | zero => intro h1 h2; omega
  | succ d ih =>
    intro h1 h2
    by_cases c : K - p ≤ d
    · have := ih c (by omega)
      unfold rmn
      rw [this]
      have e : z (K - (d + 1)) = x (K - (d + 1)) := ha _ (by omega)
      rw [e]
      have : (sR (x (K - (d + 1)) + 1) (hi (K - (d + 1))) fun v => cn K lo hi F d (up x (K - (d + 1)) v)) = sR (x (K - (d + 1)) + 1) (hi (K - (d + 1))) fun v => cn K lo hi F d (up z (K - (d + 1)) v) := by
        refine sR_congr fun v _ _ => cn_congr fp d _ _ (by omega) ?_
        rw [show K - d = K - (d + 1) + 1 by omega, ag_succ]
        exact ⟨ag_up.trans (ha.le (by omega)).symm, up_at⟩
      rw [this]; omega
    · have hd : d = K - (p + 1) := by omega
      have e : K - (d + 1) = p := by omega
      unfold rmn
      rw [rmn_zero fp d (by omega) (fun q h1 h2 => hn q (by omega) h2), e]
      have hb := fp.bd z f p hp
      rw [sR_head (by omega)]
      have c1 : cn K lo hi F d (up x p (x p + 1)) = 1 + rmn K lo hi F d z := by
        rw [cn_congr fp d _ z (by omega), cn_tgt fp f d (by omega)]
        · rw [show K - d = p + 1 by omega]; exact ht
        · rw [show K - d = p + 1 by omega]
          refine ag.symm ?_
          rw [ag_succ]; exact ⟨ha, hz⟩
      rw [c1, hz]
      have : (sR (x p + 1 + 1) (hi p) fun v => cn K lo hi F d (up x p v)) = sR (x p + 1 + 1) (hi p) fun v => cn K lo hi F d (up z p v) := by
        refine sR_congr fun v _ _ => cn_congr fp d _ _ (by omega) ?_
        rw [show K - d = p + 1 by omega, ag_succ]
        exact ⟨ag_up.trans ha.symm, up_at⟩
      rw [this]; omega
end
end Go.Gv
