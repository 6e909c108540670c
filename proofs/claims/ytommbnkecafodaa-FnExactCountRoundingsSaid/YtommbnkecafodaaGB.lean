/- The network of roundings, as the program and as the reference print it. -/
import Derived.Test.YtommbnkecafodaaGA
set_option linter.unusedVariables false
set_option autoImplicit false
namespace Go.Proofs.Ytommbnkecafodaa
open Go Go.RowKit Go.Gv

def ud (b v : Int) : Int := cup b v - cdn b v
def nLo (x : List (List Int)) (b : Int) (n m i j : Nat) : Int := if i < n ∧ j < m then cdn b (mt x i j) else 0
def nHi (x : List (List Int)) (b : Int) (n m i j : Nat) : Int :=
  if i < n then (if j < m then cup b (mt x i j) else ud b (sm m (mt x i))) else if j < m then ud b (sm n fun a => mt x a j) else ud b (sm n fun a => sm m (mt x a))
structure Rn (x : List (List Int)) (b : Int) (n m : Nat) (t : Transport) : Prop where
  rl : t.Rows.length = n + 1
  cl : t.Cols.length = m + 1
  rw : ∀ i, i < n + 1 → t.Rows.getD i 0 = if i < n then cup b (sm m (mt x i)) else sm m (fun j => cup b (sm n fun a => mt x a j)) - cdn b (sm n fun a => sm m (mt x a))
  cw : ∀ j, j < m + 1 → t.Cols.getD j 0 = if j < m then cup b (sm n fun a => mt x a j) else sm n (fun i => cup b (sm m (mt x i))) - cdn b (sm n fun a => sm m (mt x a))
  ls : Sh (n + 1) (m + 1) t.Lo
  hs : Sh (n + 1) (m + 1) t.Hi
  lo : ∀ i j, i < n + 1 → j < m + 1 → mt t.Lo i j = nLo x b n m i j
  hi : ∀ i j, i < n + 1 → j < m + 1 → mt t.Hi i j = nHi x b n m i j
theorem Rn.uniq {x : List (List Int)} {b : Int} {n m : Nat} {t u : Transport} (p : Rn x b n m t) (q : Rn x b n m u) : t = u := by
  have e1 : t.Rows = u.Rows := list_eq p.rl q.rl fun i hi => by rw [p.rw i hi, q.rw i hi]
  have e2 : t.Cols = u.Cols := list_eq p.cl q.cl fun i hi => by rw [p.cw i hi, q.cw i hi]
  have e3 : t.Lo = u.Lo := mt_ext p.ls q.ls fun i j hi hj => by rw [p.lo i j hi hj, q.lo i j hi hj]
  have e4 : t.Hi = u.Hi := mt_ext p.hs q.hs fun i j hi hj => by rw [p.hi i j hi hj, q.hi i j hi hj]
  cases t; cases u; simp_all
theorem Rn.gd {x : List (List Int)} {b : Int} {n m : Nat} {t : Transport} (p : Rn x b n m t) (g : Gr 10000 x n m) (n7 : n ≤ 7) (m7 : m ≤ 7) (hb : 2 ≤ b ∧ b ≤ 100) : Gd t (n + 1) (m + 1) := by
  refine ⟨p.rl, p.cl, by omega, by omega, by omega, by omega, fun i hi => ?_, fun j hj => ?_, p.ls, p.hs, fun i j hi hj => ?_⟩
  · rw [p.rw i hi]; split
    · rename_i c; have := g.row c; have := cup_bnd (v := sm m (mt x i)) hb.1 (by omega); omega
    · rw [sm_swap n m]; have := edge_bnd (f := fun j => sm n fun a => mt x a j) hb m7; omega
  · rw [p.cw j hj]; split
    · rename_i c; have := g.col c; have := cup_bnd (v := sm n fun a => mt x a j) hb.1 (by omega); omega
    · have := edge_bnd (f := fun i => sm m (mt x i)) hb n7; omega
  · rw [p.lo i j hi hj, p.hi i j hi hj]
    unfold nLo nHi ud
    by_cases c : i < n
    · by_cases d : j < m
      · rw [if_pos ⟨c, d⟩, if_pos c, if_pos d]
        have h := g.bd i j c d
        have h1 := cdn_bnd (v := mt x i j) hb.1 h.1; have h2 := cup_bnd (v := mt x i j) hb.1 h.1; have h3 := cud (v := mt x i j) hb.1; omega
      · rw [if_neg (by omega), if_pos c, if_neg d]; have := cud (v := sm m (mt x i)) hb.1; omega
    · rw [if_neg (by omega), if_neg c]
      split
      · have := cud (v := sm n fun a => mt x a j) hb.1; omega
      · have := cud (v := sm n fun a => sm m (mt x a)) hb.1; omega
theorem loop5_i2 {A B C D E : Type} {body : A → B → C → D → E → (A → B → C → D → E → Prop) → Prop} {a : A} {b : B} {c : C} {d : D} {e : E} (h : Loop5 (fun b a c d e nx => body a b c d e fun a b c d e => nx b a c d e) b a c d e) : Loop5 body a b c d e := by
  obtain ⟨J, μ, h0, hs⟩ := h
  exact ⟨fun a b c d e => J b a c d e, fun a b c d e => μ b a c d e, h0, fun a b c d e hj => hs b a c d e hj⟩
theorem loop5_i4 {A B C D E : Type} {body : A → B → C → D → E → (A → B → C → D → E → Prop) → Prop} {a : A} {b : B} {c : C} {d : D} {e : E} (h : Loop5 (fun d a b c e nx => body a b c d e fun a b c d e => nx d a b c e) d a b c e) : Loop5 body a b c d e := by
  obtain ⟨J, μ, h0, hs⟩ := h
  exact ⟨fun a b c d e => J d a b c e, fun a b c d e => μ d a b c e, h0, fun a b c d e hj => hs d a b c e hj⟩
theorem snoc_at {α : Type} {l : List α} {i : Nat} {d : α} {v : α} {p : Nat → α → Prop} (hl : l.length = i) (h : ∀ a, a < i → p a (l.getD a d)) (hv : p i v) : (l ++ [v]).length = i + 1 ∧ ∀ a, a < i + 1 → p a ((l ++ [v]).getD a d) := by
  refine ⟨by simp; omega, fun a ha => ?_⟩
  rw [getD_snoc hl]
  by_cases c : a < i
  · rw [if_pos c]; exact h a c
  · have : a = i := by omega
    subst this; rw [if_neg c, if_pos rfl]; exact hv
theorem snoc_eq {α : Type} {l : List α} {i : Nat} {d : α} {v : α} {f : Nat → α} (hl : l.length = i) (h : ∀ a, a < i → l.getD a d = f a) (hv : v = f i) : (l ++ [v]).length = i + 1 ∧ ∀ a, a < i + 1 → (l ++ [v]).getD a d = f a := snoc_at (p := fun a w => w = f a) hl h hv
theorem oNetwork_ok {x : List (List Int)} {b : Int} {n m : Nat} {Q : Transport → Prop} (g : Gr 10000 x n m) (n7 : n ≤ 7) (m7 : m ≤ 7) (hb : 2 ≤ b ∧ b ≤ 100) (h : ∀ t, Rn x b n m t → Q t) : spec_oNetwork x b Q := by
  unfold spec_oNetwork
  have hxl := g.sh.1
  refine oMargins_ok g fun rows cols T M => ?_
  have hT := g.tot
  rw [← M.t] at hT
  refine det1_of (cdn b T) (oDown_ok (v := T) hb (by omega) rfl) (det1_of (cdn b T) (oDown_ok (v := T) hb (by omega) rfl) ?_)
  have hD := cdn_bnd (v := T) hb.1 hT.1
  rw [wr_in (x := 0 - cdn b T) (by omega) (by omega)]
  have pR : ∀ i, i < n → 0 ≤ sm m (mt x i) ∧ sm m (mt x i) ≤ 80000 := fun i hi => g.row hi
  have bR : ∀ i, i ≤ n → 0 ≤ sm i (fun a => cup b (sm m (mt x a))) ∧ sm i (fun a => cup b (sm m (mt x a))) ≤ 80099 * (i : Int) := fun i hi => sm_bnd fun a ha => by have := pR a (by omega); have := cup_bnd (v := sm m (mt x a)) hb.1 this.1; omega
  have bC : ∀ j, j ≤ m → 0 ≤ sm j (fun c => cup b (sm n fun a => mt x a c)) ∧ sm j (fun c => cup b (sm n fun a => mt x a c)) ≤ 80099 * (j : Int) := fun j hj => sm_bnd fun c hc => by have := g.col (j := c) (by omega); have := cup_bnd (v := sm n fun a => mt x a c) hb.1 this.1; omega
  refine loop5_i2 (loop5_listF (xs := x) (by omega) (fun cs rs lo hi i => cs = sm i (fun a => cup b (sm m (mt x a))) - cdn b T ∧ (rs.length = i ∧ ∀ a, a < i → rs.getD a 0 = cup b (sm m (mt x a))) ∧ (lo.length = i ∧ ∀ a, a < i → (lo.getD a []).length = m + 1 ∧ ∀ c, c < m + 1 → (lo.getD a []).getD c 0 = nLo x b n m a c) ∧ (hi.length = i ∧ ∀ a, a < i → (hi.getD a []).length = m + 1 ∧ ∀ c, c < m + 1 → (hi.getD a []).getD c 0 = nHi x b n m a c))
    ⟨by show 0 - cdn b T = sm 0 _ - _; simp [sm], ⟨rfl, fun a ha => by omega⟩, ⟨rfl, fun a ha => by omega⟩, rfl, fun a ha => by omega⟩ (fun cs rs lo hi i nx hix ⟨e1, e2, e3, e4⟩ hn => ?_) (fun cs rs lo hi ⟨e1, e2, e3, e4⟩ => ?_))
  · have hi' : i < n := by omega
    have hrow := g.sh.2 i hi'
    have rI := pR i hi'
    have lr : ln rs ≤ 8 := by unfold ln; have := e2.1; omega
    have ll : ln lo ≤ 8 := by unfold ln; have := e3.1; omega
    have lh : ln hi ≤ 8 := by unfold ln; have := e4.1; omega
    have l1 : ∀ {α : Type} (v : α), ln [v] = 1 := fun v => rfl
    refine idx_gd (d := []) rfl hix ?_
    refine loop3_list (by omega) (fun l r j => (l.length = j ∧ ∀ c, c < j → l.getD c 0 = cdn b (mt x i c)) ∧ (r.length = j ∧ ∀ c, c < j → r.getD c 0 = cup b (mt x i c))) ⟨⟨rfl, fun c hc => by omega⟩, rfl, fun c hc => by omega⟩ (fun l r j nx2 hj ⟨k1, k2⟩ hn2 => ?_) (fun l r ⟨k1, k2⟩ => ?_)
    · have hj' : j < m := by omega
      have hbd := g.bd i j hi' hj'
      have s1 : ln l ≤ 8 := by unfold ln; have := k1.1; omega
      have s2 : ln r ≤ 8 := by unfold ln; have := k2.1; omega
      refine idx_gd (d := 0) rfl hj ?_
      show spec_oDown (mt x i j) b _
      refine oDown_ok hb (by omega) ⟨by rw [l1]; omega, oUp_ok hb (by show 0 ≤ mt x i j ∧ mt x i j ≤ _; omega) ⟨by rw [l1]; omega, hn2 _ _ ⟨snoc_eq k1.1 k1.2 rfl, snoc_eq k2.1 k2.2 rfl⟩⟩⟩
    · rw [hrow] at k1 k2
      have s1 : ln l ≤ 8 := by unfold ln; have := k1.1; omega
      have s2 : ln r ≤ 8 := by unfold ln; have := k2.1; omega
      have hr : rows.getD i 0 = sm m (mt x i) := M.rw i hi'
      refine idx_gd (d := 0) rfl (by rw [M.rl]; exact hi') ?_
      rw [hr]
      have c1 := cud (v := sm m (mt x i)) hb.1
      refine ⟨by rw [l1]; omega, by rw [l1]; omega, det1_of (cup b (sm m (mt x i))) (oUp_ok hb (by omega) rfl) (det1_of (cdn b (sm m (mt x i))) (oDown_ok hb (by omega) rfl) ?_)⟩
      rw [wr_in (x := cup b (sm m (mt x i)) - cdn b (sm m (mt x i))) (by omega) (by omega)]
      refine ⟨by rw [l1]; omega, by rw [l1]; omega, det1_of (cup b (sm m (mt x i))) (oUp_ok hb (by omega) rfl) ⟨by rw [l1]; omega, oUp_ok hb (by omega) ?_⟩⟩
      have bI := bR i (by omega)
      have bI1 := cup_bnd (v := sm m (mt x i)) hb.1 rI.1
      have e : wr (cs + cup b (sm m (mt x i))) = sm (i + 1) (fun a => cup b (sm m (mt x a))) - cdn b T := by
        rw [e1, wr_in (by omega) (by omega)]; show _ = sm i _ + cup b (sm m (mt x i)) - _; omega
      refine hn _ _ _ _ ⟨e, snoc_eq e2.1 e2.2 rfl, snoc_at (p := fun a w => w.length = m + 1 ∧ ∀ c, c < m + 1 → w.getD c 0 = nLo x b n m a c) e3.1 e3.2 ⟨by simp; exact k1.1, fun c hc => ?_⟩, snoc_at (p := fun a w => w.length = m + 1 ∧ ∀ c, c < m + 1 → w.getD c 0 = nHi x b n m a c) e4.1 e4.2 ⟨by simp; exact k2.1, fun c hc => ?_⟩⟩
      · rw [getD_snoc k1.1]; unfold nLo
        by_cases d : c < m
        · rw [if_pos d, if_pos ⟨hi', d⟩]; exact k1.2 c d
        · rw [if_neg d, if_pos (by omega), if_neg (by omega)]
      · rw [getD_snoc k2.1]; unfold nHi ud
        by_cases d : c < m
        · rw [if_pos d, if_pos hi', if_pos d]; exact k2.2 c d
        · rw [if_neg d, if_pos (by omega), if_pos hi', if_neg d]
  rw [hxl] at e1 e2 e3 e4
  have ll : ln lo ≤ 8 := by unfold ln; have := e3.1; omega
  have lh : ln hi ≤ 8 := by unfold ln; have := e4.1; omega
  have lr : ln rs ≤ 8 := by unfold ln; have := e2.1; omega
  have l1 : ∀ {α : Type} (v : α), ln [v] = 1 := fun v => rfl
  refine loop5_i4 (loop5_listF (xs := cols) (by rw [M.cl]; omega) (fun l r rw' cl j => (l.length = j ∧ ∀ c, c < j → l.getD c 0 = 0) ∧ (r.length = j ∧ ∀ c, c < j → r.getD c 0 = ud b (sm n fun a => mt x a c)) ∧ rw' = sm j (fun c => cup b (sm n fun a => mt x a c)) - cdn b T ∧ (cl.length = j ∧ ∀ c, c < j → cl.getD c 0 = cup b (sm n fun a => mt x a c)))
    ⟨⟨rfl, fun c hc => by omega⟩, ⟨rfl, fun c hc => by omega⟩, by show 0 - cdn b T = sm 0 _ - _; simp [sm], rfl, fun c hc => by omega⟩ (fun l r rw' cl j nx hj ⟨k1, k2, k3, k4⟩ hn => ?_) (fun l r rw' cl ⟨k1, k2, k3, k4⟩ => ?_))
  · have hj' : j < m := by rw [M.cl] at hj; exact hj
    have cI := g.col hj'
    have s1 : ln l ≤ 8 := by unfold ln; have := k1.1; omega
    have s2 : ln r ≤ 8 := by unfold ln; have := k2.1; omega
    have s4 : ln cl ≤ 8 := by unfold ln; have := k4.1; omega
    have hr : cols.getD j 0 = sm n (fun a => mt x a j) := M.cw j hj'
    refine idx_gd (d := 0) rfl hj ?_
    rw [hr]
    have c1 := cud (v := sm n fun a => mt x a j) hb.1
    refine ⟨by rw [l1]; omega, oUp_ok hb (by omega) (oDown_ok hb (by omega) ?_)⟩
    rw [wr_in (x := cup b (sm n fun a => mt x a j) - cdn b (sm n fun a => mt x a j)) (by omega) (by omega)]
    refine ⟨by rw [l1]; omega, det1_of (cup b (sm n fun a => mt x a j)) (oUp_ok hb (by omega) rfl) ⟨by rw [l1]; omega, oUp_ok hb (by omega) ?_⟩⟩
    have bI := bC j (by omega)
    have bI1 := cup_bnd (v := sm n fun a => mt x a j) hb.1 cI.1
    have e : wr (rw' + cup b (sm n fun a => mt x a j)) = sm (j + 1) (fun c => cup b (sm n fun a => mt x a c)) - cdn b T := by
      rw [k3, wr_in (by omega) (by omega)]; show _ = sm j _ + cup b (sm n fun a => mt x a j) - _; omega
    exact hn _ _ _ _ ⟨snoc_eq k1.1 k1.2 rfl, snoc_eq k2.1 k2.2 rfl, e, snoc_eq k4.1 k4.2 rfl⟩
  rw [M.cl] at k1 k2 k3 k4
  have s1 : ln l ≤ 8 := by unfold ln; have := k1.1; omega
  have s2 : ln r ≤ 8 := by unfold ln; have := k2.1; omega
  have s4 : ln cl ≤ 8 := by unfold ln; have := k4.1; omega
  have c1 := cud (v := T) hb.1
  refine ⟨by rw [l1]; omega, by rw [l1]; omega, det1_of (cup b T) (oUp_ok (v := T) hb (by omega) rfl) (det1_of (cdn b T) (oDown_ok (v := T) hb (by omega) rfl) ?_)⟩
  rw [wr_in (x := cup b T - cdn b T) (by omega) (by omega)]
  refine ⟨by rw [l1]; omega, by rw [l1]; omega, by rw [l1]; omega, by rw [l1]; omega, h _ ⟨by simp; exact e2.1, by simp; exact k4.1, fun i hi' => ?_, fun j hj => ?_, ⟨by simp; exact e3.1, fun i hi' => ?_⟩, ⟨by simp; exact e4.1, fun i hi' => ?_⟩, fun i j hi' hj => ?_, fun i j hi' hj => ?_⟩⟩
  · show (rs ++ [rw']).getD i 0 = _
    rw [getD_snoc e2.1]
    by_cases c : i < n
    · rw [if_pos c, if_pos c]; exact e2.2 i c
    · rw [if_neg c, if_neg c, if_pos (by omega), k3, M.t]
  · show (cl ++ [cs]).getD j 0 = _
    rw [getD_snoc k4.1]
    by_cases c : j < m
    · rw [if_pos c, if_pos c]; exact k4.2 j c
    · rw [if_neg c, if_neg c, if_pos (by omega), e1, M.t]
  · show ((lo ++ [l ++ [0]]).getD i []).length = _
    rw [getD_snoc e3.1]
    by_cases c : i < n
    · rw [if_pos c]; exact (e3.2 i c).1
    · rw [if_neg c, if_pos (by omega)]; simp; exact k1.1
  · show ((hi ++ [r ++ [cup b T - cdn b T]]).getD i []).length = _
    rw [getD_snoc e4.1]
    by_cases c : i < n
    · rw [if_pos c]; exact (e4.2 i c).1
    · rw [if_neg c, if_pos (by omega)]; simp; exact k2.1
  · show ((lo ++ [l ++ [0]]).getD i []).getD j 0 = _
    rw [getD_snoc e3.1]
    by_cases c : i < n
    · rw [if_pos c]; exact (e3.2 i c).2 j hj
    · rw [if_neg c, if_pos (by omega), getD_snoc k1.1]; unfold nLo
      rw [if_neg (show ¬ (i < n ∧ j < m) by omega)]
      by_cases d : j < m
      · rw [if_pos d]; exact k1.2 j d
      · rw [if_neg d, if_pos (by omega)]
  · show ((hi ++ [r ++ [cup b T - cdn b T]]).getD i []).getD j 0 = _
    rw [getD_snoc e4.1]
    by_cases c : i < n
    · rw [if_pos c]; exact (e4.2 i c).2 j hj
    · rw [if_neg c, if_pos (by omega), getD_snoc k2.1]; unfold nHi
      rw [if_neg c]
      by_cases d : j < m
      · rw [if_pos d, if_pos d]; exact k2.2 j d
      · rw [if_neg d, if_pos (by omega), if_neg d, ← M.t]; rfl
end Go.Proofs.Ytommbnkecafodaa
