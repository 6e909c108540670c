/- Two-way tables, patterns, and the network of an attack. -/
import Derived.Test.YtommbnkecafodaaFX
set_option linter.unusedVariables false
set_option autoImplicit false
namespace Go.Proofs.Ytommbnkecafodaa
open Go Go.RowKit Go.Gv

structure Gr (B : Int) (x : List (List Int)) (n m : Nat) : Prop where
  n1 : 1 ≤ n
  n8 : n ≤ 8
  m1 : 1 ≤ m
  m8 : m ≤ 8
  sh : Sh n m x
  bd : ∀ i j, i < n → j < m → 0 ≤ mt x i j ∧ mt x i j ≤ B
/-- The form of a table, told of the list itself. -/
abbrev Gx (B : Int) (x : List (List Int)) : Prop := Gr B x x.length (x.getD 0 []).length
theorem isGrid_ok {x : List (List Int)} {B : Int} {Q : Bool → Prop} (hs : small x) (h : ∀ b, (b = true ↔ Gx B x) → Q b) : impl_isGrid x B Q := by
  unfold impl_isGrid
  obtain ⟨s1, s2⟩ := hs
  have no : ¬ Gx B x → Q false := fun hn => h false ⟨(fun c => by cases c), fun c => (hn c).elim⟩
  by_cases c0 : 1 ≤ x.length ∧ x.length ≤ 8
  case neg =>
    refine jn_bool true (br_true rfl (no fun g => c0 ⟨g.n1, g.n8⟩)) fun k hk => br_dec (fun _ => hk) fun a => br_dec (fun _ => hk) fun b => ?_
    unfold ln at a b; omega
  by_cases c1 : 1 ≤ (x.getD 0 []).length ∧ (x.getD 0 []).length ≤ 8 ∧ Sh x.length (x.getD 0 []).length x
  case neg =>
    refine jn_bool true (br_true rfl (no fun g => c1 ⟨g.m1, g.m8, g.sh⟩)) fun k hk => br_dec (fun _ => hk) fun a => br_dec (fun _ => hk) fun b => idx_gd (i := 0) (d := []) rfl (by omega) (br_dec (fun _ => hk) fun a2 => idx_gd (i := 0) (d := []) rfl (by omega) (br_dec (fun _ => hk) fun b2 => idx_gd (i := 0) (d := []) rfl (by omega) (hasShape_ok s1 fun r hr => ?_)))
    have : r = false := by rw [Bool.eq_false_iff]; exact fun c2 => c1 ⟨by unfold ln at a2; omega, by unfold ln at b2; omega, hr.1 c2⟩
    rw [this]; exact hk
  obtain ⟨k1, k2, k3⟩ := c1
  refine jn_bool false (br_false rfl ?_) fun k hk => br_no (by unfold ln; omega) (br_no (by unfold ln; omega) (idx_gd (i := 0) (d := []) rfl (by omega) (br_no (by unfold ln; omega) (idx_gd (i := 0) (d := []) rfl (by omega) (br_no (by unfold ln; omega) (idx_gd (i := 0) (d := []) rfl (by omega) (hasShape_ok s1 fun r hr => by rw [hr.2 k3]; exact hk)))))))
  refine loop1_list (by omega) (fun i => ∀ a j, a < i → j < (x.getD 0 []).length → 0 ≤ mt x a j ∧ mt x a j ≤ B) (fun a j ha => by omega) (fun i nx hi hj hx => idx_gd (d := []) rfl hi ?_) (fun hj => h true ⟨fun _ => ⟨c0.1, c0.2, k1, k2, k3, fun i j hi hj' => hj i j hi hj'⟩, fun _ => rfl⟩)
  have hrow := k3.2 i hi
  refine loop1_list (by omega) (fun j => ∀ b, b < j → 0 ≤ mt x i b ∧ mt x i b ≤ B) (fun b hb => by omega) (fun j nx2 hj2 hj3 hx2 => idx_gd (d := 0) rfl hj2 ?_) (fun hj3 => hx fun a j ha hjj => ?_)
  · have eg : (x.getD i []).getD j 0 = mt x i j := rfl
    rw [eg]
    by_cases c : 0 ≤ mt x i j ∧ mt x i j ≤ B
    · refine jn_bool false (br_false rfl (hx2 fun b hb => ?_)) fun k hk => br_no (by omega) (by rw [decide_eq_false (by omega)]; exact hk)
      by_cases e : b = j
      · subst e; exact c
      · exact hj3 b (by omega)
    · refine jn_bool true (br_true rfl (no fun g => c (g.bd i j hi (by omega)))) fun k hk => br_dec (fun _ => hk) fun h1 => ?_
      rw [decide_eq_true (by omega)]; exact hk
  · by_cases e : a = i
    · subst e; exact hj3 j (by omega)
    · exact hj a j (by omega) hjj
theorem qForm_ok {x : List (List Int)} {B : Int} {Q : Bool → Prop} (hs : small x) (h : ∀ b, (b = true ↔ Gx B x) → Q b) : spec_qForm x B Q := by
  unfold spec_qForm
  obtain ⟨s1, s2⟩ := hs
  have no : ¬ Gx B x → Q false := fun hn => h false ⟨(fun c => by cases c), fun c => (hn c).elim⟩
  by_cases c0 : 1 ≤ x.length ∧ x.length ≤ 8
  case neg =>
    refine jn_bool true (br_true rfl (no fun g => c0 ⟨g.n1, g.n8⟩)) fun k hk => l1In_ok (br_true ?_ hk)
    have : (decide ((1 : Int) ≤ ln x) && decide (ln x ≤ 8)) = false := by
      rw [Bool.eq_false_iff, ne_eq, Bool.and_eq_true, decide_eq_true_iff, decide_eq_true_iff]; unfold ln; omega
    rw [this]; rfl
  have l0 : (decide ((1 : Int) ≤ ln x) && decide (ln x ≤ 8)) = true := by
    rw [Bool.and_eq_true, decide_eq_true_iff, decide_eq_true_iff]; unfold ln; omega
  by_cases c1 : 1 ≤ (x.getD 0 []).length ∧ (x.getD 0 []).length ≤ 8
  case neg =>
    refine jn_bool true (br_true rfl (no fun g => c1 ⟨g.m1, g.m8⟩)) fun k hk => l1In_ok (br_false (by rw [l0]; rfl) (idx_gd (i := 0) (d := []) rfl (by omega) (l1In_ok ?_)))
    have : (decide ((1 : Int) ≤ ln (x.getD 0 [])) && decide (ln (x.getD 0 []) ≤ 8)) = false := by
      rw [Bool.eq_false_iff, ne_eq, Bool.and_eq_true, decide_eq_true_iff, decide_eq_true_iff]; unfold ln; omega
    rw [this]; exact hk
  have l1 : (decide ((1 : Int) ≤ ln (x.getD 0 [])) && decide (ln (x.getD 0 []) ≤ 8)) = true := by
    rw [Bool.and_eq_true, decide_eq_true_iff, decide_eq_true_iff]; unfold ln; omega
  refine jn_bool false (br_false rfl ?_) fun k hk => l1In_ok (br_false (by rw [l0]; rfl) (idx_gd (i := 0) (d := []) rfl (by omega) (l1In_ok (by rw [l1]; exact hk))))
  refine loop1_list (by omega) (fun i => ∀ a, a < i → (x.getD a []).length = (x.getD 0 []).length ∧ ∀ j, j < (x.getD 0 []).length → 0 ≤ mt x a j ∧ mt x a j ≤ B) (fun a ha => by omega) (fun i nx hi hj hx => idx_gd (d := []) rfl hi ?_)
    (fun hj => h true ⟨fun _ => ⟨c0.1, c0.2, c1.1, c1.2, ⟨rfl, fun i hi => (hj i hi).1⟩, fun i j hi hj' => (hj i hi).2 j hj'⟩, fun _ => rfl⟩)
  by_cases c2 : (x.getD i []).length = (x.getD 0 []).length
  case neg => exact jn_bool true (br_true rfl (no fun g => c2 (g.sh.2 i hi))) fun k hk => idx_gd (i := 0) (d := []) rfl (by omega) (br_ne (fun _ => hk) fun e => (c2 (by unfold ln at e; omega)).elim)
  have ea : (x.getD i []).all (inb 0 B) = true ↔ ∀ j, j < (x.getD 0 []).length → 0 ≤ mt x i j ∧ mt x i j ≤ B := by
    rw [all_get, c2]
    exact ⟨fun k j hj => inb_iff'.1 (k j hj), fun k j hj => inb_iff'.2 (k j hj)⟩
  by_cases c3 : (x.getD i []).all (inb 0 B) = true
  · refine jn_bool false (br_false rfl (hx fun a ha => ?_)) fun k hk => idx_gd (i := 0) (d := []) rfl (by omega) (br_ne (fun e => (e (by unfold ln; omega)).elim) fun _ => l1All_ok (by omega) (by rw [c3]; exact hk))
    by_cases e : a = i
    · subst e; exact ⟨c2, ea.1 c3⟩
    · exact hj a (by omega)
  · refine jn_bool true (br_true rfl (no fun g => c3 (ea.2 fun j hj => g.bd i j hi hj))) fun k hk => idx_gd (i := 0) (d := []) rfl (by omega) (br_ne (fun _ => hk) fun _ => l1All_ok (by omega) (by rw [Bool.eq_false_iff.2 c3]; exact hk))
/-- A table and a pattern for it. -/
def Sp (x p : List (List Int)) : Prop := Gx 1000 x ∧ Gx 1 p ∧ p.length = x.length ∧ (p.getD 0 []).length = (x.getD 0 []).length
theorem areSuppressed_ok {x p : List (List Int)} {Q : Bool → Prop} (hx : small x) (hp : small p) (h : ∀ b, (b = true ↔ Sp x p) → Q b) : impl_areSuppressed x p Q := by
  unfold impl_areSuppressed impl_IsTwoWay impl_isPattern
  by_cases c : Sp x p
  · obtain ⟨c1, c2, c3, c4⟩ := c
    refine jn_bool true (h true ⟨fun _ => ⟨c1, c2, c3, c4⟩, fun _ => rfl⟩) fun k hk => isGrid_ok hx fun b hb => br_true (hb.2 c1) (jn_bool true hk fun k2 hk2 => isGrid_ok hp fun b2 hb2 => br_true (hb2.2 c2) (idx_gd (i := 0) (d := []) rfl (by have := c1.n1; omega) (hasShape_ok hp.1 fun b3 hb3 => ?_)))
    have := c2.sh
    rw [c3, c4] at this
    rw [hb3.2 this]; exact hk2
  · refine jn_bool false (h false ⟨(fun c => by cases c), fun d => (c d).elim⟩) fun k hk => isGrid_ok hx fun b hb => br_bo (fun e1 => jn_bool false hk fun k2 hk2 => isGrid_ok hp fun b2 hb2 => br_bo (fun e2 => ?_) (fun _ => hk2)) (fun _ => hk)
    have c1 := hb.1 e1; have c2 := hb2.1 e2
    refine idx_gd (i := 0) (d := []) rfl (by have := c1.n1; omega) (hasShape_ok hp.1 fun b3 hb3 => ?_)
    have : b3 = false := by
      rw [Bool.eq_false_iff]
      intro e3
      have s := hb3.1 e3
      exact c ⟨c1, c2, s.1, s.2 0 (by have := c1.n1; omega)⟩
    rw [this]; exact hk2
theorem qPattern_ok {x p : List (List Int)} {Q : Bool → Prop} (hx : small x) (hp : small p) (h : ∀ b, (b = true ↔ Sp x p) → Q b) : spec_qPattern x p Q := by
  unfold spec_qPattern spec_qTable
  by_cases g1 : Gx 1000 x
  case neg => exact jn_bool false (h false ⟨(fun c => by cases c), fun d => (g1 d.1).elim⟩) fun k hk => det1_of false (qForm_ok hx fun b hb => Bool.eq_false_iff.2 fun e => g1 (hb.1 e)) (br_false rfl hk)
  by_cases g2 : Gx 1 p
  case neg => exact jn_bool false (h false ⟨(fun c => by cases c), fun d => (g2 d.2.1).elim⟩) fun k hk => det1_of true (qForm_ok hx fun b hb => hb.2 g1) (br_true rfl (det1_of false (qForm_ok hp fun b hb => Bool.eq_false_iff.2 fun e => g2 (hb.1 e)) (br_false rfl hk)))
  have n1 := g1.n1; have n2 := g2.n1
  by_cases c : Sp x p
  · refine jn_bool true (h true ⟨fun _ => c, fun _ => rfl⟩) fun k hk => det1_of true (qForm_ok hx fun b hb => hb.2 g1) (br_true rfl (det1_of true (qForm_ok hp fun b hb => hb.2 g2) (br_true rfl (br_eq (fun _ => idx_gd (i := 0) (d := []) rfl (by omega) (idx_gd (i := 0) (d := []) rfl (by omega) ?_)) (fun e => (e (by unfold ln; rw [c.2.2.1])).elim)))))
    have : (ln (p.getD 0 []) == ln (x.getD 0 [])) = true := by unfold ln; rw [c.2.2.2]; simp
    rw [this]; exact hk
  · refine jn_bool false (h false ⟨(fun c => by cases c), fun d => (c d).elim⟩) fun k hk => det1_of true (qForm_ok hx fun b hb => hb.2 g1) (br_true rfl (det1_of true (qForm_ok hp fun b hb => hb.2 g2) (br_true rfl (br_eq (fun e => idx_gd (i := 0) (d := []) rfl (by omega) (idx_gd (i := 0) (d := []) rfl (by omega) ?_)) (fun _ => hk)))))
    have : (ln (p.getD 0 []) == ln (x.getD 0 [])) = false := by
      rw [Bool.eq_false_iff]; intro e2
      have e3 : ln (p.getD 0 []) = ln (x.getD 0 []) := eq_of_beq e2
      unfold ln at e e3
      exact c ⟨g1, g2, by omega, by omega⟩
    rw [this]; exact hk
/-- The network of an attack. -/
structure Nt (x p : List (List Int)) (n m : Nat) (t : Transport) : Prop where
  rl : t.Rows.length = n
  cl : t.Cols.length = m
  rw : ∀ i, i < n → t.Rows.getD i 0 = sm m (mt x i)
  cw : ∀ j, j < m → t.Cols.getD j 0 = sm n (fun i => mt x i j)
  ls : Sh n m t.Lo
  hs : Sh n m t.Hi
  lo : ∀ i j, i < n → j < m → mt t.Lo i j = if mt p i j = 1 then 0 else mt x i j
  hi : ∀ i j, i < n → j < m → mt t.Hi i j = if mt p i j = 1 then 100000 else mt x i j
theorem Nt.uniq {x p : List (List Int)} {n m : Nat} {t u : Transport} (a : Nt x p n m t) (b : Nt x p n m u) : t = u := by
  have e1 : t.Rows = u.Rows := list_eq a.rl b.rl fun i hi => by rw [a.rw i hi, b.rw i hi]
  have e2 : t.Cols = u.Cols := list_eq a.cl b.cl fun i hi => by rw [a.cw i hi, b.cw i hi]
  have e3 : t.Lo = u.Lo := mt_ext a.ls b.ls fun i j hi hj => by rw [a.lo i j hi hj, b.lo i j hi hj]
  have e4 : t.Hi = u.Hi := mt_ext a.hs b.hs fun i j hi hj => by rw [a.hi i j hi hj, b.hi i j hi hj]
  cases t; cases u; simp_all
theorem Nt.gd {x p : List (List Int)} {n m : Nat} {t : Transport} (a : Nt x p n m t) (g : Gr 1000 x n m) : Gd t n m := by
  have n8 := g.n8; have m8 := g.m8
  refine ⟨a.rl, a.cl, g.n1, g.n8, g.m1, g.m8, fun i hi => ?_, fun j hj => ?_, a.ls, a.hs, fun i j hi hj => ?_⟩
  · rw [a.rw i hi]; have := sm_bnd (n := m) (f := mt x i) (B := 1000) (fun j hj => g.bd i j hi hj); omega
  · rw [a.cw j hj]; have := sm_bnd (n := n) (f := fun i => mt x i j) (B := 1000) (fun i hi => g.bd i j hi hj); omega
  · rw [a.lo i j hi hj, a.hi i j hi hj]; have := g.bd i j hi hj; split <;> omega
theorem Gr.bnd {B : Int} {x : List (List Int)} {n m : Nat} (g : Gr B x n m) (hB : B ≤ 1000000000) : bnd n m x := fun i j hi hj => by have := g.bd i j hi hj; omega
theorem attack_ok {x p : List (List Int)} {n m : Nat} {Q : Transport → Prop} (g : Gr 1000 x n m) (hp : Sh n m p) (h : ∀ t, Nt x p n m t → Q t) : impl_attackNetwork x p Q := by
  unfold impl_attackNetwork
  have n8 := g.n8; have m8 := g.m8; have n1 := g.n1; have hxl := g.sh.1
  refine rowSums_ok g.sh (by omega) (by omega) (g.bnd (by omega)) fun s1 sl1 se1 => colSums_ok g.sh n1 (by omega) (by omega) (g.bnd (by omega)) fun s2 sl2 se2 => ?_
  have sx := g.sh.small (show n ≤ 1048576 by omega) (show m ≤ 1048576 by omega)
  refine copyMatrix_ok sx (by omega) (copyMatrix_ok sx (by omega) ?_)
  have hpl := hp.1
  let A : Nat → Nat → Int := fun i j => if mt p i j = 1 then 0 else mt x i j
  let B : Nat → Nat → Int := fun i j => if mt p i j = 1 then 100000 else mt x i j
  refine loop3_listF (xs := p) (by omega) (fun lo hi i => Sh n m lo ∧ Sh n m hi ∧ ∀ a b, a < n → b < m → mt lo a b = (if a < i then A a b else mt x a b) ∧ mt hi a b = if a < i then B a b else mt x a b) ⟨g.sh, g.sh, fun a b _ _ => ⟨by rw [if_neg (by omega)], by rw [if_neg (by omega)]⟩⟩ (fun lo hi i nx hip ⟨h1, h2, h3⟩ hn => ?_)
    (fun lo hi ⟨h1, h2, h3⟩ => h _ ⟨sl1, sl2, se1, se2, h1, h2, fun i j hi hj => by show mt lo i j = _; rw [(h3 i j hi hj).1, if_pos (by omega)], fun i j hi' hj => by show mt hi i j = _; rw [(h3 i j hi' hj).2, if_pos (by omega)]⟩)
  have hi' : i < n := by omega
  have hrow := hp.2 i hi'
  refine idx_gd (d := []) rfl hip ?_
  refine loop3_listF (by omega) (fun lo hi j => Sh n m lo ∧ Sh n m hi ∧ ∀ a b, a < n → b < m → mt lo a b = (if a < i ∨ (a = i ∧ b < j) then A a b else mt x a b) ∧ mt hi a b = if a < i ∨ (a = i ∧ b < j) then B a b else mt x a b) ⟨h1, h2, fun a b ha hb => ⟨((h3 a b ha hb).1).trans (ite_iff (by omega)), ((h3 a b ha hb).2).trans (ite_iff (by omega))⟩⟩ (fun lo hi j nx2 hj ⟨k1, k2, k3⟩ hn2 => ?_)
    (fun lo hi ⟨k1, k2, k3⟩ => hn _ _ ⟨k1, k2, fun a b ha hb => ⟨((k3 a b ha hb).1).trans (ite_iff (by omega)), ((k3 a b ha hb).2).trans (ite_iff (by omega))⟩⟩)
  have hj' : j < m := by omega
  by_cases c : mt p i j = 1
  · refine jn_of (idx_gd (d := 0) rfl hj ?_)
    refine br_eq (fun _ => idx_gd (d := []) rfl (by rw [k1.1]; exact hi') (idx_gd (d := []) rfl (by rw [k2.1]; exact hi') ⟨by omega, by rw [Int.toNat_natCast, k1.2 i hi']; exact hj', by omega, by rw [Int.toNat_natCast, k2.2 i hi']; exact hj', ?_⟩)) (fun e => (e c).elim)
    rw [Int.toNat_natCast, Int.toNat_natCast]
    refine hn2 (mst lo i j 0) (mst hi i j 100000) ⟨mst_sh k1 hi', mst_sh k2 hi', fun a b ha hb => ?_⟩
    rw [mst_mt k1 hi' hj', mst_mt k2 hi' hj', (k3 a b ha hb).1, (k3 a b ha hb).2]
    by_cases e : a = i ∧ b = j
    · obtain ⟨rfl, rfl⟩ := e
      rw [if_pos (show a = a ∧ b = b from ⟨rfl, rfl⟩), if_pos (show a = a ∧ b = b from ⟨rfl, rfl⟩), if_pos (show a < a ∨ a = a ∧ b < b + 1 by omega), if_pos (show a < a ∨ a = a ∧ b < b + 1 by omega)]
      exact ⟨(if_pos c).symm, (if_pos c).symm⟩
    · rw [if_neg e, if_neg e]; exact ⟨ite_iff (by omega), ite_iff (by omega)⟩
  · refine jn_of (idx_gd (d := 0) rfl hj ?_)
    refine br_eq (fun e => (c e).elim) (fun _ => hn2 lo hi ⟨k1, k2, fun a b ha hb => ?_⟩)
    rw [(k3 a b ha hb).1, (k3 a b ha hb).2]
    by_cases e : a = i ∧ b = j
    · obtain ⟨rfl, rfl⟩ := e
      rw [if_neg (show ¬ (a < a ∨ a = a ∧ b < b) by omega), if_neg (show ¬ (a < a ∨ a = a ∧ b < b) by omega), if_pos (show a < a ∨ a = a ∧ b < b + 1 by omega), if_pos (show a < a ∨ a = a ∧ b < b + 1 by omega)]
      exact ⟨(if_neg c).symm, (if_neg c).symm⟩
    · exact ⟨ite_iff (by omega), ite_iff (by omega)⟩
/-- An element put behind a list. -/
theorem getD_snoc {α : Type} {l : List α} {i k : Nat} {d v : α} (h : l.length = i) : (l ++ [v]).getD k d = if k < i then l.getD k d else if k = i then v else d := by
  rw [List.getD_eq_getElem?_getD, List.getElem?_append, h]
  by_cases c : k < i
  · rw [if_pos c, if_pos c, ← List.getD_eq_getElem?_getD]
  · rw [if_neg c, if_neg c]
    by_cases e : k = i
    · subst e; rw [if_pos rfl, Nat.sub_self]; rfl
    · rw [if_neg e, List.getElem?_eq_none (by simp; omega)]; rfl
theorem qNetwork_ok {x p : List (List Int)} {n m : Nat} {Q : Transport → Prop} (g : Gr 1000 x n m) (hp : Sh n m p) (h : ∀ t, Nt x p n m t → Q t) : spec_qNetwork x p Q := by
  unfold spec_qNetwork
  have n8 := g.n8; have m8 := g.m8; have n1 := g.n1; have hxl := g.sh.1
  have rl : ∀ i, i < n → lim (x.getD i []) ∧ ls (x.getD i []) = sm m (mt x i) := fun i hi => by
    have hl := g.sh.2 i hi
    refine ⟨⟨by omega, fun j hj => ?_⟩, by unfold ls; rw [hl]; rfl⟩
    have := g.bd i j hi (by omega)
    show 0 ≤ mt x i j ∧ mt x i j ≤ 1000000000; omega
  let A : Nat → Nat → Int := fun i j => if mt p i j = 1 then 0 else mt x i j
  let B : Nat → Nat → Int := fun i j => if mt p i j = 1 then 100000 else mt x i j
  refine loop4_listF (xs := x) (by omega) (fun rows lo hi i => (rows.length = i ∧ lo.length = i ∧ hi.length = i) ∧ ∀ a, a < i → rows.getD a 0 = sm m (mt x a) ∧ (lo.getD a []).length = m ∧ (hi.getD a []).length = m ∧ ∀ b, b < m → mt lo a b = A a b ∧ mt hi a b = B a b) ⟨⟨rfl, rfl, rfl⟩, fun a ha => by omega⟩ (fun rows lo hi i nx hix ⟨⟨h1, h2, h3⟩, h4⟩ hn => ?_) (fun rows lo hi ⟨⟨h1, h2, h3⟩, h4⟩ => ?_)
  · have hi' : i < n := by omega
    have hrow := g.sh.2 i hi'
    obtain ⟨l1, l2⟩ := rl i hi'
    refine idx_gd (d := []) rfl hix (det1_of (sm m (mt x i)) (tSum_ok l1 (by rw [l2])) ⟨by unfold ln; simp; omega, ?_⟩)
    refine loop3_list (by omega) (fun lr hr j => lr.length = j ∧ hr.length = j ∧ ∀ b, b < j → lr.getD b 0 = A i b ∧ hr.getD b 0 = B i b) ⟨rfl, rfl, fun b hb => by omega⟩ (fun lr hr j nx2 hj ⟨k1, k2, k3⟩ hn2 => ?_) (fun lr hr ⟨k1, k2, k3⟩ => ⟨by unfold ln; simp; omega, by unfold ln; simp; omega, hn _ _ _ ⟨⟨by simp; omega, by simp; omega, by simp; omega⟩, fun a ha => ?_⟩⟩)
    · have hj' : j < m := by omega
      have fin : ∀ u v : Int, u = A i j → v = B i j → (lr ++ [u]).length = j + 1 ∧ (hr ++ [v]).length = j + 1 ∧ ∀ b, b < j + 1 → (lr ++ [u]).getD b 0 = A i b ∧ (hr ++ [v]).getD b 0 = B i b := fun u v e1 e2 => by
        refine ⟨by simp; omega, by simp; omega, fun b hb => ?_⟩
        rw [getD_snoc k1, getD_snoc k2]
        by_cases c : b < j
        · rw [if_pos c, if_pos c]; exact k3 b c
        · have : b = j := by omega
          subst this
          rw [if_neg c, if_pos rfl, if_neg c, if_pos rfl]; exact ⟨e1, e2⟩
      refine jn_of (idx_gd (d := 0) rfl hj (idx_mt hp rfl rfl hi' hj' (br_eq (fun c => ⟨by unfold ln; simp; omega, by unfold ln; simp; omega, hn2 _ _ (fin _ _ (if_pos c).symm (if_pos c).symm)⟩) (fun c => ⟨by unfold ln; simp; omega, by unfold ln; simp; omega, hn2 _ _ (fin _ _ (if_neg c).symm (if_neg c).symm)⟩))))
    · unfold mt
      rw [getD_snoc h1, getD_snoc h2, getD_snoc h3]
      by_cases c : a < i
      · rw [if_pos c, if_pos c, if_pos c]; exact h4 a c
      · have : a = i := by omega
        subst this
        rw [if_neg c, if_pos rfl, if_neg c, if_pos rfl, if_neg c, if_pos rfl]
        exact ⟨rfl, by omega, by omega, fun b hb => k3 b (by omega)⟩
  have h0 := g.sh.2 0 (by omega)
  refine idx_gd (i := 0) (d := []) rfl (by omega) ?_
  refine loop2_listF (by omega) (fun cols j => cols.length = j ∧ ∀ b, b < j → cols.getD b 0 = sm n (fun i => mt x i b)) ⟨rfl, fun b hb => by omega⟩ (fun cols j nx hj ⟨k1, k2⟩ hn => ?_) (fun cols ⟨k1, k2⟩ => ?_)
  · have hj' : j < m := by omega
    refine tColumn_ok g.sh (by omega) hj' fun s sl se => det1_of (sm n (fun i => mt x i j)) (tSum_ok ⟨by omega, fun i hi => by rw [se i (by omega)]; have := g.bd i j (by omega) hj'; omega⟩ ?_) ⟨by unfold ln; simp; omega, hn _ ⟨by simp; omega, fun b hb => ?_⟩⟩
    · unfold ls; rw [sl]; exact sm_congr fun i hi => se i hi
    · rw [getD_snoc k1]
      by_cases c : b < j
      · rw [if_pos c]; exact k2 b c
      · have : b = j := by omega
        subst this; rw [if_neg c, if_pos rfl]
  · rw [hxl] at h1 h2 h3 h4
    rw [h0] at k1 k2
    exact h _ ⟨h1, k1, fun i hi => (h4 i hi).1, k2, ⟨h2, fun i hi => (h4 i hi).2.1⟩, ⟨h3, fun i hi => (h4 i hi).2.2.1⟩, fun i j hi hj => ((h4 i hi).2.2.2 j hj).1, fun i j hi hj => ((h4 i hi).2.2.2 j hj).2⟩
theorem Gd.smallT {t : Transport} {n m : Nat} (g : Gd t n m) : smallT t := by
  have n8 := g.n8; have m8 := g.m8
  exact ⟨by rw [g.rl]; omega, by rw [g.cl]; omega, g.lo.small (by omega) (by omega), g.hi.small (by omega) (by omega)⟩
end Go.Proofs.Ytommbnkecafodaa
