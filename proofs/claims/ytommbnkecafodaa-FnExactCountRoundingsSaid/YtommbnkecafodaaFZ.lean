/- Two-way tables, patterns, and the network of an attack. -/
import Derived.Test.YtommbnkecafodaaFX
set_option linter.unusedVariables false
set_option autoImplicit false
namespace Go.Proofs.Ytommbnkecafodaa
open Go Go.RowKit Go.Gv

structure Gr (B : Int) (x : List (List Int)) (n m : Nat) : Prop where
  n1 : 1 ≤ n
  n8 : n ≤ 8
  m1 : 1 ≤ m
  m8 : m ≤ 8
  sh : Sh n m x
  bd : ∀ i j, i < n → j < m → 0 ≤ mt x i j ∧ mt x i j ≤ B
/-- The form of a table, told of the list itself. -/
abbrev Gx (B : Int) (x : List (List Int)) : Prop := Gr B x x.length (x.getD 0 []).length
/-- A table and a pattern for it. -/
def Sp (x p : List (List Int)) : Prop := Gx 1000 x ∧ Gx 1 p ∧ p.length = x.length ∧ (p.getD 0 []).length = (x.getD 0 []).length
/-- The network of an attack. -/
structure Nt (x p : List (List Int)) (n m : Nat) (t : Transport) : Prop where
  rl : t.Rows.length = n
  cl : t.Cols.length = m
  rw : ∀ i, i < n → t.Rows.getD i 0 = sm m (mt x i)
  cw : ∀ j, j < m → t.Cols.getD j 0 = sm n (fun i => mt x i j)
  ls : Sh n m t.Lo
  hs : Sh n m t.Hi
  lo : ∀ i j, i < n → j < m → mt t.Lo i j = if mt p i j = 1 then 0 else mt x i j
  hi : ∀ i j, i < n → j < m → mt t.Hi i j = if mt p i j = 1 then 100000 else mt x i j
theorem Nt.uniq {x p : List (List Int)} {n m : Nat} {t u : Transport} (a : Nt x p n m t) (b : Nt x p n m u) : t = u := by
  have e1 : t.Rows = u.Rows := list_eq a.rl b.rl fun i hi => by rw [a.rw i hi, b.rw i hi]
  have e2 : t.Cols = u.Cols := list_eq a.cl b.cl fun i hi => by rw [a.cw i hi, b.cw i hi]
  have e3 : t.Lo = u.Lo := mt_ext a.ls b.ls fun i j hi hj => by rw [a.lo i j hi hj, b.lo i j hi hj]
  have e4 : t.Hi = u.Hi := mt_ext a.hs b.hs fun i j hi hj => by rw [a.hi i j hi hj, b.hi i j hi hj]
  cases t; cases u; simp_all
theorem Nt.gd {x p : List (List Int)} {n m : Nat} {t : Transport} (a : Nt x p n m t) (g : Gr 1000 x n m) : Gd t n m := by
  have n8 := g.n8; have m8 := g.m8
  refine ⟨a.rl, a.cl, g.n1, g.n8, g.m1, g.m8, fun i hi => ?_, fun j hj => ?_, a.ls, a.hs, fun i j hi hj => ?_⟩
  · rw [a.rw i hi]; have := sm_bnd (n := m) (f := mt x i) (B := 1000) (fun j hj => g.bd i j hi hj); omega
  · rw [a.cw j hj]; have := sm_bnd (n := n) (f := fun i => mt x i j) (B := 1000) (fun i hi => g.bd i j hi hj); omega
  · rw [a.lo i j hi hj, a.hi i j hi hj]; have := g.bd i j hi hj; split <;> omega
theorem Gr.bnd {B : Int} {x : List (List Int)} {n m : Nat} (g : Gr B x n m) (hB : B ≤ 1000000000) : bnd n m x := fun i j hi hj => by have := g.bd i j hi hj; omega
/-- An element put behind a list. -/
theorem getD_snoc {α : Type} {l : List α} {i k : Nat} {d v : α} (h : l.length = i) : (l ++ [v]).getD k d = if k < i then l.getD k d else if k = i then v else d := by
  rw [List.getD_eq_getElem?_getD, List.getElem?_append, h]
  by_cases c : k < i
  · rw [if_pos c, if_pos c, ← List.getD_eq_getElem?_getD]
  · rw [if_neg c, if_neg c]
    by_cases e : k = i
    · subst e; rw [if_pos rfl, Nat.sub_self]; rfl
    · rw [if_neg e, List.getElem?_eq_none (by simp; omega)]; rfl
theorem Gd.smallT {t : Transport} {n m : Nat} (g : Gd t n m) : smallT t := by
  have n8 := g.n8; have m8 := g.m8
  exact ⟨by rw [g.rl]; omega, by rw [g.cl]; omega, g.lo.small (by omega) (by omega), g.hi.small (by omega) (by omega)⟩
end Go.Proofs.Ytommbnkecafodaa
