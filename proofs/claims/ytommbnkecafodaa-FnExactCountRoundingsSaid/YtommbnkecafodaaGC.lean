/- The network of roundings of the program. -/
import Derived.Test.YtommbnkecafodaaGB
set_option linter.unusedVariables false
set_option autoImplicit false
namespace Go.Proofs.Ytommbnkecafodaa
open Go Go.RowKit Go.Gv

theorem row_mt {y : List (List Int)} {i j : Nat} {v : Int} : y.set i ((y.getD i []).set j v) = mst y i j v := rfl
theorem getD_rep {k j : Nat} : (List.replicate k (0 : Int)).getD j 0 = 0 := by
  rw [List.getD_eq_getElem?_getD, List.getElem?_replicate]; split <;> rfl
theorem ls_set_last {l : List Int} {n : Nat} {f : Nat → Int} (hl : l.length = n + 1) (h : ∀ a, a < n → l.getD a 0 = f a) (h0 : l.getD n 0 = 0) : ls l = sm n f := by
  unfold ls; rw [hl]
  show sm n _ + l.getD n 0 = _
  rw [h0, sm_congr h]; omega
theorem rNet_ok {x : List (List Int)} {b : Int} {n m : Nat} {Q : Transport → Prop} (g : Gr 10000 x n m) (n7 : n ≤ 7) (m7 : m ≤ 7) (hb : 2 ≤ b ∧ b ≤ 100) (h : ∀ t, Rn x b n m t → Q t) : impl_roundingNetwork x b Q := by
  unfold impl_roundingNetwork
  have hxl := g.sh.1; have n1 := g.n1; have m1 := g.m1
  have h0 := g.sh.2 0 (by omega)
  refine idx_gd (i := 0) (d := []) rfl (by omega) ?_
  have en : wr (ln x + 1) = ((n + 1 : Nat) : Int) := by unfold ln; rw [hxl]; exact wr_in (by omega) (by omega)
  have em : wr (ln (x.getD 0 []) + 1) = ((m + 1 : Nat) : Int) := by unfold ln; rw [h0]; exact wr_in (by omega) (by omega)
  have lx : ln x = (n : Int) := by unfold ln; rw [hxl]
  have lm : ln (x.getD 0 []) = (m : Int) := by unfold ln; rw [h0]
  rw [en, em]
  refine ⟨by omega, by omega, by omega, by omega, by omega, by omega, by omega, by omega, ?_⟩
  rw [Int.toNat_natCast, Int.toNat_natCast]
  refine loop3_listF (xs := List.replicate (n + 1) ([] : List Int)) (by rw [List.length_replicate]; omega) (fun lo hi i => (lo.length = n + 1 ∧ ∀ k, k < i → lo.getD k [] = List.replicate (m + 1) 0) ∧ (hi.length = n + 1 ∧ ∀ k, k < i → hi.getD k [] = List.replicate (m + 1) 0))
    ⟨⟨by rw [List.length_replicate], fun k hk => by omega⟩, by rw [List.length_replicate], fun k hk => by omega⟩ (fun lo hi i nx hi' ⟨⟨h1, h2⟩, h3, h4⟩ hn => ?_) (fun lo hi ⟨⟨h1, h2⟩, h3, h4⟩ => ?_)
  · rw [List.length_replicate] at hi'
    have key : nx (wr ((i : Int) + 1)) (lo.set (Int.toNat (i : Int)) (List.replicate (m + 1) 0)) (hi.set (Int.toNat (i : Int)) (List.replicate (m + 1) 0)) := by
      rw [Int.toNat_natCast]
      refine hn _ _ ⟨⟨by rw [List.length_set]; exact h1, fun k hk => ?_⟩, by rw [List.length_set]; exact h3, fun k hk => ?_⟩
      · rw [getD_set (by omega)]; split
        · rfl
        · exact h2 k (by omega)
      · rw [getD_set (by omega)]; split
        · rfl
        · exact h4 k (by omega)
    have c1 : (0 : Int) ≤ ((m + 1 : Nat) : Int) := by omega
    have c2 : (8 : Int) * ((m + 1 : Nat) : Int) ≤ 140737488355328 := by omega
    have c3 : (0 : Int) ≤ (i : Int) := by omega
    have c4 : Int.toNat (i : Int) < lo.length := by omega
    have c5 : Int.toNat (i : Int) < hi.length := by omega
    and_intros <;> with_reducible assumption
  rw [List.length_replicate] at h2 h4
  have z1 : Sh (n + 1) (m + 1) lo ∧ ∀ a c, a < n + 1 → c < m + 1 → mt lo a c = 0 := ⟨⟨h1, fun i hi => by rw [h2 i hi]; simp⟩, fun a c ha hc => by unfold mt; rw [h2 a ha]; exact getD_rep⟩
  have z2 : Sh (n + 1) (m + 1) hi ∧ ∀ a c, a < n + 1 → c < m + 1 → mt hi a c = 0 := ⟨⟨h3, fun i hi => by rw [h4 i hi]; simp⟩, fun a c ha hc => by unfold mt; rw [h4 a ha]; exact getD_rep⟩
  clear h2 h4
  refine loop3_listF (xs := x) (by omega) (fun lo hi i => (Sh (n + 1) (m + 1) lo ∧ ∀ a c, a < n + 1 → c < m + 1 → mt lo a c = if a < i ∧ c < m then cdn b (mt x a c) else 0) ∧ (Sh (n + 1) (m + 1) hi ∧ ∀ a c, a < n + 1 → c < m + 1 → mt hi a c = if a < i ∧ c < m then cup b (mt x a c) else 0))
    ⟨⟨z1.1, fun a c ha hc => by rw [z1.2 a c ha hc, if_neg (by omega)]⟩, z2.1, fun a c ha hc => by rw [z2.2 a c ha hc, if_neg (by omega)]⟩ (fun lo hi i nx hix ⟨⟨p1, p2⟩, p3, p4⟩ hn => ?_) (fun lo hi ⟨⟨p1, p2⟩, p3, p4⟩ => ?_)
  · have hi' : i < n := by omega
    have hrow := g.sh.2 i hi'
    refine idx_gd (d := []) rfl hix ?_
    refine loop3_listF (by omega) (fun lo hi j => (Sh (n + 1) (m + 1) lo ∧ ∀ a c, a < n + 1 → c < m + 1 → mt lo a c = if (a < i ∧ c < m) ∨ (a = i ∧ c < j) then cdn b (mt x a c) else 0) ∧ (Sh (n + 1) (m + 1) hi ∧ ∀ a c, a < n + 1 → c < m + 1 → mt hi a c = if (a < i ∧ c < m) ∨ (a = i ∧ c < j) then cup b (mt x a c) else 0))
      ⟨⟨p1, fun a c ha hc => (p2 a c ha hc).trans (ite_iff (by omega))⟩, p3, fun a c ha hc => (p4 a c ha hc).trans (ite_iff (by omega))⟩ (fun lo hi j nx2 hj ⟨⟨k1, k2⟩, k3, k4⟩ hn2 => ?_) (fun lo hi ⟨⟨k1, k2⟩, k3, k4⟩ => ?_)
    · have hj' : j < m := by omega
      have hbd := g.bd i j hi' hj'
      refine idx_gd (d := 0) rfl hj (idx_gd (i := i) (d := []) rfl (by rw [k1.1]; omega) (idx_gd (i := i) (d := []) rfl (by rw [k3.1]; omega) ?_))
      show impl_roundingNetwork_1 (mt x i j) b _
      refine rDown_ok hb (by omega) (rUp_ok (v := mt x i j) hb (by omega) ⟨by omega, by rw [Int.toNat_natCast, k1.2 i (by omega)]; omega, by omega, by rw [Int.toNat_natCast, k3.2 i (by omega)]; omega, ?_⟩)
      rw [Int.toNat_natCast, Int.toNat_natCast, row_mt, row_mt]
      refine hn2 _ _ ⟨⟨mst_sh k1 (by omega), fun a c ha hc => ?_⟩, mst_sh k3 (by omega), fun a c ha hc => ?_⟩
      · rw [mst_mt k1 (by omega) (by omega), k2 a c ha hc]
        by_cases e : a = i ∧ c = j
        · obtain ⟨rfl, rfl⟩ := e
          rw [if_pos ⟨rfl, rfl⟩, if_pos (by omega)]
        · rw [if_neg e]; exact ite_iff (by omega)
      · rw [mst_mt k3 (by omega) (by omega), k4 a c ha hc]
        by_cases e : a = i ∧ c = j
        · obtain ⟨rfl, rfl⟩ := e
          rw [if_pos ⟨rfl, rfl⟩, if_pos (by omega)]
        · rw [if_neg e]; exact ite_iff (by omega)
    · exact hn _ _ ⟨⟨k1, fun a c ha hc => (k2 a c ha hc).trans (ite_iff (by omega))⟩, k3, fun a c ha hc => (k4 a c ha hc).trans (ite_iff (by omega))⟩
  rw [hxl] at p2 p4
  have hbn : bnd n m x := g.bnd (by omega)
  refine rowSums_ok g.sh (by omega) (by omega) hbn fun s1 sl1 se1 => colSums_ok g.sh n1 (by omega) (by omega) hbn fun s2 sl2 se2 => ?_
  refine loop3_listF (xs := s1) (by omega) (fun rows hi i => (rows.length = n + 1 ∧ ∀ a, a < n + 1 → rows.getD a 0 = if a < i then cup b (sm m (mt x a)) else 0) ∧ (Sh (n + 1) (m + 1) hi ∧ ∀ a c, a < n + 1 → c < m + 1 → mt hi a c = if a < n ∧ c < m then cup b (mt x a c) else if a < i ∧ c = m then ud b (sm m (mt x a)) else 0))
    ⟨⟨by rw [List.length_replicate], fun a ha => by rw [getD_rep, if_neg (by omega)]⟩, p3, fun a c ha hc => by
      rw [p4 a c ha hc]
      by_cases e : a < n ∧ c < m
      · rw [if_pos e, if_pos e]
      · rw [if_neg e, if_neg e, if_neg (by omega)]⟩ (fun rows hi i nx hix ⟨⟨k1, k2⟩, k3, k4⟩ hn => ?_) (fun rows hi ⟨⟨k1, k2⟩, k3, k4⟩ => ?_)
  · have hi' : i < n := by omega
    have rI := g.row hi'
    have cI := cud (v := sm m (mt x i)) hb.1
    refine idx_gd (d := 0) rfl hix ?_
    rw [se1 i hi']
    refine rUp_ok hb (by omega) ⟨by omega, by omega, idx_gd (i := i) (d := []) rfl (by rw [k3.1]; omega) (rUp_ok hb (by omega) (rDown_ok hb (by omega) ⟨by omega, by rw [lm, Int.toNat_natCast, k3.2 i (by omega)]; omega, ?_⟩))⟩
    rw [Int.toNat_natCast, lm, Int.toNat_natCast, wr_in (x := cup b (sm m (mt x i)) - cdn b (sm m (mt x i))) (by omega) (by omega), row_mt]
    refine hn _ _ ⟨⟨by rw [List.length_set]; exact k1, fun a ha => ?_⟩, mst_sh k3 (by omega), fun a c ha hc => ?_⟩
    · rw [getD_set (by omega), k2 a ha]
      by_cases e : a = i
      · subst e; rw [if_pos rfl, if_pos (by omega)]
      · rw [if_neg e]; exact ite_iff (by omega)
    · rw [mst_mt k3 (by omega) (by omega), k4 a c ha hc]
      by_cases e : a = i ∧ c = m
      · obtain ⟨rfl, rfl⟩ := e
        rw [if_pos ⟨rfl, rfl⟩, if_neg (by omega), if_pos (by omega)]; rfl
      · rw [if_neg e]
        by_cases e2 : a < n ∧ c < m
        · rw [if_pos e2, if_pos e2]
        · rw [if_neg e2, if_neg e2]; exact ite_iff (by omega)
  rw [sl1] at k2 k4
  refine loop3_listF (xs := s2) (by omega) (fun cols hi j => (cols.length = m + 1 ∧ ∀ a, a < m + 1 → cols.getD a 0 = if a < j then cup b (sm n fun i => mt x i a) else 0) ∧ (Sh (n + 1) (m + 1) hi ∧ ∀ a c, a < n + 1 → c < m + 1 → mt hi a c = if a < n then (if c < m then cup b (mt x a c) else ud b (sm m (mt x a))) else if c < j then ud b (sm n fun i => mt x i c) else 0))
    ⟨⟨by rw [List.length_replicate], fun a ha => by rw [getD_rep, if_neg (by omega)]⟩, k3, fun a c ha hc => by
      rw [k4 a c ha hc]
      by_cases e : a < n
      · rw [if_pos e]
        by_cases e2 : c < m
        · rw [if_pos ⟨e, e2⟩, if_pos e2]
        · rw [if_neg (by omega), if_neg e2, if_pos (by omega)]
      · rw [if_neg e, if_neg (by omega), if_neg (by omega), if_neg (by omega)]⟩ (fun cols hi j nx hjx ⟨⟨q1, q2⟩, q3, q4⟩ hn => ?_) (fun cols hi ⟨⟨q1, q2⟩, q3, q4⟩ => ?_)
  · have hj' : j < m := by omega
    have cI := g.col hj'
    have cJ := cud (v := sm n fun i => mt x i j) hb.1
    refine idx_gd (d := 0) rfl hjx ?_
    rw [se2 j hj']
    refine rUp_ok hb (by omega) ⟨by omega, by omega, ?_⟩
    refine idx_gd (i := n) (d := []) lx (by rw [q3.1]; omega) (rUp_ok hb (by omega) (rDown_ok hb (by omega) ⟨by omega, by rw [Int.toNat_natCast, q3.2 n (by omega)]; omega, ?_⟩))
    rw [Int.toNat_natCast, lx, Int.toNat_natCast, wr_in (x := cup b (sm n fun i => mt x i j) - cdn b (sm n fun i => mt x i j)) (by omega) (by omega), row_mt]
    refine hn _ _ ⟨⟨by rw [List.length_set]; exact q1, fun a ha => ?_⟩, mst_sh q3 (by omega), fun a c ha hc => ?_⟩
    · rw [getD_set (by omega), q2 a ha]
      by_cases e : a = j
      · subst e; rw [if_pos rfl, if_pos (by omega)]
      · rw [if_neg e]; exact ite_iff (by omega)
    · rw [mst_mt q3 (by omega) (by omega), q4 a c ha hc]
      by_cases e : a = n ∧ c = j
      · obtain ⟨rfl, rfl⟩ := e
        rw [if_pos ⟨rfl, rfl⟩, if_neg (by omega), if_pos (by omega)]; rfl
      · rw [if_neg e]
        by_cases e2 : a < n
        · rw [if_pos e2, if_pos e2]
        · rw [if_neg e2, if_neg e2]; exact ite_iff (by omega)
  rw [sl2] at q2 q4
  have hT := g.tot
  have e1 : ls s1 = sm n fun i => sm m (mt x i) := by unfold ls; rw [sl1]; exact sm_congr fun i hi => se1 i hi
  refine total_ok ⟨by omega, fun i hi => by rw [se1 i (by omega)]; have := g.row (i := i) (by omega); omega⟩ ?_
  rw [e1]
  generalize hTT : (sm n fun i => sm m (mt x i)) = T at hT ⊢
  have cT := cud (v := T) hb.1
  have hD := cdn_bnd (v := T) hb.1 hT.1
  refine idx_gd (i := n) (d := []) lx (by rw [q3.1]; omega) (rUp_ok hb (by omega) (rDown_ok hb (by omega) ⟨by omega, by rw [lm, Int.toNat_natCast, q3.2 n (by omega)]; omega, ?_⟩))
  have pR : ∀ i, i < n → 0 ≤ cup b (sm m (mt x i)) ∧ cup b (sm m (mt x i)) ≤ 80099 := fun i hi => by have := g.row hi; have := cup_bnd (v := sm m (mt x i)) hb.1 this.1; omega
  have pC : ∀ j, j < m → 0 ≤ cup b (sm n fun a => mt x a j) ∧ cup b (sm n fun a => mt x a j) ≤ 80099 := fun j hj => by have := g.col hj; have := cup_bnd (v := sm n fun a => mt x a j) hb.1 this.1; omega
  have eC : ls cols = sm m fun j => cup b (sm n fun a => mt x a j) := ls_set_last q1 (fun a ha => by rw [q2 a (by omega), if_pos ha]) (by rw [q2 m (by omega), if_neg (by omega)])
  have bC := sm_bnd (n := m) (f := fun j => cup b (sm n fun a => mt x a j)) pC
  have bR := sm_bnd (n := n) (f := fun i => cup b (sm m (mt x i))) pR
  refine det1_of (ls cols) (total_ok ⟨by omega, fun i hi => by rw [q2 i (by omega)]; split; (have := pC i (by omega); omega); omega⟩ rfl) (rDown_ok hb (by omega) ⟨by omega, by rw [lx, Int.toNat_natCast]; omega, ?_⟩)
  rw [lx, Int.toNat_natCast, eC, wr_in (x := (sm m fun j => cup b (sm n fun a => mt x a j)) - cdn b T) (by omega) (by omega)]
  refine ⟨by omega, by omega, by unfold ln; rw [List.length_set]; omega, ?_⟩
  rw [show Int.toNat 0 = 0 from rfl, Nat.sub_zero, List.drop_zero]
  have lt : (List.take n (rows.set n ((sm m fun j => cup b (sm n fun a => mt x a j)) - cdn b T))).length = n := by rw [List.length_take, List.length_set]; omega
  have et : ∀ i, i < n → (List.take n (rows.set n ((sm m fun j => cup b (sm n fun a => mt x a j)) - cdn b T))).getD i 0 = cup b (sm m (mt x i)) := fun i hi => by
    rw [List.getD_eq_getElem?_getD, List.getElem?_take, if_pos hi, ← List.getD_eq_getElem?_getD, getD_set (by omega), if_neg (by omega), k2 i (by omega), if_pos hi]
  have eR : ls (List.take n (rows.set n ((sm m fun j => cup b (sm n fun a => mt x a j)) - cdn b T))) = sm n fun i => cup b (sm m (mt x i)) := by
    unfold ls; rw [lt]; exact sm_congr et
  refine det1_of (sm n fun i => cup b (sm m (mt x i))) (total_ok ⟨by omega, fun i hi => by rw [et i (by omega)]; have := pR i (by omega); omega⟩ (by rw [eR])) (rDown_ok hb (by omega) ⟨by omega, by rw [lm, Int.toNat_natCast]; omega, ?_⟩)
  rw [lm, Int.toNat_natCast, wr_in (x := (sm n fun i => cup b (sm m (mt x i))) - cdn b T) (by omega) (by omega), wr_in (x := cup b T - cdn b T) (by omega) (by omega), row_mt]
  refine h _ ⟨by show (rows.set _ _).length = _; rw [List.length_set]; exact k1, by show (cols.set _ _).length = _; rw [List.length_set]; exact q1, fun i hi' => ?_, fun j hj => ?_, p1, mst_sh q3 (by omega), fun i j hi' hj => ?_, fun i j hi' hj => ?_⟩
  · show (rows.set n _).getD i 0 = _
    rw [getD_set (by omega), k2 i hi', hTT]
    by_cases c : i = n
    · rw [if_pos c, if_neg (by omega)]
    · rw [if_neg c, if_pos (by omega), if_pos (by omega)]
  · show (cols.set m _).getD j 0 = _
    rw [getD_set (by omega), q2 j hj, hTT]
    by_cases c : j = m
    · rw [if_pos c, if_neg (by omega)]
    · rw [if_neg c, if_pos (by omega), if_pos (by omega)]
  · show mt _ i j = _
    rw [p2 i j hi' hj]; rfl
  · show mt (mst _ _ _ _) i j = _
    rw [mst_mt q3 (by omega) (by omega), q4 i j hi' hj]; unfold nHi
    by_cases c : i < n
    · rw [if_neg (by omega), if_pos c, if_pos c]
    · rw [if_neg c, if_neg c]
      by_cases d : j < m
      · rw [if_neg (by omega), if_pos d, if_pos d]
      · rw [if_pos (by omega), if_neg d, hTT]; rfl
end Go.Proofs.Ytommbnkecafodaa
