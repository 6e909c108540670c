/- Networks: sums of rows and columns, what is left (residual), matrices put together again (restore). -/
import Derived.Test.YtommbnkecafodaaFN
set_option linter.unusedVariables false
set_option autoImplicit false
namespace Go.Gv
theorem ite_iff {p q : Prop} [Decidable p] [Decidable q] {a b : Int} (h : p ↔ q) : (if p then a else b) = if q then a else b := by
  by_cases c : p
  · rw [if_pos c, if_pos (h.1 c)]
  · rw [if_neg c, if_neg (fun d => c (h.2 d))]
theorem mv_yes {n i j : Nat} {hi x r' : Nat → Nat → Int} {fr : Nat → Nat → Bool} (h : fr i j = true) : mv n hi x fr r' i j = hi i j - r' i (n + j) := if_pos h
theorem mv_no {n i j : Nat} {hi x r' : Nat → Nat → Int} {fr : Nat → Nat → Bool} (h : fr i j = false) : mv n hi x fr r' i j = x i j := if_neg (by rw [h]; exact fun c => by cases c)
section
variable {n m : Nat} {lo hi x : Nat → Nat → Int}
theorem rs_same {fr fr' : Nat → Nat → Bool} (he : ∀ a b, a < n → b < m → fr' a b = fr a b) {u v : Nat} (hu : u < n + m) (hv : v < n + m) : rs n m lo hi x fr' u v = rs n m lo hi x fr u v := by
  rcases node hu with h1 | ⟨j, hj, rfl⟩ <;> rcases node hv with h2 | ⟨k, hk, rfl⟩
  · rw [rs_rr h1 h2, rs_rr h1 h2]
  · rw [rs_rc h1 hk, rs_rc h1 hk, he u k h1 hk]
  · rw [rs_cr h2 hj, rs_cr h2 hj, he v j h2 hj]
  · rw [rs_cc, rs_cc]
theorem rs_add {fr fr' : Nat → Nat → Bool} {I J : Nat} (hI : I < n) (hJ : J < m) (h1 : fr' I J = true)
    (he : ∀ a b, a < n → b < m → ¬ (a = I ∧ b = J) → fr' a b = fr a b) {u v : Nat} (hu : u < n + m) (hv : v < n + m) :
    rs n m lo hi x fr' u v = if u = n + J ∧ v = I then x I J - lo I J else if u = I ∧ v = n + J then hi I J - x I J else rs n m lo hi x fr u v := by
  rcases node hu with h2 | ⟨j, hj, rfl⟩ <;> rcases node hv with h3 | ⟨k, hk, rfl⟩
  · rw [if_neg (by omega), if_neg (by omega), rs_rr h2 h3, rs_rr h2 h3]
  · rw [if_neg (by omega), rs_rc h2 hk, rs_rc h2 hk]
    by_cases c : u = I ∧ k = J
    · obtain ⟨rfl, rfl⟩ := c; rw [if_pos h1, if_pos ⟨rfl, rfl⟩]
    · rw [he u k h2 hk c, if_neg (show ¬ (u = I ∧ n + k = n + J) from fun d => c ⟨d.1, by omega⟩)]
  · rw [rs_cr h3 hj, rs_cr h3 hj]
    by_cases c : v = I ∧ j = J
    · obtain ⟨rfl, rfl⟩ := c; rw [if_pos h1, if_pos ⟨rfl, rfl⟩]
    · rw [he v j h3 hj c, if_neg (show ¬ (n + j = n + J ∧ v = I) from fun d => c ⟨d.2, by omega⟩), if_neg (show ¬ (n + j = I ∧ v = n + J) by omega)]
  · rw [if_neg (by omega), if_neg (by omega), rs_cc, rs_cc]
end
end Go.Gv
namespace Go.Proofs.Ytommbnkecafodaa
open Go Go.RowKit Go.Gv

theorem slicesEqual_ok {a b : List Int} {Q : Bool → Prop} (hl : a.length ≤ 4611686018427387904) (h : Q (decide (a = b))) : slices_Equal_int_int a b Q := by
  unfold slices_Equal_int_int
  refine br_of ?_
  split
  · rename_i hne
    have : decide (a = b) = false := by
      rw [decide_eq_false_iff_not]; rintro rfl; simp at hne
    rw [this] at h; exact h
  · rename_i he
    have hlen : a.length = b.length := by
      have he' : ¬ ((a.length : Int) != (b.length : Int)) = true := he
      simp at he'; omega
    refine ⟨fun i => 0 ≤ i ∧ i ≤ a.length ∧ a.take i.toNat = b.take i.toNat, fun i => ((a.length : Int) - i).toNat, ⟨by omega, by omega, by simp⟩, fun i ⟨h0, h1, h2⟩ => ?_⟩
    refine br_of ?_
    split
    · rename_i hi
      have hi : i < (a.length : Int) := of_decide_eq_true hi
      have hia : i.toNat < a.length := by omega
      refine idx_of h0 hia (idx_of h0 (by omega) (br_of ?_))
      split
      · rename_i hx
        have : decide (a = b) = false := by
          rw [decide_eq_false_iff_not]; rintro rfl; simp at hx
        rw [this] at h; exact h
      · rename_i hx
        have hx : a[i.toNat] = b[i.toNat] := by simpa using hx
        have hw : wr (i + 1) = i + 1 := wr_in (by omega) (by omega)
        rw [hw]
        refine ⟨⟨by omega, by omega, ?_⟩, ?_⟩
        · rw [show (i + 1).toNat = i.toNat + 1 from by omega, List.take_succ_eq_append_getElem hia, List.take_succ_eq_append_getElem (by omega : i.toNat < b.length), h2, hx]
        · show ((a.length : Int) - (i + 1)).toNat < ((a.length : Int) - i).toNat
          omega
    · rename_i hi
      have hi : ¬ i < (a.length : Int) := fun c => hi (decide_eq_true c)
      have e : i.toNat = a.length := by omega
      rw [e, List.take_length, hlen, List.take_length] at h2
      rw [h2] at h; simpa using h

theorem clone_ok {a : List Int} {Q : List Int → Prop} (hl : a.length ≤ 1048576) (h : Q a) : slices_Clone_int_int a Q := by
  unfold slices_Clone_int_int
  intro b hb
  refine ⟨fun e => ?_, fun e => ⟨by unfold ln; simp; omega, by simpa using h⟩⟩
  have := hb e; subst this; exact h
theorem copyMatrix_ok {x : List (List Int)} {Q : List (List Int) → Prop} (hs : small x) (hne : 1 ≤ x.length) (h : Q x) : impl_copyMatrix x Q := by
  obtain ⟨hl, hr⟩ := hs
  unfold impl_copyMatrix
  refine ⟨by unfold ln; omega, by unfold ln; omega, by unfold ln; simp; omega, ?_⟩
  refine loop2_list (by omega) (fun out i => out.length = x.length ∧ out.take i = x.take i) ⟨by simp, by simp⟩ (fun out i nx hi ⟨h1, h2⟩ hx => idx_at hi (clone_ok (hr _ (List.getElem_mem hi)) ⟨by omega, by omega, ?_⟩)) (fun out ⟨h1, h2⟩ => ?_)
  · refine hx _ ⟨by simpa using h1, ?_⟩
    exact set_done h1 (by omega) h2
  · rw [eq_of_take h2 h1 rfl]; exact h
theorem Sh.small {n m : Nat} {x : List (List Int)} (h : Sh n m x) (hn : n ≤ 1048576) (hm : m ≤ 1048576) : small x := by
  refine ⟨by rw [h.1]; exact hn, fun r hr => ?_⟩
  obtain ⟨i, hi, rfl⟩ := List.mem_iff_getElem.1 hr
  have := h.2 i (by rw [← h.1]; exact hi)
  have e : x.getD i [] = x[i] := by simp [hi]
  rw [e] at this; omega
theorem pos_eq {t : Transport} {n m : Nat} (g : Gd t n m) {i j : Nat} (hi : i < n) (hj : j < m) : wr (wr ((i : Int) * ln t.Cols) + (j : Int)) = ((i * m + j : Nat) : Int) := by
  have h1 : i * m ≤ 8 * 8 := Nat.mul_le_mul (by have := g.n8; omega) g.m8
  have e : (i : Int) * ln t.Cols = ((i * m : Nat) : Int) := by unfold ln; rw [g.cl, Int.natCast_mul]
  have := g.m8
  have e2 : wr ((i * m : Nat) : Int) = ((i * m : Nat) : Int) := wr_in (by omega) (by omega)
  rw [e, e2, wr_in (by omega) (by omega)]; omega
theorem nm_eq {t : Transport} {n m : Nat} (g : Gd t n m) : wr (ln t.Rows + ln t.Cols) = ((n + m : Nat) : Int) := by
  unfold ln; rw [g.rl, g.cl]; have := g.n8; have := g.m8
  rw [wr_in (by omega) (by omega)]; omega
theorem col_eq {t : Transport} {n m : Nat} (g : Gd t n m) {j : Nat} (hj : j < m) : wr (ln t.Rows + (j : Int)) = ((n + j : Nat) : Int) := by
  unfold ln; rw [g.rl]; have := g.n8; have := g.m8
  rw [wr_in (by omega) (by omega)]; omega

/-- N rows of N zeros. -/
theorem zeros_ok {N : Nat} {r : List (List Int)} (hl : r.length = N) (h : ∀ k, k < N → r.getD k [] = List.replicate N 0) : Sh N N r ∧ ∀ u v, u < N → v < N → mt r u v = 0 := by
  refine ⟨⟨hl, fun i hi => by rw [h i hi, List.length_replicate]⟩, fun u v hu hv => ?_⟩
  unfold mt; rw [h u hu]; simp [hv]
theorem residual_ok {t : Transport} {n m : Nat} {x : List (List Int)} {fixed : Int} {Q : List (List Int) → Prop} (g : Gd t n m) (hx : Sh n m x) (hb : ∀ i j, i < n → j < m → mt t.Lo i j ≤ mt x i j ∧ mt x i j ≤ mt t.Hi i j)
    (h : ∀ r, Sh (n + m) (n + m) r → (∀ u v, u < n + m → v < n + m → mt r u v = rs n m (mt t.Lo) (mt t.Hi) (mt x) (fun i j => decide (fixed < ((i * m + j : Nat) : Int))) u v) → Q r) : impl_residual t x fixed Q := by
  unfold impl_residual
  have hn8 := g.n8; have hm8 := g.m8
  rw [nm_eq g]
  refine ⟨by omega, by omega, ?_⟩
  have et : Int.toNat ((n + m : Nat) : Int) = n + m := Int.toNat_natCast _
  rw [et]
  refine loop2_list (xs := List.replicate (n + m) ([] : List Int)) (by rw [List.length_replicate]; omega) (fun r i => r.length = n + m ∧ ∀ k, k < i → r.getD k [] = List.replicate (n + m) 0) ⟨by rw [List.length_replicate], fun k hk => by omega⟩ (fun r i nx hi ⟨h1, h2⟩ hn => ?_) (fun r ⟨h1, h2⟩ => ?_)
  · rw [List.length_replicate] at hi
    refine ⟨by omega, by omega, by omega, by rw [Int.toNat_natCast]; omega, hn _ ⟨by rw [List.length_set]; exact h1, fun k hk => ?_⟩⟩
    rw [Int.toNat_natCast, getD_set (by omega)]
    split
    · rfl
    · exact h2 k (by omega)
  rw [List.length_replicate] at h2
  obtain ⟨z1, z2⟩ := zeros_ok h1 h2
  let fr : Nat → Nat → Nat → Nat → Bool := fun I J a b => decide (fixed < ((a * m + b : Nat) : Int)) && decide (a < I ∨ (a = I ∧ b < J))
  have hxl := hx.1
  refine loop2_list (xs := x) (by omega) (fun r i => Sh (n + m) (n + m) r ∧ ∀ u v, u < n + m → v < n + m → mt r u v = rs n m (mt t.Lo) (mt t.Hi) (mt x) (fr i 0) u v) ⟨z1, fun u v hu hv => ?_⟩ (fun r i nx hi ⟨h3, h4⟩ hn => ?_) (fun r ⟨h3, h4⟩ => ?_)
  · rw [z2 u v hu hv]
    symm
    have : ∀ a b, a < n → b < m → fr 0 0 a b = (fun _ _ => false) a b := fun a b _ _ => by
      show (_ && _) = _; rw [decide_eq_false (p := a < 0 ∨ (a = 0 ∧ b < 0)) (by omega), Bool.and_false]
    rw [rs_same this hu hv]
    rcases node hu with q | ⟨j, hj, rfl⟩ <;> rcases node hv with q2 | ⟨k, hk, rfl⟩
    · rw [rs_rr q q2]
    · rw [rs_rc q hk]; rfl
    · rw [rs_cr q2 hj]; rfl
    · rw [rs_cc]
  · have hi' : i < n := by omega
    have hrow := hx.2 i hi'
    refine idx_gd (d := []) rfl hi ?_
    refine loop2_list (by omega) (fun r j => Sh (n + m) (n + m) r ∧ ∀ u v, u < n + m → v < n + m → mt r u v = rs n m (mt t.Lo) (mt t.Hi) (mt x) (fr i j) u v) ⟨h3, h4⟩ (fun r j nx2 hj ⟨h5, h6⟩ hn2 => ?_) (fun r ⟨h5, h6⟩ => hn _ ⟨h5, fun u v hu hv => ?_⟩)
    · have hj' : j < m := by omega
      have hbx := hb i j hi' hj'; have hbt := g.bd i j hi' hj'
      by_cases c : fixed < ((i * m + j : Nat) : Int)
      · refine jn_bool (mst (mst r i (n + j) (mt t.Hi i j - mt x i j)) (n + j) i (mt x i j - mt t.Lo i j)) (hn2 _ ⟨mst_sh (mst_sh h5 (by omega)) (by omega), fun u v hu hv => ?_⟩) fun k hk => ?_
        · rw [mst_mt (mst_sh h5 (by omega)) (by omega) (by omega), mst_mt h5 (by omega) (by omega)]
          rw [rs_add (fr := fr i j) hi' hj' (by show (_ && _) = _; rw [decide_eq_true c, decide_eq_true (by omega)]; rfl) (fun a b ha hb hne => ?_) hu hv, h6 u v hu hv]
          show (_ && _) = (_ && _)
          congr 1
          exact decide_eq_decide.2 (by omega)
        · refine idx_gd (d := 0) rfl hj ?_
          rw [pos_eq g hi' hj', col_eq g hj']
          refine br_yes c (idx_gd (d := []) rfl (by rw [h5.1]; omega) (idx_mt g.hi rfl rfl hi' hj' ⟨by omega, by rw [Int.toNat_natCast, h5.2 i (by omega)]; omega, ?_⟩))
          rw [Int.toNat_natCast, Int.toNat_natCast]
          have e1 : wr (mt t.Hi i j - (x.getD i []).getD j 0) = mt t.Hi i j - mt x i j := by
            show wr (mt t.Hi i j - mt x i j) = _; exact wr_in (by omega) (by omega)
          rw [e1]
          have h7 := mst_sh (j := n + j) (v := mt t.Hi i j - mt x i j) h5 (show i < n + m by omega)
          refine idx_gd (d := []) rfl (by show _ < (mst r i (n + j) _).length; rw [h7.1]; omega) (idx_mt g.lo rfl rfl hi' hj' ⟨by omega, ?_, ?_⟩)
          · show Int.toNat (i : Int) < ((mst r i (n + j) _).getD (n + j) []).length; rw [h7.2 (n + j) (by omega)]; omega
          · have e2 : wr ((x.getD i []).getD j 0 - mt t.Lo i j) = mt x i j - mt t.Lo i j := by
              show wr (mt x i j - mt t.Lo i j) = _; exact wr_in (by omega) (by omega)
            rw [e2]; exact hk
      · refine jn_bool r (hn2 _ ⟨h5, fun u v hu hv => ?_⟩) fun k hk => idx_gd (d := 0) rfl hj ?_
        · rw [h6 u v hu hv]
          refine (rs_same (fun a b ha hb => ?_) hu hv).symm
          show (_ && _) = (_ && _)
          by_cases e : a = i ∧ b = j
          · obtain ⟨rfl, rfl⟩ := e; rw [decide_eq_false c, Bool.false_and, Bool.false_and]
          · congr 1; exact decide_eq_decide.2 (by omega)
        · rw [pos_eq g hi' hj']; exact br_no c hk
    · rw [h6 u v hu hv, hrow]
      refine rs_same (fun a b ha hb => ?_) hu hv
      show (_ && _) = (_ && _)
      congr 1; exact decide_eq_decide.2 (by omega)
  · refine h r h3 fun u v hu hv => ?_
    rw [h4 u v hu hv, hxl]
    refine rs_same (fun a b ha hb => ?_) hu hv
    show (_ && _) = _
    rw [decide_eq_true (p := a < n ∨ (a = n ∧ b < 0)) (by omega), Bool.and_true]
theorem restore_ok {t : Transport} {n m N : Nat} {x r : List (List Int)} {fixed : Int} {Q : List (List Int) → Prop} (g : Gd t n m) (hx : Sh n m x) (hN : n + m ≤ N) (hr : Sh N N r) (hb : ∀ i j, i < n → j < m → 0 ≤ mt r i (n + j) ∧ mt r i (n + j) ≤ 1000000000000)
    (h : ∀ out, Sh n m out → (∀ i j, i < n → j < m → mt out i j = mv n (mt t.Hi) (mt x) (fun i j => decide (fixed < ((i * m + j : Nat) : Int))) (mt r) i j) → Q out) : impl_restore t x r fixed Q := by
  unfold impl_restore
  have hn8 := g.n8; have hm8 := g.m8; have hxl := hx.1
  refine copyMatrix_ok (hx.small (by omega) (by omega)) (by have := g.n1; omega) ?_
  let G := mv n (mt t.Hi) (mt x) (fun i j => decide (fixed < ((i * m + j : Nat) : Int))) (mt r)
  refine loop2_list (xs := x) (by omega) (fun out i => Sh n m out ∧ ∀ a b, a < n → b < m → mt out a b = if a < i then G a b else mt x a b) ⟨hx, fun a b _ _ => by rw [if_neg (by omega)]⟩ (fun out i nx hi ⟨h1, h2⟩ hn => ?_) (fun out ⟨h1, h2⟩ => h out h1 fun i j hi hj => by rw [h2 i j hi hj, if_pos (by omega)])
  have hi' : i < n := by omega
  have hrow := h1.2 i hi'
  refine idx_gd (d := []) rfl (by rw [h1.1]; exact hi') ?_
  refine loop2_list (by omega) (fun out j => Sh n m out ∧ ∀ a b, a < n → b < m → mt out a b = if a < i ∨ (a = i ∧ b < j) then G a b else mt x a b) ⟨h1, fun a b ha hb => (h2 a b ha hb).trans (ite_iff (by omega))⟩ (fun out j nx2 hj ⟨h3, h4⟩ hn2 => ?_) (fun out ⟨h3, h4⟩ => hn _ ⟨h3, fun a b ha hb => ?_⟩)
  · have hj' : j < m := by omega
    have hbt := g.bd i j hi' hj'; have hbr := hb i j hi' hj'
    by_cases c : fixed < ((i * m + j : Nat) : Int)
    · refine jn_bool (mst out i j (mt t.Hi i j - mt r i (n + j))) (hn2 _ ⟨mst_sh h3 hi', fun a b ha hb => ?_⟩) fun k hk => ?_
      · rw [mst_mt h3 hi' hj', h4 a b ha hb]
        by_cases e : a = i ∧ b = j
        · obtain ⟨rfl, rfl⟩ := e
          rw [if_pos ⟨rfl, rfl⟩, if_pos (by omega)]
          exact (mv_yes (decide_eq_true c)).symm
        · rw [if_neg e]
          by_cases e2 : a < i ∨ (a = i ∧ b < j)
          · rw [if_pos e2, if_pos (by omega)]
          · rw [if_neg e2, if_neg (by omega)]
      · rw [pos_eq g hi' hj', col_eq g hj']
        refine br_yes c (idx_gd (d := []) rfl (by rw [h3.1]; exact hi') (idx_mt g.hi rfl rfl hi' hj' (idx_mt hr rfl rfl (by omega) (by omega) ⟨by omega, by rw [Int.toNat_natCast, h3.2 i hi']; exact hj', ?_⟩)))
        rw [Int.toNat_natCast, Int.toNat_natCast, wr_in (by omega) (by omega)]; exact hk
    · refine jn_bool out (hn2 _ ⟨h3, fun a b ha hb => ?_⟩) fun k hk => ?_
      · rw [h4 a b ha hb]
        by_cases e : a = i ∧ b = j
        · obtain ⟨rfl, rfl⟩ := e
          rw [if_neg (by omega), if_pos (by omega)]
          exact (mv_no (decide_eq_false c)).symm
        · by_cases e2 : a < i ∨ (a = i ∧ b < j)
          · rw [if_pos e2, if_pos (by omega)]
          · rw [if_neg e2, if_neg (by omega)]
      · rw [pos_eq g hi' hj']; exact br_no c hk
  · rw [h4 a b ha hb, hrow]
    by_cases c : a < i ∨ (a = i ∧ b < m)
    · rw [if_pos c, if_pos (by omega)]
    · rw [if_neg c, if_neg (by omega)]
def bnd (n m : Nat) (x : List (List Int)) : Prop := ∀ i j, i < n → j < m → 0 ≤ mt x i j ∧ mt x i j ≤ 1000000000
theorem rowSums_ok {n m : Nat} {x : List (List Int)} {Q : List Int → Prop} (hx : Sh n m x) (hn : n ≤ 100) (hm : m ≤ 100) (hb : bnd n m x) (h : ∀ s, s.length = n → (∀ i, i < n → s.getD i 0 = sm m (mt x i)) → Q s) : impl_rowSums x Q := by
  unfold impl_rowSums
  have hxl := hx.1
  refine ⟨by unfold ln; omega, by unfold ln; omega, ?_⟩
  have et : Int.toNat (ln x) = n := by unfold ln; omega
  rw [et]
  refine loop2_list (xs := x) (by omega) (fun s i => s.length = n ∧ ∀ a, a < n → s.getD a 0 = if a < i then sm m (mt x a) else 0) ⟨by simp, fun a ha => by rw [if_neg (by omega)]; simp [ha]⟩ (fun s i nx hi ⟨h1, h2⟩ hnx => ?_) (fun s ⟨h1, h2⟩ => h s h1 fun i hi => by rw [h2 i hi, if_pos (by omega)])
  have hi' : i < n := by omega
  have hrow := hx.2 i hi'
  refine idx_gd (d := []) rfl hi ?_
  refine loop2_list (by omega) (fun s j => s.length = n ∧ ∀ a, a < n → s.getD a 0 = if a < i then sm m (mt x a) else if a = i then sm j (mt x i) else 0) ⟨h1, fun a ha => ?_⟩ (fun s j nx2 hj ⟨h3, h4⟩ hn2 => ?_) (fun s ⟨h3, h4⟩ => hnx _ ⟨h3, fun a ha => ?_⟩)
  · rw [h2 a ha]
    by_cases c : a < i
    · rw [if_pos c, if_pos c]
    · rw [if_neg c, if_neg c]; split <;> rfl
  · have hj' : j < m := by omega
    refine idx_gd (d := 0) rfl hj (idx_gd (d := 0) rfl (by omega) ⟨by omega, by rw [Int.toNat_natCast]; omega, ?_⟩)
    rw [Int.toNat_natCast, h4 i hi', if_neg (by omega), if_pos rfl]
    have b1 := sm_bnd (n := j) (f := mt x i) (B := 1000000000) (fun k hk => hb i k hi' (by omega))
    have b2 := hb i j hi' hj'
    show nx2 (s.set i (wr (sm j (mt x i) + mt x i j))) _
    rw [wr_in (by omega) (by omega)]
    refine hn2 _ ⟨by rw [List.length_set]; exact h3, fun a ha => ?_⟩
    rw [getD_set (by omega), h4 a ha]
    by_cases c : a = i
    · subst c; rw [if_pos rfl, if_neg (by omega), if_pos rfl]; rfl
    · rw [if_neg c, if_neg c, if_neg c]
  · rw [h4 a ha, hrow]
    by_cases c : a < i
    · rw [if_pos c, if_pos (by omega)]
    · rw [if_neg c]
      by_cases c2 : a = i
      · subst c2; rw [if_pos rfl, if_pos (by omega)]
      · rw [if_neg c2, if_neg (by omega)]
theorem colSums_ok {n m : Nat} {x : List (List Int)} {Q : List Int → Prop} (hx : Sh n m x) (hn1 : 1 ≤ n) (hn : n ≤ 100) (hm : m ≤ 100) (hb : bnd n m x) (h : ∀ s, s.length = m → (∀ j, j < m → s.getD j 0 = sm n (fun i => mt x i j)) → Q s) : impl_colSums x Q := by
  unfold impl_colSums
  have hxl := hx.1
  refine idx_gd (i := 0) (d := []) rfl (by omega) ?_
  have h0 := hx.2 0 (by omega)
  refine ⟨by unfold ln; omega, by unfold ln; omega, ?_⟩
  have et : Int.toNat (ln (x.getD 0 [])) = m := by unfold ln; omega
  rw [et]
  refine loop2_list (xs := x) (by omega) (fun s i => s.length = m ∧ ∀ b, b < m → s.getD b 0 = sm i (fun a => mt x a b)) ⟨by simp, fun b hb => by simp [hb, sm]⟩ (fun s i nx hi ⟨h1, h2⟩ hnx => ?_) (fun s ⟨h1, h2⟩ => h s h1 fun j hj => by rw [h2 j hj, hxl])
  have hi' : i < n := by omega
  have hrow := hx.2 i hi'
  refine idx_gd (d := []) rfl hi ?_
  refine loop2_list (by omega) (fun s j => s.length = m ∧ ∀ b, b < m → s.getD b 0 = if b < j then sm (i + 1) (fun a => mt x a b) else sm i (fun a => mt x a b)) ⟨h1, fun b hb => by rw [h2 b hb, if_neg (by omega)]⟩ (fun s j nx2 hj ⟨h3, h4⟩ hn2 => ?_) (fun s ⟨h3, h4⟩ => hnx _ ⟨h3, fun b hb => by rw [h4 b hb, if_pos (by omega)]⟩)
  have hj' : j < m := by omega
  refine idx_gd (d := 0) rfl hj (idx_gd (d := 0) rfl (by omega) ⟨by omega, by rw [Int.toNat_natCast]; omega, ?_⟩)
  rw [Int.toNat_natCast, h4 j hj', if_neg (by omega)]
  have b1 := sm_bnd (n := i) (f := fun a => mt x a j) (B := 1000000000) (fun k hk => hb k j (by omega) hj')
  have b2 := hb i j hi' hj'
  show nx2 (s.set j (wr (sm i (fun a => mt x a j) + mt x i j))) _
  rw [wr_in (by omega) (by omega)]
  refine hn2 _ ⟨by rw [List.length_set]; exact h3, fun b hb => ?_⟩
  rw [getD_set (by omega), h4 b hb]
  by_cases c : b = j
  · subst c; rw [if_pos rfl, if_pos (by omega)]; rfl
  · rw [if_neg c]
    by_cases c2 : b < j
    · rw [if_pos c2, if_pos (by omega)]
    · rw [if_neg c2, if_neg (by omega)]
end Go.Proofs.Ytommbnkecafodaa
