/- Plain facts about implied edits and resolvents. -/
import Derived.Test.YtdaojggigfnnpaaIcPure
import Derived.Test.YtdaojggigfnnpaaNA
set_option linter.unusedVariables false
set_option autoImplicit false
namespace Go.Proofs.Ytdaojggigfnnpaa
open Go Go.RowKit Go.Gv

theorem sameInts_same {l : List Int} {Q : Bool → Prop} (hl : l.length ≤ 1048576) (hq : Q true) : laws_sameInts l l Q := by
  unfold laws_sameInts
  refine br_false (by simp) (loop1_list (by omega) (fun _ => True) trivial (fun i nx hi _ hx => idx_at hi (idx_at hi (br_false (by simp) (hx trivial)))) (fun _ => hq))
theorem pSameEdits_same {l : List Edit} {Q : Bool → Prop} (hl : l.length ≤ 1048576 ∧ ∀ e ∈ l, e.Sets.length ≤ 1048576) (hq : Q true) : laws_pSameEdits l l Q := by
  unfold laws_pSameEdits
  have h0 := hl.1
  refine br_false (by simp) (loop1_list (by omega) (fun _ => True) trivial (fun i nx hi _ hx => idx_at hi (idx_at hi (det1_of true (sameInts_same (hl.2 _ (List.getElem_mem hi)) rfl) (br_false rfl (hx trivial))))) (fun _ => hq))
theorem big_ok {code more : List B8} {Q : Bool → Prop} (h : ∀ b, Q b) : laws_big code more Q := by
  unfold laws_big
  exact jn_of (br_dec (fun _ => h _) (fun _ => h _))
/-! ### what is implied -/
def impB (sx : List Variable) (l : List Edit) (t : List Int) : Bool := (List.range (cnt sx)).all fun i => !(boxIn t (vals sx i) && !failsB l (vals sx i))
def impOk (sx : List Variable) (l : List Edit) (e : Edit) : Bool := maxOk sx l && eOk sx e
theorem sok_of {sx : List Variable} {e : Edit} (hL : Lok sx) (h : eOk sx e = true) : Sok e.Sets ∧ e.Sets.length = sx.length := by
  have ⟨h1, h2⟩ := eOk_of h
  refine ⟨fun s hs => ?_, h1⟩
  obtain ⟨i, hi, rfl⟩ := List.mem_iff_getElem.1 hs
  have ⟨a, b⟩ := h2 i (by omega)
  rw [gi_at hi] at a b
  rw [vAt_at (by omega)] at b
  have := full_at hL (show i < sx.length by omega)
  omega
theorem isImplied_ok {sx : List Variable} {l : List Edit} {e : Edit} {Q : Bool → Bool → Prop} (hl : sx.length ≤ 1048576) (he : ∀ e ∈ l, e.Sets.length ≤ 1048576) (he2 : e.Sets.length ≤ 1048576)
    (hq : Q (impOk sx l e && impB sx l e.Sets) (impOk sx l e)) : impl_IsImplied sx l e Q := by
  unfold impl_IsImplied
  refine jn_bool (!impOk sx l e) ?_ fun k hk => isSmall_ok hl (br_nb (fun g => ?_) (fun g => areEdits_ok (smOk_of g).1 he (br_nb (fun g1 => ?_) (fun g1 => isEdit_ok (smOk_of g).1 he2 ?_))))
  · refine br_nb (fun g => ?_) (fun g => ?_)
    · rw [g] at hq; exact hq
    · rw [g, Bool.true_and] at hq
      have g0 := g
      unfold impOk at g0
      simp only [Bool.and_eq_true] at g0
      have ⟨hL, hc, hE⟩ := maxOk_of g0.1
      have ⟨hs, hn⟩ := sok_of hL g0.2
      have h6 := hL.1
      refine combinations_ok hL (loop1_to (by omega) (fun i => (List.range i).all (fun i => !(boxIn e.Sets (vals sx i) && !failsB l (vals sx i))) = true) (by simp) (fun i nx hi hj hx => ?_) (fun i hi hj => ?_))
      · refine valuesAt_ok hL (by omega) ?_
        have hvl := vals_length sx i
        have hvo := vals_ok (sx := sx) i hL.2
        refine jn_bool (boxIn e.Sets (vals sx i) && !failsB l (vals sx i)) ?_ fun k hk => fails_ok hs hvo (by show _ ≤ e.Sets.length; omega) (by omega) (br_bo (fun g1 => ?_) (fun g1 => ?_))
        · refine br_bo (fun g1 => ?_) (fun g1 => hx (range_all_succ hj (by rw [g1]; rfl)))
          have : impB sx l e.Sets = false := range_all_no (i := i) (by omega) (by rw [g1]; rfl)
          rw [this] at hq; exact hq
        · refine failsOne_ok (by rw [hvl]; exact hE) hvo (by omega) ?_
          rw [g1, Bool.true_and] at hk; exact hk
        · rw [g1, Bool.false_and] at hk; exact hk
      · have : impB sx l e.Sets = true := by unfold impB; rw [show cnt sx = i by omega]; exact hj
        rw [this] at hq; exact hq
  · have : impOk sx l e = false := by unfold impOk maxOk; rw [g]; rfl
    rw [this] at hk; exact hk
  · have : impOk sx l e = false := by unfold impOk maxOk; rw [g1, Bool.and_false]; rfl
    rw [this] at hk; exact hk
  · have : impOk sx l e = eOk sx e := by unfold impOk maxOk; rw [g, g1]; rfl
    rw [this] at hk; exact hk
/-! ### maximal edits are implied, and imply the list -/
theorem impB_free {sx : List Variable} {l : List Edit} {t : List Int} (h : freeP (pass sx l) t = true) : impB sx l t = true := by
  unfold impB
  refine List.all_eq_true.2 fun i hi => ?_
  cases hf : failsB l (vals sx i) with
  | true => simp
  | false =>
    have hm : vals sx i ∈ pass sx l := List.mem_map.2 ⟨i, List.mem_filter.2 ⟨hi, by simp [hf]⟩, rfl⟩
    have := List.all_eq_true.1 h _ hm
    simp only [Bool.not_eq_true'] at this
    rw [this]; rfl
theorem free_mem {sx : List Variable} {l : List Edit} {e : Edit} (h : e ∈ l) : freeP (pass sx l) e.Sets = true := by
  refine List.all_eq_true.2 fun vs hvs => ?_
  obtain ⟨i, hi, rfl⟩ := List.mem_map.1 hvs
  have h2 := (List.mem_filter.1 hi).2
  simp only [Bool.not_eq_true'] at h2 ⊢
  cases hb : boxIn e.Sets (vals sx i) with
  | false => rfl
  | true =>
    have : failsB l (vals sx i) = true := List.any_eq_true.2 ⟨e, h, hb⟩
    rw [h2] at this; cases this
theorem maxE_mem {sx : List Variable} {l : List Edit} {v : Int} {e : Edit} (h : e ∈ maxE sx l v) : inE v 0 sx e.Sets ∧ freeP (pass sx l) e.Sets = true := by
  unfold maxE res at h
  obtain ⟨t, ht, rfl⟩ := List.mem_map.1 h
  have ⟨h1, h2⟩ := List.mem_filter.1 ht
  refine ⟨mem_enum.1 h1, ?_⟩
  unfold keep at h2
  simp only [Bool.and_eq_true] at h2
  exact h2.1
theorem inE_at {v : Int} : ∀ {r : List Variable} {n : Nat} {t : List Int} (i : Nat) (hr : Rok r) (h : inE v n r t) (hi : i < r.length) (hi' : i < t.length), 1 ≤ t[i] ∧ t[i] ≤ full r[i]
  | x :: r, n, s :: t, 0, hr, h, _, _ => by
    have h1 := h.1
    have h2 := frs_at (v := v) (n := n) hr.head.2.1
    exact ⟨by show 1 ≤ s; omega, h1.2⟩
  | x :: r, n, s :: t, i + 1, hr, h, hi, hi' => by simpa using inE_at (r := r) (t := t) i hr.tail h.2 (by simpa using hi) (by simpa using hi')
theorem eOk_of_inE {sx : List Variable} {v : Int} {t : List Int} (hL : Lok sx) (h : inE v 0 sx t) : eOk sx ⟨t⟩ = true := by
  have hl := inB_length (inE_B hL.2 h)
  unfold eOk
  simp only [Bool.and_eq_true, decide_eq_true_eq]
  refine ⟨hl, List.all_eq_true.2 fun i hi => ?_⟩
  have hi := List.mem_range.1 hi
  have := inE_at i hL.2 h hi (by omega)
  rw [inb_iff', gi_at (by omega), vAt_at hi]
  exact this
theorem inE_of_eOk {sx : List Variable} {e : Edit} (h : eOk sx e = true) : inE (-1) 0 sx e.Sets := by
  have ⟨h1, h2⟩ := eOk_of h
  refine inE_of (sx := sx) (t := e.Sets) h1 fun i a b => ?_
  have := h2 i a
  rw [gi_at b, vAt_at a] at this
  exact this
theorem maxE_imp {sx : List Variable} {l : List Edit} (g : maxOk sx l = true) {e : Edit} (he : e ∈ maxE sx l (-1)) : impOk sx l e = true ∧ impB sx l e.Sets = true := by
  have ⟨hL, _, _⟩ := maxOk_of g
  have ⟨h1, h2⟩ := maxE_mem he
  exact ⟨by unfold impOk; rw [g, eOk_of_inE hL h1]; rfl, impB_free h2⟩
theorem imp_maxE {sx : List Variable} {l : List Edit} (g : maxOk sx l = true) (h40 : (maxE sx l (-1)).length ≤ 40) {e : Edit} (he : e ∈ l) : impOk sx (maxE sx l (-1)) e = true ∧ impB sx (maxE sx l (-1)) e.Sets = true := by
  have ⟨hL, hc, _⟩ := maxOk_of g
  have g0 := g
  unfold maxOk lOk at g0
  simp only [Bool.and_eq_true] at g0
  have hee := List.all_eq_true.1 g0.2.2 e he
  refine ⟨?_, ?_⟩
  · unfold impOk maxOk lOk
    rw [hee, g0.1, decide_eq_true h40, List.all_eq_true.2 fun f hf => eOk_of_inE hL (maxE_mem hf).1]; rfl
  · obtain ⟨t, h1, h2, h3⟩ := grow (M := freeP (pass sx l)) hL _ e.Sets (Nat.le_refl _) (inE_of_eOk hee) (free_mem he)
    unfold impB
    refine List.all_eq_true.2 fun i hi => ?_
    cases hb : boxIn e.Sets (vals sx i) with
    | false => rfl
    | true =>
      have : failsB (maxE sx l (-1)) (vals sx i) = true := by
        refine List.any_eq_true.2 ⟨⟨t⟩, ?_, ?_⟩
        · unfold maxE res
          exact List.mem_map.2 ⟨t, List.mem_filter.2 ⟨mem_enum.2 h1, h2⟩, rfl⟩
        · exact boxIn_iff.2 fun j hj => h3 _ _ (boxIn_iff.1 hb j hj)
      rw [this]; rfl
/-! ### resolvents -/
def rsAt (v : Int) (e f : List Int) (i : Nat) : Int := if (i : Int) = v then bits .or .i64 (gi e i) (gi f i) else bits .and .i64 (gi e i) (gi f i)
def rsv (v : Int) (e f : List Int) : List Int := (List.range e.length).map (rsAt v e f)
def rsG (sx : List Variable) (e f : Edit) (v : Int) : Bool := maxOk sx [e, f] && inb 0 ((sx.length : Int) - 1) v
def rsOk (sx : List Variable) (e f : Edit) (v : Int) : Bool := rsG sx e f v && eOk sx ⟨rsv v e.Sets f.Sets⟩
def rsR (sx : List Variable) (e f : Edit) (v : Int) : Edit := if rsOk sx e f v then ⟨rsv v e.Sets f.Sets⟩ else ⟨[]⟩
theorem rsv_len {v : Int} {e f : List Int} : (rsv v e f).length = e.length := by simp [rsv]
theorem rsv_at {v : Int} {e f : List Int} {i : Nat} (h : i < e.length) : gi (rsv v e f) i = rsAt v e f i := by
  rw [gi_at (by rw [rsv_len]; exact h)]; simp [rsv]
theorem lOk2 {sx : List Variable} {e f : Edit} : lOk sx [e, f] = (eOk sx e && eOk sx f) := by simp [lOk]
theorem tb_or {a b : Int} {y : Int} (h0 : 0 ≤ a ∧ a ≤ 255) (h1 : 0 ≤ b ∧ b ≤ 255) : tb (bits .or .i64 a b) y = (tb a y || tb b y) := by
  have := or_nat (a := a.toNat) (b := b.toNat) (by omega) (by omega)
  rw [show ((a.toNat : Nat) : Int) = a by omega, show ((b.toNat : Nat) : Int) = b by omega] at this
  unfold tb
  rw [this, Int.toNat_natCast, Nat.testBit_or]
theorem tb_and {a b : Int} {y : Int} (h0 : 0 ≤ a ∧ a ≤ 255) (h1 : 0 ≤ b ∧ b ≤ 255) : tb (bits .and .i64 a b) y = (tb a y && tb b y) := by
  have := and_nat (a := a.toNat) (b := b.toNat) (by omega)
  rw [show ((a.toNat : Nat) : Int) = a by omega, show ((b.toNat : Nat) : Int) = b by omega] at this
  unfold tb
  rw [this, Int.toNat_natCast, Nat.testBit_and]
theorem rsAt_in {sx : List Variable} {e f : Edit} {v : Int} (hL : Lok sx) (h : maxOk sx [e, f] = true) {i : Nat} (hi : i < sx.length) : 0 ≤ rsAt v e.Sets f.Sets i ∧ rsAt v e.Sets f.Sets i ≤ full (vAt sx i) ∧ (1 ≤ gi e.Sets i ∧ gi e.Sets i ≤ 255) ∧ (1 ≤ gi f.Sets i ∧ gi f.Sets i ≤ 255) := by
  unfold maxOk at h
  rw [lOk2] at h
  simp only [Bool.and_eq_true] at h
  have h1 := (eOk_of h.2.1).2 i hi
  have h2 := (eOk_of h.2.2).2 i hi
  have hf := full_at hL hi
  rw [vAt_at hi] at h1 h2 ⊢
  have hfe : full sx[i] = ((2 ^ lv sx[i] : Nat) : Int) - 1 := rfl
  have ea : (((gi e.Sets i).toNat : Nat) : Int) = gi e.Sets i := by omega
  have eb : (((gi f.Sets i).toNat : Nat) : Int) = gi f.Sets i := by omega
  refine ⟨?_, ?_, ⟨h1.1, by omega⟩, ⟨h2.1, by omega⟩⟩
  all_goals unfold rsAt; split
  · have := or_nat (a := (gi e.Sets i).toNat) (b := (gi f.Sets i).toNat) (by omega) (by omega)
    rw [ea, eb] at this; rw [this]; omega
  · have := and_nat (a := (gi e.Sets i).toNat) (b := (gi f.Sets i).toNat) (by omega)
    rw [ea, eb] at this; rw [this]; omega
  · have := or_nat (a := (gi e.Sets i).toNat) (b := (gi f.Sets i).toNat) (by omega) (by omega)
    rw [ea, eb] at this; rw [this]
    have := Nat.or_lt_two_pow (x := (gi e.Sets i).toNat) (y := (gi f.Sets i).toNat) (n := lv sx[i]) (by omega) (by omega)
    omega
  · have := and_nat (a := (gi e.Sets i).toNat) (b := (gi f.Sets i).toNat) (by omega)
    rw [ea, eb] at this; rw [this]
    have : (gi e.Sets i).toNat &&& (gi f.Sets i).toNat ≤ (gi e.Sets i).toNat := Nat.and_le_left
    omega
theorem rs_len {sx : List Variable} {e f : Edit} (h : maxOk sx [e, f] = true) : e.Sets.length = sx.length ∧ f.Sets.length = sx.length := by
  unfold maxOk at h
  rw [lOk2] at h
  simp only [Bool.and_eq_true] at h
  exact ⟨(eOk_of h.2.1).1, (eOk_of h.2.2).1⟩
theorem wide2 {e f : Edit} (he : e.Sets.length ≤ 1048576) (hf : f.Sets.length ≤ 1048576) : ∀ x ∈ [e, f], x.Sets.length ≤ 1048576 := fun x hx => by
  simp only [List.mem_cons, List.not_mem_nil, or_false] at hx
  rcases hx with rfl | rfl
  · exact he
  · exact hf
theorem eResolve_ok {e f : Edit} {v : Int} {Q : Edit → Prop} (he : e.Sets.length ≤ 1048576) (hf : f.Sets.length = e.Sets.length) (hq : Q ⟨rsv v e.Sets f.Sets⟩) : spec_eResolve e f v Q := by
  unfold spec_eResolve
  refine loop2_listF (by omega) (fun o i => o = (List.range i).map (rsAt v e.Sets f.Sets)) rfl ?_ ?_
  · rintro _ i nx hi rfl hx
    have key : ∀ x, x = rsAt v e.Sets f.Sets i → (ln ((List.range i).map (rsAt v e.Sets f.Sets)) + ln [x]) * 8 ≤ 140737488355328 ∧ nx (wr ((i : Int) + 1)) ((List.range i).map (rsAt v e.Sets f.Sets) ++ [x]) := fun x hx' => by
      subst hx'
      refine ⟨by unfold ln; simp; omega, hx _ ?_⟩
      rw [List.range_succ, List.map_append]; rfl
    refine jn_of (idx_at hi (br_eq (fun g => idx_at (by omega) (key _ ?_)) (fun g => idx_at (by omega) (key _ ?_))))
    · unfold rsAt; rw [if_pos g, gi_at hi, gi_at (by omega)]
    · unfold rsAt; rw [if_neg g, gi_at hi, gi_at (by omega)]
  · rintro _ rfl; exact hq
theorem sResolve_ok {sx : List Variable} {e f : Edit} {v : Int} {Q : Edit → Bool → Prop} (hl : sx.length ≤ 1048576) (hs : ∀ x ∈ sx, x.Name.size ≤ 1048576) (he : e.Sets.length ≤ 1048576) (hf : f.Sets.length ≤ 1048576)
    (hq : Q (rsR sx e f v) (rsOk sx e f v)) : spec_ResolveEdits sx e f v Q := by
  unfold spec_ResolveEdits
  refine jn_bool (!rsG sx e f v) ?_ fun k hk => eSmall_ok hl hs (by simp) (wide2 he hf) (br_nb (fun g => ?_) (fun g => l1In_ok ?_))
  · refine br_nb (fun g => ?_) (fun g => ?_)
    · unfold rsR rsOk at hq; rw [g] at hq; exact hq
    · have g0 := g
      unfold rsG at g0
      simp only [Bool.and_eq_true] at g0
      have ⟨hL, _, _⟩ := maxOk_of g0.1
      have ⟨l1, l2⟩ := rs_len g0.1
      unfold rsR rsOk at hq; rw [g, Bool.true_and] at hq
      refine eResolve_ok he (by show f.Sets.length = e.Sets.length; omega) (eGood_ok hL (by dsimp only; rw [rsv_len]; exact he) (br_nb (fun g1 => ?_) (fun g1 => ?_)))
      · rw [g1] at hq; exact hq
      · rw [g1, if_pos rfl] at hq; exact hq
  · have : rsG sx e f v = false := by unfold rsG maxOk; rw [g]; rfl
    rw [this] at hk; exact hk
  · have : rsG sx e f v = (decide (0 ≤ v) && decide (v ≤ wr (ln sx - 1))) := by
      unfold rsG maxOk
      rw [g, wr_in (by unfold ln; omega) (by unfold ln; omega)]; rfl
    rw [this] at hk; exact hk
theorem iResolve_ok {sx : List Variable} {e f : Edit} {v : Int} {Q : Edit → Bool → Prop} (hl : sx.length ≤ 1048576) (he : e.Sets.length ≤ 1048576) (hf : f.Sets.length ≤ 1048576)
    (hq : Q (rsR sx e f v) (rsOk sx e f v)) : impl_ResolveEdits sx e f v Q := by
  unfold impl_ResolveEdits
  refine jn_bool (!rsG sx e f v) ?_ fun k hk => isSmall_ok hl (br_nb (fun g => ?_) (fun g => isEdit_ok (smOk_of g).1 he (br_nb (fun g1 => ?_) (fun g1 => isEdit_ok (smOk_of g).1 hf (br_nb (fun g2 => ?_) (fun g2 => ?_))))))
  · refine br_nb (fun g => ?_) (fun g => ?_)
    · unfold rsR rsOk at hq; rw [g] at hq; exact hq
    · have g0 := g
      unfold rsG at g0
      simp only [Bool.and_eq_true] at g0
      have ⟨hL, _, _⟩ := maxOk_of g0.1
      have ⟨l1, l2⟩ := rs_len g0.1
      have h6 := hL.1
      unfold rsR rsOk at hq; rw [g, Bool.true_and] at hq
      refine Clone_ok he (loop2_list (by show f.Sets.length ≤ _; omega) (fun o i => o = (rsv v e.Sets f.Sets).take i ++ e.Sets.drop i ∧ ∀ j, j < i → rsAt v e.Sets f.Sets j ≠ 0) ⟨by simp, fun j hj => by omega⟩ ?_ ?_)
      · rintro _ i nx hi ⟨rfl, hne⟩ hx
        have hrl := rsv_len (v := v) (e := e.Sets) (f := f.Sets)
        have hol : ((rsv v e.Sets f.Sets).take i ++ e.Sets.drop i).length = e.Sets.length := by rw [List.length_append, List.length_take, List.length_drop]; omega
        have hg : ∀ (h : i < ((rsv v e.Sets f.Sets).take i ++ e.Sets.drop i).length), ((rsv v e.Sets f.Sets).take i ++ e.Sets.drop i)[i] = gi e.Sets i := fun h => by
          rw [List.getElem_append_right (by rw [List.length_take]; omega), gi_at (by omega)]
          simp only [List.length_take, List.getElem_drop]
          congr 1; omega
        have hset : ((rsv v e.Sets f.Sets).take i ++ e.Sets.drop i).set i (rsAt v e.Sets f.Sets i) = (rsv v e.Sets f.Sets).take (i + 1) ++ e.Sets.drop (i + 1) := by
          rw [List.set_append_right _ _ (by rw [List.length_take]; omega), List.take_succ_eq_append_getElem (by omega), List.append_assoc]
          congr 1
          rw [List.drop_eq_getElem_cons (show i < e.Sets.length by omega), List.length_take, show i - min i (rsv v e.Sets f.Sets).length = 0 by omega, List.set_cons_zero]
          have := rsv_at (v := v) (f := f.Sets) (show i < e.Sets.length by omega)
          rw [gi_at (by omega)] at this
          rw [this]; rfl
        have key : ∀ x, x = rsAt v e.Sets f.Sets i → idx (((rsv v e.Sets f.Sets).take i ++ e.Sets.drop i).set i x) (i : Int) fun x198 => br (x198 == 0) (Q ⟨[]⟩ false) (nx (((rsv v e.Sets f.Sets).take i ++ e.Sets.drop i).set i x) (wr ((i : Int) + 1))) := fun x hx' => by
          subst hx'
          refine idx_at (by rw [List.length_set]; omega) ?_
          rw [List.getElem_set_self]
          refine br_eq (fun g3 => ?_) (fun g3 => hx _ ⟨hset, fun j hj => ?_⟩)
          · have : eOk sx ⟨rsv v e.Sets f.Sets⟩ = false := by
              unfold eOk
              rw [range_all_no (i := i) (by omega) ?_, Bool.and_false]
              show inb 1 _ (gi (rsv v e.Sets f.Sets) i) = false
              rw [rsv_at (by omega), g3]; rfl
            rw [this] at hq; exact hq
          · rcases Nat.lt_or_ge j i with h | h
            · exact hne j h
            · have : j = i := by omega
              subst this; exact g3
        refine idx_at hi (jn_of (br_eq (fun g3 => idx_at (by omega) ⟨by omega, by omega, key _ ?_⟩) (fun g3 => idx_at (by omega) ⟨by omega, by omega, key _ ?_⟩)))
        · rw [hg]; unfold rsAt; rw [if_pos g3, gi_at (show i < f.Sets.length by omega)]
        · rw [hg]; unfold rsAt; rw [if_neg g3, gi_at (show i < f.Sets.length by omega)]
      · rintro _ ⟨rfl, hne⟩
        have hrl := rsv_len (v := v) (e := e.Sets) (f := f.Sets)
        have e1 : (rsv v e.Sets f.Sets).take f.Sets.length ++ e.Sets.drop f.Sets.length = rsv v e.Sets f.Sets := by
          rw [List.take_of_length_le (by omega), List.drop_of_length_le (by omega), List.append_nil]
        rw [e1]
        have : eOk sx ⟨rsv v e.Sets f.Sets⟩ = true := by
          unfold eOk
          simp only [Bool.and_eq_true, decide_eq_true_eq]
          refine ⟨by omega, List.all_eq_true.2 fun i hi => ?_⟩
          have hi := List.mem_range.1 hi
          have hin := rsAt_in (v := v) hL g0.1 hi
          have := hne i (by omega)
          rw [inb_iff', rsv_at (by omega)]
          omega
        rw [this, if_pos rfl] at hq; exact hq
  · have : rsG sx e f v = false := by unfold rsG maxOk; rw [g]; rfl
    rw [this] at hk; exact hk
  · have g1' : eOk sx e = false := g1
    have : rsG sx e f v = false := by unfold rsG maxOk; rw [lOk2, g1', Bool.false_and, Bool.and_false]; rfl
    rw [this] at hk; exact hk
  · have g2' : eOk sx f = false := g2
    have : rsG sx e f v = false := by unfold rsG maxOk; rw [lOk2, g2', Bool.and_false, Bool.and_false]; rfl
    rw [this] at hk; exact hk
  · have g1' : eOk sx e = true := g1
    have g2' : eOk sx f = true := g2
    have key : rsG sx e f v = inb 0 ((sx.length : Int) - 1) v := by unfold rsG maxOk; rw [lOk2, g1', g2', g]; rfl
    rw [key] at hk
    refine br_dec (fun g3 => ?_) (fun g3 => ?_)
    · have : inb 0 ((sx.length : Int) - 1) v = false := by unfold inb; rw [decide_eq_false (by omega)]; rfl
      rw [this] at hk; exact hk
    · have : decide (v ≥ ln sx) = !inb 0 ((sx.length : Int) - 1) v := by
        unfold inb ln
        rw [decide_eq_true (show 0 ≤ v by omega), Bool.true_and, ← decide_not]
        congr 1; simp; omega
      rw [this]; exact hk
theorem rs_imp {sx : List Variable} {e f : Edit} {v : Int} (h : rsOk sx e f v = true) : impOk sx [e, f] (rsR sx e f v) = true ∧ impB sx [e, f] (rsR sx e f v).Sets = true := by
  unfold rsR; rw [h, if_pos rfl]
  unfold rsOk rsG at h
  simp only [Bool.and_eq_true] at h
  have ⟨hL, _, _⟩ := maxOk_of h.1.1
  have ⟨l1, l2⟩ := rs_len h.1.1
  refine ⟨by unfold impOk; rw [h.1.1, h.2]; rfl, ?_⟩
  unfold impB
  refine List.all_eq_true.2 fun i hi => ?_
  cases hb : boxIn (rsv v e.Sets f.Sets) (vals sx i) with
  | false => rfl
  | true =>
    have hvl := vals_length sx i
    have hbb := boxIn_iff.1 hb
    have hat : ∀ j, j < sx.length → ((j : Int) = v → tb (gi e.Sets j) (gi (vals sx i) j) = true ∨ tb (gi f.Sets j) (gi (vals sx i) j) = true) ∧ ((j : Int) ≠ v → tb (gi e.Sets j) (gi (vals sx i) j) = true ∧ tb (gi f.Sets j) (gi (vals sx i) j) = true) := fun j hj => by
      have h1 := hbb j (by omega)
      have h2 := rsAt_in (v := v) hL h.1.1 hj
      rw [rsv_at (by omega)] at h1
      unfold rsAt at h1
      refine ⟨fun c => ?_, fun c => ?_⟩
      · rw [if_pos c, tb_or (by omega) (by omega)] at h1
        simpa using h1
      · rw [if_neg c, tb_and (by omega) (by omega)] at h1
        simpa using h1
    have : failsB [e, f] (vals sx i) = true := by
      by_cases hv : ∃ j, j < sx.length ∧ (j : Int) = v ∧ tb (gi e.Sets j) (gi (vals sx i) j) = false
      · obtain ⟨j, hj, hjv, hf⟩ := hv
        refine List.any_eq_true.2 ⟨f, by simp, boxIn_iff.2 fun m hm => ?_⟩
        by_cases c : (m : Int) = v
        · have : m = j := by omega
          subst this
          rcases (hat m hj).1 c with a | a
          · rw [hf] at a; cases a
          · exact a
        · exact ((hat m (by omega)).2 c).2
      · refine List.any_eq_true.2 ⟨e, by simp, boxIn_iff.2 fun m hm => ?_⟩
        by_cases c : (m : Int) = v
        · cases ht : tb (gi e.Sets m) (gi (vals sx i) m) with
          | true => rfl
          | false => exact absurd ⟨m, by omega, c, ht⟩ hv
        · exact ((hat m (by omega)).2 c).1
    rw [this]; rfl
theorem rsR_len {sx : List Variable} {e f : Edit} {v : Int} (he : e.Sets.length ≤ 1048576) : (rsR sx e f v).Sets.length ≤ 1048576 := by
  unfold rsR
  split
  · dsimp only; rw [rsv_len]; exact he
  · simp
end Go.Proofs.Ytdaojggigfnnpaa
