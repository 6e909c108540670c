/- The reference's fillings: the search for a path, a greatest filling, a flow, if there is one. -/
import Derived.Test.YtommbnkecafodaaFV
set_option linter.unusedVariables false
set_option autoImplicit false
namespace Go.Proofs.Ytommbnkecafodaa
open Go Go.RowKit Go.Gv

def unr (N : Nat) (l : List Int) : Nat := sN N fun v => if l.getD v 0 = -2 then 1 else 0
structure Ag (N n : Nat) (rm : Nat → Nat → Int) (rows : Nat → Int) (fromx queue : List Int) (d : Nat → Nat) (M : Nat) : Prop where
  fl : fromx.length = N
  cs : ∀ v, v < N → fromx.getD v 0 = -2 ∨ (fromx.getD v 0 = -1 ∧ v < n ∧ 0 < rows v) ∨ ∃ u : Nat, u < N ∧ fromx.getD v 0 = (u : Int) ∧ fromx.getD u 0 ≠ -2 ∧ d u < d v ∧ 0 < rm u v
  lt : ∀ v, v < N → fromx.getD v 0 ≠ -2 → d v < M
  qu : ∀ q ∈ queue, ∃ u : Nat, u < N ∧ q = (u : Int) ∧ fromx.getD u 0 ≠ -2
  all : ∀ v, v < N → fromx.getD v 0 ≠ -2 → (v : Int) ∈ queue
  rw : ∀ v, v < n → 0 < rows v → fromx.getD v 0 ≠ -2
  ct : unr N fromx + queue.length ≤ N
theorem Ag.add {N n u v M : Nat} {rm : Nat → Nat → Int} {rows : Nat → Int} {fromx queue : List Int} {d : Nat → Nat} (A : Ag N n rm rows fromx queue d M) (hu : u < N) (hv : v < N) (hfu : fromx.getD u 0 ≠ -2) (hfv : fromx.getD v 0 = -2) (hr : 0 < rm u v) :
    Ag N n rm rows (fromx.set v (u : Int)) (queue ++ [(v : Int)]) (fun x => if x = v then M else d x) (M + 1) := by
  have hl := A.fl
  have keep : ∀ w, fromx.getD w 0 ≠ -2 → w ≠ v := fun w hw e => by subst e; exact hw hfv
  have gs : ∀ w, (fromx.set v (u : Int)).getD w 0 = if w = v then (u : Int) else fromx.getD w 0 := fun w => getD_set (by omega)
  have kp : ∀ w, fromx.getD w 0 ≠ -2 → (fromx.set v (u : Int)).getD w 0 ≠ -2 := fun w hw => by rw [gs, if_neg (keep w hw)]; exact hw
  refine ⟨by rw [List.length_set]; exact hl, fun w hw => ?_, fun w hw h => ?_, fun q hq => ?_, fun w hw h => ?_, fun w hw h => kp w (A.rw w hw h), ?_⟩
  · rw [gs]
    by_cases c : w = v
    · subst c
      refine .inr (.inr ⟨u, hu, if_pos rfl, kp u hfu, ?_, hr⟩)
      show (if u = w then M else d u) < (if w = w then M else d w)
      rw [if_neg (keep u hfu), if_pos rfl]; exact A.lt u hu hfu
    · rw [if_neg c]
      rcases A.cs w hw with h | h | ⟨x, h1, h2, h3, h4, h5⟩
      · exact .inl h
      · exact .inr (.inl h)
      · refine .inr (.inr ⟨x, h1, h2, kp x h3, ?_, h5⟩)
        show (if x = v then M else d x) < (if w = v then M else d w)
        rw [if_neg (keep x h3), if_neg c]; exact h4
  · rw [gs] at h
    show (if w = v then M else d w) < M + 1
    by_cases c : w = v
    · rw [if_pos c]; omega
    · rw [if_neg c] at h ⊢; have := A.lt w hw h; omega
  · rcases List.mem_append.1 hq with hq | hq
    · obtain ⟨x, h1, h2, h3⟩ := A.qu q hq
      exact ⟨x, h1, h2, kp x h3⟩
    · rw [List.mem_singleton] at hq
      exact ⟨v, hv, hq, by rw [gs, if_pos rfl]; omega⟩
  · rw [gs] at h
    by_cases c : w = v
    · subst c; simp
    · rw [if_neg c] at h
      exact List.mem_append.2 (.inl (A.all w hw h))
  · have : unr N fromx = unr N (fromx.set v (u : Int)) + 1 := by
      unfold unr
      refine sN_but hv ?_ fun i hi hn => ?_
      · rw [gs, if_pos rfl, if_pos hfv, if_neg (by omega)]
      · rw [gs, if_neg hn]
    have := A.ct
    rw [List.length_append]; simp; omega
theorem Ag.chain {N n M : Nat} {rm : Nat → Nat → Int} {rows : Nat → Int} {fromx queue : List Int} {d : Nat → Nat} (A : Ag N n rm rows fromx queue d M) : ∀ (k e : Nat), d e ≤ k → e < N → fromx.getD e 0 ≠ -2 → ∃ K c, Ch n N fromx rm rows d e K c := by
  have base : ∀ e, e < N → fromx.getD e 0 = -1 → e < n → 0 < rows e → ∃ K c, Ch n N fromx rm rows d e K c := fun e he h1 h2 h3 =>
    ⟨0, fun _ => e, A.fl, rfl, fun _ _ => he, fun j hj => by omega, h1, h2, h3⟩
  intro k
  induction k with
  | zero =>
    intro e hd he hf
    rcases A.cs e he with h | h | ⟨u, h1, h2, h3, h4, h5⟩
    · exact (hf h).elim
    · exact base e he h.1 h.2.1 h.2.2
    · omega
  | succ k ih =>
    intro e hd he hf
    rcases A.cs e he with h | h | ⟨u, h1, h2, h3, h4, h5⟩
    · exact (hf h).elim
    · exact base e he h.1 h.2.1 h.2.2
    · obtain ⟨K, c, C⟩ := ih u (by omega) h1 h3
      refine ⟨K + 1, fun j => Nat.casesOn j e c, A.fl, rfl, fun j hj => ?_, fun j hj => ?_, C.en, C.row, C.pos⟩
      · cases j with
        | zero => exact he
        | succ j => exact C.lt j (by omega)
      · cases j with
        | zero => refine ⟨?_, ?_, ?_⟩ <;> simp only [C.c0] <;> assumption
        | succ j => exact C.st j (by omega)
theorem augment_ok {t : Transport} {n m : Nat} {X : List (List Int)} {rows cols : List Int} {Q : Bool → List (List Int) → List Int → List Int → Prop} (g : Gd t n m) (F : Fs t n m X rows cols)
    (h0 : (∀ y, FI t n m y → sm n (fun i => sm m (y i)) ≤ sm n (fun i => sm m (mt X i))) → Q false X rows cols)
    (h1 : ∀ X' rows' cols', Fs t n m X' rows' cols' → sm n (fun i => rows'.getD i 0) < sm n (fun i => rows.getD i 0) → Q true X' rows' cols') : spec_tFill_augment (TFill.mk t X rows cols) Q := by
  unfold spec_tFill_augment
  dsimp only
  have hn8 := g.n8; have hm8 := g.m8; have rl := F.rl; have cl := F.cl
  have er : ln rows = (n : Int) := by unfold ln; rw [rl]
  have ec : ln cols = (m : Int) := by unfold ln; rw [cl]
  have eN : wr (ln rows + ln cols) = ((n + m : Nat) : Int) := by rw [er, ec, wr_in (by omega) (by omega)]; omega
  rw [eN, er]
  refine ⟨by omega, by omega, ?_⟩
  rw [Int.toNat_natCast]
  refine loop3_list (xs := List.replicate (n + m) (0 : Int)) (by rw [List.length_replicate]; omega)
    (fun fromx queue i => fromx.length = n + m ∧ (∀ v, v < i → fromx.getD v 0 = if v < n ∧ 0 < rows.getD v 0 then -1 else -2) ∧ (∀ q ∈ queue, ∃ u : Nat, u < i ∧ q = (u : Int) ∧ fromx.getD u 0 ≠ -2) ∧ (∀ v, v < i → fromx.getD v 0 ≠ -2 → (v : Int) ∈ queue) ∧ (sN i fun v => if fromx.getD v 0 = -2 then 1 else 0) + queue.length = i)
    ⟨by rw [List.length_replicate], fun v hv => by omega, fun q hq => by simp at hq, fun v hv => by omega, rfl⟩ (fun fromx queue i nx hi ⟨k1, k2, k3, k4, k5⟩ hn => ?_) (fun fromx queue ⟨k1, k2, k3, k4, k5⟩ => ?_)
  · rw [List.length_replicate] at hi
    have hq : queue.length ≤ i := by omega
    have gs2 : ∀ v, (fromx.set i (-2)).getD v 0 = if v = i then -2 else fromx.getD v 0 := fun v => getD_set (by omega)
    have gs1 : ∀ v, ((fromx.set i (-2)).set i (-1)).getD v 0 = if v = i then -1 else fromx.getD v 0 := fun v => by
      rw [getD_set (by rw [List.length_set]; omega)]
      by_cases c : v = i
      · rw [if_pos c, if_pos c]
      · rw [if_neg c, if_neg c, gs2, if_neg c]
    by_cases c : i < n ∧ 0 < rows.getD i 0
    · refine jn_of ⟨by omega, by rw [Int.toNat_natCast]; omega, jn_bool true (br_true rfl ⟨by omega, by rw [Int.toNat_natCast, List.length_set]; omega, by unfold ln; simp; omega, ?_⟩) fun k hk => br_yes (by omega) (idx_gd (d := 0) rfl (by omega) (by rw [decide_eq_true (by omega)]; exact hk))⟩
      rw [Int.toNat_natCast]
      refine hn _ _ ⟨by rw [List.length_set, List.length_set]; exact k1, fun v hv => ?_, fun q hq' => ?_, fun v hv hne => ?_, ?_⟩
      · rw [gs1]
        by_cases e : v = i
        · subst e; rw [if_pos rfl, if_pos c]
        · rw [if_neg e]; exact k2 v (by omega)
      · rcases List.mem_append.1 hq' with q1 | q1
        · obtain ⟨u, a, b, e⟩ := k3 q q1
          exact ⟨u, by omega, b, by rw [gs1, if_neg (by omega)]; exact e⟩
        · rw [List.mem_singleton] at q1
          exact ⟨i, by omega, q1, by rw [gs1, if_pos rfl]; omega⟩
      · by_cases e : v = i
        · subst e; simp
        · rw [gs1, if_neg e] at hne
          exact List.mem_append.2 (.inl (k4 v (by omega) hne))
      · have q1 : (sN i fun v => if ((fromx.set i (-2)).set i (-1)).getD v 0 = -2 then 1 else 0) = sN i fun v => if fromx.getD v 0 = -2 then 1 else 0 := sN_congr fun v hv => by rw [gs1, if_neg (show ¬ v = i by omega)]
        have q2 : (if ((fromx.set i (-2)).set i (-1)).getD i 0 = -2 then 1 else 0) = 0 := by rw [gs1, if_pos rfl]; rfl
        show (sN i fun v => if ((fromx.set i (-2)).set i (-1)).getD v 0 = -2 then 1 else 0) + (if ((fromx.set i (-2)).set i (-1)).getD i 0 = -2 then 1 else 0) + _ = _
        rw [q1, q2, List.length_append, List.length_singleton]; omega
    · refine jn_of ⟨by omega, by rw [Int.toNat_natCast]; omega, jn_bool false (br_false rfl ?_) fun k hk => br_dec (fun c2 => idx_gd (d := 0) rfl (by omega) (by rw [decide_eq_false (fun c3 => c ⟨by omega, by omega⟩)]; exact hk)) (fun _ => hk)⟩
      rw [Int.toNat_natCast]
      refine hn _ _ ⟨by rw [List.length_set]; exact k1, fun v hv => ?_, fun q hq' => ?_, fun v hv hne => ?_, ?_⟩
      · rw [gs2]
        by_cases e : v = i
        · subst e; rw [if_pos rfl, if_neg c]
        · rw [if_neg e]; exact k2 v (by omega)
      · obtain ⟨u, a, b, e⟩ := k3 q hq'
        exact ⟨u, by omega, b, by rw [gs2, if_neg (by omega)]; exact e⟩
      · by_cases e : v = i
        · rw [gs2, if_pos e] at hne; exact (hne rfl).elim
        · rw [gs2, if_neg e] at hne
          exact k4 v (by omega) hne
      · have q1 : (sN i fun v => if (fromx.set i (-2)).getD v 0 = -2 then 1 else 0) = sN i fun v => if fromx.getD v 0 = -2 then 1 else 0 := sN_congr fun v hv => by rw [gs2, if_neg (show ¬ v = i by omega)]
        have q2 : (if (fromx.set i (-2)).getD i 0 = -2 then 1 else 0) = 1 := by rw [gs2, if_pos rfl]; rfl
        show (sN i fun v => if (fromx.set i (-2)).getD v 0 = -2 then 1 else 0) + (if (fromx.set i (-2)).getD i 0 = -2 then 1 else 0) + _ = _
        rw [q1, q2]; omega
  rw [List.length_replicate] at k2 k3 k4 k5
  refine ⟨fun fromx queue at' => ∃ (a : Nat) (d : Nat → Nat) (M : Nat), at' = (a : Int) ∧ a ≤ queue.length ∧ Ag (n + m) n (rm2 t n m X) (fun i => rows.getD i 0) fromx queue d M ∧
      ∀ i, i < a → ∀ u : Nat, queue.getD i 0 = (u : Int) → (∀ j, j < m → u = n + j → cols.getD j 0 ≤ 0) ∧ ∀ k, k < n + m → 0 < rm2 t n m X u k → fromx.getD k 0 ≠ -2, fun _ _ at' => n + m - at'.toNat,
    ⟨0, fun _ => 0, 1, rfl, Nat.zero_le _, ⟨k1, fun v hv => ?_, fun _ _ _ => Nat.lt_succ_self _, k3, k4, fun v hv hp => ?_, by unfold unr; omega⟩, fun i hi => by omega⟩, ?_⟩
  · rw [k2 v hv]
    by_cases c : v < n ∧ 0 < rows.getD v 0
    · exact .inr (.inl ⟨if_pos c, c⟩)
    · exact .inl (if_neg c)
  · rw [k2 v (by omega), if_pos ⟨hv, hp⟩]; omega
  rintro fromx2 queue2 _ ⟨a, d, M, rfl, ha, A, pr⟩
  have hql : queue2.length ≤ n + m := by have := A.ct; omega
  refine br_dec (fun c => ?_) (fun c => ?_)
  · have ha' : a < queue2.length := by unfold ln at c; omega
    obtain ⟨u, hu, eu, hfu⟩ := A.qu (queue2.getD a 0) (by
      have : queue2.getD a 0 = queue2[a] := by simp [ha']
      rw [this]; exact List.getElem_mem ha')
    refine idx_gd (i := a) (d := 0) rfl ha' ?_
    rw [eu]
    have inner : (∀ j, j < m → u = n + j → cols.getD j 0 ≤ 0) → Loop3 (fun (fromx386 : List Int) (queue392 : List Int) (k398 : Int) nx411 =>
        br (decide (k398 < ((n + m : Nat) : Int))) (jn (fun (k478 : (List Int) → (List Int) → Prop) => jn (fun (k483 : Bool → Prop) => idx fromx386 k398 fun x485 =>
        br (x485 == ((-2))) (spec_tFill_room (TFill.mk t X rows cols) u k398 fun r495 => k483 (decide (r495 > 0))) <| k483 false) <| fun (x480 : Bool) =>
        br (x480) ((0 : Int) ≤ k398 ∧ Int.toNat k398 < List.length fromx386 ∧ ((ln queue392 + ln ([k398])) * 8 ≤ 140737488355328 ∧ (k478 (List.set fromx386 (Int.toNat k398) u) (queue392 ++ ([k398]))))) <|
        k478 fromx386 queue392) <| fun (fromx457 : List Int) (queue463 : List Int) => nx411 fromx457 queue463 (wr (k398 + 1))) <|
        (∃ (a' : Nat) (d : Nat → Nat) (M : Nat), wr ((a : Int) + 1) = (a' : Int) ∧ a' ≤ queue392.length ∧ Ag (n + m) n (rm2 t n m X) (fun i => rows.getD i 0) fromx386 queue392 d M ∧
      ∀ i, i < a' → ∀ u : Nat, queue392.getD i 0 = (u : Int) → (∀ j, j < m → u = n + j → cols.getD j 0 ≤ 0) ∧ ∀ k, k < n + m → 0 < rm2 t n m X u k → fromx386.getD k 0 ≠ -2) ∧ n + m - (wr ((a : Int) + 1)).toNat < n + m - (a : Int).toNat) fromx2 queue2 0 := fun hcol => by
      refine loop3_to (n := ((n + m : Nat) : Int)) (by omega) (fun f q k => ∃ d M, Ag (n + m) n (rm2 t n m X) (fun i => rows.getD i 0) f q d M ∧ (∃ ext, q = queue2 ++ ext) ∧ (∀ v, v < n + m → fromx2.getD v 0 ≠ -2 → f.getD v 0 ≠ -2) ∧ ∀ k', k' < k → k' < n + m → 0 < rm2 t n m X u k' → f.getD k' 0 ≠ -2)
        ⟨d, M, A, ⟨[], by simp⟩, fun v hv h => h, fun k' hk' => by omega⟩ (fun f q k nx hk ⟨d', M', A', ⟨ext, he⟩, mono, dn⟩ hnx => ?_) (fun f q k hk ⟨d', M', A', ⟨ext, he⟩, mono, dn⟩ => ?_)
      · have hk' : k < n + m := by omega
        have hql' : q.length ≤ n + m := by have := A'.ct; omega
        by_cases c3 : f.getD k 0 = -2 ∧ 0 < rm2 t n m X u k
        · refine jn_of (jn_bool true (br_true rfl ⟨by omega, by rw [Int.toNat_natCast, A'.fl]; exact hk', by unfold ln; simp; omega, ?_⟩) fun k0 hk0 => idx_gd (d := 0) rfl (by rw [A'.fl]; exact hk') (br_eq (fun _ => room_ok g F hu hk' (by rw [decide_eq_true c3.2]; exact hk0)) (fun hne => (hne c3.1).elim)))
          rw [Int.toNat_natCast]
          have gs : ∀ w, (f.set k (u : Int)).getD w 0 = if w = k then (u : Int) else f.getD w 0 := fun w => getD_set (by rw [A'.fl]; exact hk')
          have kp : ∀ w, f.getD w 0 ≠ -2 → (f.set k (u : Int)).getD w 0 ≠ -2 := fun w hw => by rw [gs]; split <;> omega
          refine hnx _ _ ⟨_, _, A'.add hu hk' (mono u hu hfu) c3.1 c3.2, ⟨ext ++ [(k : Int)], by rw [he, List.append_assoc]⟩, fun v hv h => kp v (mono v hv h), fun k' h1 h2 h3 => ?_⟩
          by_cases e : k' = k
          · rw [e, gs, if_pos rfl]; omega
          · exact kp k' (dn k' (by omega) h2 h3)
        · refine jn_of (jn_bool false (br_false rfl (hnx _ _ ⟨d', M', A', ⟨ext, he⟩, mono, fun k' h1 h2 h3 => ?_⟩)) fun k0 hk0 => idx_gd (d := 0) rfl (by rw [A'.fl]; exact hk') (br_eq (fun e => room_ok g F hu hk' (by rw [decide_eq_false (fun hp => c3 ⟨e, hp⟩)]; exact hk0)) (fun _ => hk0)))
          by_cases e : k' = k
          · rw [e] at h3 ⊢; exact fun h4 => c3 ⟨h4, h3⟩
          · exact dn k' (by omega) h2 h3
      · rw [wr_in (by omega) (by omega)]
        have kN : k = n + m := by rw [hk, Int.toNat_natCast]
        have pre : ∀ i, i < queue2.length → q.getD i 0 = queue2.getD i 0 := fun i hi => by
          rw [he, List.getD_eq_getElem?_getD, List.getElem?_append_left hi, ← List.getD_eq_getElem?_getD]
        refine ⟨⟨a + 1, d', M', by omega, by rw [he, List.length_append]; omega, A', fun i hi u' hu' => ?_⟩, by omega⟩
        rw [pre i (by omega)] at hu'
        by_cases e : i = a
        · subst e
          have : u' = u := by rw [eu] at hu'; omega
          subst this
          exact ⟨hcol, fun k' h1 h2 => dn k' (by omega) h1 h2⟩
        · obtain ⟨p1, p2⟩ := pr i (by omega) u' hu'
          exact ⟨p1, fun k' h1 h2 => mono k' h1 (p2 k' h1 h2)⟩
    rcases node hu with z | ⟨jj, hjj, ej⟩
    · refine jn_bool false (br_false rfl (inner fun j hj e => by omega)) fun k hk => br_no (by omega) hk
    · have ew : wr ((u : Int) - (n : Int)) = (jj : Int) := by rw [wr_in (by omega) (by omega)]; omega
      by_cases c4 : 0 < cols.getD jj 0
      · refine jn_bool true (br_true rfl ?_) fun k hk => br_yes (by omega) (by rw [ew]; exact idx_gd (d := 0) rfl (by omega) (by rw [decide_eq_true (by omega)]; exact hk))
        obtain ⟨K, ch, C⟩ := A.chain (d u) u (Nat.le_refl _) hu hfu
        subst ej
        exact tpush_ok g F C hjj c4 h1
      · refine jn_bool false (br_false rfl (inner fun j hj e => ?_)) fun k hk => br_yes (by omega) (by rw [ew]; exact idx_gd (d := 0) rfl (by omega) (by rw [decide_eq_false (by omega)]; exact hk))
        have : j = jj := by omega
        subst this; omega
  · have hae : a = queue2.length := by unfold ln at c; omega
    refine h0 fun y fy => ?_
    have done : ∀ v, v < n + m → fromx2.getD v 0 ≠ -2 → (∀ j, j < m → v = n + j → cols.getD j 0 ≤ 0) ∧ ∀ k, k < n + m → 0 < rm2 t n m X v k → fromx2.getD k 0 ≠ -2 := fun v hv h => by
      obtain ⟨i, hi, e⟩ := List.mem_iff_getElem.1 (A.all v hv h)
      exact pr i (by omega) v (by simp [hi, e])
    refine fill_cut (R := fun i => t.Rows.getD i 0) (C := fun j => t.Cols.getD j 0) (lo := mt t.Lo) (hi := mt t.Hi) (x := mt X) (fun i => decide (fromx2.getD i 0 ≠ -2)) (fun j => decide (fromx2.getD (n + j) 0 ≠ -2)) (fun i j hi hj p1 p2 => ?_) (fun i j hi hj p1 p2 => ?_) (fun i hi p1 => ?_) (fun j hj p1 => ?_) fy.bd fy.row fy.col
    · have q1 := of_decide_eq_true p1; have q2 := of_decide_eq_false p2
      have q3 : ¬ 0 < rm2 t n m X i (n + j) := fun hp => q2 ((done i (by omega) q1).2 (n + j) (by omega) hp)
      unfold rm2 at q3; rw [rs_rc hi hj, if_pos rfl] at q3; omega
    · have q1 := of_decide_eq_false p1; have q2 := of_decide_eq_true p2
      have q3 : ¬ 0 < rm2 t n m X (n + j) i := fun hp => q1 ((done (n + j) (by omega) q2).2 i (by omega) hp)
      unfold rm2 at q3; rw [rs_cr hi hj, if_pos rfl] at q3; omega
    · have q1 := of_decide_eq_false p1
      have q3 : ¬ 0 < rows.getD i 0 := fun hp => q1 (A.rw i hi hp)
      have := F.row i hi
      show t.Rows.getD i 0 ≤ _; omega
    · have q1 := of_decide_eq_true p1
      have q3 := (done (n + j) (by omega) q1).1 j hj rfl
      have := F.col j hj
      show t.Cols.getD j 0 ≤ _; omega
theorem tFilled_ok {t : Transport} {n m : Nat} {Q : TFill → Bool → Prop} (g : Gd t n m) (h0 : (∀ y, ¬ FI t n m y) → ∀ f, Q f false)
    (h1 : ∀ X rows cols, Fs t n m X rows cols → (∀ y, FI t n m y → sm n (fun i => sm m (y i)) ≤ sm n (fun i => sm m (mt X i))) → Q (TFill.mk t X rows cols) true) : spec_tFilled t Q := by
  unfold spec_tFilled
  refine tStart_ok g (fun hno f => br_true rfl (h0 hno _)) fun rows cols F => br_false rfl ?_
  refine ⟨fun X rows cols => Fs t n m X rows cols, fun _ rows _ => (sm n (fun i => rows.getD i 0)).toNat, F, ?_⟩
  intro X' rows' cols' F'
  refine augment_ok (t := t) g F' (fun hmax => br_false rfl (h1 X' rows' cols' F' hmax)) fun X2 rows2 cols2 F2 hlt => br_true rfl ⟨F2, ?_⟩
  have : 0 ≤ sm n (fun i => rows2.getD i 0) := sm_nonneg F2.r0
  show (sm n (fun i => rows2.getD i 0)).toNat < (sm n (fun i => rows'.getD i 0)).toNat
  omega
theorem feasible_ok {t : Transport} {n m : Nat} {Q : List (List Int) → Bool → Prop} (g : Gd t n m) (h0 : (∀ y, ¬ Fl t n m y) → Q [] false) (h1 : ∀ x, Sh n m x → Fl t n m (mt x) → Q x true) : spec_tFeasible t Q := by
  unfold spec_tFeasible
  refine det1_of (ls t.Rows) (tSum_ok g.lr rfl) (det1_of (ls t.Cols) (tSum_ok g.lc rfl) ?_)
  rw [ls_rows g, ls_cols g]
  refine br_ne (fun c => h0 fun y fy => c ?_) (fun c => ?_)
  · have h2 : sm n (fun i => sm m (y i)) = sm n (fun i => t.Rows.getD i 0) := sm_congr fy.row
    rw [sm_swap] at h2
    rw [← h2]; exact sm_congr fy.col
  refine tFilled_ok g (fun hno f => jn_bool true (br_true rfl (h0 fun y fy => hno y fy.fi)) fun k hk => br_true rfl hk) fun X rows cols F hmax => ?_
  have F' : Fs t n m X rows cols := F
  have hn8 := g.n8
  have lr : lim rows := ⟨by rw [F'.rl]; omega, fun i hi => by
    rw [F'.rl] at hi
    have := F'.r0 i hi; have := F'.row i hi; have := g.rw i hi
    have := sm_nonneg (n := m) (f := mt X i) (fun j hj => by have := F'.bd i j hi hj; have := g.bd i j hi hj; omega); omega⟩
  have els : ls rows = sm n (fun i => t.Rows.getD i 0) - sm n (fun i => sm m (mt X i)) := by
    unfold ls; rw [F'.rl, ← sm_sub]; exact sm_congr F'.row
  by_cases c2 : ls rows > 0
  · refine jn_bool true (br_true rfl (h0 fun y fy => ?_)) fun k hk => br_false rfl (tSum_ok lr (by rw [decide_eq_true c2]; exact hk))
    have h2 := hmax y fy.fi
    have h3 : sm n (fun i => sm m (y i)) = sm n (fun i => t.Rows.getD i 0) := sm_congr fy.row
    omega
  · refine jn_bool false (br_false rfl (h1 X F'.sh (fill_flow F'.bd (fun i hi => ?_) (fun j hj => ?_) c))) fun k hk => br_false rfl (tSum_ok lr (by rw [decide_eq_false c2]; exact hk))
    · have h4 := sm_eq_zero (n := n) (f := fun i => rows.getD i 0) F'.r0 (by unfold ls at c2; rw [F'.rl] at c2; omega) i hi
      have h5 : rows.getD i 0 = 0 := h4
      have := F'.row i hi; omega
    · have := F'.c0 j hj; have := F'.col j hj; show _ ≤ t.Cols.getD j 0; omega
end Go.Proofs.Ytommbnkecafodaa
