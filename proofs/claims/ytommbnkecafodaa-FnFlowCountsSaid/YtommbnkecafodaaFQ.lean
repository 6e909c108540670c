/- push: the search, and the whole. -/
import Derived.Test.YtommbnkecafodaaFP
set_option linter.unusedVariables false
set_option autoImplicit false
namespace Go.Proofs.Ytommbnkecafodaa
open Go Go.RowKit Go.Gv

theorem bfs_ok {N s t : Nat} {r : List (List Int)} {back0 : List Int} {E : List Int → Prop} (hr : Sh N N r) (hN : N ≤ 100) (hs : s < N) (ht : t < N) (hbl : back0.length = N) (hb0 : ∀ v, v < N → back0.getD v 0 = if v = s then (s : Int) else -1)
    (h : ∀ back queue d M, Bf N (mt r) s back queue d M → (0 ≤ back.getD t 0 ∨ (back.getD t 0 < 0 ∧ ∀ u v, u < N → v < N → 0 ≤ back.getD u 0 → back.getD v 0 < 0 → mt r u v ≤ 0)) → E back) :
    Loop2 (fun (back62 : List Int) (queue : List Int) nx83 =>
      jn (fun (k110 : Bool → Prop) => br (decide ((ln queue) > 0)) (idx back62 (t : Int) fun x113 =>
      k110 (decide (x113 < 0))) <|
      k110 false) <|
      fun (x108 : Bool) =>
      br (x108) (idx queue 0 fun x122 =>
      (0 : Int) ≤ 1 ∧ 1 ≤ ln queue ∧ (
      idx r x122 fun x136 =>
      Loop3 (fun (back148 : List Int) (queue154 : List Int) (x160 : Int) nx173 =>
      br (decide (x160 < (ln x136))) (jn (fun (k207 : (List Int) → (List Int) → Prop) => idx x136 x160 fun x209 =>
      jn (fun (k220 : Bool → Prop) => br (decide (x209 > 0)) (idx back148 x160 fun x223 =>
      k220 (decide (x223 < 0))) <|
      k220 false) <|
      fun (x218 : Bool) =>
      br (x218) ((0 : Int) ≤ x160 ∧ Int.toNat x160 < List.length back148 ∧ (
      (ln queue154 + ln ([x160])) * 8 ≤ 140737488355328 ∧ (
      k207 (List.set back148 (Int.toNat x160) x122) (queue154 ++ ([x160]))))) <|
      k207 back148 queue154) <|
      fun (back186 : List Int) (queue192 : List Int) =>
      nx173 back186 queue192 (wr (x160 + 1))) <|
      nx83 back148 queue154) back62 (List.drop (Int.toNat 1) queue) 0)) <|
      E back62) back0 [(s : Int)] := by
  refine ⟨fun back queue => (∃ d M, Bf N (mt r) s back queue d M) ∧ (∀ u, u < N → 0 ≤ back.getD u 0 → (u : Int) ∈ queue ∨ ∀ v, v < N → 0 < mt r u v → 0 ≤ back.getD v 0) ∧ 2 * und N back + queue.length ≤ 2 * N + 1, fun back queue => 2 * und N back + queue.length, ⟨⟨fun _ => 0, 1, ?_⟩, ?_, ?_⟩, ?_⟩
  · have hbs : back0.getD s 0 = (s : Int) := by rw [hb0 s hs, if_pos rfl]
    refine ⟨hbl, hbs, fun v hv hn h1 => ?_, fun v hv h1 => Nat.lt_succ_self _, fun q hq => ?_⟩
    · rw [hb0 v hv, if_neg hn] at h1; omega
    · rw [List.mem_singleton] at hq; exact ⟨s, hq, hs, by rw [hbs]; omega⟩
  · intro u hu h1
    rw [hb0 u hu] at h1
    by_cases e : u = s
    · left; rw [e]; simp
    · rw [if_neg e] at h1; omega
  · have : und N back0 ≤ N := sN_le fun i hi => by split <;> omega
    simp; omega
  rintro back queue ⟨⟨d, M, B⟩, cl, hm⟩
  by_cases c1 : queue = []
  · subst c1
    refine jn_bool false (br_false rfl (h back [] d M B ?_)) fun k hk => br_no (by simp) hk
    by_cases c2 : 0 ≤ back.getD t 0
    · exact .inl c2
    · refine .inr ⟨by omega, fun u v hu hv h1 h2 => ?_⟩
      rcases cl u hu h1 with q | q
      · simp at q
      · refine Classical.byContradiction fun hp => ?_
        have := q v hv (by omega); omega
  obtain ⟨q0, qs, rfl⟩ : ∃ q0 qs, queue = q0 :: qs := by
    cases queue with
    | nil => exact (c1 rfl).elim
    | cons a b => exact ⟨a, b, rfl⟩
  obtain ⟨u, rfl, hu, hbu⟩ := B.qu q0 (by simp)
  by_cases c2 : 0 ≤ back.getD t 0
  · refine jn_bool false (br_false rfl (h back _ d M B (.inl c2))) fun k hk => br_yes (by unfold ln; simp) (idx_gd (d := 0) rfl (by rw [B.bl]; exact ht) ?_)
    rw [decide_eq_false (by omega)]; exact hk
  refine jn_bool true (br_true rfl ?_) fun k hk => br_yes (by unfold ln; simp) (idx_gd (d := 0) rfl (by rw [B.bl]; exact ht) ?_)
  rotate_left
  · rw [decide_eq_true (by omega)]; exact hk
  refine idx_gd (i := 0) (d := 0) rfl (by simp) ⟨by omega, by unfold ln; simp; omega, ?_⟩
  have e0 : (((u : Int) :: qs).getD 0 0) = (u : Int) := rfl
  rw [e0]
  refine idx_gd (d := []) rfl (by rw [hr.1]; exact hu) ?_
  have hrow := hr.2 u hu
  have e1 : List.drop (Int.toNat 1) ((u : Int) :: qs) = qs := rfl
  rw [e1]
  have hW : ((u : Int) :: qs).length = qs.length + 1 := rfl
  refine loop3_list (by omega) (fun back' queue' j => (∃ d M, Bf N (mt r) s back' queue' d M) ∧ 0 ≤ back'.getD u 0 ∧ (∀ w, w < N → 0 ≤ back'.getD w 0 → w ≠ u → (w : Int) ∈ queue' ∨ ∀ v, v < N → 0 < mt r w v → 0 ≤ back'.getD v 0) ∧ (∀ v, v < j → 0 < mt r u v → 0 ≤ back'.getD v 0) ∧ 2 * und N back' + queue'.length ≤ 2 * und N back + qs.length)
    ⟨⟨d, M, B.bl, B.src, B.tr, B.lt, fun q hq => B.qu q (by simp [hq])⟩, hbu, fun w hw h1 hn => ?_, fun v hv => by omega, Nat.le_refl _⟩ (fun back' queue' j nx hj ⟨⟨d', M', B'⟩, h1, h2, h3, h4⟩ hn => ?_) (fun back' queue' ⟨⟨d', M', B'⟩, h1, h2, h3, h4⟩ => ⟨⟨⟨d', M', B'⟩, fun w hw hbw => ?_, by omega⟩, by show 2 * und N back' + queue'.length < 2 * und N back + ((u : Int) :: qs).length; rw [hW]; omega⟩)
  · rcases cl w hw h1 with q | q
    · rw [List.mem_cons] at q
      rcases q with q | q
      · exact (hn (by omega)).elim
      · exact .inl q
    · exact .inr q
  · have hj' : j < N := by omega
    have hqs : queue'.length ≤ 2 * N + 1 := by omega
    by_cases c3 : 0 < mt r u j ∧ back'.getD j 0 < 0
    · have keep : ∀ w, 0 ≤ back'.getD w 0 → 0 ≤ (back'.set j (u : Int)).getD w 0 := fun w hw => by
        rw [getD_set (by rw [B'.bl]; exact hj')]; split <;> omega
      refine (show jn _ _ from jn_of ?_)
      refine idx_gd (d := 0) rfl hj (jn_bool true (br_true rfl ⟨by omega, by rw [Int.toNat_natCast, B'.bl]; exact hj', by unfold ln; simp; omega, ?_⟩) fun k hk => br_yes c3.1 (idx_gd (d := 0) rfl (by rw [B'.bl]; exact hj') ?_))
      · rw [Int.toNat_natCast]
        refine hn _ _ ⟨⟨_, _, B'.add hu hj' h1 c3.2 c3.1⟩, keep u h1, fun w hw hbw hne => ?_, fun v hv hp => ?_, ?_⟩
        · rw [getD_set (by rw [B'.bl]; exact hj')] at hbw
          by_cases e : w = j
          · left; rw [e]; simp
          · rw [if_neg e] at hbw
            rcases h2 w hw hbw hne with q | q
            · exact .inl (by simp [q])
            · exact .inr fun v hv hp => keep v (q v hv hp)
        · by_cases e : v = j
          · rw [e, getD_set (by rw [B'.bl]; exact hj'), if_pos rfl]; omega
          · exact keep v (h3 v (by omega) hp)
        · have := und_set (x := (u : Int)) hj' B'.bl c3.2 (by omega)
          rw [List.length_append]; simp; omega
      · rw [decide_eq_true c3.2]; exact hk
    · refine (show jn _ _ from jn_of ?_)
      refine idx_gd (d := 0) rfl hj (jn_bool false (br_false rfl (hn _ _ ⟨⟨d', M', B'⟩, h1, h2, fun v hv hp => ?_, h4⟩)) fun k hk => br_dec (fun g => idx_gd (d := 0) rfl (by rw [B'.bl]; exact hj') ?_) (fun _ => hk))
      · by_cases e : v = j
        · subst e; exact Classical.byContradiction fun hh => c3 ⟨hp, by omega⟩
        · exact h3 v (by omega) hp
      · have : ¬ back'.getD j 0 < 0 := fun hh => c3 ⟨g, hh⟩
        rw [decide_eq_false this]; exact hk
  · by_cases e : w = u
    · subst e; exact .inr fun v hv hp => h3 v (by omega) hp
    · exact h2 w hw hbw e
theorem push_ok {N s t : Nat} {r : List (List Int)} {limit : Int} {Q : Int → List (List Int) → Prop} (hr : Sh N N r) (hN : N ≤ 100) (hs : s < N) (ht : t < N) (hst : s ≠ t) (h0 : ∀ u v, u < N → v < N → 0 ≤ mt r u v ∧ mt r u v ≤ 1000000000) (hl : 0 ≤ limit ∧ limit ≤ 1000000000)
    (h : ∀ sent r', Sh N N r' → Pu N (mt r) (mt r') s t limit sent → Q sent r') : impl_push r s t limit Q := by
  unfold impl_push
  refine jn_of ?_
  have hl0 := hr.1
  refine ⟨fun q sent => Sh N N q ∧ (∀ u v, u < N → v < N → 0 ≤ mt q u v) ∧ (∀ u v, u < N → v < N → mt q u v + mt q v u = mt r u v + mt r v u) ∧ (∀ u, u < N → sm N (fun v => mt r u v - mt q u v) = (if u = s then sent else 0) - (if u = t then sent else 0)) ∧ 0 ≤ sent ∧ sent ≤ limit, fun _ sent => (limit - sent).toNat,
    ⟨hr, fun u v hu hv => (h0 u v hu hv).1, fun _ _ _ _ => rfl, fun u hu => by rw [sm_zero (fun i _ => Int.sub_self _)]; split <;> split <;> rfl, Int.le_refl _, hl.1⟩, ?_⟩
  rintro q sent ⟨hq, nn, pr, dv, s0, s1⟩
  refine br_dec (fun hlt => ?_) (fun hge => h sent q hq ⟨nn, pr, dv, s0, s1, fun c => (hge c).elim⟩)
  have ln_r : ln r = (N : Int) := by unfold ln; rw [hl0]
  rw [ln_r]
  refine ⟨by omega, by omega, ?_⟩
  rw [Int.toNat_natCast]
  refine loop2_list (xs := List.replicate N (0 : Int)) (by rw [List.length_replicate]; omega) (fun back i => back.length = N ∧ ∀ v, v < i → back.getD v 0 = -1) ⟨by rw [List.length_replicate], fun v hv => by omega⟩ (fun back i nx hi ⟨h1, h2⟩ hn => ?_) (fun back ⟨h1, h2⟩ => ?_)
  · rw [List.length_replicate] at hi
    refine ⟨by omega, by rw [Int.toNat_natCast]; omega, hn _ ⟨by rw [List.length_set]; exact h1, fun v hv => ?_⟩⟩
    rw [Int.toNat_natCast, getD_set (by omega)]
    split
    · rfl
    · exact h2 v (by omega)
  rw [List.length_replicate] at h2
  refine ⟨by omega, by rw [Int.toNat_natCast]; omega, ?_⟩
  rw [Int.toNat_natCast]
  refine bfs_ok hq hN hs ht (by rw [List.length_set]; exact h1) (fun v hv => ?_) fun back2 queue d M B hB => ?_
  · rw [getD_set (by omega)]
    split
    · rfl
    · exact h2 v hv
  refine idx_gd (d := 0) rfl (by rw [B.bl]; exact ht) ?_
  rcases hB with hb | ⟨hb, hcut⟩
  · refine br_no (by omega) ?_
    have pairs : ∀ u v, u < N → v < N → 0 ≤ mt q u v ∧ mt q u v ≤ 2000000000 := fun u v hu hv => by
      have := pr u v hu hv; have := nn u v hu hv; have := nn v u hv hu; have := h0 u v hu hv; have := h0 v u hv hu; omega
    obtain ⟨K, c, c0, cK, hc⟩ := B.chain (d t) t (Nat.le_refl _) ht hb
    rw [wr_in (by omega) (by omega)]
    refine fst_ok (d := d) hq B.bl c0 cK hc (by omega) fun step p1 p2 p3 => ?_
    refine snd_ok (d := d) hq B.bl ht c0 cK hc ⟨p1, by omega⟩ p3 pairs fun q2 k1 k2 k3 k4 => ?_
    rw [wr_in (by omega) (by omega)]
    refine ⟨⟨k1, k2, fun u v hu hv => by rw [k3 u v hu hv, pr u v hu hv], fun u hu => ?_, by omega, by omega⟩, by show (limit - (sent + step)).toNat < (limit - sent).toNat; omega⟩
    have e : sm N (fun v => mt r u v - mt q2 u v) = sm N (fun v => mt r u v - mt q u v) + sm N (fun v => mt q u v - mt q2 u v) := by
      rw [← sm_add]; exact sm_congr fun i _ => by omega
    rw [e, dv u hu, k4 u hu]
    split <;> split <;> omega
  · refine br_yes (by omega) (h sent q hq ⟨nn, pr, dv, s0, s1, fun _ => ⟨fun u => decide (0 ≤ back2.getD u 0), decide_eq_true (by rw [B.src]; omega), decide_eq_false (by omega), fun u v hu hv h5 h6 => hcut u v hu hv (of_decide_eq_true h5) ?_⟩⟩)
    have := of_decide_eq_false h6; omega
end Go.Proofs.Ytommbnkecafodaa
