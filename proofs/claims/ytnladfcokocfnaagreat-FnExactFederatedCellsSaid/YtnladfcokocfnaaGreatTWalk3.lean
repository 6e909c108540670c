/- The walks, further. -/
import Derived.Test.YtnladfcokocfnaaGreatTWalk2
set_option linter.unusedVariables false
set_option autoImplicit false
namespace Go.Proofs.YtnladfcokocfnaaGreat
open Go Go.RowKit Go.Gv

open Go.Proofs
set_option maxRecDepth 8000
set_option maxHeartbeats 4000000
theorem laws_markText_w (k : Int) (Q : ByteArray → Prop) (H : laws_markText k Q) (w : World)  :
  CallsTo Tryz.prog 63 #[I k] w fun v w' => ∃ r0, Q r0 ∧ v = .string r0 ∧ Ext w w' := by
 refine enter (args := [I k]) 20 Tryz.func63 rfl rfl rfl ?_
 refine W_forget [(0, I k)] ⟨rfl, trivial⟩ fun ρ => ?_
 have X := But.refl emp w
 refine W_seq (W_region ?_)
 refine LP_ev ok 0 [(2, .string ((ByteArray.mk #[])))] 1 rfl rfl ?_
 refine LP_end _ rfl (W_seq ?_)
 refine W_seq (W_region ?_)
 refine LP_ev ok 0 [(4, I k), (5, .bool (decide (k ≤ 0)))] 2 rfl rfl ?_
 refine LP_end _ rfl ?_
 refine W_cond (decide (k ≤ 0)) rfl (fun hc => ?_) (fun hc => ?_)
 ·have H := H.1 hc
  refine W_seq (W_region ?_)
  refine LP_ev ok 0 [(2, .string ((ByteArray.mk #[109, 48])))] 1 rfl rfl ?_
  refine LP_end _ rfl (W_ret ?_)
  exact ⟨_, Ret_of [.string ((ByteArray.mk #[109, 48]))] ⟨⟨rfl, rfl⟩, trivial⟩, _, H, rfl, X.ext⟩
 have H := H.2 hc
 refine W_skip ?_
 refine W_seq (W_region ?_)
 refine LP_ev ok 0 [(3, .string ((ByteArray.mk #[])))] 1 rfl rfl ?_
 refine LP_end _ rfl (W_seq ?_)
 refine W_block ?_
 obtain ⟨J, m, Hx, H⟩ := H
 refine W_loop (S := Int × ByteArray) (fun s ρ' w' => J s.1 s.2 ∧ ∃ (ρ : Env), ρ' = setAll [(0, I s.1), (3, .string s.2)] ρ ∧ But emp w w') (fun s => m s.1 s.2) (k, (ByteArray.mk #[])) ⟨Hx, _, env_eq ⟨rfl, rfl, trivial⟩, X⟩ ?_
 rintro ⟨k1, out⟩ _ wx ⟨Hi, ρ, rfl, X2⟩
 have H := H k1 out Hi
 refine W_seq ?_
 refine W_seq (W_region ?_)
 refine LP_ev ok 0 [(6, I k1), (7, .bool (decide (k1 > 0)))] 2 rfl rfl ?_
 refine LP_end _ rfl ?_
 refine W_cond (decide (k1 > 0)) rfl (fun hc3 => ?_) (fun hc3 => ?_)
 ·have H := H.1 hc3
  refine W_skip ?_
  refine W_block ?_
  refine W_seq (W_region ?_)
  refine LP_ev ok 0 [(8, I k1)] 1 rfl rfl ?_
  refine LP_val 1 _ rfl rfl (ex_rem rfl rfl rfl (by decide) _) ?_
  refine LP_ev ok 2 [(10, I (wr (48 + (Int.tmod k1 10)))), (11, .int .u8 (IntKind.u8.wrap (wr (48 + (Int.tmod k1 10)))))] 4 rfl rfl ?_
  refine LP_lit (α := B8) (g := emp) 4 (vs := [.int .u8 (IntKind.u8.wrap (wr (48 + (Int.tmod k1 10))))]) (xs := [(B8.mk (IntKind.u8.wrap (wr (48 + (Int.tmod k1 10)))))]) rfl rfl rfl Tryz.underlying58 ti_5 rfl rfl ⟨⟨_, rfl, rfl⟩, trivial⟩ rfl rfl fun hx vx wx4 x o ex f => ?_
  obtain ⟨a, c, rfl⟩ := o.shape
  refine LP_val 5 _ rfl rfl (ex_b2s rfl Tryz.underlying58 Tryz.underlying5 Tryz.underlying9 rfl o.readf _ ex) ?_
  refine LP_ev ok 6 [(14, .string out)] 7 rfl rfl ?_
  obtain ⟨hz, H⟩ := H
  refine LP_val 7 _ rfl rfl (ex_sadd rfl rfl rfl hz _) ?_
  refine LP_ev ok 8 [(3, .string ((b2s ([(B8.mk (IntKind.u8.wrap (wr (48 + (Int.tmod k1 10)))))])) ++ out))] 9 rfl rfl ?_
  refine LP_end _ rfl ?_
  refine W_region ?_
  refine LP_ev ok 0 [(16, I k1)] 1 rfl rfl ?_
  refine LP_val 1 _ rfl rfl (ex_quo rfl rfl rfl (by decide) _) ?_
  refine LP_ev ok 2 [(0, I (wr (Int.tdiv k1 10)))] 3 rfl rfl ?_
  exact LP_end _ rfl ⟨(wr (Int.tdiv k1 10), (b2s ([(B8.mk (IntKind.u8.wrap (wr (48 + (Int.tmod k1 10)))))])) ++ out), ⟨H.1, _, env_eq ⟨rfl, rfl, trivial⟩, (X2.stepx x)⟩, H.2⟩
 have H := H.2 hc3
 refine W_exit ?_
 refine (if_pos rfl).mpr ?_
 refine W_seq (W_region ?_)
 refine LP_ev ok 0 [(18, .string out)] 1 rfl rfl ?_
 obtain ⟨hz6, H⟩ := H
 refine LP_val 1 _ rfl rfl (ex_sadd rfl rfl rfl hz6 _) ?_
 refine LP_ev ok 2 [(2, .string (((ByteArray.mk #[109])) ++ out))] 3 rfl rfl ?_
 refine LP_end _ rfl (W_ret ?_)
 exact ⟨_, Ret_of [.string (((ByteArray.mk #[109])) ++ out)] ⟨⟨rfl, rfl⟩, trivial⟩, _, H, rfl, X2.ext⟩

theorem laws_markVariableS_w (a : List Variable) (k : Int) (Q : Int → (List Variable) → Prop) (H : laws_markVariableS a k Q) (w : World) {vx : Value} {hx : PH} (r : OS 82 hx emp vx a) (ex : Sub hx w) :
  CallsTo Tryz.prog 24 #[vx, I k] w fun v w' => ∃ r0 m1 k1, Q r0 m1 ∧ v = I r0 ∧ But hx w w' ∧ OS 82 k1 emp vx m1 ∧ Sub k1 w' ∧ (∀ n, DomLe hx n k1) := by
 obtain ⟨a1, c, rfl⟩ := r.shape
 refine enter (args := [sl a1 a c, I k]) 28 Tryz.func24 rfl rfl rfl ?_
 refine W_forget [(0, sl a1 a c), (1, I k)] ⟨rfl, rfl, trivial⟩ fun ρ => ?_
 have D : Dom hx hx := (Dom.refl _)
 have X := But.refl hx w
 refine W_seq (W_region ?_)
 refine LP_ev ok 0 [(4, I 0)] 1 rfl rfl ?_
 refine LP_end _ rfl (W_seq ?_)
 refine W_seq (W_region ?_)
 refine LP_ev ok 0 [(5, I 0)] 1 rfl rfl ?_
 refine LP_end _ rfl ?_
 refine W_block ?_
 obtain ⟨J, m, Hx, H⟩ := H
 refine W_loop (S := (List Variable) × Int × Int) (fun s ρ' w' => J s.1 s.2.1 s.2.2 ∧ ∃ (ρ : Env) (hx4 : PH), ρ' = setAll [(0, sl a1 a c), (1, I s.2.1), (5, I s.2.2)] ρ ∧ But hx w w' ∧ OS 82 hx4 emp (sl a1 a c) s.1 ∧ Sub hx4 w' ∧ (∀ n, DomLe hx n hx4)) (fun s => m s.1 s.2.1 s.2.2) (a, k, 0) ⟨Hx, _, hx, env_eq ⟨rfl, rfl, rfl, trivial⟩, X, r, ex, (fun _ => DomLe.refl _ _)⟩ ?_
 rintro ⟨a2, k6, i⟩ _ wx ⟨Hi, ρ, hx4, rfl, X7, o, ex5, f⟩
 have H := H a2 k6 i Hi
 refine W_seq ?_
 refine W_seq (W_region ?_)
 refine LP_ev ok 0 [(6, I i), (7, sl a1 a c), (8, I (ln a)), (9, .bool (decide (i < (ln a))))] 4 rfl rfl ?_
 refine LP_end _ rfl ?_
 refine W_cond (decide (i < (ln a))) rfl (fun hc => ?_) (fun hc => ?_)
 ·have H := H.1 hc
  refine W_skip ?_
  refine W_seq ?_
  refine W_block ?_
  refine W_seq (W_region ?_)
  refine LP_ev ok 0 [(12, sl a1 a c), (13, I i), (14, I k6)] 3 rfl rfl ?_
  refine LP_call 3 rfl rfl rfl cal_63 rfl (laws_markText_w _ _ H wx ) ?_
  rintro _ wx9 ⟨r8, H, rfl, x⟩
  obtain ⟨x10, hi, hx11, H⟩ := H
  refine LP_indexf (v := sl a1 a c) 4 rfl rfl rfl Tryz.underlying39 ti_82 rfl rfl o hi hx11 fun a12 wa => ?_
  refine LP_ev ok 5 [(17, .pointer (some (Addr.add a12 0)))] 6 rfl rfl ?_
  refine LP_setf 6 (x := x10) (vs := [.string r8]) (y := ({x10 with Name := r8} : Variable)) rfl rfl rfl ti_9 rfl rfl rfl rfl rfl rfl wa (ex5.ext x) rfl fun hx13 wx14 o15 ex16 y dm => ?_
  refine LP_end _ rfl (W_seq (W_region ?_))
  refine LP_ev ok 0 [(18, I k6), (19, I (wr (k6 + 1))), (1, I (wr (k6 + 1)))] 3 rfl rfl ?_
  refine LP_end _ rfl (W_seq (W_region ?_))
  refine LP_ev ok 0 [(20, sl a1 a c), (21, I i), (22, I (wr (k6 + 1)))] 3 rfl rfl ?_
  obtain ⟨x18, hi19, hx20, H⟩ := H
  refine LP_indexf (v := sl a1 a c) 3 rfl rfl rfl Tryz.underlying39 ti_82 rfl rfl o15 hi19 hx20 fun a21 wa22 => ?_
  refine LP_ev ok 4 [(24, .pointer (some (Addr.add a21 1)))] 5 rfl rfl ?_
  refine LP_setf 5 (x := x18) (vs := [I (wr (k6 + 1))]) (y := ({x18 with Levels := wr (k6 + 1)} : Variable)) rfl rfl rfl ti_3 rfl rfl rfl rfl rfl rfl wa22 ex16 rfl fun hx23 wx24 o25 ex26 y27 dm28 => ?_
  refine LP_end _ rfl ?_
  refine W_region ?_
  refine LP_ev ok 0 [(25, I (wr (k6 + 1))), (26, I (wr ((wr (k6 + 1)) + 1))), (1, I (wr ((wr (k6 + 1)) + 1)))] 3 rfl rfl ?_
  refine LP_end _ rfl ?_
  refine W_region ?_
  refine LP_ev ok 0 [(10, I i), (11, I (wr (i + 1))), (5, I (wr (i + 1)))] 3 rfl rfl ?_
  refine LP_end _ rfl ?_
  try refine W_forget [(0, sl a1 a c), (1, I (wr ((wr (k6 + 1)) + 1))), (5, I (wr (i + 1)))] ⟨rfl, rfl, rfl, trivial⟩ fun ρ => ?_
  exact ⟨(List.set (List.set a2 (Int.toNat i) ({x10 with Name := r8} : Variable)) (Int.toNat i) ({x18 with Levels := wr (k6 + 1)} : Variable), wr ((wr (k6 + 1)) + 1), wr (i + 1)), ⟨H.1, _, hx23, env_eq ⟨rfl, rfl, rfl, trivial⟩, (((X7.stepx x).step y (DomLe.dom D (f _))).step y27 (DomLe.trans (DomLe.dom D (f _)) (dm _) (X7.stepx x).size)), o25, ex26, (fun _ => DomLe.trans (DomLe.trans (f _) ((dm _)) (Nat.le_refl _)) ((dm28 _)) (Nat.le_refl _))⟩, H.2⟩
 have H := H.2 hc
 refine W_exit ?_
 refine (if_pos rfl).mpr ?_
 refine W_seq (W_region ?_)
 refine LP_ev ok 0 [(27, I k6), (4, I k6)] 2 rfl rfl ?_
 refine LP_end _ rfl (W_ret ?_)
 exact ⟨_, Ret_of [I k6] ⟨⟨rfl, rfl⟩, trivial⟩, _, _, _, H, rfl, X7, o, ex5, (fun _ => f _)⟩

theorem laws_markTable_w (a : Table) (k : Int) (Q : Int → (List Int) → (List Int) → Prop) (H : laws_markTable a k Q) (w : World) {vx : Value} {hx : PH} (r : OS 3 hx emp vx a.Vars) (ex : Sub hx w) {vx2 : Value} {hx3 : PH} (r4 : OS 3 hx3 emp vx2 a.Where) (ex5 : Sub hx3 w) (d : Dj hx hx3) :
  CallsTo Tryz.prog 25 #[.agg #[I a.Level, vx, vx2, I a.Sum], I k] w fun v w' => ∃ r0 m1 m2 k1 k2, Q r0 m1 m2 ∧ v = I r0 ∧ But (un hx hx3) w w' ∧ OS 3 k1 emp vx m1 ∧ Sub k1 w' ∧ (∀ n, DomLe hx n k1) ∧ OS 3 k2 emp vx2 m2 ∧ Sub k2 w' ∧ (∀ n, DomLe hx3 n k2) ∧ Dj k1 k2 := by
 obtain ⟨a1, c, rfl⟩ := r.shape
 obtain ⟨a6, c7, rfl⟩ := r4.shape
 refine enter (args := [.agg #[I a.Level, sl a1 a.Vars c, sl a6 a.Where c7, I a.Sum], I k]) 14 Tryz.func25 rfl rfl rfl ?_
 refine W_forget [(0, .agg #[I a.Level, sl a1 a.Vars c, sl a6 a.Where c7, I a.Sum]), (1, I k)] ⟨rfl, rfl, trivial⟩ fun ρ => ?_
 obtain ⟨M, hM⟩ : ∃ M : PH, M = (un hx hx3) := ⟨_, rfl⟩
 have D : Dom M hx := by subst hM; exact (Dom.l _ _)
 have D8 : Dom M hx3 := by subst hM; exact (Dom.trans (Dom.r _ _) (Dom.refl _))
 have X := But.refl M w
 refine W_seq (W_region ?_)
 refine LP_box 0 (cs := [I a.Level, sl a1 a.Vars c, sl a6 a.Where c7, I a.Sum]) rfl rfl rfl rfl rfl fun b wx x ex9 f => ?_
 refine LP_ev ok 1 [(4, I 0)] 2 rfl rfl ?_
 refine LP_end _ rfl (W_seq (W_region ?_))
 refine LP_ev ok 0 [(5, .pointer (some ⟨b, 1, none⟩))] 1 rfl rfl ?_
 refine LP_ldbox 1 (v := sl a1 a.Vars c) rfl rfl rfl ti_22 ag_22 (fun _ => rfl) rfl ex9 rfl rfl ?_
 refine LP_ev ok 2 [(7, I k)] 3 rfl rfl ?_
 refine LP_call 3 rfl rfl rfl cal_28 rfl (laws_markIntS_w _ _ _ H wx r (ex.ext x)) ?_
 rintro _ wx13 ⟨r10, r11, hx15, H, rfl, x14, o, ex16, dm⟩
 refine LP_ev ok 4 [(1, I r10)] 5 rfl rfl ?_
 refine LP_end _ rfl (W_seq (W_region ?_))
 refine LP_ev ok 0 [(9, .pointer (some ⟨b, 2, none⟩))] 1 rfl rfl ?_
 refine LP_ldbox 1 (v := sl a6 a.Where c7) rfl rfl rfl ti_22 ag_22 (fun _ => rfl) rfl (ex9.but x14 (Dj.of_fresh ex f)) rfl rfl ?_
 refine LP_ev ok 2 [(11, I r10)] 3 rfl rfl ?_
 refine LP_call 3 rfl rfl rfl cal_28 rfl (laws_markIntS_w _ _ _ H wx13 r4 ((ex5.ext x).but x14 d)) ?_
 rintro _ wx21 ⟨r18, r19, hx23, H, rfl, x22, o24, ex25, dm26⟩
 refine LP_ev ok 4 [(1, I r18)] 5 rfl rfl ?_
 refine LP_end _ rfl (W_seq (W_region ?_))
 refine LP_ev ok 0 [(13, I r18), (4, I r18)] 2 rfl rfl ?_
 refine LP_end _ rfl (W_ret ?_)
 have ex27 := (ex5.ext x)
 subst hM
 exact ⟨_, Ret_of [I r18] ⟨⟨rfl, rfl⟩, trivial⟩, _, _, _, _, _, H, rfl, (((X.stepx x).step x14 (Dom.le D _)).step x22 (Dom.le D8 _)), o, (ex16.but x22 (DomLe.dj (dm _) d ex27).symm), (fun _ => DomLe.trans (DomLe.refl _ _) ((dm _)) (Nat.le_refl _)), o24, ex25, (fun _ => DomLe.trans (DomLe.refl _ _) ((dm26 _)) (Nat.le_refl _)), (DomLe.dj (dm26 _) (DomLe.dj (dm _) d ex27).symm ex16).symm⟩

theorem laws_markRecordS_w (a : List Record) (k : Int) (Q : Int → (List Record) → Prop) (H : laws_markRecordS a k Q) (w : World) {vx : Value} {hx : PH} (r : OD hx vx a) (ex : Sub hx w) :
  CallsTo Tryz.prog 64 #[vx, I k] w fun v w' => ∃ r0 m1 k1, Q r0 m1 ∧ v = I r0 ∧ But hx w w' ∧ OD k1 vx m1 ∧ Sub k1 w' ∧ (∀ n, DomLe hx n k1) := by
 obtain ⟨a1, c, rfl⟩ := r.shape
 refine enter (args := [sl a1 a c, I k]) 34 Tryz.func64 rfl rfl rfl ?_
 refine W_forget [(0, sl a1 a c), (1, I k)] ⟨rfl, rfl, trivial⟩ fun ρ => ?_
 have D : Dom hx hx := (Dom.refl _)
 have X := But.refl hx w
 refine W_seq (W_region ?_)
 refine LP_ev ok 0 [(4, I 0)] 1 rfl rfl ?_
 refine LP_end _ rfl (W_seq ?_)
 refine W_seq (W_region ?_)
 refine LP_ev ok 0 [(5, I 0)] 1 rfl rfl ?_
 refine LP_end _ rfl ?_
 refine W_block ?_
 obtain ⟨J, m, Hx, H⟩ := H
 refine W_loop (S := (List Record) × Int × Int) (fun s ρ' w' => J s.1 s.2.1 s.2.2 ∧ ∃ (ρ : Env) (hx4 : PH), ρ' = setAll [(0, sl a1 a c), (1, I s.2.1), (5, I s.2.2)] ρ ∧ But hx w w' ∧ OD hx4 (sl a1 a c) s.1 ∧ Sub hx4 w' ∧ (∀ n, DomLe hx n hx4)) (fun s => m s.1 s.2.1 s.2.2) (a, k, 0) ⟨Hx, _, hx, env_eq ⟨rfl, rfl, rfl, trivial⟩, X, r, ex, (fun _ => DomLe.refl _ _)⟩ ?_
 rintro ⟨a2, k6, i⟩ _ wx ⟨Hi, ρ, hx4, rfl, X7, o, ex5, f⟩
 have H := H a2 k6 i Hi
 refine W_seq ?_
 refine W_seq (W_region ?_)
 refine LP_ev ok 0 [(6, I i), (7, sl a1 a c), (8, I (ln a)), (9, .bool (decide (i < (ln a))))] 4 rfl rfl ?_
 refine LP_end _ rfl ?_
 refine W_cond (decide (i < (ln a))) rfl (fun hc => ?_) (fun hc => ?_)
 ·have H := H.1 hc
  refine W_skip ?_
  refine W_seq ?_
  refine W_block ?_
  refine W_seq (W_region ?_)
  refine LP_ev ok 0 [(12, sl a1 a c), (13, I i), (14, I k6)] 3 rfl rfl ?_
  obtain ⟨x, hi, hx8, H⟩ := H
  refine LP_indexF (v := sl a1 a c) 3 rfl rfl rfl Tryz.underlying84 ti_118 rfl rfl o hi hx8 fun a9 wa => ?_
  refine LP_ev ok 4 [(16, .pointer (some (Addr.add a9 0)))] 5 rfl rfl ?_
  refine LP_setfD (off := 0) 5 (x := x) (vs := [I k6]) (y := ({x with Area := k6} : Record)) rfl rfl rfl ti_3 rfl rfl rfl rfl rfl Record_ft0 wa ex5 rfl fun hx10 wx11 o12 ex13 y dm => ?_
  refine LP_end _ rfl (W_seq (W_region ?_))
  refine LP_ev ok 0 [(17, I k6), (18, I (wr (k6 + 1))), (1, I (wr (k6 + 1)))] 3 rfl rfl ?_
  refine LP_end _ rfl (W_seq (W_region ?_))
  refine LP_ev ok 0 [(19, sl a1 a c), (20, I i), (21, I (wr (k6 + 1)))] 3 rfl rfl ?_
  obtain ⟨x14, hi15, hx16, H⟩ := H
  refine LP_indexF (v := sl a1 a c) 3 rfl rfl rfl Tryz.underlying84 ti_118 rfl rfl o12 hi15 hx16 fun a17 wa18 => ?_
  refine LP_ev ok 4 [(23, .pointer (some (Addr.add a17 1)))] 5 rfl rfl ?_
  refine LP_setfD (off := 1) 5 (x := x14) (vs := [I (wr (k6 + 1))]) (y := ({x14 with House := wr (k6 + 1)} : Record)) rfl rfl rfl ti_3 rfl rfl rfl rfl rfl Record_ft1 wa18 ex13 rfl fun hx19 wx20 o21 ex22 y23 dm24 => ?_
  refine LP_end _ rfl (W_seq (W_region ?_))
  refine LP_ev ok 0 [(24, I (wr (k6 + 1))), (25, I (wr ((wr (k6 + 1)) + 1))), (1, I (wr ((wr (k6 + 1)) + 1)))] 3 rfl rfl ?_
  refine LP_end _ rfl ?_
  refine W_region ?_
  refine LP_ev ok 0 [(26, sl a1 a c), (27, I i)] 2 rfl rfl ?_
  obtain ⟨x25, hi26, hx27, H⟩ := H
  refine LP_indexB (v := sl a1 a c) 2 rfl rfl rfl Tryz.underlying84 ti_118 rfl rfl o21 hi26 hx27 fun a28 c29 hx30 rest r31 bw => ?_
  refine LP_ev ok 3 [(29, .pointer (some (Addr.add a28 2)))] 4 rfl rfl ?_
  obtain ⟨u, hx32, rest33, rfl, bw34⟩ := Record_bw2 bw
  have o35 := bw34.od
  obtain ⟨a36, c37, rfl⟩ := o35.shape
  refine LP_ldpart (off := 2) 4 (v := sl a36 x25.Values c37) rfl rfl rfl ti_22 ag_22 (fun _ => rfl) rfl r31 ex22 rfl rfl ?_
  have ex38 := Sub.le ex22 bw34.le
  have o39 : OS 3 hx32 emp (sl a36 x25.Values c37) x25.Values := OD.flat o35
  refine LP_ev ok 5 [(31, I (wr ((wr (k6 + 1)) + 1)))] 6 rfl rfl ?_
  refine LP_call 6 rfl rfl rfl cal_28 rfl (laws_markIntS_w _ _ _ H wx20 o39 ex38) ?_
  rintro _ wx42 ⟨r40, r41, hx44, H, rfl, x43, o45, ex46, dm47⟩
  obtain ⟨bw48, o49, dd⟩ := BwG.turn bw34 (OS.od o45) (Dom.of dm47)
  have ex50 := BwG.sub bw34 ex22 ex46 x43
  have y51 := BwG.but bw34 x43
  refine LP_ev ok 7 [(1, I r40)] 8 rfl rfl ?_
  refine LP_end _ rfl ?_
  try refine W_forget [(0, sl a1 a c), (1, I r40), (5, I i)] ⟨rfl, rfl, rfl, trivial⟩ fun ρ => ?_
  refine W_region ?_
  refine LP_ev ok 0 [(10, I i), (11, I (wr (i + 1))), (5, I (wr (i + 1)))] 3 rfl rfl ?_
  exact LP_end _ rfl ⟨(List.set (List.set (List.set a2 (Int.toNat i) ({x with Area := k6} : Record)) (Int.toNat i) ({x14 with House := wr (k6 + 1)} : Record)) (Int.toNat i) ({x25 with Values := r41} : Record), r40, wr (i + 1)), ⟨H.1, _, (un hx44 rest33), env_eq ⟨rfl, rfl, rfl, trivial⟩, (((X7.step y (DomLe.dom D (f _))).step y23 (DomLe.trans (DomLe.dom D (f _)) (dm _) X7.size)).step y51 (DomLe.trans (DomLe.trans (DomLe.dom D (f _)) (dm _) X7.size) (dm24 _) (X7.step y (DomLe.dom D (f _))).size)), o49, ex50, (fun _ => DomLe.trans (DomLe.trans (DomLe.trans (f _) ((dm _)) (Nat.le_refl _)) ((dm24 _)) (Nat.le_refl _)) (((fun n => Dom.le dd n) _)) (Nat.le_refl _))⟩, H.2⟩
 have H := H.2 hc
 refine W_exit ?_
 refine (if_pos rfl).mpr ?_
 refine W_seq (W_region ?_)
 refine LP_ev ok 0 [(33, I k6), (4, I k6)] 2 rfl rfl ?_
 refine LP_end _ rfl (W_ret ?_)
 exact ⟨_, Ret_of [I k6] ⟨⟨rfl, rfl⟩, trivial⟩, _, _, _, H, rfl, X7, o, ex5, (fun _ => f _)⟩

theorem laws_markRecordSS_w (a : List (List Record)) (k : Int) (Q : Int → (List (List Record)) → Prop) (H : laws_markRecordSS a k Q) (w : World) {vx : Value} {hx : PH} (r : OD hx vx a) (ex : Sub hx w) :
  CallsTo Tryz.prog 26 #[vx, I k] w fun v w' => ∃ r0 m1 k1, Q r0 m1 ∧ v = I r0 ∧ But hx w w' ∧ OD k1 vx m1 ∧ Sub k1 w' ∧ (∀ n, DomLe hx n k1) := by
 obtain ⟨a1, c, rfl⟩ := r.shape
 refine enter (args := [sl a1 a c, I k]) 19 Tryz.func26 rfl rfl rfl ?_
 refine W_forget [(0, sl a1 a c), (1, I k)] ⟨rfl, rfl, trivial⟩ fun ρ => ?_
 have D : Dom hx hx := (Dom.refl _)
 have X := But.refl hx w
 refine W_seq (W_region ?_)
 refine LP_ev ok 0 [(4, I 0)] 1 rfl rfl ?_
 refine LP_end _ rfl (W_seq ?_)
 refine W_seq (W_region ?_)
 refine LP_ev ok 0 [(5, I 0)] 1 rfl rfl ?_
 refine LP_end _ rfl ?_
 refine W_block ?_
 obtain ⟨J, m, Hx, H⟩ := H
 refine W_loop (S := (List (List Record)) × Int × Int) (fun s ρ' w' => J s.1 s.2.1 s.2.2 ∧ ∃ (ρ : Env) (hx4 : PH), ρ' = setAll [(0, sl a1 a c), (1, I s.2.1), (5, I s.2.2)] ρ ∧ But hx w w' ∧ OD hx4 (sl a1 a c) s.1 ∧ Sub hx4 w' ∧ (∀ n, DomLe hx n hx4)) (fun s => m s.1 s.2.1 s.2.2) (a, k, 0) ⟨Hx, _, hx, env_eq ⟨rfl, rfl, rfl, trivial⟩, X, r, ex, (fun _ => DomLe.refl _ _)⟩ ?_
 rintro ⟨a2, k6, i⟩ _ wx ⟨Hi, ρ, hx4, rfl, X7, o, ex5, f⟩
 have H := H a2 k6 i Hi
 refine W_seq ?_
 refine W_seq (W_region ?_)
 refine LP_ev ok 0 [(6, I i), (7, sl a1 a c), (8, I (ln a)), (9, .bool (decide (i < (ln a))))] 4 rfl rfl ?_
 refine LP_end _ rfl ?_
 refine W_cond (decide (i < (ln a))) rfl (fun hc => ?_) (fun hc => ?_)
 ·have H := H.1 hc
  refine W_skip ?_
  refine W_seq ?_
  refine W_block ?_
  refine W_region ?_
  refine LP_ev ok 0 [(12, sl a1 a c), (13, I i)] 2 rfl rfl ?_
  obtain ⟨x, hi, hx8, H⟩ := H
  refine LP_indexb (v := sl a1 a c) 2 rfl rfl rfl Tryz.underlying43 ti_84 rfl rfl o hi hx8 fun a9 u hx10 rest r11 bw => ?_
  refine LP_ldcell 3 rfl rfl rfl ti_84 ag_84 rfl r11 ex5 ?_
  have o14 := bw.od
  obtain ⟨a12, c13, rfl⟩ := o14.shape
  have ex15 := Sub.le ex5 bw.le
  refine LP_ev ok 4 [(16, I k6)] 5 rfl rfl ?_
  refine LP_call 5 rfl rfl rfl cal_64 rfl (laws_markRecordS_w _ _ _ H wx o14 ex15) ?_
  rintro _ wx18 ⟨r16, r17, hx20, H, rfl, x19, o21, ex22, dm⟩
  obtain ⟨bw23, o24, dd⟩ := BwL.turn bw o21 (Dom.of dm)
  have ex25 := BwL.sub bw ex5 ex22 x19
  have y := BwL.but bw x19
  refine LP_ev ok 6 [(1, I r16)] 7 rfl rfl ?_
  refine LP_end _ rfl ?_
  refine W_region ?_
  refine LP_ev ok 0 [(10, I i), (11, I (wr (i + 1))), (5, I (wr (i + 1)))] 3 rfl rfl ?_
  exact LP_end _ rfl ⟨(List.set a2 (Int.toNat i) r17, r16, wr (i + 1)), ⟨H.1, _, (un hx20 rest), env_eq ⟨rfl, rfl, rfl, trivial⟩, (X7.step y (DomLe.dom D (f _))), o24, ex25, (fun _ => DomLe.trans (f _) (((fun n => Dom.le dd n) _)) (Nat.le_refl _))⟩, H.2⟩
 have H := H.2 hc
 refine W_exit ?_
 refine (if_pos rfl).mpr ?_
 refine W_seq (W_region ?_)
 refine LP_ev ok 0 [(18, I k6), (4, I k6)] 2 rfl rfl ?_
 refine LP_end _ rfl (W_ret ?_)
 exact ⟨_, Ret_of [I k6] ⟨⟨rfl, rfl⟩, trivial⟩, _, _, _, H, rfl, X7, o, ex5, (fun _ => f _)⟩

theorem laws_markIntSS_w (a : List (List Int)) (k : Int) (Q : Int → (List (List Int)) → Prop) (H : laws_markIntSS a k Q) (w : World) {vx : Value} {hx : PH} (r : OD hx vx a) (ex : Sub hx w) :
  CallsTo Tryz.prog 27 #[vx, I k] w fun v w' => ∃ r0 m1 k1, Q r0 m1 ∧ v = I r0 ∧ But hx w w' ∧ OD k1 vx m1 ∧ Sub k1 w' ∧ (∀ n, DomLe hx n k1) := by
 obtain ⟨a1, c, rfl⟩ := r.shape
 refine enter (args := [sl a1 a c, I k]) 19 Tryz.func27 rfl rfl rfl ?_
 refine W_forget [(0, sl a1 a c), (1, I k)] ⟨rfl, rfl, trivial⟩ fun ρ => ?_
 have D : Dom hx hx := (Dom.refl _)
 have X := But.refl hx w
 refine W_seq (W_region ?_)
 refine LP_ev ok 0 [(4, I 0)] 1 rfl rfl ?_
 refine LP_end _ rfl (W_seq ?_)
 refine W_seq (W_region ?_)
 refine LP_ev ok 0 [(5, I 0)] 1 rfl rfl ?_
 refine LP_end _ rfl ?_
 refine W_block ?_
 obtain ⟨J, m, Hx, H⟩ := H
 refine W_loop (S := (List (List Int)) × Int × Int) (fun s ρ' w' => J s.1 s.2.1 s.2.2 ∧ ∃ (ρ : Env) (hx4 : PH), ρ' = setAll [(0, sl a1 a c), (1, I s.2.1), (5, I s.2.2)] ρ ∧ But hx w w' ∧ OD hx4 (sl a1 a c) s.1 ∧ Sub hx4 w' ∧ (∀ n, DomLe hx n hx4)) (fun s => m s.1 s.2.1 s.2.2) (a, k, 0) ⟨Hx, _, hx, env_eq ⟨rfl, rfl, rfl, trivial⟩, X, r, ex, (fun _ => DomLe.refl _ _)⟩ ?_
 rintro ⟨a2, k6, i⟩ _ wx ⟨Hi, ρ, hx4, rfl, X7, o, ex5, f⟩
 have H := H a2 k6 i Hi
 refine W_seq ?_
 refine W_seq (W_region ?_)
 refine LP_ev ok 0 [(6, I i), (7, sl a1 a c), (8, I (ln a)), (9, .bool (decide (i < (ln a))))] 4 rfl rfl ?_
 refine LP_end _ rfl ?_
 refine W_cond (decide (i < (ln a))) rfl (fun hc => ?_) (fun hc => ?_)
 ·have H := H.1 hc
  refine W_skip ?_
  refine W_seq ?_
  refine W_block ?_
  refine W_region ?_
  refine LP_ev ok 0 [(12, sl a1 a c), (13, I i)] 2 rfl rfl ?_
  obtain ⟨x, hi, hx8, H⟩ := H
  refine LP_indexb (v := sl a1 a c) 2 rfl rfl rfl Tryz.underlying29 ti_22 rfl rfl o hi hx8 fun a9 u hx10 rest r11 bw => ?_
  refine LP_ldcell 3 rfl rfl rfl ti_22 ag_22 rfl r11 ex5 ?_
  have o14 := bw.od
  obtain ⟨a12, c13, rfl⟩ := o14.shape
  have ex15 := Sub.le ex5 bw.le
  have o16 : OS 3 hx10 emp (sl a12 x c13) x := OD.flat o14
  refine LP_ev ok 4 [(16, I k6)] 5 rfl rfl ?_
  refine LP_call 5 rfl rfl rfl cal_28 rfl (laws_markIntS_w _ _ _ H wx o16 ex15) ?_
  rintro _ wx19 ⟨r17, r18, hx21, H, rfl, x20, o22, ex23, dm⟩
  obtain ⟨bw24, o25, dd⟩ := BwL.turn bw (OS.od o22) (Dom.of dm)
  have ex26 := BwL.sub bw ex5 ex23 x20
  have y := BwL.but bw x20
  refine LP_ev ok 6 [(1, I r17)] 7 rfl rfl ?_
  refine LP_end _ rfl ?_
  refine W_region ?_
  refine LP_ev ok 0 [(10, I i), (11, I (wr (i + 1))), (5, I (wr (i + 1)))] 3 rfl rfl ?_
  exact LP_end _ rfl ⟨(List.set a2 (Int.toNat i) r18, r17, wr (i + 1)), ⟨H.1, _, (un hx21 rest), env_eq ⟨rfl, rfl, rfl, trivial⟩, (X7.step y (DomLe.dom D (f _))), o25, ex26, (fun _ => DomLe.trans (f _) (((fun n => Dom.le dd n) _)) (Nat.le_refl _))⟩, H.2⟩
 have H := H.2 hc
 refine W_exit ?_
 refine (if_pos rfl).mpr ?_
 refine W_seq (W_region ?_)
 refine LP_ev ok 0 [(18, I k6), (4, I k6)] 2 rfl rfl ?_
 refine LP_end _ rfl (W_ret ?_)
 exact ⟨_, Ret_of [I k6] ⟨⟨rfl, rfl⟩, trivial⟩, _, _, _, H, rfl, X7, o, ex5, (fun _ => f _)⟩

theorem laws_heldIntS_w (a : List Int) (k : Int) (Q : Int → Prop) (H : laws_heldIntS a k Q) (w : World) {vx : Value} {hx : PH} (r : RS hx vx a) (ex : Sub hx w) :
  CallsTo Tryz.prog 29 #[vx, I k] w fun v w' => ∃ r0, Q r0 ∧ v = I r0 ∧ Ext w w' := by
 obtain ⟨a1, c, rfl⟩ := r.shape
 refine enter (args := [sl a1 a c, I k]) 21 Tryz.func29 rfl rfl rfl ?_
 refine W_forget [(0, sl a1 a c), (1, I k)] ⟨rfl, rfl, trivial⟩ fun ρ => ?_
 have X := But.refl emp w
 refine W_seq (W_region ?_)
 refine LP_ev ok 0 [(4, I 0)] 1 rfl rfl ?_
 refine LP_end _ rfl (W_seq ?_)
 refine W_seq (W_region ?_)
 refine LP_ev ok 0 [(5, I 0)] 1 rfl rfl ?_
 refine LP_end _ rfl ?_
 refine W_block ?_
 obtain ⟨J, m, Hx, H⟩ := H
 refine W_loop (S := Int × Int) (fun s ρ' w' => J s.1 s.2 ∧ ∃ (ρ : Env), ρ' = setAll [(0, sl a1 a c), (1, I s.1), (5, I s.2)] ρ ∧ w = w') (fun s => m s.1 s.2) (k, 0) ⟨Hx, _, env_eq ⟨rfl, rfl, rfl, trivial⟩, rfl⟩ ?_
 rintro ⟨k2, i⟩ _ _ ⟨Hi, ρ, rfl, rfl⟩
 have H := H k2 i Hi
 refine W_seq ?_
 refine W_seq (W_region ?_)
 refine LP_ev ok 0 [(6, I i), (7, sl a1 a c), (8, I (ln a)), (9, .bool (decide (i < (ln a))))] 4 rfl rfl ?_
 refine LP_end _ rfl ?_
 refine W_cond (decide (i < (ln a))) rfl (fun hc => ?_) (fun hc => ?_)
 ·have H := H.1 hc
  refine W_skip ?_
  refine W_seq ?_
  refine W_block ?_
  refine W_seq ?_
  refine W_seq (W_region ?_)
  refine LP_ev ok 0 [(12, sl a1 a c), (13, I i)] 2 rfl rfl ?_
  obtain ⟨x, hi, hx3, H⟩ := H
  refine LP_index 2 rfl rfl rfl Tryz.underlying22 ti_3 rfl rfl r hi hx3 fun a4 cs r5 d => ?_
  refine LP_load 3 rfl rfl rfl ti_3 ag_3 rfl r5 d ex fun vx6 r7 => ?_
  obtain rfl := r7.int
  refine LP_ev ok 4 [(16, I k2), (17, .bool (x != k2))] 6 rfl rfl ?_
  refine LP_end _ rfl ?_
  refine W_cond (x != k2) rfl (fun hc8 => ?_) (fun hc8 => ?_)
  ·have H := H.1 hc8
   refine W_seq (W_region ?_)
   refine LP_ev ok 0 [(4, I ((-1)))] 1 rfl rfl ?_
   refine LP_end _ rfl (W_ret ?_)
   exact ⟨_, Ret_of [I ((-1))] ⟨⟨rfl, rfl⟩, trivial⟩, _, H, rfl, X.ext⟩
  have H := H.2 hc8
  refine W_skip ?_
  refine W_region ?_
  refine LP_ev ok 0 [(18, I k2), (19, I (wr (k2 + 1))), (1, I (wr (k2 + 1)))] 3 rfl rfl ?_
  refine LP_end _ rfl ?_
  refine W_region ?_
  refine LP_ev ok 0 [(10, I i), (11, I (wr (i + 1))), (5, I (wr (i + 1)))] 3 rfl rfl ?_
  exact LP_end _ rfl ⟨(wr (k2 + 1), wr (i + 1)), ⟨H.1, _, env_eq ⟨rfl, rfl, rfl, trivial⟩, rfl⟩, H.2⟩
 have H := H.2 hc
 refine W_exit ?_
 refine (if_pos rfl).mpr ?_
 refine W_seq (W_region ?_)
 refine LP_ev ok 0 [(20, I k2), (4, I k2)] 2 rfl rfl ?_
 refine LP_end _ rfl (W_ret ?_)
 exact ⟨_, Ret_of [I k2] ⟨⟨rfl, rfl⟩, trivial⟩, _, H, rfl, X.ext⟩

theorem laws_FnExactFederatedCells_w (aG : Geo) (aS : List Variable) (aT : Table) (aSites : List (List Record)) (aSeeds : List (List Int)) (aRound : Int) (aM : Int) (Q : Bool → Prop) (H : laws_FnExactFederatedCells aG aS aT aSites aSeeds aRound aM Q) (w : World) {vx : Value} {hx : PH} (r : RS hx vx aG.Parents) (ex : Sub hx w) {vx1 : Value} {hx2 : PH} (r3 : RS hx2 vx1 aS) (ex4 : Sub hx2 w) {vx7 : Value} {hx8 : PH} (r9 : RS hx8 vx7 aT.Vars) (ex10 : Sub hx8 w) {vx13 : Value} {hx14 : PH} (r15 : RS hx14 vx13 aT.Where) (ex16 : Sub hx14 w) {vx19 : Value} {hx20 : PH} (r21 : RS hx20 vx19 aSites) (ex22 : Sub hx20 w) {vx25 : Value} {hx26 : PH} (r27 : RS hx26 vx25 aSeeds) (ex28 : Sub hx26 w) :
  CallsTo Tryz.prog 3 #[.agg #[vx], vx1, .agg #[I aT.Level, vx7, vx13, I aT.Sum], vx19, vx25, I aRound, I aM] w fun v w' => ∃ r0, Q r0 ∧ v = .bool r0 ∧ Ext w w' := by
 obtain ⟨a, c, rfl⟩ := r.shape
 obtain ⟨a5, c6, rfl⟩ := r3.shape
 obtain ⟨a11, c12, rfl⟩ := r9.shape
 obtain ⟨a17, c18, rfl⟩ := r15.shape
 obtain ⟨a23, c24, rfl⟩ := r21.shape
 obtain ⟨a29, c30, rfl⟩ := r27.shape
 refine enter (args := [.agg #[sl a aG.Parents c], sl a5 aS c6, .agg #[I aT.Level, sl a11 aT.Vars c12, sl a17 aT.Where c18, I aT.Sum], sl a23 aSites c24, sl a29 aSeeds c30, I aRound, I aM]) 198 Tryz.func3 rfl rfl rfl ?_
 refine W_forget [(0, .agg #[sl a aG.Parents c]), (1, sl a5 aS c6), (2, .agg #[I aT.Level, sl a11 aT.Vars c12, sl a17 aT.Where c18, I aT.Sum]), (3, sl a23 aSites c24), (4, sl a29 aSeeds c30), (5, I aRound), (6, I aM)] ⟨rfl, rfl, rfl, rfl, rfl, rfl, rfl, trivial⟩ fun ρ => ?_
 have X := But.refl emp w
 refine W_seq (W_region ?_)
 refine LP_box 0 (cs := [sl a aG.Parents c]) rfl rfl rfl rfl rfl fun b wx x ex31 f => ?_
 refine LP_box 1 (cs := [I aT.Level, sl a11 aT.Vars c12, sl a17 aT.Where c18, I aT.Sum]) rfl rfl rfl rfl rfl fun b32 wx33 x34 ex35 f36 => ?_
 refine LP_ev ok 2 [(14, .bool false)] 3 rfl rfl ?_
 refine LP_end _ rfl (W_seq (W_region ?_))
 refine LP_ev ok 0 [(15, I 1048576)] 1 rfl rfl ?_
 refine LP_end _ rfl (W_seq (W_region ?_))
 have ex37 := (ex31.ext x34)
 refine LP_ldbox 0 (v := .agg #[sl a aG.Parents c]) rfl rfl rfl ti_24 ag_24 (fun h => by cases h) rfl ex37 rfl rfl ?_
 refine LP_ev ok 1 [(31, I 1048576)] 2 rfl rfl ?_
 have xc := (x.trans x34)
 have ex39 := (ex.ext xc)
 refine LP_call 2 rfl rfl rfl cal_5 rfl (laws_szGeo_w _ _ _ H wx33 r ex39) ?_
 rintro _ wx40 ⟨r38, H, rfl, x41⟩
 refine LP_ev ok 3 [(15, I r38)] 4 rfl rfl ?_
 refine LP_end _ rfl (W_seq ?_)
 refine W_seq (W_region ?_)
 refine LP_ev ok 0 [(33, I r38), (34, .bool (decide (r38 < 0)))] 2 rfl rfl ?_
 refine LP_end _ rfl ?_
 refine W_cond (decide (r38 < 0)) rfl (fun hc => ?_) (fun hc => ?_)
 ·have H := H.1 hc
  refine W_seq (W_region ?_)
  refine LP_ev ok 0 [(14, .bool true)] 1 rfl rfl ?_
  refine LP_end _ rfl (W_ret ?_)
  exact ⟨_, Ret_of [.bool true] ⟨⟨rfl, rfl⟩, trivial⟩, _, H, rfl, (X.stepx (xc.trans x41)).ext⟩
 have H := H.2 hc
 refine W_skip ?_
 refine W_seq (W_region ?_)
 refine LP_ev ok 0 [(35, sl a5 aS c6), (36, I r38)] 2 rfl rfl ?_
 have xc45 := (xc.trans x41)
 have ex46 := (ex4.ext xc45)
 refine LP_call 2 rfl rfl rfl cal_6 rfl (laws_szVariableS_w _ _ _ H wx40 r3 ex46) ?_
 rintro _ wx47 ⟨r44, H, rfl, x48⟩
 refine LP_ev ok 3 [(15, I r44)] 4 rfl rfl ?_
 refine LP_end _ rfl (W_seq ?_)
 refine W_seq (W_region ?_)
 refine LP_ev ok 0 [(38, I r44), (39, .bool (decide (r44 < 0)))] 2 rfl rfl ?_
 refine LP_end _ rfl ?_
 refine W_cond (decide (r44 < 0)) rfl (fun hc49 => ?_) (fun hc49 => ?_)
 ·have H := H.1 hc49
  refine W_seq (W_region ?_)
  refine LP_ev ok 0 [(14, .bool true)] 1 rfl rfl ?_
  refine LP_end _ rfl (W_ret ?_)
  exact ⟨_, Ret_of [.bool true] ⟨⟨rfl, rfl⟩, trivial⟩, _, H, rfl, (X.stepx (xc45.trans x48)).ext⟩
 have H := H.2 hc49
 refine W_skip ?_
 refine W_seq (W_region ?_)
 have ex53 := (ex35.ext (x41.trans x48))
 refine LP_ldbox 0 (v := .agg #[I aT.Level, sl a11 aT.Vars c12, sl a17 aT.Where c18, I aT.Sum]) rfl rfl rfl ti_27 ag_27 (fun h => by cases h) rfl ex53 rfl rfl ?_
 refine LP_ev ok 1 [(41, I r44)] 2 rfl rfl ?_
 have xc55 := (xc45.trans x48)
 have ex56 := (ex10.ext xc55)
 have ex57 := (ex16.ext xc55)
 refine LP_call 2 rfl rfl rfl cal_7 rfl (laws_szTable_w _ _ _ H wx47 r9 ex56 r15 ex57) ?_
 rintro _ wx58 ⟨r54, H, rfl, x59⟩
 refine LP_ev ok 3 [(15, I r54)] 4 rfl rfl ?_
 refine LP_end _ rfl (W_seq ?_)
 refine W_seq (W_region ?_)
 refine LP_ev ok 0 [(43, I r54), (44, .bool (decide (r54 < 0)))] 2 rfl rfl ?_
 refine LP_end _ rfl ?_
 refine W_cond (decide (r54 < 0)) rfl (fun hc60 => ?_) (fun hc60 => ?_)
 ·have H := H.1 hc60
  refine W_seq (W_region ?_)
  refine LP_ev ok 0 [(14, .bool true)] 1 rfl rfl ?_
  refine LP_end _ rfl (W_ret ?_)
  exact ⟨_, Ret_of [.bool true] ⟨⟨rfl, rfl⟩, trivial⟩, _, H, rfl, (X.stepx (xc55.trans x59)).ext⟩
 have H := H.2 hc60
 refine W_skip ?_
 refine W_seq (W_region ?_)
 refine LP_ev ok 0 [(45, sl a23 aSites c24), (46, I r54)] 2 rfl rfl ?_
 have xc64 := (xc55.trans x59)
 have ex65 := (ex22.ext xc64)
 refine LP_call 2 rfl rfl rfl cal_8 rfl (laws_szRecordSS_w _ _ _ H wx58 r21 ex65) ?_
 rintro _ wx66 ⟨r63, H, rfl, x67⟩
 refine LP_ev ok 3 [(15, I r63)] 4 rfl rfl ?_
 refine LP_end _ rfl ?_
 try refine W_forget [(1, sl a5 aS c6), (3, sl a23 aSites c24), (4, sl a29 aSeeds c30), (5, I aRound), (6, I aM), (7, pb b), (9, pb b32), (15, I r63)] ⟨rfl, rfl, rfl, rfl, rfl, rfl, rfl, rfl, trivial⟩ fun ρ => ?_
 refine W_seq ?_
 refine W_seq (W_region ?_)
 refine LP_ev ok 0 [(48, I r63), (49, .bool (decide (r63 < 0)))] 2 rfl rfl ?_
 refine LP_end _ rfl ?_
 refine W_cond (decide (r63 < 0)) rfl (fun hc68 => ?_) (fun hc68 => ?_)
 ·have H := H.1 hc68
  refine W_seq (W_region ?_)
  refine LP_ev ok 0 [(14, .bool true)] 1 rfl rfl ?_
  refine LP_end _ rfl (W_ret ?_)
  exact ⟨_, Ret_of [.bool true] ⟨⟨rfl, rfl⟩, trivial⟩, _, H, rfl, (X.stepx (xc64.trans x67)).ext⟩
 have H := H.2 hc68
 refine W_skip ?_
 refine W_seq (W_region ?_)
 refine LP_ev ok 0 [(50, sl a29 aSeeds c30), (51, I r63)] 2 rfl rfl ?_
 have xc72 := (xc64.trans x67)
 have ex73 := (ex28.ext xc72)
 refine LP_call 2 rfl rfl rfl cal_9 rfl (laws_szIntSS_w _ _ _ H wx66 r27 ex73) ?_
 rintro _ wx74 ⟨r71, H, rfl, x75⟩
 refine LP_ev ok 3 [(15, I r71)] 4 rfl rfl ?_
 refine LP_end _ rfl (W_seq ?_)
 refine W_seq (W_region ?_)
 refine LP_ev ok 0 [(53, I r71), (54, .bool (decide (r71 < 0)))] 2 rfl rfl ?_
 refine LP_end _ rfl ?_
 refine W_cond (decide (r71 < 0)) rfl (fun hc76 => ?_) (fun hc76 => ?_)
 ·have H := H.1 hc76
  refine W_seq (W_region ?_)
  refine LP_ev ok 0 [(14, .bool true)] 1 rfl rfl ?_
  refine LP_end _ rfl (W_ret ?_)
  exact ⟨_, Ret_of [.bool true] ⟨⟨rfl, rfl⟩, trivial⟩, _, H, rfl, (X.stepx (xc72.trans x75)).ext⟩
 have H := H.2 hc76
 refine W_skip ?_
 refine W_seq ?_
 refine W_open mix fun wx79 x80 => ?_
 refine AP_game 17 [[], [0], [], [0, 1, 2], [], [0, 1, 2, 3, 4], [], [0, 1, 2, 3, 4, 5, 6], [], [0, 1, 2, 3, 4, 5, 6, 7, 8], [], [], [0, 1, 2, 3, 4, 5, 6, 7, 8, 9, 10, 11], [0, 1, 2, 3, 4, 5, 6, 7, 8, 9, 10, 11, 12], [0, 1, 2, 3, 4, 5, 6, 7, 8, 9, 10, 11, 12, 13], [0, 1, 2, 3, 4, 5, 6, 7, 8, 9, 10, 11, 12, 13], [0, 1, 2, 3, 4, 5, 6, 7, 8, 9, 10, 11, 12, 13, 14], [0, 1, 2, 3, 4, 5, 6, 7, 8, 9, 10, 11, 12, 13, 14, 15, 16]] [[(7, none)], [(56, some 0)], [(1, none)], [(58, some 2)], [(9, none)], [(60, some 4)], [(3, none)], [(62, some 6)], [(4, none)], [(64, some 8)], [(5, none)], [(6, none)], [(57, some 1), (59, some 3), (61, some 5), (63, some 7), (65, some 9), (66, some 10), (67, some 11)], [(68, some 12)], [(55, some 13)], [(55, some 13)], [(69, some 14)]] [(1, none), (3, none), (4, none), (5, none), (6, none), (7, none), (9, none), (16, some 16), (70, some 15)] [(0, false), (2, false), (4, false), (6, false), (8, false), (10, false), (11, false), (1, true), (3, true), (5, true), (7, true), (9, true), (12, true), (13, false), (14, false), (15, false), (16, false)] (by kernel_rfl) (by kernel_rfl) ?_
 have xc81 := (((((x41.trans x48).trans x59).trans x67).trans x75).trans x80)
 have ex82 := (ex37.ext xc81)
 refine GS_r1 [(7, pb b)] (.agg #[sl a aG.Parents c]) rfl rfl (fun _ h => h) (fun _ w e => ex_ldbox rfl ti_24 ag_24 (fun h => by cases h) rfl e rfl rfl) ex82 ?_
 refine GS_ev ok [(1, sl a5 aS c6)] (sl a5 aS c6) rfl rfl (fun _ h => h) (fun _ => rfl) ?_
 have ex84 := (ex53.ext (((x59.trans x67).trans x75).trans x80))
 refine GS_r1 [(9, pb b32)] (.agg #[I aT.Level, sl a11 aT.Vars c12, sl a17 aT.Where c18, I aT.Sum]) rfl rfl (fun _ h => h) (fun _ w e => ex_ldbox rfl ti_27 ag_27 (fun h => by cases h) rfl e rfl rfl) ex84 ?_
 refine GS_ev ok [(3, sl a23 aSites c24)] (sl a23 aSites c24) rfl rfl (fun _ h => h) (fun _ => rfl) ?_
 refine GS_ev ok [(4, sl a29 aSeeds c30)] (sl a29 aSeeds c30) rfl rfl (fun _ h => h) (fun _ => rfl) ?_
 refine GS_ev ok [(5, I aRound)] (I aRound) rfl rfl (fun _ h => h) (fun _ => rfl) ?_
 refine GS_ev ok [(6, I aM)] (I aM) rfl rfl (fun _ h => h) (fun _ => rfl) ?_
 refine GS_lp [(56, .agg #[sl a aG.Parents c])] rfl rfl (fun _ h => h) rfl fun ρ wx85 x86 => ?_
 have ex89 := (ex39.ext (xc81.trans x86))
 refine LP_call 0 rfl rfl rfl cal_11 rfl (laws_toGeo_w _ _ H wx85 r ex89) ?_
 rintro _ wx90 ⟨r87, vx92, hx93, H, rfl, x91, o, ex94, f95⟩
 obtain ⟨a96, c97, rfl⟩ := o.shape
 have ex99 := (ex84.ext (x86.trans x91))
 refine LP_gs ⟨⟨.inr ex99, .inl rfl, trivial⟩, ?_⟩
 refine GS_lp [(58, sl a5 aS c6)] rfl rfl (fun _ h => h) rfl fun ρ wx100 x101 => ?_
 have ex104 := (ex46.ext (((((((x48.trans x59).trans x67).trans x75).trans x80).trans x86).trans x91).trans x101))
 refine LP_call 0 rfl rfl rfl cal_12 rfl (laws_toVariableS_w _ _ H wx100 r3 ex104) ?_
 rintro _ wx105 ⟨r102, vx107, hx108, H, rfl, x106, o109, ex110, f111⟩
 obtain ⟨a112, c113, rfl⟩ := o109.shape
 refine LP_gs ⟨⟨.inr (ex99.ext (x101.trans x106)), .inl rfl, trivial⟩, ?_⟩
 refine GS_lp [(60, .agg #[I aT.Level, sl a11 aT.Vars c12, sl a17 aT.Where c18, I aT.Sum])] rfl rfl (fun _ h => h) rfl fun ρ wx116 x117 => ?_
 have xc119 := ((((((((x59.trans x67).trans x75).trans x80).trans x86).trans x91).trans x101).trans x106).trans x117)
 have ex120 := (ex56.ext xc119)
 have ex121 := (ex57.ext xc119)
 refine LP_call 0 rfl rfl rfl cal_13 rfl (laws_toTable_w _ _ H wx116 r9 ex120 r15 ex121) ?_
 rintro _ wx122 ⟨r118, vx124, hx125, vx129, hx130, H, rfl, x123, HF⟩
 revert HF
 refine bb7 fun o126 ex127 f128 o131 ex132 f133 d => ?_
 obtain ⟨a134, c135, rfl⟩ := o126.shape
 obtain ⟨a136, c137, rfl⟩ := o131.shape
 refine LP_gs ⟨⟨.inl rfl, .inl rfl, trivial⟩, ?_⟩
 refine GS_lp [(62, sl a23 aSites c24)] rfl rfl (fun _ h => h) rfl fun ρ wx138 x139 => ?_
 have ex142 := (ex65.ext (((((((((x67.trans x75).trans x80).trans x86).trans x91).trans x101).trans x106).trans x117).trans x123).trans x139))
 refine LP_call 0 rfl rfl rfl cal_14 rfl (laws_toRecordSS_w _ _ H wx138 r21 ex142) ?_
 rintro _ wx143 ⟨r140, vx145, hx146, H, rfl, x144, o147, ex148, f149⟩
 obtain ⟨a150, c151, rfl⟩ := o147.shape
 refine LP_gs ⟨⟨.inl rfl, .inl rfl, trivial⟩, ?_⟩
 refine GS_lp [(64, sl a29 aSeeds c30)] rfl rfl (fun _ h => h) rfl fun ρ wx152 x153 => ?_
 have ex156 := (ex73.ext ((((((((((x75.trans x80).trans x86).trans x91).trans x101).trans x106).trans x117).trans x123).trans x139).trans x144).trans x153))
 refine LP_call 0 rfl rfl rfl cal_15 rfl (laws_toIntSS_w _ _ H wx152 r27 ex156) ?_
 rintro _ wx157 ⟨r154, vx159, hx160, H, rfl, x158, o161, ex162, f163⟩
 obtain ⟨a164, c165, rfl⟩ := o161.shape
 refine LP_gs ⟨⟨.inl rfl, .inl rfl, trivial⟩, ?_⟩
 refine GS_lp [(57, .agg #[sl a96 r87.Parents c97]), (59, sl a112 r102 c113), (61, .agg #[I r118.Level, sl a134 r118.Vars c135, sl a136 r118.Where c137, I r118.Sum]), (63, sl a150 r140 c151), (65, sl a164 r154 c165), (66, I aRound), (67, I aM)] rfl rfl (fun _ h => h) rfl fun ρ wx166 x167 => ?_
 have xc174 := ((((x139.trans x144).trans x153).trans x158).trans x167)
 refine LP_call 0 rfl rfl rfl cal_10 rfl (spec_FederatedCells_w _ _ _ _ _ _ _ _ H wx166 o.readf (ex94.ext ((((((((x101.trans x106).trans x117).trans x123).trans x139).trans x144).trans x153).trans x158).trans x167)) o109.readf (ex110.ext ((((((x117.trans x123).trans x139).trans x144).trans x153).trans x158).trans x167)) o126.readf (ex127.ext xc174) o131.readf (ex132.ext xc174) o147.readf (ex148.ext ((x153.trans x158).trans x167)) o161.readf (ex162.ext x167)) ?_
 rintro _ wx180 ⟨r168, r169, vx182, hx183, H, rfl, x181, o184, ex185, f186⟩
 obtain ⟨a187, c188, rfl⟩ := o184.shape
 refine LP_gs ⟨⟨.inl rfl, .inl rfl, trivial⟩, ?_⟩
 refine GS_ev ok [(68, .tuple #[sl a187 r168 c188, .bool r169])] (.tuple #[sl a187 r168 c188, .bool r169]) rfl rfl (fun _ h => h) (fun _ => rfl) ?_
 refine GS_ev ok [(55, .tuple #[sl a187 r168 c188, .bool r169])] (sl a187 r168 c188) rfl rfl (fun _ h => h) (fun _ => rfl) ?_
 refine GS_ev ok [(55, .tuple #[sl a187 r168 c188, .bool r169])] (.bool r169) rfl rfl (fun _ h => h) (fun _ => rfl) ?_
 refine GS_ev ok [(69, sl a187 r168 c188)] (sl a187 r168 c188) rfl rfl (fun _ h => h) (fun _ => rfl) ?_
 intro wx189 x190 ρ hn
 refine AP_forget [(1, sl a5 aS c6), (3, sl a23 aSites c24), (4, sl a29 aSeeds c30), (5, I aRound), (6, I aM), (7, pb b), (9, pb b32), (16, sl a187 r168 c188), (70, .bool r169)] (by exact hn) fun ρ => ?_
 refine AP_tail 17 [[], [0], [], [0, 1, 2], [], [0, 1, 2, 3, 4], [], [0, 1, 2, 3, 4, 5, 6], [], [0, 1, 2, 3, 4, 5, 6, 7, 8], [], [], [0, 1, 2, 3, 4, 5, 6, 7, 8, 9, 10, 11], [0, 1, 2, 3, 4, 5, 6, 7, 8, 9, 10, 11, 12], [0, 1, 2, 3, 4, 5, 6, 7, 8, 9, 10, 11, 12, 13], [0, 1, 2, 3, 4, 5, 6, 7, 8, 9, 10, 11, 12, 13], [0, 1, 2, 3, 4, 5, 6, 7, 8, 9, 10, 11, 12, 13, 14], [0, 1, 2, 3, 4, 5, 6, 7, 8, 9, 10, 11, 12, 13, 14, 15, 16]] (by kernel_rfl) ?_
 refine LP_ev ok 17 [(17, .bool r169)] 18 rfl rfl ?_
 refine LP_end _ rfl (W_seq (W_region ?_))
 have xc191 := ((((((((((((x86.trans x91).trans x101).trans x106).trans x117).trans x123).trans x139).trans x144).trans x153).trans x158).trans x167).trans x181).trans x190)
 have ex192 := (ex82.ext xc191)
 refine LP_ldbox 0 (v := .agg #[sl a aG.Parents c]) rfl rfl rfl ti_24 ag_24 (fun h => by cases h) rfl ex192 rfl rfl ?_
 have ex195 := (ex89.ext (((((((((((x91.trans x101).trans x106).trans x117).trans x123).trans x139).trans x144).trans x153).trans x158).trans x167).trans x181).trans x190))
 refine LP_call 1 rfl rfl rfl cal_11 rfl (laws_toGeo_w _ _ H wx189 r ex195) ?_
 rintro _ wx196 ⟨r193, vx198, hx199, H, rfl, x197, o200, ex201, f202⟩
 obtain ⟨a203, c204, rfl⟩ := o200.shape
 refine LP_alloc 2 rfl rfl rfl ti_37 rfl fun b205 wx206 x207 ex208 f209 => ?_
 refine LP_stbox 3 (vs := [sl a203 r193.Parents c204]) (cs' := [sl a203 r193.Parents c204]) rfl rfl rfl ti_37 rfl rfl rfl rfl rfl ex208 rfl rfl fun wx210 ex211 y => ?_
 refine LP_end _ rfl (W_seq (W_region ?_))
 refine LP_ev ok 0 [(73, sl a5 aS c6)] 1 rfl rfl ?_
 have ex216 := ((ex104.ext (((((((((((x106.trans x117).trans x123).trans x139).trans x144).trans x153).trans x158).trans x167).trans x181).trans x190).trans x197).trans x207)).but y (Dj.of_fresh (ex104.ext ((((((((((x106.trans x117).trans x123).trans x139).trans x144).trans x153).trans x158).trans x167).trans x181).trans x190).trans x197)) f209).symm)
 refine LP_call 1 rfl rfl rfl cal_12 rfl (laws_toVariableS_w _ _ H wx210 r3 ex216) ?_
 rintro _ wx217 ⟨r212, vx219, hx220, H, rfl, x218, o221, ex222, f223⟩
 obtain ⟨a224, c225, rfl⟩ := o221.shape
 refine LP_ev ok 2 [(19, sl a224 r212 c225)] 3 rfl rfl ?_
 refine LP_end _ rfl (W_seq (W_region ?_))
 have ex228 := (ex84.ext (xc191.trans x197))
 have ex229 := (((ex84.ext ((((((((((((((x86.trans x91).trans x101).trans x106).trans x117).trans x123).trans x139).trans x144).trans x153).trans x158).trans x167).trans x181).trans x190).trans x197).trans x207)).but y (Dj.of_fresh ex228 f209).symm).ext x218)
 refine LP_ldbox 0 (v := .agg #[I aT.Level, sl a11 aT.Vars c12, sl a17 aT.Where c18, I aT.Sum]) rfl rfl rfl ti_27 ag_27 (fun h => by cases h) rfl ex229 rfl rfl ?_
 have xc231 := (((((((((x123.trans x139).trans x144).trans x153).trans x158).trans x167).trans x181).trans x190).trans x197).trans x207)
 have xc232 := ((((((((x123.trans x139).trans x144).trans x153).trans x158).trans x167).trans x181).trans x190).trans x197)
 have ex233 := (ex120.ext xc232)
 have ex234 := (((ex120.ext xc231).but y (Dj.of_fresh ex233 f209).symm).ext x218)
 have ex235 := (ex121.ext xc232)
 have ex236 := (((ex121.ext xc231).but y (Dj.of_fresh ex235 f209).symm).ext x218)
 refine LP_call 1 rfl rfl rfl cal_13 rfl (laws_toTable_w _ _ H wx217 r9 ex234 r15 ex236) ?_
 rintro _ wx237 ⟨r230, vx239, hx240, vx244, hx245, H, rfl, x238, HF⟩
 revert HF
 refine bb7 fun o241 ex242 f243 o246 ex247 f248 d249 => ?_
 obtain ⟨a250, c251, rfl⟩ := o241.shape
 obtain ⟨a252, c253, rfl⟩ := o246.shape
 refine LP_alloc 2 rfl rfl rfl ti_41 rfl fun b254 wx255 x256 ex257 f258 => ?_
 refine LP_stbox 3 (vs := [I r230.Level, sl a250 r230.Vars c251, sl a252 r230.Where c253, I r230.Sum]) (cs' := [I r230.Level, sl a250 r230.Vars c251, sl a252 r230.Where c253, I r230.Sum]) rfl rfl rfl ti_41 rfl rfl rfl rfl rfl ex257 rfl rfl fun wx259 ex260 y261 => ?_
 refine LP_end _ rfl (W_seq (W_region ?_))
 refine LP_ev ok 0 [(77, sl a23 aSites c24)] 1 rfl rfl ?_
 have ex265 := (ex142.ext ((((((x144.trans x153).trans x158).trans x167).trans x181).trans x190).trans x197))
 have xc266 := ((x218.trans x238).trans x256)
 have xc267 := (x218.trans x238)
 have ex269 := ((((ex142.ext (((((((x144.trans x153).trans x158).trans x167).trans x181).trans x190).trans x197).trans x207)).but y (Dj.of_fresh ex265 f209).symm).ext xc266).but y261 (Dj.of_fresh (((ex265.ext x207).but y (Dj.of_fresh ex265 f209).symm).ext xc267) f258).symm)
 refine LP_call 1 rfl rfl rfl cal_14 rfl (laws_toRecordSS_w _ _ H wx259 r21 ex269) ?_
 rintro _ wx270 ⟨r262, vx272, hx273, H, rfl, x271, o274, ex275, f276⟩
 obtain ⟨a277, c278, rfl⟩ := o274.shape
 refine LP_ev ok 2 [(21, sl a277 r262 c278)] 3 rfl rfl ?_
 refine LP_end _ rfl (W_seq (W_region ?_))
 refine LP_ev ok 0 [(79, sl a29 aSeeds c30)] 1 rfl rfl ?_
 have ex282 := (ex156.ext ((((x158.trans x167).trans x181).trans x190).trans x197))
 have ex283 := (((ex282.ext x207).but y (Dj.of_fresh ex282 f209).symm).ext xc267)
 have ex284 := (((((ex156.ext (((((x158.trans x167).trans x181).trans x190).trans x197).trans x207)).but y (Dj.of_fresh ex282 f209).symm).ext xc266).but y261 (Dj.of_fresh ex283 f258).symm).ext x271)
 refine LP_call 1 rfl rfl rfl cal_15 rfl (laws_toIntSS_w _ _ H wx270 r27 ex284) ?_
 rintro _ wx285 ⟨r279, vx287, hx288, H, rfl, x286, o289, ex290, f291⟩
 obtain ⟨a292, c293, rfl⟩ := o289.shape
 refine LP_ev ok 2 [(22, sl a292 r279 c293)] 3 rfl rfl ?_
 refine LP_end _ rfl (W_seq (W_region ?_))
 have xc295 := (x271.trans x286)
 have ex296 := (((ex211.ext xc266).but y261 (Dj.of_fresh (ex211.ext xc267) f258).symm).ext xc295)
 refine LP_ldbox 0 (v := .agg #[sl a203 r193.Parents c204]) rfl rfl rfl ti_37 ag_37 (fun h => by cases h) rfl ex296 rfl rfl ?_
 refine LP_ev ok 1 [(83, sl a224 r212 c225)] 2 rfl rfl ?_
 have ex297 := (ex260.ext xc295)
 refine LP_ldbox 2 (v := .agg #[I r230.Level, sl a250 r230.Vars c251, sl a252 r230.Where c253, I r230.Sum]) rfl rfl rfl ti_41 ag_41 (fun h => by cases h) rfl ex297 rfl rfl ?_
 refine LP_ev ok 3 [(85, sl a277 r262 c278), (86, sl a292 r279 c293), (87, I aRound), (88, I aM)] 7 rfl rfl ?_
 have ex300 := (((ex201.ext x207).but y (Dj.of_fresh ex201 f209).symm).ext xc267)
 have ex301 := (((((ex201.ext x207).but y (Dj.of_fresh ex201 f209).symm).ext xc266).but y261 (Dj.of_fresh ex300 f258).symm).ext xc295)
 have xc302 := (x238.trans x256)
 have ex303 := (ex222.ext x238)
 have ex304 := (((ex222.ext xc302).but y261 (Dj.of_fresh ex303 f258).symm).ext xc295)
 have ex305 := (((ex242.ext x256).but y261 (Dj.of_fresh ex242 f258).symm).ext xc295)
 have ex306 := (((ex247.ext x256).but y261 (Dj.of_fresh ex247 f258).symm).ext xc295)
 have ex307 := (ex275.ext x286)
 refine LP_call 7 rfl rfl rfl cal_16 rfl (impl_FederatedCells_w _ _ _ _ _ _ _ _ H wx285 o200.readf ex301 o221.readf ex304 o241.readf ex305 o246.readf ex306 o274.readf ex307 o289.readf ex290) ?_
 rintro _ wx308 ⟨r298, r299, vx310, hx311, H, rfl, x309, o312, ex313, f314⟩
 obtain ⟨a315, c316, rfl⟩ := o312.shape
 refine LP_ev ok 8 [(81, .tuple #[sl a315 r298 c316, .bool r299]), (90, sl a315 r298 c316), (91, .bool r299), (23, sl a315 r298 c316), (24, .bool r299)] 13 rfl rfl ?_
 refine LP_end _ rfl ?_
 try refine W_forget [(1, sl a5 aS c6), (3, sl a23 aSites c24), (4, sl a29 aSeeds c30), (5, I aRound), (6, I aM), (7, pb b), (9, pb b32), (16, sl a187 r168 c188), (17, .bool r169), (18, pb b205), (19, sl a224 r212 c225), (20, pb b254), (21, sl a277 r262 c278), (22, sl a292 r279 c293), (23, sl a315 r298 c316), (24, .bool r299)] ⟨rfl, rfl, rfl, rfl, rfl, rfl, rfl, rfl, rfl, rfl, rfl, rfl, rfl, rfl, rfl, rfl, trivial⟩ fun ρ => ?_
 refine W_seq ?_
 obtain ⟨k, hk, H⟩ := jn_elim H
 refine W_join2 (S := Bool) (fun s ρ' w' => k s ∧ ∃ (ρ : Env), ρ' = setAll [(1, sl a5 aS c6), (3, sl a23 aSites c24), (4, sl a29 aSeeds c30), (5, I aRound), (6, I aM), (7, pb b), (9, pb b32), (16, sl a187 r168 c188), (17, .bool r169), (18, pb b205), (19, sl a224 r212 c225), (20, pb b254), (21, sl a277 r262 c278), (22, sl a292 r279 c293), (23, sl a315 r298 c316), (24, .bool r299), (100, .bool s)] ρ ∧ But emp w w' ∧ Sub hx w' ∧ Sub hx2 w' ∧ Sub hx8 w' ∧ Sub hx14 w' ∧ Sub hx20 w' ∧ Sub hx26 w' ∧ Sub (bx b 24 [sl a aG.Parents c]) w' ∧ Sub (bx b32 27 [I aT.Level, sl a11 aT.Vars c12, sl a17 aT.Where c18, I aT.Sum]) w' ∧ Sub hx183 w' ∧ Sub hx199 w' ∧ Sub (bx b205 37 [sl a203 r193.Parents c204]) w' ∧ Sub hx220 w' ∧ Sub hx240 w' ∧ Sub hx245 w' ∧ Sub (bx b254 41 [I r230.Level, sl a250 r230.Vars c251, sl a252 r230.Where c253, I r230.Sum]) w' ∧ Sub hx273 w' ∧ Sub hx288 w' ∧ Sub hx311 w') ?_ ?_
 ·refine W_region ?_
  refine LP_ev ok 0 [(92, sl a315 r298 c316), (93, sl a187 r168 c188)] 2 rfl rfl ?_
  have ex341 := (ex185.ext (x190.trans x197))
  have xc343 := (xc295.trans x309)
  have ex344 := (((((ex185.ext ((x190.trans x197).trans x207)).but y (Dj.of_fresh ex341 f209).symm).ext xc266).but y261 (Dj.of_fresh (((ex341.ext x207).but y (Dj.of_fresh ex341 f209).symm).ext xc267) f258).symm).ext xc343)
  refine LP_call 2 rfl rfl rfl cal_17 rfl (laws_eqIntS_w _ _ _ H wx308 o312.readf ex313 o184.readf ex344) ?_
  rintro _ wx345 ⟨r338, H, rfl, x346⟩
  refine LP_ev ok 3 [(95, .bool (!r338)), (96, .bool (!r338))] 5 rfl rfl ?_
  refine LP_split 96 (!r338) rfl (fun hc347 => ?_) (fun hc347 => ?_)
  ·have H := H.1 hc347
   refine LP_ev ok 5 [(97, undef), (98, undef), (99, undef), (100, .bool true)] 9 rfl rfl ?_
   refine LP_end _ rfl ?_
   have X351 := (X.stepx (((((((((((((((((((((x.trans x34).trans x41).trans x48).trans x59).trans x67).trans x75).trans x80).trans x86).trans x91).trans x101).trans x106).trans x117).trans x123).trans x139).trans x144).trans x153).trans x158).trans x167).trans x181).trans x190).trans x197))
   have f349 := f209.mono X351.size
   have f352 := f258.mono (((X351.stepx x207).step y (f349.dom _)).stepx xc267).size
   have xc354 := (xc343.trans x346)
   have xc356 := (x197.trans x207)
   have ex357 := (ex195.ext x197)
   have ex369 := (ex192.ext x197)
   have xc375 := (x309.trans x346)
   exact ⟨true, H, _, env_eq ⟨rfl, rfl, rfl, rfl, rfl, rfl, rfl, rfl, rfl, rfl, rfl, rfl, rfl, rfl, rfl, rfl, rfl, trivial⟩, (((((X.stepx ((((((((((((((((((((((x.trans x34).trans x41).trans x48).trans x59).trans x67).trans x75).trans x80).trans x86).trans x91).trans x101).trans x106).trans x117).trans x123).trans x139).trans x144).trans x153).trans x158).trans x167).trans x181).trans x190).trans x197).trans x207)).step y (f349.dom _)).stepx xc266).step y261 (f352.dom _)).stepx xc354), (((((ex195.ext xc356).but y (Dj.of_fresh ex357 f209).symm).ext xc266).but y261 (Dj.of_fresh (((ex357.ext x207).but y (Dj.of_fresh ex357 f209).symm).ext xc267) f258).symm).ext xc354), (((ex216.ext xc266).but y261 (Dj.of_fresh (ex216.ext xc267) f258).symm).ext xc354), (((ex234.ext xc302).but y261 (Dj.of_fresh (ex234.ext x238) f258).symm).ext xc354), (((ex236.ext xc302).but y261 (Dj.of_fresh (ex236.ext x238) f258).symm).ext xc354), (ex269.ext xc354), (ex284.ext ((x286.trans x309).trans x346)), (((((ex192.ext xc356).but y (Dj.of_fresh ex369 f209).symm).ext xc266).but y261 (Dj.of_fresh (((ex369.ext x207).but y (Dj.of_fresh ex369 f209).symm).ext xc267) f258).symm).ext xc354), (((ex229.ext xc302).but y261 (Dj.of_fresh (ex229.ext x238) f258).symm).ext xc354), (ex344.ext x346), (ex301.ext xc375), (ex296.ext xc375), (ex304.ext xc375), (ex305.ext xc375), (ex306.ext xc375), (ex297.ext xc375), (ex307.ext xc375), (ex290.ext xc375), (ex313.ext x346)⟩
  have H := H.2 hc347
  refine LP_ev ok 5 [(97, .bool r299), (98, .bool r169), (99, .bool (r299 != r169)), (100, .bool (r299 != r169))] 9 rfl rfl ?_
  refine LP_end _ rfl ?_
  have X388 := (X.stepx (((((((((((((((((((((x.trans x34).trans x41).trans x48).trans x59).trans x67).trans x75).trans x80).trans x86).trans x91).trans x101).trans x106).trans x117).trans x123).trans x139).trans x144).trans x153).trans x158).trans x167).trans x181).trans x190).trans x197))
  have f386 := f209.mono X388.size
  have f389 := f258.mono (((X388.stepx x207).step y (f386.dom _)).stepx xc267).size
  have xc391 := (xc343.trans x346)
  have xc393 := (x197.trans x207)
  have ex394 := (ex195.ext x197)
  have ex406 := (ex192.ext x197)
  have xc412 := (x309.trans x346)
  exact ⟨r299 != r169, H, _, env_eq ⟨rfl, rfl, rfl, rfl, rfl, rfl, rfl, rfl, rfl, rfl, rfl, rfl, rfl, rfl, rfl, rfl, rfl, trivial⟩, (((((X.stepx ((((((((((((((((((((((x.trans x34).trans x41).trans x48).trans x59).trans x67).trans x75).trans x80).trans x86).trans x91).trans x101).trans x106).trans x117).trans x123).trans x139).trans x144).trans x153).trans x158).trans x167).trans x181).trans x190).trans x197).trans x207)).step y (f386.dom _)).stepx xc266).step y261 (f389.dom _)).stepx xc391), (((((ex195.ext xc393).but y (Dj.of_fresh ex394 f209).symm).ext xc266).but y261 (Dj.of_fresh (((ex394.ext x207).but y (Dj.of_fresh ex394 f209).symm).ext xc267) f258).symm).ext xc391), (((ex216.ext xc266).but y261 (Dj.of_fresh (ex216.ext xc267) f258).symm).ext xc391), (((ex234.ext xc302).but y261 (Dj.of_fresh (ex234.ext x238) f258).symm).ext xc391), (((ex236.ext xc302).but y261 (Dj.of_fresh (ex236.ext x238) f258).symm).ext xc391), (ex269.ext xc391), (ex284.ext ((x286.trans x309).trans x346)), (((((ex192.ext xc393).but y (Dj.of_fresh ex406 f209).symm).ext xc266).but y261 (Dj.of_fresh (((ex406.ext x207).but y (Dj.of_fresh ex406 f209).symm).ext xc267) f258).symm).ext xc391), (((ex229.ext xc302).but y261 (Dj.of_fresh (ex229.ext x238) f258).symm).ext xc391), (ex344.ext x346), (ex301.ext xc412), (ex296.ext xc412), (ex304.ext xc412), (ex305.ext xc412), (ex306.ext xc412), (ex297.ext xc412), (ex307.ext xc412), (ex290.ext xc412), (ex313.ext x346)⟩
 rintro x317 _ wx318 ⟨H, ρ, rfl, HF⟩
 revert HF
 refine bb9 fun X337 ex319 ex320 ex321 ex322 ex323 ex324 ex325 => ?_
 refine bb9 fun ex326 ex327 ex328 ex329 ex330 ex331 ex332 ex333 => ?_
 refine bb3 fun ex334 ex335 ex336 => ?_
 subst hk
 refine W_cond (x317) rfl (fun hc422 => ?_) (fun hc422 => ?_)
 ·have H := H.1 hc422
  refine W_seq (W_region ?_)
  refine LP_ev ok 0 [(14, .bool false)] 1 rfl rfl ?_
  refine LP_end _ rfl (W_ret ?_)
  exact ⟨_, Ret_of [.bool false] ⟨⟨rfl, rfl⟩, trivial⟩, _, H, rfl, X337.ext⟩
 have H := H.2 hc422
 refine W_skip ?_
 refine W_seq ?_
 refine W_seq ?_
 refine W_open mix fun wx423 x424 => ?_
 refine AP_game 3 [[], [], [1], [0, 1, 2], [0, 1, 2, 3]] [[(18, none)], [(7, none)], [(102, some 1)]] [(1, none), (3, none), (4, none), (5, none), (6, none), (7, none), (9, none), (16, none), (17, none), (18, none), (19, none), (20, none), (21, none), (22, none), (23, none), (24, none), (101, some 0), (103, some 2)] [(0, false), (1, false), (2, true)] (by kernel_rfl) (by kernel_rfl) ?_
 have ex425 := (ex329.ext x424)
 refine GS_r1 [(18, pb b205)] (.agg #[sl a203 r193.Parents c204]) rfl rfl (fun _ h => h) (fun _ w e => ex_ldbox rfl ti_37 ag_37 (fun h => by cases h) rfl e rfl rfl) ex425 ?_
 have ex426 := (ex325.ext x424)
 refine GS_r1 [(7, pb b)] (.agg #[sl a aG.Parents c]) rfl rfl (fun _ h => h) (fun _ w e => ex_ldbox rfl ti_24 ag_24 (fun h => by cases h) rfl e rfl rfl) ex426 ?_
 refine GS_lp [(102, .agg #[sl a aG.Parents c])] rfl rfl (fun _ h => h) rfl fun ρ wx427 x428 => ?_
 have ex431 := (ex319.ext (x424.trans x428))
 refine LP_call 0 rfl rfl rfl cal_11 rfl (laws_toGeo_w _ _ H wx427 r ex431) ?_
 rintro _ wx432 ⟨r429, vx434, hx435, H, rfl, x433, o436, ex437, f438⟩
 obtain ⟨a439, c440, rfl⟩ := o436.shape
 refine LP_gs ⟨⟨.inl rfl, .inr (ex425.ext (x428.trans x433)), trivial⟩, ?_⟩
 intro wx443 x444 ρ hn445
 refine AP_forget [(1, sl a5 aS c6), (3, sl a23 aSites c24), (4, sl a29 aSeeds c30), (5, I aRound), (6, I aM), (7, pb b), (9, pb b32), (16, sl a187 r168 c188), (17, .bool r169), (18, pb b205), (19, sl a224 r212 c225), (20, pb b254), (21, sl a277 r262 c278), (22, sl a292 r279 c293), (23, sl a315 r298 c316), (24, .bool r299), (101, .agg #[sl a203 r193.Parents c204]), (103, .agg #[sl a439 r429.Parents c440])] (by exact hn445) fun ρ => ?_
 refine AP_tail 3 [[], [], [1], [0, 1, 2], [0, 1, 2, 3]] (by kernel_rfl) ?_
 have xc447 := (((x424.trans x428).trans x433).trans x444)
 have ex448 := (ex328.ext xc447)
 refine LP_call 3 rfl rfl rfl cal_18 rfl (laws_eqGeo_w _ _ _ H wx443 o200.readf ex448 o436.readf (ex437.ext x444)) ?_
 rintro _ wx450 ⟨r446, H, rfl, x451⟩
 refine LP_ev ok 4 [(105, .bool (!r446))] 5 rfl rfl ?_
 refine LP_end _ rfl ?_
 refine W_cond (!r446) rfl (fun hc452 => ?_) (fun hc452 => ?_)
 ·have H := H.1 hc452
  refine W_seq (W_region ?_)
  refine LP_ev ok 0 [(14, .bool false)] 1 rfl rfl ?_
  refine LP_end _ rfl (W_ret ?_)
  exact ⟨_, Ret_of [.bool false] ⟨⟨rfl, rfl⟩, trivial⟩, _, H, rfl, (X337.stepx (xc447.trans x451)).ext⟩
 have H := H.2 hc452
 refine W_skip ?_
 refine W_seq ?_
 refine W_seq (W_region ?_)
 refine LP_ev ok 0 [(106, sl a224 r212 c225), (107, sl a5 aS c6)] 2 rfl rfl ?_
 have xc456 := (xc447.trans x451)
 have ex457 := (ex320.ext xc456)
 refine LP_call 2 rfl rfl rfl cal_12 rfl (laws_toVariableS_w _ _ H wx450 r3 ex457) ?_
 rintro _ wx458 ⟨r455, vx460, hx461, H, rfl, x459, o462, ex463, f464⟩
 obtain ⟨a465, c466, rfl⟩ := o462.shape
 have xc468 := (xc456.trans x459)
 have ex469 := (ex330.ext xc468)
 refine LP_call 3 rfl rfl rfl cal_19 rfl (laws_eqVariableS_w _ _ _ H wx458 o221.readf ex469 o462.readf ex463) ?_
 rintro _ wx470 ⟨r467, H, rfl, x471⟩
 refine LP_ev ok 4 [(110, .bool (!r467))] 5 rfl rfl ?_
 refine LP_end _ rfl ?_
 refine W_cond (!r467) rfl (fun hc472 => ?_) (fun hc472 => ?_)
 ·have H := H.1 hc472
  refine W_seq (W_region ?_)
  refine LP_ev ok 0 [(14, .bool false)] 1 rfl rfl ?_
  refine LP_end _ rfl (W_ret ?_)
  exact ⟨_, Ret_of [.bool false] ⟨⟨rfl, rfl⟩, trivial⟩, _, H, rfl, (X337.stepx (xc468.trans x471)).ext⟩
 have H := H.2 hc472
 refine W_skip ?_
 refine W_seq ?_
 refine W_seq ?_
 refine W_open mix fun wx475 x476 => ?_
 refine AP_game 3 [[], [], [1], [0, 1, 2], [0, 1, 2, 3]] [[(20, none)], [(9, none)], [(112, some 1)]] [(1, none), (3, none), (4, none), (5, none), (6, none), (7, none), (9, none), (16, none), (17, none), (18, none), (19, none), (20, none), (21, none), (22, none), (23, none), (24, none), (111, some 0), (113, some 2)] [(0, false), (1, false), (2, true)] (by kernel_rfl) (by kernel_rfl) ?_
 have xc477 := (((((((x424.trans x428).trans x433).trans x444).trans x451).trans x459).trans x471).trans x476)
 have ex478 := (ex333.ext xc477)
 refine GS_r1 [(20, pb b254)] (.agg #[I r230.Level, sl a250 r230.Vars c251, sl a252 r230.Where c253, I r230.Sum]) rfl rfl (fun _ h => h) (fun _ w e => ex_ldbox rfl ti_41 ag_41 (fun h => by cases h) rfl e rfl rfl) ex478 ?_
 have ex479 := (ex326.ext xc477)
 refine GS_r1 [(9, pb b32)] (.agg #[I aT.Level, sl a11 aT.Vars c12, sl a17 aT.Where c18, I aT.Sum]) rfl rfl (fun _ h => h) (fun _ w e => ex_ldbox rfl ti_27 ag_27 (fun h => by cases h) rfl e rfl rfl) ex479 ?_
 refine GS_lp [(112, .agg #[I aT.Level, sl a11 aT.Vars c12, sl a17 aT.Where c18, I aT.Sum])] rfl rfl (fun _ h => h) rfl fun ρ wx480 x481 => ?_
 have xc483 := (xc477.trans x481)
 have ex484 := (ex321.ext xc483)
 have ex485 := (ex322.ext xc483)
 refine LP_call 0 rfl rfl rfl cal_13 rfl (laws_toTable_w _ _ H wx480 r9 ex484 r15 ex485) ?_
 rintro _ wx486 ⟨r482, vx488, hx489, vx493, hx494, H, rfl, x487, HF⟩
 revert HF
 refine bb7 fun o490 ex491 f492 o495 ex496 f497 d498 => ?_
 obtain ⟨a499, c500, rfl⟩ := o490.shape
 obtain ⟨a501, c502, rfl⟩ := o495.shape
 refine LP_gs ⟨⟨.inl rfl, .inr (ex478.ext (x481.trans x487)), trivial⟩, ?_⟩
 intro wx505 x506 ρ hn507
 refine AP_forget [(1, sl a5 aS c6), (3, sl a23 aSites c24), (4, sl a29 aSeeds c30), (5, I aRound), (6, I aM), (7, pb b), (9, pb b32), (16, sl a187 r168 c188), (17, .bool r169), (18, pb b205), (19, sl a224 r212 c225), (20, pb b254), (21, sl a277 r262 c278), (22, sl a292 r279 c293), (23, sl a315 r298 c316), (24, .bool r299), (111, .agg #[I r230.Level, sl a250 r230.Vars c251, sl a252 r230.Where c253, I r230.Sum]), (113, .agg #[I r482.Level, sl a499 r482.Vars c500, sl a501 r482.Where c502, I r482.Sum])] (by exact hn507) fun ρ => ?_
 refine AP_tail 3 [[], [], [1], [0, 1, 2], [0, 1, 2, 3]] (by kernel_rfl) ?_
 have xc509 := ((((((((((x424.trans x428).trans x433).trans x444).trans x451).trans x459).trans x471).trans x476).trans x481).trans x487).trans x506)
 have ex510 := (ex331.ext xc509)
 have ex511 := (ex332.ext xc509)
 refine LP_call 3 rfl rfl rfl cal_20 rfl (laws_eqTable_w _ _ _ H wx505 o241.readf ex510 o246.readf ex511 o490.readf (ex491.ext x506) o495.readf (ex496.ext x506)) ?_
 rintro _ wx514 ⟨r508, H, rfl, x515⟩
 refine LP_ev ok 4 [(115, .bool (!r508))] 5 rfl rfl ?_
 refine LP_end _ rfl ?_
 refine W_cond (!r508) rfl (fun hc516 => ?_) (fun hc516 => ?_)
 ·have H := H.1 hc516
  refine W_seq (W_region ?_)
  refine LP_ev ok 0 [(14, .bool false)] 1 rfl rfl ?_
  refine LP_end _ rfl (W_ret ?_)
  exact ⟨_, Ret_of [.bool false] ⟨⟨rfl, rfl⟩, trivial⟩, _, H, rfl, (X337.stepx (xc509.trans x515)).ext⟩
 have H := H.2 hc516
 refine W_skip ?_
 refine W_seq ?_
 refine W_seq (W_region ?_)
 refine LP_ev ok 0 [(116, sl a277 r262 c278), (117, sl a23 aSites c24)] 2 rfl rfl ?_
 have xc520 := (xc509.trans x515)
 have ex521 := (ex323.ext xc520)
 refine LP_call 2 rfl rfl rfl cal_14 rfl (laws_toRecordSS_w _ _ H wx514 r21 ex521) ?_
 rintro _ wx522 ⟨r519, vx524, hx525, H, rfl, x523, o526, ex527, f528⟩
 obtain ⟨a529, c530, rfl⟩ := o526.shape
 have xc532 := (xc520.trans x523)
 have ex533 := (ex334.ext xc532)
 refine LP_call 3 rfl rfl rfl cal_21 rfl (laws_eqRecordSS_w _ _ _ H wx522 o274.readf ex533 o526.readf ex527) ?_
 rintro _ wx534 ⟨r531, H, rfl, x535⟩
 refine LP_ev ok 4 [(120, .bool (!r531))] 5 rfl rfl ?_
 refine LP_end _ rfl ?_
 refine W_cond (!r531) rfl (fun hc536 => ?_) (fun hc536 => ?_)
 ·have H := H.1 hc536
  refine W_seq (W_region ?_)
  refine LP_ev ok 0 [(14, .bool false)] 1 rfl rfl ?_
  refine LP_end _ rfl (W_ret ?_)
  exact ⟨_, Ret_of [.bool false] ⟨⟨rfl, rfl⟩, trivial⟩, _, H, rfl, (X337.stepx (xc532.trans x535)).ext⟩
 have H := H.2 hc536
 refine W_skip ?_
 refine W_seq ?_
 refine W_seq (W_region ?_)
 refine LP_ev ok 0 [(121, sl a292 r279 c293), (122, sl a29 aSeeds c30)] 2 rfl rfl ?_
 have xc540 := (xc532.trans x535)
 have ex541 := (ex324.ext xc540)
 refine LP_call 2 rfl rfl rfl cal_15 rfl (laws_toIntSS_w _ _ H wx534 r27 ex541) ?_
 rintro _ wx542 ⟨r539, vx544, hx545, H, rfl, x543, o546, ex547, f548⟩
 obtain ⟨a549, c550, rfl⟩ := o546.shape
 have xc552 := (xc540.trans x543)
 have ex553 := (ex335.ext xc552)
 refine LP_call 3 rfl rfl rfl cal_22 rfl (laws_eqIntSS_w _ _ _ H wx542 o289.readf ex553 o546.readf ex547) ?_
 rintro _ wx554 ⟨r551, H, rfl, x555⟩
 refine LP_ev ok 4 [(125, .bool (!r551))] 5 rfl rfl ?_
 refine LP_end _ rfl ?_
 refine W_cond (!r551) rfl (fun hc556 => ?_) (fun hc556 => ?_)
 ·have H := H.1 hc556
  refine W_seq (W_region ?_)
  refine LP_ev ok 0 [(14, .bool false)] 1 rfl rfl ?_
  refine LP_end _ rfl (W_ret ?_)
  exact ⟨_, Ret_of [.bool false] ⟨⟨rfl, rfl⟩, trivial⟩, _, H, rfl, (X337.stepx (xc552.trans x555)).ext⟩
 have H := H.2 hc556
 refine W_skip ?_
 refine W_seq (W_region ?_)
 refine LP_ev ok 0 [(25, I 1)] 1 rfl rfl ?_
 refine LP_end _ rfl (W_seq (W_region ?_))
 have xc559 := ((((((((((((((x428.trans x433).trans x444).trans x451).trans x459).trans x471).trans x476).trans x481).trans x487).trans x506).trans x515).trans x523).trans x535).trans x543).trans x555)
 refine LP_ldbox 0 (v := .agg #[sl a203 r193.Parents c204]) rfl rfl rfl ti_37 ag_37 (fun h => by cases h) rfl (ex425.ext xc559) rfl rfl ?_
 refine LP_ev ok 1 [(127, I 1)] 2 rfl rfl ?_
 refine LP_call 2 rfl rfl rfl cal_23 rfl (laws_markGeo_w _ _ _ H wx554 o200 (ex448.ext (((((((((((x451.trans x459).trans x471).trans x476).trans x481).trans x487).trans x506).trans x515).trans x523).trans x535).trans x543).trans x555))) ?_
 rintro _ wx565 ⟨r561, r562, hx567, H, rfl, x566, o568, ex569, dm⟩
 refine LP_ev ok 3 [(25, I r561)] 4 rfl rfl ?_
 refine LP_end _ rfl (W_seq (W_region ?_))
 refine LP_ev ok 0 [(129, sl a224 r212 c225), (130, I r561)] 2 rfl rfl ?_
 have ex573 := ((ex201.ext x207).but y (Dj.of_fresh ex201 f209).symm)
 refine LP_call 2 rfl rfl rfl cal_24 rfl (laws_markVariableS_w _ _ _ H wx565 o221 ((ex469.ext (((((((((x471.trans x476).trans x481).trans x487).trans x506).trans x515).trans x523).trans x535).trans x543).trans x555)).but x566 (Dj.of_fresh ex573 f223))) ?_
 rintro _ wx575 ⟨r570, r571, hx577, H, rfl, x576, o578, ex579, dm580⟩
 refine LP_ev ok 3 [(25, I r570)] 4 rfl rfl ?_
 refine LP_end _ rfl (W_seq (W_region ?_))
 have xc581 := (((((((x481.trans x487).trans x506).trans x515).trans x523).trans x535).trans x543).trans x555)
 refine LP_ldbox 0 (v := .agg #[I r230.Level, sl a250 r230.Vars c251, sl a252 r230.Where c253, I r230.Sum]) rfl rfl rfl ti_41 ag_41 (fun h => by cases h) rfl (((ex478.ext xc581).but x566 (Dj.box (Dj.of_fresh ex300 f258).symm).symm).but x576 (Dj.box (Dj.of_fresh ex303 f258).symm).symm) rfl rfl ?_
 refine LP_ev ok 1 [(133, I r570)] 2 rfl rfl ?_
 have xc586 := ((((x515.trans x523).trans x535).trans x543).trans x555)
 have ex587 := (ex573.ext x218)
 refine LP_call 2 rfl rfl rfl cal_25 rfl (laws_markTable_w _ _ _ H wx575 o241 (((ex510.ext xc586).but x566 (Dj.of_fresh ex587 f243)).but x576 (Dj.of_fresh ex222 f243)) o246 (((ex511.ext xc586).but x566 (Dj.of_fresh ex587 f248)).but x576 (Dj.of_fresh ex222 f248)) d249) ?_
 rintro _ wx590 ⟨r583, r584, r585, hx592, hx596, H, rfl, x591, HF⟩
 revert HF
 refine bb7 fun o593 ex594 dm595 o597 ex598 dm599 d600 => ?_
 refine LP_ev ok 3 [(25, I r583)] 4 rfl rfl ?_
 refine LP_end _ rfl ?_
 try refine W_forget [(1, sl a5 aS c6), (3, sl a23 aSites c24), (4, sl a29 aSeeds c30), (5, I aRound), (6, I aM), (7, pb b), (9, pb b32), (16, sl a187 r168 c188), (17, .bool r169), (21, sl a277 r262 c278), (22, sl a292 r279 c293), (23, sl a315 r298 c316), (24, .bool r299), (25, I r583)] ⟨rfl, rfl, rfl, rfl, rfl, rfl, rfl, rfl, rfl, rfl, rfl, rfl, rfl, rfl, trivial⟩ fun ρ => ?_
 refine W_seq (W_region ?_)
 refine LP_ev ok 0 [(135, sl a277 r262 c278), (136, I r583)] 2 rfl rfl ?_
 have ex604 := ((ex300.ext x256).but y261 (Dj.of_fresh ex300 f258).symm)
 have ex605 := ((ex303.ext x256).but y261 (Dj.of_fresh ex303 f258).symm)
 have ex606 := ((ex242.ext x256).but y261 (Dj.of_fresh ex242 f258).symm)
 have ex607 := ((ex247.ext x256).but y261 (Dj.of_fresh ex247 f258).symm)
 refine LP_call 2 rfl rfl rfl cal_26 rfl (laws_markRecordSS_w _ _ _ H wx590 o274 ((((ex533.ext ((x535.trans x543).trans x555)).but x566 (Dj.of_fresh ex604 f276)).but x576 (Dj.of_fresh ex605 f276)).but x591 (Dj.un_l (Dj.of_fresh ex606 f276) (Dj.of_fresh ex607 f276)))) ?_
 rintro _ wx609 ⟨r601, r602, hx611, H, rfl, x610, o612, ex613, dm614⟩
 refine LP_ev ok 3 [(25, I r601)] 4 rfl rfl ?_
 refine LP_end _ rfl (W_seq (W_region ?_))
 refine LP_ev ok 0 [(138, sl a292 r279 c293), (139, I r601)] 2 rfl rfl ?_
 refine LP_call 2 rfl rfl rfl cal_27 rfl (laws_markIntSS_w _ _ _ H wx609 o289 (((((ex553.ext x555).but x566 (Dj.of_fresh (ex604.ext x271) f291)).but x576 (Dj.of_fresh (ex605.ext x271) f291)).but x591 (Dj.un_l (Dj.of_fresh (ex606.ext x271) f291) (Dj.of_fresh (ex607.ext x271) f291))).but x610 (Dj.of_fresh ex275 f291))) ?_
 rintro _ wx622 ⟨r615, r616, hx624, H, rfl, x623, o625, ex626, dm627⟩
 refine LP_ev ok 3 [(25, I r615)] 4 rfl rfl ?_
 refine LP_end _ rfl (W_seq ?_)
 obtain ⟨k641, hk642, H⟩ := jn_elim H
 refine W_join2 (S := Bool) (fun s ρ' w' => k641 s ∧ ∃ (ρ : Env), ρ' = setAll [(1, sl a5 aS c6), (3, sl a23 aSites c24), (4, sl a29 aSeeds c30), (5, I aRound), (6, I aM), (7, pb b), (9, pb b32), (16, sl a187 r168 c188), (17, .bool r169), (23, sl a315 r298 c316), (153, .bool s)] ρ ∧ But emp w w' ∧ Sub hx w' ∧ Sub hx2 w' ∧ Sub hx8 w' ∧ Sub hx14 w' ∧ Sub hx20 w' ∧ Sub hx26 w' ∧ Sub (bx b 24 [sl a aG.Parents c]) w' ∧ Sub (bx b32 27 [I aT.Level, sl a11 aT.Vars c12, sl a17 aT.Where c18, I aT.Sum]) w' ∧ Sub hx183 w' ∧ Sub hx311 w') ?_ ?_
 ·refine W_region ?_
  refine LP_ev ok 0 [(141, I r615), (142, .bool (decide (r615 < 0))), (143, .bool (decide (r615 < 0)))] 3 rfl rfl ?_
  refine LP_split 143 (decide (r615 < 0)) rfl (fun hc643 => ?_) (fun hc643 => ?_)
  ·have H := H.1 hc643
   refine LP_ev ok 3 [(144, undef), (145, undef), (146, undef), (147, undef), (148, .bool true), (149, .bool true), (150, undef), (151, undef), (152, undef), (153, .bool true)] 13 rfl rfl ?_
   refine LP_end _ rfl ?_
   have xc644 := (xc552.trans x555)
   have X647 := (X.stepx ((((((((((((((((((((x.trans x34).trans x41).trans x48).trans x59).trans x67).trans x75).trans x80).trans x86).trans x91).trans x101).trans x106).trans x117).trans x123).trans x139).trans x144).trans x153).trans x158).trans x167).trans x181).trans x190))
   have f645 := f202.mono X647.size
   have xc649 := (x197.trans x207)
   have f650 := f209.mono (X647.stepx x197).size
   have X652 := ((X647.stepx xc649).step y (f650.dom _))
   have f648 := f223.mono X652.size
   have X654 := (X652.stepx x218)
   have f653 := f243.mono X654.size
   have f655 := f248.mono X654.size
   have f657 := f258.mono (X654.stepx x238).size
   have X659 := ((X654.stepx xc302).step y261 (f657.dom _))
   have f656 := f276.mono X659.size
   have f660 := f291.mono (X659.stepx x271).size
   have ex665 := ((ex195.ext xc649).but y (Dj.of_fresh (ex195.ext x197) f209).symm)
   have ex666 := (ex665.ext x218)
   have ex668 := ((ex666.ext xc302).but y261 (Dj.of_fresh (ex666.ext x238) f258).symm)
   have ex674 := (ex216.ext x218)
   have ex676 := ((ex674.ext xc302).but y261 (Dj.of_fresh (ex674.ext x238) f258).symm)
   have xc679 := ((((((x487.trans x506).trans x515).trans x523).trans x535).trans x543).trans x555)
   have xc680 := (((((((x123.trans x139).trans x144).trans x153).trans x158).trans x167).trans x181).trans x190)
   have ex684 := ((ex234.ext xc302).but y261 (Dj.of_fresh (ex234.ext x238) f258).symm)
   have ex690 := ((ex236.ext xc302).but y261 (Dj.of_fresh (ex236.ext x238) f258).symm)
   have ex696 := ((ex265.ext x207).but y (Dj.of_fresh ex265 f209).symm)
   have ex697 := (ex696.ext x218)
   have ex703 := ((ex282.ext x207).but y (Dj.of_fresh ex282 f209).symm)
   have ex704 := (ex703.ext x218)
   have ex708 := ((ex192.ext xc649).but y (Dj.of_fresh (ex192.ext x197) f209).symm)
   have ex709 := (ex708.ext x218)
   have ex711 := ((ex709.ext xc302).but y261 (Dj.of_fresh (ex709.ext x238) f258).symm)
   have ex717 := ((ex229.ext xc302).but y261 (Dj.of_fresh (ex229.ext x238) f258).symm)
   have ex720 := (ex185.ext x190)
   have ex722 := ((ex720.ext xc649).but y (Dj.of_fresh (ex720.ext x197) f209).symm)
   have ex723 := (ex722.ext x218)
   have ex725 := ((ex723.ext xc302).but y261 (Dj.of_fresh (ex723.ext x238) f258).symm)
   exact ⟨true, H, _, env_eq ⟨rfl, rfl, rfl, rfl, rfl, rfl, rfl, rfl, rfl, rfl, rfl, trivial⟩, ((((((X337.stepx xc644).step x566 (f645.dom _)).step x576 (f648.dom _)).step x591 (DomLe.un (f653.dom _) (f655.dom _))).step x610 (f656.dom _)).step x623 (f660.dom _)), ((((((ex431.ext (((((((((((((x433.trans x444).trans x451).trans x459).trans x471).trans x476).trans x481).trans x487).trans x506).trans x515).trans x523).trans x535).trans x543).trans x555)).but x566 (Dj.of_fresh ex195 f202).symm).but x576 (Dj.of_fresh ex665 f223).symm).but x591 (Dj.un_l (Dj.of_fresh ex666 f243).symm (Dj.of_fresh ex666 f248).symm)).but x610 (Dj.of_fresh ex668 f276).symm).but x623 (Dj.of_fresh (ex668.ext x271) f291).symm), ((((((ex457.ext ((((((((((x459.trans x471).trans x476).trans x481).trans x487).trans x506).trans x515).trans x523).trans x535).trans x543).trans x555)).but x566 (Dj.of_fresh (ex104.ext (((((((((x106.trans x117).trans x123).trans x139).trans x144).trans x153).trans x158).trans x167).trans x181).trans x190)) f202).symm).but x576 (Dj.of_fresh ex216 f223).symm).but x591 (Dj.un_l (Dj.of_fresh ex674 f243).symm (Dj.of_fresh ex674 f248).symm)).but x610 (Dj.of_fresh ex676 f276).symm).but x623 (Dj.of_fresh (ex676.ext x271) f291).symm), ((((((ex484.ext xc679).but x566 (Dj.of_fresh (ex120.ext xc680) f202).symm).but x576 (Dj.of_fresh ((ex233.ext x207).but y (Dj.of_fresh ex233 f209).symm) f223).symm).but x591 (Dj.un_l (Dj.of_fresh ex234 f243).symm (Dj.of_fresh ex234 f248).symm)).but x610 (Dj.of_fresh ex684 f276).symm).but x623 (Dj.of_fresh (ex684.ext x271) f291).symm), ((((((ex485.ext xc679).but x566 (Dj.of_fresh (ex121.ext xc680) f202).symm).but x576 (Dj.of_fresh ((ex235.ext x207).but y (Dj.of_fresh ex235 f209).symm) f223).symm).but x591 (Dj.un_l (Dj.of_fresh ex236 f243).symm (Dj.of_fresh ex236 f248).symm)).but x610 (Dj.of_fresh ex690 f276).symm).but x623 (Dj.of_fresh (ex690.ext x271) f291).symm), ((((((ex521.ext (((x523.trans x535).trans x543).trans x555)).but x566 (Dj.of_fresh (ex142.ext (((((x144.trans x153).trans x158).trans x167).trans x181).trans x190)) f202).symm).but x576 (Dj.of_fresh ex696 f223).symm).but x591 (Dj.un_l (Dj.of_fresh ex697 f243).symm (Dj.of_fresh ex697 f248).symm)).but x610 (Dj.of_fresh ex269 f276).symm).but x623 (Dj.of_fresh (ex269.ext x271) f291).symm), ((((((ex541.ext (x543.trans x555)).but x566 (Dj.of_fresh (ex156.ext (((x158.trans x167).trans x181).trans x190)) f202).symm).but x576 (Dj.of_fresh ex703 f223).symm).but x591 (Dj.un_l (Dj.of_fresh ex704 f243).symm (Dj.of_fresh ex704 f248).symm)).but x610 (Dj.of_fresh ((ex283.ext x256).but y261 (Dj.of_fresh ex283 f258).symm) f276).symm).but x623 (Dj.of_fresh ex284 f291).symm), ((((((ex426.ext xc559).but x566 (Dj.of_fresh ex192 f202).symm).but x576 (Dj.of_fresh ex708 f223).symm).but x591 (Dj.un_l (Dj.of_fresh ex709 f243).symm (Dj.of_fresh ex709 f248).symm)).but x610 (Dj.of_fresh ex711 f276).symm).but x623 (Dj.of_fresh (ex711.ext x271) f291).symm), ((((((ex479.ext xc581).but x566 (Dj.of_fresh (ex84.ext xc191) f202).symm).but x576 (Dj.of_fresh ((ex228.ext x207).but y (Dj.of_fresh ex228 f209).symm) f223).symm).but x591 (Dj.un_l (Dj.of_fresh ex229 f243).symm (Dj.of_fresh ex229 f248).symm)).but x610 (Dj.of_fresh ex717 f276).symm).but x623 (Dj.of_fresh (ex717.ext x271) f291).symm), ((((((ex327.ext xc644).but x566 (Dj.of_fresh ex720 f202).symm).but x576 (Dj.of_fresh ex722 f223).symm).but x591 (Dj.un_l (Dj.of_fresh ex723 f243).symm (Dj.of_fresh ex723 f248).symm)).but x610 (Dj.of_fresh ex725 f276).symm).but x623 (Dj.of_fresh (ex725.ext x271) f291).symm), ((((((ex336.ext xc644).but x566 (Dj.of_fresh ex301 f314)).but x576 (Dj.of_fresh ex304 f314)).but x591 (Dj.un_l (Dj.of_fresh ex305 f314) (Dj.of_fresh ex306 f314))).but x610 (Dj.of_fresh ex307 f314)).but x623 (Dj.of_fresh ex290 f314))⟩
  have H := H.2 hc643
  refine LP_ev ok 3 [(144, sl a315 r298 c316), (145, sl a187 r168 c188)] 5 rfl rfl ?_
  have xc730 := (xc552.trans x555)
  have ex731 := ((((((ex336.ext xc730).but x566 (Dj.of_fresh ex301 f314)).but x576 (Dj.of_fresh ex304 f314)).but x591 (Dj.un_l (Dj.of_fresh ex305 f314) (Dj.of_fresh ex306 f314))).but x610 (Dj.of_fresh ex307 f314)).but x623 (Dj.of_fresh ex290 f314))
  have ex732 := (ex185.ext x190)
  have xc733 := (x197.trans x207)
  have ex735 := ((ex732.ext xc733).but y (Dj.of_fresh (ex732.ext x197) f209).symm)
  have ex736 := (ex735.ext x218)
  have ex738 := ((ex736.ext xc302).but y261 (Dj.of_fresh (ex736.ext x238) f258).symm)
  have ex740 := ((((((ex327.ext xc730).but x566 (Dj.of_fresh ex732 f202).symm).but x576 (Dj.of_fresh ex735 f223).symm).but x591 (Dj.un_l (Dj.of_fresh ex736 f243).symm (Dj.of_fresh ex736 f248).symm)).but x610 (Dj.of_fresh ex738 f276).symm).but x623 (Dj.of_fresh (ex738.ext x271) f291).symm)
  refine LP_call 5 rfl rfl rfl cal_17 rfl (laws_eqIntS_w _ _ _ H wx622 o312.readf ex731 o184.readf ex740) ?_
  rintro _ wx741 ⟨r729, H, rfl, x742⟩
  refine LP_ev ok 6 [(147, .bool (!r729)), (148, .bool (!r729)), (149, .bool (!r729))] 9 rfl rfl ?_
  refine LP_split 149 (!r729) rfl (fun hc743 => ?_) (fun hc743 => ?_)
  ·have H := H.1 hc743
   refine LP_ev ok 9 [(150, undef), (151, undef), (152, undef), (153, .bool true)] 13 rfl rfl ?_
   refine LP_end _ rfl ?_
   have X746 := (X.stepx ((((((((((((((((((((x.trans x34).trans x41).trans x48).trans x59).trans x67).trans x75).trans x80).trans x86).trans x91).trans x101).trans x106).trans x117).trans x123).trans x139).trans x144).trans x153).trans x158).trans x167).trans x181).trans x190))
   have f744 := f202.mono X746.size
   have f748 := f209.mono (X746.stepx x197).size
   have X750 := ((X746.stepx xc733).step y (f748.dom _))
   have f747 := f223.mono X750.size
   have X752 := (X750.stepx x218)
   have f751 := f243.mono X752.size
   have f753 := f248.mono X752.size
   have f755 := f258.mono (X752.stepx x238).size
   have X757 := ((X752.stepx xc302).step y261 (f755.dom _))
   have f754 := f276.mono X757.size
   have f758 := f291.mono (X757.stepx x271).size
   have ex763 := ((ex195.ext xc733).but y (Dj.of_fresh (ex195.ext x197) f209).symm)
   have ex764 := (ex763.ext x218)
   have ex766 := ((ex764.ext xc302).but y261 (Dj.of_fresh (ex764.ext x238) f258).symm)
   have ex772 := (ex216.ext x218)
   have ex774 := ((ex772.ext xc302).but y261 (Dj.of_fresh (ex772.ext x238) f258).symm)
   have xc777 := ((((((x487.trans x506).trans x515).trans x523).trans x535).trans x543).trans x555)
   have xc778 := (((((((x123.trans x139).trans x144).trans x153).trans x158).trans x167).trans x181).trans x190)
   have ex782 := ((ex234.ext xc302).but y261 (Dj.of_fresh (ex234.ext x238) f258).symm)
   have ex788 := ((ex236.ext xc302).but y261 (Dj.of_fresh (ex236.ext x238) f258).symm)
   have ex794 := ((ex265.ext x207).but y (Dj.of_fresh ex265 f209).symm)
   have ex795 := (ex794.ext x218)
   have ex801 := ((ex282.ext x207).but y (Dj.of_fresh ex282 f209).symm)
   have ex802 := (ex801.ext x218)
   have ex806 := ((ex192.ext xc733).but y (Dj.of_fresh (ex192.ext x197) f209).symm)
   have ex807 := (ex806.ext x218)
   have ex809 := ((ex807.ext xc302).but y261 (Dj.of_fresh (ex807.ext x238) f258).symm)
   have ex815 := ((ex229.ext xc302).but y261 (Dj.of_fresh (ex229.ext x238) f258).symm)
   exact ⟨true, H, _, env_eq ⟨rfl, rfl, rfl, rfl, rfl, rfl, rfl, rfl, rfl, rfl, rfl, trivial⟩, (((((((X337.stepx xc730).step x566 (f744.dom _)).step x576 (f747.dom _)).step x591 (DomLe.un (f751.dom _) (f753.dom _))).step x610 (f754.dom _)).step x623 (f758.dom _)).stepx x742), (((((((ex431.ext (((((((((((((x433.trans x444).trans x451).trans x459).trans x471).trans x476).trans x481).trans x487).trans x506).trans x515).trans x523).trans x535).trans x543).trans x555)).but x566 (Dj.of_fresh ex195 f202).symm).but x576 (Dj.of_fresh ex763 f223).symm).but x591 (Dj.un_l (Dj.of_fresh ex764 f243).symm (Dj.of_fresh ex764 f248).symm)).but x610 (Dj.of_fresh ex766 f276).symm).but x623 (Dj.of_fresh (ex766.ext x271) f291).symm).ext x742), (((((((ex457.ext ((((((((((x459.trans x471).trans x476).trans x481).trans x487).trans x506).trans x515).trans x523).trans x535).trans x543).trans x555)).but x566 (Dj.of_fresh (ex104.ext (((((((((x106.trans x117).trans x123).trans x139).trans x144).trans x153).trans x158).trans x167).trans x181).trans x190)) f202).symm).but x576 (Dj.of_fresh ex216 f223).symm).but x591 (Dj.un_l (Dj.of_fresh ex772 f243).symm (Dj.of_fresh ex772 f248).symm)).but x610 (Dj.of_fresh ex774 f276).symm).but x623 (Dj.of_fresh (ex774.ext x271) f291).symm).ext x742), (((((((ex484.ext xc777).but x566 (Dj.of_fresh (ex120.ext xc778) f202).symm).but x576 (Dj.of_fresh ((ex233.ext x207).but y (Dj.of_fresh ex233 f209).symm) f223).symm).but x591 (Dj.un_l (Dj.of_fresh ex234 f243).symm (Dj.of_fresh ex234 f248).symm)).but x610 (Dj.of_fresh ex782 f276).symm).but x623 (Dj.of_fresh (ex782.ext x271) f291).symm).ext x742), (((((((ex485.ext xc777).but x566 (Dj.of_fresh (ex121.ext xc778) f202).symm).but x576 (Dj.of_fresh ((ex235.ext x207).but y (Dj.of_fresh ex235 f209).symm) f223).symm).but x591 (Dj.un_l (Dj.of_fresh ex236 f243).symm (Dj.of_fresh ex236 f248).symm)).but x610 (Dj.of_fresh ex788 f276).symm).but x623 (Dj.of_fresh (ex788.ext x271) f291).symm).ext x742), (((((((ex521.ext (((x523.trans x535).trans x543).trans x555)).but x566 (Dj.of_fresh (ex142.ext (((((x144.trans x153).trans x158).trans x167).trans x181).trans x190)) f202).symm).but x576 (Dj.of_fresh ex794 f223).symm).but x591 (Dj.un_l (Dj.of_fresh ex795 f243).symm (Dj.of_fresh ex795 f248).symm)).but x610 (Dj.of_fresh ex269 f276).symm).but x623 (Dj.of_fresh (ex269.ext x271) f291).symm).ext x742), (((((((ex541.ext (x543.trans x555)).but x566 (Dj.of_fresh (ex156.ext (((x158.trans x167).trans x181).trans x190)) f202).symm).but x576 (Dj.of_fresh ex801 f223).symm).but x591 (Dj.un_l (Dj.of_fresh ex802 f243).symm (Dj.of_fresh ex802 f248).symm)).but x610 (Dj.of_fresh ((ex283.ext x256).but y261 (Dj.of_fresh ex283 f258).symm) f276).symm).but x623 (Dj.of_fresh ex284 f291).symm).ext x742), (((((((ex426.ext xc559).but x566 (Dj.of_fresh ex192 f202).symm).but x576 (Dj.of_fresh ex806 f223).symm).but x591 (Dj.un_l (Dj.of_fresh ex807 f243).symm (Dj.of_fresh ex807 f248).symm)).but x610 (Dj.of_fresh ex809 f276).symm).but x623 (Dj.of_fresh (ex809.ext x271) f291).symm).ext x742), (((((((ex479.ext xc581).but x566 (Dj.of_fresh (ex84.ext xc191) f202).symm).but x576 (Dj.of_fresh ((ex228.ext x207).but y (Dj.of_fresh ex228 f209).symm) f223).symm).but x591 (Dj.un_l (Dj.of_fresh ex229 f243).symm (Dj.of_fresh ex229 f248).symm)).but x610 (Dj.of_fresh ex815 f276).symm).but x623 (Dj.of_fresh (ex815.ext x271) f291).symm).ext x742), (ex740.ext x742), (ex731.ext x742)⟩
  have H := H.2 hc743
  refine LP_ev ok 9 [(150, .bool r299), (151, .bool r169), (152, .bool (r299 != r169)), (153, .bool (r299 != r169))] 13 rfl rfl ?_
  refine LP_end _ rfl ?_
  have X822 := (X.stepx ((((((((((((((((((((x.trans x34).trans x41).trans x48).trans x59).trans x67).trans x75).trans x80).trans x86).trans x91).trans x101).trans x106).trans x117).trans x123).trans x139).trans x144).trans x153).trans x158).trans x167).trans x181).trans x190))
  have f820 := f202.mono X822.size
  have f824 := f209.mono (X822.stepx x197).size
  have X826 := ((X822.stepx xc733).step y (f824.dom _))
  have f823 := f223.mono X826.size
  have X828 := (X826.stepx x218)
  have f827 := f243.mono X828.size
  have f829 := f248.mono X828.size
  have f831 := f258.mono (X828.stepx x238).size
  have X833 := ((X828.stepx xc302).step y261 (f831.dom _))
  have f830 := f276.mono X833.size
  have f834 := f291.mono (X833.stepx x271).size
  have ex839 := ((ex195.ext xc733).but y (Dj.of_fresh (ex195.ext x197) f209).symm)
  have ex840 := (ex839.ext x218)
  have ex842 := ((ex840.ext xc302).but y261 (Dj.of_fresh (ex840.ext x238) f258).symm)
  have ex848 := (ex216.ext x218)
  have ex850 := ((ex848.ext xc302).but y261 (Dj.of_fresh (ex848.ext x238) f258).symm)
  have xc853 := ((((((x487.trans x506).trans x515).trans x523).trans x535).trans x543).trans x555)
  have xc854 := (((((((x123.trans x139).trans x144).trans x153).trans x158).trans x167).trans x181).trans x190)
  have ex858 := ((ex234.ext xc302).but y261 (Dj.of_fresh (ex234.ext x238) f258).symm)
  have ex864 := ((ex236.ext xc302).but y261 (Dj.of_fresh (ex236.ext x238) f258).symm)
  have ex870 := ((ex265.ext x207).but y (Dj.of_fresh ex265 f209).symm)
  have ex871 := (ex870.ext x218)
  have ex877 := ((ex282.ext x207).but y (Dj.of_fresh ex282 f209).symm)
  have ex878 := (ex877.ext x218)
  have ex882 := ((ex192.ext xc733).but y (Dj.of_fresh (ex192.ext x197) f209).symm)
  have ex883 := (ex882.ext x218)
  have ex885 := ((ex883.ext xc302).but y261 (Dj.of_fresh (ex883.ext x238) f258).symm)
  have ex891 := ((ex229.ext xc302).but y261 (Dj.of_fresh (ex229.ext x238) f258).symm)
  exact ⟨r299 != r169, H, _, env_eq ⟨rfl, rfl, rfl, rfl, rfl, rfl, rfl, rfl, rfl, rfl, rfl, trivial⟩, (((((((X337.stepx xc730).step x566 (f820.dom _)).step x576 (f823.dom _)).step x591 (DomLe.un (f827.dom _) (f829.dom _))).step x610 (f830.dom _)).step x623 (f834.dom _)).stepx x742), (((((((ex431.ext (((((((((((((x433.trans x444).trans x451).trans x459).trans x471).trans x476).trans x481).trans x487).trans x506).trans x515).trans x523).trans x535).trans x543).trans x555)).but x566 (Dj.of_fresh ex195 f202).symm).but x576 (Dj.of_fresh ex839 f223).symm).but x591 (Dj.un_l (Dj.of_fresh ex840 f243).symm (Dj.of_fresh ex840 f248).symm)).but x610 (Dj.of_fresh ex842 f276).symm).but x623 (Dj.of_fresh (ex842.ext x271) f291).symm).ext x742), (((((((ex457.ext ((((((((((x459.trans x471).trans x476).trans x481).trans x487).trans x506).trans x515).trans x523).trans x535).trans x543).trans x555)).but x566 (Dj.of_fresh (ex104.ext (((((((((x106.trans x117).trans x123).trans x139).trans x144).trans x153).trans x158).trans x167).trans x181).trans x190)) f202).symm).but x576 (Dj.of_fresh ex216 f223).symm).but x591 (Dj.un_l (Dj.of_fresh ex848 f243).symm (Dj.of_fresh ex848 f248).symm)).but x610 (Dj.of_fresh ex850 f276).symm).but x623 (Dj.of_fresh (ex850.ext x271) f291).symm).ext x742), (((((((ex484.ext xc853).but x566 (Dj.of_fresh (ex120.ext xc854) f202).symm).but x576 (Dj.of_fresh ((ex233.ext x207).but y (Dj.of_fresh ex233 f209).symm) f223).symm).but x591 (Dj.un_l (Dj.of_fresh ex234 f243).symm (Dj.of_fresh ex234 f248).symm)).but x610 (Dj.of_fresh ex858 f276).symm).but x623 (Dj.of_fresh (ex858.ext x271) f291).symm).ext x742), (((((((ex485.ext xc853).but x566 (Dj.of_fresh (ex121.ext xc854) f202).symm).but x576 (Dj.of_fresh ((ex235.ext x207).but y (Dj.of_fresh ex235 f209).symm) f223).symm).but x591 (Dj.un_l (Dj.of_fresh ex236 f243).symm (Dj.of_fresh ex236 f248).symm)).but x610 (Dj.of_fresh ex864 f276).symm).but x623 (Dj.of_fresh (ex864.ext x271) f291).symm).ext x742), (((((((ex521.ext (((x523.trans x535).trans x543).trans x555)).but x566 (Dj.of_fresh (ex142.ext (((((x144.trans x153).trans x158).trans x167).trans x181).trans x190)) f202).symm).but x576 (Dj.of_fresh ex870 f223).symm).but x591 (Dj.un_l (Dj.of_fresh ex871 f243).symm (Dj.of_fresh ex871 f248).symm)).but x610 (Dj.of_fresh ex269 f276).symm).but x623 (Dj.of_fresh (ex269.ext x271) f291).symm).ext x742), (((((((ex541.ext (x543.trans x555)).but x566 (Dj.of_fresh (ex156.ext (((x158.trans x167).trans x181).trans x190)) f202).symm).but x576 (Dj.of_fresh ex877 f223).symm).but x591 (Dj.un_l (Dj.of_fresh ex878 f243).symm (Dj.of_fresh ex878 f248).symm)).but x610 (Dj.of_fresh ((ex283.ext x256).but y261 (Dj.of_fresh ex283 f258).symm) f276).symm).but x623 (Dj.of_fresh ex284 f291).symm).ext x742), (((((((ex426.ext xc559).but x566 (Dj.of_fresh ex192 f202).symm).but x576 (Dj.of_fresh ex882 f223).symm).but x591 (Dj.un_l (Dj.of_fresh ex883 f243).symm (Dj.of_fresh ex883 f248).symm)).but x610 (Dj.of_fresh ex885 f276).symm).but x623 (Dj.of_fresh (ex885.ext x271) f291).symm).ext x742), (((((((ex479.ext xc581).but x566 (Dj.of_fresh (ex84.ext xc191) f202).symm).but x576 (Dj.of_fresh ((ex228.ext x207).but y (Dj.of_fresh ex228 f209).symm) f223).symm).but x591 (Dj.un_l (Dj.of_fresh ex229 f243).symm (Dj.of_fresh ex229 f248).symm)).but x610 (Dj.of_fresh ex891 f276).symm).but x623 (Dj.of_fresh (ex891.ext x271) f291).symm).ext x742), (ex740.ext x742), (ex731.ext x742)⟩
 rintro x628 _ wx629 ⟨H, ρ, rfl, HF⟩
 revert HF
 refine bb9 fun X640 ex630 ex631 ex632 ex633 ex634 ex635 ex636 => ?_
 refine bb3 fun ex637 ex638 ex639 => ?_
 subst hk642
 refine W_cond (x628) rfl (fun hc896 => ?_) (fun hc896 => ?_)
 ·have H := H.1 hc896
  refine W_seq (W_region ?_)
  refine LP_ev ok 0 [(14, .bool false)] 1 rfl rfl ?_
  refine LP_end _ rfl (W_ret ?_)
  exact ⟨_, Ret_of [.bool false] ⟨⟨rfl, rfl⟩, trivial⟩, _, H, rfl, X640.ext⟩
 have H := H.2 hc896
 refine W_skip ?_
 refine W_seq (W_region ?_)
 refine LP_ev ok 0 [(26, I 1)] 1 rfl rfl ?_
 refine LP_end _ rfl (W_seq (W_region ?_))
 refine LP_ev ok 0 [(154, sl a315 r298 c316), (155, I 1)] 2 rfl rfl ?_
 refine LP_call 2 rfl rfl rfl cal_28 rfl (laws_markIntS_w _ _ _ H wx629 o312 ex639) ?_
 rintro _ wx899 ⟨r897, r898, hx901, H, rfl, x900, o902, ex903, dm904⟩
 refine LP_ev ok 3 [(26, I r897)] 4 rfl rfl ?_
 refine LP_end _ rfl (W_seq (W_region ?_))
 refine LP_ev ok 0 [(27, I 1)] 1 rfl rfl ?_
 refine LP_end _ rfl (W_seq (W_region ?_))
 refine LP_ev ok 0 [(157, sl a315 r298 c316), (158, I 1)] 2 rfl rfl ?_
 refine LP_call 2 rfl rfl rfl cal_29 rfl (laws_heldIntS_w _ _ _ H wx899 o902.readf ex903) ?_
 rintro _ wx906 ⟨r905, H, rfl, x907⟩
 refine LP_ev ok 3 [(27, I r905)] 4 rfl rfl ?_
 refine LP_end _ rfl (W_seq ?_)
 refine W_seq (W_region ?_)
 refine LP_ev ok 0 [(160, I r905), (161, .bool (decide (r905 < 0)))] 2 rfl rfl ?_
 refine LP_end _ rfl ?_
 refine W_cond (decide (r905 < 0)) rfl (fun hc908 => ?_) (fun hc908 => ?_)
 ·have H := H.1 hc908
  refine W_seq (W_region ?_)
  refine LP_ev ok 0 [(14, .bool false)] 1 rfl rfl ?_
  refine LP_end _ rfl (W_ret ?_)
  have X913 := (X.stepx (((((((((((((((((((((x.trans x34).trans x41).trans x48).trans x59).trans x67).trans x75).trans x80).trans x86).trans x91).trans x101).trans x106).trans x117).trans x123).trans x139).trans x144).trans x153).trans x158).trans x167).trans x181).trans x190).trans x197))
  have f911 := f209.mono X913.size
  have f914 := f258.mono (((X913.stepx x207).step y (f911.dom _)).stepx xc267).size
  have f909 := f314.mono (((((X.stepx ((((((((((((((((((((((x.trans x34).trans x41).trans x48).trans x59).trans x67).trans x75).trans x80).trans x86).trans x91).trans x101).trans x106).trans x117).trans x123).trans x139).trans x144).trans x153).trans x158).trans x167).trans x181).trans x190).trans x197).trans x207)).step y (f911.dom _)).stepx xc266).step y261 (f914.dom _)).stepx xc295).size
  exact ⟨_, Ret_of [.bool false] ⟨⟨rfl, rfl⟩, trivial⟩, _, H, rfl, ((X640.step x900 (f909.dom _)).stepx x907).ext⟩
 have H := H.2 hc908
 refine W_skip ?_
 refine W_seq ?_
 refine W_seq (W_region ?_)
 refine LP_ev ok 0 [(162, I r905), (163, I r897), (164, .bool (r905 != r897))] 3 rfl rfl ?_
 refine LP_end _ rfl ?_
 refine W_cond (r905 != r897) rfl (fun hc918 => ?_) (fun hc918 => ?_)
 ·have H := H.1 hc918
  refine W_seq (W_region ?_)
  refine LP_ev ok 0 [(14, .bool false)] 1 rfl rfl ?_
  refine LP_end _ rfl (W_ret ?_)
  have X923 := (X.stepx (((((((((((((((((((((x.trans x34).trans x41).trans x48).trans x59).trans x67).trans x75).trans x80).trans x86).trans x91).trans x101).trans x106).trans x117).trans x123).trans x139).trans x144).trans x153).trans x158).trans x167).trans x181).trans x190).trans x197))
  have f921 := f209.mono X923.size
  have f924 := f258.mono (((X923.stepx x207).step y (f921.dom _)).stepx xc267).size
  have f919 := f314.mono (((((X.stepx ((((((((((((((((((((((x.trans x34).trans x41).trans x48).trans x59).trans x67).trans x75).trans x80).trans x86).trans x91).trans x101).trans x106).trans x117).trans x123).trans x139).trans x144).trans x153).trans x158).trans x167).trans x181).trans x190).trans x197).trans x207)).step y (f921.dom _)).stepx xc266).step y261 (f924.dom _)).stepx xc295).size
  exact ⟨_, Ret_of [.bool false] ⟨⟨rfl, rfl⟩, trivial⟩, _, H, rfl, ((X640.step x900 (f919.dom _)).stepx x907).ext⟩
 have H := H.2 hc918
 refine W_skip ?_
 refine W_seq ?_
 refine W_open mix fun wx928 x929 => ?_
 refine AP_game 17 [[], [0], [], [0, 1, 2], [], [0, 1, 2, 3, 4], [], [0, 1, 2, 3, 4, 5, 6], [], [0, 1, 2, 3, 4, 5, 6, 7, 8], [], [], [0, 1, 2, 3, 4, 5, 6, 7, 8, 9, 10, 11], [0, 1, 2, 3, 4, 5, 6, 7, 8, 9, 10, 11, 12], [0, 1, 2, 3, 4, 5, 6, 7, 8, 9, 10, 11, 12, 13], [0, 1, 2, 3, 4, 5, 6, 7, 8, 9, 10, 11, 12, 13], [0, 1, 2, 3, 4, 5, 6, 7, 8, 9, 10, 11, 12, 13, 14], [0, 1, 2, 3, 4, 5, 6, 7, 8, 9, 10, 11, 12, 13, 14, 15, 16]] [[(7, none)], [(166, some 0)], [(1, none)], [(168, some 2)], [(9, none)], [(170, some 4)], [(3, none)], [(172, some 6)], [(4, none)], [(174, some 8)], [(5, none)], [(6, none)], [(167, some 1), (169, some 3), (171, some 5), (173, some 7), (175, some 9), (176, some 10), (177, some 11)], [(178, some 12)], [(165, some 13)], [(165, some 13)], [(179, some 14)]] [(16, none), (17, none), (23, none), (26, none), (28, some 16), (180, some 15)] [(0, false), (2, false), (4, false), (6, false), (8, false), (10, false), (11, false), (1, true), (3, true), (5, true), (7, true), (9, true), (12, true), (13, false), (14, false), (15, false), (16, false)] (by kernel_rfl) (by kernel_rfl) ?_
 have xc930 := (x197.trans x207)
 have ex931 := (ex192.ext x197)
 have xc934 := (x907.trans x929)
 refine GS_r1 [(7, pb b)] (.agg #[sl a aG.Parents c]) rfl rfl (fun _ h => h) (fun _ w e => ex_ldbox rfl ti_24 ag_24 (fun h => by cases h) rfl e rfl rfl) ((ex636.but x900 (Dj.of_fresh (((((ex192.ext xc930).but y (Dj.of_fresh ex931 f209).symm).ext xc266).but y261 (Dj.of_fresh (((ex931.ext x207).but y (Dj.of_fresh ex931 f209).symm).ext xc267) f258).symm).ext xc295) f314).symm).ext xc934) ?_
 refine GS_ev ok [(1, sl a5 aS c6)] (sl a5 aS c6) rfl rfl (fun _ h => h) (fun _ => rfl) ?_
 have ex938 := ((ex637.but x900 (Dj.of_fresh (((ex229.ext xc302).but y261 (Dj.of_fresh (ex229.ext x238) f258).symm).ext xc295) f314).symm).ext xc934)
 refine GS_r1 [(9, pb b32)] (.agg #[I aT.Level, sl a11 aT.Vars c12, sl a17 aT.Where c18, I aT.Sum]) rfl rfl (fun _ h => h) (fun _ w e => ex_ldbox rfl ti_27 ag_27 (fun h => by cases h) rfl e rfl rfl) ex938 ?_
 refine GS_ev ok [(3, sl a23 aSites c24)] (sl a23 aSites c24) rfl rfl (fun _ h => h) (fun _ => rfl) ?_
 refine GS_ev ok [(4, sl a29 aSeeds c30)] (sl a29 aSeeds c30) rfl rfl (fun _ h => h) (fun _ => rfl) ?_
 refine GS_ev ok [(5, I aRound)] (I aRound) rfl rfl (fun _ h => h) (fun _ => rfl) ?_
 refine GS_ev ok [(6, I aM)] (I aM) rfl rfl (fun _ h => h) (fun _ => rfl) ?_
 refine GS_lp [(166, .agg #[sl a aG.Parents c])] rfl rfl (fun _ h => h) rfl fun ρ wx939 x940 => ?_
 have ex942 := (ex195.ext x197)
 refine LP_call 0 rfl rfl rfl cal_11 rfl (laws_toGeo_w _ _ H wx939 r ((ex630.but x900 (Dj.of_fresh (((((ex195.ext xc930).but y (Dj.of_fresh ex942 f209).symm).ext xc266).but y261 (Dj.of_fresh (((ex942.ext x207).but y (Dj.of_fresh ex942 f209).symm).ext xc267) f258).symm).ext xc295) f314).symm).ext (xc934.trans x940))) ?_
 rintro _ wx947 ⟨r941, vx949, hx950, H, rfl, x948, o951, ex952, f953⟩
 obtain ⟨a954, c955, rfl⟩ := o951.shape
 have ex957 := (ex938.ext (x940.trans x948))
 refine LP_gs ⟨⟨.inr ex957, .inl rfl, trivial⟩, ?_⟩
 refine GS_lp [(168, sl a5 aS c6)] rfl rfl (fun _ h => h) rfl fun ρ wx958 x959 => ?_
 refine LP_call 0 rfl rfl rfl cal_12 rfl (laws_toVariableS_w _ _ H wx958 r3 ((ex631.but x900 (Dj.of_fresh (((ex216.ext xc266).but y261 (Dj.of_fresh (ex216.ext xc267) f258).symm).ext xc295) f314).symm).ext ((((x907.trans x929).trans x940).trans x948).trans x959))) ?_
 rintro _ wx965 ⟨r960, vx967, hx968, H, rfl, x966, o969, ex970, f971⟩
 obtain ⟨a972, c973, rfl⟩ := o969.shape
 refine LP_gs ⟨⟨.inr (ex957.ext (x959.trans x966)), .inl rfl, trivial⟩, ?_⟩
 refine GS_lp [(170, .agg #[I aT.Level, sl a11 aT.Vars c12, sl a17 aT.Where c18, I aT.Sum])] rfl rfl (fun _ h => h) rfl fun ρ wx976 x977 => ?_
 have xc981 := ((((((x907.trans x929).trans x940).trans x948).trans x959).trans x966).trans x977)
 refine LP_call 0 rfl rfl rfl cal_13 rfl (laws_toTable_w _ _ H wx976 r9 ((ex632.but x900 (Dj.of_fresh (((ex234.ext xc302).but y261 (Dj.of_fresh (ex234.ext x238) f258).symm).ext xc295) f314).symm).ext xc981) r15 ((ex633.but x900 (Dj.of_fresh (((ex236.ext xc302).but y261 (Dj.of_fresh (ex236.ext x238) f258).symm).ext xc295) f314).symm).ext xc981)) ?_
 rintro _ wx986 ⟨r978, vx988, hx989, vx993, hx994, H, rfl, x987, HF⟩
 revert HF
 refine bb7 fun o990 ex991 f992 o995 ex996 f997 d998 => ?_
 obtain ⟨a999, c1000, rfl⟩ := o990.shape
 obtain ⟨a1001, c1002, rfl⟩ := o995.shape
 refine LP_gs ⟨⟨.inl rfl, .inl rfl, trivial⟩, ?_⟩
 refine GS_lp [(172, sl a23 aSites c24)] rfl rfl (fun _ h => h) rfl fun ρ wx1003 x1004 => ?_
 refine LP_call 0 rfl rfl rfl cal_14 rfl (laws_toRecordSS_w _ _ H wx1003 r21 ((ex634.but x900 (Dj.of_fresh (ex269.ext xc295) f314).symm).ext ((((((((x907.trans x929).trans x940).trans x948).trans x959).trans x966).trans x977).trans x987).trans x1004))) ?_
 rintro _ wx1009 ⟨r1005, vx1011, hx1012, H, rfl, x1010, o1013, ex1014, f1015⟩
 obtain ⟨a1016, c1017, rfl⟩ := o1013.shape
 refine LP_gs ⟨⟨.inl rfl, .inl rfl, trivial⟩, ?_⟩
 refine GS_lp [(174, sl a29 aSeeds c30)] rfl rfl (fun _ h => h) rfl fun ρ wx1018 x1019 => ?_
 refine LP_call 0 rfl rfl rfl cal_15 rfl (laws_toIntSS_w _ _ H wx1018 r27 ((ex635.but x900 (Dj.of_fresh (ex284.ext x286) f314).symm).ext ((((((((((x907.trans x929).trans x940).trans x948).trans x959).trans x966).trans x977).trans x987).trans x1004).trans x1010).trans x1019))) ?_
 rintro _ wx1024 ⟨r1020, vx1026, hx1027, H, rfl, x1025, o1028, ex1029, f1030⟩
 obtain ⟨a1031, c1032, rfl⟩ := o1028.shape
 refine LP_gs ⟨⟨.inl rfl, .inl rfl, trivial⟩, ?_⟩
 refine GS_lp [(167, .agg #[sl a954 r941.Parents c955]), (169, sl a972 r960 c973), (171, .agg #[I r978.Level, sl a999 r978.Vars c1000, sl a1001 r978.Where c1002, I r978.Sum]), (173, sl a1016 r1005 c1017), (175, sl a1031 r1020 c1032), (176, I aRound), (177, I aM)] rfl rfl (fun _ h => h) rfl fun ρ wx1033 x1034 => ?_
 have xc1041 := ((((x1004.trans x1010).trans x1019).trans x1025).trans x1034)
 refine LP_call 0 rfl rfl rfl cal_16 rfl (impl_FederatedCells_w _ _ _ _ _ _ _ _ H wx1033 o951.readf (ex952.ext ((((((((x959.trans x966).trans x977).trans x987).trans x1004).trans x1010).trans x1019).trans x1025).trans x1034)) o969.readf (ex970.ext ((((((x977.trans x987).trans x1004).trans x1010).trans x1019).trans x1025).trans x1034)) o990.readf (ex991.ext xc1041) o995.readf (ex996.ext xc1041) o1013.readf (ex1014.ext ((x1019.trans x1025).trans x1034)) o1028.readf (ex1029.ext x1034)) ?_
 rintro _ wx1047 ⟨r1035, r1036, vx1049, hx1050, H, rfl, x1048, o1051, ex1052, f1053⟩
 obtain ⟨a1054, c1055, rfl⟩ := o1051.shape
 refine LP_gs ⟨⟨.inl rfl, .inl rfl, trivial⟩, ?_⟩
 refine GS_ev ok [(178, .tuple #[sl a1054 r1035 c1055, .bool r1036])] (.tuple #[sl a1054 r1035 c1055, .bool r1036]) rfl rfl (fun _ h => h) (fun _ => rfl) ?_
 refine GS_ev ok [(165, .tuple #[sl a1054 r1035 c1055, .bool r1036])] (sl a1054 r1035 c1055) rfl rfl (fun _ h => h) (fun _ => rfl) ?_
 refine GS_ev ok [(165, .tuple #[sl a1054 r1035 c1055, .bool r1036])] (.bool r1036) rfl rfl (fun _ h => h) (fun _ => rfl) ?_
 refine GS_ev ok [(179, sl a1054 r1035 c1055)] (sl a1054 r1035 c1055) rfl rfl (fun _ h => h) (fun _ => rfl) ?_
 intro wx1056 x1057 ρ hn1058
 refine AP_forget [(16, sl a187 r168 c188), (17, .bool r169), (23, sl a315 r298 c316), (26, I r897), (28, sl a1054 r1035 c1055), (180, .bool r1036)] (by exact hn1058) fun ρ => ?_
 refine AP_tail 17 [[], [0], [], [0, 1, 2], [], [0, 1, 2, 3, 4], [], [0, 1, 2, 3, 4, 5, 6], [], [0, 1, 2, 3, 4, 5, 6, 7, 8], [], [], [0, 1, 2, 3, 4, 5, 6, 7, 8, 9, 10, 11], [0, 1, 2, 3, 4, 5, 6, 7, 8, 9, 10, 11, 12], [0, 1, 2, 3, 4, 5, 6, 7, 8, 9, 10, 11, 12, 13], [0, 1, 2, 3, 4, 5, 6, 7, 8, 9, 10, 11, 12, 13], [0, 1, 2, 3, 4, 5, 6, 7, 8, 9, 10, 11, 12, 13, 14], [0, 1, 2, 3, 4, 5, 6, 7, 8, 9, 10, 11, 12, 13, 14, 15, 16]] (by kernel_rfl) ?_
 refine LP_ev ok 17 [(29, .bool r1036)] 18 rfl rfl ?_
 refine LP_end _ rfl (W_seq ?_)
 obtain ⟨k1063, hk1064, H⟩ := jn_elim H
 refine W_join2 (S := Bool) (fun s ρ' w' => k1063 s ∧ ∃ (ρ : Env), ρ' = setAll [(23, sl a315 r298 c316), (26, I r897), (189, .bool s)] ρ ∧ But emp w w' ∧ Sub hx901 w') ?_ ?_
 ·refine W_region ?_
  refine LP_ev ok 0 [(181, sl a1054 r1035 c1055), (182, sl a187 r168 c188)] 2 rfl rfl ?_
  have ex1069 := (ex185.ext (x190.trans x197))
  have xc1072 := ((((((((((((((x907.trans x929).trans x940).trans x948).trans x959).trans x966).trans x977).trans x987).trans x1004).trans x1010).trans x1019).trans x1025).trans x1034).trans x1048).trans x1057)
  refine LP_call 2 rfl rfl rfl cal_17 rfl (laws_eqIntS_w _ _ _ H wx1056 o1051.readf (ex1052.ext x1057) o184.readf ((ex638.but x900 (Dj.of_fresh (((((ex185.ext ((x190.trans x197).trans x207)).but y (Dj.of_fresh ex1069 f209).symm).ext xc266).but y261 (Dj.of_fresh (((ex1069.ext x207).but y (Dj.of_fresh ex1069 f209).symm).ext xc267) f258).symm).ext xc295) f314).symm).ext xc1072)) ?_
  rintro _ wx1074 ⟨r1065, H, rfl, x1075⟩
  refine LP_ev ok 3 [(184, .bool (!r1065)), (185, .bool (!r1065))] 5 rfl rfl ?_
  refine LP_split 185 (!r1065) rfl (fun hc1076 => ?_) (fun hc1076 => ?_)
  ·have H := H.1 hc1076
   refine LP_ev ok 5 [(186, undef), (187, undef), (188, undef), (189, .bool true)] 9 rfl rfl ?_
   refine LP_end _ rfl ?_
   have X1081 := (X.stepx (((((((((((((((((((((x.trans x34).trans x41).trans x48).trans x59).trans x67).trans x75).trans x80).trans x86).trans x91).trans x101).trans x106).trans x117).trans x123).trans x139).trans x144).trans x153).trans x158).trans x167).trans x181).trans x190).trans x197))
   have f1079 := f209.mono X1081.size
   have f1082 := f258.mono (((X1081.stepx x207).step y (f1079.dom _)).stepx xc267).size
   have f1077 := f314.mono (((((X.stepx ((((((((((((((((((((((x.trans x34).trans x41).trans x48).trans x59).trans x67).trans x75).trans x80).trans x86).trans x91).trans x101).trans x106).trans x117).trans x123).trans x139).trans x144).trans x153).trans x158).trans x167).trans x181).trans x190).trans x197).trans x207)).step y (f1079.dom _)).stepx xc266).step y261 (f1082.dom _)).stepx xc295).size
   have xc1085 := (xc1072.trans x1075)
   exact ⟨true, H, _, env_eq ⟨rfl, rfl, rfl, trivial⟩, ((X640.step x900 (f1077.dom _)).stepx xc1085), (ex903.ext xc1085)⟩
  have H := H.2 hc1076
  refine LP_ev ok 5 [(186, .bool r1036), (187, .bool r169), (188, .bool (r1036 != r169)), (189, .bool (r1036 != r169))] 9 rfl rfl ?_
  refine LP_end _ rfl ?_
  have X1092 := (X.stepx (((((((((((((((((((((x.trans x34).trans x41).trans x48).trans x59).trans x67).trans x75).trans x80).trans x86).trans x91).trans x101).trans x106).trans x117).trans x123).trans x139).trans x144).trans x153).trans x158).trans x167).trans x181).trans x190).trans x197))
  have f1090 := f209.mono X1092.size
  have f1093 := f258.mono (((X1092.stepx x207).step y (f1090.dom _)).stepx xc267).size
  have f1088 := f314.mono (((((X.stepx ((((((((((((((((((((((x.trans x34).trans x41).trans x48).trans x59).trans x67).trans x75).trans x80).trans x86).trans x91).trans x101).trans x106).trans x117).trans x123).trans x139).trans x144).trans x153).trans x158).trans x167).trans x181).trans x190).trans x197).trans x207)).step y (f1090.dom _)).stepx xc266).step y261 (f1093.dom _)).stepx xc295).size
  have xc1096 := (xc1072.trans x1075)
  exact ⟨r1036 != r169, H, _, env_eq ⟨rfl, rfl, rfl, trivial⟩, ((X640.step x900 (f1088.dom _)).stepx xc1096), (ex903.ext xc1096)⟩
 rintro x1059 _ wx1060 ⟨H, ρ, rfl, X1062, ex1061⟩
 subst hk1064
 refine W_cond (x1059) rfl (fun hc1099 => ?_) (fun hc1099 => ?_)
 ·have H := H.1 hc1099
  refine W_seq (W_region ?_)
  refine LP_ev ok 0 [(14, .bool false)] 1 rfl rfl ?_
  refine LP_end _ rfl (W_ret ?_)
  exact ⟨_, Ret_of [.bool false] ⟨⟨rfl, rfl⟩, trivial⟩, _, H, rfl, X1062.ext⟩
 have H := H.2 hc1099
 refine W_skip ?_
 refine W_seq (W_region ?_)
 refine LP_ev ok 0 [(27, I 1)] 1 rfl rfl ?_
 refine LP_end _ rfl (W_seq (W_region ?_))
 refine LP_ev ok 0 [(190, sl a315 r298 c316), (191, I 1)] 2 rfl rfl ?_
 refine LP_call 2 rfl rfl rfl cal_29 rfl (laws_heldIntS_w _ _ _ H wx1060 o902.readf ex1061) ?_
 rintro _ wx1101 ⟨r1100, H, rfl, x1102⟩
 refine LP_ev ok 3 [(27, I r1100)] 4 rfl rfl ?_
 refine LP_end _ rfl (W_seq ?_)
 refine W_seq (W_region ?_)
 refine LP_ev ok 0 [(193, I r1100), (194, .bool (decide (r1100 < 0)))] 2 rfl rfl ?_
 refine LP_end _ rfl ?_
 refine W_cond (decide (r1100 < 0)) rfl (fun hc1103 => ?_) (fun hc1103 => ?_)
 ·have H := H.1 hc1103
  refine W_seq (W_region ?_)
  refine LP_ev ok 0 [(14, .bool false)] 1 rfl rfl ?_
  refine LP_end _ rfl (W_ret ?_)
  exact ⟨_, Ret_of [.bool false] ⟨⟨rfl, rfl⟩, trivial⟩, _, H, rfl, (X1062.stepx x1102).ext⟩
 have H := H.2 hc1103
 refine W_skip ?_
 refine W_seq ?_
 refine W_seq (W_region ?_)
 refine LP_ev ok 0 [(195, I r1100), (196, I r897), (197, .bool (r1100 != r897))] 3 rfl rfl ?_
 refine LP_end _ rfl ?_
 refine W_cond (r1100 != r897) rfl (fun hc1105 => ?_) (fun hc1105 => ?_)
 ·have H := H.1 hc1105
  refine W_seq (W_region ?_)
  refine LP_ev ok 0 [(14, .bool false)] 1 rfl rfl ?_
  refine LP_end _ rfl (W_ret ?_)
  exact ⟨_, Ret_of [.bool false] ⟨⟨rfl, rfl⟩, trivial⟩, _, H, rfl, (X1062.stepx x1102).ext⟩
 have H := H.2 hc1105
 refine W_skip ?_
 refine W_seq (W_region ?_)
 refine LP_ev ok 0 [(14, .bool true)] 1 rfl rfl ?_
 refine LP_end _ rfl (W_ret ?_)
 exact ⟨_, Ret_of [.bool true] ⟨⟨rfl, rfl⟩, trivial⟩, _, H, rfl, (X1062.stepx x1102).ext⟩

end Go.Proofs.YtnladfcokocfnaaGreat
