/- The walks, further. -/
import Derived.Test.YtklajcbpnpkniaaOWalk
set_option linter.unusedVariables false
set_option autoImplicit false
namespace Go.Proofs.Ytklajcbpnpkniaa
open Go Go.RowKit Go.Gv

open Go.Proofs
set_option maxRecDepth 8000
set_option maxHeartbeats 4000000
theorem impl_valuesAt_w (sx : List Variable) (i : Int) (Q : (List Int) → Prop) (H : impl_valuesAt sx i Q) (w : World) {vx : Value} {hx : PH} (r : RS hx vx sx) (ex : Sub hx w) :
  CallsTo Try.prog 116 #[vx, I i] w fun v w' => ∃ r0 u0 g0, Q r0 ∧ v = u0 ∧ Ext w w' ∧ OS 3 g0 emp u0 r0 ∧ Sub g0 w' ∧ Fresh w.heap.size g0 := by
 obtain ⟨a, c, rfl⟩ := r.shape
 refine enter (args := [sl a sx c, I i]) 35 Try.func116 rfl rfl rfl ?_
 refine W_forget [(0, sl a sx c), (1, I i)] ⟨rfl, rfl, trivial⟩ fun ρ => ?_
 have X := But.refl emp w
 refine W_seq (W_region ?_)
 refine LP_ev ok 0 [(4, .slice none 0 0)] 1 rfl rfl ?_
 refine LP_end _ rfl (W_seq (W_region ?_))
 refine LP_ev ok 0 [(7, sl a sx c), (8, I (ln sx))] 2 rfl rfl ?_
 obtain ⟨hn, hb, H⟩ := H
 refine LP_make (α := Int) 2 rfl rfl rfl Try.underlying25 ti_3 (x0 := (0 : Int)) rfl rfl hn (by first | omega | (simp only [ln] at *; omega)) (by first | omega | (simp only [ln] at *; omega)) fun hx1 vx2 wx x o ex3 f => ?_
 obtain ⟨a4, c5, rfl⟩ := o.shape
 refine LP_ev ok 3 [(5, .slice a4 (List.length (List.replicate (Int.toNat (ln sx)) ((0 : Int)))) c5)] 4 rfl rfl ?_
 refine LP_end _ rfl (W_seq ?_)
 refine W_seq (W_region ?_)
 refine LP_ev ok 0 [(10, sl a sx c), (11, I (ln sx)), (12, I (wr ((ln sx) - 1))), (6, I (wr ((ln sx) - 1)))] 4 rfl rfl ?_
 refine LP_end _ rfl ?_
 refine W_block ?_
 have f16 := f.mono X.size
 obtain ⟨J, m, Hx, H⟩ := H
 refine W_loop (S := Int × (List Int) × Int) (fun s ρ' w' => J s.1 s.2.1 s.2.2 ∧ ∃ (ρ : Env) (hx8 : PH), ρ' = setAll [(0, sl a sx c), (1, I s.1), (5, .slice a4 (List.length (List.replicate (Int.toNat (ln sx)) ((0 : Int)))) c5), (6, I s.2.2)] ρ ∧ But emp w w' ∧ OS 3 hx8 emp (.slice a4 (List.length (List.replicate (Int.toNat (ln sx)) ((0 : Int)))) c5) s.2.1 ∧ Sub hx8 w' ∧ Fresh w.heap.size hx8 ∧ Sub hx w' ∧ Dj hx8 hx) (fun s => m s.1 s.2.1 s.2.2) (i, List.replicate (Int.toNat (ln sx)) ((0 : Int)), wr ((ln sx) - 1)) ⟨Hx, _, hx1, env_eq ⟨rfl, rfl, rfl, rfl, trivial⟩, (X.stepx x), o, ex3, f16, (ex.ext x), (Dj.of_fresh ex f).symm⟩ ?_
 rintro ⟨i6, values, k⟩ _ wx12 ⟨Hi, ρ, hx8, rfl, HF⟩
 revert HF
 refine bb6 fun X14 o9 ex10 f11 ex13 d => ?_
 have H := H i6 values k Hi
 refine W_seq ?_
 refine W_seq (W_region ?_)
 refine LP_ev ok 0 [(13, I k), (14, .bool (decide (k ≥ 0)))] 2 rfl rfl ?_
 refine LP_end _ rfl ?_
 refine W_cond (decide (k ≥ 0)) rfl (fun hc => ?_) (fun hc => ?_)
 ·have H := H.1 hc
  refine W_skip ?_
  refine W_seq ?_
  refine W_block ?_
  refine W_seq (W_region ?_)
  refine LP_ev ok 0 [(17, .slice a4 (List.length (List.replicate (Int.toNat (ln sx)) ((0 : Int)))) c5), (18, I k), (19, I i6), (20, sl a sx c), (21, I k)] 5 rfl rfl ?_
  obtain ⟨x18, hi, hx19, H⟩ := H
  refine LP_index 5 rfl rfl rfl Try.underlying23 ti_90 rfl rfl r hi hx19 fun a20 cs r21 d22 => ?_
  refine LP_ev ok 6 [(23, .pointer (some (Addr.add a20 1)))] 7 rfl rfl ?_
  refine LP_ldfld (x := x18) (off := 1) 7 (v := I x18.Levels) rfl rfl rfl ti_3 ag_3 (fun _ => rfl) rfl r21 d22 ex13 rfl rfl ?_
  obtain ⟨hz, H⟩ := H
  refine LP_val 8 _ rfl rfl (ex_rem rfl rfl rfl hz _) ?_
  obtain ⟨hi23, hl, H⟩ := H
  refine LP_indexw (v := .slice a4 (List.length (List.replicate (Int.toNat (ln sx)) ((0 : Int)))) c5) 9 rfl rfl rfl Try.underlying25 ti_3 rfl rfl o9 hi23 hl fun a24 wa => ?_
  refine LP_set 10 rfl rfl rfl rfl rfl wa (Le.refl emp) ⟨_, rfl, rfl⟩ ex10 fun hx25 wx26 o27 ex28 y dm => ?_
  refine LP_end _ rfl ?_
  refine W_region ?_
  refine LP_ev ok 0 [(27, I i6), (28, sl a sx c), (29, I k)] 3 rfl rfl ?_
  obtain ⟨x29, hi30, hx31, H⟩ := H
  refine LP_index 3 rfl rfl rfl Try.underlying23 ti_90 rfl rfl r hi30 hx31 fun a32 cs33 r34 d35 => ?_
  refine LP_ev ok 4 [(31, .pointer (some (Addr.add a32 1)))] 5 rfl rfl ?_
  have ex36 := (ex13.but y d)
  refine LP_ldfld (x := x29) (off := 1) 5 (v := I x29.Levels) rfl rfl rfl ti_3 ag_3 (fun _ => rfl) rfl r34 d35 ex36 rfl rfl ?_
  obtain ⟨hz37, H⟩ := H
  refine LP_val 6 _ rfl rfl (ex_quo rfl rfl rfl hz37 _) ?_
  refine LP_ev ok 7 [(1, I (wr (Int.tdiv i6 x29.Levels)))] 8 rfl rfl ?_
  refine LP_end _ rfl ?_
  refine W_region ?_
  refine LP_ev ok 0 [(15, I k), (16, I (wr (k - 1))), (6, I (wr (k - 1)))] 3 rfl rfl ?_
  refine LP_end _ rfl ?_
  have f39 := (dm _).fresh f11 X14.size
  exact ⟨(wr (Int.tdiv i6 x29.Levels), List.set values (Int.toNat k) (Int.tmod i6 x18.Levels), wr (k - 1)), ⟨H.1, _, hx25, env_eq ⟨rfl, rfl, rfl, rfl, trivial⟩, (X14.step y (f11.dom _)), o27, ex28, f39, ex36, (DomLe.dj (dm _) d ex13)⟩, H.2⟩
 have H := H.2 hc
 refine W_exit ?_
 refine (if_pos rfl).mpr ?_
 refine W_seq (W_region ?_)
 refine LP_ev ok 0 [(34, .slice a4 (List.length (List.replicate (Int.toNat (ln sx)) ((0 : Int)))) c5), (4, .slice a4 (List.length (List.replicate (Int.toNat (ln sx)) ((0 : Int)))) c5)] 2 rfl rfl ?_
 refine LP_end _ rfl (W_ret ?_)
 exact ⟨_, Ret_of [.slice a4 (List.length (List.replicate (Int.toNat (ln sx)) ((0 : Int)))) c5] ⟨⟨rfl, rfl⟩, trivial⟩, _, _, _, H, rfl, X14.ext, o9, ex10, f11⟩

theorem impl_completionOf_1_w (c : List Int) (c2 : List Int) (c10 : List Int) (c19 : List Int) (Q : Bool → (List Int) → Prop) (H : impl_completionOf_1 c c2 c10 c19 Q) (w : World) {vx : Value} {hx : PH} (r : OS 3 hx emp vx c) (ex : Sub hx w) {vx3 : Value} {hx4 : PH} (r5 : RS hx4 vx3 c2) (ex6 : Sub hx4 w) {b : Nat} (ex9 : Sub (bx b 25 [vx3]) w) {vx11 : Value} {hx12 : PH} (r13 : RS hx12 vx11 c10) (ex14 : Sub hx12 w) {b17 : Nat} (ex18 : Sub (bx b17 25 [vx11]) w) {vx20 : Value} {hx21 : PH} (r22 : OS 3 hx21 emp vx20 c19) (ex23 : Sub hx21 w) (cn : CanV vx20 c19) {b26 : Nat} (ex27 : Sub (bx b26 25 [vx20]) w) (d : Dj hx hx21) (d28 : Dj hx (bx b26 25 [vx20])) (d29 : Dj hx21 (bx b26 25 [vx20])) (d30 : Dj hx hx4) (d31 : Dj hx (bx b 25 [vx3])) (d32 : Dj hx hx12) (d33 : Dj hx (bx b17 25 [vx11])) (d34 : Dj hx21 hx4) (d35 : Dj hx21 (bx b 25 [vx3])) (d36 : Dj hx21 hx12) (d37 : Dj hx21 (bx b17 25 [vx11])) (d38 : Dj (bx b26 25 [vx20]) hx4) (d39 : Dj (bx b26 25 [vx20]) (bx b 25 [vx3])) (d40 : Dj (bx b26 25 [vx20]) hx12) (d41 : Dj (bx b26 25 [vx20]) (bx b17 25 [vx11])) :
  CallsTo Try.prog 82 #[vx, pb b, pb b17, pb b26] w fun v w' => ∃ r0 m1 v1_ k1, Q r0 m1 ∧ v = .bool r0 ∧ But (un hx (un hx21 (bx b26 25 [vx20]))) w w' ∧ OS 3 k1 emp v1_ m1 ∧ Sub k1 w' ∧ DomLe (un hx (un hx21 (bx b26 25 [vx20]))) w.heap.size k1 ∧ Sub (bx b26 25 [v1_]) w' ∧ Dj k1 (bx b26 25 [v1_]) ∧ CanV v1_ m1 := by
 obtain ⟨a, c1, rfl⟩ := r.shape
 obtain ⟨a7, c8, rfl⟩ := r5.shape
 obtain ⟨a15, c16, rfl⟩ := r13.shape
 obtain ⟨a24, c25, rfl⟩ := r22.shape
 refine enter (args := [sl a c c1, pb b, pb b17, pb b26]) 25 Try.func82 rfl rfl rfl ?_
 refine W_forget [(0, sl a c c1), (1, pb b), (2, pb b17), (3, pb b26)] ⟨rfl, rfl, rfl, rfl, trivial⟩ fun ρ => ?_
 obtain ⟨M, hM⟩ : ∃ M : PH, M = (un hx (un hx21 (bx b26 25 [sl a24 c19 c25]))) := ⟨_, rfl⟩
 have D : Dom M hx := by subst hM; exact (Dom.l _ _)
 have D42 : Dom M hx21 := by subst hM; exact (Dom.trans (Dom.r _ _) (Dom.l _ _))
 have D43 : Dom M (bx b26 25 [sl a24 c19 c25]) := by subst hM; exact (Dom.trans (Dom.r _ _) (Dom.trans (Dom.r _ _) (Dom.refl _)))
 have X := But.refl M w
 refine W_seq (W_region ?_)
 refine LP_ev ok 0 [(5, .bool false)] 1 rfl rfl ?_
 refine LP_end _ rfl (W_seq ?_)
 refine W_seq (W_region ?_)
 refine LP_ldbox 0 (v := sl a7 c2 c8) rfl rfl rfl ti_25 ag_25 (fun _ => rfl) rfl ex9 rfl rfl ?_
 refine LP_ev ok 1 [(9, I (ln c2)), (10, I 0)] 3 rfl rfl ?_
 refine LP_end _ rfl ?_
 refine W_block ?_
 obtain ⟨J, m, Hx, H⟩ := H
 refine W_loop (S := Int) (fun s ρ' w' => J s ∧ ∃ (ρ : Env), ρ' = setAll [(0, sl a c c1), (2, pb b17), (3, pb b26), (8, sl a7 c2 c8), (9, I (ln c2)), (10, I s)] ρ ∧ But M w w' ∧ Sub hx w' ∧ Sub hx4 w' ∧ Sub hx12 w' ∧ Sub (bx b17 25 [sl a15 c10 c16]) w' ∧ Sub hx21 w' ∧ Sub (bx b26 25 [sl a24 c19 c25]) w') (fun s => m s) 0 ⟨Hx, _, env_eq ⟨rfl, rfl, rfl, rfl, rfl, rfl, trivial⟩, X, ex, ex6, ex14, ex18, ex23, ex27⟩ ?_
 rintro x _ wx ⟨Hi, ρ, rfl, HF⟩
 revert HF
 refine bb7 fun X50 ex44 ex45 ex46 ex47 ex48 ex49 => ?_
 have H := H x Hi
 refine W_seq (W_region ?_)
 refine LP_ev ok 0 [(11, .bool (decide (x < (ln c2))))] 1 rfl rfl ?_
 refine LP_end _ rfl (W_seq ?_)
 refine W_cond (decide (x < (ln c2))) rfl (fun hc => ?_) (fun hc => ?_)
 ·have H := H.1 hc
  refine W_skip ?_
  refine W_seq ?_
  refine W_block ?_
  refine W_seq (W_region ?_)
  obtain ⟨x51, hi, hx52, H⟩ := H
  refine LP_index 0 rfl rfl rfl Try.underlying25 ti_3 rfl rfl r5 hi hx52 fun a53 cs r54 d55 => ?_
  refine LP_load 1 rfl rfl rfl ti_3 ag_3 rfl r54 d55 ex45 fun vx56 r57 => ?_
  obtain rfl := r57.int
  refine LP_ev ok 2 [(7, I x51)] 3 rfl rfl ?_
  refine LP_end _ rfl (W_seq ?_)
  refine W_quiet mix (by kernel_rfl) ?_
  refine QP_ev ok 0 [(14, sl a c c1), (15, I x51)] 2 rfl rfl ?_
  obtain ⟨x58, hi59, hx60, H⟩ := H
  refine QP_index 2 rfl rfl rfl Try.underlying25 ti_3 rfl rfl r.readf hi59 hx60 fun a61 cs62 r63 d64 => ?_
  refine QP_load 3 rfl rfl rfl ti_3 ag_3 rfl r63 d64 ex44 fun vx65 r66 => ?_
  obtain rfl := r66.int
  refine QP_ldbox 4 (v := sl a15 c10 c16) rfl rfl rfl ti_25 ag_25 (fun _ => rfl) rfl ex47 rfl rfl ?_
  refine QP_ev ok 5 [(19, I x51)] 6 rfl rfl ?_
  obtain ⟨x67, hi68, hx69, H⟩ := H
  refine QP_index 6 rfl rfl rfl Try.underlying25 ti_3 rfl rfl r13 hi68 hx69 fun a70 cs71 r72 d73 => ?_
  refine QP_load 7 rfl rfl rfl ti_3 ag_3 rfl r72 d73 ex46 fun vx74 r75 => ?_
  obtain rfl := r75.int
  refine QP_ev ok 8 [(22, .bool (x58 != x67))] 9 rfl rfl ?_
  refine QP_end _ rfl fun wx76 x77 => ?_
  refine W_cond (x58 != x67) rfl (fun hc78 => ?_) (fun hc78 => ?_)
  ·have H := H.1 hc78
   refine W_seq (W_region ?_)
   refine LP_ev ok 0 [(5, .bool true)] 1 rfl rfl ?_
   refine LP_end _ rfl (W_ret ?_)
   subst hM
   exact ⟨_, Ret_of [.bool true] ⟨⟨rfl, rfl⟩, trivial⟩, _, _, _, _, H, rfl, (X50.stepx x77), r22, (ex48.ext x77), (Dom.le D42 _), (ex49.ext x77), d29, cn⟩
  have H := H.2 hc78
  refine W_skip ?_
  refine W_region ?_
  refine LP_ev ok 0 [(23, I (wr (x + 1))), (10, I (wr (x + 1)))] 2 rfl rfl ?_
  exact LP_end _ rfl ⟨wr (x + 1), ⟨H.1, _, env_eq ⟨rfl, rfl, rfl, rfl, rfl, rfl, trivial⟩, (X50.stepx x77), (ex44.ext x77), (ex45.ext x77), (ex46.ext x77), (ex47.ext x77), (ex48.ext x77), (ex49.ext x77)⟩, H.2⟩
 have H := H.2 hc
 refine W_exit ?_
 refine (if_pos rfl).mpr ?_
 refine W_seq (W_region ?_)
 refine LP_ev ok 0 [(24, sl a c c1)] 1 rfl rfl ?_
 refine LP_stbox 1 (vs := [sl a c c1]) (cs' := [sl a c c1]) rfl rfl rfl ti_25 rfl rfl rfl rfl rfl ex49 rfl rfl fun wx89 ex90 y => ?_
 refine LP_end _ rfl (W_seq (W_region ?_))
 refine LP_ev ok 0 [(5, .bool false)] 1 rfl rfl ?_
 refine LP_end _ rfl (W_ret ?_)
 obtain ⟨hz, H⟩ := H
 subst hM
 exact ⟨_, Ret_of [.bool false] ⟨⟨rfl, rfl⟩, trivial⟩, _, _, _, _, H, rfl, (X50.step y (Dom.le D43 _)), r, (ex44.but y d28.symm), (Dom.le D _), ex90, (Dj.box d28.symm).symm, (can_of r.readf hz)⟩

theorem impl_passing_impl_completionOf_1_w (sx : List Variable) (l : List Edit) (c7 : List Int) (c15 : List Int) (c24 : List Int) (Q : (List Int) → Prop) (H : impl_passing_impl_completionOf_1 sx l c7 c15 c24 Q) (w : World) {vx : Value} {hx : PH} (r : RS hx vx sx) (ex : Sub hx w) {vx1 : Value} {hx2 : PH} (r3 : RS hx2 vx1 l) (ex4 : Sub hx2 w) {vx8 : Value} {hx9 : PH} (r10 : RS hx9 vx8 c7) (ex11 : Sub hx9 w) {b : Nat} (ex14 : Sub (bx b 25 [vx8]) w) {vx16 : Value} {hx17 : PH} (r18 : RS hx17 vx16 c15) (ex19 : Sub hx17 w) {b22 : Nat} (ex23 : Sub (bx b22 25 [vx16]) w) {vx25 : Value} {hx26 : PH} (r27 : OS 3 hx26 emp vx25 c24) (ex28 : Sub hx26 w) (cn : CanV vx25 c24) {b31 : Nat} (ex32 : Sub (bx b31 25 [vx25]) w) (d : Dj hx26 (bx b31 25 [vx25])) (d33 : Dj hx26 hx) (d34 : Dj hx26 hx2) (d35 : Dj hx26 hx9) (d36 : Dj hx26 (bx b 25 [vx8])) (d37 : Dj hx26 hx17) (d38 : Dj hx26 (bx b22 25 [vx16])) (d39 : Dj (bx b31 25 [vx25]) hx) (d40 : Dj (bx b31 25 [vx25]) hx2) (d41 : Dj (bx b31 25 [vx25]) hx9) (d42 : Dj (bx b31 25 [vx25]) (bx b 25 [vx8])) (d43 : Dj (bx b31 25 [vx25]) hx17) (d44 : Dj (bx b31 25 [vx25]) (bx b22 25 [vx16])) :
  CallsTo Try.prog 81 #[vx, vx1, .func (.func 82) #[] #[pb b, pb b22, pb b31]] w fun v w' => ∃ m1 v1_ k1, Q m1 ∧ v = .tuple #[] ∧ But (un hx26 (bx b31 25 [vx25])) w w' ∧ OS 3 k1 emp v1_ m1 ∧ Sub k1 w' ∧ DomLe (un hx26 (bx b31 25 [vx25])) w.heap.size k1 ∧ Sub (bx b31 25 [v1_]) w' ∧ Dj k1 (bx b31 25 [v1_]) ∧ CanV v1_ m1 := by
 obtain ⟨a, c, rfl⟩ := r.shape
 obtain ⟨a5, c6, rfl⟩ := r3.shape
 obtain ⟨a12, c13, rfl⟩ := r10.shape
 obtain ⟨a20, c21, rfl⟩ := r18.shape
 obtain ⟨a29, c30, rfl⟩ := r27.shape
 refine enter (args := [sl a sx c, sl a5 l c6, .func (.func 82) #[] #[pb b, pb b22, pb b31]]) 27 Try.func81 rfl rfl rfl ?_
 refine W_forget [(0, sl a sx c), (1, sl a5 l c6), (2, .func (.func 82) #[] #[pb b, pb b22, pb b31])] ⟨rfl, rfl, rfl, trivial⟩ fun ρ => ?_
 obtain ⟨M, hM⟩ : ∃ M : PH, M = (un hx26 (bx b31 25 [sl a29 c24 c30])) := ⟨_, rfl⟩
 have D : Dom M hx26 := by subst hM; exact (Dom.l _ _)
 have D45 : Dom M (bx b31 25 [sl a29 c24 c30]) := by subst hM; exact (Dom.trans (Dom.r _ _) (Dom.refl _))
 have X := But.refl M w
 refine W_seq (W_region ?_)
 refine LP_ev ok 0 [(8, sl a sx c)] 1 rfl rfl ?_
 refine LP_call 1 rfl rfl rfl cal_92 rfl (impl_combinations_w _ _ H w r ex) ?_
 rintro _ wx ⟨r46, H, rfl, x⟩
 refine LP_ev ok 2 [(10, I 0)] 3 rfl rfl ?_
 refine LP_end _ rfl ?_
 refine W_block ?_
 obtain ⟨J, m, Hx, H⟩ := H
 refine W_loop (S := Int × (List Int)) (fun s ρ' w' => J s.1 s.2 ∧ ∃ (ρ : Env) (vx49 : Value) (hx50 : PH), ρ' = setAll [(0, sl a sx c), (1, sl a5 l c6), (2, .func (.func 82) #[] #[pb b, pb b22, pb b31]), (9, I r46), (10, I s.1)] ρ ∧ But M w w' ∧ OS 3 hx50 emp vx49 s.2 ∧ Sub hx50 w' ∧ DomLe M w.heap.size hx50 ∧ Sub hx w' ∧ Sub hx2 w' ∧ Sub hx9 w' ∧ Sub (bx b 25 [sl a12 c7 c13]) w' ∧ Sub hx17 w' ∧ Sub (bx b22 25 [sl a20 c15 c21]) w' ∧ Sub (bx b31 25 [vx49]) w' ∧ Dj hx50 hx ∧ Dj hx50 hx2 ∧ Dj hx50 hx9 ∧ Dj hx50 (bx b 25 [sl a12 c7 c13]) ∧ Dj hx50 hx17 ∧ Dj hx50 (bx b22 25 [sl a20 c15 c21]) ∧ Dj hx50 (bx b31 25 [vx49]) ∧ CanV vx49 s.2) (fun s => m s.1 s.2) (0, c24) ⟨Hx, _, sl a29 c24 c30, hx26, env_eq ⟨rfl, rfl, rfl, rfl, rfl, trivial⟩, (X.stepx x), r27, (ex28.ext x), (Dom.le D _), (ex.ext x), (ex4.ext x), (ex11.ext x), (ex14.ext x), (ex19.ext x), (ex23.ext x), (ex32.ext x), d33, d34, d35, d36, d37, d38, d, cn⟩ ?_
 rintro ⟨x47, x48⟩ _ wx52 ⟨Hi, ρ, vx49, hx50, rfl, HF⟩
 revert HF
 refine bb9 fun X70 o ex51 f ex53 ex54 ex55 ex56 => ?_
 refine bb9 fun ex57 ex58 ex61 d62 d63 d64 d65 d66 => ?_
 refine bb3 fun d67 d68 cn69 => ?_
 have H := H x47 x48 Hi
 obtain ⟨a59, c60, rfl⟩ := o.shape
 refine W_seq (W_region ?_)
 refine LP_ev ok 0 [(11, .bool (decide (x47 < r46)))] 1 rfl rfl ?_
 refine LP_end _ rfl (W_seq ?_)
 refine W_cond (decide (x47 < r46)) rfl (fun hc => ?_) (fun hc => ?_)
 ·have H := H.1 hc
  refine W_skip ?_
  refine W_seq ?_
  refine W_block ?_
  refine W_seq (W_region ?_)
  refine LP_ev ok 0 [(12, I x47), (6, I x47)] 2 rfl rfl ?_
  refine LP_end _ rfl (W_seq (W_region ?_))
  refine LP_ev ok 0 [(13, sl a sx c), (14, I x47)] 2 rfl rfl ?_
  refine LP_call 2 rfl rfl rfl cal_116 rfl (impl_valuesAt_w _ _ _ H wx52 r ex53) ?_
  rintro _ wx81 ⟨r80, vx83, hx84, H, rfl, x82, o85, ex86, f87⟩
  obtain ⟨a88, c89, rfl⟩ := o85.shape
  refine LP_ev ok 3 [(7, sl a88 r80 c89)] 4 rfl rfl ?_
  refine LP_end _ rfl ?_
  have X90 := (X70.stepx x82)
  have ex91 := (ex53.ext x82)
  have ex92 := (ex54.ext x82)
  have ex93 := (ex55.ext x82)
  have ex94 := (ex56.ext x82)
  have ex95 := (ex57.ext x82)
  have ex96 := (ex58.ext x82)
  have ex97 := (ex61.ext x82)
  have ex98 := (ex51.ext x82)
  have f99 := f87.mono X70.size
  obtain ⟨k, hk, H⟩ := jn_elim H
  refine W_join2 (S := Bool × (List Int)) (fun s ρ' w' => k s.1 s.2 ∧ ∃ (ρ : Env) (vx102 : Value) (hx103 : PH), ρ' = setAll [(0, sl a sx c), (1, sl a5 l c6), (2, .func (.func 82) #[] #[pb b, pb b22, pb b31]), (9, I r46), (10, I x47), (25, .bool s.1)] ρ ∧ But M w w' ∧ OS 3 hx103 emp vx102 s.2 ∧ Sub hx103 w' ∧ DomLe M w.heap.size hx103 ∧ Sub hx w' ∧ Sub hx2 w' ∧ Sub hx9 w' ∧ Sub (bx b 25 [sl a12 c7 c13]) w' ∧ Sub hx17 w' ∧ Sub (bx b22 25 [sl a20 c15 c21]) w' ∧ Sub (bx b31 25 [vx102]) w' ∧ Dj hx103 hx ∧ Dj hx103 hx2 ∧ Dj hx103 hx9 ∧ Dj hx103 (bx b 25 [sl a12 c7 c13]) ∧ Dj hx103 hx17 ∧ Dj hx103 (bx b22 25 [sl a20 c15 c21]) ∧ Dj hx103 (bx b31 25 [vx102]) ∧ CanV vx102 s.2) ?_ ?_
  ·refine W_region ?_
   refine LP_ev ok 0 [(16, sl a5 l c6), (17, sl a88 r80 c89)] 2 rfl rfl ?_
   refine LP_call 2 rfl rfl rfl cal_31 rfl (impl_failsOne_w _ _ _ H wx81 r3 ex92 o85.readf ex86) ?_
   rintro _ wx127 ⟨r126, H, rfl, x128⟩
   refine LP_ev ok 3 [(19, .bool (!r126)), (20, .bool (!r126))] 5 rfl rfl ?_
   refine LP_split 20 (!r126) rfl (fun hc129 => ?_) (fun hc129 => ?_)
   ·have H := H.1 hc129
    refine LP_ev ok 5 [(21, .func (.func 82) #[] #[pb b, pb b22, pb b31]), (22, sl a88 r80 c89)] 7 rfl rfl ?_
    have ex133 := (ex93.ext x128)
    have ex134 := (ex94.ext x128)
    have ex135 := (ex95.ext x128)
    have ex136 := (ex96.ext x128)
    refine LP_callc 7 rfl rfl rfl rfl cal_82 rfl rfl (impl_completionOf_1_w _ _ _ _ _ H wx127 o85 (ex86.ext x128) r10 ex133 ex134 r18 ex135 ex136 o (ex98.ext x128) cn69 (ex97.ext x128) (Dj.of_fresh ex51 f87).symm (Dj.of_fresh ex61 f87).symm d68 (Dj.of_fresh ex55 f87).symm (Dj.of_fresh ex56 f87).symm (Dj.of_fresh ex57 f87).symm (Dj.of_fresh ex58 f87).symm d64 d65 d66 d67 (Dj.box d41) (Dj.box d42) (Dj.box d43) (Dj.box d44)) ?_
    rintro _ wx139 ⟨r130, r131, vx144, hx141, H, rfl, x140, HF⟩
    revert HF
    refine bb6 fun o142 ex143 dm ex145 d146 cn147 => ?_
    obtain ⟨a148, c149, rfl⟩ := o142.shape
    refine LP_ev ok 8 [(24, .bool (!r130)), (25, .bool (!r130))] 10 rfl rfl ?_
    exact LP_end _ rfl ⟨(!r130, r131), H, _, sl a148 r131 c149, hx141, env_eq ⟨rfl, rfl, rfl, rfl, rfl, rfl, trivial⟩, ((X90.stepx x128).step x140 (DomLe.un (f99.dom _) (DomLe.un f (DomLe.dom D45 single_dom)))), o142, ex143, (DomLe.trans (DomLe.un (f99.dom _) (DomLe.un f (DomLe.dom D45 single_dom))) dm (X90.stepx x128).size), ((ex91.ext x128).but x140 (Dj.un_l (Dj.of_fresh ex53 f87).symm (Dj.un_l d62 (Dj.box d39)))), ((ex92.ext x128).but x140 (Dj.un_l (Dj.of_fresh ex54 f87).symm (Dj.un_l d63 (Dj.box d40)))), (ex133.but x140 (Dj.un_l (Dj.of_fresh ex55 f87).symm (Dj.un_l d64 (Dj.box d41)))), (ex134.but x140 (Dj.un_l (Dj.of_fresh ex56 f87).symm (Dj.un_l d65 (Dj.box d42)))), (ex135.but x140 (Dj.un_l (Dj.of_fresh ex57 f87).symm (Dj.un_l d66 (Dj.box d43)))), (ex136.but x140 (Dj.un_l (Dj.of_fresh ex58 f87).symm (Dj.un_l d67 (Dj.box d44)))), ex145, (DomLe.dj dm (Dj.un_l (Dj.of_fresh ex53 f87).symm (Dj.un_l d62 (Dj.box d39))) (ex91.ext x128)), (DomLe.dj dm (Dj.un_l (Dj.of_fresh ex54 f87).symm (Dj.un_l d63 (Dj.box d40))) (ex92.ext x128)), (DomLe.dj dm (Dj.un_l (Dj.of_fresh ex55 f87).symm (Dj.un_l d64 (Dj.box d41))) ex133), (DomLe.dj dm (Dj.un_l (Dj.of_fresh ex56 f87).symm (Dj.un_l d65 (Dj.box d42))) ex134), (DomLe.dj dm (Dj.un_l (Dj.of_fresh ex57 f87).symm (Dj.un_l d66 (Dj.box d43))) ex135), (DomLe.dj dm (Dj.un_l (Dj.of_fresh ex58 f87).symm (Dj.un_l d67 (Dj.box d44))) ex136), d146, cn147⟩
   have H := H.2 hc129
   refine LP_ev ok 5 [(21, undef), (22, undef), (23, undef), (24, undef), (25, .bool false)] 10 rfl rfl ?_
   exact LP_end _ rfl ⟨(false, x48), H, _, sl a59 x48 c60, hx50, env_eq ⟨rfl, rfl, rfl, rfl, rfl, rfl, trivial⟩, (X90.stepx x128), o, (ex98.ext x128), f, (ex91.ext x128), (ex92.ext x128), (ex93.ext x128), (ex94.ext x128), (ex95.ext x128), (ex96.ext x128), (ex97.ext x128), d62, d63, d64, d65, d66, d67, d68, cn69⟩
  rintro ⟨x100, x101⟩ _ wx107 ⟨H, ρ, vx102, hx103, rfl, HF⟩
  revert HF
  refine bb9 fun X125 o104 ex105 f106 ex108 ex109 ex110 ex111 => ?_
  refine bb9 fun ex112 ex113 ex116 d117 d118 d119 d120 d121 => ?_
  refine bb3 fun d122 d123 cn124 => ?_
  subst hk
  obtain ⟨a114, c115, rfl⟩ := o104.shape
  refine W_cond (x100) rfl (fun hc169 => ?_) (fun hc169 => ?_)
  ·have H := H.1 hc169
   refine W_ret ?_
   subst hM
   exact ⟨_, Ret_of [] trivial, _, _, _, H, rfl, X125, o104, ex105, f106, ex116, d123, cn124⟩
  have H := H.2 hc169
  refine W_skip ?_
  refine W_region ?_
  refine LP_ev ok 0 [(26, I (wr (x47 + 1))), (10, I (wr (x47 + 1)))] 2 rfl rfl ?_
  exact LP_end _ rfl ⟨(wr (x47 + 1), x101), ⟨H.1, _, sl a114 x101 c115, hx103, env_eq ⟨rfl, rfl, rfl, rfl, rfl, trivial⟩, X125, o104, ex105, f106, ex108, ex109, ex110, ex111, ex112, ex113, ex116, d117, d118, d119, d120, d121, d122, d123, cn124⟩, H.2⟩
 have H := H.2 hc
 refine W_exit ?_
 refine (if_pos rfl).mpr ?_
 subst hM
 exact ⟨_, Ret_of [] trivial, _, _, _, H, rfl, X70, o, ex51, f, ex61, d68, cn69⟩

theorem impl_completionOf_w (sx : List Variable) (l : List Edit) (fixed : List Int) (values : List Int) (Q : (List Int) → Prop) (H : impl_completionOf sx l fixed values Q) (w : World) {vx : Value} {hx : PH} (r : RS hx vx sx) (ex : Sub hx w) {vx1 : Value} {hx2 : PH} (r3 : RS hx2 vx1 l) (ex4 : Sub hx2 w) {vx7 : Value} {hx8 : PH} (r9 : RS hx8 vx7 fixed) (ex10 : Sub hx8 w) {vx13 : Value} {hx14 : PH} (r15 : RS hx14 vx13 values) (ex16 : Sub hx14 w) :
  CallsTo Try.prog 33 #[vx, vx1, vx7, vx13] w fun v w' => ∃ r0 u0 g0, Q r0 ∧ v = u0 ∧ Ext w w' ∧ OS 3 g0 emp u0 r0 ∧ Sub g0 w' ∧ Fresh w.heap.size g0 ∧ CanV u0 r0 := by
 obtain ⟨a, c, rfl⟩ := r.shape
 obtain ⟨a5, c6, rfl⟩ := r3.shape
 obtain ⟨a11, c12, rfl⟩ := r9.shape
 obtain ⟨a17, c18, rfl⟩ := r15.shape
 refine enter (args := [sl a sx c, sl a5 l c6, sl a11 fixed c12, sl a17 values c18]) 15 Try.func33 rfl rfl rfl ?_
 refine W_forget [(0, sl a sx c), (1, sl a5 l c6), (2, sl a11 fixed c12), (3, sl a17 values c18)] ⟨rfl, rfl, rfl, rfl, trivial⟩ fun ρ => ?_
 have X := But.refl emp w
 refine W_seq (W_region ?_)
 refine LP_box 0 (cs := [sl a11 fixed c12]) rfl rfl rfl rfl rfl fun b wx x ex19 f => ?_
 refine LP_box 1 (cs := [sl a17 values c18]) rfl rfl rfl rfl rfl fun b20 wx21 x22 ex23 f24 => ?_
 refine LP_ev ok 2 [(8, .slice none 0 0)] 3 rfl rfl ?_
 refine LP_end _ rfl (W_seq (W_region ?_))
 refine LP_alloc 0 rfl rfl rfl ti_25 rfl fun b25 wx26 x27 ex28 f29 => ?_
 refine LP_end _ rfl (W_seq (W_region ?_))
 refine LP_ev ok 0 [(10, sl a sx c), (11, sl a5 l c6), (12, .func (.func 82) #[] #[pb b, pb b20, pb b25])] 3 rfl rfl ?_
 have xc := (x.trans x22)
 have ex30 := (ex.ext xc)
 have ex31 := (ex4.ext xc)
 have ex32 := (ex10.ext xc)
 have ex33 := (ex19.ext x22)
 have ex34 := (ex16.ext xc)
 refine LP_call 3 rfl rfl rfl cal_81 rfl (impl_passing_impl_completionOf_1_w _ _ _ _ _ _ H wx26 r (ex30.ext x27) r3 (ex31.ext x27) r9 (ex32.ext x27) (ex33.ext x27) r15 (ex34.ext x27) (ex23.ext x27) (OS.nil (E := 3) (g := emp)) (emp_sub _) CanV.nil ex28 (Dj.emp_l _) (Dj.emp_l _) (Dj.emp_l _) (Dj.emp_l _) (Dj.emp_l _) (Dj.emp_l _) (Dj.emp_l _) (Dj.of_fresh ex30 f29).symm (Dj.of_fresh ex31 f29).symm (Dj.of_fresh ex32 f29).symm (Dj.of_fresh ex33 f29).symm (Dj.of_fresh ex34 f29).symm (Dj.of_fresh ex23 f29).symm) ?_
 rintro _ wx42 ⟨r35, vx46, hx44, H, rfl, x43, HF⟩
 revert HF
 refine bb6 fun o ex45 dm ex47 d cn => ?_
 obtain ⟨a48, c49, rfl⟩ := o.shape
 refine LP_end _ rfl (W_seq (W_region ?_))
 refine LP_ldbox 0 (v := sl a48 r35 c49) rfl rfl rfl ti_25 ag_25 (fun _ => rfl) rfl ex47 rfl rfl ?_
 refine LP_ev ok 1 [(8, sl a48 r35 c49)] 2 rfl rfl ?_
 refine LP_end _ rfl (W_ret ?_)
 have X51 := (X.stepx xc)
 have f50 := f29.mono X51.size
 have X53 := (X51.stepx x27)
 have f52 := DomLe.fresh dm (Fresh.un (emp_fresh _) f50) X53.size
 exact ⟨_, Ret_of [sl a48 r35 c49] ⟨⟨rfl, rfl⟩, trivial⟩, _, _, _, H, rfl, (X53.step x43 (DomLe.un (fun _ _ _ => rfl) (f50.dom _))).ext, o, ex45, f52, cn⟩

theorem impl_weightOf_w (weights : List Int) (vars : List Int) (Q : Int → Prop) (H : impl_weightOf weights vars Q) (w : World) {vx : Value} {hx : PH} (r : RS hx vx weights) (ex : Sub hx w) {vx1 : Value} {hx2 : PH} (r3 : RS hx2 vx1 vars) (ex4 : Sub hx2 w) :
  CallsTo Try.prog 35 #[vx, vx1] w fun v w' => ∃ r0, Q r0 ∧ v = I r0 ∧ Ext w w' := by
 obtain ⟨a, c, rfl⟩ := r.shape
 obtain ⟨a5, c6, rfl⟩ := r3.shape
 refine enter (args := [sl a weights c, sl a5 vars c6]) 22 Try.func35 rfl rfl rfl ?_
 refine W_forget [(0, sl a weights c), (1, sl a5 vars c6)] ⟨rfl, rfl, trivial⟩ fun ρ => ?_
 have X := But.refl emp w
 refine W_seq (W_region ?_)
 refine LP_ev ok 0 [(4, I 0)] 1 rfl rfl ?_
 refine LP_end _ rfl (W_seq (W_region ?_))
 refine LP_ev ok 0 [(5, I 0)] 1 rfl rfl ?_
 refine LP_end _ rfl (W_seq ?_)
 refine W_seq (W_region ?_)
 refine LP_ev ok 0 [(8, sl a5 vars c6), (9, I (ln vars)), (10, I 0)] 3 rfl rfl ?_
 refine LP_end _ rfl ?_
 refine W_block ?_
 obtain ⟨J, m, Hx, H⟩ := H
 refine W_loop (S := Int × Int) (fun s ρ' w' => J s.1 s.2 ∧ ∃ (ρ : Env), ρ' = setAll [(0, sl a weights c), (5, I s.1), (8, sl a5 vars c6), (9, I (ln vars)), (10, I s.2)] ρ ∧ w = w') (fun s => m s.1 s.2) (0, 0) ⟨Hx, _, env_eq ⟨rfl, rfl, rfl, rfl, rfl, trivial⟩, rfl⟩ ?_
 rintro ⟨sum, x⟩ _ _ ⟨Hi, ρ, rfl, rfl⟩
 have H := H sum x Hi
 refine W_seq (W_region ?_)
 refine LP_ev ok 0 [(11, .bool (decide (x < (ln vars))))] 1 rfl rfl ?_
 refine LP_end _ rfl (W_seq ?_)
 refine W_cond (decide (x < (ln vars))) rfl (fun hc => ?_) (fun hc => ?_)
 ·have H := H.1 hc
  refine W_skip ?_
  refine W_seq ?_
  refine W_block ?_
  refine W_seq (W_region ?_)
  obtain ⟨x7, hi, hx8, H⟩ := H
  refine LP_index 0 rfl rfl rfl Try.underlying25 ti_3 rfl rfl r3 hi hx8 fun a9 cs r10 d => ?_
  refine LP_load 1 rfl rfl rfl ti_3 ag_3 rfl r10 d ex4 fun vx11 r12 => ?_
  obtain rfl := r12.int
  refine LP_ev ok 2 [(7, I x7)] 3 rfl rfl ?_
  refine LP_end _ rfl ?_
  refine W_region ?_
  refine LP_ev ok 0 [(14, I sum), (15, sl a weights c), (16, I x7)] 3 rfl rfl ?_
  obtain ⟨x13, hi14, hx15, H⟩ := H
  refine LP_index 3 rfl rfl rfl Try.underlying25 ti_3 rfl rfl r hi14 hx15 fun a16 cs17 r18 d19 => ?_
  refine LP_load 4 rfl rfl rfl ti_3 ag_3 rfl r18 d19 ex fun vx20 r21 => ?_
  obtain rfl := r21.int
  refine LP_ev ok 5 [(19, I (wr (sum + x13))), (5, I (wr (sum + x13)))] 7 rfl rfl ?_
  refine LP_end _ rfl ?_
  refine W_region ?_
  refine LP_ev ok 0 [(20, I (wr (x + 1))), (10, I (wr (x + 1)))] 2 rfl rfl ?_
  exact LP_end _ rfl ⟨(wr (sum + x13), wr (x + 1)), ⟨H.1, _, env_eq ⟨rfl, rfl, rfl, rfl, rfl, trivial⟩, rfl⟩, H.2⟩
 have H := H.2 hc
 refine W_exit ?_
 refine (if_pos rfl).mpr ?_
 refine W_seq (W_region ?_)
 refine LP_ev ok 0 [(21, I sum), (4, I sum)] 2 rfl rfl ?_
 refine LP_end _ rfl (W_ret ?_)
 exact ⟨_, Ret_of [I sum] ⟨⟨rfl, rfl⟩, trivial⟩, _, H, rfl, X.ext⟩

theorem impl_cheapestChange_1_w (vars : List Int) (c1 : List Int) (Q : Int → Prop) (H : impl_cheapestChange_1 vars c1 Q) (w : World) {vx : Value} {hx : PH} (r : RS hx vx vars) (ex : Sub hx w) {vx2 : Value} {hx3 : PH} (r4 : RS hx3 vx2 c1) (ex5 : Sub hx3 w) {b : Nat} (ex8 : Sub (bx b 25 [vx2]) w) :
  CallsTo Try.prog 80 #[vx, pb b] w fun v w' => ∃ r0, Q r0 ∧ v = I r0 ∧ Ext w w' := by
 obtain ⟨a, c, rfl⟩ := r.shape
 obtain ⟨a6, c7, rfl⟩ := r4.shape
 refine enter (args := [sl a vars c, pb b]) 7 Try.func80 rfl rfl rfl ?_
 refine W_forget [(0, sl a vars c), (1, pb b)] ⟨rfl, rfl, trivial⟩ fun ρ => ?_
 have X := But.refl emp w
 refine W_seq (W_region ?_)
 refine LP_ev ok 0 [(3, I 0)] 1 rfl rfl ?_
 refine LP_end _ rfl (W_seq (W_region ?_))
 refine LP_ldbox 0 (v := sl a6 c1 c7) rfl rfl rfl ti_25 ag_25 (fun _ => rfl) rfl ex8 rfl rfl ?_
 refine LP_ev ok 1 [(5, sl a vars c)] 2 rfl rfl ?_
 refine LP_call 2 rfl rfl rfl cal_35 rfl (impl_weightOf_w _ _ _ H w r4 ex5 r ex) ?_
 rintro _ wx ⟨r9, H, rfl, x⟩
 refine LP_ev ok 3 [(3, I r9)] 4 rfl rfl ?_
 refine LP_end _ rfl (W_ret ?_)
 exact ⟨_, Ret_of [I r9] ⟨⟨rfl, rfl⟩, trivial⟩, _, H, rfl, (X.stepx x).ext⟩

theorem cmp_isNaN_int_w (x : Int) (Q : Bool → Prop) (H : cmp_isNaN_int x Q) (w : World)  :
  CallsTo Try.prog 124 #[I x] w fun v w' => ∃ r0, Q r0 ∧ v = .bool r0 ∧ Ext w w' := by
 refine enter (args := [I x]) 6 Try.func124 rfl rfl rfl ?_
 refine W_forget [(0, I x)] ⟨rfl, trivial⟩ fun ρ => ?_
 have X := But.refl emp w
 refine W_seq (W_region ?_)
 refine LP_ev ok 0 [(2, .bool false)] 1 rfl rfl ?_
 refine LP_end _ rfl (W_seq (W_region ?_))
 refine LP_ev ok 0 [(3, I x), (4, I x), (5, .bool (x != x)), (2, .bool (x != x))] 4 rfl rfl ?_
 refine LP_end _ rfl (W_ret ?_)
 exact ⟨_, Ret_of [.bool (x != x)] ⟨⟨rfl, rfl⟩, trivial⟩, _, H, rfl, X.ext⟩

theorem cmp_Compare_int_w (x : Int) (y : Int) (Q : Int → Prop) (H : cmp_Compare_int x y Q) (w : World)  :
  CallsTo Try.prog 114 #[I x, I y] w fun v w' => ∃ r0, Q r0 ∧ v = I r0 ∧ Ext w w' := by
 refine enter (args := [I x, I y]) 20 Try.func114 rfl rfl rfl ?_
 refine W_forget [(0, I x), (1, I y)] ⟨rfl, rfl, trivial⟩ fun ρ => ?_
 have X := But.refl emp w
 refine W_seq (W_region ?_)
 refine LP_ev ok 0 [(4, I 0)] 1 rfl rfl ?_
 refine LP_end _ rfl (W_seq (W_region ?_))
 refine LP_ev ok 0 [(7, I x)] 1 rfl rfl ?_
 refine LP_call 1 rfl rfl rfl cal_124 rfl (cmp_isNaN_int_w _ _ H w ) ?_
 rintro _ wx ⟨r, H, rfl, x1⟩
 refine LP_ev ok 2 [(5, .bool r)] 3 rfl rfl ?_
 refine LP_end _ rfl (W_seq (W_region ?_))
 refine LP_ev ok 0 [(9, I y)] 1 rfl rfl ?_
 refine LP_call 1 rfl rfl rfl cal_124 rfl (cmp_isNaN_int_w _ _ H wx ) ?_
 rintro _ wx3 ⟨r2, H, rfl, x4⟩
 refine LP_ev ok 2 [(6, .bool r2)] 3 rfl rfl ?_
 refine LP_end _ rfl (W_seq ?_)
 refine W_seq (W_region ?_)
 refine LP_ev ok 0 [(11, .bool r)] 1 rfl rfl ?_
 refine LP_end _ rfl ?_
 refine W_cond (r) rfl (fun hc => ?_) (fun hc => ?_)
 ·have H := H.1 hc
  refine W_seq ?_
  refine W_seq (W_region ?_)
  refine LP_ev ok 0 [(12, .bool r2)] 1 rfl rfl ?_
  refine LP_end _ rfl ?_
  refine W_cond (r2) rfl (fun hc5 => ?_) (fun hc5 => ?_)
  ·have H := H.1 hc5
   refine W_seq (W_region ?_)
   refine LP_ev ok 0 [(4, I 0)] 1 rfl rfl ?_
   refine LP_end _ rfl (W_ret ?_)
   exact ⟨_, Ret_of [I 0] ⟨⟨rfl, rfl⟩, trivial⟩, _, H, rfl, (X.stepx (x1.trans x4)).ext⟩
  have H := H.2 hc5
  refine W_skip ?_
  refine W_seq (W_region ?_)
  refine LP_ev ok 0 [(4, I ((-1)))] 1 rfl rfl ?_
  refine LP_end _ rfl (W_ret ?_)
  exact ⟨_, Ret_of [I ((-1))] ⟨⟨rfl, rfl⟩, trivial⟩, _, H, rfl, (X.stepx (x1.trans x4)).ext⟩
 have H := H.2 hc
 refine W_skip ?_
 refine W_seq ?_
 refine W_seq (W_region ?_)
 refine LP_ev ok 0 [(13, .bool r2)] 1 rfl rfl ?_
 refine LP_end _ rfl ?_
 refine W_cond (r2) rfl (fun hc9 => ?_) (fun hc9 => ?_)
 ·have H := H.1 hc9
  refine W_seq (W_region ?_)
  refine LP_ev ok 0 [(4, I 1)] 1 rfl rfl ?_
  refine LP_end _ rfl (W_ret ?_)
  exact ⟨_, Ret_of [I 1] ⟨⟨rfl, rfl⟩, trivial⟩, _, H, rfl, (X.stepx (x1.trans x4)).ext⟩
 have H := H.2 hc9
 refine W_skip ?_
 refine W_seq ?_
 refine W_seq (W_region ?_)
 refine LP_ev ok 0 [(14, I x), (15, I y), (16, .bool (decide (x < y)))] 3 rfl rfl ?_
 refine LP_end _ rfl ?_
 refine W_cond (decide (x < y)) rfl (fun hc12 => ?_) (fun hc12 => ?_)
 ·have H := H.1 hc12
  refine W_seq (W_region ?_)
  refine LP_ev ok 0 [(4, I ((-1)))] 1 rfl rfl ?_
  refine LP_end _ rfl (W_ret ?_)
  exact ⟨_, Ret_of [I ((-1))] ⟨⟨rfl, rfl⟩, trivial⟩, _, H, rfl, (X.stepx (x1.trans x4)).ext⟩
 have H := H.2 hc12
 refine W_skip ?_
 refine W_seq ?_
 refine W_seq (W_region ?_)
 refine LP_ev ok 0 [(17, I x), (18, I y), (19, .bool (decide (x > y)))] 3 rfl rfl ?_
 refine LP_end _ rfl ?_
 refine W_cond (decide (x > y)) rfl (fun hc15 => ?_) (fun hc15 => ?_)
 ·have H := H.1 hc15
  refine W_seq (W_region ?_)
  refine LP_ev ok 0 [(4, I 1)] 1 rfl rfl ?_
  refine LP_end _ rfl (W_ret ?_)
  exact ⟨_, Ret_of [I 1] ⟨⟨rfl, rfl⟩, trivial⟩, _, H, rfl, (X.stepx (x1.trans x4)).ext⟩
 have H := H.2 hc15
 refine W_skip ?_
 refine W_seq (W_region ?_)
 refine LP_ev ok 0 [(4, I 0)] 1 rfl rfl ?_
 refine LP_end _ rfl (W_ret ?_)
 exact ⟨_, Ret_of [I 0] ⟨⟨rfl, rfl⟩, trivial⟩, _, H, rfl, (X.stepx (x1.trans x4)).ext⟩

theorem slices_Compare_int_int_w (sx : List Int) (sx1 : List Int) (Q : Int → Prop) (H : slices_Compare_int_int sx sx1 Q) (w : World) {vx : Value} {hx : PH} (r : RS hx vx sx) (ex : Sub hx w) {vx2 : Value} {hx3 : PH} (r4 : RS hx3 vx2 sx1) (ex5 : Sub hx3 w) :
  CallsTo Try.prog 115 #[vx, vx2] w fun v w' => ∃ r0, Q r0 ∧ v = I r0 ∧ Ext w w' := by
 obtain ⟨a, c, rfl⟩ := r.shape
 obtain ⟨a6, c7, rfl⟩ := r4.shape
 refine enter (args := [sl a sx c, sl a6 sx1 c7]) 36 Try.func115 rfl rfl rfl ?_
 refine W_forget [(0, sl a sx c), (1, sl a6 sx1 c7)] ⟨rfl, rfl, trivial⟩ fun ρ => ?_
 have X := But.refl emp w
 refine W_seq (W_region ?_)
 refine LP_ev ok 0 [(4, I 0)] 1 rfl rfl ?_
 refine LP_end _ rfl (W_seq ?_)
 refine W_seq (W_region ?_)
 refine LP_ev ok 0 [(9, sl a sx c), (10, I (ln sx)), (11, I 0)] 3 rfl rfl ?_
 refine LP_end _ rfl ?_
 refine W_block ?_
 obtain ⟨J, m, Hx, H⟩ := H
 refine W_loop (S := Int) (fun s ρ' w' => J s ∧ ∃ (ρ : Env), ρ' = setAll [(0, sl a sx c), (1, sl a6 sx1 c7), (9, sl a sx c), (10, I (ln sx)), (11, I s)] ρ ∧ But emp w w' ∧ Sub hx w' ∧ Sub hx3 w') (fun s => m s) 0 ⟨Hx, _, env_eq ⟨rfl, rfl, rfl, rfl, rfl, trivial⟩, X, ex, ex5⟩ ?_
 rintro x _ wx ⟨Hi, ρ, rfl, X10, ex8, ex9⟩
 have H := H x Hi
 refine W_seq (W_region ?_)
 refine LP_ev ok 0 [(12, .bool (decide (x < (ln sx))))] 1 rfl rfl ?_
 refine LP_end _ rfl (W_seq ?_)
 refine W_cond (decide (x < (ln sx))) rfl (fun hc => ?_) (fun hc => ?_)
 ·have H := H.1 hc
  refine W_skip ?_
  refine W_seq ?_
  refine W_block ?_
  refine W_seq (W_region ?_)
  refine LP_ev ok 0 [(13, I x)] 1 rfl rfl ?_
  obtain ⟨x11, hi, hx12, H⟩ := H
  refine LP_index 1 rfl rfl rfl Try.underlying25 ti_3 rfl rfl r hi hx12 fun a13 cs r14 d => ?_
  refine LP_load 2 rfl rfl rfl ti_3 ag_3 rfl r14 d ex8 fun vx15 r16 => ?_
  obtain rfl := r16.int
  refine LP_ev ok 3 [(5, I x), (6, I x11)] 5 rfl rfl ?_
  refine LP_end _ rfl (W_seq ?_)
  refine W_seq (W_region ?_)
  refine LP_ev ok 0 [(16, I x), (17, sl a6 sx1 c7), (18, I (ln sx1)), (19, .bool (decide (x ≥ (ln sx1))))] 4 rfl rfl ?_
  refine LP_end _ rfl ?_
  refine W_cond (decide (x ≥ (ln sx1))) rfl (fun hc17 => ?_) (fun hc17 => ?_)
  ·have H := H.1 hc17
   refine W_seq (W_region ?_)
   refine LP_ev ok 0 [(4, I 1)] 1 rfl rfl ?_
   refine LP_end _ rfl (W_ret ?_)
   exact ⟨_, Ret_of [I 1] ⟨⟨rfl, rfl⟩, trivial⟩, _, H, rfl, X10.ext⟩
  have H := H.2 hc17
  refine W_skip ?_
  refine W_seq (W_region ?_)
  refine LP_ev ok 0 [(20, sl a6 sx1 c7), (21, I x)] 2 rfl rfl ?_
  obtain ⟨x18, hi19, hx20, H⟩ := H
  refine LP_index 2 rfl rfl rfl Try.underlying25 ti_3 rfl rfl r4 hi19 hx20 fun a21 cs22 r23 d24 => ?_
  refine LP_load 3 rfl rfl rfl ti_3 ag_3 rfl r23 d24 ex9 fun vx25 r26 => ?_
  obtain rfl := r26.int
  refine LP_ev ok 4 [(7, I x18)] 5 rfl rfl ?_
  refine LP_end _ rfl (W_seq (W_region ?_))
  refine LP_ev ok 0 [(24, I x11), (25, I x18)] 2 rfl rfl ?_
  refine LP_call 2 rfl rfl rfl cal_114 rfl (cmp_Compare_int_w _ _ _ H wx ) ?_
  rintro _ wx28 ⟨r27, H, rfl, x29⟩
  refine LP_ev ok 3 [(8, I r27)] 4 rfl rfl ?_
  refine LP_end _ rfl (W_seq (W_region ?_))
  refine LP_ev ok 0 [(27, I r27), (28, .bool (r27 != 0))] 2 rfl rfl ?_
  refine LP_end _ rfl ?_
  refine W_cond (r27 != 0) rfl (fun hc30 => ?_) (fun hc30 => ?_)
  ·have H := H.1 hc30
   refine W_seq (W_region ?_)
   refine LP_ev ok 0 [(29, I r27), (4, I r27)] 2 rfl rfl ?_
   refine LP_end _ rfl (W_ret ?_)
   exact ⟨_, Ret_of [I r27] ⟨⟨rfl, rfl⟩, trivial⟩, _, H, rfl, (X10.stepx x29).ext⟩
  have H := H.2 hc30
  refine W_skip ?_
  refine W_region ?_
  refine LP_ev ok 0 [(30, I (wr (x + 1))), (11, I (wr (x + 1)))] 2 rfl rfl ?_
  exact LP_end _ rfl ⟨wr (x + 1), ⟨H.1, _, env_eq ⟨rfl, rfl, rfl, rfl, rfl, trivial⟩, (X10.stepx x29), (ex8.ext x29), (ex9.ext x29)⟩, H.2⟩
 have H := H.2 hc
 refine W_exit ?_
 refine (if_pos rfl).mpr ?_
 refine W_seq ?_
 refine W_seq (W_region ?_)
 refine LP_ev ok 0 [(31, sl a sx c), (32, I (ln sx)), (33, sl a6 sx1 c7), (34, I (ln sx1)), (35, .bool (decide ((ln sx) < (ln sx1))))] 5 rfl rfl ?_
 refine LP_end _ rfl ?_
 refine W_cond (decide ((ln sx) < (ln sx1))) rfl (fun hc35 => ?_) (fun hc35 => ?_)
 ·have H := H.1 hc35
  refine W_seq (W_region ?_)
  refine LP_ev ok 0 [(4, I ((-1)))] 1 rfl rfl ?_
  refine LP_end _ rfl (W_ret ?_)
  exact ⟨_, Ret_of [I ((-1))] ⟨⟨rfl, rfl⟩, trivial⟩, _, H, rfl, X10.ext⟩
 have H := H.2 hc35
 refine W_skip ?_
 refine W_seq (W_region ?_)
 refine LP_ev ok 0 [(4, I 0)] 1 rfl rfl ?_
 refine LP_end _ rfl (W_ret ?_)
 exact ⟨_, Ret_of [I 0] ⟨⟨rfl, rfl⟩, trivial⟩, _, H, rfl, X10.ext⟩

theorem cmp_Or_int_w (vals : List Int) (Q : Int → Prop) (H : cmp_Or_int vals Q) (w : World) {vx : Value} {hx : PH} (r : RS hx vx vals) (ex : Sub hx w) :
  CallsTo Try.prog 113 #[vx] w fun v w' => ∃ r0, Q r0 ∧ v = I r0 ∧ Ext w w' := by
 obtain ⟨a, c, rfl⟩ := r.shape
 refine enter (args := [sl a vals c]) 18 Try.func113 rfl rfl rfl ?_
 refine W_forget [(0, sl a vals c)] ⟨rfl, trivial⟩ fun ρ => ?_
 have X := But.refl emp w
 refine W_seq (W_region ?_)
 refine LP_ev ok 0 [(2, I 0)] 1 rfl rfl ?_
 refine LP_end _ rfl (W_seq (W_region ?_))
 refine LP_ev ok 0 [(3, I 0)] 1 rfl rfl ?_
 refine LP_end _ rfl (W_seq ?_)
 refine W_seq (W_region ?_)
 refine LP_ev ok 0 [(6, sl a vals c), (7, I (ln vals)), (8, I 0)] 3 rfl rfl ?_
 refine LP_end _ rfl ?_
 refine W_block ?_
 obtain ⟨J, m, Hx, H⟩ := H
 refine W_loop (S := Int) (fun s ρ' w' => J s ∧ ∃ (ρ : Env), ρ' = setAll [(3, I 0), (6, sl a vals c), (7, I (ln vals)), (8, I s)] ρ ∧ w = w') (fun s => m s) 0 ⟨Hx, _, env_eq ⟨rfl, rfl, rfl, rfl, trivial⟩, rfl⟩ ?_
 rintro x _ _ ⟨Hi, ρ, rfl, rfl⟩
 have H := H x Hi
 refine W_seq (W_region ?_)
 refine LP_ev ok 0 [(9, .bool (decide (x < (ln vals))))] 1 rfl rfl ?_
 refine LP_end _ rfl (W_seq ?_)
 refine W_cond (decide (x < (ln vals))) rfl (fun hc => ?_) (fun hc => ?_)
 ·have H := H.1 hc
  refine W_skip ?_
  refine W_seq ?_
  refine W_block ?_
  refine W_seq (W_region ?_)
  obtain ⟨x1, hi, hx2, H⟩ := H
  refine LP_index 0 rfl rfl rfl Try.underlying25 ti_3 rfl rfl r hi hx2 fun a3 cs r4 d => ?_
  refine LP_load 1 rfl rfl rfl ti_3 ag_3 rfl r4 d ex fun vx5 r6 => ?_
  obtain rfl := r6.int
  refine LP_ev ok 2 [(5, I x1)] 3 rfl rfl ?_
  refine LP_end _ rfl (W_seq (W_region ?_))
  refine LP_ev ok 0 [(12, I x1), (13, I 0), (14, .bool (x1 != 0))] 3 rfl rfl ?_
  refine LP_end _ rfl ?_
  refine W_cond (x1 != 0) rfl (fun hc7 => ?_) (fun hc7 => ?_)
  ·have H := H.1 hc7
   refine W_seq (W_region ?_)
   refine LP_ev ok 0 [(15, I x1), (2, I x1)] 2 rfl rfl ?_
   refine LP_end _ rfl (W_ret ?_)
   exact ⟨_, Ret_of [I x1] ⟨⟨rfl, rfl⟩, trivial⟩, _, H, rfl, X.ext⟩
  have H := H.2 hc7
  refine W_skip ?_
  refine W_region ?_
  refine LP_ev ok 0 [(16, I (wr (x + 1))), (8, I (wr (x + 1)))] 2 rfl rfl ?_
  exact LP_end _ rfl ⟨wr (x + 1), ⟨H.1, _, env_eq ⟨rfl, rfl, rfl, rfl, trivial⟩, rfl⟩, H.2⟩
 have H := H.2 hc
 refine W_exit ?_
 refine (if_pos rfl).mpr ?_
 refine W_seq (W_region ?_)
 refine LP_ev ok 0 [(17, I 0), (2, I 0)] 2 rfl rfl ?_
 refine LP_end _ rfl (W_ret ?_)
 exact ⟨_, Ret_of [I 0] ⟨⟨rfl, rfl⟩, trivial⟩, _, H, rfl, X.ext⟩

theorem impl_leastCover_impl_cheapestChange_1_w (sx : List Variable) (l : List Edit) (values : List Int) (c13 : List Int) (Q : (List Int) → Bool → Prop) (H : impl_leastCover_impl_cheapestChange_1 sx l values c13 Q) (w : World) {vx : Value} {hx : PH} (r : RS hx vx sx) (ex : Sub hx w) {vx1 : Value} {hx2 : PH} (r3 : RS hx2 vx1 l) (ex4 : Sub hx2 w) {vx7 : Value} {hx8 : PH} (r9 : RS hx8 vx7 values) (ex10 : Sub hx8 w) {vx14 : Value} {hx15 : PH} (r16 : RS hx15 vx14 c13) (ex17 : Sub hx15 w) {b : Nat} (ex20 : Sub (bx b 25 [vx14]) w) :
  CallsTo Try.prog 79 #[vx, vx1, vx7, .func (.func 80) #[] #[pb b]] w fun v w' => ∃ r0 r1 u0 g0, Q r0 r1 ∧ v = .tuple #[u0, .bool r1] ∧ Ext w w' ∧ OS 3 g0 emp u0 r0 ∧ Sub g0 w' ∧ Fresh w.heap.size g0 := by
 obtain ⟨a, c, rfl⟩ := r.shape
 obtain ⟨a5, c6, rfl⟩ := r3.shape
 obtain ⟨a11, c12, rfl⟩ := r9.shape
 obtain ⟨a18, c19, rfl⟩ := r16.shape
 refine enter (args := [sl a sx c, sl a5 l c6, sl a11 values c12, .func (.func 80) #[] #[pb b]]) 55 Try.func79 rfl rfl rfl ?_
 refine W_forget [(0, sl a sx c), (1, sl a5 l c6), (2, sl a11 values c12), (3, .func (.func 80) #[] #[pb b])] ⟨rfl, rfl, rfl, rfl, trivial⟩ fun ρ => ?_
 have X := But.refl emp w
 refine W_seq (W_region ?_)
 refine LP_ev ok 0 [(8, .slice none 0 0), (9, .bool false)] 2 rfl rfl ?_
 refine LP_end _ rfl (W_seq (W_region ?_))
 refine LP_ev ok 0 [(10, .slice none 0 0)] 1 rfl rfl ?_
 refine LP_end _ rfl (W_seq (W_region ?_))
 refine LP_ev ok 0 [(11, .bool false)] 1 rfl rfl ?_
 refine LP_end _ rfl (W_seq ?_)
 refine W_seq (W_region ?_)
 refine LP_ev ok 0 [(14, sl a sx c), (15, I (ln sx))] 2 rfl rfl ?_
 obtain ⟨hz, H⟩ := H
 refine LP_val 2 _ rfl rfl (ex_shl rfl rfl rfl hz _) ?_
 refine LP_ev ok 3 [(17, I 0)] 4 rfl rfl ?_
 refine LP_end _ rfl ?_
 refine W_block ?_
 obtain ⟨J, m, Hx, H⟩ := H
 refine W_loop (S := (List Int) × Bool × Int) (fun s ρ' w' => J s.1 s.2.1 s.2.2 ∧ ∃ (ρ : Env) (vx21 : Value) (hx22 : PH), ρ' = setAll [(0, sl a sx c), (1, sl a5 l c6), (2, sl a11 values c12), (3, .func (.func 80) #[] #[pb b]), (10, vx21), (11, .bool s.2.1), (16, I (shl .i64 1 (ln sx))), (17, I s.2.2)] ρ ∧ But emp w w' ∧ OS 3 hx22 emp vx21 s.1 ∧ Sub hx22 w' ∧ Fresh w.heap.size hx22 ∧ Sub hx w' ∧ Sub hx2 w' ∧ Sub hx8 w' ∧ Sub hx15 w' ∧ Sub (bx b 25 [sl a18 c13 c19]) w' ∧ Dj hx22 hx ∧ Dj hx22 hx2 ∧ Dj hx22 hx8 ∧ Dj hx22 hx15 ∧ Dj hx22 (bx b 25 [sl a18 c13 c19])) (fun s => m s.1 s.2.1 s.2.2) ([], false, 0) ⟨Hx, _, .slice none 0 0, emp, env_eq ⟨rfl, rfl, rfl, rfl, rfl, rfl, rfl, rfl, trivial⟩, X, OS.nil, (emp_sub _), (emp_fresh _), ex, ex4, ex10, ex17, ex20, (fun _ => .inl rfl), (fun _ => .inl rfl), (fun _ => .inl rfl), (fun _ => .inl rfl), (fun _ => .inl rfl)⟩ ?_
 rintro ⟨best, found, x⟩ _ wx ⟨Hi, ρ, vx21, hx22, rfl, HF⟩
 revert HF
 refine bb9 fun X35 o ex23 f ex24 ex25 ex26 ex27 => ?_
 refine bb6 fun ex28 d d31 d32 d33 d34 => ?_
 have H := H best found x Hi
 obtain ⟨a29, c30, rfl⟩ := o.shape
 refine W_seq (W_region ?_)
 refine LP_ev ok 0 [(18, .bool (decide (x < (shl .i64 1 (ln sx)))))] 1 rfl rfl ?_
 refine LP_end _ rfl (W_seq ?_)
 refine W_cond (decide (x < (shl .i64 1 (ln sx)))) rfl (fun hc => ?_) (fun hc => ?_)
 ·have H := H.1 hc
  refine W_skip ?_
  obtain ⟨k, hk, H⟩ := jn_elim H
  refine W_join2 (S := (List Int) × Bool) (fun s ρ' w' => k s.1 s.2 ∧ ∃ (ρ : Env) (vx37 : Value) (hx38 : PH), ρ' = setAll [(0, sl a sx c), (1, sl a5 l c6), (2, sl a11 values c12), (3, .func (.func 80) #[] #[pb b]), (10, vx37), (11, .bool s.2), (16, I (shl .i64 1 (ln sx))), (17, I x)] ρ ∧ But emp w w' ∧ OS 3 hx38 emp vx37 s.1 ∧ Sub hx38 w' ∧ Fresh w.heap.size hx38 ∧ Sub hx w' ∧ Sub hx2 w' ∧ Sub hx8 w' ∧ Sub hx15 w' ∧ Sub (bx b 25 [sl a18 c13 c19]) w' ∧ Dj hx38 hx ∧ Dj hx38 hx2 ∧ Dj hx38 hx8 ∧ Dj hx38 hx15 ∧ Dj hx38 (bx b 25 [sl a18 c13 c19])) ?_ ?_
  ·refine W_block ?_
   refine W_seq (W_region ?_)
   refine LP_ev ok 0 [(19, I x), (12, I x)] 2 rfl rfl ?_
   refine LP_end _ rfl (W_seq (W_region ?_))
   refine LP_ev ok 0 [(20, I x)] 1 rfl rfl ?_
   refine LP_call 1 rfl rfl rfl cal_65 rfl (impl_membersOf_w _ _ H wx ) ?_
   rintro _ wx58 ⟨r57, vx60, hx61, H, rfl, x59, o62, ex63, f64⟩
   obtain ⟨a65, c66, rfl⟩ := o62.shape
   refine LP_ev ok 2 [(13, sl a65 r57 c66)] 3 rfl rfl ?_
   refine LP_end _ rfl (W_seq ?_)
   have X67 := (X35.stepx x59)
   have ex68 := (ex24.ext x59)
   have ex69 := (ex25.ext x59)
   have ex70 := (ex26.ext x59)
   have ex71 := (ex27.ext x59)
   have ex72 := (ex28.ext x59)
   have ex73 := (ex23.ext x59)
   have f74 := f64.mono X35.size
   obtain ⟨k85, hk86, H⟩ := jn_elim H
   refine W_join2 (S := Bool) (fun s ρ' w' => k85 s ∧ ∃ (ρ : Env), ρ' = setAll [(0, sl a sx c), (1, sl a5 l c6), (2, sl a11 values c12), (3, .func (.func 80) #[] #[pb b]), (10, sl a29 best c30), (11, .bool found), (13, sl a65 r57 c66), (16, I (shl .i64 1 (ln sx))), (17, I x), (42, .bool s)] ρ ∧ But emp w w' ∧ Sub hx w' ∧ Sub hx2 w' ∧ Sub hx8 w' ∧ Sub hx15 w' ∧ Sub (bx b 25 [sl a18 c13 c19]) w' ∧ Sub hx22 w' ∧ Sub hx61 w') ?_ ?_
   ·refine W_region ?_
    refine LP_ev ok 0 [(22, .bool found), (23, .bool found)] 2 rfl rfl ?_
    refine LP_split 23 (found) rfl (fun hc87 => ?_) (fun hc87 => ?_)
    ·have H := H.1 hc87
     refine LP_ev ok 2 [(24, .func (.func 80) #[] #[pb b]), (25, sl a65 r57 c66)] 4 rfl rfl ?_
     refine LP_callc 4 rfl rfl rfl rfl cal_80 rfl rfl (impl_cheapestChange_1_w _ _ _ H wx58 o62.readf ex63 r16 ex71 ex72) ?_
     rintro _ wx89 ⟨r88, H, rfl, x90⟩
     refine LP_ev ok 5 [(27, .func (.func 80) #[] #[pb b]), (28, sl a29 best c30)] 7 rfl rfl ?_
     have ex92 := (ex73.ext x90)
     have ex93 := (ex71.ext x90)
     have ex94 := (ex72.ext x90)
     refine LP_callc 7 rfl rfl rfl rfl cal_80 rfl rfl (impl_cheapestChange_1_w _ _ _ H wx89 o.readf ex92 r16 ex93 ex94) ?_
     rintro _ wx95 ⟨r91, H, rfl, x96⟩
     refine LP_call 8 rfl rfl rfl cal_114 rfl (cmp_Compare_int_w _ _ _ H wx95 ) ?_
     rintro _ wx98 ⟨r97, H, rfl, x99⟩
     refine LP_ev ok 9 [(31, sl a65 r57 c66), (32, I (ln r57)), (33, sl a29 best c30), (34, I (ln best))] 13 rfl rfl ?_
     refine LP_call 13 rfl rfl rfl cal_114 rfl (cmp_Compare_int_w _ _ _ H wx98 ) ?_
     rintro _ wx101 ⟨r100, H, rfl, x102⟩
     refine LP_ev ok 14 [(36, sl a65 r57 c66), (37, sl a29 best c30)] 16 rfl rfl ?_
     have ex104 := (ex63.ext (((x90.trans x96).trans x99).trans x102))
     have ex106 := (ex92.ext ((x96.trans x99).trans x102))
     refine LP_call 16 rfl rfl rfl cal_115 rfl (slices_Compare_int_int_w _ _ _ H wx101 o62.readf ex104 o.readf ex106) ?_
     rintro _ wx107 ⟨r103, H, rfl, x108⟩
     refine LP_lit (α := Int) (g := emp) 17 (vs := [I r97, I r100, I r103]) (xs := [r97, r100, r103]) rfl rfl rfl Try.underlying25 ti_3 rfl rfl ⟨⟨_, rfl, rfl⟩, ⟨_, rfl, rfl⟩, ⟨_, rfl, rfl⟩, trivial⟩ rfl rfl fun hx109 vx110 wx111 x112 o113 ex114 f115 => ?_
     obtain ⟨a116, c117, rfl⟩ := o113.shape
     refine LP_call 18 rfl rfl rfl cal_113 rfl (cmp_Or_int_w _ _ H wx111 o113.readf ex114) ?_
     rintro _ wx119 ⟨r118, H, rfl, x120⟩
     refine LP_ev ok 19 [(41, .bool (decide (r118 ≥ 0))), (42, .bool (decide (r118 ≥ 0)))] 21 rfl rfl ?_
     refine LP_end _ rfl ?_
     try refine W_forget [(0, sl a sx c), (1, sl a5 l c6), (2, sl a11 values c12), (3, .func (.func 80) #[] #[pb b]), (10, sl a29 best c30), (11, .bool found), (13, sl a65 r57 c66), (16, I (shl .i64 1 (ln sx))), (17, I x), (24, .func (.func 80) #[] #[pb b]), (25, sl a65 r57 c66), (26, I r88), (27, .func (.func 80) #[] #[pb b]), (28, sl a29 best c30), (29, I r91), (30, I r97), (31, sl a65 r57 c66), (32, I (ln r57)), (33, sl a29 best c30), (34, I (ln best)), (35, I r100), (36, sl a65 r57 c66), (37, sl a29 best c30), (38, I r103), (39, .slice a116 (List.length ([r97, r100, r103])) c117), (40, I r118), (41, .bool (decide (r118 ≥ 0))), (42, .bool (decide (r118 ≥ 0)))] ⟨rfl, rfl, rfl, rfl, rfl, rfl, rfl, rfl, rfl, rfl, rfl, rfl, rfl, rfl, rfl, rfl, rfl, rfl, rfl, rfl, rfl, rfl, rfl, rfl, rfl, rfl, rfl, rfl, trivial⟩ fun ρ => ?_
     have xc121 := ((((((x90.trans x96).trans x99).trans x102).trans x108).trans x112).trans x120)
     have xc126 := (((((x96.trans x99).trans x102).trans x108).trans x112).trans x120)
     have xc129 := ((x108.trans x112).trans x120)
     exact ⟨decide (r118 ≥ 0), H, _, env_eq ⟨rfl, rfl, rfl, rfl, rfl, rfl, rfl, rfl, rfl, rfl, trivial⟩, (X67.stepx xc121), (ex68.ext xc121), (ex69.ext xc121), (ex70.ext xc121), (ex93.ext xc126), (ex94.ext xc126), (ex106.ext xc129), (ex104.ext xc129)⟩
    have H := H.2 hc87
    refine LP_ev ok 2 [(24, undef), (25, undef), (26, undef), (27, undef), (28, undef), (29, undef), (30, undef), (31, undef), (32, undef), (33, undef), (34, undef), (35, undef), (36, undef), (37, undef), (38, undef), (39, undef), (40, undef), (41, undef), (42, .bool false)] 21 rfl rfl ?_
    refine LP_end _ rfl ?_
    try refine W_forget [(0, sl a sx c), (1, sl a5 l c6), (2, sl a11 values c12), (3, .func (.func 80) #[] #[pb b]), (10, sl a29 best c30), (11, .bool found), (13, sl a65 r57 c66), (16, I (shl .i64 1 (ln sx))), (17, I x), (42, .bool false)] ⟨rfl, rfl, rfl, rfl, rfl, rfl, rfl, rfl, rfl, rfl, trivial⟩ fun ρ => ?_
    exact ⟨false, H, _, env_eq ⟨rfl, rfl, rfl, rfl, rfl, rfl, rfl, rfl, rfl, rfl, trivial⟩, X67, ex68, ex69, ex70, ex71, ex72, ex73, ex63⟩
   rintro x75 _ wx76 ⟨H, ρ, rfl, HF⟩
   revert HF
   refine bb8 fun X84 ex77 ex78 ex79 ex80 ex81 ex82 ex83 => ?_
   subst hk86
   refine W_cond (x75) rfl (fun hc132 => ?_) (fun hc132 => ?_)
   ·have H := H.1 hc132
    refine W_exit ?_
    refine (if_pos rfl).mpr ?_
    exact ⟨(best, found), H, _, sl a29 best c30, hx22, env_eq ⟨rfl, rfl, rfl, rfl, rfl, rfl, rfl, rfl, trivial⟩, X84, o, ex82, f, ex77, ex78, ex79, ex80, ex81, d, d31, d32, d33, d34⟩
   have H := H.2 hc132
   refine W_skip ?_
   refine W_seq (W_region ?_)
   refine LP_ev ok 0 [(43, sl a sx c), (44, sl a5 l c6), (45, sl a sx c), (46, sl a65 r57 c66)] 4 rfl rfl ?_
   refine LP_call 4 rfl rfl rfl cal_34 rfl (impl_otherVars_w _ _ _ H wx76 r ex77 o62.readf ex83) ?_
   rintro _ wx134 ⟨r133, vx136, hx137, H, rfl, x135, o138, ex139, f140⟩
   obtain ⟨a141, c142, rfl⟩ := o138.shape
   refine LP_ev ok 5 [(48, sl a11 values c12)] 6 rfl rfl ?_
   have ex144 := (ex77.ext x135)
   have ex145 := (ex78.ext x135)
   have ex146 := (ex79.ext x135)
   refine LP_call 6 rfl rfl rfl cal_33 rfl (impl_completionOf_w _ _ _ _ _ H wx134 r ex144 r3 ex145 o138.readf ex139 r9 ex146) ?_
   rintro _ wx147 ⟨r143, vx149, hx150, H, rfl, x148, o151, ex152, f153, cn⟩
   obtain ⟨a154, c155, rfl⟩ := o151.shape
   refine LP_val 7 _ rfl rfl (ex_nenilc rfl Try.underlying25 rfl rfl (cn _ _ _ rfl) _) ?_
   refine LP_end _ rfl ?_
   refine W_cond (!(ln r143 == 0)) rfl (fun hc156 => ?_) (fun hc156 => ?_)
   ·have H := H.1 hc156
    refine W_region ?_
    refine LP_ev ok 0 [(51, sl a65 r57 c66), (10, sl a65 r57 c66), (11, .bool true)] 3 rfl rfl ?_
    refine LP_end _ rfl ?_
    have xc157 := (x135.trans x148)
    exact ⟨(r57, true), H, _, sl a65 r57 c66, hx61, env_eq ⟨rfl, rfl, rfl, rfl, rfl, rfl, rfl, rfl, trivial⟩, (X84.stepx xc157), o62, (ex83.ext xc157), f74, (ex144.ext x148), (ex145.ext x148), (ex146.ext x148), (ex80.ext xc157), (ex81.ext xc157), (Dj.of_fresh ex24 f64).symm, (Dj.of_fresh ex25 f64).symm, (Dj.of_fresh ex26 f64).symm, (Dj.of_fresh ex27 f64).symm, (Dj.of_fresh ex28 f64).symm⟩
   have H := H.2 hc156
   refine W_skip ?_
   have xc165 := (x135.trans x148)
   exact ⟨(best, found), H, _, sl a29 best c30, hx22, env_eq ⟨rfl, rfl, rfl, rfl, rfl, rfl, rfl, rfl, trivial⟩, (X84.stepx xc165), o, (ex82.ext xc165), f, (ex144.ext x148), (ex145.ext x148), (ex146.ext x148), (ex80.ext xc165), (ex81.ext xc165), d, d31, d32, d33, d34⟩
  rintro ⟨best36, found42⟩ _ wx43 ⟨H, ρ, vx37, hx38, rfl, HF⟩
  revert HF
  refine bb9 fun X56 o39 ex40 f41 ex44 ex45 ex46 ex47 => ?_
  refine bb6 fun ex48 d51 d52 d53 d54 d55 => ?_
  subst hk
  obtain ⟨a49, c50, rfl⟩ := o39.shape
  refine W_region ?_
  refine LP_ev ok 0 [(52, I (wr (x + 1))), (17, I (wr (x + 1)))] 2 rfl rfl ?_
  exact LP_end _ rfl ⟨(best36, found42, wr (x + 1)), ⟨H.1, _, sl a49 best36 c50, hx38, env_eq ⟨rfl, rfl, rfl, rfl, rfl, rfl, rfl, rfl, trivial⟩, X56, o39, ex40, f41, ex44, ex45, ex46, ex47, ex48, d51, d52, d53, d54, d55⟩, H.2⟩
 have H := H.2 hc
 refine W_exit ?_
 refine (if_pos rfl).mpr ?_
 refine W_seq (W_region ?_)
 refine LP_ev ok 0 [(53, sl a29 best c30), (54, .bool found), (8, sl a29 best c30), (9, .bool found)] 4 rfl rfl ?_
 refine LP_end _ rfl (W_ret ?_)
 exact ⟨_, Ret_of [sl a29 best c30, .bool found] ⟨⟨rfl, rfl⟩, ⟨rfl, rfl⟩, trivial⟩, _, _, _, _, H, rfl, X35.ext, o, ex23, f⟩

theorem impl_cheapestChange_w (sx : List Variable) (l : List Edit) (weights : List Int) (values : List Int) (Q : (List Int) → Bool → Prop) (H : impl_cheapestChange sx l weights values Q) (w : World) {vx : Value} {hx : PH} (r : RS hx vx sx) (ex : Sub hx w) {vx1 : Value} {hx2 : PH} (r3 : RS hx2 vx1 l) (ex4 : Sub hx2 w) {vx7 : Value} {hx8 : PH} (r9 : RS hx8 vx7 weights) (ex10 : Sub hx8 w) {vx13 : Value} {hx14 : PH} (r15 : RS hx14 vx13 values) (ex16 : Sub hx14 w) :
  CallsTo Try.prog 32 #[vx, vx1, vx7, vx13] w fun v w' => ∃ r0 r1 u0 g0, Q r0 r1 ∧ v = .tuple #[u0, .bool r1] ∧ Ext w w' ∧ OS 3 g0 emp u0 r0 ∧ Sub g0 w' ∧ Fresh w.heap.size g0 := by
 obtain ⟨a, c, rfl⟩ := r.shape
 obtain ⟨a5, c6, rfl⟩ := r3.shape
 obtain ⟨a11, c12, rfl⟩ := r9.shape
 obtain ⟨a17, c18, rfl⟩ := r15.shape
 refine enter (args := [sl a sx c, sl a5 l c6, sl a11 weights c12, sl a17 values c18]) 17 Try.func32 rfl rfl rfl ?_
 refine W_forget [(0, sl a sx c), (1, sl a5 l c6), (2, sl a11 weights c12), (3, sl a17 values c18)] ⟨rfl, rfl, rfl, rfl, trivial⟩ fun ρ => ?_
 have X := But.refl emp w
 refine W_seq (W_region ?_)
 refine LP_box 0 (cs := [sl a11 weights c12]) rfl rfl rfl rfl rfl fun b wx x ex19 f => ?_
 refine LP_ev ok 1 [(8, .slice none 0 0), (9, .bool false)] 3 rfl rfl ?_
 refine LP_end _ rfl (W_seq (W_region ?_))
 refine LP_ev ok 0 [(10, sl a sx c), (11, sl a5 l c6), (12, sl a17 values c18), (13, .func (.func 80) #[] #[pb b])] 4 rfl rfl ?_
 refine LP_call 4 rfl rfl rfl cal_79 rfl (impl_leastCover_impl_cheapestChange_1_w _ _ _ _ _ H wx r (ex.ext x) r3 (ex4.ext x) r15 (ex16.ext x) r9 (ex10.ext x) ex19) ?_
 rintro _ wx26 ⟨r20, r21, vx28, hx29, H, rfl, x27, o, ex30, f31⟩
 obtain ⟨a32, c33, rfl⟩ := o.shape
 refine LP_ev ok 5 [(15, sl a32 r20 c33), (16, .bool r21), (8, sl a32 r20 c33), (9, .bool r21)] 9 rfl rfl ?_
 refine LP_end _ rfl (W_ret ?_)
 have X35 := (X.stepx x)
 have f34 := f31.mono X35.size
 exact ⟨_, Ret_of [sl a32 r20 c33, .bool r21] ⟨⟨rfl, rfl⟩, ⟨rfl, rfl⟩, trivial⟩, _, _, _, _, H, rfl, (X35.stepx x27).ext, o, ex30, f34⟩

theorem impl_MendData_w (sx : List Variable) (l : List Edit) (weights : List Int) (data : List Record) (Q : (List Record) → (List Int) → Bool → Prop) (H : impl_MendData sx l weights data Q) (w : World) {vx : Value} {hx : PH} (r : RS hx vx sx) (ex : Sub hx w) {vx1 : Value} {hx2 : PH} (r3 : RS hx2 vx1 l) (ex4 : Sub hx2 w) {vx7 : Value} {hx8 : PH} (r9 : RS hx8 vx7 weights) (ex10 : Sub hx8 w) {vx13 : Value} {hx14 : PH} (r15 : RS hx14 vx13 data) (ex16 : Sub hx14 w) :
  CallsTo Try.prog 6 #[vx, vx1, vx7, vx13] w fun v w' => ∃ r0 r1 r2 u0 g0 u1 g1, Q r0 r1 r2 ∧ v = .tuple #[u0, u1, .bool r2] ∧ Ext w w' ∧ OD g0 u0 r0 ∧ Sub g0 w' ∧ Fresh w.heap.size g0 ∧ OS 3 g1 emp u1 r1 ∧ Sub g1 w' ∧ Fresh w.heap.size g1 ∧ Dj g0 g1 := by
 obtain ⟨a, c, rfl⟩ := r.shape
 obtain ⟨a5, c6, rfl⟩ := r3.shape
 obtain ⟨a11, c12, rfl⟩ := r9.shape
 obtain ⟨a17, c18, rfl⟩ := r15.shape
 refine enter (args := [sl a sx c, sl a5 l c6, sl a11 weights c12, sl a17 data c18]) 77 Try.func6 rfl rfl rfl ?_
 refine W_forget [(0, sl a sx c), (1, sl a5 l c6), (2, sl a11 weights c12), (3, sl a17 data c18)] ⟨rfl, rfl, rfl, rfl, trivial⟩ fun ρ => ?_
 have X := But.refl emp w
 refine W_seq (W_region ?_)
 refine LP_ev ok 0 [(8, .slice none 0 0), (9, .slice none 0 0), (10, .bool false)] 3 rfl rfl ?_
 refine LP_end _ rfl (W_seq ?_)
 obtain ⟨k, hk, H⟩ := jn_elim H
 refine W_join2 (S := Bool) (fun s ρ' w' => k s ∧ ∃ (ρ : Env), ρ' = setAll [(0, sl a sx c), (1, sl a5 l c6), (2, sl a11 weights c12), (3, sl a17 data c18), (27, .bool s)] ρ ∧ But emp w w' ∧ Sub hx w' ∧ Sub hx2 w' ∧ Sub hx8 w' ∧ Sub hx14 w') ?_ ?_
 ·refine W_region ?_
  refine LP_ev ok 0 [(17, sl a sx c), (18, sl a5 l c6), (19, sl a11 weights c12)] 3 rfl rfl ?_
  refine LP_call 3 rfl rfl rfl cal_28 rfl (impl_isMendable_w _ _ _ _ H w r ex r3 ex4 r9 ex10) ?_
  rintro _ wx25 ⟨r24, H, rfl, x26⟩
  refine LP_ev ok 4 [(21, .bool (!r24)), (22, .bool (!r24))] 6 rfl rfl ?_
  refine LP_split 22 (!r24) rfl (fun hc => ?_) (fun hc => ?_)
  ·have H := H.1 hc
   refine LP_ev ok 6 [(23, undef), (24, undef), (25, undef), (26, undef), (27, .bool true)] 11 rfl rfl ?_
   exact LP_end _ rfl ⟨true, H, _, env_eq ⟨rfl, rfl, rfl, rfl, rfl, trivial⟩, (X.stepx x26), (ex.ext x26), (ex4.ext x26), (ex10.ext x26), (ex16.ext x26)⟩
  have H := H.2 hc
  refine LP_ev ok 6 [(23, sl a sx c), (24, sl a17 data c18)] 8 rfl rfl ?_
  have ex33 := (ex.ext x26)
  have ex34 := (ex16.ext x26)
  refine LP_call 8 rfl rfl rfl cal_29 rfl (impl_isData_w _ _ _ H wx25 r ex33 r15 ex34) ?_
  rintro _ wx35 ⟨r32, H, rfl, x36⟩
  refine LP_ev ok 9 [(26, .bool (!r32)), (27, .bool (!r32))] 11 rfl rfl ?_
  refine LP_end _ rfl ?_
  have xc := (x26.trans x36)
  exact ⟨!r32, H, _, env_eq ⟨rfl, rfl, rfl, rfl, rfl, trivial⟩, (X.stepx xc), (ex33.ext x36), (ex4.ext xc), (ex10.ext xc), (ex34.ext x36)⟩
 rintro x _ wx ⟨H, ρ, rfl, HF⟩
 revert HF
 refine bb5 fun X23 ex19 ex20 ex21 ex22 => ?_
 subst hk
 refine W_cond (x) rfl (fun hc42 => ?_) (fun hc42 => ?_)
 ·have H := H.1 hc42
  refine W_seq (W_region ?_)
  refine LP_ev ok 0 [(8, .slice none 0 0), (9, .slice none 0 0), (10, .bool false)] 3 rfl rfl ?_
  refine LP_end _ rfl (W_ret ?_)
  exact ⟨_, Ret_of [.slice none 0 0, .slice none 0 0, .bool false] ⟨⟨rfl, rfl⟩, ⟨rfl, rfl⟩, ⟨rfl, rfl⟩, trivial⟩, _, _, _, _, emp, _, emp, H, rfl, X23.ext, OD.nil, (emp_sub _), (emp_fresh _), OS.nil, (emp_sub _), (emp_fresh _), (Dj.emp_l _)⟩
 have H := H.2 hc42
 refine W_skip ?_
 refine W_seq (W_region ?_)
 refine LP_ev ok 0 [(28, sl a17 data c18)] 1 rfl rfl ?_
 refine LP_call 1 rfl rfl rfl cal_30 rfl (impl_copyRecords_w _ _ H wx r15 ex22) ?_
 rintro _ wx44 ⟨r43, vx46, hx47, H, rfl, x45, o, ex48, f⟩
 obtain ⟨a49, c50, rfl⟩ := o.shape
 refine LP_ev ok 2 [(11, sl a49 r43 c50)] 3 rfl rfl ?_
 refine LP_end _ rfl (W_seq (W_region ?_))
 refine LP_ev ok 0 [(30, sl a17 data c18), (31, I (ln data))] 2 rfl rfl ?_
 obtain ⟨hn, hb, H⟩ := H
 refine LP_make (α := Int) 2 rfl rfl rfl Try.underlying25 ti_3 (x0 := (0 : Int)) rfl rfl hn (by first | omega | (simp only [ln] at *; omega)) (by first | omega | (simp only [ln] at *; omega)) fun hx51 vx52 wx53 x54 o55 ex56 f57 => ?_
 obtain ⟨a58, c59, rfl⟩ := o55.shape
 refine LP_ev ok 3 [(12, .slice a58 (List.length (List.replicate (Int.toNat (ln data)) ((0 : Int)))) c59)] 4 rfl rfl ?_
 refine LP_end _ rfl (W_seq ?_)
 refine W_seq (W_region ?_)
 refine LP_ev ok 0 [(33, sl a17 data c18), (34, I (ln data)), (35, I 0)] 3 rfl rfl ?_
 refine LP_end _ rfl ?_
 refine W_block ?_
 have xc85 := (x45.trans x54)
 have f88 := f.mono X23.size
 have f89 := f57.mono (X23.stepx x45).size
 obtain ⟨J, m, Hx, H⟩ := H
 refine W_loop (S := (List Record) × (List Int) × Int) (fun s ρ' w' => J s.1 s.2.1 s.2.2 ∧ ∃ (ρ : Env) (hx61 : PH) (hx66 : PH), ρ' = setAll [(0, sl a sx c), (1, sl a5 l c6), (2, sl a11 weights c12), (11, sl a49 r43 c50), (12, .slice a58 (List.length (List.replicate (Int.toNat (ln data)) ((0 : Int)))) c59), (33, sl a17 data c18), (34, I (ln data)), (35, I s.2.2)] ρ ∧ But emp w w' ∧ OD hx61 (sl a49 r43 c50) s.1 ∧ Sub hx61 w' ∧ Fresh w.heap.size hx61 ∧ OS 3 hx66 emp (.slice a58 (List.length (List.replicate (Int.toNat (ln data)) ((0 : Int)))) c59) s.2.1 ∧ Sub hx66 w' ∧ Fresh w.heap.size hx66 ∧ Sub hx w' ∧ Sub hx2 w' ∧ Sub hx8 w' ∧ Sub hx14 w' ∧ Dj hx61 hx ∧ Dj hx61 hx2 ∧ Dj hx61 hx8 ∧ Dj hx61 hx14 ∧ Dj hx66 hx ∧ Dj hx66 hx2 ∧ Dj hx66 hx8 ∧ Dj hx66 hx14 ∧ Dj hx66 hx61) (fun s => m s.1 s.2.1 s.2.2) (r43, List.replicate (Int.toNat (ln data)) ((0 : Int)), 0) ⟨Hx, _, hx47, hx51, env_eq ⟨rfl, rfl, rfl, rfl, rfl, rfl, rfl, rfl, trivial⟩, (X23.stepx xc85), o, (ex48.ext x54), f88, o55, ex56, f89, (ex19.ext xc85), (ex20.ext xc85), (ex21.ext xc85), (ex22.ext xc85), (Dj.of_fresh ex19 f).symm, (Dj.of_fresh ex20 f).symm, (Dj.of_fresh ex21 f).symm, (Dj.of_fresh ex22 f).symm, (Dj.of_fresh (ex19.ext x45) f57).symm, (Dj.of_fresh (ex20.ext x45) f57).symm, (Dj.of_fresh (ex21.ext x45) f57).symm, (Dj.of_fresh (ex22.ext x45) f57).symm, (Dj.of_fresh ex48 f57).symm⟩ ?_
 rintro ⟨mended, costs, x70⟩ _ wx71 ⟨Hi, ρ, hx61, hx66, rfl, HF⟩
 revert HF
 refine bb9 fun X84 o62 ex63 f64 o67 ex68 f69 ex72 => ?_
 refine bb9 fun ex73 ex74 ex75 d d76 d77 d78 d79 => ?_
 refine bb4 fun d80 d81 d82 d83 => ?_
 have H := H mended costs x70 Hi
 refine W_seq (W_region ?_)
 refine LP_ev ok 0 [(36, .bool (decide (x70 < (ln data))))] 1 rfl rfl ?_
 refine LP_end _ rfl (W_seq ?_)
 refine W_cond (decide (x70 < (ln data))) rfl (fun hc99 => ?_) (fun hc99 => ?_)
 ·have H := H.1 hc99
  refine W_skip ?_
  obtain ⟨k127, hk128, H⟩ := jn_elim H
  refine W_join2 (S := (List Record) × (List Int)) (fun s ρ' w' => k127 s.1 s.2 ∧ ∃ (ρ : Env) (hx102 : PH) (hx108 : PH), ρ' = setAll [(0, sl a sx c), (1, sl a5 l c6), (2, sl a11 weights c12), (11, sl a49 r43 c50), (12, .slice a58 (List.length (List.replicate (Int.toNat (ln data)) ((0 : Int)))) c59), (33, sl a17 data c18), (34, I (ln data)), (35, I x70)] ρ ∧ But emp w w' ∧ OD hx102 (sl a49 r43 c50) s.1 ∧ Sub hx102 w' ∧ Fresh w.heap.size hx102 ∧ OS 3 hx108 emp (.slice a58 (List.length (List.replicate (Int.toNat (ln data)) ((0 : Int)))) c59) s.2 ∧ Sub hx108 w' ∧ Fresh w.heap.size hx108 ∧ Sub hx w' ∧ Sub hx2 w' ∧ Sub hx8 w' ∧ Sub hx14 w' ∧ Dj hx102 hx ∧ Dj hx102 hx2 ∧ Dj hx102 hx8 ∧ Dj hx102 hx14 ∧ Dj hx108 hx ∧ Dj hx108 hx2 ∧ Dj hx108 hx8 ∧ Dj hx108 hx14 ∧ Dj hx108 hx102) ?_ ?_
  ·refine W_block ?_
   refine W_seq (W_region ?_)
   refine LP_ev ok 0 [(37, I x70)] 1 rfl rfl ?_
   obtain ⟨x129, hi, hx130, H⟩ := H
   refine LP_index 1 rfl rfl rfl Try.underlying26 ti_40 rfl rfl r15 hi hx130 fun a131 cs r132 d133 => ?_
   have d134 := d133
   obtain ⟨u, rfl, r135⟩ := Record_rd d134
   obtain ⟨a136, c137, rfl⟩ := r135.shape
   refine LP_load 2 rfl rfl rfl ti_40 ag_40 rfl r132 d133 ex75 fun vx138 r139 => ?_
   obtain ⟨u140, rfl, r141⟩ := Record_rv r139
   obtain ⟨a142, c143, rfl⟩ := r141.shape
   refine LP_alloc 3 rfl rfl rfl ti_40 rfl fun b wx144 x145 ex146 f147 => ?_
   refine LP_ev ok 4 [(13, I x70)] 5 rfl rfl ?_
   refine LP_stbox 5 (vs := [I x129.Area, I x129.House, sl a142 x129.Values c143]) (cs' := [I x129.Area, I x129.House, sl a142 x129.Values c143]) rfl rfl rfl ti_40 rfl rfl rfl rfl rfl ex146 rfl rfl fun wx148 ex149 y => ?_
   refine LP_end _ rfl (W_seq ?_)
   refine W_seq (W_region ?_)
   refine LP_ev ok 0 [(40, sl a5 l c6), (41, .pointer (some ⟨b, 2, none⟩))] 2 rfl rfl ?_
   refine LP_ldbox 2 (v := sl a142 x129.Values c143) rfl rfl rfl ti_25 ag_25 (fun _ => rfl) rfl ex149 rfl rfl ?_
   have ex151 := ((ex73.ext x145).but y (Dj.of_fresh ex73 f147).symm)
   have ex152 := ((ex75.ext x145).but y (Dj.of_fresh ex75 f147).symm)
   refine LP_call 3 rfl rfl rfl cal_31 rfl (impl_failsOne_w _ _ _ H wx148 r3 ex151 r141 ex152) ?_
   rintro _ wx153 ⟨r150, H, rfl, x154⟩
   refine LP_ev ok 4 [(44, .bool (!r150))] 5 rfl rfl ?_
   refine LP_end _ rfl ?_
   refine W_cond (!r150) rfl (fun hc155 => ?_) (fun hc155 => ?_)
   ·have H := H.1 hc155
    refine W_exit ?_
    refine (if_pos rfl).mpr ?_
    have f156 := f147.mono X84.size
    exact ⟨(mended, costs), H, _, hx61, hx66, env_eq ⟨rfl, rfl, rfl, rfl, rfl, rfl, rfl, rfl, trivial⟩, (((X84.stepx x145).step y (f156.dom _)).stepx x154), o62, (((ex63.ext x145).but y (Dj.of_fresh ex63 f147).symm).ext x154), f64, o67, (((ex68.ext x145).but y (Dj.of_fresh ex68 f147).symm).ext x154), f69, (((ex72.ext x145).but y (Dj.of_fresh ex72 f147).symm).ext x154), (ex151.ext x154), (((ex74.ext x145).but y (Dj.of_fresh ex74 f147).symm).ext x154), (ex152.ext x154), d, d76, d77, d78, d79, d80, d81, d82, d83⟩
   have H := H.2 hc155
   refine W_skip ?_
   refine W_seq (W_region ?_)
   refine LP_ev ok 0 [(46, sl a sx c), (47, sl a5 l c6), (48, sl a11 weights c12), (49, .pointer (some ⟨b, 2, none⟩))] 4 rfl rfl ?_
   have ex164 := (ex149.ext x154)
   refine LP_ldbox 4 (v := sl a142 x129.Values c143) rfl rfl rfl ti_25 ag_25 (fun _ => rfl) rfl ex164 rfl rfl ?_
   have ex167 := (((ex72.ext x145).but y (Dj.of_fresh ex72 f147).symm).ext x154)
   have ex168 := (ex151.ext x154)
   have ex169 := (((ex74.ext x145).but y (Dj.of_fresh ex74 f147).symm).ext x154)
   have ex170 := (ex152.ext x154)
   refine LP_call 5 rfl rfl rfl cal_32 rfl (impl_cheapestChange_w _ _ _ _ _ H wx153 r ex167 r3 ex168 r9 ex169 r141 ex170) ?_
   rintro _ wx171 ⟨r165, r166, vx173, hx174, H, rfl, x172, o175, ex176, f177⟩
   obtain ⟨a178, c179, rfl⟩ := o175.shape
   refine LP_ev ok 6 [(45, .tuple #[sl a178 r165 c179, .bool r166]), (52, sl a178 r165 c179), (53, .bool r166), (15, sl a178 r165 c179), (16, .bool r166)] 11 rfl rfl ?_
   refine LP_end _ rfl (W_seq ?_)
   refine W_seq (W_region ?_)
   refine LP_ev ok 0 [(54, .bool r166), (55, .bool (!r166))] 2 rfl rfl ?_
   refine LP_end _ rfl ?_
   try refine W_forget [(0, sl a sx c), (1, sl a5 l c6), (2, sl a11 weights c12), (11, sl a49 r43 c50), (12, .slice a58 (List.length (List.replicate (Int.toNat (ln data)) ((0 : Int)))) c59), (13, I x70), (14, pb b), (15, sl a178 r165 c179), (33, sl a17 data c18), (34, I (ln data)), (35, I x70), (55, .bool (!r166))] ⟨rfl, rfl, rfl, rfl, rfl, rfl, rfl, rfl, rfl, rfl, rfl, rfl, trivial⟩ fun ρ => ?_
   refine W_cond (!r166) rfl (fun hc180 => ?_) (fun hc180 => ?_)
   ·have H := H.1 hc180
    refine W_seq (W_region ?_)
    refine LP_ev ok 0 [(8, .slice none 0 0), (9, .slice none 0 0), (10, .bool false)] 3 rfl rfl ?_
    refine LP_end _ rfl (W_ret ?_)
    have f181 := f147.mono X84.size
    exact ⟨_, Ret_of [.slice none 0 0, .slice none 0 0, .bool false] ⟨⟨rfl, rfl⟩, ⟨rfl, rfl⟩, ⟨rfl, rfl⟩, trivial⟩, _, _, _, _, emp, _, emp, H, rfl, (((X84.stepx x145).step y (f181.dom _)).stepx (x154.trans x172)).ext, OD.nil, (emp_sub _), (emp_fresh _), OS.nil, (emp_sub _), (emp_fresh _), (Dj.emp_l _)⟩
   have H := H.2 hc180
   refine W_skip ?_
   refine W_seq ?_
   refine W_open mix fun wx184 x185 => ?_
   refine AP_game 10 [[], [], [], [], [], [], [4, 5], [], [7], [2, 3, 4, 5, 6, 7, 8], [0, 1, 2, 3, 4, 5, 6, 7, 8, 9], [0, 1, 2, 3, 4, 5, 6, 7, 8, 9, 10], [0, 1, 2, 3, 4, 5, 6, 7, 8, 9, 10, 11]] [[(11, none)], [(13, none)], [(0, none)], [(1, none)], [(0, none)], [(15, none)], [(60, some 4), (61, some 5)], [(14, none)], [(63, some 7)], [(58, some 2), (59, some 3), (62, some 6), (64, some 8)]] [(0, none), (1, none), (2, none), (11, none), (12, none), (13, none), (15, none), (33, none), (34, none), (35, none), (56, some 0), (57, some 1), (65, some 9)] [(0, false), (1, false), (2, false), (3, false), (4, false), (5, false), (7, false), (8, false), (6, true), (9, true)] (by kernel_rfl) (by kernel_rfl) ?_
   refine GS_ev ok [(11, sl a49 r43 c50)] (sl a49 r43 c50) rfl rfl (fun _ h => h) (fun _ => rfl) ?_
   refine GS_ev ok [(13, I x70)] (I x70) rfl rfl (fun _ h => h) (fun _ => rfl) ?_
   refine GS_ev ok [(0, sl a sx c)] (sl a sx c) rfl rfl (fun _ h => h) (fun _ => rfl) ?_
   refine GS_ev ok [(1, sl a5 l c6)] (sl a5 l c6) rfl rfl (fun _ h => h) (fun _ => rfl) ?_
   refine GS_ev ok [(0, sl a sx c)] (sl a sx c) rfl rfl (fun _ h => h) (fun _ => rfl) ?_
   refine GS_ev ok [(15, sl a178 r165 c179)] (sl a178 r165 c179) rfl rfl (fun _ h => h) (fun _ => rfl) ?_
   refine GS_ev ok [(14, pb b)] (.pointer (some ⟨b, 2, none⟩)) rfl rfl (fun _ h => h) (fun _ => rfl) ?_
   have xc186 := (x172.trans x185)
   have ex187 := (ex164.ext xc186)
   refine GS_r1 [(63, .pointer (some ⟨b, 2, none⟩))] (sl a142 x129.Values c143) rfl rfl (fun _ h => h) (fun _ w e => ex_ldbox rfl ti_25 ag_25 (fun _ => rfl) rfl e rfl rfl) ex187 ?_
   refine GS_lp [(60, sl a sx c), (61, sl a178 r165 c179)] rfl rfl (fun _ h => h) rfl fun ρ wx188 x189 => ?_
   have ex192 := (ex167.ext (xc186.trans x189))
   have ex194 := (ex176.ext (x185.trans x189))
   refine LP_call 0 rfl rfl rfl cal_34 rfl (impl_otherVars_w _ _ _ H wx188 r ex192 o175.readf ex194) ?_
   rintro _ wx195 ⟨r190, vx197, hx198, H, rfl, x196, o199, ex200, f201⟩
   obtain ⟨a202, c203, rfl⟩ := o199.shape
   refine LP_gs ⟨⟨.inr (ex187.ext (x189.trans x196)), trivial⟩, ?_⟩
   refine GS_lp [(58, sl a sx c), (59, sl a5 l c6), (62, sl a202 r190 c203), (64, sl a142 x129.Values c143)] rfl rfl (fun _ h => h) rfl fun ρ wx206 x207 => ?_
   have ex210 := (ex192.ext (x196.trans x207))
   have xc211 := ((((x172.trans x185).trans x189).trans x196).trans x207)
   have ex212 := (ex168.ext xc211)
   have ex214 := (ex170.ext xc211)
   refine LP_call 0 rfl rfl rfl cal_33 rfl (impl_completionOf_w _ _ _ _ _ H wx206 r ex210 r3 ex212 o199.readf (ex200.ext x207) r141 ex214) ?_
   rintro _ wx215 ⟨r208, vx217, hx218, H, rfl, x216, o219, ex220, f221, cn⟩
   obtain ⟨a222, c223, rfl⟩ := o219.shape
   refine LP_gs ⟨⟨.inl rfl, trivial⟩, ?_⟩
   intro wx224 x225 ρ hn226
   refine AP_forget [(0, sl a sx c), (1, sl a5 l c6), (2, sl a11 weights c12), (11, sl a49 r43 c50), (12, .slice a58 (List.length (List.replicate (Int.toNat (ln data)) ((0 : Int)))) c59), (13, I x70), (15, sl a178 r165 c179), (33, sl a17 data c18), (34, I (ln data)), (35, I x70), (56, sl a49 r43 c50), (57, I x70), (65, sl a222 r208 c223)] (by exact hn226) fun ρ => ?_
   refine AP_tail 10 [[], [], [], [], [], [], [4, 5], [], [7], [2, 3, 4, 5, 6, 7, 8], [0, 1, 2, 3, 4, 5, 6, 7, 8, 9], [0, 1, 2, 3, 4, 5, 6, 7, 8, 9, 10], [0, 1, 2, 3, 4, 5, 6, 7, 8, 9, 10, 11]] (by kernel_rfl) ?_
   obtain ⟨x227, hi228, hx229, H⟩ := H
   refine LP_indexH (v := sl a49 r43 c50) 10 rfl rfl rfl Try.underlying26 ti_40 rfl rfl o62 hi228 hx229 fun a230 c231 hx232 rest ha hb233 => ?_
   refine LP_ev ok 11 [(67, .pointer (some (Addr.add a230 2)))] 12 rfl rfl ?_
   obtain ⟨u234, hx235, rs, rfl, fs⟩ := Record_hb2 hb233.own
   obtain ⟨ho, l236, l237, d238, o239, l240⟩ := Hole.of hb233 fs
   have xc241 := (((((((x154.trans x172).trans x185).trans x189).trans x196).trans x207).trans x216).trans x225)
   have ex243 := Sub.le (((ex63.ext x145).but y (Dj.of_fresh ex63 f147).symm).ext xc241) l237
   have xc250 := (((((x154.trans x172).trans x185).trans x189).trans x196).trans x207)
   refine LP_fill 12 rfl rfl rfl ti_25 rfl rfl rfl rfl ho (OS.od o219) (Dom.dj (Dom.of_le l237) (Dj.of_fresh (((ex63.ext x145).but y (Dj.of_fresh ex63 f147).symm).ext xc250) f221)).symm ex243 (ex220.ext x225) fun q wx245 o246 ex247 y248 dm ex249 => ?_
   refine LP_end _ rfl ?_
   refine W_region ?_
   refine LP_ev ok 0 [(68, .slice a58 (List.length (List.replicate (Int.toNat (ln data)) ((0 : Int)))) c59), (69, I x70), (70, sl a11 weights c12), (71, sl a178 r165 c179)] 4 rfl rfl ?_
   have ex254 := ((ex169.ext ((((((x172.trans x185).trans x189).trans x196).trans x207).trans x216).trans x225)).but y248 (Dom.dj (Dom.of_le l237) d77))
   refine LP_call 4 rfl rfl rfl cal_35 rfl (impl_weightOf_w _ _ _ H wx245 r9 ex254 o175.readf ((ex194.ext (((x196.trans x207).trans x216).trans x225)).but y248 (Dom.dj (Dom.of_le l237) (Dj.of_fresh (((ex63.ext x145).but y (Dj.of_fresh ex63 f147).symm).ext x154) f177)))) ?_
   rintro _ wx258 ⟨r252, H, rfl, x259⟩
   obtain ⟨hi260, hl, H⟩ := H
   refine LP_indexw (v := .slice a58 (List.length (List.replicate (Int.toNat (ln data)) ((0 : Int)))) c59) 5 rfl rfl rfl Try.underlying25 ti_3 rfl rfl o67 hi260 hl fun a261 wa => ?_
   refine LP_set 6 rfl rfl rfl rfl rfl wa (Le.refl emp) ⟨_, rfl, rfl⟩ (((((ex68.ext x145).but y (Dj.of_fresh ex68 f147).symm).ext xc241).but y248 (Dom.dj (Dom.of_le l237) d83.symm)).ext x259) fun hx262 wx263 o264 ex265 y266 dm267 => ?_
   refine LP_end _ rfl ?_
   have f269 := f147.mono X84.size
   have f270 := Fresh.domOf f64 (Dom.of_le l237)
   have ex272 := (((ex68.ext x145).but y (Dj.of_fresh ex68 f147).symm).ext xc250)
   have X275 := (((X84.stepx x145).step y (f269.dom _)).stepx xc250)
   have f274 := f221.mono X275.size
   have f276 := Fresh.domOf (Fresh.un f274 f270) (Dom.un (Dom.refl _) (Dom.of dm))
   have xc278 := (x216.trans x225)
   have f277 := (dm267 _).fresh f69 (((X275.stepx xc278).step y248 (f270.dom _)).stepx x259).size
   exact ⟨(List.set mended (Int.toNat x70) ({x227 with Values := r208} : Record), List.set costs (Int.toNat x70) r252), H, _, (un hx218 q), hx262, env_eq ⟨rfl, rfl, rfl, rfl, rfl, rfl, rfl, rfl, trivial⟩, ((((((X84.stepx x145).step y (f269.dom _)).stepx xc241).step y248 (f270.dom _)).stepx x259).step y266 (f69.dom _)), o246, ((ex247.ext x259).but y266 (Dom.dj (Dom.un (Dom.refl _) (Dom.of dm)) (Dj.un_l (Dj.of_fresh ex272 f221).symm (Dom.dj (Dom.of_le l237) d83.symm))).symm), f276, o264, ex265, f277, ((((ex210.ext xc278).but y248 (Dom.dj (Dom.of_le l237) d)).ext x259).but y266 d79), ((((ex212.ext xc278).but y248 (Dom.dj (Dom.of_le l237) d76)).ext x259).but y266 d80), ((ex254.ext x259).but y266 d81), ((((ex214.ext xc278).but y248 (Dom.dj (Dom.of_le l237) d78)).ext x259).but y266 d82), (Dom.dj (Dom.un (Dom.refl _) (Dom.of dm)) (Dj.un_l (Dj.of_fresh ex210 f221).symm (Dom.dj (Dom.of_le l237) d))), (Dom.dj (Dom.un (Dom.refl _) (Dom.of dm)) (Dj.un_l (Dj.of_fresh ex212 f221).symm (Dom.dj (Dom.of_le l237) d76))), (Dom.dj (Dom.un (Dom.refl _) (Dom.of dm)) (Dj.un_l (Dj.of_fresh (ex169.ext xc211) f221).symm (Dom.dj (Dom.of_le l237) d77))), (Dom.dj (Dom.un (Dom.refl _) (Dom.of dm)) (Dj.un_l (Dj.of_fresh ex214 f221).symm (Dom.dj (Dom.of_le l237) d78))), (DomLe.dj (dm267 _) d79 (((ex210.ext xc278).but y248 (Dom.dj (Dom.of_le l237) d)).ext x259)), (DomLe.dj (dm267 _) d80 (((ex212.ext xc278).but y248 (Dom.dj (Dom.of_le l237) d76)).ext x259)), (DomLe.dj (dm267 _) d81 (ex254.ext x259)), (DomLe.dj (dm267 _) d82 (((ex214.ext xc278).but y248 (Dom.dj (Dom.of_le l237) d78)).ext x259)), (DomLe.dj (dm267 _) (Dom.dj (Dom.un (Dom.refl _) (Dom.of dm)) (Dj.un_l (Dj.of_fresh ex272 f221).symm (Dom.dj (Dom.of_le l237) d83.symm))).symm (ex247.ext x259))⟩
  rintro ⟨mended100, costs106⟩ _ wx112 ⟨H, ρ, hx102, hx108, rfl, HF⟩
  revert HF
  refine bb9 fun X126 o103 ex104 f105 o109 ex110 f111 ex113 => ?_
  refine bb9 fun ex114 ex115 ex116 d117 d118 d119 d120 d121 => ?_
  refine bb4 fun d122 d123 d124 d125 => ?_
  subst hk128
  refine W_region ?_
  refine LP_ev ok 0 [(74, I (wr (x70 + 1))), (35, I (wr (x70 + 1)))] 2 rfl rfl ?_
  exact LP_end _ rfl ⟨(mended100, costs106, wr (x70 + 1)), ⟨H.1, _, hx102, hx108, env_eq ⟨rfl, rfl, rfl, rfl, rfl, rfl, rfl, rfl, trivial⟩, X126, o103, ex104, f105, o109, ex110, f111, ex113, ex114, ex115, ex116, d117, d118, d119, d120, d121, d122, d123, d124, d125⟩, H.2⟩
 have H := H.2 hc99
 refine W_exit ?_
 refine (if_pos rfl).mpr ?_
 refine W_seq (W_region ?_)
 refine LP_ev ok 0 [(75, sl a49 r43 c50), (76, .slice a58 (List.length (List.replicate (Int.toNat (ln data)) ((0 : Int)))) c59), (8, sl a49 r43 c50), (9, .slice a58 (List.length (List.replicate (Int.toNat (ln data)) ((0 : Int)))) c59), (10, .bool true)] 5 rfl rfl ?_
 refine LP_end _ rfl (W_ret ?_)
 exact ⟨_, Ret_of [sl a49 r43 c50, .slice a58 (List.length (List.replicate (Int.toNat (ln data)) ((0 : Int)))) c59, .bool true] ⟨⟨rfl, rfl⟩, ⟨rfl, rfl⟩, ⟨rfl, rfl⟩, trivial⟩, _, _, _, _, _, _, _, H, rfl, X84.ext, o62, ex63, f64, o67, ex68, f69, d83.symm⟩

theorem spec_eGood_w (sx : List Variable) (ex1 : Edit) (Q : Bool → Prop) (H : spec_eGood sx ex1 Q) (w : World) {vx : Value} {hx : PH} (r : RS hx vx sx) (ex : Sub hx w) {vx2 : Value} {hx3 : PH} (r4 : RS hx3 vx2 ex1.Sets) (ex5 : Sub hx3 w) :
  CallsTo Try.prog 118 #[vx, .agg #[vx2]] w fun v w' => ∃ r0, Q r0 ∧ v = .bool r0 ∧ Ext w w' := by
 obtain ⟨a, c, rfl⟩ := r.shape
 obtain ⟨a6, c7, rfl⟩ := r4.shape
 refine enter (args := [sl a sx c, .agg #[sl a6 ex1.Sets c7]]) 28 Try.func118 rfl rfl rfl ?_
 refine W_forget [(0, sl a sx c), (1, .agg #[sl a6 ex1.Sets c7])] ⟨rfl, rfl, trivial⟩ fun ρ => ?_
 have X := But.refl emp w
 refine W_seq (W_region ?_)
 refine LP_box 0 (cs := [sl a6 ex1.Sets c7]) rfl rfl rfl rfl rfl fun b wx x ex8 f => ?_
 refine LP_ev ok 1 [(4, .bool false)] 2 rfl rfl ?_
 refine LP_end _ rfl (W_seq ?_)
 refine W_seq (W_region ?_)
 refine LP_ev ok 0 [(7, pb b)] 1 rfl rfl ?_
 refine LP_ldbox 1 (v := sl a6 ex1.Sets c7) rfl rfl rfl ti_25 ag_25 (fun _ => rfl) rfl ex8 rfl rfl ?_
 refine LP_ev ok 2 [(9, I (ln ex1.Sets)), (10, sl a sx c), (11, I (ln sx)), (12, .bool ((ln ex1.Sets) != (ln sx)))] 6 rfl rfl ?_
 refine LP_end _ rfl ?_
 refine W_cond ((ln ex1.Sets) != (ln sx)) rfl (fun hc => ?_) (fun hc => ?_)
 ·have H := H.1 hc
  refine W_seq (W_region ?_)
  refine LP_ev ok 0 [(4, .bool false)] 1 rfl rfl ?_
  refine LP_end _ rfl (W_ret ?_)
  exact ⟨_, Ret_of [.bool false] ⟨⟨rfl, rfl⟩, trivial⟩, _, H, rfl, (X.stepx x).ext⟩
 have H := H.2 hc
 refine W_skip ?_
 refine W_seq ?_
 refine W_seq (W_region ?_)
 refine LP_ev ok 0 [(13, pb b)] 1 rfl rfl ?_
 refine LP_ldbox 1 (v := sl a6 ex1.Sets c7) rfl rfl rfl ti_25 ag_25 (fun _ => rfl) rfl ex8 rfl rfl ?_
 refine LP_ev ok 2 [(15, I (ln ex1.Sets)), (16, I 0)] 4 rfl rfl ?_
 refine LP_end _ rfl ?_
 refine W_block ?_
 obtain ⟨J, m, Hx, H⟩ := H
 refine W_loop (S := Int) (fun s ρ' w' => J s ∧ ∃ (ρ : Env), ρ' = setAll [(0, sl a sx c), (14, sl a6 ex1.Sets c7), (15, I (ln ex1.Sets)), (16, I s)] ρ ∧ But emp w w' ∧ Sub hx w' ∧ Sub hx3 w') (fun s => m s) 0 ⟨Hx, _, env_eq ⟨rfl, rfl, rfl, rfl, trivial⟩, (X.stepx x), (ex.ext x), (ex5.ext x)⟩ ?_
 rintro x10 _ wx11 ⟨Hi, ρ, rfl, X14, ex12, ex13⟩
 have H := H x10 Hi
 refine W_seq (W_region ?_)
 refine LP_ev ok 0 [(17, .bool (decide (x10 < (ln ex1.Sets))))] 1 rfl rfl ?_
 refine LP_end _ rfl (W_seq ?_)
 refine W_cond (decide (x10 < (ln ex1.Sets))) rfl (fun hc18 => ?_) (fun hc18 => ?_)
 ·have H := H.1 hc18
  refine W_skip ?_
  refine W_seq ?_
  refine W_block ?_
  refine W_seq (W_region ?_)
  refine LP_ev ok 0 [(18, I x10)] 1 rfl rfl ?_
  obtain ⟨x19, hi, hx20, H⟩ := H
  refine LP_index 1 rfl rfl rfl Try.underlying25 ti_3 rfl rfl r4 hi hx20 fun a21 cs r22 d => ?_
  refine LP_load 2 rfl rfl rfl ti_3 ag_3 rfl r22 d ex13 fun vx23 r24 => ?_
  obtain rfl := r24.int
  refine LP_ev ok 3 [(5, I x10), (6, I x19)] 5 rfl rfl ?_
  refine LP_end _ rfl (W_seq (W_region ?_))
  refine LP_ev ok 0 [(21, I x19), (22, sl a sx c), (23, I x10)] 3 rfl rfl ?_
  refine LP_call 3 rfl rfl rfl cal_100 rfl (spec_eFull_w _ _ _ H wx11 r ex12) ?_
  rintro _ wx26 ⟨r25, H, rfl, x27⟩
  refine LP_call 4 rfl rfl rfl cal_96 rfl (spec_l1In_w _ _ _ _ H wx26 ) ?_
  rintro _ wx29 ⟨r28, H, rfl, x30⟩
  refine LP_ev ok 5 [(26, .bool (!r28))] 6 rfl rfl ?_
  refine LP_end _ rfl ?_
  refine W_cond (!r28) rfl (fun hc31 => ?_) (fun hc31 => ?_)
  ·have H := H.1 hc31
   refine W_seq (W_region ?_)
   refine LP_ev ok 0 [(4, .bool false)] 1 rfl rfl ?_
   refine LP_end _ rfl (W_ret ?_)
   exact ⟨_, Ret_of [.bool false] ⟨⟨rfl, rfl⟩, trivial⟩, _, H, rfl, (X14.stepx (x27.trans x30)).ext⟩
  have H := H.2 hc31
  refine W_skip ?_
  refine W_region ?_
  refine LP_ev ok 0 [(27, I (wr (x10 + 1))), (16, I (wr (x10 + 1)))] 2 rfl rfl ?_
  refine LP_end _ rfl ?_
  have xc33 := (x27.trans x30)
  exact ⟨wr (x10 + 1), ⟨H.1, _, env_eq ⟨rfl, rfl, rfl, rfl, trivial⟩, (X14.stepx xc33), (ex12.ext xc33), (ex13.ext xc33)⟩, H.2⟩
 have H := H.2 hc18
 refine W_exit ?_
 refine (if_pos rfl).mpr ?_
 refine W_seq (W_region ?_)
 refine LP_ev ok 0 [(4, .bool true)] 1 rfl rfl ?_
 refine LP_end _ rfl (W_ret ?_)
 exact ⟨_, Ret_of [.bool true] ⟨⟨rfl, rfl⟩, trivial⟩, _, H, rfl, X14.ext⟩

theorem spec_eList_w (sx : List Variable) (l : List Edit) (Q : Bool → Prop) (H : spec_eList sx l Q) (w : World) {vx : Value} {hx : PH} (r : RS hx vx sx) (ex : Sub hx w) {vx1 : Value} {hx2 : PH} (r3 : RS hx2 vx1 l) (ex4 : Sub hx2 w) :
  CallsTo Try.prog 84 #[vx, vx1] w fun v w' => ∃ r0, Q r0 ∧ v = .bool r0 ∧ Ext w w' := by
 obtain ⟨a, c, rfl⟩ := r.shape
 obtain ⟨a5, c6, rfl⟩ := r3.shape
 refine enter (args := [sl a sx c, sl a5 l c6]) 26 Try.func84 rfl rfl rfl ?_
 refine W_forget [(0, sl a sx c), (1, sl a5 l c6)] ⟨rfl, rfl, trivial⟩ fun ρ => ?_
 have X := But.refl emp w
 refine W_seq (W_region ?_)
 refine LP_ev ok 0 [(4, .bool false)] 1 rfl rfl ?_
 refine LP_end _ rfl (W_seq ?_)
 obtain ⟨k, hk, H⟩ := jn_elim H
 refine W_join2 (S := Bool) (fun s ρ' w' => k s ∧ ∃ (ρ : Env), ρ' = setAll [(0, sl a sx c), (1, sl a5 l c6), (14, .bool s)] ρ ∧ But emp w w' ∧ Sub hx w' ∧ Sub hx2 w') ?_ ?_
 ·refine W_region ?_
  refine LP_ev ok 0 [(7, sl a sx c)] 1 rfl rfl ?_
  refine LP_call 1 rfl rfl rfl cal_109 rfl (spec_sGood_w _ _ H w r ex) ?_
  rintro _ wx11 ⟨r10, H, rfl, x12⟩
  refine LP_ev ok 2 [(9, .bool (!r10)), (10, .bool (!r10))] 4 rfl rfl ?_
  refine LP_split 10 (!r10) rfl (fun hc => ?_) (fun hc => ?_)
  ·have H := H.1 hc
   refine LP_ev ok 4 [(11, undef), (12, undef), (13, undef), (14, .bool true)] 8 rfl rfl ?_
   exact LP_end _ rfl ⟨true, H, _, env_eq ⟨rfl, rfl, rfl, trivial⟩, (X.stepx x12), (ex.ext x12), (ex4.ext x12)⟩
  have H := H.2 hc
  refine LP_ev ok 4 [(11, sl a5 l c6), (12, I (ln l)), (13, .bool (decide ((ln l) > 40))), (14, .bool (decide ((ln l) > 40)))] 8 rfl rfl ?_
  exact LP_end _ rfl ⟨decide ((ln l) > 40), H, _, env_eq ⟨rfl, rfl, rfl, trivial⟩, (X.stepx x12), (ex.ext x12), (ex4.ext x12)⟩
 rintro x _ wx ⟨H, ρ, rfl, X9, ex7, ex8⟩
 subst hk
 refine W_cond (x) rfl (fun hc19 => ?_) (fun hc19 => ?_)
 ·have H := H.1 hc19
  refine W_seq (W_region ?_)
  refine LP_ev ok 0 [(4, .bool false)] 1 rfl rfl ?_
  refine LP_end _ rfl (W_ret ?_)
  exact ⟨_, Ret_of [.bool false] ⟨⟨rfl, rfl⟩, trivial⟩, _, H, rfl, X9.ext⟩
 have H := H.2 hc19
 refine W_skip ?_
 refine W_seq ?_
 refine W_seq (W_region ?_)
 refine LP_ev ok 0 [(15, sl a5 l c6), (16, I (ln l)), (17, I 0)] 3 rfl rfl ?_
 refine LP_end _ rfl ?_
 refine W_block ?_
 obtain ⟨J, m, Hx, H⟩ := H
 refine W_loop (S := Int) (fun s ρ' w' => J s ∧ ∃ (ρ : Env), ρ' = setAll [(0, sl a sx c), (15, sl a5 l c6), (16, I (ln l)), (17, I s)] ρ ∧ But emp w w' ∧ Sub hx w' ∧ Sub hx2 w') (fun s => m s) 0 ⟨Hx, _, env_eq ⟨rfl, rfl, rfl, rfl, trivial⟩, X9, ex7, ex8⟩ ?_
 rintro x20 _ wx21 ⟨Hi, ρ, rfl, X24, ex22, ex23⟩
 have H := H x20 Hi
 refine W_seq (W_region ?_)
 refine LP_ev ok 0 [(18, .bool (decide (x20 < (ln l))))] 1 rfl rfl ?_
 refine LP_end _ rfl (W_seq ?_)
 refine W_cond (decide (x20 < (ln l))) rfl (fun hc25 => ?_) (fun hc25 => ?_)
 ·have H := H.1 hc25
  refine W_skip ?_
  refine W_seq ?_
  refine W_block ?_
  refine W_seq (W_region ?_)
  obtain ⟨x26, hi, hx27, H⟩ := H
  refine LP_index 0 rfl rfl rfl Try.underlying24 ti_79 rfl rfl r3 hi hx27 fun a28 cs r29 d => ?_
  have d30 := d
  obtain ⟨u, rfl, r31⟩ := Edit_rd d30
  obtain ⟨a32, c33, rfl⟩ := r31.shape
  refine LP_load 1 rfl rfl rfl ti_79 ag_79 rfl r29 d ex23 fun vx34 r35 => ?_
  obtain ⟨u36, rfl, r37⟩ := Edit_rv r35
  obtain ⟨a38, c39, rfl⟩ := r37.shape
  refine LP_alloc 2 rfl rfl rfl ti_79 rfl fun b wx40 x41 ex42 f => ?_
  refine LP_stbox 3 (vs := [sl a38 x26.Sets c39]) (cs' := [sl a38 x26.Sets c39]) rfl rfl rfl ti_79 rfl rfl rfl rfl rfl ex42 rfl rfl fun wx43 ex44 y => ?_
  refine LP_end _ rfl (W_seq (W_region ?_))
  refine LP_ev ok 0 [(21, sl a sx c)] 1 rfl rfl ?_
  refine LP_ldbox 1 (v := .agg #[sl a38 x26.Sets c39]) rfl rfl rfl ti_79 ag_79 (fun h => by cases h) rfl ex44 rfl rfl ?_
  have ex46 := ((ex22.ext x41).but y (Dj.of_fresh ex22 f).symm)
  have ex47 := ((ex23.ext x41).but y (Dj.of_fresh ex23 f).symm)
  refine LP_call 2 rfl rfl rfl cal_118 rfl (spec_eGood_w _ _ _ H wx43 r ex46 r37 ex47) ?_
  rintro _ wx48 ⟨r45, H, rfl, x49⟩
  refine LP_ev ok 3 [(24, .bool (!r45))] 4 rfl rfl ?_
  refine LP_end _ rfl ?_
  refine W_cond (!r45) rfl (fun hc50 => ?_) (fun hc50 => ?_)
  ·have H := H.1 hc50
   refine W_seq (W_region ?_)
   refine LP_ev ok 0 [(4, .bool false)] 1 rfl rfl ?_
   refine LP_end _ rfl (W_ret ?_)
   have f51 := f.mono X24.size
   exact ⟨_, Ret_of [.bool false] ⟨⟨rfl, rfl⟩, trivial⟩, _, H, rfl, (((X24.stepx x41).step y (f51.dom _)).stepx x49).ext⟩
  have H := H.2 hc50
  refine W_skip ?_
  refine W_region ?_
  refine LP_ev ok 0 [(25, I (wr (x20 + 1))), (17, I (wr (x20 + 1)))] 2 rfl rfl ?_
  refine LP_end _ rfl ?_
  have f53 := f.mono X24.size
  exact ⟨wr (x20 + 1), ⟨H.1, _, env_eq ⟨rfl, rfl, rfl, rfl, trivial⟩, (((X24.stepx x41).step y (f53.dom _)).stepx x49), (ex46.ext x49), (ex47.ext x49)⟩, H.2⟩
 have H := H.2 hc25
 refine W_exit ?_
 refine (if_pos rfl).mpr ?_
 refine W_seq (W_region ?_)
 refine LP_ev ok 0 [(4, .bool true)] 1 rfl rfl ?_
 refine LP_end _ rfl (W_ret ?_)
 exact ⟨_, Ret_of [.bool true] ⟨⟨rfl, rfl⟩, trivial⟩, _, H, rfl, X24.ext⟩

theorem spec_eSmall_w (sx : List Variable) (l : List Edit) (Q : Bool → Prop) (H : spec_eSmall sx l Q) (w : World) {vx : Value} {hx : PH} (r : RS hx vx sx) (ex : Sub hx w) {vx1 : Value} {hx2 : PH} (r3 : RS hx2 vx1 l) (ex4 : Sub hx2 w) :
  CallsTo Try.prog 36 #[vx, vx1] w fun v w' => ∃ r0, Q r0 ∧ v = .bool r0 ∧ Ext w w' := by
 obtain ⟨a, c, rfl⟩ := r.shape
 obtain ⟨a5, c6, rfl⟩ := r3.shape
 refine enter (args := [sl a sx c, sl a5 l c6]) 13 Try.func36 rfl rfl rfl ?_
 refine W_forget [(0, sl a sx c), (1, sl a5 l c6)] ⟨rfl, rfl, trivial⟩ fun ρ => ?_
 have X := But.refl emp w
 refine W_seq (W_region ?_)
 refine LP_ev ok 0 [(4, .bool false)] 1 rfl rfl ?_
 refine LP_end _ rfl ?_
 obtain ⟨k, hk, H⟩ := jn_elim H
 refine W_join2 (S := Bool) (fun s ρ' w' => k s ∧ ∃ (ρ : Env), ρ' = setAll [(4, .bool s)] ρ ∧ But emp w w') ?_ ?_
 ·refine W_region ?_
  refine LP_ev ok 0 [(5, sl a sx c), (6, sl a5 l c6)] 2 rfl rfl ?_
  refine LP_call 2 rfl rfl rfl cal_84 rfl (spec_eList_w _ _ _ H w r ex r3 ex4) ?_
  rintro _ wx9 ⟨r8, H, rfl, x10⟩
  refine LP_ev ok 3 [(8, .bool r8)] 4 rfl rfl ?_
  refine LP_split 8 (r8) rfl (fun hc => ?_) (fun hc => ?_)
  ·have H := H.1 hc
   refine LP_ev ok 4 [(9, sl a sx c)] 5 rfl rfl ?_
   refine LP_call 5 rfl rfl rfl cal_67 rfl (spec_sCount_w _ _ H wx9 r (ex.ext x10)) ?_
   rintro _ wx13 ⟨r11, H, rfl, x14⟩
   refine LP_ev ok 6 [(11, .bool (decide (r11 ≤ 100))), (12, .bool (decide (r11 ≤ 100))), (4, .bool (decide (r11 ≤ 100)))] 9 rfl rfl ?_
   exact LP_end _ rfl ⟨decide (r11 ≤ 100), H, _, env_eq ⟨rfl, trivial⟩, (X.stepx (x10.trans x14))⟩
  have H := H.2 hc
  refine LP_ev ok 4 [(9, undef), (10, undef), (11, undef), (12, .bool false), (4, .bool false)] 9 rfl rfl ?_
  exact LP_end _ rfl ⟨false, H, _, env_eq ⟨rfl, trivial⟩, (X.stepx x10)⟩
 rintro x _ wx ⟨H, ρ, rfl, X7⟩
 subst hk
 refine W_ret ?_
 exact ⟨_, Ret_of [.bool x] ⟨⟨rfl, rfl⟩, trivial⟩, _, H, rfl, X7.ext⟩

theorem spec_l1All_w (l : List Int) (lo : Int) (hi : Int) (Q : Bool → Prop) (H : spec_l1All l lo hi Q) (w : World) {vx : Value} {hx : PH} (r : RS hx vx l) (ex : Sub hx w) :
  CallsTo Try.prog 85 #[vx, I lo, I hi] w fun v w' => ∃ r0, Q r0 ∧ v = .bool r0 ∧ Ext w w' := by
 obtain ⟨a, c, rfl⟩ := r.shape
 refine enter (args := [sl a l c, I lo, I hi]) 21 Try.func85 rfl rfl rfl ?_
 refine W_forget [(0, sl a l c), (1, I lo), (2, I hi)] ⟨rfl, rfl, rfl, trivial⟩ fun ρ => ?_
 have X := But.refl emp w
 refine W_seq (W_region ?_)
 refine LP_ev ok 0 [(6, .bool false)] 1 rfl rfl ?_
 refine LP_end _ rfl (W_seq ?_)
 refine W_seq (W_region ?_)
 refine LP_ev ok 0 [(9, sl a l c), (10, I (ln l)), (11, I 0)] 3 rfl rfl ?_
 refine LP_end _ rfl ?_
 refine W_block ?_
 obtain ⟨J, m, Hx, H⟩ := H
 refine W_loop (S := Int) (fun s ρ' w' => J s ∧ ∃ (ρ : Env), ρ' = setAll [(1, I lo), (2, I hi), (9, sl a l c), (10, I (ln l)), (11, I s)] ρ ∧ But emp w w' ∧ Sub hx w') (fun s => m s) 0 ⟨Hx, _, env_eq ⟨rfl, rfl, rfl, rfl, rfl, trivial⟩, X, ex⟩ ?_
 rintro x _ wx ⟨Hi, ρ, rfl, X2, ex1⟩
 have H := H x Hi
 refine W_seq (W_region ?_)
 refine LP_ev ok 0 [(12, .bool (decide (x < (ln l))))] 1 rfl rfl ?_
 refine LP_end _ rfl (W_seq ?_)
 refine W_cond (decide (x < (ln l))) rfl (fun hc => ?_) (fun hc => ?_)
 ·have H := H.1 hc
  refine W_skip ?_
  refine W_seq ?_
  refine W_block ?_
  refine W_seq (W_region ?_)
  obtain ⟨x3, hi4, hx5, H⟩ := H
  refine LP_index 0 rfl rfl rfl Try.underlying25 ti_3 rfl rfl r hi4 hx5 fun a6 cs r7 d => ?_
  refine LP_load 1 rfl rfl rfl ti_3 ag_3 rfl r7 d ex1 fun vx8 r9 => ?_
  obtain rfl := r9.int
  refine LP_ev ok 2 [(8, I x3)] 3 rfl rfl ?_
  refine LP_end _ rfl (W_seq (W_region ?_))
  refine LP_ev ok 0 [(15, I x3), (16, I lo), (17, I hi)] 3 rfl rfl ?_
  refine LP_call 3 rfl rfl rfl cal_96 rfl (spec_l1In_w _ _ _ _ H wx ) ?_
  rintro _ wx11 ⟨r10, H, rfl, x12⟩
  refine LP_ev ok 4 [(19, .bool (!r10))] 5 rfl rfl ?_
  refine LP_end _ rfl ?_
  refine W_cond (!r10) rfl (fun hc13 => ?_) (fun hc13 => ?_)
  ·have H := H.1 hc13
   refine W_seq (W_region ?_)
   refine LP_ev ok 0 [(6, .bool false)] 1 rfl rfl ?_
   refine LP_end _ rfl (W_ret ?_)
   exact ⟨_, Ret_of [.bool false] ⟨⟨rfl, rfl⟩, trivial⟩, _, H, rfl, (X2.stepx x12).ext⟩
  have H := H.2 hc13
  refine W_skip ?_
  refine W_region ?_
  refine LP_ev ok 0 [(20, I (wr (x + 1))), (11, I (wr (x + 1)))] 2 rfl rfl ?_
  exact LP_end _ rfl ⟨wr (x + 1), ⟨H.1, _, env_eq ⟨rfl, rfl, rfl, rfl, rfl, trivial⟩, (X2.stepx x12), (ex1.ext x12)⟩, H.2⟩
 have H := H.2 hc
 refine W_exit ?_
 refine (if_pos rfl).mpr ?_
 refine W_seq (W_region ?_)
 refine LP_ev ok 0 [(6, .bool true)] 1 rfl rfl ?_
 refine LP_end _ rfl (W_ret ?_)
 exact ⟨_, Ret_of [.bool true] ⟨⟨rfl, rfl⟩, trivial⟩, _, H, rfl, X2.ext⟩

theorem spec_iWeights_w (sx : List Variable) (wx : List Int) (Q : Bool → Prop) (H : spec_iWeights sx wx Q) (w : World) {vx : Value} {hx : PH} (r : RS hx vx sx) (ex : Sub hx w) {vx1 : Value} {hx2 : PH} (r3 : RS hx2 vx1 wx) (ex4 : Sub hx2 w) :
  CallsTo Try.prog 37 #[vx, vx1] w fun v w' => ∃ r0, Q r0 ∧ v = .bool r0 ∧ Ext w w' := by
 obtain ⟨a, c, rfl⟩ := r.shape
 obtain ⟨a5, c6, rfl⟩ := r3.shape
 refine enter (args := [sl a sx c, sl a5 wx c6]) 14 Try.func37 rfl rfl rfl ?_
 refine W_forget [(0, sl a sx c), (1, sl a5 wx c6)] ⟨rfl, rfl, trivial⟩ fun ρ => ?_
 have X := But.refl emp w
 refine W_seq (W_region ?_)
 refine LP_ev ok 0 [(4, .bool false)] 1 rfl rfl ?_
 refine LP_end _ rfl ?_
 obtain ⟨k, hk, H⟩ := jn_elim H
 refine W_join2 (S := Bool) (fun s ρ' w' => k s ∧ ∃ (ρ : Env), ρ' = setAll [(4, .bool s)] ρ ∧ But emp w w') ?_ ?_
 ·refine W_region ?_
  refine LP_ev ok 0 [(5, sl a5 wx c6), (6, I (ln wx)), (7, sl a sx c), (8, I (ln sx)), (9, .bool ((ln wx) == (ln sx))), (10, .bool ((ln wx) == (ln sx)))] 6 rfl rfl ?_
  refine LP_split 10 ((ln wx) == (ln sx)) rfl (fun hc => ?_) (fun hc => ?_)
  ·have H := H.1 hc
   refine LP_ev ok 6 [(11, sl a5 wx c6)] 7 rfl rfl ?_
   refine LP_call 7 rfl rfl rfl cal_85 rfl (spec_l1All_w _ _ _ _ H w r3 ex4) ?_
   rintro _ wx10 ⟨r9, H, rfl, x11⟩
   refine LP_ev ok 8 [(13, .bool r9), (4, .bool r9)] 10 rfl rfl ?_
   exact LP_end _ rfl ⟨r9, H, _, env_eq ⟨rfl, trivial⟩, (X.stepx x11)⟩
  have H := H.2 hc
  refine LP_ev ok 6 [(11, undef), (12, undef), (13, .bool false), (4, .bool false)] 10 rfl rfl ?_
  exact LP_end _ rfl ⟨false, H, _, env_eq ⟨rfl, trivial⟩, X⟩
 rintro x _ wx7 ⟨H, ρ, rfl, X8⟩
 subst hk
 refine W_ret ?_
 exact ⟨_, Ret_of [.bool x] ⟨⟨rfl, rfl⟩, trivial⟩, _, H, rfl, X8.ext⟩

theorem spec_sFits_w (sx : List Variable) (values : List Int) (Q : Bool → Prop) (H : spec_sFits sx values Q) (w : World) {vx : Value} {hx : PH} (r : RS hx vx sx) (ex : Sub hx w) {vx1 : Value} {hx2 : PH} (r3 : RS hx2 vx1 values) (ex4 : Sub hx2 w) :
  CallsTo Try.prog 55 #[vx, vx1] w fun v w' => ∃ r0, Q r0 ∧ v = .bool r0 ∧ Ext w w' := by
 obtain ⟨a, c, rfl⟩ := r.shape
 obtain ⟨a5, c6, rfl⟩ := r3.shape
 refine enter (args := [sl a sx c, sl a5 values c6]) 29 Try.func55 rfl rfl rfl ?_
 refine W_forget [(0, sl a sx c), (1, sl a5 values c6)] ⟨rfl, rfl, trivial⟩ fun ρ => ?_
 have X := But.refl emp w
 refine W_seq (W_region ?_)
 refine LP_ev ok 0 [(4, .bool false)] 1 rfl rfl ?_
 refine LP_end _ rfl (W_seq ?_)
 refine W_seq (W_region ?_)
 refine LP_ev ok 0 [(7, sl a5 values c6), (8, I (ln values)), (9, sl a sx c), (10, I (ln sx)), (11, .bool ((ln values) != (ln sx)))] 5 rfl rfl ?_
 refine LP_end _ rfl ?_
 refine W_cond ((ln values) != (ln sx)) rfl (fun hc => ?_) (fun hc => ?_)
 ·have H := H.1 hc
  refine W_seq (W_region ?_)
  refine LP_ev ok 0 [(4, .bool false)] 1 rfl rfl ?_
  refine LP_end _ rfl (W_ret ?_)
  exact ⟨_, Ret_of [.bool false] ⟨⟨rfl, rfl⟩, trivial⟩, _, H, rfl, X.ext⟩
 have H := H.2 hc
 refine W_skip ?_
 refine W_seq ?_
 refine W_seq (W_region ?_)
 refine LP_ev ok 0 [(12, sl a sx c), (13, I (ln sx)), (14, I 0)] 3 rfl rfl ?_
 refine LP_end _ rfl ?_
 refine W_block ?_
 obtain ⟨J, m, Hx, H⟩ := H
 refine W_loop (S := Int) (fun s ρ' w' => J s ∧ ∃ (ρ : Env), ρ' = setAll [(1, sl a5 values c6), (12, sl a sx c), (13, I (ln sx)), (14, I s)] ρ ∧ But emp w w' ∧ Sub hx w' ∧ Sub hx2 w') (fun s => m s) 0 ⟨Hx, _, env_eq ⟨rfl, rfl, rfl, rfl, trivial⟩, X, ex, ex4⟩ ?_
 rintro x _ wx ⟨Hi, ρ, rfl, X9, ex7, ex8⟩
 have H := H x Hi
 refine W_seq (W_region ?_)
 refine LP_ev ok 0 [(15, .bool (decide (x < (ln sx))))] 1 rfl rfl ?_
 refine LP_end _ rfl (W_seq ?_)
 refine W_cond (decide (x < (ln sx))) rfl (fun hc10 => ?_) (fun hc10 => ?_)
 ·have H := H.1 hc10
  refine W_skip ?_
  refine W_seq ?_
  refine W_block ?_
  refine W_seq (W_region ?_)
  refine LP_ev ok 0 [(16, I x)] 1 rfl rfl ?_
  obtain ⟨x11, hi, hx12, H⟩ := H
  refine LP_index 1 rfl rfl rfl Try.underlying23 ti_90 rfl rfl r hi hx12 fun a13 cs r14 d => ?_
  refine LP_load 2 rfl rfl rfl ti_90 ag_90 rfl r14 d ex7 fun vx15 r16 => ?_
  obtain rfl := Variable_rv r16
  refine LP_alloc 3 rfl rfl rfl ti_90 rfl fun b wx17 x18 ex19 f => ?_
  refine LP_ev ok 4 [(5, I x)] 5 rfl rfl ?_
  refine LP_stbox 5 (vs := [.string x11.Name, I x11.Levels]) (cs' := [.string x11.Name, I x11.Levels]) rfl rfl rfl ti_90 rfl rfl rfl rfl rfl ex19 rfl rfl fun wx20 ex21 y => ?_
  refine LP_end _ rfl (W_seq ?_)
  refine W_quiet mix (by kernel_rfl) ?_
  refine QP_ev ok 0 [(19, sl a5 values c6), (20, I x)] 2 rfl rfl ?_
  obtain ⟨x22, hi23, hx24, H⟩ := H
  refine QP_index 2 rfl rfl rfl Try.underlying25 ti_3 rfl rfl r3 hi23 hx24 fun a25 cs26 r27 d28 => ?_
  have ex29 := ((ex8.ext x18).but y (Dj.of_fresh ex8 f).symm)
  refine QP_load 3 rfl rfl rfl ti_3 ag_3 rfl r27 d28 ex29 fun vx30 r31 => ?_
  obtain rfl := r31.int
  refine QP_ev ok 4 [(23, .pointer (some ⟨b, 1, none⟩))] 5 rfl rfl ?_
  refine QP_ldbox 5 (v := I x11.Levels) rfl rfl rfl ti_3 ag_3 (fun _ => rfl) rfl ex21 rfl rfl ?_
  refine QP_ev ok 6 [(25, I (wr (x11.Levels - 1)))] 7 rfl rfl ?_
  obtain ⟨r32, Hd, H⟩ := H
  refine QP_call (.bool r32) 7 rfl rfl rfl cal_96 rfl (fun wx33 x34 => (spec_l1In_w _ _ _ _ Hd wx33 ).mono ?_) ?_
  ·rintro _ _ ⟨_, rfl, rfl, x⟩; exact ⟨rfl, x⟩
  refine QP_ev ok 8 [(27, .bool (!r32))] 9 rfl rfl ?_
  refine QP_end _ rfl fun wx35 x36 => ?_
  refine W_cond (!r32) rfl (fun hc37 => ?_) (fun hc37 => ?_)
  ·have H := H.1 hc37
   refine W_seq (W_region ?_)
   refine LP_ev ok 0 [(4, .bool false)] 1 rfl rfl ?_
   refine LP_end _ rfl (W_ret ?_)
   have f38 := f.mono X9.size
   exact ⟨_, Ret_of [.bool false] ⟨⟨rfl, rfl⟩, trivial⟩, _, H, rfl, (((X9.stepx x18).step y (f38.dom _)).stepx x36).ext⟩
  have H := H.2 hc37
  refine W_skip ?_
  refine W_region ?_
  refine LP_ev ok 0 [(28, I (wr (x + 1))), (14, I (wr (x + 1)))] 2 rfl rfl ?_
  refine LP_end _ rfl ?_
  have f40 := f.mono X9.size
  exact ⟨wr (x + 1), ⟨H.1, _, env_eq ⟨rfl, rfl, rfl, rfl, trivial⟩, (((X9.stepx x18).step y (f40.dom _)).stepx x36), (((ex7.ext x18).but y (Dj.of_fresh ex7 f).symm).ext x36), (ex29.ext x36)⟩, H.2⟩
 have H := H.2 hc10
 refine W_exit ?_
 refine (if_pos rfl).mpr ?_
 refine W_seq (W_region ?_)
 refine LP_ev ok 0 [(4, .bool true)] 1 rfl rfl ?_
 refine LP_end _ rfl (W_ret ?_)
 exact ⟨_, Ret_of [.bool true] ⟨⟨rfl, rfl⟩, trivial⟩, _, H, rfl, X9.ext⟩

theorem spec_rGood_w (sx : List Variable) (r1 : Record) (Q : Bool → Prop) (H : spec_rGood sx r1 Q) (w : World) {vx : Value} {hx : PH} (r : RS hx vx sx) (ex : Sub hx w) {vx2 : Value} {hx3 : PH} (r4 : RS hx3 vx2 r1.Values) (ex5 : Sub hx3 w) :
  CallsTo Try.prog 86 #[vx, .agg #[I r1.Area, I r1.House, vx2]] w fun v w' => ∃ r0, Q r0 ∧ v = .bool r0 ∧ Ext w w' := by
 obtain ⟨a, c, rfl⟩ := r.shape
 obtain ⟨a6, c7, rfl⟩ := r4.shape
 refine enter (args := [sl a sx c, .agg #[I r1.Area, I r1.House, sl a6 r1.Values c7]]) 19 Try.func86 rfl rfl rfl ?_
 refine W_forget [(0, sl a sx c), (1, .agg #[I r1.Area, I r1.House, sl a6 r1.Values c7])] ⟨rfl, rfl, trivial⟩ fun ρ => ?_
 have X := But.refl emp w
 refine W_seq (W_region ?_)
 refine LP_box 0 (cs := [I r1.Area, I r1.House, sl a6 r1.Values c7]) rfl rfl rfl rfl rfl fun b wx x ex8 f => ?_
 refine LP_ev ok 1 [(4, .bool false)] 2 rfl rfl ?_
 refine LP_end _ rfl ?_
 have X9 := (X.stepx x)
 obtain ⟨k, hk, H⟩ := jn_elim H
 refine W_join2 (S := Bool) (fun s ρ' w' => k s ∧ ∃ (ρ : Env), ρ' = setAll [(4, .bool s)] ρ ∧ But emp w w') ?_ ?_
 ·refine W_region ?_
  refine LP_ev ok 0 [(5, pb b)] 1 rfl rfl ?_
  refine LP_ldbox 1 (v := I r1.Area) rfl rfl rfl ti_3 ag_3 (fun _ => rfl) rfl ex8 rfl rfl ?_
  refine LP_call 2 rfl rfl rfl cal_96 rfl (spec_l1In_w _ _ _ _ H wx ) ?_
  rintro _ wx17 ⟨r16, H, rfl, x18⟩
  refine LP_ev ok 3 [(8, .bool r16)] 4 rfl rfl ?_
  refine LP_split 8 (r16) rfl (fun hc => ?_) (fun hc => ?_)
  ·have H := H.1 hc
   refine LP_ev ok 4 [(9, .pointer (some ⟨b, 1, none⟩))] 5 rfl rfl ?_
   have ex19 := (ex8.ext x18)
   refine LP_ldbox 5 (v := I r1.House) rfl rfl rfl ti_3 ag_3 (fun _ => rfl) rfl ex19 rfl rfl ?_
   refine LP_call 6 rfl rfl rfl cal_96 rfl (spec_l1In_w _ _ _ _ H wx17 ) ?_
   rintro _ wx21 ⟨r20, H, rfl, x22⟩
   refine LP_ev ok 7 [(12, .bool r20), (13, .bool r20)] 9 rfl rfl ?_
   refine LP_split 13 (r20) rfl (fun hc23 => ?_) (fun hc23 => ?_)
   ·have H := H.1 hc23
    refine LP_ev ok 9 [(14, sl a sx c), (15, .pointer (some ⟨b, 2, none⟩))] 11 rfl rfl ?_
    refine LP_ldbox 11 (v := sl a6 r1.Values c7) rfl rfl rfl ti_25 ag_25 (fun _ => rfl) rfl (ex19.ext x22) rfl rfl ?_
    have xc := (x18.trans x22)
    refine LP_call 12 rfl rfl rfl cal_55 rfl (spec_sFits_w _ _ _ H wx21 r ((ex.ext x).ext xc) r4 ((ex5.ext x).ext xc)) ?_
    rintro _ wx28 ⟨r25, H, rfl, x29⟩
    refine LP_ev ok 13 [(18, .bool r25), (4, .bool r25)] 15 rfl rfl ?_
    exact LP_end _ rfl ⟨r25, H, _, env_eq ⟨rfl, trivial⟩, (X9.stepx (xc.trans x29))⟩
   have H := H.2 hc23
   refine LP_ev ok 9 [(14, undef), (15, undef), (16, undef), (17, undef), (18, .bool false), (4, .bool false)] 15 rfl rfl ?_
   exact LP_end _ rfl ⟨false, H, _, env_eq ⟨rfl, trivial⟩, (X9.stepx (x18.trans x22))⟩
  have H := H.2 hc
  refine LP_ev ok 4 [(9, undef), (10, undef), (11, undef), (12, .bool false), (13, .bool false), (14, undef), (15, undef), (16, undef), (17, undef), (18, .bool false), (4, .bool false)] 15 rfl rfl ?_
  exact LP_end _ rfl ⟨false, H, _, env_eq ⟨rfl, trivial⟩, (X9.stepx x18)⟩
 rintro x13 _ wx14 ⟨H, ρ, rfl, X15⟩
 subst hk
 refine W_ret ?_
 exact ⟨_, Ret_of [.bool x13] ⟨⟨rfl, rfl⟩, trivial⟩, _, H, rfl, X15.ext⟩

theorem spec_dGood_w (sx : List Variable) (l : List Record) (Q : Bool → Prop) (H : spec_dGood sx l Q) (w : World) {vx : Value} {hx : PH} (r : RS hx vx sx) (ex : Sub hx w) {vx1 : Value} {hx2 : PH} (r3 : RS hx2 vx1 l) (ex4 : Sub hx2 w) :
  CallsTo Try.prog 38 #[vx, vx1] w fun v w' => ∃ r0, Q r0 ∧ v = .bool r0 ∧ Ext w w' := by
 obtain ⟨a, c, rfl⟩ := r.shape
 obtain ⟨a5, c6, rfl⟩ := r3.shape
 refine enter (args := [sl a sx c, sl a5 l c6]) 21 Try.func38 rfl rfl rfl ?_
 refine W_forget [(0, sl a sx c), (1, sl a5 l c6)] ⟨rfl, rfl, trivial⟩ fun ρ => ?_
 have X := But.refl emp w
 refine W_seq (W_region ?_)
 refine LP_ev ok 0 [(4, .bool false)] 1 rfl rfl ?_
 refine LP_end _ rfl (W_seq ?_)
 refine W_seq (W_region ?_)
 refine LP_ev ok 0 [(7, sl a5 l c6), (8, I (ln l)), (9, I 0)] 3 rfl rfl ?_
 refine LP_end _ rfl ?_
 refine W_block ?_
 obtain ⟨J, m, Hx, H⟩ := H
 refine W_loop (S := Int) (fun s ρ' w' => J s ∧ ∃ (ρ : Env), ρ' = setAll [(0, sl a sx c), (1, sl a5 l c6), (7, sl a5 l c6), (8, I (ln l)), (9, I s)] ρ ∧ But emp w w' ∧ Sub hx w' ∧ Sub hx2 w') (fun s => m s) 0 ⟨Hx, _, env_eq ⟨rfl, rfl, rfl, rfl, rfl, trivial⟩, X, ex, ex4⟩ ?_
 rintro x _ wx ⟨Hi, ρ, rfl, X9, ex7, ex8⟩
 have H := H x Hi
 refine W_seq (W_region ?_)
 refine LP_ev ok 0 [(10, .bool (decide (x < (ln l))))] 1 rfl rfl ?_
 refine LP_end _ rfl (W_seq ?_)
 refine W_cond (decide (x < (ln l))) rfl (fun hc => ?_) (fun hc => ?_)
 ·have H := H.1 hc
  refine W_skip ?_
  refine W_seq ?_
  refine W_block ?_
  refine W_seq (W_region ?_)
  obtain ⟨x10, hi, hx11, H⟩ := H
  refine LP_index 0 rfl rfl rfl Try.underlying26 ti_40 rfl rfl r3 hi hx11 fun a12 cs r13 d => ?_
  have d14 := d
  obtain ⟨u, rfl, r15⟩ := Record_rd d14
  obtain ⟨a16, c17, rfl⟩ := r15.shape
  refine LP_load 1 rfl rfl rfl ti_40 ag_40 rfl r13 d ex8 fun vx18 r19 => ?_
  obtain ⟨u20, rfl, r21⟩ := Record_rv r19
  obtain ⟨a22, c23, rfl⟩ := r21.shape
  refine LP_alloc 2 rfl rfl rfl ti_40 rfl fun b wx24 x25 ex26 f => ?_
  refine LP_stbox 3 (vs := [I x10.Area, I x10.House, sl a22 x10.Values c23]) (cs' := [I x10.Area, I x10.House, sl a22 x10.Values c23]) rfl rfl rfl ti_40 rfl rfl rfl rfl rfl ex26 rfl rfl fun wx27 ex28 y => ?_
  refine LP_end _ rfl (W_seq (W_region ?_))
  refine LP_ev ok 0 [(13, sl a sx c)] 1 rfl rfl ?_
  refine LP_ldbox 1 (v := .agg #[I x10.Area, I x10.House, sl a22 x10.Values c23]) rfl rfl rfl ti_40 ag_40 (fun h => by cases h) rfl ex28 rfl rfl ?_
  have ex30 := ((ex7.ext x25).but y (Dj.of_fresh ex7 f).symm)
  have ex31 := ((ex8.ext x25).but y (Dj.of_fresh ex8 f).symm)
  refine LP_call 2 rfl rfl rfl cal_86 rfl (spec_rGood_w _ _ _ H wx27 r ex30 r21 ex31) ?_
  rintro _ wx32 ⟨r29, H, rfl, x33⟩
  refine LP_ev ok 3 [(16, .bool (!r29))] 4 rfl rfl ?_
  refine LP_end _ rfl ?_
  refine W_cond (!r29) rfl (fun hc34 => ?_) (fun hc34 => ?_)
  ·have H := H.1 hc34
   refine W_seq (W_region ?_)
   refine LP_ev ok 0 [(4, .bool false)] 1 rfl rfl ?_
   refine LP_end _ rfl (W_ret ?_)
   have f35 := f.mono X9.size
   exact ⟨_, Ret_of [.bool false] ⟨⟨rfl, rfl⟩, trivial⟩, _, H, rfl, (((X9.stepx x25).step y (f35.dom _)).stepx x33).ext⟩
  have H := H.2 hc34
  refine W_skip ?_
  refine W_region ?_
  refine LP_ev ok 0 [(17, I (wr (x + 1))), (9, I (wr (x + 1)))] 2 rfl rfl ?_
  refine LP_end _ rfl ?_
  have f37 := f.mono X9.size
  exact ⟨wr (x + 1), ⟨H.1, _, env_eq ⟨rfl, rfl, rfl, rfl, rfl, trivial⟩, (((X9.stepx x25).step y (f37.dom _)).stepx x33), (ex30.ext x33), (ex31.ext x33)⟩, H.2⟩
 have H := H.2 hc
 refine W_exit ?_
 refine (if_pos rfl).mpr ?_
 refine W_seq (W_region ?_)
 refine LP_ev ok 0 [(18, sl a5 l c6), (19, I (ln l)), (20, .bool (decide ((ln l) ≤ 40))), (4, .bool (decide ((ln l) ≤ 40)))] 4 rfl rfl ?_
 refine LP_end _ rfl (W_ret ?_)
 exact ⟨_, Ret_of [.bool (decide ((ln l) ≤ 40))] ⟨⟨rfl, rfl⟩, trivial⟩, _, H, rfl, X9.ext⟩

theorem spec_eFails_w (ex : Edit) (values : List Int) (Q : Bool → Prop) (H : spec_eFails ex values Q) (w : World) {vx : Value} {hx : PH} (r : RS hx vx ex.Sets) (ex1 : Sub hx w) {vx2 : Value} {hx3 : PH} (r4 : RS hx3 vx2 values) (ex5 : Sub hx3 w) :
  CallsTo Try.prog 58 #[.agg #[vx], vx2] w fun v w' => ∃ r0, Q r0 ∧ v = .bool r0 ∧ Ext w w' := by
 obtain ⟨a, c, rfl⟩ := r.shape
 obtain ⟨a6, c7, rfl⟩ := r4.shape
 refine enter (args := [.agg #[sl a ex.Sets c], sl a6 values c7]) 25 Try.func58 rfl rfl rfl ?_
 refine W_forget [(0, .agg #[sl a ex.Sets c]), (1, sl a6 values c7)] ⟨rfl, rfl, trivial⟩ fun ρ => ?_
 have X := But.refl emp w
 refine W_seq (W_region ?_)
 refine LP_box 0 (cs := [sl a ex.Sets c]) rfl rfl rfl rfl rfl fun b wx x ex8 f => ?_
 refine LP_ev ok 1 [(4, .bool false)] 2 rfl rfl ?_
 refine LP_end _ rfl (W_seq ?_)
 refine W_seq (W_region ?_)
 refine LP_ev ok 0 [(7, sl a6 values c7), (8, I (ln values)), (9, I 0)] 3 rfl rfl ?_
 refine LP_end _ rfl ?_
 refine W_block ?_
 obtain ⟨J, m, Hx, H⟩ := H
 refine W_loop (S := Int) (fun s ρ' w' => J s ∧ ∃ (ρ : Env), ρ' = setAll [(2, pb b), (7, sl a6 values c7), (8, I (ln values)), (9, I s)] ρ ∧ wx = w') (fun s => m s) 0 ⟨Hx, _, env_eq ⟨rfl, rfl, rfl, rfl, trivial⟩, rfl⟩ ?_
 rintro x9 _ _ ⟨Hi, ρ, rfl, rfl⟩
 have H := H x9 Hi
 refine W_seq (W_region ?_)
 refine LP_ev ok 0 [(10, .bool (decide (x9 < (ln values))))] 1 rfl rfl ?_
 refine LP_end _ rfl (W_seq ?_)
 refine W_cond (decide (x9 < (ln values))) rfl (fun hc => ?_) (fun hc => ?_)
 ·have H := H.1 hc
  refine W_skip ?_
  refine W_seq ?_
  refine W_block ?_
  refine W_seq (W_region ?_)
  refine LP_ev ok 0 [(11, I x9)] 1 rfl rfl ?_
  obtain ⟨x11, hi, hx12, H⟩ := H
  refine LP_index 1 rfl rfl rfl Try.underlying25 ti_3 rfl rfl r4 hi hx12 fun a13 cs r14 d => ?_
  refine LP_load 2 rfl rfl rfl ti_3 ag_3 rfl r14 d (ex5.ext x) fun vx16 r17 => ?_
  obtain rfl := r17.int
  refine LP_ev ok 3 [(5, I x9), (6, I x11)] 5 rfl rfl ?_
  refine LP_end _ rfl (W_seq (W_region ?_))
  refine LP_ev ok 0 [(14, pb b)] 1 rfl rfl ?_
  refine LP_ldbox 1 (v := sl a ex.Sets c) rfl rfl rfl ti_25 ag_25 (fun _ => rfl) rfl ex8 rfl rfl ?_
  refine LP_ev ok 2 [(16, I x9)] 3 rfl rfl ?_
  obtain ⟨x18, hi19, hx20, H⟩ := H
  refine LP_index 3 rfl rfl rfl Try.underlying25 ti_3 rfl rfl r hi19 hx20 fun a21 cs22 r23 d24 => ?_
  refine LP_load 4 rfl rfl rfl ti_3 ag_3 rfl r23 d24 (ex1.ext x) fun vx26 r27 => ?_
  obtain rfl := r27.int
  refine LP_ev ok 5 [(19, I x11), (20, .int .u64 (IntKind.u64.wrap (x11)))] 7 rfl rfl ?_
  obtain ⟨hz, H⟩ := H
  refine LP_val 7 _ rfl rfl (ex_shr rfl rfl rfl hz _) ?_
  refine LP_ev ok 8 [(22, I (bits .and .i64 (shr .i64 x18 (IntKind.u64.wrap (x11))) 1)), (23, .bool ((bits .and .i64 (shr .i64 x18 (IntKind.u64.wrap (x11))) 1) == 0))] 10 rfl rfl ?_
  refine LP_end _ rfl ?_
  refine W_cond ((bits .and .i64 (shr .i64 x18 (IntKind.u64.wrap (x11))) 1) == 0) rfl (fun hc28 => ?_) (fun hc28 => ?_)
  ·have H := H.1 hc28
   refine W_seq (W_region ?_)
   refine LP_ev ok 0 [(4, .bool false)] 1 rfl rfl ?_
   refine LP_end _ rfl (W_ret ?_)
   exact ⟨_, Ret_of [.bool false] ⟨⟨rfl, rfl⟩, trivial⟩, _, H, rfl, (X.stepx x).ext⟩
  have H := H.2 hc28
  refine W_skip ?_
  refine W_region ?_
  refine LP_ev ok 0 [(24, I (wr (x9 + 1))), (9, I (wr (x9 + 1)))] 2 rfl rfl ?_
  exact LP_end _ rfl ⟨wr (x9 + 1), ⟨H.1, _, env_eq ⟨rfl, rfl, rfl, rfl, trivial⟩, rfl⟩, H.2⟩
 have H := H.2 hc
 refine W_exit ?_
 refine (if_pos rfl).mpr ?_
 refine W_seq (W_region ?_)
 refine LP_ev ok 0 [(4, .bool true)] 1 rfl rfl ?_
 refine LP_end _ rfl (W_ret ?_)
 exact ⟨_, Ret_of [.bool true] ⟨⟨rfl, rfl⟩, trivial⟩, _, H, rfl, (X.stepx x).ext⟩

theorem spec_eFailed_w (l : List Edit) (values : List Int) (Q : (List Int) → Prop) (H : spec_eFailed l values Q) (w : World) {vx : Value} {hx : PH} (r : RS hx vx l) (ex : Sub hx w) {vx1 : Value} {hx2 : PH} (r3 : RS hx2 vx1 values) (ex4 : Sub hx2 w) :
  CallsTo Try.prog 40 #[vx, vx1] w fun v w' => ∃ r0 u0 g0, Q r0 ∧ v = u0 ∧ Ext w w' ∧ OS 3 g0 emp u0 r0 ∧ Sub g0 w' ∧ Fresh w.heap.size g0 := by
 obtain ⟨a, c, rfl⟩ := r.shape
 obtain ⟨a5, c6, rfl⟩ := r3.shape
 refine enter (args := [sl a l c, sl a5 values c6]) 24 Try.func40 rfl rfl rfl ?_
 refine W_forget [(0, sl a l c), (1, sl a5 values c6)] ⟨rfl, rfl, trivial⟩ fun ρ => ?_
 have X := But.refl emp w
 refine W_seq (W_region ?_)
 refine LP_ev ok 0 [(4, .slice none 0 0)] 1 rfl rfl ?_
 refine LP_end _ rfl (W_seq (W_region ?_))
 refine LP_ev ok 0 [(5, .slice none 0 0)] 1 rfl rfl ?_
 refine LP_end _ rfl (W_seq ?_)
 refine W_seq (W_region ?_)
 refine LP_ev ok 0 [(8, sl a l c), (9, I (ln l)), (10, I 0)] 3 rfl rfl ?_
 refine LP_end _ rfl ?_
 refine W_block ?_
 obtain ⟨J, m, Hx, H⟩ := H
 refine W_loop (S := (List Int) × Int) (fun s ρ' w' => J s.1 s.2 ∧ ∃ (ρ : Env) (vx7 : Value) (hx8 : PH), ρ' = setAll [(1, sl a5 values c6), (5, vx7), (8, sl a l c), (9, I (ln l)), (10, I s.2)] ρ ∧ But emp w w' ∧ OS 3 hx8 emp vx7 s.1 ∧ Sub hx8 w' ∧ Fresh w.heap.size hx8 ∧ Sub hx w' ∧ Sub hx2 w' ∧ Dj hx8 hx ∧ Dj hx8 hx2) (fun s => m s.1 s.2) ([], 0) ⟨Hx, _, .slice none 0 0, emp, env_eq ⟨rfl, rfl, rfl, rfl, rfl, trivial⟩, X, OS.nil, (emp_sub _), (emp_fresh _), ex, ex4, (fun _ => .inl rfl), (fun _ => .inl rfl)⟩ ?_
 rintro ⟨out, x⟩ _ wx ⟨Hi, ρ, vx7, hx8, rfl, HF⟩
 revert HF
 refine bb8 fun X15 o ex9 f ex10 ex11 d d14 => ?_
 have H := H out x Hi
 obtain ⟨a12, c13, rfl⟩ := o.shape
 refine W_seq (W_region ?_)
 refine LP_ev ok 0 [(11, .bool (decide (x < (ln l))))] 1 rfl rfl ?_
 refine LP_end _ rfl (W_seq ?_)
 refine W_cond (decide (x < (ln l))) rfl (fun hc => ?_) (fun hc => ?_)
 ·have H := H.1 hc
  refine W_skip ?_
  obtain ⟨k, hk, H⟩ := jn_elim H
  refine W_join2 (S := (List Int)) (fun s ρ' w' => k s ∧ ∃ (ρ : Env) (vx17 : Value) (hx18 : PH), ρ' = setAll [(1, sl a5 values c6), (5, vx17), (8, sl a l c), (9, I (ln l)), (10, I x)] ρ ∧ But emp w w' ∧ OS 3 hx18 emp vx17 s ∧ Sub hx18 w' ∧ Fresh w.heap.size hx18 ∧ Sub hx w' ∧ Sub hx2 w' ∧ Dj hx18 hx ∧ Dj hx18 hx2) ?_ ?_
  ·refine W_block ?_
   refine W_seq (W_region ?_)
   refine LP_ev ok 0 [(12, I x)] 1 rfl rfl ?_
   obtain ⟨x30, hi, hx31, H⟩ := H
   refine LP_index 1 rfl rfl rfl Try.underlying24 ti_79 rfl rfl r hi hx31 fun a32 cs r33 d34 => ?_
   have d35 := d34
   obtain ⟨u, rfl, r36⟩ := Edit_rd d35
   obtain ⟨a37, c38, rfl⟩ := r36.shape
   refine LP_load 2 rfl rfl rfl ti_79 ag_79 rfl r33 d34 ex10 fun vx39 r40 => ?_
   obtain ⟨u41, rfl, r42⟩ := Edit_rv r40
   obtain ⟨a43, c44, rfl⟩ := r42.shape
   refine LP_alloc 3 rfl rfl rfl ti_79 rfl fun b wx45 x46 ex47 f48 => ?_
   refine LP_ev ok 4 [(6, I x)] 5 rfl rfl ?_
   refine LP_stbox 5 (vs := [sl a43 x30.Sets c44]) (cs' := [sl a43 x30.Sets c44]) rfl rfl rfl ti_79 rfl rfl rfl rfl rfl ex47 rfl rfl fun wx49 ex50 y => ?_
   refine LP_end _ rfl (W_seq (W_region ?_))
   refine LP_ldbox 0 (v := .agg #[sl a43 x30.Sets c44]) rfl rfl rfl ti_79 ag_79 (fun h => by cases h) rfl ex50 rfl rfl ?_
   refine LP_ev ok 1 [(16, sl a5 values c6)] 2 rfl rfl ?_
   have ex52 := ((ex10.ext x46).but y (Dj.of_fresh ex10 f48).symm)
   have ex53 := ((ex11.ext x46).but y (Dj.of_fresh ex11 f48).symm)
   refine LP_call 2 rfl rfl rfl cal_58 rfl (spec_eFails_w _ _ _ H wx49 r42 ex52 r3 ex53) ?_
   rintro _ wx54 ⟨r51, H, rfl, x55⟩
   refine LP_end _ rfl ?_
   refine W_cond (r51) rfl (fun hc56 => ?_) (fun hc56 => ?_)
   ·have H := H.1 hc56
    refine W_region ?_
    refine LP_ev ok 0 [(18, sl a12 out c13), (19, I x)] 2 rfl rfl ?_
    refine LP_lit (α := Int) (g := emp) 2 (vs := [I x]) (xs := [x]) rfl rfl rfl Try.underlying25 ti_3 rfl rfl ⟨⟨_, rfl, rfl⟩, trivial⟩ rfl rfl fun hx57 vx58 wx59 x60 o61 ex62 f63 => ?_
    obtain ⟨a64, c65, rfl⟩ := o61.shape
    have xc := (x55.trans x60)
    obtain ⟨hb, H⟩ := H
    refine LP_appendf (α := Int) 3 rfl rfl rfl Try.underlying25 ti_3 rfl rfl rfl o (((ex9.ext x46).but y (Dj.of_fresh ex9 f48).symm).ext xc) o61.readf ex62 (by first | omega | (simp only [ln] at *; omega)) (by first | omega | (simp only [ln] at *; omega)) fun hx67 vx68 wx69 o70 ex71 y72 dm => ?_
    obtain ⟨a73, c74, rfl⟩ := o70.shape
    refine LP_ev ok 4 [(5, .slice a73 (List.length (out ++ ([x]))) c74)] 5 rfl rfl ?_
    refine LP_end _ rfl ?_
    have f75 := f48.mono X15.size
    have f77 := dm.fresh f (((X15.stepx x46).step y (f75.dom _)).stepx xc).size
    exact ⟨out ++ ([x]), H, _, .slice a73 (List.length (out ++ ([x]))) c74, hx67, env_eq ⟨rfl, rfl, rfl, rfl, rfl, trivial⟩, ((((X15.stepx x46).step y (f75.dom _)).stepx xc).step y72 (f.dom _)), o70, ex71, f77, ((ex52.ext xc).but y72 d), ((ex53.ext xc).but y72 d14), (DomLe.dj dm d (ex52.ext xc)), (DomLe.dj dm d14 (ex53.ext xc))⟩
   have H := H.2 hc56
   refine W_skip ?_
   have f83 := f48.mono X15.size
   exact ⟨out, H, _, sl a12 out c13, hx8, env_eq ⟨rfl, rfl, rfl, rfl, rfl, trivial⟩, (((X15.stepx x46).step y (f83.dom _)).stepx x55), o, (((ex9.ext x46).but y (Dj.of_fresh ex9 f48).symm).ext x55), f, (ex52.ext x55), (ex53.ext x55), d, d14⟩
  rintro out16 _ wx22 ⟨H, ρ, vx17, hx18, rfl, HF⟩
  revert HF
  refine bb8 fun X29 o19 ex20 f21 ex23 ex24 d27 d28 => ?_
  subst hk
  obtain ⟨a25, c26, rfl⟩ := o19.shape
  refine W_region ?_
  refine LP_ev ok 0 [(22, I (wr (x + 1))), (10, I (wr (x + 1)))] 2 rfl rfl ?_
  exact LP_end _ rfl ⟨(out16, wr (x + 1)), ⟨H.1, _, sl a25 out16 c26, hx18, env_eq ⟨rfl, rfl, rfl, rfl, rfl, trivial⟩, X29, o19, ex20, f21, ex23, ex24, d27, d28⟩, H.2⟩
 have H := H.2 hc
 refine W_exit ?_
 refine (if_pos rfl).mpr ?_
 refine W_seq (W_region ?_)
 refine LP_ev ok 0 [(23, sl a12 out c13), (4, sl a12 out c13)] 2 rfl rfl ?_
 refine LP_end _ rfl (W_ret ?_)
 exact ⟨_, Ret_of [sl a12 out c13] ⟨⟨rfl, rfl⟩, trivial⟩, _, _, _, H, rfl, X15.ext, o, ex9, f⟩

theorem spec_iBits_w (mask : Int) (Q : (List Int) → Prop) (H : spec_iBits mask Q) (w : World)  :
  CallsTo Try.prog 93 #[I mask] w fun v w' => ∃ r0 u0 g0, Q r0 ∧ v = u0 ∧ Ext w w' ∧ OS 3 g0 emp u0 r0 ∧ Sub g0 w' ∧ Fresh w.heap.size g0 := by
 refine enter (args := [I mask]) 23 Try.func93 rfl rfl rfl ?_
 refine W_forget [(0, I mask)] ⟨rfl, trivial⟩ fun ρ => ?_
 have X := But.refl emp w
 refine W_seq (W_region ?_)
 refine LP_ev ok 0 [(2, .slice none 0 0)] 1 rfl rfl ?_
 refine LP_end _ rfl (W_seq (W_region ?_))
 refine LP_ev ok 0 [(3, .slice none 0 0)] 1 rfl rfl ?_
 refine LP_end _ rfl (W_seq ?_)
 refine W_seq (W_region ?_)
 refine LP_ev ok 0 [(4, I 0)] 1 rfl rfl ?_
 refine LP_end _ rfl ?_
 refine W_block ?_
 obtain ⟨J, m, Hx, H⟩ := H
 refine W_loop (S := (List Int) × Int) (fun s ρ' w' => J s.1 s.2 ∧ ∃ (ρ : Env) (vx : Value) (hx : PH), ρ' = setAll [(0, I mask), (3, vx), (4, I s.2)] ρ ∧ But emp w w' ∧ OS 3 hx emp vx s.1 ∧ Sub hx w' ∧ Fresh w.heap.size hx) (fun s => m s.1 s.2) ([], 0) ⟨Hx, _, .slice none 0 0, emp, env_eq ⟨rfl, rfl, rfl, trivial⟩, X, OS.nil, (emp_sub _), (emp_fresh _)⟩ ?_
 rintro ⟨out, i⟩ _ wx ⟨Hi, ρ, vx, hx, rfl, X1, o, ex, f⟩
 have H := H out i Hi
 obtain ⟨a, c, rfl⟩ := o.shape
 refine W_seq ?_
 refine W_seq (W_region ?_)
 refine LP_ev ok 0 [(5, I mask), (6, I i), (7, .int .u64 (IntKind.u64.wrap (i)))] 3 rfl rfl ?_
 obtain ⟨hz, H⟩ := H
 refine LP_val 3 _ rfl rfl (ex_shr rfl rfl rfl hz _) ?_
 refine LP_ev ok 4 [(9, .bool (decide ((shr .i64 mask (IntKind.u64.wrap (i))) > 0)))] 5 rfl rfl ?_
 refine LP_end _ rfl ?_
 refine W_cond (decide ((shr .i64 mask (IntKind.u64.wrap (i))) > 0)) rfl (fun hc => ?_) (fun hc => ?_)
 ·have H := H.1 hc
  refine W_skip ?_
  obtain ⟨k, hk, H⟩ := jn_elim H
  refine W_join2 (S := (List Int)) (fun s ρ' w' => k s ∧ ∃ (ρ : Env) (vx3 : Value) (hx4 : PH), ρ' = setAll [(0, I mask), (3, vx3), (4, I i)] ρ ∧ But emp w w' ∧ OS 3 hx4 emp vx3 s ∧ Sub hx4 w' ∧ Fresh w.heap.size hx4) ?_ ?_
  ·refine W_block ?_
   refine W_seq (W_region ?_)
   refine LP_ev ok 0 [(12, I mask), (13, I i), (14, .int .u64 (IntKind.u64.wrap (i)))] 3 rfl rfl ?_
   obtain ⟨hz12, H⟩ := H
   refine LP_val 3 _ rfl rfl (ex_shr rfl rfl rfl hz12 _) ?_
   refine LP_ev ok 4 [(16, I (bits .and .i64 (shr .i64 mask (IntKind.u64.wrap (i))) 1)), (17, .bool ((bits .and .i64 (shr .i64 mask (IntKind.u64.wrap (i))) 1) == 1))] 6 rfl rfl ?_
   refine LP_end _ rfl ?_
   refine W_cond ((bits .and .i64 (shr .i64 mask (IntKind.u64.wrap (i))) 1) == 1) rfl (fun hc13 => ?_) (fun hc13 => ?_)
   ·have H := H.1 hc13
    refine W_region ?_
    refine LP_ev ok 0 [(18, sl a out c), (19, I i)] 2 rfl rfl ?_
    refine LP_lit (α := Int) (g := emp) 2 (vs := [I i]) (xs := [i]) rfl rfl rfl Try.underlying25 ti_3 rfl rfl ⟨⟨_, rfl, rfl⟩, trivial⟩ rfl rfl fun hx14 vx15 wx16 x o17 ex18 f19 => ?_
    obtain ⟨a20, c21, rfl⟩ := o17.shape
    obtain ⟨hb, H⟩ := H
    refine LP_appendf (α := Int) 3 rfl rfl rfl Try.underlying25 ti_3 rfl rfl rfl o (ex.ext x) o17.readf ex18 (by first | omega | (simp only [ln] at *; omega)) (by first | omega | (simp only [ln] at *; omega)) fun hx23 vx24 wx25 o26 ex27 y dm => ?_
    obtain ⟨a28, c29, rfl⟩ := o26.shape
    refine LP_ev ok 4 [(3, .slice a28 (List.length (out ++ ([i]))) c29)] 5 rfl rfl ?_
    refine LP_end _ rfl ?_
    have f31 := dm.fresh f (X1.stepx x).size
    exact ⟨out ++ ([i]), H, _, .slice a28 (List.length (out ++ ([i]))) c29, hx23, env_eq ⟨rfl, rfl, rfl, trivial⟩, ((X1.stepx x).step y (f.dom _)), o26, ex27, f31⟩
   have H := H.2 hc13
   exact W_skip ⟨out, H, _, sl a out c, hx, env_eq ⟨rfl, rfl, rfl, trivial⟩, X1, o, ex, f⟩
  rintro out2 _ wx8 ⟨H, ρ, vx3, hx4, rfl, X11, o5, ex6, f7⟩
  subst hk
  obtain ⟨a9, c10, rfl⟩ := o5.shape
  refine W_region ?_
  refine LP_ev ok 0 [(10, I i), (11, I (wr (i + 1))), (4, I (wr (i + 1)))] 3 rfl rfl ?_
  exact LP_end _ rfl ⟨(out2, wr (i + 1)), ⟨H.1, _, sl a9 out2 c10, hx4, env_eq ⟨rfl, rfl, rfl, trivial⟩, X11, o5, ex6, f7⟩, H.2⟩
 have H := H.2 hc
 refine W_exit ?_
 refine (if_pos rfl).mpr ?_
 refine W_seq (W_region ?_)
 refine LP_ev ok 0 [(22, sl a out c), (2, sl a out c)] 2 rfl rfl ?_
 refine LP_end _ rfl (W_ret ?_)
 exact ⟨_, Ret_of [sl a out c] ⟨⟨rfl, rfl⟩, trivial⟩, _, _, _, H, rfl, X1.ext, o, ex, f⟩

theorem spec_iSum_w (wx : List Int) (vars : List Int) (Q : Int → Prop) (H : spec_iSum wx vars Q) (w : World) {vx : Value} {hx : PH} (r : RS hx vx wx) (ex : Sub hx w) {vx1 : Value} {hx2 : PH} (r3 : RS hx2 vx1 vars) (ex4 : Sub hx2 w) :
  CallsTo Try.prog 94 #[vx, vx1] w fun v w' => ∃ r0, Q r0 ∧ v = I r0 ∧ Ext w w' := by
 obtain ⟨a, c, rfl⟩ := r.shape
 obtain ⟨a5, c6, rfl⟩ := r3.shape
 refine enter (args := [sl a wx c, sl a5 vars c6]) 22 Try.func94 rfl rfl rfl ?_
 refine W_forget [(0, sl a wx c), (1, sl a5 vars c6)] ⟨rfl, rfl, trivial⟩ fun ρ => ?_
 have X := But.refl emp w
 refine W_seq (W_region ?_)
 refine LP_ev ok 0 [(4, I 0)] 1 rfl rfl ?_
 refine LP_end _ rfl (W_seq (W_region ?_))
 refine LP_ev ok 0 [(5, I 0)] 1 rfl rfl ?_
 refine LP_end _ rfl (W_seq ?_)
 refine W_seq (W_region ?_)
 refine LP_ev ok 0 [(8, sl a5 vars c6), (9, I (ln vars)), (10, I 0)] 3 rfl rfl ?_
 refine LP_end _ rfl ?_
 refine W_block ?_
 obtain ⟨J, m, Hx, H⟩ := H
 refine W_loop (S := Int × Int) (fun s ρ' w' => J s.1 s.2 ∧ ∃ (ρ : Env), ρ' = setAll [(0, sl a wx c), (5, I s.1), (8, sl a5 vars c6), (9, I (ln vars)), (10, I s.2)] ρ ∧ w = w') (fun s => m s.1 s.2) (0, 0) ⟨Hx, _, env_eq ⟨rfl, rfl, rfl, rfl, rfl, trivial⟩, rfl⟩ ?_
 rintro ⟨n, x⟩ _ _ ⟨Hi, ρ, rfl, rfl⟩
 have H := H n x Hi
 refine W_seq (W_region ?_)
 refine LP_ev ok 0 [(11, .bool (decide (x < (ln vars))))] 1 rfl rfl ?_
 refine LP_end _ rfl (W_seq ?_)
 refine W_cond (decide (x < (ln vars))) rfl (fun hc => ?_) (fun hc => ?_)
 ·have H := H.1 hc
  refine W_skip ?_
  refine W_seq ?_
  refine W_block ?_
  refine W_seq (W_region ?_)
  obtain ⟨x8, hi, hx9, H⟩ := H
  refine LP_index 0 rfl rfl rfl Try.underlying25 ti_3 rfl rfl r3 hi hx9 fun a10 cs r11 d => ?_
  refine LP_load 1 rfl rfl rfl ti_3 ag_3 rfl r11 d ex4 fun vx12 r13 => ?_
  obtain rfl := r13.int
  refine LP_ev ok 2 [(7, I x8)] 3 rfl rfl ?_
  refine LP_end _ rfl ?_
  refine W_region ?_
  refine LP_ev ok 0 [(14, I n), (15, sl a wx c), (16, I x8)] 3 rfl rfl ?_
  obtain ⟨x14, hi15, hx16, H⟩ := H
  refine LP_index 3 rfl rfl rfl Try.underlying25 ti_3 rfl rfl r hi15 hx16 fun a17 cs18 r19 d20 => ?_
  refine LP_load 4 rfl rfl rfl ti_3 ag_3 rfl r19 d20 ex fun vx21 r22 => ?_
  obtain rfl := r22.int
  refine LP_ev ok 5 [(19, I (wr (n + x14))), (5, I (wr (n + x14)))] 7 rfl rfl ?_
  refine LP_end _ rfl ?_
  refine W_region ?_
  refine LP_ev ok 0 [(20, I (wr (x + 1))), (10, I (wr (x + 1)))] 2 rfl rfl ?_
  exact LP_end _ rfl ⟨(wr (n + x14), wr (x + 1)), ⟨H.1, _, env_eq ⟨rfl, rfl, rfl, rfl, rfl, trivial⟩, rfl⟩, H.2⟩
 have H := H.2 hc
 refine W_exit ?_
 refine (if_pos rfl).mpr ?_
 refine W_seq (W_region ?_)
 refine LP_ev ok 0 [(21, I n), (4, I n)] 2 rfl rfl ?_
 refine LP_end _ rfl (W_ret ?_)
 exact ⟨_, Ret_of [I n] ⟨⟨rfl, rfl⟩, trivial⟩, _, H, rfl, X.ext⟩

theorem spec_l1Has_w (l : List Int) (n : Int) (Q : Bool → Prop) (H : spec_l1Has l n Q) (w : World) {vx : Value} {hx : PH} (r : RS hx vx l) (ex : Sub hx w) :
  CallsTo Try.prog 99 #[vx, I n] w fun v w' => ∃ r0, Q r0 ∧ v = .bool r0 ∧ Ext w w' := by
 obtain ⟨a, c, rfl⟩ := r.shape
 refine enter (args := [sl a l c, I n]) 17 Try.func99 rfl rfl rfl ?_
 refine W_forget [(0, sl a l c), (1, I n)] ⟨rfl, rfl, trivial⟩ fun ρ => ?_
 have X := But.refl emp w
 refine W_seq (W_region ?_)
 refine LP_ev ok 0 [(4, .bool false)] 1 rfl rfl ?_
 refine LP_end _ rfl (W_seq ?_)
 refine W_seq (W_region ?_)
 refine LP_ev ok 0 [(7, sl a l c), (8, I (ln l)), (9, I 0)] 3 rfl rfl ?_
 refine LP_end _ rfl ?_
 refine W_block ?_
 obtain ⟨J, m, Hx, H⟩ := H
 refine W_loop (S := Int) (fun s ρ' w' => J s ∧ ∃ (ρ : Env), ρ' = setAll [(1, I n), (7, sl a l c), (8, I (ln l)), (9, I s)] ρ ∧ w = w') (fun s => m s) 0 ⟨Hx, _, env_eq ⟨rfl, rfl, rfl, rfl, trivial⟩, rfl⟩ ?_
 rintro x _ _ ⟨Hi, ρ, rfl, rfl⟩
 have H := H x Hi
 refine W_seq (W_region ?_)
 refine LP_ev ok 0 [(10, .bool (decide (x < (ln l))))] 1 rfl rfl ?_
 refine LP_end _ rfl (W_seq ?_)
 refine W_cond (decide (x < (ln l))) rfl (fun hc => ?_) (fun hc => ?_)
 ·have H := H.1 hc
  refine W_skip ?_
  refine W_seq ?_
  refine W_block ?_
  refine W_seq (W_region ?_)
  obtain ⟨x1, hi, hx2, H⟩ := H
  refine LP_index 0 rfl rfl rfl Try.underlying25 ti_3 rfl rfl r hi hx2 fun a3 cs r4 d => ?_
  refine LP_load 1 rfl rfl rfl ti_3 ag_3 rfl r4 d ex fun vx5 r6 => ?_
  obtain rfl := r6.int
  refine LP_ev ok 2 [(6, I x1)] 3 rfl rfl ?_
  refine LP_end _ rfl (W_seq (W_region ?_))
  refine LP_ev ok 0 [(13, I x1), (14, I n), (15, .bool (x1 == n))] 3 rfl rfl ?_
  refine LP_end _ rfl ?_
  refine W_cond (x1 == n) rfl (fun hc7 => ?_) (fun hc7 => ?_)
  ·have H := H.1 hc7
   refine W_seq (W_region ?_)
   refine LP_ev ok 0 [(4, .bool true)] 1 rfl rfl ?_
   refine LP_end _ rfl (W_ret ?_)
   exact ⟨_, Ret_of [.bool true] ⟨⟨rfl, rfl⟩, trivial⟩, _, H, rfl, X.ext⟩
  have H := H.2 hc7
  refine W_skip ?_
  refine W_region ?_
  refine LP_ev ok 0 [(16, I (wr (x + 1))), (9, I (wr (x + 1)))] 2 rfl rfl ?_
  exact LP_end _ rfl ⟨wr (x + 1), ⟨H.1, _, env_eq ⟨rfl, rfl, rfl, rfl, trivial⟩, rfl⟩, H.2⟩
 have H := H.2 hc
 refine W_exit ?_
 refine (if_pos rfl).mpr ?_
 refine W_seq (W_region ?_)
 refine LP_ev ok 0 [(4, .bool false)] 1 rfl rfl ?_
 refine LP_end _ rfl (W_ret ?_)
 exact ⟨_, Ret_of [.bool false] ⟨⟨rfl, rfl⟩, trivial⟩, _, H, rfl, X.ext⟩

theorem spec_iOthers_w (sx : List Variable) (vars : List Int) (Q : (List Int) → Prop) (H : spec_iOthers sx vars Q) (w : World) {vx : Value} {hx : PH} (r : RS hx vx sx) (ex : Sub hx w) {vx1 : Value} {hx2 : PH} (r3 : RS hx2 vx1 vars) (ex4 : Sub hx2 w) :
  CallsTo Try.prog 89 #[vx, vx1] w fun v w' => ∃ r0 u0 g0, Q r0 ∧ v = u0 ∧ Ext w w' ∧ OS 3 g0 emp u0 r0 ∧ Sub g0 w' ∧ Fresh w.heap.size g0 := by
 obtain ⟨a, c, rfl⟩ := r.shape
 obtain ⟨a5, c6, rfl⟩ := r3.shape
 refine enter (args := [sl a sx c, sl a5 vars c6]) 22 Try.func89 rfl rfl rfl ?_
 refine W_forget [(0, sl a sx c), (1, sl a5 vars c6)] ⟨rfl, rfl, trivial⟩ fun ρ => ?_
 have X := But.refl emp w
 refine W_seq (W_region ?_)
 refine LP_ev ok 0 [(4, .slice none 0 0)] 1 rfl rfl ?_
 refine LP_end _ rfl (W_seq (W_region ?_))
 refine LP_ev ok 0 [(5, .slice none 0 0)] 1 rfl rfl ?_
 refine LP_end _ rfl (W_seq ?_)
 refine W_seq (W_region ?_)
 refine LP_ev ok 0 [(7, sl a sx c), (8, I (ln sx)), (9, I 0)] 3 rfl rfl ?_
 refine LP_end _ rfl ?_
 refine W_block ?_
 obtain ⟨J, m, Hx, H⟩ := H
 refine W_loop (S := (List Int) × Int) (fun s ρ' w' => J s.1 s.2 ∧ ∃ (ρ : Env) (vx7 : Value) (hx8 : PH), ρ' = setAll [(1, sl a5 vars c6), (5, vx7), (8, I (ln sx)), (9, I s.2)] ρ ∧ But emp w w' ∧ OS 3 hx8 emp vx7 s.1 ∧ Sub hx8 w' ∧ Fresh w.heap.size hx8 ∧ Sub hx2 w' ∧ Dj hx8 hx2) (fun s => m s.1 s.2) ([], 0) ⟨Hx, _, .slice none 0 0, emp, env_eq ⟨rfl, rfl, rfl, rfl, trivial⟩, X, OS.nil, (emp_sub _), (emp_fresh _), ex4, (fun _ => .inl rfl)⟩ ?_
 rintro ⟨out, x⟩ _ wx ⟨Hi, ρ, vx7, hx8, rfl, HF⟩
 revert HF
 refine bb6 fun X13 o ex9 f ex10 d => ?_
 have H := H out x Hi
 obtain ⟨a11, c12, rfl⟩ := o.shape
 refine W_seq (W_region ?_)
 refine LP_ev ok 0 [(10, .bool (decide (x < (ln sx))))] 1 rfl rfl ?_
 refine LP_end _ rfl (W_seq ?_)
 refine W_cond (decide (x < (ln sx))) rfl (fun hc => ?_) (fun hc => ?_)
 ·have H := H.1 hc
  refine W_skip ?_
  obtain ⟨k, hk, H⟩ := jn_elim H
  refine W_join2 (S := (List Int)) (fun s ρ' w' => k s ∧ ∃ (ρ : Env) (vx15 : Value) (hx16 : PH), ρ' = setAll [(1, sl a5 vars c6), (5, vx15), (8, I (ln sx)), (9, I x)] ρ ∧ But emp w w' ∧ OS 3 hx16 emp vx15 s ∧ Sub hx16 w' ∧ Fresh w.heap.size hx16 ∧ Sub hx2 w' ∧ Dj hx16 hx2) ?_ ?_
  ·refine W_block ?_
   refine W_seq (W_region ?_)
   refine LP_ev ok 0 [(11, I x), (6, I x)] 2 rfl rfl ?_
   refine LP_end _ rfl (W_seq (W_region ?_))
   refine LP_ev ok 0 [(12, sl a5 vars c6), (13, I x)] 2 rfl rfl ?_
   refine LP_call 2 rfl rfl rfl cal_99 rfl (spec_l1Has_w _ _ _ H wx r3 ex10) ?_
   rintro _ wx27 ⟨r26, H, rfl, x28⟩
   refine LP_ev ok 3 [(15, .bool (!r26))] 4 rfl rfl ?_
   refine LP_end _ rfl ?_
   refine W_cond (!r26) rfl (fun hc29 => ?_) (fun hc29 => ?_)
   ·have H := H.1 hc29
    refine W_region ?_
    refine LP_ev ok 0 [(16, sl a11 out c12), (17, I x)] 2 rfl rfl ?_
    refine LP_lit (α := Int) (g := emp) 2 (vs := [I x]) (xs := [x]) rfl rfl rfl Try.underlying25 ti_3 rfl rfl ⟨⟨_, rfl, rfl⟩, trivial⟩ rfl rfl fun hx30 vx31 wx32 x33 o34 ex35 f36 => ?_
    obtain ⟨a37, c38, rfl⟩ := o34.shape
    have xc := (x28.trans x33)
    obtain ⟨hb, H⟩ := H
    refine LP_appendf (α := Int) 3 rfl rfl rfl Try.underlying25 ti_3 rfl rfl rfl o (ex9.ext xc) o34.readf ex35 (by first | omega | (simp only [ln] at *; omega)) (by first | omega | (simp only [ln] at *; omega)) fun hx40 vx41 wx42 o43 ex44 y dm => ?_
    obtain ⟨a45, c46, rfl⟩ := o43.shape
    refine LP_ev ok 4 [(5, .slice a45 (List.length (out ++ ([x]))) c46)] 5 rfl rfl ?_
    refine LP_end _ rfl ?_
    have f48 := dm.fresh f (X13.stepx xc).size
    exact ⟨out ++ ([x]), H, _, .slice a45 (List.length (out ++ ([x]))) c46, hx40, env_eq ⟨rfl, rfl, rfl, rfl, trivial⟩, ((X13.stepx xc).step y (f.dom _)), o43, ex44, f48, ((ex10.ext xc).but y d), (DomLe.dj dm d (ex10.ext xc))⟩
   have H := H.2 hc29
   exact W_skip ⟨out, H, _, sl a11 out c12, hx8, env_eq ⟨rfl, rfl, rfl, rfl, trivial⟩, (X13.stepx x28), o, (ex9.ext x28), f, (ex10.ext x28), d⟩
  rintro out14 _ wx20 ⟨H, ρ, vx15, hx16, rfl, HF⟩
  revert HF
  refine bb6 fun X25 o17 ex18 f19 ex21 d24 => ?_
  subst hk
  obtain ⟨a22, c23, rfl⟩ := o17.shape
  refine W_region ?_
  refine LP_ev ok 0 [(20, I (wr (x + 1))), (9, I (wr (x + 1)))] 2 rfl rfl ?_
  exact LP_end _ rfl ⟨(out14, wr (x + 1)), ⟨H.1, _, sl a22 out14 c23, hx16, env_eq ⟨rfl, rfl, rfl, rfl, trivial⟩, X25, o17, ex18, f19, ex21, d24⟩, H.2⟩
 have H := H.2 hc
 refine W_exit ?_
 refine (if_pos rfl).mpr ?_
 refine W_seq (W_region ?_)
 refine LP_ev ok 0 [(21, sl a11 out c12), (4, sl a11 out c12)] 2 rfl rfl ?_
 refine LP_end _ rfl (W_ret ?_)
 exact ⟨_, Ret_of [sl a11 out c12] ⟨⟨rfl, rfl⟩, trivial⟩, _, _, _, H, rfl, X13.ext, o, ex9, f⟩

theorem spec_sAt_w (sx : List Variable) (i : Int) (Q : (List Int) → Prop) (H : spec_sAt sx i Q) (w : World) {vx : Value} {hx : PH} (r : RS hx vx sx) (ex : Sub hx w) :
  CallsTo Try.prog 97 #[vx, I i] w fun v w' => ∃ r0 u0 g0, Q r0 ∧ v = u0 ∧ Ext w w' ∧ OS 3 g0 emp u0 r0 ∧ Sub g0 w' ∧ Fresh w.heap.size g0 := by
 obtain ⟨a, c, rfl⟩ := r.shape
 refine enter (args := [sl a sx c, I i]) 35 Try.func97 rfl rfl rfl ?_
 refine W_forget [(0, sl a sx c), (1, I i)] ⟨rfl, rfl, trivial⟩ fun ρ => ?_
 have X := But.refl emp w
 refine W_seq (W_region ?_)
 refine LP_ev ok 0 [(4, .slice none 0 0)] 1 rfl rfl ?_
 refine LP_end _ rfl (W_seq (W_region ?_))
 refine LP_ev ok 0 [(7, sl a sx c), (8, I (ln sx))] 2 rfl rfl ?_
 obtain ⟨hn, hb, H⟩ := H
 refine LP_make (α := Int) 2 rfl rfl rfl Try.underlying25 ti_3 (x0 := (0 : Int)) rfl rfl hn (by first | omega | (simp only [ln] at *; omega)) (by first | omega | (simp only [ln] at *; omega)) fun hx1 vx2 wx x o ex3 f => ?_
 obtain ⟨a4, c5, rfl⟩ := o.shape
 refine LP_ev ok 3 [(5, .slice a4 (List.length (List.replicate (Int.toNat (ln sx)) ((0 : Int)))) c5)] 4 rfl rfl ?_
 refine LP_end _ rfl (W_seq ?_)
 refine W_seq (W_region ?_)
 refine LP_ev ok 0 [(10, sl a sx c), (11, I (ln sx)), (12, I (wr ((ln sx) - 1))), (6, I (wr ((ln sx) - 1)))] 4 rfl rfl ?_
 refine LP_end _ rfl ?_
 refine W_block ?_
 have f16 := f.mono X.size
 obtain ⟨J, m, Hx, H⟩ := H
 refine W_loop (S := Int × (List Int) × Int) (fun s ρ' w' => J s.1 s.2.1 s.2.2 ∧ ∃ (ρ : Env) (hx8 : PH), ρ' = setAll [(0, sl a sx c), (1, I s.1), (5, .slice a4 (List.length (List.replicate (Int.toNat (ln sx)) ((0 : Int)))) c5), (6, I s.2.2)] ρ ∧ But emp w w' ∧ OS 3 hx8 emp (.slice a4 (List.length (List.replicate (Int.toNat (ln sx)) ((0 : Int)))) c5) s.2.1 ∧ Sub hx8 w' ∧ Fresh w.heap.size hx8 ∧ Sub hx w' ∧ Dj hx8 hx) (fun s => m s.1 s.2.1 s.2.2) (i, List.replicate (Int.toNat (ln sx)) ((0 : Int)), wr ((ln sx) - 1)) ⟨Hx, _, hx1, env_eq ⟨rfl, rfl, rfl, rfl, trivial⟩, (X.stepx x), o, ex3, f16, (ex.ext x), (Dj.of_fresh ex f).symm⟩ ?_
 rintro ⟨i6, out, k⟩ _ wx12 ⟨Hi, ρ, hx8, rfl, HF⟩
 revert HF
 refine bb6 fun X14 o9 ex10 f11 ex13 d => ?_
 have H := H i6 out k Hi
 refine W_seq ?_
 refine W_seq (W_region ?_)
 refine LP_ev ok 0 [(13, I k), (14, .bool (decide (k ≥ 0)))] 2 rfl rfl ?_
 refine LP_end _ rfl ?_
 refine W_cond (decide (k ≥ 0)) rfl (fun hc => ?_) (fun hc => ?_)
 ·have H := H.1 hc
  refine W_skip ?_
  refine W_seq ?_
  refine W_block ?_
  refine W_seq (W_region ?_)
  refine LP_ev ok 0 [(17, .slice a4 (List.length (List.replicate (Int.toNat (ln sx)) ((0 : Int)))) c5), (18, I k), (19, I i6), (20, sl a sx c), (21, I k)] 5 rfl rfl ?_
  obtain ⟨x18, hi, hx19, H⟩ := H
  refine LP_index 5 rfl rfl rfl Try.underlying23 ti_90 rfl rfl r hi hx19 fun a20 cs r21 d22 => ?_
  refine LP_ev ok 6 [(23, .pointer (some (Addr.add a20 1)))] 7 rfl rfl ?_
  refine LP_ldfld (x := x18) (off := 1) 7 (v := I x18.Levels) rfl rfl rfl ti_3 ag_3 (fun _ => rfl) rfl r21 d22 ex13 rfl rfl ?_
  obtain ⟨hz, H⟩ := H
  refine LP_val 8 _ rfl rfl (ex_rem rfl rfl rfl hz _) ?_
  obtain ⟨hi23, hl, H⟩ := H
  refine LP_indexw (v := .slice a4 (List.length (List.replicate (Int.toNat (ln sx)) ((0 : Int)))) c5) 9 rfl rfl rfl Try.underlying25 ti_3 rfl rfl o9 hi23 hl fun a24 wa => ?_
  refine LP_set 10 rfl rfl rfl rfl rfl wa (Le.refl emp) ⟨_, rfl, rfl⟩ ex10 fun hx25 wx26 o27 ex28 y dm => ?_
  refine LP_end _ rfl ?_
  refine W_region ?_
  refine LP_ev ok 0 [(27, I i6), (28, sl a sx c), (29, I k)] 3 rfl rfl ?_
  obtain ⟨x29, hi30, hx31, H⟩ := H
  refine LP_index 3 rfl rfl rfl Try.underlying23 ti_90 rfl rfl r hi30 hx31 fun a32 cs33 r34 d35 => ?_
  refine LP_ev ok 4 [(31, .pointer (some (Addr.add a32 1)))] 5 rfl rfl ?_
  have ex36 := (ex13.but y d)
  refine LP_ldfld (x := x29) (off := 1) 5 (v := I x29.Levels) rfl rfl rfl ti_3 ag_3 (fun _ => rfl) rfl r34 d35 ex36 rfl rfl ?_
  obtain ⟨hz37, H⟩ := H
  refine LP_val 6 _ rfl rfl (ex_quo rfl rfl rfl hz37 _) ?_
  refine LP_ev ok 7 [(1, I (wr (Int.tdiv i6 x29.Levels)))] 8 rfl rfl ?_
  refine LP_end _ rfl ?_
  refine W_region ?_
  refine LP_ev ok 0 [(15, I k), (16, I (wr (k - 1))), (6, I (wr (k - 1)))] 3 rfl rfl ?_
  refine LP_end _ rfl ?_
  have f39 := (dm _).fresh f11 X14.size
  exact ⟨(wr (Int.tdiv i6 x29.Levels), List.set out (Int.toNat k) (Int.tmod i6 x18.Levels), wr (k - 1)), ⟨H.1, _, hx25, env_eq ⟨rfl, rfl, rfl, rfl, trivial⟩, (X14.step y (f11.dom _)), o27, ex28, f39, ex36, (DomLe.dj (dm _) d ex13)⟩, H.2⟩
 have H := H.2 hc
 refine W_exit ?_
 refine (if_pos rfl).mpr ?_
 refine W_seq (W_region ?_)
 refine LP_ev ok 0 [(34, .slice a4 (List.length (List.replicate (Int.toNat (ln sx)) ((0 : Int)))) c5), (4, .slice a4 (List.length (List.replicate (Int.toNat (ln sx)) ((0 : Int)))) c5)] 2 rfl rfl ?_
 refine LP_end _ rfl (W_ret ?_)
 exact ⟨_, Ret_of [.slice a4 (List.length (List.replicate (Int.toNat (ln sx)) ((0 : Int)))) c5] ⟨⟨rfl, rfl⟩, trivial⟩, _, _, _, H, rfl, X14.ext, o9, ex10, f11⟩

theorem spec_eComplete_w (sx : List Variable) (l : List Edit) (fixed : List Int) (values : List Int) (Q : (List Int) → Bool → Prop) (H : spec_eComplete sx l fixed values Q) (w : World) {vx : Value} {hx : PH} (r : RS hx vx sx) (ex : Sub hx w) {vx1 : Value} {hx2 : PH} (r3 : RS hx2 vx1 l) (ex4 : Sub hx2 w) {vx7 : Value} {hx8 : PH} (r9 : RS hx8 vx7 fixed) (ex10 : Sub hx8 w) {vx13 : Value} {hx14 : PH} (r15 : RS hx14 vx13 values) (ex16 : Sub hx14 w) :
  CallsTo Try.prog 88 #[vx, vx1, vx7, vx13] w fun v w' => ∃ r0 r1 u0 g0, Q r0 r1 ∧ v = .tuple #[u0, .bool r1] ∧ Ext w w' ∧ OS 3 g0 emp u0 r0 ∧ Sub g0 w' ∧ Fresh w.heap.size g0 := by
 obtain ⟨a, c, rfl⟩ := r.shape
 obtain ⟨a5, c6, rfl⟩ := r3.shape
 obtain ⟨a11, c12, rfl⟩ := r9.shape
 obtain ⟨a17, c18, rfl⟩ := r15.shape
 refine enter (args := [sl a sx c, sl a5 l c6, sl a11 fixed c12, sl a17 values c18]) 50 Try.func88 rfl rfl rfl ?_
 refine W_forget [(0, sl a sx c), (1, sl a5 l c6), (2, sl a11 fixed c12), (3, sl a17 values c18)] ⟨rfl, rfl, rfl, rfl, trivial⟩ fun ρ => ?_
 have X := But.refl emp w
 refine W_seq (W_region ?_)
 refine LP_ev ok 0 [(8, .slice none 0 0), (9, .bool false)] 2 rfl rfl ?_
 refine LP_end _ rfl (W_seq ?_)
 refine W_seq (W_region ?_)
 refine LP_ev ok 0 [(10, I 0)] 1 rfl rfl ?_
 refine LP_end _ rfl ?_
 refine W_block ?_
 obtain ⟨J, m, Hx, H⟩ := H
 refine W_loop (S := Int) (fun s ρ' w' => J s ∧ ∃ (ρ : Env), ρ' = setAll [(0, sl a sx c), (1, sl a5 l c6), (2, sl a11 fixed c12), (3, sl a17 values c18), (10, I s)] ρ ∧ But emp w w' ∧ Sub hx w' ∧ Sub hx2 w' ∧ Sub hx8 w' ∧ Sub hx14 w') (fun s => m s) 0 ⟨Hx, _, env_eq ⟨rfl, rfl, rfl, rfl, rfl, trivial⟩, X, ex, ex4, ex10, ex16⟩ ?_
 rintro i _ wx ⟨Hi, ρ, rfl, HF⟩
 revert HF
 refine bb5 fun X23 ex19 ex20 ex21 ex22 => ?_
 have H := H i Hi
 refine W_seq ?_
 refine W_seq (W_region ?_)
 refine LP_ev ok 0 [(15, I i), (16, sl a sx c)] 2 rfl rfl ?_
 refine LP_call 2 rfl rfl rfl cal_67 rfl (spec_sCount_w _ _ H wx r ex19) ?_
 rintro _ wx25 ⟨r24, H, rfl, x⟩
 refine LP_ev ok 3 [(18, .bool (decide (i < r24)))] 4 rfl rfl ?_
 refine LP_end _ rfl ?_
 refine W_cond (decide (i < r24)) rfl (fun hc => ?_) (fun hc => ?_)
 ·have H := H.1 hc
  refine W_skip ?_
  refine W_seq ?_
  refine W_block ?_
  refine W_seq (W_region ?_)
  refine LP_ev ok 0 [(21, sl a sx c), (22, I i)] 2 rfl rfl ?_
  have ex27 := (ex19.ext x)
  refine LP_call 2 rfl rfl rfl cal_97 rfl (spec_sAt_w _ _ _ H wx25 r ex27) ?_
  rintro _ wx28 ⟨r26, vx30, hx31, H, rfl, x29, o, ex32, f⟩
  obtain ⟨a33, c34, rfl⟩ := o.shape
  refine LP_ev ok 3 [(11, sl a33 r26 c34)] 4 rfl rfl ?_
  refine LP_end _ rfl (W_seq (W_region ?_))
  refine LP_ev ok 0 [(24, sl a5 l c6), (25, sl a33 r26 c34)] 2 rfl rfl ?_
  have xc := (x.trans x29)
  have ex36 := (ex20.ext xc)
  refine LP_call 2 rfl rfl rfl cal_40 rfl (spec_eFailed_w _ _ _ H wx28 r3 ex36 o.readf ex32) ?_
  rintro _ wx37 ⟨r35, vx39, hx40, H, rfl, x38, o41, ex42, f43⟩
  obtain ⟨a44, c45, rfl⟩ := o41.shape
  refine LP_ev ok 3 [(27, I (ln r35)), (28, .bool ((ln r35) == 0)), (12, .bool ((ln r35) == 0))] 6 rfl rfl ?_
  refine LP_end _ rfl (W_seq ?_)
  refine W_seq (W_region ?_)
  refine LP_ev ok 0 [(29, sl a11 fixed c12), (30, I (ln fixed)), (31, I 0)] 3 rfl rfl ?_
  refine LP_end _ rfl ?_
  refine W_block ?_
  have xc57 := (xc.trans x38)
  obtain ⟨J54, m55, Hx56, H⟩ := H
  refine W_loop (S := Bool × Int) (fun s ρ' w' => J54 s.1 s.2 ∧ ∃ (ρ : Env), ρ' = setAll [(0, sl a sx c), (1, sl a5 l c6), (2, sl a11 fixed c12), (3, sl a17 values c18), (10, I i), (11, sl a33 r26 c34), (12, .bool s.1), (29, sl a11 fixed c12), (30, I (ln fixed)), (31, I s.2)] ρ ∧ But emp w w' ∧ Sub hx w' ∧ Sub hx2 w' ∧ Sub hx8 w' ∧ Sub hx14 w' ∧ Sub hx31 w') (fun s => m55 s.1 s.2) ((ln r35) == 0, 0) ⟨Hx56, _, env_eq ⟨rfl, rfl, rfl, rfl, rfl, rfl, rfl, rfl, rfl, rfl, trivial⟩, (X23.stepx xc57), (ex27.ext (x29.trans x38)), (ex36.ext x38), (ex21.ext xc57), (ex22.ext xc57), (ex32.ext x38)⟩ ?_
  rintro ⟨fits, x46⟩ _ wx47 ⟨Hi, ρ, rfl, HF⟩
  revert HF
  refine bb6 fun X53 ex48 ex49 ex50 ex51 ex52 => ?_
  have H := H fits x46 Hi
  refine W_seq (W_region ?_)
  refine LP_ev ok 0 [(32, .bool (decide (x46 < (ln fixed))))] 1 rfl rfl ?_
  refine LP_end _ rfl (W_seq ?_)
  refine W_cond (decide (x46 < (ln fixed))) rfl (fun hc66 => ?_) (fun hc66 => ?_)
  ·have H := H.1 hc66
   refine W_skip ?_
   obtain ⟨k, hk, H⟩ := jn_elim H
   refine W_join2 (S := Bool) (fun s ρ' w' => k s ∧ ∃ (ρ : Env), ρ' = setAll [(0, sl a sx c), (1, sl a5 l c6), (2, sl a11 fixed c12), (3, sl a17 values c18), (10, I i), (11, sl a33 r26 c34), (12, .bool s), (29, sl a11 fixed c12), (30, I (ln fixed)), (31, I x46)] ρ ∧ But emp w w' ∧ Sub hx w' ∧ Sub hx2 w' ∧ Sub hx8 w' ∧ Sub hx14 w' ∧ Sub hx31 w') ?_ ?_
   ·refine W_block ?_
    refine W_seq (W_region ?_)
    obtain ⟨x77, hi, hx78, H⟩ := H
    refine LP_index 0 rfl rfl rfl Try.underlying25 ti_3 rfl rfl r9 hi hx78 fun a79 cs r80 d => ?_
    refine LP_load 1 rfl rfl rfl ti_3 ag_3 rfl r80 d ex50 fun vx81 r82 => ?_
    obtain rfl := r82.int
    refine LP_ev ok 2 [(14, I x77)] 3 rfl rfl ?_
    refine LP_end _ rfl ?_
    refine W_quiet mix (by kernel_rfl) ?_
    refine QP_ev ok 0 [(35, .bool fits), (36, .bool fits)] 2 rfl rfl ?_
    refine QP_split 36 (fits) rfl (fun hc83 => ?_) (fun hc83 => ?_)
    ·have H := H.1 hc83
     refine QP_ev ok 2 [(37, sl a33 r26 c34), (38, I x77)] 4 rfl rfl ?_
     obtain ⟨x84, hi85, hx86, H⟩ := H
     refine QP_index 4 rfl rfl rfl Try.underlying25 ti_3 rfl rfl o.readf hi85 hx86 fun a87 cs88 r89 d90 => ?_
     refine QP_load 5 rfl rfl rfl ti_3 ag_3 rfl r89 d90 ex52 fun vx91 r92 => ?_
     obtain rfl := r92.int
     refine QP_ev ok 6 [(41, sl a17 values c18), (42, I x77)] 8 rfl rfl ?_
     obtain ⟨x93, hi94, hx95, H⟩ := H
     refine QP_index 8 rfl rfl rfl Try.underlying25 ti_3 rfl rfl r15 hi94 hx95 fun a96 cs97 r98 d99 => ?_
     refine QP_load 9 rfl rfl rfl ti_3 ag_3 rfl r98 d99 ex51 fun vx100 r101 => ?_
     obtain rfl := r101.int
     refine QP_ev ok 10 [(45, .bool (x84 == x93)), (46, .bool (x84 == x93)), (12, .bool (x84 == x93))] 13 rfl rfl ?_
     refine QP_end _ rfl fun wx102 x103 => ?_
     exact ⟨x84 == x93, H, _, env_eq ⟨rfl, rfl, rfl, rfl, rfl, rfl, rfl, rfl, rfl, rfl, trivial⟩, (X53.stepx x103), (ex48.ext x103), (ex49.ext x103), (ex50.ext x103), (ex51.ext x103), (ex52.ext x103)⟩
    have H := H.2 hc83
    refine QP_ev ok 2 [(37, undef), (38, undef), (39, undef), (40, undef), (41, undef), (42, undef), (43, undef), (44, undef), (45, undef), (46, .bool false), (12, .bool false)] 13 rfl rfl ?_
    refine QP_end _ rfl fun wx110 x111 => ?_
    exact ⟨false, H, _, env_eq ⟨rfl, rfl, rfl, rfl, rfl, rfl, rfl, rfl, rfl, rfl, trivial⟩, (X53.stepx x111), (ex48.ext x111), (ex49.ext x111), (ex50.ext x111), (ex51.ext x111), (ex52.ext x111)⟩
   rintro fits69 _ wx70 ⟨H, ρ, rfl, HF⟩
   revert HF
   refine bb6 fun X76 ex71 ex72 ex73 ex74 ex75 => ?_
   subst hk
   refine W_region ?_
   refine LP_ev ok 0 [(47, I (wr (x46 + 1))), (31, I (wr (x46 + 1)))] 2 rfl rfl ?_
   exact LP_end _ rfl ⟨(fits69, wr (x46 + 1)), ⟨H.1, _, env_eq ⟨rfl, rfl, rfl, rfl, rfl, rfl, rfl, rfl, rfl, rfl, trivial⟩, X76, ex71, ex72, ex73, ex74, ex75⟩, H.2⟩
  have H := H.2 hc66
  refine W_exit ?_
  refine (if_pos rfl).mpr ?_
  refine W_seq (W_region ?_)
  refine LP_ev ok 0 [(48, .bool fits)] 1 rfl rfl ?_
  refine LP_end _ rfl ?_
  refine W_cond (fits) rfl (fun hc118 => ?_) (fun hc118 => ?_)
  ·have H := H.1 hc118
   refine W_seq (W_region ?_)
   refine LP_ev ok 0 [(49, sl a33 r26 c34), (8, sl a33 r26 c34), (9, .bool true)] 3 rfl rfl ?_
   refine LP_end _ rfl (W_ret ?_)
   have f119 := f.mono (X23.stepx x).size
   exact ⟨_, Ret_of [sl a33 r26 c34, .bool true] ⟨⟨rfl, rfl⟩, ⟨rfl, rfl⟩, trivial⟩, _, _, _, _, H, rfl, X53.ext, o, ex52, f119⟩
  have H := H.2 hc118
  refine W_skip ?_
  refine W_region ?_
  refine LP_ev ok 0 [(19, I i), (20, I (wr (i + 1))), (10, I (wr (i + 1)))] 3 rfl rfl ?_
  exact LP_end _ rfl ⟨wr (i + 1), ⟨H.1, _, env_eq ⟨rfl, rfl, rfl, rfl, rfl, trivial⟩, X53, ex48, ex49, ex50, ex51⟩, H.2⟩
 have H := H.2 hc
 refine W_exit ?_
 refine (if_pos rfl).mpr ?_
 refine W_seq (W_region ?_)
 refine LP_ev ok 0 [(8, .slice none 0 0), (9, .bool false)] 2 rfl rfl ?_
 refine LP_end _ rfl (W_ret ?_)
 exact ⟨_, Ret_of [.slice none 0 0, .bool false] ⟨⟨rfl, rfl⟩, ⟨rfl, rfl⟩, trivial⟩, _, _, _, emp, H, rfl, (X23.stepx x).ext, OS.nil, (emp_sub _), (emp_fresh _)⟩

theorem spec_l1Sign_w (n : Int) (Q : Int → Prop) (H : spec_l1Sign n Q) (w : World)  :
  CallsTo Try.prog 119 #[I n] w fun v w' => ∃ r0, Q r0 ∧ v = I r0 ∧ Ext w w' := by
 refine enter (args := [I n]) 9 Try.func119 rfl rfl rfl ?_
 refine W_forget [(0, I n)] ⟨rfl, trivial⟩ fun ρ => ?_
 have X := But.refl emp w
 refine W_seq (W_region ?_)
 refine LP_ev ok 0 [(2, I 0)] 1 rfl rfl ?_
 refine LP_end _ rfl (W_seq ?_)
 refine W_block ?_
 refine W_seq (W_region ?_)
 refine LP_ev ok 0 [(4, I n), (5, .bool (decide (n < 0))), (3, .bool (decide (n < 0)))] 3 rfl rfl ?_
 refine LP_end _ rfl ?_
 refine W_cond (decide (n < 0)) rfl (fun hc => ?_) (fun hc => ?_)
 ·have H := H.1 hc
  refine W_seq (W_region ?_)
  refine LP_ev ok 0 [(2, I ((-1)))] 1 rfl rfl ?_
  refine LP_end _ rfl (W_ret ?_)
  exact ⟨_, Ret_of [I ((-1))] ⟨⟨rfl, rfl⟩, trivial⟩, _, H, rfl, X.ext⟩
 have H := H.2 hc
 refine W_seq (W_region ?_)
 refine LP_ev ok 0 [(7, I n), (8, .bool (decide (n > 0))), (6, .bool (decide (n > 0)))] 3 rfl rfl ?_
 refine LP_end _ rfl ?_
 refine W_cond (decide (n > 0)) rfl (fun hc1 => ?_) (fun hc1 => ?_)
 ·have H := H.1 hc1
  refine W_seq (W_region ?_)
  refine LP_ev ok 0 [(2, I 1)] 1 rfl rfl ?_
  refine LP_end _ rfl (W_ret ?_)
  exact ⟨_, Ret_of [I 1] ⟨⟨rfl, rfl⟩, trivial⟩, _, H, rfl, X.ext⟩
 have H := H.2 hc1
 refine W_skip ?_
 refine W_seq (W_region ?_)
 refine LP_ev ok 0 [(2, I 0)] 1 rfl rfl ?_
 refine LP_end _ rfl (W_ret ?_)
 exact ⟨_, Ret_of [I 0] ⟨⟨rfl, rfl⟩, trivial⟩, _, H, rfl, X.ext⟩

theorem spec_l1Less_w (a : List Int) (b : List Int) (Q : Int → Prop) (H : spec_l1Less a b Q) (w : World) {vx : Value} {hx : PH} (r : RS hx vx a) (ex : Sub hx w) {vx2 : Value} {hx3 : PH} (r4 : RS hx3 vx2 b) (ex5 : Sub hx3 w) :
  CallsTo Try.prog 95 #[vx, vx2] w fun v w' => ∃ r0, Q r0 ∧ v = I r0 ∧ Ext w w' := by
 obtain ⟨a1, c, rfl⟩ := r.shape
 obtain ⟨a6, c7, rfl⟩ := r4.shape
 refine enter (args := [sl a1 a c, sl a6 b c7]) 42 Try.func95 rfl rfl rfl ?_
 refine W_forget [(0, sl a1 a c), (1, sl a6 b c7)] ⟨rfl, rfl, trivial⟩ fun ρ => ?_
 have X := But.refl emp w
 refine W_seq (W_region ?_)
 refine LP_ev ok 0 [(4, I 0)] 1 rfl rfl ?_
 refine LP_end _ rfl (W_seq ?_)
 refine W_seq (W_region ?_)
 refine LP_ev ok 0 [(5, I 0)] 1 rfl rfl ?_
 refine LP_end _ rfl ?_
 refine W_block ?_
 obtain ⟨J, m, Hx, H⟩ := H
 refine W_loop (S := Int) (fun s ρ' w' => J s ∧ ∃ (ρ : Env), ρ' = setAll [(0, sl a1 a c), (1, sl a6 b c7), (5, I s)] ρ ∧ But emp w w' ∧ Sub hx w' ∧ Sub hx3 w') (fun s => m s) 0 ⟨Hx, _, env_eq ⟨rfl, rfl, rfl, trivial⟩, X, ex, ex5⟩ ?_
 rintro i _ wx ⟨Hi, ρ, rfl, X10, ex8, ex9⟩
 have H := H i Hi
 refine W_seq ?_
 obtain ⟨k, hk, H⟩ := jn_elim H
 refine W_join2 (S := Bool) (fun s ρ' w' => k s ∧ ∃ (ρ : Env), ρ' = setAll [(0, sl a1 a c), (1, sl a6 b c7), (5, I i), (15, .bool s)] ρ ∧ wx = w') ?_ ?_
 ·refine W_region ?_
  refine LP_ev ok 0 [(6, I i), (7, sl a1 a c), (8, I (ln a)), (9, .bool (decide (i < (ln a)))), (10, .bool (decide (i < (ln a))))] 5 rfl rfl ?_
  refine LP_split 10 (decide (i < (ln a))) rfl (fun hc => ?_) (fun hc => ?_)
  ·have H := H.1 hc
   refine LP_ev ok 5 [(11, I i), (12, sl a6 b c7), (13, I (ln b)), (14, .bool (decide (i < (ln b)))), (15, .bool (decide (i < (ln b))))] 10 rfl rfl ?_
   exact LP_end _ rfl ⟨decide (i < (ln b)), H, _, env_eq ⟨rfl, rfl, rfl, rfl, trivial⟩, rfl⟩
  have H := H.2 hc
  refine LP_ev ok 5 [(11, undef), (12, undef), (13, undef), (14, undef), (15, .bool false)] 10 rfl rfl ?_
  exact LP_end _ rfl ⟨false, H, _, env_eq ⟨rfl, rfl, rfl, rfl, trivial⟩, rfl⟩
 rintro x _ _ ⟨H, ρ, rfl, rfl⟩
 subst hk
 refine W_cond (x) rfl (fun hc12 => ?_) (fun hc12 => ?_)
 ·have H := H.1 hc12
  refine W_skip ?_
  refine W_seq ?_
  refine W_block ?_
  refine W_seq ?_
  refine W_quiet mix (by kernel_rfl) ?_
  refine QP_ev ok 0 [(18, sl a1 a c), (19, I i)] 2 rfl rfl ?_
  obtain ⟨x13, hi, hx14, H⟩ := H
  refine QP_index 2 rfl rfl rfl Try.underlying25 ti_3 rfl rfl r hi hx14 fun a15 cs r16 d => ?_
  refine QP_load 3 rfl rfl rfl ti_3 ag_3 rfl r16 d ex8 fun vx17 r18 => ?_
  obtain rfl := r18.int
  refine QP_ev ok 4 [(22, sl a6 b c7), (23, I i)] 6 rfl rfl ?_
  obtain ⟨x19, hi20, hx21, H⟩ := H
  refine QP_index 6 rfl rfl rfl Try.underlying25 ti_3 rfl rfl r4 hi20 hx21 fun a22 cs23 r24 d25 => ?_
  refine QP_load 7 rfl rfl rfl ti_3 ag_3 rfl r24 d25 ex9 fun vx26 r27 => ?_
  obtain rfl := r27.int
  refine QP_ev ok 8 [(26, .bool (x13 != x19))] 9 rfl rfl ?_
  refine QP_end _ rfl fun wx28 x29 => ?_
  refine W_cond (x13 != x19) rfl (fun hc30 => ?_) (fun hc30 => ?_)
  ·have H := H.1 hc30
   refine W_seq ?_
   refine W_seq ?_
   refine W_quiet mix (by kernel_rfl) ?_
   refine QP_ev ok 0 [(27, sl a1 a c), (28, I i)] 2 rfl rfl ?_
   obtain ⟨x31, hi32, hx33, H⟩ := H
   refine QP_index 2 rfl rfl rfl Try.underlying25 ti_3 rfl rfl r hi32 hx33 fun a34 cs35 r36 d37 => ?_
   refine QP_load 3 rfl rfl rfl ti_3 ag_3 rfl r36 d37 (ex8.ext x29) fun vx39 r40 => ?_
   obtain rfl := r40.int
   refine QP_ev ok 4 [(31, sl a6 b c7), (32, I i)] 6 rfl rfl ?_
   obtain ⟨x41, hi42, hx43, H⟩ := H
   refine QP_index 6 rfl rfl rfl Try.underlying25 ti_3 rfl rfl r4 hi42 hx43 fun a44 cs45 r46 d47 => ?_
   refine QP_load 7 rfl rfl rfl ti_3 ag_3 rfl r46 d47 (ex9.ext x29) fun vx49 r50 => ?_
   obtain rfl := r50.int
   refine QP_ev ok 8 [(35, .bool (decide (x31 < x41)))] 9 rfl rfl ?_
   refine QP_end _ rfl fun wx51 x52 => ?_
   refine W_cond (decide (x31 < x41)) rfl (fun hc53 => ?_) (fun hc53 => ?_)
   ·have H := H.1 hc53
    refine W_seq (W_region ?_)
    refine LP_ev ok 0 [(4, I ((-1)))] 1 rfl rfl ?_
    refine LP_end _ rfl (W_ret ?_)
    exact ⟨_, Ret_of [I ((-1))] ⟨⟨rfl, rfl⟩, trivial⟩, _, H, rfl, (X10.stepx (x29.trans x52)).ext⟩
   have H := H.2 hc53
   refine W_skip ?_
   refine W_seq (W_region ?_)
   refine LP_ev ok 0 [(4, I 1)] 1 rfl rfl ?_
   refine LP_end _ rfl (W_ret ?_)
   exact ⟨_, Ret_of [I 1] ⟨⟨rfl, rfl⟩, trivial⟩, _, H, rfl, (X10.stepx (x29.trans x52)).ext⟩
  have H := H.2 hc30
  refine W_skip ?_
  refine W_region ?_
  refine LP_ev ok 0 [(16, I i), (17, I (wr (i + 1))), (5, I (wr (i + 1)))] 3 rfl rfl ?_
  exact LP_end _ rfl ⟨wr (i + 1), ⟨H.1, _, env_eq ⟨rfl, rfl, rfl, trivial⟩, (X10.stepx x29), (ex8.ext x29), (ex9.ext x29)⟩, H.2⟩
 have H := H.2 hc12
 refine W_exit ?_
 refine (if_pos rfl).mpr ?_
 refine W_seq (W_region ?_)
 refine LP_ev ok 0 [(36, sl a1 a c), (37, I (ln a)), (38, sl a6 b c7), (39, I (ln b)), (40, I (wr ((ln a) - (ln b))))] 5 rfl rfl ?_
 refine LP_call 5 rfl rfl rfl cal_119 rfl (spec_l1Sign_w _ _ H wx ) ?_
 rintro _ wx61 ⟨r60, H, rfl, x62⟩
 refine LP_ev ok 6 [(4, I r60)] 7 rfl rfl ?_
 refine LP_end _ rfl (W_ret ?_)
 exact ⟨_, Ret_of [I r60] ⟨⟨rfl, rfl⟩, trivial⟩, _, H, rfl, (X10.stepx x62).ext⟩

theorem spec_iCheapest_w (sx : List Variable) (l : List Edit) (wx : List Int) (values : List Int) (Q : (List Int) → Int → Bool → Prop) (H : spec_iCheapest sx l wx values Q) (w : World) {vx : Value} {hx : PH} (r : RS hx vx sx) (ex : Sub hx w) {vx1 : Value} {hx2 : PH} (r3 : RS hx2 vx1 l) (ex4 : Sub hx2 w) {vx7 : Value} {hx8 : PH} (r9 : RS hx8 vx7 wx) (ex10 : Sub hx8 w) {vx13 : Value} {hx14 : PH} (r15 : RS hx14 vx13 values) (ex16 : Sub hx14 w) :
  CallsTo Try.prog 52 #[vx, vx1, vx7, vx13] w fun v w' => ∃ r0 r1 r2 u0 g0, Q r0 r1 r2 ∧ v = .tuple #[u0, I r1, .bool r2] ∧ Ext w w' ∧ OS 3 g0 emp u0 r0 ∧ Sub g0 w' ∧ Fresh w.heap.size g0 := by
 obtain ⟨a, c, rfl⟩ := r.shape
 obtain ⟨a5, c6, rfl⟩ := r3.shape
 obtain ⟨a11, c12, rfl⟩ := r9.shape
 obtain ⟨a17, c18, rfl⟩ := r15.shape
 refine enter (args := [sl a sx c, sl a5 l c6, sl a11 wx c12, sl a17 values c18]) 79 Try.func52 rfl rfl rfl ?_
 refine W_forget [(0, sl a sx c), (1, sl a5 l c6), (2, sl a11 wx c12), (3, sl a17 values c18)] ⟨rfl, rfl, rfl, rfl, trivial⟩ fun ρ => ?_
 have X := But.refl emp w
 refine W_seq (W_region ?_)
 refine LP_ev ok 0 [(8, .slice none 0 0), (9, I 0), (10, .bool false)] 3 rfl rfl ?_
 refine LP_end _ rfl (W_seq (W_region ?_))
 refine LP_ev ok 0 [(11, .slice none 0 0)] 1 rfl rfl ?_
 refine LP_end _ rfl (W_seq (W_region ?_))
 refine LP_ev ok 0 [(12, I 0), (13, .bool false)] 2 rfl rfl ?_
 refine LP_end _ rfl (W_seq ?_)
 refine W_seq (W_region ?_)
 refine LP_ev ok 0 [(14, I 0)] 1 rfl rfl ?_
 refine LP_end _ rfl ?_
 refine W_block ?_
 obtain ⟨J, m, Hx, H⟩ := H
 refine W_loop (S := (List Int) × Int × Bool × Int) (fun s ρ' w' => J s.1 s.2.1 s.2.2.1 s.2.2.2 ∧ ∃ (ρ : Env) (vx19 : Value) (hx20 : PH), ρ' = setAll [(0, sl a sx c), (1, sl a5 l c6), (2, sl a11 wx c12), (3, sl a17 values c18), (11, vx19), (12, I s.2.1), (13, .bool s.2.2.1), (14, I s.2.2.2)] ρ ∧ But emp w w' ∧ OS 3 hx20 emp vx19 s.1 ∧ Sub hx20 w' ∧ Fresh w.heap.size hx20 ∧ Sub hx w' ∧ Sub hx2 w' ∧ Sub hx8 w' ∧ Sub hx14 w' ∧ Dj hx20 hx ∧ Dj hx20 hx2 ∧ Dj hx20 hx8 ∧ Dj hx20 hx14) (fun s => m s.1 s.2.1 s.2.2.1 s.2.2.2) ([], 0, false, 0) ⟨Hx, _, .slice none 0 0, emp, env_eq ⟨rfl, rfl, rfl, rfl, rfl, rfl, rfl, rfl, trivial⟩, X, OS.nil, (emp_sub _), (emp_fresh _), ex, ex4, ex10, ex16, (fun _ => .inl rfl), (fun _ => .inl rfl), (fun _ => .inl rfl), (fun _ => .inl rfl)⟩ ?_
 rintro ⟨best, cost, found, mask⟩ _ wx22 ⟨Hi, ρ, vx19, hx20, rfl, HF⟩
 revert HF
 refine bb9 fun X32 o ex21 f ex23 ex24 ex25 ex26 => ?_
 refine bb4 fun d d29 d30 d31 => ?_
 have H := H best cost found mask Hi
 obtain ⟨a27, c28, rfl⟩ := o.shape
 refine W_seq ?_
 refine W_seq (W_region ?_)
 refine LP_ev ok 0 [(19, I mask), (20, sl a sx c), (21, I (ln sx)), (22, .int .u64 (IntKind.u64.wrap (ln sx)))] 4 rfl rfl ?_
 obtain ⟨hz, H⟩ := H
 refine LP_val 4 _ rfl rfl (ex_shl rfl rfl rfl hz _) ?_
 refine LP_ev ok 5 [(24, .bool (decide (mask < (shl .i64 1 (IntKind.u64.wrap (ln sx))))))] 6 rfl rfl ?_
 refine LP_end _ rfl ?_
 refine W_cond (decide (mask < (shl .i64 1 (IntKind.u64.wrap (ln sx))))) rfl (fun hc => ?_) (fun hc => ?_)
 ·have H := H.1 hc
  refine W_skip ?_
  obtain ⟨k, hk, H⟩ := jn_elim H
  refine W_join2 (S := (List Int) × Int × Bool) (fun s ρ' w' => k s.1 s.2.1 s.2.2 ∧ ∃ (ρ : Env) (vx34 : Value) (hx35 : PH), ρ' = setAll [(0, sl a sx c), (1, sl a5 l c6), (2, sl a11 wx c12), (3, sl a17 values c18), (11, vx34), (12, I s.2.1), (13, .bool s.2.2), (14, I mask)] ρ ∧ But emp w w' ∧ OS 3 hx35 emp vx34 s.1 ∧ Sub hx35 w' ∧ Fresh w.heap.size hx35 ∧ Sub hx w' ∧ Sub hx2 w' ∧ Sub hx8 w' ∧ Sub hx14 w' ∧ Dj hx35 hx ∧ Dj hx35 hx2 ∧ Dj hx35 hx8 ∧ Dj hx35 hx14) ?_ ?_
  ·refine W_block ?_
   refine W_seq (W_region ?_)
   refine LP_ev ok 0 [(27, I mask)] 1 rfl rfl ?_
   refine LP_call 1 rfl rfl rfl cal_93 rfl (spec_iBits_w _ _ H wx22 ) ?_
   rintro _ wx54 ⟨r53, vx55, hx56, H, rfl, x, o57, ex58, f59⟩
   obtain ⟨a60, c61, rfl⟩ := o57.shape
   refine LP_ev ok 2 [(15, sl a60 r53 c61)] 3 rfl rfl ?_
   refine LP_end _ rfl (W_seq (W_region ?_))
   refine LP_ev ok 0 [(29, sl a11 wx c12), (30, sl a60 r53 c61)] 2 rfl rfl ?_
   have ex63 := (ex25.ext x)
   refine LP_call 2 rfl rfl rfl cal_94 rfl (spec_iSum_w _ _ _ H wx54 r9 ex63 o57.readf ex58) ?_
   rintro _ wx64 ⟨r62, H, rfl, x65⟩
   refine LP_ev ok 3 [(16, I r62)] 4 rfl rfl ?_
   refine LP_end _ rfl (W_seq ?_)
   have xc := (x.trans x65)
   have X66 := (X32.stepx xc)
   have ex67 := (ex23.ext xc)
   have ex68 := (ex24.ext xc)
   have ex69 := (ex63.ext x65)
   have ex70 := (ex26.ext xc)
   have ex71 := (ex21.ext xc)
   have ex72 := (ex58.ext x65)
   have f73 := f59.mono X32.size
   obtain ⟨k83, hk84, H⟩ := jn_elim H
   refine W_join2 (S := Bool) (fun s ρ' w' => k83 s ∧ ∃ (ρ : Env), ρ' = setAll [(0, sl a sx c), (1, sl a5 l c6), (2, sl a11 wx c12), (3, sl a17 values c18), (11, sl a27 best c28), (12, I cost), (13, .bool found), (14, I mask), (15, sl a60 r53 c61), (16, I r62), (62, .bool s)] ρ ∧ But emp w w' ∧ Sub hx w' ∧ Sub hx2 w' ∧ Sub hx8 w' ∧ Sub hx14 w' ∧ Sub hx20 w' ∧ Sub hx56 w') ?_ ?_
   ·refine W_region ?_
    refine LP_ev ok 0 [(32, .bool found), (33, .bool found)] 2 rfl rfl ?_
    refine LP_split 33 (found) rfl (fun hc85 => ?_) (fun hc85 => ?_)
    ·have H := H.1 hc85
     refine LP_ev ok 2 [(34, I r62), (35, I cost), (36, .bool (decide (r62 > cost))), (37, .bool (decide (r62 > cost)))] 6 rfl rfl ?_
     refine LP_split 37 (decide (r62 > cost)) rfl (fun hc86 => ?_) (fun hc86 => ?_)
     ·have H := H.1 hc86
      refine LP_ev ok 6 [(38, undef), (39, undef), (40, undef), (41, undef), (42, undef), (43, undef), (44, undef), (45, undef), (46, undef), (47, undef), (48, undef), (49, undef), (50, undef), (51, undef), (52, undef), (53, undef), (54, undef), (55, undef), (56, undef), (57, undef), (58, undef), (59, undef), (60, undef), (61, .bool true), (62, .bool true)] 31 rfl rfl ?_
      refine LP_end _ rfl ?_
      try refine W_forget [(0, sl a sx c), (1, sl a5 l c6), (2, sl a11 wx c12), (3, sl a17 values c18), (11, sl a27 best c28), (12, I cost), (13, .bool found), (14, I mask), (15, sl a60 r53 c61), (16, I r62), (34, I r62), (35, I cost), (36, .bool (decide (r62 > cost))), (37, .bool true), (61, .bool true), (62, .bool true)] ⟨rfl, rfl, rfl, rfl, rfl, rfl, rfl, rfl, rfl, rfl, rfl, rfl, rfl, rfl, rfl, rfl, trivial⟩ fun ρ => ?_
      exact ⟨true, H, _, env_eq ⟨rfl, rfl, rfl, rfl, rfl, rfl, rfl, rfl, rfl, rfl, rfl, trivial⟩, X66, ex67, ex68, ex69, ex70, ex71, ex72⟩
     have H := H.2 hc86
     refine LP_ev ok 6 [(38, I r62), (39, I cost), (40, .bool (r62 == cost)), (41, .bool (r62 == cost))] 10 rfl rfl ?_
     refine LP_split 41 (r62 == cost) rfl (fun hc87 => ?_) (fun hc87 => ?_)
     ·have H := H.1 hc87
      refine LP_ev ok 10 [(42, sl a60 r53 c61), (43, I (ln r53)), (44, sl a27 best c28), (45, I (ln best)), (46, .bool (decide ((ln r53) > (ln best)))), (47, .bool (decide ((ln r53) > (ln best))))] 16 rfl rfl ?_
      refine LP_split 47 (decide ((ln r53) > (ln best))) rfl (fun hc88 => ?_) (fun hc88 => ?_)
      ·have H := H.1 hc88
       refine LP_ev ok 16 [(48, undef), (49, undef), (50, undef), (51, undef), (52, undef), (53, undef), (54, undef), (55, undef), (56, undef), (57, undef), (58, undef), (59, .bool true), (60, .bool true), (61, .bool true), (62, .bool true)] 31 rfl rfl ?_
       refine LP_end _ rfl ?_
       try refine W_forget [(0, sl a sx c), (1, sl a5 l c6), (2, sl a11 wx c12), (3, sl a17 values c18), (11, sl a27 best c28), (12, I cost), (13, .bool found), (14, I mask), (15, sl a60 r53 c61), (16, I r62), (34, I r62), (35, I cost), (36, .bool (decide (r62 > cost))), (37, .bool false), (38, I r62), (39, I cost), (40, .bool (r62 == cost)), (41, .bool true), (42, sl a60 r53 c61), (43, I (ln r53)), (44, sl a27 best c28), (45, I (ln best)), (46, .bool (decide ((ln r53) > (ln best)))), (47, .bool true), (59, .bool true), (60, .bool true), (61, .bool true), (62, .bool true)] ⟨rfl, rfl, rfl, rfl, rfl, rfl, rfl, rfl, rfl, rfl, rfl, rfl, rfl, rfl, rfl, rfl, rfl, rfl, rfl, rfl, rfl, rfl, rfl, rfl, rfl, rfl, rfl, rfl, trivial⟩ fun ρ => ?_
       exact ⟨true, H, _, env_eq ⟨rfl, rfl, rfl, rfl, rfl, rfl, rfl, rfl, rfl, rfl, rfl, trivial⟩, X66, ex67, ex68, ex69, ex70, ex71, ex72⟩
      have H := H.2 hc88
      refine LP_ev ok 16 [(48, sl a60 r53 c61), (49, I (ln r53)), (50, sl a27 best c28), (51, I (ln best)), (52, .bool ((ln r53) == (ln best))), (53, .bool ((ln r53) == (ln best)))] 22 rfl rfl ?_
      refine LP_split 53 ((ln r53) == (ln best)) rfl (fun hc89 => ?_) (fun hc89 => ?_)
      ·have H := H.1 hc89
       refine LP_ev ok 22 [(54, sl a60 r53 c61), (55, sl a27 best c28)] 24 rfl rfl ?_
       refine LP_call 24 rfl rfl rfl cal_95 rfl (spec_l1Less_w _ _ _ H wx64 o57.readf ex72 o.readf ex71) ?_
       rintro _ wx91 ⟨r90, H, rfl, x92⟩
       refine LP_ev ok 25 [(57, .bool (decide (r90 ≥ 0))), (58, .bool (decide (r90 ≥ 0))), (59, .bool (decide (r90 ≥ 0))), (60, .bool (decide (r90 ≥ 0))), (61, .bool (decide (r90 ≥ 0))), (62, .bool (decide (r90 ≥ 0)))] 31 rfl rfl ?_
       refine LP_end _ rfl ?_
       try refine W_forget [(0, sl a sx c), (1, sl a5 l c6), (2, sl a11 wx c12), (3, sl a17 values c18), (11, sl a27 best c28), (12, I cost), (13, .bool found), (14, I mask), (15, sl a60 r53 c61), (16, I r62), (34, I r62), (35, I cost), (36, .bool (decide (r62 > cost))), (37, .bool false), (38, I r62), (39, I cost), (40, .bool (r62 == cost)), (41, .bool true), (42, sl a60 r53 c61), (43, I (ln r53)), (44, sl a27 best c28), (45, I (ln best)), (46, .bool (decide ((ln r53) > (ln best)))), (47, .bool false), (48, sl a60 r53 c61), (49, I (ln r53)), (50, sl a27 best c28), (51, I (ln best)), (52, .bool ((ln r53) == (ln best))), (53, .bool true), (54, sl a60 r53 c61), (55, sl a27 best c28), (56, I r90), (57, .bool (decide (r90 ≥ 0))), (58, .bool (decide (r90 ≥ 0))), (59, .bool (decide (r90 ≥ 0))), (60, .bool (decide (r90 ≥ 0))), (61, .bool (decide (r90 ≥ 0))), (62, .bool (decide (r90 ≥ 0)))] ⟨rfl, rfl, rfl, rfl, rfl, rfl, rfl, rfl, rfl, rfl, rfl, rfl, rfl, rfl, rfl, rfl, rfl, rfl, rfl, rfl, rfl, rfl, rfl, rfl, rfl, rfl, rfl, rfl, rfl, rfl, rfl, rfl, rfl, rfl, rfl, rfl, rfl, rfl, rfl, trivial⟩ fun ρ => ?_
       exact ⟨decide (r90 ≥ 0), H, _, env_eq ⟨rfl, rfl, rfl, rfl, rfl, rfl, rfl, rfl, rfl, rfl, rfl, trivial⟩, (X66.stepx x92), (ex67.ext x92), (ex68.ext x92), (ex69.ext x92), (ex70.ext x92), (ex71.ext x92), (ex72.ext x92)⟩
      have H := H.2 hc89
      refine LP_ev ok 22 [(54, undef), (55, undef), (56, undef), (57, undef), (58, .bool false), (59, .bool false), (60, .bool false), (61, .bool false), (62, .bool false)] 31 rfl rfl ?_
      refine LP_end _ rfl ?_
      try refine W_forget [(0, sl a sx c), (1, sl a5 l c6), (2, sl a11 wx c12), (3, sl a17 values c18), (11, sl a27 best c28), (12, I cost), (13, .bool found), (14, I mask), (15, sl a60 r53 c61), (16, I r62), (34, I r62), (35, I cost), (36, .bool (decide (r62 > cost))), (37, .bool false), (38, I r62), (39, I cost), (40, .bool (r62 == cost)), (41, .bool true), (42, sl a60 r53 c61), (43, I (ln r53)), (44, sl a27 best c28), (45, I (ln best)), (46, .bool (decide ((ln r53) > (ln best)))), (47, .bool false), (48, sl a60 r53 c61), (49, I (ln r53)), (50, sl a27 best c28), (51, I (ln best)), (52, .bool ((ln r53) == (ln best))), (53, .bool false), (58, .bool false), (59, .bool false), (60, .bool false), (61, .bool false), (62, .bool false)] ⟨rfl, rfl, rfl, rfl, rfl, rfl, rfl, rfl, rfl, rfl, rfl, rfl, rfl, rfl, rfl, rfl, rfl, rfl, rfl, rfl, rfl, rfl, rfl, rfl, rfl, rfl, rfl, rfl, rfl, rfl, rfl, rfl, rfl, rfl, rfl, trivial⟩ fun ρ => ?_
      exact ⟨false, H, _, env_eq ⟨rfl, rfl, rfl, rfl, rfl, rfl, rfl, rfl, rfl, rfl, rfl, trivial⟩, X66, ex67, ex68, ex69, ex70, ex71, ex72⟩
     have H := H.2 hc87
     refine LP_ev ok 10 [(42, undef), (43, undef), (44, undef), (45, undef), (46, undef), (47, undef), (48, undef), (49, undef), (50, undef), (51, undef), (52, undef), (53, undef), (54, undef), (55, undef), (56, undef), (57, undef), (58, undef), (59, undef), (60, .bool false), (61, .bool false), (62, .bool false)] 31 rfl rfl ?_
     refine LP_end _ rfl ?_
     try refine W_forget [(0, sl a sx c), (1, sl a5 l c6), (2, sl a11 wx c12), (3, sl a17 values c18), (11, sl a27 best c28), (12, I cost), (13, .bool found), (14, I mask), (15, sl a60 r53 c61), (16, I r62), (34, I r62), (35, I cost), (36, .bool (decide (r62 > cost))), (37, .bool false), (38, I r62), (39, I cost), (40, .bool (r62 == cost)), (41, .bool false), (60, .bool false), (61, .bool false), (62, .bool false)] ⟨rfl, rfl, rfl, rfl, rfl, rfl, rfl, rfl, rfl, rfl, rfl, rfl, rfl, rfl, rfl, rfl, rfl, rfl, rfl, rfl, rfl, trivial⟩ fun ρ => ?_
     exact ⟨false, H, _, env_eq ⟨rfl, rfl, rfl, rfl, rfl, rfl, rfl, rfl, rfl, rfl, rfl, trivial⟩, X66, ex67, ex68, ex69, ex70, ex71, ex72⟩
    have H := H.2 hc85
    refine LP_ev ok 2 [(34, undef), (35, undef), (36, undef), (37, undef), (38, undef), (39, undef), (40, undef), (41, undef), (42, undef), (43, undef), (44, undef), (45, undef), (46, undef), (47, undef), (48, undef), (49, undef), (50, undef), (51, undef), (52, undef), (53, undef), (54, undef), (55, undef), (56, undef), (57, undef), (58, undef), (59, undef), (60, undef), (61, undef), (62, .bool false)] 31 rfl rfl ?_
    refine LP_end _ rfl ?_
    try refine W_forget [(0, sl a sx c), (1, sl a5 l c6), (2, sl a11 wx c12), (3, sl a17 values c18), (11, sl a27 best c28), (12, I cost), (13, .bool found), (14, I mask), (15, sl a60 r53 c61), (16, I r62), (62, .bool false)] ⟨rfl, rfl, rfl, rfl, rfl, rfl, rfl, rfl, rfl, rfl, rfl, trivial⟩ fun ρ => ?_
    exact ⟨false, H, _, env_eq ⟨rfl, rfl, rfl, rfl, rfl, rfl, rfl, rfl, rfl, rfl, rfl, trivial⟩, X66, ex67, ex68, ex69, ex70, ex71, ex72⟩
   rintro x74 _ wx75 ⟨H, ρ, rfl, HF⟩
   revert HF
   refine bb7 fun X82 ex76 ex77 ex78 ex79 ex80 ex81 => ?_
   subst hk84
   refine W_cond (x74) rfl (fun hc100 => ?_) (fun hc100 => ?_)
   ·have H := H.1 hc100
    refine W_exit ?_
    refine (if_pos rfl).mpr ?_
    exact ⟨(best, cost, found), H, _, sl a27 best c28, hx20, env_eq ⟨rfl, rfl, rfl, rfl, rfl, rfl, rfl, rfl, trivial⟩, X82, o, ex80, f, ex76, ex77, ex78, ex79, d, d29, d30, d31⟩
   have H := H.2 hc100
   refine W_skip ?_
   refine W_seq (W_region ?_)
   refine LP_ev ok 0 [(64, sl a sx c), (65, sl a5 l c6), (66, sl a sx c), (67, sl a60 r53 c61)] 4 rfl rfl ?_
   refine LP_call 4 rfl rfl rfl cal_89 rfl (spec_iOthers_w _ _ _ H wx75 r ex76 o57.readf ex81) ?_
   rintro _ wx102 ⟨r101, vx104, hx105, H, rfl, x103, o106, ex107, f108⟩
   obtain ⟨a109, c110, rfl⟩ := o106.shape
   refine LP_ev ok 5 [(69, sl a17 values c18)] 6 rfl rfl ?_
   have ex113 := (ex76.ext x103)
   have ex114 := (ex77.ext x103)
   have ex115 := (ex79.ext x103)
   refine LP_call 6 rfl rfl rfl cal_88 rfl (spec_eComplete_w _ _ _ _ _ H wx102 r ex113 r3 ex114 o106.readf ex107 r15 ex115) ?_
   rintro _ wx116 ⟨r111, r112, vx118, hx119, H, rfl, x117, o120, ex121, f122⟩
   obtain ⟨a123, c124, rfl⟩ := o120.shape
   refine LP_ev ok 7 [(63, .tuple #[sl a123 r111 c124, .bool r112]), (71, sl a123 r111 c124), (72, .bool r112), (17, sl a123 r111 c124), (18, .bool r112)] 12 rfl rfl ?_
   refine LP_end _ rfl (W_seq (W_region ?_))
   refine LP_ev ok 0 [(73, .bool r112)] 1 rfl rfl ?_
   refine LP_end _ rfl ?_
   refine W_cond (r112) rfl (fun hc125 => ?_) (fun hc125 => ?_)
   ·have H := H.1 hc125
    refine W_seq (W_region ?_)
    refine LP_ev ok 0 [(74, sl a60 r53 c61), (11, sl a60 r53 c61)] 2 rfl rfl ?_
    refine LP_end _ rfl (W_seq (W_region ?_))
    refine LP_ev ok 0 [(75, I r62), (12, I r62)] 2 rfl rfl ?_
    refine LP_end _ rfl ?_
    refine W_region ?_
    refine LP_ev ok 0 [(13, .bool true)] 1 rfl rfl ?_
    refine LP_end _ rfl ?_
    have xc126 := (x103.trans x117)
    exact ⟨(r53, r62, true), H, _, sl a60 r53 c61, hx56, env_eq ⟨rfl, rfl, rfl, rfl, rfl, rfl, rfl, rfl, trivial⟩, (X82.stepx xc126), o57, (ex81.ext xc126), f73, (ex113.ext x117), (ex114.ext x117), (ex78.ext xc126), (ex115.ext x117), (Dj.of_fresh ex23 f59).symm, (Dj.of_fresh ex24 f59).symm, (Dj.of_fresh ex25 f59).symm, (Dj.of_fresh ex26 f59).symm⟩
   have H := H.2 hc125
   refine W_skip ?_
   have xc133 := (x103.trans x117)
   exact ⟨(best, cost, found), H, _, sl a27 best c28, hx20, env_eq ⟨rfl, rfl, rfl, rfl, rfl, rfl, rfl, rfl, trivial⟩, (X82.stepx xc133), o, (ex80.ext xc133), f, (ex113.ext x117), (ex114.ext x117), (ex78.ext xc133), (ex115.ext x117), d, d29, d30, d31⟩
  rintro ⟨best33, cost39, found40⟩ _ wx41 ⟨H, ρ, vx34, hx35, rfl, HF⟩
  revert HF
  refine bb9 fun X52 o36 ex37 f38 ex42 ex43 ex44 ex45 => ?_
  refine bb4 fun d48 d49 d50 d51 => ?_
  subst hk
  obtain ⟨a46, c47, rfl⟩ := o36.shape
  refine W_region ?_
  refine LP_ev ok 0 [(25, I mask), (26, I (wr (mask + 1))), (14, I (wr (mask + 1)))] 3 rfl rfl ?_
  exact LP_end _ rfl ⟨(best33, cost39, found40, wr (mask + 1)), ⟨H.1, _, sl a46 best33 c47, hx35, env_eq ⟨rfl, rfl, rfl, rfl, rfl, rfl, rfl, rfl, trivial⟩, X52, o36, ex37, f38, ex42, ex43, ex44, ex45, d48, d49, d50, d51⟩, H.2⟩
 have H := H.2 hc
 refine W_exit ?_
 refine (if_pos rfl).mpr ?_
 refine W_seq (W_region ?_)
 refine LP_ev ok 0 [(76, sl a27 best c28), (77, I cost), (78, .bool found), (8, sl a27 best c28), (9, I cost), (10, .bool found)] 6 rfl rfl ?_
 refine LP_end _ rfl (W_ret ?_)
 exact ⟨_, Ret_of [sl a27 best c28, I cost, .bool found] ⟨⟨rfl, rfl⟩, ⟨rfl, rfl⟩, ⟨rfl, rfl⟩, trivial⟩, _, _, _, _, _, H, rfl, X32.ext, o, ex21, f⟩

theorem spec_iMend_w (sx : List Variable) (l : List Edit) (wx : List Int) (values : List Int) (Q : (List Int) → Bool → Prop) (H : spec_iMend sx l wx values Q) (w : World) {vx : Value} {hx : PH} (r : RS hx vx sx) (ex : Sub hx w) {vx1 : Value} {hx2 : PH} (r3 : RS hx2 vx1 l) (ex4 : Sub hx2 w) {vx7 : Value} {hx8 : PH} (r9 : RS hx8 vx7 wx) (ex10 : Sub hx8 w) {vx13 : Value} {hx14 : PH} (r15 : RS hx14 vx13 values) (ex16 : Sub hx14 w) :
  CallsTo Try.prog 41 #[vx, vx1, vx7, vx13] w fun v w' => ∃ r0 r1 u0 g0, Q r0 r1 ∧ v = .tuple #[u0, .bool r1] ∧ Ext w w' ∧ OS 3 g0 emp u0 r0 ∧ Sub g0 w' ∧ Fresh w.heap.size g0 := by
 obtain ⟨a, c, rfl⟩ := r.shape
 obtain ⟨a5, c6, rfl⟩ := r3.shape
 obtain ⟨a11, c12, rfl⟩ := r9.shape
 obtain ⟨a17, c18, rfl⟩ := r15.shape
 refine enter (args := [sl a sx c, sl a5 l c6, sl a11 wx c12, sl a17 values c18]) 33 Try.func41 rfl rfl rfl ?_
 refine W_forget [(0, sl a sx c), (1, sl a5 l c6), (2, sl a11 wx c12), (3, sl a17 values c18)] ⟨rfl, rfl, rfl, rfl, trivial⟩ fun ρ => ?_
 have X := But.refl emp w
 refine W_seq (W_region ?_)
 refine LP_ev ok 0 [(8, .slice none 0 0), (9, .bool false)] 2 rfl rfl ?_
 refine LP_end _ rfl (W_seq (W_region ?_))
 refine LP_ev ok 0 [(14, sl a sx c), (15, sl a5 l c6), (16, sl a11 wx c12), (17, sl a17 values c18)] 4 rfl rfl ?_
 refine LP_call 4 rfl rfl rfl cal_52 rfl (spec_iCheapest_w _ _ _ _ _ H w r ex r3 ex4 r9 ex10 r15 ex16) ?_
 rintro _ wx22 ⟨r19, r20, r21, vx23, hx24, H, rfl, x, o, ex25, f⟩
 obtain ⟨a26, c27, rfl⟩ := o.shape
 refine LP_ev ok 5 [(13, .tuple #[sl a26 r19 c27, I r20, .bool r21]), (19, sl a26 r19 c27), (20, I r20), (21, .bool r21), (10, sl a26 r19 c27), (11, I r20), (12, .bool r21)] 12 rfl rfl ?_
 refine LP_end _ rfl (W_seq ?_)
 refine W_seq (W_region ?_)
 refine LP_ev ok 0 [(22, .bool r21), (23, .bool (!r21))] 2 rfl rfl ?_
 refine LP_end _ rfl ?_
 refine W_cond (!r21) rfl (fun hc => ?_) (fun hc => ?_)
 ·have H := H.1 hc
  refine W_seq (W_region ?_)
  refine LP_ev ok 0 [(8, .slice none 0 0), (9, .bool false)] 2 rfl rfl ?_
  refine LP_end _ rfl (W_ret ?_)
  exact ⟨_, Ret_of [.slice none 0 0, .bool false] ⟨⟨rfl, rfl⟩, ⟨rfl, rfl⟩, trivial⟩, _, _, _, emp, H, rfl, (X.stepx x).ext, OS.nil, (emp_sub _), (emp_fresh _)⟩
 have H := H.2 hc
 refine W_skip ?_
 refine W_seq (W_region ?_)
 refine LP_ev ok 0 [(24, sl a sx c), (25, sl a5 l c6), (26, sl a sx c), (27, sl a26 r19 c27)] 4 rfl rfl ?_
 have ex30 := (ex.ext x)
 refine LP_call 4 rfl rfl rfl cal_89 rfl (spec_iOthers_w _ _ _ H wx22 r ex30 o.readf ex25) ?_
 rintro _ wx31 ⟨r29, vx33, hx34, H, rfl, x32, o35, ex36, f37⟩
 obtain ⟨a38, c39, rfl⟩ := o35.shape
 refine LP_ev ok 5 [(29, sl a17 values c18)] 6 rfl rfl ?_
 have xc := (x.trans x32)
 refine LP_call 6 rfl rfl rfl cal_88 rfl (spec_eComplete_w _ _ _ _ _ H wx31 r (ex30.ext x32) r3 (ex4.ext xc) o35.readf ex36 r15 (ex16.ext xc)) ?_
 rintro _ wx45 ⟨r40, r41, vx47, hx48, H, rfl, x46, o49, ex50, f51⟩
 obtain ⟨a52, c53, rfl⟩ := o49.shape
 refine LP_ev ok 7 [(31, sl a52 r40 c53), (32, .bool r41), (8, sl a52 r40 c53), (9, .bool r41)] 11 rfl rfl ?_
 refine LP_end _ rfl ?_
 try refine W_forget [(8, sl a52 r40 c53), (9, .bool r41)] ⟨rfl, rfl, trivial⟩ fun ρ => ?_
 refine W_ret ?_
 have X55 := (X.stepx xc)
 have f54 := f51.mono X55.size
 exact ⟨_, Ret_of [sl a52 r40 c53, .bool r41] ⟨⟨rfl, rfl⟩, ⟨rfl, rfl⟩, trivial⟩, _, _, _, _, H, rfl, (X55.stepx x46).ext, o49, ex50, f54⟩

theorem spec_iChanged_w (wx : List Int) (a1 : List Int) (b : List Int) (Q : Int → Prop) (H : spec_iChanged wx a1 b Q) (w : World) {vx : Value} {hx : PH} (r : RS hx vx wx) (ex : Sub hx w) {vx2 : Value} {hx3 : PH} (r4 : RS hx3 vx2 a1) (ex5 : Sub hx3 w) {vx8 : Value} {hx9 : PH} (r10 : RS hx9 vx8 b) (ex11 : Sub hx9 w) :
  CallsTo Try.prog 42 #[vx, vx2, vx8] w fun v w' => ∃ r0, Q r0 ∧ v = I r0 ∧ Ext w w' := by
 obtain ⟨a, c, rfl⟩ := r.shape
 obtain ⟨a6, c7, rfl⟩ := r4.shape
 obtain ⟨a12, c13, rfl⟩ := r10.shape
 refine enter (args := [sl a wx c, sl a6 a1 c7, sl a12 b c13]) 31 Try.func42 rfl rfl rfl ?_
 refine W_forget [(0, sl a wx c), (1, sl a6 a1 c7), (2, sl a12 b c13)] ⟨rfl, rfl, rfl, trivial⟩ fun ρ => ?_
 have X := But.refl emp w
 refine W_seq (W_region ?_)
 refine LP_ev ok 0 [(6, I 0)] 1 rfl rfl ?_
 refine LP_end _ rfl (W_seq (W_region ?_))
 refine LP_ev ok 0 [(7, I 0)] 1 rfl rfl ?_
 refine LP_end _ rfl (W_seq ?_)
 refine W_seq (W_region ?_)
 refine LP_ev ok 0 [(9, sl a6 a1 c7), (10, I (ln a1)), (11, I 0)] 3 rfl rfl ?_
 refine LP_end _ rfl ?_
 refine W_block ?_
 obtain ⟨J, m, Hx, H⟩ := H
 refine W_loop (S := Int × Int) (fun s ρ' w' => J s.1 s.2 ∧ ∃ (ρ : Env), ρ' = setAll [(0, sl a wx c), (1, sl a6 a1 c7), (2, sl a12 b c13), (7, I s.1), (10, I (ln a1)), (11, I s.2)] ρ ∧ But emp w w' ∧ Sub hx w' ∧ Sub hx3 w' ∧ Sub hx9 w') (fun s => m s.1 s.2) (0, 0) ⟨Hx, _, env_eq ⟨rfl, rfl, rfl, rfl, rfl, rfl, trivial⟩, X, ex, ex5, ex11⟩ ?_
 rintro ⟨n, x⟩ _ wx14 ⟨Hi, ρ, rfl, X18, ex15, ex16, ex17⟩
 have H := H n x Hi
 refine W_seq (W_region ?_)
 refine LP_ev ok 0 [(12, .bool (decide (x < (ln a1))))] 1 rfl rfl ?_
 refine LP_end _ rfl (W_seq ?_)
 refine W_cond (decide (x < (ln a1))) rfl (fun hc => ?_) (fun hc => ?_)
 ·have H := H.1 hc
  refine W_skip ?_
  obtain ⟨k, hk, H⟩ := jn_elim H
  refine W_join2 (S := Int) (fun s ρ' w' => k s ∧ ∃ (ρ : Env), ρ' = setAll [(0, sl a wx c), (1, sl a6 a1 c7), (2, sl a12 b c13), (7, I s), (10, I (ln a1)), (11, I x)] ρ ∧ But emp w w' ∧ Sub hx w' ∧ Sub hx3 w' ∧ Sub hx9 w') ?_ ?_
  ·refine W_block ?_
   refine W_seq (W_region ?_)
   refine LP_ev ok 0 [(13, I x), (8, I x)] 2 rfl rfl ?_
   refine LP_end _ rfl (W_seq ?_)
   refine W_quiet mix (by kernel_rfl) ?_
   refine QP_ev ok 0 [(14, sl a6 a1 c7), (15, I x)] 2 rfl rfl ?_
   obtain ⟨x25, hi, hx26, H⟩ := H
   refine QP_index 2 rfl rfl rfl Try.underlying25 ti_3 rfl rfl r4 hi hx26 fun a27 cs r28 d => ?_
   refine QP_load 3 rfl rfl rfl ti_3 ag_3 rfl r28 d ex16 fun vx29 r30 => ?_
   obtain rfl := r30.int
   refine QP_ev ok 4 [(18, sl a12 b c13), (19, I x)] 6 rfl rfl ?_
   obtain ⟨x31, hi32, hx33, H⟩ := H
   refine QP_index 6 rfl rfl rfl Try.underlying25 ti_3 rfl rfl r10 hi32 hx33 fun a34 cs35 r36 d37 => ?_
   refine QP_load 7 rfl rfl rfl ti_3 ag_3 rfl r36 d37 ex17 fun vx38 r39 => ?_
   obtain rfl := r39.int
   refine QP_ev ok 8 [(22, .bool (x25 != x31))] 9 rfl rfl ?_
   refine QP_end _ rfl fun wx40 x41 => ?_
   refine W_cond (x25 != x31) rfl (fun hc42 => ?_) (fun hc42 => ?_)
   ·have H := H.1 hc42
    refine W_region ?_
    refine LP_ev ok 0 [(23, I n), (24, sl a wx c), (25, I x)] 3 rfl rfl ?_
    obtain ⟨x43, hi44, hx45, H⟩ := H
    refine LP_index 3 rfl rfl rfl Try.underlying25 ti_3 rfl rfl r hi44 hx45 fun a46 cs47 r48 d49 => ?_
    have ex50 := (ex15.ext x41)
    refine LP_load 4 rfl rfl rfl ti_3 ag_3 rfl r48 d49 ex50 fun vx51 r52 => ?_
    obtain rfl := r52.int
    refine LP_ev ok 5 [(28, I (wr (n + x43))), (7, I (wr (n + x43)))] 7 rfl rfl ?_
    exact LP_end _ rfl ⟨wr (n + x43), H, _, env_eq ⟨rfl, rfl, rfl, rfl, rfl, rfl, trivial⟩, (X18.stepx x41), ex50, (ex16.ext x41), (ex17.ext x41)⟩
   have H := H.2 hc42
   exact W_skip ⟨n, H, _, env_eq ⟨rfl, rfl, rfl, rfl, rfl, rfl, trivial⟩, (X18.stepx x41), (ex15.ext x41), (ex16.ext x41), (ex17.ext x41)⟩
  rintro n19 _ wx20 ⟨H, ρ, rfl, X24, ex21, ex22, ex23⟩
  subst hk
  refine W_region ?_
  refine LP_ev ok 0 [(29, I (wr (x + 1))), (11, I (wr (x + 1)))] 2 rfl rfl ?_
  exact LP_end _ rfl ⟨(n19, wr (x + 1)), ⟨H.1, _, env_eq ⟨rfl, rfl, rfl, rfl, rfl, rfl, trivial⟩, X24, ex21, ex22, ex23⟩, H.2⟩
 have H := H.2 hc
 refine W_exit ?_
 refine (if_pos rfl).mpr ?_
 refine W_seq (W_region ?_)
 refine LP_ev ok 0 [(30, I n), (6, I n)] 2 rfl rfl ?_
 refine LP_end _ rfl (W_ret ?_)
 exact ⟨_, Ret_of [I n] ⟨⟨rfl, rfl⟩, trivial⟩, _, H, rfl, X18.ext⟩

theorem spec_MendData_w (sx : List Variable) (l : List Edit) (weights : List Int) (data : List Record) (Q : (List Record) → (List Int) → Bool → Prop) (H : spec_MendData sx l weights data Q) (w : World) {vx : Value} {hx : PH} (r : RS hx vx sx) (ex : Sub hx w) {vx1 : Value} {hx2 : PH} (r3 : RS hx2 vx1 l) (ex4 : Sub hx2 w) {vx7 : Value} {hx8 : PH} (r9 : RS hx8 vx7 weights) (ex10 : Sub hx8 w) {vx13 : Value} {hx14 : PH} (r15 : RS hx14 vx13 data) (ex16 : Sub hx14 w) :
  CallsTo Try.prog 7 #[vx, vx1, vx7, vx13] w fun v w' => ∃ r0 r1 r2 u0 g0 u1 g1, Q r0 r1 r2 ∧ v = .tuple #[u0, u1, .bool r2] ∧ Ext w w' ∧ OD g0 u0 r0 ∧ Sub g0 w' ∧ Fresh w.heap.size g0 ∧ OS 3 g1 emp u1 r1 ∧ Sub g1 w' ∧ Fresh w.heap.size g1 ∧ Dj g0 g1 := by
 obtain ⟨a, c, rfl⟩ := r.shape
 obtain ⟨a5, c6, rfl⟩ := r3.shape
 obtain ⟨a11, c12, rfl⟩ := r9.shape
 obtain ⟨a17, c18, rfl⟩ := r15.shape
 refine enter (args := [sl a sx c, sl a5 l c6, sl a11 weights c12, sl a17 data c18]) 78 Try.func7 rfl rfl rfl ?_
 refine W_forget [(0, sl a sx c), (1, sl a5 l c6), (2, sl a11 weights c12), (3, sl a17 data c18)] ⟨rfl, rfl, rfl, rfl, trivial⟩ fun ρ => ?_
 have X := But.refl emp w
 refine W_seq (W_region ?_)
 refine LP_ev ok 0 [(8, .slice none 0 0), (9, .slice none 0 0), (10, .bool false)] 3 rfl rfl ?_
 refine LP_end _ rfl (W_seq ?_)
 obtain ⟨k, hk, H⟩ := jn_elim H
 refine W_join2 (S := Bool) (fun s ρ' w' => k s ∧ ∃ (ρ : Env), ρ' = setAll [(0, sl a sx c), (1, sl a5 l c6), (2, sl a11 weights c12), (3, sl a17 data c18), (34, .bool s)] ρ ∧ But emp w w' ∧ Sub hx w' ∧ Sub hx2 w' ∧ Sub hx8 w' ∧ Sub hx14 w') ?_ ?_
 ·refine W_region ?_
  refine LP_ev ok 0 [(19, sl a sx c), (20, sl a5 l c6)] 2 rfl rfl ?_
  refine LP_call 2 rfl rfl rfl cal_36 rfl (spec_eSmall_w _ _ _ H w r ex r3 ex4) ?_
  rintro _ wx25 ⟨r24, H, rfl, x26⟩
  refine LP_ev ok 3 [(22, .bool (!r24)), (23, .bool (!r24))] 5 rfl rfl ?_
  refine LP_split 23 (!r24) rfl (fun hc => ?_) (fun hc => ?_)
  ·have H := H.1 hc
   refine LP_ev ok 5 [(24, undef), (25, undef), (26, undef), (27, undef), (28, .bool true), (29, .bool true), (30, undef), (31, undef), (32, undef), (33, undef), (34, .bool true)] 16 rfl rfl ?_
   exact LP_end _ rfl ⟨true, H, _, env_eq ⟨rfl, rfl, rfl, rfl, rfl, trivial⟩, (X.stepx x26), (ex.ext x26), (ex4.ext x26), (ex10.ext x26), (ex16.ext x26)⟩
  have H := H.2 hc
  refine LP_ev ok 5 [(24, sl a sx c), (25, sl a11 weights c12)] 7 rfl rfl ?_
  have ex33 := (ex.ext x26)
  have ex34 := (ex10.ext x26)
  refine LP_call 7 rfl rfl rfl cal_37 rfl (spec_iWeights_w _ _ _ H wx25 r ex33 r9 ex34) ?_
  rintro _ wx35 ⟨r32, H, rfl, x36⟩
  refine LP_ev ok 8 [(27, .bool (!r32)), (28, .bool (!r32)), (29, .bool (!r32))] 11 rfl rfl ?_
  refine LP_split 29 (!r32) rfl (fun hc37 => ?_) (fun hc37 => ?_)
  ·have H := H.1 hc37
   refine LP_ev ok 11 [(30, undef), (31, undef), (32, undef), (33, undef), (34, .bool true)] 16 rfl rfl ?_
   refine LP_end _ rfl ?_
   have xc := (x26.trans x36)
   exact ⟨true, H, _, env_eq ⟨rfl, rfl, rfl, rfl, rfl, trivial⟩, (X.stepx xc), (ex33.ext x36), (ex4.ext xc), (ex34.ext x36), (ex16.ext xc)⟩
  have H := H.2 hc37
  refine LP_ev ok 11 [(30, sl a sx c), (31, sl a17 data c18)] 13 rfl rfl ?_
  have ex44 := (ex33.ext x36)
  have xc45 := (x26.trans x36)
  have ex46 := (ex16.ext xc45)
  refine LP_call 13 rfl rfl rfl cal_38 rfl (spec_dGood_w _ _ _ H wx35 r ex44 r15 ex46) ?_
  rintro _ wx47 ⟨r43, H, rfl, x48⟩
  refine LP_ev ok 14 [(33, .bool (!r43)), (34, .bool (!r43))] 16 rfl rfl ?_
  refine LP_end _ rfl ?_
  have xc49 := (xc45.trans x48)
  exact ⟨!r43, H, _, env_eq ⟨rfl, rfl, rfl, rfl, rfl, trivial⟩, (X.stepx xc49), (ex44.ext x48), (ex4.ext xc49), (ex34.ext (x36.trans x48)), (ex46.ext x48)⟩
 rintro x _ wx ⟨H, ρ, rfl, HF⟩
 revert HF
 refine bb5 fun X23 ex19 ex20 ex21 ex22 => ?_
 subst hk
 refine W_cond (x) rfl (fun hc56 => ?_) (fun hc56 => ?_)
 ·have H := H.1 hc56
  refine W_seq (W_region ?_)
  refine LP_ev ok 0 [(8, .slice none 0 0), (9, .slice none 0 0), (10, .bool false)] 3 rfl rfl ?_
  refine LP_end _ rfl (W_ret ?_)
  exact ⟨_, Ret_of [.slice none 0 0, .slice none 0 0, .bool false] ⟨⟨rfl, rfl⟩, ⟨rfl, rfl⟩, ⟨rfl, rfl⟩, trivial⟩, _, _, _, _, emp, _, emp, H, rfl, X23.ext, OD.nil, (emp_sub _), (emp_fresh _), OS.nil, (emp_sub _), (emp_fresh _), (Dj.emp_l _)⟩
 have H := H.2 hc56
 refine W_skip ?_
 refine W_seq (W_region ?_)
 refine LP_ev ok 0 [(11, .slice none 0 0)] 1 rfl rfl ?_
 refine LP_end _ rfl (W_seq (W_region ?_))
 refine LP_ev ok 0 [(12, .slice none 0 0)] 1 rfl rfl ?_
 refine LP_end _ rfl (W_seq ?_)
 refine W_seq (W_region ?_)
 refine LP_ev ok 0 [(35, sl a17 data c18), (36, I (ln data)), (37, I 0)] 3 rfl rfl ?_
 refine LP_end _ rfl ?_
 refine W_block ?_
 obtain ⟨J, m, Hx, H⟩ := H
 refine W_loop (S := (List Record) × (List Int) × Int) (fun s ρ' w' => J s.1 s.2.1 s.2.2 ∧ ∃ (ρ : Env) (vx57 : Value) (hx58 : PH) (vx60 : Value) (hx61 : PH), ρ' = setAll [(0, sl a sx c), (1, sl a5 l c6), (2, sl a11 weights c12), (11, vx57), (12, vx60), (35, sl a17 data c18), (36, I (ln data)), (37, I s.2.2)] ρ ∧ But emp w w' ∧ OD hx58 vx57 s.1 ∧ Sub hx58 w' ∧ Fresh w.heap.size hx58 ∧ OS 3 hx61 emp vx60 s.2.1 ∧ Sub hx61 w' ∧ Fresh w.heap.size hx61 ∧ Sub hx w' ∧ Sub hx2 w' ∧ Sub hx8 w' ∧ Sub hx14 w' ∧ Dj hx58 hx ∧ Dj hx58 hx2 ∧ Dj hx58 hx8 ∧ Dj hx58 hx14 ∧ Dj hx61 hx ∧ Dj hx61 hx2 ∧ Dj hx61 hx8 ∧ Dj hx61 hx14 ∧ Dj hx61 hx58) (fun s => m s.1 s.2.1 s.2.2) ([], [], 0) ⟨Hx, _, .slice none 0 0, emp, .slice none 0 0, emp, env_eq ⟨rfl, rfl, rfl, rfl, rfl, rfl, rfl, rfl, trivial⟩, X23, OD.nil, (emp_sub _), (emp_fresh _), OS.nil, (emp_sub _), (emp_fresh _), ex19, ex20, ex21, ex22, (fun _ => .inl rfl), (fun _ => .inl rfl), (fun _ => .inl rfl), (fun _ => .inl rfl), (fun _ => .inl rfl), (fun _ => .inl rfl), (fun _ => .inl rfl), (fun _ => .inl rfl), (fun _ => .inl rfl)⟩ ?_
 rintro ⟨out, costs, x65⟩ _ wx66 ⟨Hi, ρ, vx57, hx58, vx60, hx61, rfl, HF⟩
 revert HF
 refine bb9 fun X83 o ex59 f o62 ex63 f64 ex67 => ?_
 refine bb9 fun ex68 ex69 ex70 d d75 d76 d77 d78 => ?_
 refine bb4 fun d79 d80 d81 d82 => ?_
 have H := H out costs x65 Hi
 obtain ⟨a71, c72, rfl⟩ := o.shape
 obtain ⟨a73, c74, rfl⟩ := o62.shape
 refine W_seq (W_region ?_)
 refine LP_ev ok 0 [(38, .bool (decide (x65 < (ln data))))] 1 rfl rfl ?_
 refine LP_end _ rfl (W_seq ?_)
 refine W_cond (decide (x65 < (ln data))) rfl (fun hc84 => ?_) (fun hc84 => ?_)
 ·have H := H.1 hc84
  refine W_skip ?_
  refine W_seq ?_
  refine W_block ?_
  refine W_seq (W_region ?_)
  obtain ⟨x85, hi, hx86, H⟩ := H
  refine LP_index 0 rfl rfl rfl Try.underlying26 ti_40 rfl rfl r15 hi hx86 fun a87 cs r88 d89 => ?_
  have d90 := d89
  obtain ⟨u, rfl, r91⟩ := Record_rd d90
  obtain ⟨a92, c93, rfl⟩ := r91.shape
  refine LP_load 1 rfl rfl rfl ti_40 ag_40 rfl r88 d89 ex70 fun vx94 r95 => ?_
  obtain ⟨u96, rfl, r97⟩ := Record_rv r95
  obtain ⟨a98, c99, rfl⟩ := r97.shape
  refine LP_alloc 2 rfl rfl rfl ti_40 rfl fun b wx100 x101 ex102 f103 => ?_
  refine LP_stbox 3 (vs := [I x85.Area, I x85.House, sl a98 x85.Values c99]) (cs' := [I x85.Area, I x85.House, sl a98 x85.Values c99]) rfl rfl rfl ti_40 rfl rfl rfl rfl rfl ex102 rfl rfl fun wx104 ex105 y => ?_
  refine LP_end _ rfl (W_seq (W_region ?_))
  refine LP_ldbox 0 (v := .agg #[I x85.Area, I x85.House, sl a98 x85.Values c99]) rfl rfl rfl ti_40 ag_40 (fun h => by cases h) rfl ex105 rfl rfl ?_
  have ex107 := ((ex70.ext x101).but y (Dj.of_fresh ex70 f103).symm)
  refine LP_call 1 rfl rfl rfl cal_39 rfl (spec_rOwn_w _ _ H wx104 r97 ex107) ?_
  rintro _ wx108 ⟨r106, vx110, hx111, H, rfl, x109, o112, ex113, f114⟩
  obtain ⟨a115, c116, rfl⟩ := o112.shape
  refine LP_alloc 2 rfl rfl rfl ti_40 rfl fun b117 wx118 x119 ex120 f121 => ?_
  refine LP_stbox 3 (vs := [I r106.Area, I r106.House, sl a115 r106.Values c116]) (cs' := [I r106.Area, I r106.House, sl a115 r106.Values c116]) rfl rfl rfl ti_40 rfl rfl rfl rfl rfl ex120 rfl rfl fun wx122 ex123 y124 => ?_
  refine LP_end _ rfl (W_seq (W_region ?_))
  refine LP_ev ok 0 [(16, I 0)] 1 rfl rfl ?_
  refine LP_end _ rfl ?_
  have f125 := f103.mono X83.size
  have xc126 := (x109.trans x119)
  have f127 := f121.mono (((X83.stepx x101).step y (f125.dom _)).stepx x109).size
  have X129 := ((((X83.stepx x101).step y (f125.dom _)).stepx xc126).step y124 (f127.dom _))
  have ex130 := (((ex67.ext x101).but y (Dj.of_fresh ex67 f103).symm).ext x109)
  have ex131 := ((((ex67.ext x101).but y (Dj.of_fresh ex67 f103).symm).ext xc126).but y124 (Dj.of_fresh ex130 f121).symm)
  have ex132 := (((ex68.ext x101).but y (Dj.of_fresh ex68 f103).symm).ext x109)
  have ex133 := ((((ex68.ext x101).but y (Dj.of_fresh ex68 f103).symm).ext xc126).but y124 (Dj.of_fresh ex132 f121).symm)
  have ex134 := (((ex69.ext x101).but y (Dj.of_fresh ex69 f103).symm).ext x109)
  have ex135 := ((((ex69.ext x101).but y (Dj.of_fresh ex69 f103).symm).ext xc126).but y124 (Dj.of_fresh ex134 f121).symm)
  have ex136 := (ex107.ext x109)
  have ex137 := ((ex107.ext xc126).but y124 (Dj.of_fresh ex136 f121).symm)
  have ex138 := (((ex59.ext x101).but y (Dj.of_fresh ex59 f103).symm).ext x109)
  have ex139 := ((((ex59.ext x101).but y (Dj.of_fresh ex59 f103).symm).ext xc126).but y124 (Dj.of_fresh ex138 f121).symm)
  have ex140 := (((ex63.ext x101).but y (Dj.of_fresh ex63 f103).symm).ext x109)
  have ex141 := ((((ex63.ext x101).but y (Dj.of_fresh ex63 f103).symm).ext xc126).but y124 (Dj.of_fresh ex140 f121).symm)
  have ex143 := ((ex105.ext xc126).but y124 (Dj.of_fresh (ex105.ext x109) f121).symm)
  have f145 := f114.mono ((X83.stepx x101).step y (f125.dom _)).size
  obtain ⟨k170, hk171, H⟩ := jn_elim H
  refine W_join2 (S := Int × (List Int)) (fun s ρ' w' => k170 s.1 s.2 ∧ ∃ (ρ : Env) (vx147 : Value) (hx148 : PH), ρ' = setAll [(0, sl a sx c), (1, sl a5 l c6), (2, sl a11 weights c12), (11, sl a71 out c72), (12, sl a73 costs c74), (15, pb b117), (16, I s.1), (35, sl a17 data c18), (36, I (ln data)), (37, I x65)] ρ ∧ But emp w w' ∧ OS 3 hx148 emp vx147 s.2 ∧ Sub hx148 w' ∧ Fresh w.heap.size hx148 ∧ Sub hx w' ∧ Sub hx2 w' ∧ Sub hx8 w' ∧ Sub hx14 w' ∧ Sub hx58 w' ∧ Sub hx61 w' ∧ Sub (bx b117 40 [I r106.Area, I r106.House, vx147]) w' ∧ Dj hx148 hx ∧ Dj hx148 hx2 ∧ Dj hx148 hx8 ∧ Dj hx148 hx14 ∧ Dj hx148 hx58 ∧ Dj hx148 hx61 ∧ Dj hx148 (bx b117 40 [I r106.Area, I r106.House, vx147])) ?_ ?_
  ·refine W_seq (W_region ?_)
   refine LP_ev ok 0 [(43, sl a5 l c6), (44, .pointer (some ⟨b, 2, none⟩))] 2 rfl rfl ?_
   refine LP_ldbox 2 (v := sl a98 x85.Values c99) rfl rfl rfl ti_25 ag_25 (fun _ => rfl) rfl ex143 rfl rfl ?_
   refine LP_call 3 rfl rfl rfl cal_40 rfl (spec_eFailed_w _ _ _ H wx122 r3 ex133 r97 ex137) ?_
   rintro _ wx173 ⟨r172, vx175, hx176, H, rfl, x174, o177, ex178, f179⟩
   obtain ⟨a180, c181, rfl⟩ := o177.shape
   refine LP_ev ok 4 [(47, I (ln r172)), (48, .bool (decide ((ln r172) > 0)))] 6 rfl rfl ?_
   refine LP_end _ rfl ?_
   refine W_cond (decide ((ln r172) > 0)) rfl (fun hc182 => ?_) (fun hc182 => ?_)
   ·have H := H.1 hc182
    refine W_seq (W_region ?_)
    refine LP_ev ok 0 [(50, sl a sx c), (51, sl a5 l c6), (52, sl a11 weights c12), (53, .pointer (some ⟨b, 2, none⟩))] 4 rfl rfl ?_
    have ex183 := (ex143.ext x174)
    refine LP_ldbox 4 (v := sl a98 x85.Values c99) rfl rfl rfl ti_25 ag_25 (fun _ => rfl) rfl ex183 rfl rfl ?_
    have ex186 := (ex131.ext x174)
    have ex187 := (ex133.ext x174)
    have ex188 := (ex135.ext x174)
    have ex189 := (ex137.ext x174)
    refine LP_call 5 rfl rfl rfl cal_41 rfl (spec_iMend_w _ _ _ _ _ H wx173 r ex186 r3 ex187 r9 ex188 r97 ex189) ?_
    rintro _ wx190 ⟨r184, r185, vx192, hx193, H, rfl, x191, o194, ex195, f196⟩
    obtain ⟨a197, c198, rfl⟩ := o194.shape
    refine LP_ev ok 6 [(49, .tuple #[sl a197 r184 c198, .bool r185]), (56, sl a197 r184 c198), (57, .bool r185), (17, sl a197 r184 c198), (18, .bool r185)] 11 rfl rfl ?_
    refine LP_end _ rfl ?_
    try refine W_forget [(0, sl a sx c), (1, sl a5 l c6), (2, sl a11 weights c12), (11, sl a71 out c72), (12, sl a73 costs c74), (14, pb b), (15, pb b117), (17, sl a197 r184 c198), (18, .bool r185), (35, sl a17 data c18), (36, I (ln data)), (37, I x65)] ⟨rfl, rfl, rfl, rfl, rfl, rfl, rfl, rfl, rfl, rfl, rfl, rfl, trivial⟩ fun ρ => ?_
    refine W_seq ?_
    refine W_seq (W_region ?_)
    refine LP_ev ok 0 [(58, .bool r185), (59, .bool (!r185))] 2 rfl rfl ?_
    refine LP_end _ rfl ?_
    refine W_cond (!r185) rfl (fun hc199 => ?_) (fun hc199 => ?_)
    ·have H := H.1 hc199
     refine W_seq (W_region ?_)
     refine LP_ev ok 0 [(8, .slice none 0 0), (9, .slice none 0 0), (10, .bool false)] 3 rfl rfl ?_
     refine LP_end _ rfl (W_ret ?_)
     exact ⟨_, Ret_of [.slice none 0 0, .slice none 0 0, .bool false] ⟨⟨rfl, rfl⟩, ⟨rfl, rfl⟩, ⟨rfl, rfl⟩, trivial⟩, _, _, _, _, emp, _, emp, H, rfl, (X129.stepx (x174.trans x191)).ext, OD.nil, (emp_sub _), (emp_fresh _), OS.nil, (emp_sub _), (emp_fresh _), (Dj.emp_l _)⟩
    have H := H.2 hc199
    refine W_skip ?_
    refine W_seq (W_region ?_)
    refine LP_ev ok 0 [(60, sl a11 weights c12), (61, sl a197 r184 c198), (62, .pointer (some ⟨b, 2, none⟩))] 3 rfl rfl ?_
    refine LP_ldbox 3 (v := sl a98 x85.Values c99) rfl rfl rfl ti_25 ag_25 (fun _ => rfl) rfl (ex183.ext x191) rfl rfl ?_
    have ex204 := (ex188.ext x191)
    have ex205 := (ex189.ext x191)
    refine LP_call 4 rfl rfl rfl cal_42 rfl (spec_iChanged_w _ _ _ _ H wx190 r9 ex204 o194.readf ex195 r97 ex205) ?_
    rintro _ wx206 ⟨r203, H, rfl, x207⟩
    refine LP_ev ok 5 [(16, I r203)] 6 rfl rfl ?_
    refine LP_end _ rfl ?_
    refine W_region ?_
    refine LP_ev ok 0 [(65, sl a197 r184 c198), (66, .pointer (some ⟨b117, 2, none⟩))] 2 rfl rfl ?_
    have xc211 := ((x174.trans x191).trans x207)
    refine LP_stbox 2 (vs := [sl a197 r184 c198]) (cs' := [I r106.Area, I r106.House, sl a197 r184 c198]) rfl rfl rfl ti_25 rfl rfl rfl rfl rfl (ex123.ext xc211) rfl rfl fun wx208 ex209 y210 => ?_
    refine LP_end _ rfl ?_
    have ex214 := (ex123.ext x174)
    have f216 := f196.mono (X129.stepx x174).size
    have xc218 := (x191.trans x207)
    exact ⟨(r203, r184), H, _, sl a197 r184 c198, hx193, env_eq ⟨rfl, rfl, rfl, rfl, rfl, rfl, rfl, rfl, rfl, rfl, trivial⟩, ((X129.stepx xc211).step y210 ((Fresh.box f127).dom _)), o194, ((ex195.ext x207).but y210 (Dj.of_fresh ex214 f196)), f216, ((ex186.ext xc218).but y210 (Dj.box (Dj.of_fresh ex130 f121).symm)), ((ex187.ext xc218).but y210 (Dj.box (Dj.of_fresh ex132 f121).symm)), ((ex204.ext x207).but y210 (Dj.box (Dj.of_fresh ex134 f121).symm)), ((ex205.ext x207).but y210 (Dj.box (Dj.of_fresh ex136 f121).symm)), ((ex139.ext xc211).but y210 (Dj.box (Dj.of_fresh ex138 f121).symm)), ((ex141.ext xc211).but y210 (Dj.box (Dj.of_fresh ex140 f121).symm)), ex209, (Dj.of_fresh ex186 f196).symm, (Dj.of_fresh ex187 f196).symm, (Dj.of_fresh ex188 f196).symm, (Dj.of_fresh ex189 f196).symm, (Dj.of_fresh (ex139.ext x174) f196).symm, (Dj.of_fresh (ex141.ext x174) f196).symm, (Dj.box (Dj.of_fresh ex214 f196).symm.symm).symm⟩
   have H := H.2 hc182
   exact W_skip ⟨(0, r106.Values), H, _, sl a115 r106.Values c116, hx111, env_eq ⟨rfl, rfl, rfl, rfl, rfl, rfl, rfl, rfl, rfl, rfl, trivial⟩, (X129.stepx x174), o112, (((ex113.ext x119).but y124 (Dj.of_fresh ex113 f121).symm).ext x174), f145, (ex131.ext x174), (ex133.ext x174), (ex135.ext x174), (ex137.ext x174), (ex139.ext x174), (ex141.ext x174), (ex123.ext x174), (Dj.of_fresh ((ex67.ext x101).but y (Dj.of_fresh ex67 f103).symm) f114).symm, (Dj.of_fresh ((ex68.ext x101).but y (Dj.of_fresh ex68 f103).symm) f114).symm, (Dj.of_fresh ((ex69.ext x101).but y (Dj.of_fresh ex69 f103).symm) f114).symm, (Dj.of_fresh ex107 f114).symm, (Dj.of_fresh ((ex59.ext x101).but y (Dj.of_fresh ex59 f103).symm) f114).symm, (Dj.of_fresh ((ex63.ext x101).but y (Dj.of_fresh ex63 f103).symm) f114).symm, (Dj.box (Dj.of_fresh ex113 f121).symm).symm⟩
  rintro ⟨cost, values⟩ _ wx152 ⟨H, ρ, vx147, hx148, rfl, HF⟩
  revert HF
  refine bb9 fun X169 o149 ex150 f151 ex153 ex154 ex155 ex156 => ?_
  refine bb9 fun ex157 ex158 ex161 d162 d163 d164 d165 d166 => ?_
  refine bb2 fun d167 d168 => ?_
  subst hk171
  obtain ⟨a159, c160, rfl⟩ := o149.shape
  refine W_seq (W_region ?_)
  refine LP_ev ok 0 [(67, sl a71 out c72)] 1 rfl rfl ?_
  refine LP_ldbox 1 (v := .agg #[I r106.Area, I r106.House, sl a159 values c160]) rfl rfl rfl ti_40 ag_40 (fun h => by cases h) rfl ex161 rfl rfl ?_
  have rv : RVO (un emp (un emp hx148)) (.agg #[I r106.Area, I r106.House, sl a159 values c160]) ((Record.mk r106.Area r106.House values) : Record) := ⟨_, ⟨_, _, _, _, rfl, rfl, (Dj.emp_l _), ⟨rfl, rfl⟩, ⟨_, _, _, _, rfl, rfl, (Dj.emp_l _), ⟨rfl, rfl⟩, ⟨_, rfl, (OS.od o149)⟩⟩⟩, rfl⟩
  refine LP_litD (α := Record) 2 (vs := [.agg #[I r106.Area, I r106.House, sl a159 values c160]]) (xs := [((Record.mk r106.Area r106.House values) : Record)]) rfl rfl rfl Try.underlying26 ti_40 rfl rfl (allO.one rv) (Sub.un (emp_sub _) (Sub.un (emp_sub _) ex150)) rfl rfl fun hx241 vx242 wx243 x244 o245 ex246 dm => ?_
  obtain ⟨a247, c248, rfl⟩ := o245.shape
  obtain ⟨hb, H⟩ := H
  refine LP_appendD (α := Record) 3 rfl rfl rfl Try.underlying26 ti_40 rfl rfl rfl o (ex157.ext x244) o245 ex246 (DomLe.dj dm (Dj.un_l (Dj.emp_l _) (Dj.un_l (Dj.emp_l _) d166)) ex157).symm (by first | omega | (simp only [ln] at *; omega)) (by first | omega | (simp only [ln] at *; omega)) fun hx250 vx251 wx252 hw o253 ex254 y255 dh dm256 => ?_
  obtain ⟨a257, c258, rfl⟩ := o253.shape
  refine LP_ev ok 4 [(11, .slice a257 (List.length (out ++ ([((Record.mk r106.Area r106.House values) : Record)]))) c258)] 5 rfl rfl ?_
  refine LP_end _ rfl ?_
  refine W_region ?_
  refine LP_ev ok 0 [(71, sl a73 costs c74), (72, I cost)] 2 rfl rfl ?_
  refine LP_lit (α := Int) (g := emp) 2 (vs := [I cost]) (xs := [cost]) rfl rfl rfl Try.underlying25 ti_3 rfl rfl ⟨⟨_, rfl, rfl⟩, trivial⟩ rfl rfl fun hx259 vx260 wx261 x262 o263 ex264 f265 => ?_
  obtain ⟨a266, c267, rfl⟩ := o263.shape
  obtain ⟨hb269, H⟩ := H
  refine LP_appendf (α := Int) 3 rfl rfl rfl Try.underlying25 ti_3 rfl rfl rfl o62 (((ex158.ext x244).but (But.dom y255 dh) d82.symm).ext x262) o263.readf ex264 (by first | omega | (simp only [ln] at *; omega)) (by first | omega | (simp only [ln] at *; omega)) fun hx270 vx271 wx272 o273 ex274 y275 dm276 => ?_
  obtain ⟨a277, c278, rfl⟩ := o273.shape
  refine LP_ev ok 4 [(12, .slice a277 (List.length (costs ++ ([cost]))) c278)] 5 rfl rfl ?_
  refine LP_end _ rfl ?_
  refine W_region ?_
  refine LP_ev ok 0 [(75, I (wr (x65 + 1))), (37, I (wr (x65 + 1)))] 2 rfl rfl ?_
  refine LP_end _ rfl ?_
  have ex280 := (ex158.ext x244)
  have f282 := DomLe.fresh dm (Fresh.un (emp_fresh _) (Fresh.un (emp_fresh _) f151)) X169.size
  have X284 := (X169.stepx x244)
  have f283 := DomLe.fresh dm256 (Fresh.un f f282) X284.size
  have f285 := dm276.fresh f64 ((X284.step (But.dom y255 dh) (f.dom _)).stepx x262).size
  have ex291 := (ex153.ext x244)
  have ex292 := (ex154.ext x244)
  have ex293 := (ex155.ext x244)
  have ex294 := (ex156.ext x244)
  exact ⟨(out ++ ([((Record.mk r106.Area r106.House values) : Record)]), costs ++ ([cost]), wr (x65 + 1)), ⟨H.1, _, .slice a257 (List.length (out ++ ([((Record.mk r106.Area r106.House values) : Record)]))) c258, hx250, .slice a277 (List.length (costs ++ ([cost]))) c278, hx270, env_eq ⟨rfl, rfl, rfl, rfl, rfl, rfl, rfl, rfl, trivial⟩, ((((X169.stepx x244).step (But.dom y255 dh) (f.dom _)).stepx x262).step y275 (f64.dom _)), o253, ((ex254.ext x262).but y275 (DomLe.dj dm256 (Dj.un_l d82.symm (DomLe.dj dm (Dj.un_l (Dj.emp_l _) (Dj.un_l (Dj.emp_l _) d167)) ex158)) ex280).symm), f283, o273, ex274, f285, ((((ex153.ext x244).but (But.dom y255 dh) d).ext x262).but y275 d78), ((((ex154.ext x244).but (But.dom y255 dh) d75).ext x262).but y275 d79), ((((ex155.ext x244).but (But.dom y255 dh) d76).ext x262).but y275 d80), ((((ex156.ext x244).but (But.dom y255 dh) d77).ext x262).but y275 d81), (DomLe.dj dm256 (Dj.un_l d (DomLe.dj dm (Dj.un_l (Dj.emp_l _) (Dj.un_l (Dj.emp_l _) d162)) ex153)) ex291), (DomLe.dj dm256 (Dj.un_l d75 (DomLe.dj dm (Dj.un_l (Dj.emp_l _) (Dj.un_l (Dj.emp_l _) d163)) ex154)) ex292), (DomLe.dj dm256 (Dj.un_l d76 (DomLe.dj dm (Dj.un_l (Dj.emp_l _) (Dj.un_l (Dj.emp_l _) d164)) ex155)) ex293), (DomLe.dj dm256 (Dj.un_l d77 (DomLe.dj dm (Dj.un_l (Dj.emp_l _) (Dj.un_l (Dj.emp_l _) d165)) ex156)) ex294), (DomLe.dj dm276 d78 ((ex291.but (But.dom y255 dh) d).ext x262)), (DomLe.dj dm276 d79 ((ex292.but (But.dom y255 dh) d75).ext x262)), (DomLe.dj dm276 d80 ((ex293.but (But.dom y255 dh) d76).ext x262)), (DomLe.dj dm276 d81 ((ex294.but (But.dom y255 dh) d77).ext x262)), (DomLe.dj dm276 (DomLe.dj dm256 (Dj.un_l d82.symm (DomLe.dj dm (Dj.un_l (Dj.emp_l _) (Dj.un_l (Dj.emp_l _) d167)) ex158)) ex280).symm (ex254.ext x262))⟩, H.2⟩
 have H := H.2 hc84
 refine W_exit ?_
 refine (if_pos rfl).mpr ?_
 refine W_seq (W_region ?_)
 refine LP_ev ok 0 [(76, sl a71 out c72), (77, sl a73 costs c74), (8, sl a71 out c72), (9, sl a73 costs c74), (10, .bool true)] 5 rfl rfl ?_
 refine LP_end _ rfl (W_ret ?_)
 exact ⟨_, Ret_of [sl a71 out c72, sl a73 costs c74, .bool true] ⟨⟨rfl, rfl⟩, ⟨rfl, rfl⟩, ⟨rfl, rfl⟩, trivial⟩, _, _, _, _, _, _, _, H, rfl, X83.ext, o, ex59, f, o62, ex63, f64, d82.symm⟩

theorem spec_DrawNearestDonor_w (code : List B8) (Q : (List Variable) → (List Edit) → (List Int) → (List Record) → (List Int) → Prop) (H : spec_DrawNearestDonor code Q) (w : World) {vx : Value} {hx : PH} (r : RS hx vx code) (ex : Sub hx w) :
  CallsTo Try.prog 8 #[vx] w fun v w' => ∃ r0 r1 r2 r3 r4 u0 g0 u1 g1 u2 g2 u3 g3 u4 g4, Q r0 r1 r2 r3 r4 ∧ v = .tuple #[u0, u1, u2, u3, u4] ∧ Ext w w' ∧ OS 90 g0 emp u0 r0 ∧ Sub g0 w' ∧ Fresh w.heap.size g0 ∧ OD g1 u1 r1 ∧ Sub g1 w' ∧ Fresh w.heap.size g1 ∧ OS 3 g2 emp u2 r2 ∧ Sub g2 w' ∧ Fresh w.heap.size g2 ∧ OD g3 u3 r3 ∧ Sub g3 w' ∧ Fresh w.heap.size g3 ∧ OS 3 g4 emp u4 r4 ∧ Sub g4 w' ∧ Fresh w.heap.size g4 ∧ Dj g0 g1 ∧ Dj g0 g2 ∧ Dj g0 g3 ∧ Dj g0 g4 ∧ Dj g1 g2 ∧ Dj g1 g3 ∧ Dj g1 g4 ∧ Dj g2 g3 ∧ Dj g2 g4 ∧ Dj g3 g4 := by
 obtain ⟨a, c, rfl⟩ := r.shape
 refine enter (args := [sl a code c]) 29 Try.func8 rfl rfl rfl ?_
 refine W_forget [(0, sl a code c)] ⟨rfl, trivial⟩ fun ρ => ?_
 have X := But.refl emp w
 refine W_seq (W_region ?_)
 refine LP_ev ok 0 [(2, .slice none 0 0), (3, .slice none 0 0), (4, .slice none 0 0), (5, .slice none 0 0), (6, .slice none 0 0)] 5 rfl rfl ?_
 refine LP_end _ rfl (W_seq (W_region ?_))
 refine LP_ev ok 0 [(12, sl a code c), (13, .agg #[sl a code c, I 0, .int .u64 0])] 2 rfl rfl ?_
 refine LP_box 2 (cs := [sl a code c, I 0, .int .u64 0]) rfl rfl rfl rfl rfl fun b wx x ex1 f => ?_
 refine LP_ev ok 3 [(7, pb b)] 4 rfl rfl ?_
 refine LP_end _ rfl (W_seq (W_region ?_))
 refine LP_ev ok 0 [(16, pb b)] 1 rfl rfl ?_
 have ex8 := (ex.ext x)
 refine LP_call 1 rfl rfl rfl cal_26 rfl (spec_l1Cur_mended_w _ _ H wx r ex8 ex1 (Dj.of_fresh ex f).symm) ?_
 rintro _ wx9 ⟨r2, r3, r4, r5, r6, r7, vx11, hx12, vx15, hx16, vx20, hx21, vx25, hx26, H, rfl, x10, HF⟩
 revert HF
 refine bb9 fun o ex13 f14 o17 ex18 f19 o22 ex23 => ?_
 refine bb9 fun f24 o27 ex28 f29 ex30 d d31 d32 => ?_
 refine bb7 fun d33 d34 d35 d36 d37 d38 d39 => ?_
 obtain ⟨a40, c41, rfl⟩ := o.shape
 obtain ⟨a42, c43, rfl⟩ := o17.shape
 obtain ⟨a44, c45, rfl⟩ := o22.shape
 obtain ⟨a46, c47, rfl⟩ := o27.shape
 refine LP_ev ok 2 [(15, .tuple #[sl a40 r2 c41, sl a42 r3 c43, sl a44 r4 c45, sl a46 r5 c47]), (18, sl a40 r2 c41), (19, sl a42 r3 c43), (20, sl a44 r4 c45), (21, sl a46 r5 c47), (8, sl a40 r2 c41), (9, sl a42 r3 c43), (10, sl a44 r4 c45), (11, sl a46 r5 c47)] 11 rfl rfl ?_
 refine LP_end _ rfl (W_seq (W_region ?_))
 refine LP_ev ok 0 [(22, sl a40 r2 c41), (23, sl a42 r3 c43), (24, sl a44 r4 c45), (25, pb b), (26, sl a40 r2 c41)] 5 rfl rfl ?_
 refine LP_call 5 rfl rfl rfl cal_27 rfl (spec_l1Cur_anyData_w _ _ _ H wx9 r (ex8.but x10 (Dj.of_fresh ex f).symm) ex30 o.readf ex13 (Dj.box (Dj.of_fresh ex f).symm) d33.symm) ?_
 rintro _ wx52 ⟨r48, r49, r50, vx54, hx55, H, rfl, x53, HF⟩
 revert HF
 refine bb5 fun o56 ex57 f58 ex59 d60 => ?_
 obtain ⟨a61, c62, rfl⟩ := o56.shape
 refine LP_ev ok 6 [(28, sl a46 r5 c47), (2, sl a40 r2 c41), (3, sl a42 r3 c43), (4, sl a44 r4 c45), (5, sl a61 r48 c62), (6, sl a46 r5 c47)] 12 rfl rfl ?_
 refine LP_end _ rfl ?_
 try refine W_forget [(2, sl a40 r2 c41), (3, sl a42 r3 c43), (4, sl a44 r4 c45), (5, sl a61 r48 c62), (6, sl a46 r5 c47)] ⟨rfl, rfl, rfl, rfl, rfl, trivial⟩ fun ρ => ?_
 refine W_ret ?_
 have X65 := (X.stepx x)
 have f64 := f14.mono X65.size
 have f67 := f19.mono X65.size
 have f69 := f24.mono X65.size
 have f71 := f.mono X.size
 have X72 := (X65.step x10 (f71.dom _))
 have f70 := f58.mono X72.size
 have f74 := f29.mono X65.size
 exact ⟨_, Ret_of [sl a40 r2 c41, sl a42 r3 c43, sl a44 r4 c45, sl a61 r48 c62, sl a46 r5 c47] ⟨⟨rfl, rfl⟩, ⟨rfl, rfl⟩, ⟨rfl, rfl⟩, ⟨rfl, rfl⟩, ⟨rfl, rfl⟩, trivial⟩, _, _, _, _, _, _, _, _, _, _, _, _, _, _, _, H, rfl, (X72.step x53 ((Fresh.box f71).dom _)).ext, o, (ex13.but x53 d33.symm), f64, o17, (ex18.but x53 d36.symm), f67, o22, (ex23.but x53 d38.symm), f69, o56, ex57, f70, o27, (ex28.but x53 d39.symm), f74, d, d31, (Dj.of_fresh ex13 f58), d32, d34, (Dj.of_fresh ex18 f58), d35, (Dj.of_fresh ex23 f58), d37, (Dj.of_fresh ex28 f58).symm⟩

theorem impl_changeCost_w (weights : List Int) (a1 : List Int) (b : List Int) (Q : Int → Prop) (H : impl_changeCost weights a1 b Q) (w : World) {vx : Value} {hx : PH} (r : RS hx vx weights) (ex : Sub hx w) {vx2 : Value} {hx3 : PH} (r4 : RS hx3 vx2 a1) (ex5 : Sub hx3 w) {vx8 : Value} {hx9 : PH} (r10 : RS hx9 vx8 b) (ex11 : Sub hx9 w) :
  CallsTo Try.prog 44 #[vx, vx2, vx8] w fun v w' => ∃ r0, Q r0 ∧ v = I r0 ∧ Ext w w' := by
 obtain ⟨a, c, rfl⟩ := r.shape
 obtain ⟨a6, c7, rfl⟩ := r4.shape
 obtain ⟨a12, c13, rfl⟩ := r10.shape
 refine enter (args := [sl a weights c, sl a6 a1 c7, sl a12 b c13]) 31 Try.func44 rfl rfl rfl ?_
 refine W_forget [(0, sl a weights c), (1, sl a6 a1 c7), (2, sl a12 b c13)] ⟨rfl, rfl, rfl, trivial⟩ fun ρ => ?_
 have X := But.refl emp w
 refine W_seq (W_region ?_)
 refine LP_ev ok 0 [(6, I 0)] 1 rfl rfl ?_
 refine LP_end _ rfl (W_seq (W_region ?_))
 refine LP_ev ok 0 [(7, I 0)] 1 rfl rfl ?_
 refine LP_end _ rfl (W_seq ?_)
 refine W_seq (W_region ?_)
 refine LP_ev ok 0 [(9, sl a6 a1 c7), (10, I (ln a1)), (11, I 0)] 3 rfl rfl ?_
 refine LP_end _ rfl ?_
 refine W_block ?_
 obtain ⟨J, m, Hx, H⟩ := H
 refine W_loop (S := Int × Int) (fun s ρ' w' => J s.1 s.2 ∧ ∃ (ρ : Env), ρ' = setAll [(0, sl a weights c), (1, sl a6 a1 c7), (2, sl a12 b c13), (7, I s.1), (10, I (ln a1)), (11, I s.2)] ρ ∧ But emp w w' ∧ Sub hx w' ∧ Sub hx3 w' ∧ Sub hx9 w') (fun s => m s.1 s.2) (0, 0) ⟨Hx, _, env_eq ⟨rfl, rfl, rfl, rfl, rfl, rfl, trivial⟩, X, ex, ex5, ex11⟩ ?_
 rintro ⟨cost, x⟩ _ wx ⟨Hi, ρ, rfl, X17, ex14, ex15, ex16⟩
 have H := H cost x Hi
 refine W_seq (W_region ?_)
 refine LP_ev ok 0 [(12, .bool (decide (x < (ln a1))))] 1 rfl rfl ?_
 refine LP_end _ rfl (W_seq ?_)
 refine W_cond (decide (x < (ln a1))) rfl (fun hc => ?_) (fun hc => ?_)
 ·have H := H.1 hc
  refine W_skip ?_
  obtain ⟨k, hk, H⟩ := jn_elim H
  refine W_join2 (S := Int) (fun s ρ' w' => k s ∧ ∃ (ρ : Env), ρ' = setAll [(0, sl a weights c), (1, sl a6 a1 c7), (2, sl a12 b c13), (7, I s), (10, I (ln a1)), (11, I x)] ρ ∧ But emp w w' ∧ Sub hx w' ∧ Sub hx3 w' ∧ Sub hx9 w') ?_ ?_
  ·refine W_block ?_
   refine W_seq (W_region ?_)
   refine LP_ev ok 0 [(13, I x), (8, I x)] 2 rfl rfl ?_
   refine LP_end _ rfl (W_seq ?_)
   refine W_quiet mix (by kernel_rfl) ?_
   refine QP_ev ok 0 [(14, sl a6 a1 c7), (15, I x)] 2 rfl rfl ?_
   obtain ⟨x24, hi, hx25, H⟩ := H
   refine QP_index 2 rfl rfl rfl Try.underlying25 ti_3 rfl rfl r4 hi hx25 fun a26 cs r27 d => ?_
   refine QP_load 3 rfl rfl rfl ti_3 ag_3 rfl r27 d ex15 fun vx28 r29 => ?_
   obtain rfl := r29.int
   refine QP_ev ok 4 [(18, sl a12 b c13), (19, I x)] 6 rfl rfl ?_
   obtain ⟨x30, hi31, hx32, H⟩ := H
   refine QP_index 6 rfl rfl rfl Try.underlying25 ti_3 rfl rfl r10 hi31 hx32 fun a33 cs34 r35 d36 => ?_
   refine QP_load 7 rfl rfl rfl ti_3 ag_3 rfl r35 d36 ex16 fun vx37 r38 => ?_
   obtain rfl := r38.int
   refine QP_ev ok 8 [(22, .bool (x24 != x30))] 9 rfl rfl ?_
   refine QP_end _ rfl fun wx39 x40 => ?_
   refine W_cond (x24 != x30) rfl (fun hc41 => ?_) (fun hc41 => ?_)
   ·have H := H.1 hc41
    refine W_region ?_
    refine LP_ev ok 0 [(23, I cost), (24, sl a weights c), (25, I x)] 3 rfl rfl ?_
    obtain ⟨x42, hi43, hx44, H⟩ := H
    refine LP_index 3 rfl rfl rfl Try.underlying25 ti_3 rfl rfl r hi43 hx44 fun a45 cs46 r47 d48 => ?_
    have ex49 := (ex14.ext x40)
    refine LP_load 4 rfl rfl rfl ti_3 ag_3 rfl r47 d48 ex49 fun vx50 r51 => ?_
    obtain rfl := r51.int
    refine LP_ev ok 5 [(28, I (wr (cost + x42))), (7, I (wr (cost + x42)))] 7 rfl rfl ?_
    exact LP_end _ rfl ⟨wr (cost + x42), H, _, env_eq ⟨rfl, rfl, rfl, rfl, rfl, rfl, trivial⟩, (X17.stepx x40), ex49, (ex15.ext x40), (ex16.ext x40)⟩
   have H := H.2 hc41
   exact W_skip ⟨cost, H, _, env_eq ⟨rfl, rfl, rfl, rfl, rfl, rfl, trivial⟩, (X17.stepx x40), (ex14.ext x40), (ex15.ext x40), (ex16.ext x40)⟩
  rintro cost18 _ wx19 ⟨H, ρ, rfl, X23, ex20, ex21, ex22⟩
  subst hk
  refine W_region ?_
  refine LP_ev ok 0 [(29, I (wr (x + 1))), (11, I (wr (x + 1)))] 2 rfl rfl ?_
  exact LP_end _ rfl ⟨(cost18, wr (x + 1)), ⟨H.1, _, env_eq ⟨rfl, rfl, rfl, rfl, rfl, rfl, trivial⟩, X23, ex20, ex21, ex22⟩, H.2⟩
 have H := H.2 hc
 refine W_exit ?_
 refine (if_pos rfl).mpr ?_
 refine W_seq (W_region ?_)
 refine LP_ev ok 0 [(30, I cost), (6, I cost)] 2 rfl rfl ?_
 refine LP_end _ rfl (W_ret ?_)
 exact ⟨_, Ret_of [I cost] ⟨⟨rfl, rfl⟩, trivial⟩, _, H, rfl, X17.ext⟩

theorem impl_NearestDonor_w (sx : List Variable) (l : List Edit) (weights : List Int) (data : List Record) (values : List Int) (Q : Int → Bool → Prop) (H : impl_NearestDonor sx l weights data values Q) (w : World) {vx : Value} {hx : PH} (r : RS hx vx sx) (ex : Sub hx w) {vx1 : Value} {hx2 : PH} (r3 : RS hx2 vx1 l) (ex4 : Sub hx2 w) {vx7 : Value} {hx8 : PH} (r9 : RS hx8 vx7 weights) (ex10 : Sub hx8 w) {vx13 : Value} {hx14 : PH} (r15 : RS hx14 vx13 data) (ex16 : Sub hx14 w) {vx19 : Value} {hx20 : PH} (r21 : RS hx20 vx19 values) (ex22 : Sub hx20 w) :
  CallsTo Try.prog 9 #[vx, vx1, vx7, vx13, vx19] w fun v w' => ∃ r0 r1, Q r0 r1 ∧ v = .tuple #[I r0, .bool r1] ∧ Ext w w' := by
 obtain ⟨a, c, rfl⟩ := r.shape
 obtain ⟨a5, c6, rfl⟩ := r3.shape
 obtain ⟨a11, c12, rfl⟩ := r9.shape
 obtain ⟨a17, c18, rfl⟩ := r15.shape
 obtain ⟨a23, c24, rfl⟩ := r21.shape
 refine enter (args := [sl a sx c, sl a5 l c6, sl a11 weights c12, sl a17 data c18, sl a23 values c24]) 63 Try.func9 rfl rfl rfl ?_
 refine W_forget [(0, sl a sx c), (1, sl a5 l c6), (2, sl a11 weights c12), (3, sl a17 data c18), (4, sl a23 values c24)] ⟨rfl, rfl, rfl, rfl, rfl, trivial⟩ fun ρ => ?_
 have X := But.refl emp w
 refine W_seq (W_region ?_)
 refine LP_ev ok 0 [(10, I 0), (11, .bool false)] 2 rfl rfl ?_
 refine LP_end _ rfl (W_seq ?_)
 obtain ⟨k, hk, H⟩ := jn_elim H
 refine W_join2 (S := Bool) (fun s ρ' w' => k s ∧ ∃ (ρ : Env), ρ' = setAll [(1, sl a5 l c6), (2, sl a11 weights c12), (3, sl a17 data c18), (4, sl a23 values c24), (33, .bool s)] ρ ∧ But emp w w' ∧ Sub hx2 w' ∧ Sub hx8 w' ∧ Sub hx14 w' ∧ Sub hx20 w') ?_ ?_
 ·refine W_region ?_
  refine LP_ev ok 0 [(17, sl a sx c), (18, sl a5 l c6), (19, sl a11 weights c12)] 3 rfl rfl ?_
  refine LP_call 3 rfl rfl rfl cal_28 rfl (impl_isMendable_w _ _ _ _ H w r ex r3 ex4 r9 ex10) ?_
  rintro _ wx31 ⟨r30, H, rfl, x32⟩
  refine LP_ev ok 4 [(21, .bool (!r30)), (22, .bool (!r30))] 6 rfl rfl ?_
  refine LP_split 22 (!r30) rfl (fun hc => ?_) (fun hc => ?_)
  ·have H := H.1 hc
   refine LP_ev ok 6 [(23, undef), (24, undef), (25, undef), (26, undef), (27, .bool true), (28, .bool true), (29, undef), (30, undef), (31, undef), (32, undef), (33, .bool true)] 17 rfl rfl ?_
   exact LP_end _ rfl ⟨true, H, _, env_eq ⟨rfl, rfl, rfl, rfl, rfl, trivial⟩, (X.stepx x32), (ex4.ext x32), (ex10.ext x32), (ex16.ext x32), (ex22.ext x32)⟩
  have H := H.2 hc
  refine LP_ev ok 6 [(23, sl a sx c), (24, sl a17 data c18)] 8 rfl rfl ?_
  have ex39 := (ex.ext x32)
  have ex40 := (ex16.ext x32)
  refine LP_call 8 rfl rfl rfl cal_29 rfl (impl_isData_w _ _ _ H wx31 r ex39 r15 ex40) ?_
  rintro _ wx41 ⟨r38, H, rfl, x42⟩
  refine LP_ev ok 9 [(26, .bool (!r38)), (27, .bool (!r38)), (28, .bool (!r38))] 12 rfl rfl ?_
  refine LP_split 28 (!r38) rfl (fun hc43 => ?_) (fun hc43 => ?_)
  ·have H := H.1 hc43
   refine LP_ev ok 12 [(29, undef), (30, undef), (31, undef), (32, undef), (33, .bool true)] 17 rfl rfl ?_
   refine LP_end _ rfl ?_
   have xc := (x32.trans x42)
   exact ⟨true, H, _, env_eq ⟨rfl, rfl, rfl, rfl, rfl, trivial⟩, (X.stepx xc), (ex4.ext xc), (ex10.ext xc), (ex40.ext x42), (ex22.ext xc)⟩
  have H := H.2 hc43
  refine LP_ev ok 12 [(29, sl a sx c), (30, sl a23 values c24)] 14 rfl rfl ?_
  have xc51 := (x32.trans x42)
  have ex52 := (ex22.ext xc51)
  refine LP_call 14 rfl rfl rfl cal_43 rfl (impl_areValues_w _ _ _ H wx41 r (ex39.ext x42) r21 ex52) ?_
  rintro _ wx53 ⟨r49, H, rfl, x54⟩
  refine LP_ev ok 15 [(32, .bool (!r49)), (33, .bool (!r49))] 17 rfl rfl ?_
  refine LP_end _ rfl ?_
  have xc55 := (xc51.trans x54)
  exact ⟨!r49, H, _, env_eq ⟨rfl, rfl, rfl, rfl, rfl, trivial⟩, (X.stepx xc55), (ex4.ext xc55), (ex10.ext xc55), (ex40.ext (x42.trans x54)), (ex52.ext x54)⟩
 rintro x _ wx ⟨H, ρ, rfl, HF⟩
 revert HF
 refine bb5 fun X29 ex25 ex26 ex27 ex28 => ?_
 subst hk
 refine W_cond (x) rfl (fun hc62 => ?_) (fun hc62 => ?_)
 ·have H := H.1 hc62
  refine W_seq (W_region ?_)
  refine LP_ev ok 0 [(10, I 0), (11, .bool false)] 2 rfl rfl ?_
  refine LP_end _ rfl (W_ret ?_)
  exact ⟨_, Ret_of [I 0, .bool false] ⟨⟨rfl, rfl⟩, ⟨rfl, rfl⟩, trivial⟩, _, _, H, rfl, X29.ext⟩
 have H := H.2 hc62
 refine W_skip ?_
 refine W_seq (W_region ?_)
 refine LP_ev ok 0 [(12, I ((-1))), (13, I 0)] 2 rfl rfl ?_
 refine LP_end _ rfl (W_seq ?_)
 refine W_seq (W_region ?_)
 refine LP_ev ok 0 [(34, sl a17 data c18), (35, I (ln data)), (36, I 0)] 3 rfl rfl ?_
 refine LP_end _ rfl ?_
 refine W_block ?_
 obtain ⟨J, m, Hx, H⟩ := H
 refine W_loop (S := Int × Int × Int) (fun s ρ' w' => J s.1 s.2.1 s.2.2 ∧ ∃ (ρ : Env), ρ' = setAll [(1, sl a5 l c6), (2, sl a11 weights c12), (4, sl a23 values c24), (12, I s.1), (13, I s.2.1), (34, sl a17 data c18), (35, I (ln data)), (36, I s.2.2)] ρ ∧ But emp w w' ∧ Sub hx2 w' ∧ Sub hx8 w' ∧ Sub hx14 w' ∧ Sub hx20 w') (fun s => m s.1 s.2.1 s.2.2) ((-1), 0, 0) ⟨Hx, _, env_eq ⟨rfl, rfl, rfl, rfl, rfl, rfl, rfl, rfl, trivial⟩, X29, ex25, ex26, ex27, ex28⟩ ?_
 rintro ⟨best, least, x63⟩ _ wx64 ⟨Hi, ρ, rfl, HF⟩
 revert HF
 refine bb5 fun X69 ex65 ex66 ex67 ex68 => ?_
 have H := H best least x63 Hi
 refine W_seq (W_region ?_)
 refine LP_ev ok 0 [(37, .bool (decide (x63 < (ln data))))] 1 rfl rfl ?_
 refine LP_end _ rfl (W_seq ?_)
 refine W_cond (decide (x63 < (ln data))) rfl (fun hc70 => ?_) (fun hc70 => ?_)
 ·have H := H.1 hc70
  refine W_skip ?_
  obtain ⟨k79, hk80, H⟩ := jn_elim H
  refine W_join2 (S := Int × Int) (fun s ρ' w' => k79 s.1 s.2 ∧ ∃ (ρ : Env), ρ' = setAll [(1, sl a5 l c6), (2, sl a11 weights c12), (4, sl a23 values c24), (12, I s.1), (13, I s.2), (34, sl a17 data c18), (35, I (ln data)), (36, I x63)] ρ ∧ But emp w w' ∧ Sub hx2 w' ∧ Sub hx8 w' ∧ Sub hx14 w' ∧ Sub hx20 w') ?_ ?_
  ·refine W_block ?_
   refine W_seq (W_region ?_)
   refine LP_ev ok 0 [(38, I x63)] 1 rfl rfl ?_
   obtain ⟨x81, hi, hx82, H⟩ := H
   refine LP_index 1 rfl rfl rfl Try.underlying26 ti_40 rfl rfl r15 hi hx82 fun a83 cs r84 d => ?_
   have d85 := d
   obtain ⟨u, rfl, r86⟩ := Record_rd d85
   obtain ⟨a87, c88, rfl⟩ := r86.shape
   refine LP_load 2 rfl rfl rfl ti_40 ag_40 rfl r84 d ex67 fun vx89 r90 => ?_
   obtain ⟨u91, rfl, r92⟩ := Record_rv r90
   obtain ⟨a93, c94, rfl⟩ := r92.shape
   refine LP_alloc 3 rfl rfl rfl ti_40 rfl fun b wx95 x96 ex97 f => ?_
   refine LP_ev ok 4 [(14, I x63)] 5 rfl rfl ?_
   refine LP_stbox 5 (vs := [I x81.Area, I x81.House, sl a93 x81.Values c94]) (cs' := [I x81.Area, I x81.House, sl a93 x81.Values c94]) rfl rfl rfl ti_40 rfl rfl rfl rfl rfl ex97 rfl rfl fun wx98 ex99 y => ?_
   refine LP_end _ rfl (W_seq ?_)
   refine W_seq (W_region ?_)
   refine LP_ev ok 0 [(41, sl a5 l c6), (42, .pointer (some ⟨b, 2, none⟩))] 2 rfl rfl ?_
   refine LP_ldbox 2 (v := sl a93 x81.Values c94) rfl rfl rfl ti_25 ag_25 (fun _ => rfl) rfl ex99 rfl rfl ?_
   have ex101 := ((ex65.ext x96).but y (Dj.of_fresh ex65 f).symm)
   have ex102 := ((ex67.ext x96).but y (Dj.of_fresh ex67 f).symm)
   refine LP_call 3 rfl rfl rfl cal_31 rfl (impl_failsOne_w _ _ _ H wx98 r3 ex101 r92 ex102) ?_
   rintro _ wx103 ⟨r100, H, rfl, x104⟩
   refine LP_end _ rfl ?_
   refine W_cond (r100) rfl (fun hc105 => ?_) (fun hc105 => ?_)
   ·have H := H.1 hc105
    refine W_exit ?_
    refine (if_pos rfl).mpr ?_
    have f106 := f.mono X69.size
    exact ⟨(best, least), H, _, env_eq ⟨rfl, rfl, rfl, rfl, rfl, rfl, rfl, rfl, trivial⟩, (((X69.stepx x96).step y (f106.dom _)).stepx x104), (ex101.ext x104), (((ex66.ext x96).but y (Dj.of_fresh ex66 f).symm).ext x104), (ex102.ext x104), (((ex68.ext x96).but y (Dj.of_fresh ex68 f).symm).ext x104)⟩
   have H := H.2 hc105
   refine W_skip ?_
   refine W_seq (W_region ?_)
   refine LP_ev ok 0 [(45, sl a11 weights c12), (46, .pointer (some ⟨b, 2, none⟩))] 2 rfl rfl ?_
   refine LP_ldbox 2 (v := sl a93 x81.Values c94) rfl rfl rfl ti_25 ag_25 (fun _ => rfl) rfl (ex99.ext x104) rfl rfl ?_
   refine LP_ev ok 3 [(48, sl a23 values c24)] 4 rfl rfl ?_
   have ex114 := (((ex66.ext x96).but y (Dj.of_fresh ex66 f).symm).ext x104)
   have ex115 := (ex102.ext x104)
   have ex116 := (((ex68.ext x96).but y (Dj.of_fresh ex68 f).symm).ext x104)
   refine LP_call 4 rfl rfl rfl cal_44 rfl (impl_changeCost_w _ _ _ _ H wx103 r9 ex114 r92 ex115 r21 ex116) ?_
   rintro _ wx117 ⟨r113, H, rfl, x118⟩
   refine LP_ev ok 5 [(16, I r113)] 6 rfl rfl ?_
   refine LP_end _ rfl ?_
   have f119 := f.mono X69.size
   have xc120 := (x104.trans x118)
   have X121 := (((X69.stepx x96).step y (f119.dom _)).stepx xc120)
   have ex122 := (ex101.ext xc120)
   have ex123 := (ex114.ext x118)
   have ex124 := (ex115.ext x118)
   have ex125 := (ex116.ext x118)
   obtain ⟨k128, hk129, H⟩ := jn_elim H
   refine W_join2 (S := Bool) (fun s ρ' w' => k128 s ∧ ∃ (ρ : Env), ρ' = setAll [(1, sl a5 l c6), (2, sl a11 weights c12), (4, sl a23 values c24), (12, I best), (13, I least), (14, I x63), (16, I r113), (34, sl a17 data c18), (35, I (ln data)), (36, I x63), (56, .bool s)] ρ ∧ wx117 = w') ?_ ?_
   ·refine W_region ?_
    refine LP_ev ok 0 [(50, I best), (51, .bool (decide (best < 0))), (52, .bool (decide (best < 0)))] 3 rfl rfl ?_
    refine LP_split 52 (decide (best < 0)) rfl (fun hc130 => ?_) (fun hc130 => ?_)
    ·have H := H.1 hc130
     refine LP_ev ok 3 [(53, undef), (54, undef), (55, undef), (56, .bool true)] 7 rfl rfl ?_
     exact LP_end _ rfl ⟨true, H, _, env_eq ⟨rfl, rfl, rfl, rfl, rfl, rfl, rfl, rfl, rfl, rfl, rfl, trivial⟩, rfl⟩
    have H := H.2 hc130
    refine LP_ev ok 3 [(53, I r113), (54, I least), (55, .bool (decide (r113 < least))), (56, .bool (decide (r113 < least)))] 7 rfl rfl ?_
    exact LP_end _ rfl ⟨decide (r113 < least), H, _, env_eq ⟨rfl, rfl, rfl, rfl, rfl, rfl, rfl, rfl, rfl, rfl, rfl, trivial⟩, rfl⟩
   rintro x126 _ _ ⟨H, ρ, rfl, rfl⟩
   subst hk129
   refine W_cond (x126) rfl (fun hc131 => ?_) (fun hc131 => ?_)
   ·have H := H.1 hc131
    refine W_region ?_
    refine LP_ev ok 0 [(57, I x63), (58, I r113), (12, I x63), (13, I r113)] 4 rfl rfl ?_
    exact LP_end _ rfl ⟨(x63, r113), H, _, env_eq ⟨rfl, rfl, rfl, rfl, rfl, rfl, rfl, rfl, trivial⟩, X121, ex122, ex123, ex124, ex125⟩
   have H := H.2 hc131
   exact W_skip ⟨(best, least), H, _, env_eq ⟨rfl, rfl, rfl, rfl, rfl, rfl, rfl, rfl, trivial⟩, X121, ex122, ex123, ex124, ex125⟩
  rintro ⟨best71, least72⟩ _ wx73 ⟨H, ρ, rfl, HF⟩
  revert HF
  refine bb5 fun X78 ex74 ex75 ex76 ex77 => ?_
  subst hk80
  refine W_region ?_
  refine LP_ev ok 0 [(59, I (wr (x63 + 1))), (36, I (wr (x63 + 1)))] 2 rfl rfl ?_
  exact LP_end _ rfl ⟨(best71, least72, wr (x63 + 1)), ⟨H.1, _, env_eq ⟨rfl, rfl, rfl, rfl, rfl, rfl, rfl, rfl, trivial⟩, X78, ex74, ex75, ex76, ex77⟩, H.2⟩
 have H := H.2 hc70
 refine W_exit ?_
 refine (if_pos rfl).mpr ?_
 refine W_seq ?_
 refine W_seq (W_region ?_)
 refine LP_ev ok 0 [(60, I best), (61, .bool (decide (best < 0)))] 2 rfl rfl ?_
 refine LP_end _ rfl ?_
 refine W_cond (decide (best < 0)) rfl (fun hc132 => ?_) (fun hc132 => ?_)
 ·have H := H.1 hc132
  refine W_seq (W_region ?_)
  refine LP_ev ok 0 [(10, I 0), (11, .bool false)] 2 rfl rfl ?_
  refine LP_end _ rfl (W_ret ?_)
  exact ⟨_, Ret_of [I 0, .bool false] ⟨⟨rfl, rfl⟩, ⟨rfl, rfl⟩, trivial⟩, _, _, H, rfl, X69.ext⟩
 have H := H.2 hc132
 refine W_skip ?_
 refine W_seq (W_region ?_)
 refine LP_ev ok 0 [(62, I best), (10, I best), (11, .bool true)] 3 rfl rfl ?_
 refine LP_end _ rfl (W_ret ?_)
 exact ⟨_, Ret_of [I best, .bool true] ⟨⟨rfl, rfl⟩, ⟨rfl, rfl⟩, trivial⟩, _, _, H, rfl, X69.ext⟩

theorem spec_iInput_w (sx : List Variable) (l : List Edit) (wx : List Int) (values : List Int) (Q : Bool → Prop) (H : spec_iInput sx l wx values Q) (w : World) {vx : Value} {hx : PH} (r : RS hx vx sx) (ex : Sub hx w) {vx1 : Value} {hx2 : PH} (r3 : RS hx2 vx1 l) (ex4 : Sub hx2 w) {vx7 : Value} {hx8 : PH} (r9 : RS hx8 vx7 wx) (ex10 : Sub hx8 w) {vx13 : Value} {hx14 : PH} (r15 : RS hx14 vx13 values) (ex16 : Sub hx14 w) :
  CallsTo Try.prog 45 #[vx, vx1, vx7, vx13] w fun v w' => ∃ r0, Q r0 ∧ v = .bool r0 ∧ Ext w w' := by
 obtain ⟨a, c, rfl⟩ := r.shape
 obtain ⟨a5, c6, rfl⟩ := r3.shape
 obtain ⟨a11, c12, rfl⟩ := r9.shape
 obtain ⟨a17, c18, rfl⟩ := r15.shape
 refine enter (args := [sl a sx c, sl a5 l c6, sl a11 wx c12, sl a17 values c18]) 22 Try.func45 rfl rfl rfl ?_
 refine W_forget [(0, sl a sx c), (1, sl a5 l c6), (2, sl a11 wx c12), (3, sl a17 values c18)] ⟨rfl, rfl, rfl, rfl, trivial⟩ fun ρ => ?_
 have X := But.refl emp w
 refine W_seq (W_region ?_)
 refine LP_ev ok 0 [(8, .bool false)] 1 rfl rfl ?_
 refine LP_end _ rfl ?_
 obtain ⟨k, hk, H⟩ := jn_elim H
 refine W_join2 (S := Bool) (fun s ρ' w' => k s ∧ ∃ (ρ : Env), ρ' = setAll [(8, .bool s)] ρ ∧ But emp w w') ?_ ?_
 ·refine W_region ?_
  refine LP_ev ok 0 [(9, sl a sx c), (10, sl a5 l c6)] 2 rfl rfl ?_
  refine LP_call 2 rfl rfl rfl cal_36 rfl (spec_eSmall_w _ _ _ H w r ex r3 ex4) ?_
  rintro _ wx22 ⟨r21, H, rfl, x23⟩
  refine LP_ev ok 3 [(12, .bool r21)] 4 rfl rfl ?_
  refine LP_split 12 (r21) rfl (fun hc => ?_) (fun hc => ?_)
  ·have H := H.1 hc
   refine LP_ev ok 4 [(13, sl a sx c), (14, sl a11 wx c12)] 6 rfl rfl ?_
   have ex25 := (ex.ext x23)
   refine LP_call 6 rfl rfl rfl cal_37 rfl (spec_iWeights_w _ _ _ H wx22 r ex25 r9 (ex10.ext x23)) ?_
   rintro _ wx27 ⟨r24, H, rfl, x28⟩
   refine LP_ev ok 7 [(16, .bool r24), (17, .bool r24)] 9 rfl rfl ?_
   refine LP_split 17 (r24) rfl (fun hc29 => ?_) (fun hc29 => ?_)
   ·have H := H.1 hc29
    refine LP_ev ok 9 [(18, sl a sx c), (19, sl a17 values c18)] 11 rfl rfl ?_
    have xc := (x23.trans x28)
    refine LP_call 11 rfl rfl rfl cal_55 rfl (spec_sFits_w _ _ _ H wx27 r (ex25.ext x28) r15 (ex16.ext xc)) ?_
    rintro _ wx33 ⟨r30, H, rfl, x34⟩
    refine LP_ev ok 12 [(21, .bool r30), (8, .bool r30)] 14 rfl rfl ?_
    exact LP_end _ rfl ⟨r30, H, _, env_eq ⟨rfl, trivial⟩, (X.stepx (xc.trans x34))⟩
   have H := H.2 hc29
   refine LP_ev ok 9 [(18, undef), (19, undef), (20, undef), (21, .bool false), (8, .bool false)] 14 rfl rfl ?_
   exact LP_end _ rfl ⟨false, H, _, env_eq ⟨rfl, trivial⟩, (X.stepx (x23.trans x28))⟩
  have H := H.2 hc
  refine LP_ev ok 4 [(13, undef), (14, undef), (15, undef), (16, .bool false), (17, .bool false), (18, undef), (19, undef), (20, undef), (21, .bool false), (8, .bool false)] 14 rfl rfl ?_
  exact LP_end _ rfl ⟨false, H, _, env_eq ⟨rfl, trivial⟩, (X.stepx x23)⟩
 rintro x _ wx19 ⟨H, ρ, rfl, X20⟩
 subst hk
 refine W_ret ?_
 exact ⟨_, Ret_of [.bool x] ⟨⟨rfl, rfl⟩, trivial⟩, _, H, rfl, X20.ext⟩

theorem spec_NearestDonor_w (sx : List Variable) (l : List Edit) (weights : List Int) (data : List Record) (values : List Int) (Q : Int → Bool → Prop) (H : spec_NearestDonor sx l weights data values Q) (w : World) {vx : Value} {hx : PH} (r : RS hx vx sx) (ex : Sub hx w) {vx1 : Value} {hx2 : PH} (r3 : RS hx2 vx1 l) (ex4 : Sub hx2 w) {vx7 : Value} {hx8 : PH} (r9 : RS hx8 vx7 weights) (ex10 : Sub hx8 w) {vx13 : Value} {hx14 : PH} (r15 : RS hx14 vx13 data) (ex16 : Sub hx14 w) {vx19 : Value} {hx20 : PH} (r21 : RS hx20 vx19 values) (ex22 : Sub hx20 w) :
  CallsTo Try.prog 10 #[vx, vx1, vx7, vx13, vx19] w fun v w' => ∃ r0 r1, Q r0 r1 ∧ v = .tuple #[I r0, .bool r1] ∧ Ext w w' := by
 obtain ⟨a, c, rfl⟩ := r.shape
 obtain ⟨a5, c6, rfl⟩ := r3.shape
 obtain ⟨a11, c12, rfl⟩ := r9.shape
 obtain ⟨a17, c18, rfl⟩ := r15.shape
 obtain ⟨a23, c24, rfl⟩ := r21.shape
 refine enter (args := [sl a sx c, sl a5 l c6, sl a11 weights c12, sl a17 data c18, sl a23 values c24]) 60 Try.func10 rfl rfl rfl ?_
 refine W_forget [(0, sl a sx c), (1, sl a5 l c6), (2, sl a11 weights c12), (3, sl a17 data c18), (4, sl a23 values c24)] ⟨rfl, rfl, rfl, rfl, rfl, trivial⟩ fun ρ => ?_
 have X := But.refl emp w
 refine W_seq (W_region ?_)
 refine LP_ev ok 0 [(10, I 0), (11, .bool false)] 2 rfl rfl ?_
 refine LP_end _ rfl (W_seq ?_)
 obtain ⟨k, hk, H⟩ := jn_elim H
 refine W_join2 (S := Bool) (fun s ρ' w' => k s ∧ ∃ (ρ : Env), ρ' = setAll [(1, sl a5 l c6), (2, sl a11 weights c12), (3, sl a17 data c18), (4, sl a23 values c24), (28, .bool s)] ρ ∧ But emp w w' ∧ Sub hx2 w' ∧ Sub hx8 w' ∧ Sub hx14 w' ∧ Sub hx20 w') ?_ ?_
 ·refine W_region ?_
  refine LP_ev ok 0 [(17, sl a sx c), (18, sl a5 l c6), (19, sl a11 weights c12), (20, sl a23 values c24)] 4 rfl rfl ?_
  refine LP_call 4 rfl rfl rfl cal_45 rfl (spec_iInput_w _ _ _ _ _ H w r ex r3 ex4 r9 ex10 r21 ex22) ?_
  rintro _ wx31 ⟨r30, H, rfl, x32⟩
  refine LP_ev ok 5 [(22, .bool (!r30)), (23, .bool (!r30))] 7 rfl rfl ?_
  refine LP_split 23 (!r30) rfl (fun hc => ?_) (fun hc => ?_)
  ·have H := H.1 hc
   refine LP_ev ok 7 [(24, undef), (25, undef), (26, undef), (27, undef), (28, .bool true)] 12 rfl rfl ?_
   exact LP_end _ rfl ⟨true, H, _, env_eq ⟨rfl, rfl, rfl, rfl, rfl, trivial⟩, (X.stepx x32), (ex4.ext x32), (ex10.ext x32), (ex16.ext x32), (ex22.ext x32)⟩
  have H := H.2 hc
  refine LP_ev ok 7 [(24, sl a sx c), (25, sl a17 data c18)] 9 rfl rfl ?_
  have ex40 := (ex16.ext x32)
  refine LP_call 9 rfl rfl rfl cal_38 rfl (spec_dGood_w _ _ _ H wx31 r (ex.ext x32) r15 ex40) ?_
  rintro _ wx41 ⟨r38, H, rfl, x42⟩
  refine LP_ev ok 10 [(27, .bool (!r38)), (28, .bool (!r38))] 12 rfl rfl ?_
  refine LP_end _ rfl ?_
  have xc := (x32.trans x42)
  exact ⟨!r38, H, _, env_eq ⟨rfl, rfl, rfl, rfl, rfl, trivial⟩, (X.stepx xc), (ex4.ext xc), (ex10.ext xc), (ex40.ext x42), (ex22.ext xc)⟩
 rintro x _ wx ⟨H, ρ, rfl, HF⟩
 revert HF
 refine bb5 fun X29 ex25 ex26 ex27 ex28 => ?_
 subst hk
 refine W_cond (x) rfl (fun hc48 => ?_) (fun hc48 => ?_)
 ·have H := H.1 hc48
  refine W_seq (W_region ?_)
  refine LP_ev ok 0 [(10, I 0), (11, .bool false)] 2 rfl rfl ?_
  refine LP_end _ rfl (W_ret ?_)
  exact ⟨_, Ret_of [I 0, .bool false] ⟨⟨rfl, rfl⟩, ⟨rfl, rfl⟩, trivial⟩, _, _, H, rfl, X29.ext⟩
 have H := H.2 hc48
 refine W_skip ?_
 refine W_seq (W_region ?_)
 refine LP_ev ok 0 [(12, I ((-1))), (13, I 0)] 2 rfl rfl ?_
 refine LP_end _ rfl (W_seq ?_)
 refine W_seq (W_region ?_)
 refine LP_ev ok 0 [(29, sl a17 data c18), (30, I (ln data)), (31, I 0)] 3 rfl rfl ?_
 refine LP_end _ rfl ?_
 refine W_block ?_
 obtain ⟨J, m, Hx, H⟩ := H
 refine W_loop (S := Int × Int × Int) (fun s ρ' w' => J s.1 s.2.1 s.2.2 ∧ ∃ (ρ : Env), ρ' = setAll [(1, sl a5 l c6), (2, sl a11 weights c12), (4, sl a23 values c24), (12, I s.1), (13, I s.2.1), (29, sl a17 data c18), (30, I (ln data)), (31, I s.2.2)] ρ ∧ But emp w w' ∧ Sub hx2 w' ∧ Sub hx8 w' ∧ Sub hx14 w' ∧ Sub hx20 w') (fun s => m s.1 s.2.1 s.2.2) ((-1), 0, 0) ⟨Hx, _, env_eq ⟨rfl, rfl, rfl, rfl, rfl, rfl, rfl, rfl, trivial⟩, X29, ex25, ex26, ex27, ex28⟩ ?_
 rintro ⟨atx, best, x49⟩ _ wx50 ⟨Hi, ρ, rfl, HF⟩
 revert HF
 refine bb5 fun X55 ex51 ex52 ex53 ex54 => ?_
 have H := H atx best x49 Hi
 refine W_seq (W_region ?_)
 refine LP_ev ok 0 [(32, .bool (decide (x49 < (ln data))))] 1 rfl rfl ?_
 refine LP_end _ rfl (W_seq ?_)
 refine W_cond (decide (x49 < (ln data))) rfl (fun hc56 => ?_) (fun hc56 => ?_)
 ·have H := H.1 hc56
  refine W_skip ?_
  obtain ⟨k65, hk66, H⟩ := jn_elim H
  refine W_join2 (S := Int × Int) (fun s ρ' w' => k65 s.1 s.2 ∧ ∃ (ρ : Env), ρ' = setAll [(1, sl a5 l c6), (2, sl a11 weights c12), (4, sl a23 values c24), (12, I s.1), (13, I s.2), (29, sl a17 data c18), (30, I (ln data)), (31, I x49)] ρ ∧ But emp w w' ∧ Sub hx2 w' ∧ Sub hx8 w' ∧ Sub hx14 w' ∧ Sub hx20 w') ?_ ?_
  ·refine W_block ?_
   refine W_seq (W_region ?_)
   refine LP_ev ok 0 [(33, I x49)] 1 rfl rfl ?_
   obtain ⟨x67, hi, hx68, H⟩ := H
   refine LP_index 1 rfl rfl rfl Try.underlying26 ti_40 rfl rfl r15 hi hx68 fun a69 cs r70 d => ?_
   have d71 := d
   obtain ⟨u, rfl, r72⟩ := Record_rd d71
   obtain ⟨a73, c74, rfl⟩ := r72.shape
   refine LP_load 2 rfl rfl rfl ti_40 ag_40 rfl r70 d ex53 fun vx75 r76 => ?_
   obtain ⟨u77, rfl, r78⟩ := Record_rv r76
   obtain ⟨a79, c80, rfl⟩ := r78.shape
   refine LP_alloc 3 rfl rfl rfl ti_40 rfl fun b wx81 x82 ex83 f => ?_
   refine LP_ev ok 4 [(14, I x49)] 5 rfl rfl ?_
   refine LP_stbox 5 (vs := [I x67.Area, I x67.House, sl a79 x67.Values c80]) (cs' := [I x67.Area, I x67.House, sl a79 x67.Values c80]) rfl rfl rfl ti_40 rfl rfl rfl rfl rfl ex83 rfl rfl fun wx84 ex85 y => ?_
   refine LP_end _ rfl (W_seq ?_)
   refine W_seq (W_region ?_)
   refine LP_ev ok 0 [(36, sl a5 l c6), (37, .pointer (some ⟨b, 2, none⟩))] 2 rfl rfl ?_
   refine LP_ldbox 2 (v := sl a79 x67.Values c80) rfl rfl rfl ti_25 ag_25 (fun _ => rfl) rfl ex85 rfl rfl ?_
   have ex87 := ((ex51.ext x82).but y (Dj.of_fresh ex51 f).symm)
   have ex88 := ((ex53.ext x82).but y (Dj.of_fresh ex53 f).symm)
   refine LP_call 3 rfl rfl rfl cal_40 rfl (spec_eFailed_w _ _ _ H wx84 r3 ex87 r78 ex88) ?_
   rintro _ wx89 ⟨r86, vx91, hx92, H, rfl, x90, o, ex93, f94⟩
   obtain ⟨a95, c96, rfl⟩ := o.shape
   refine LP_ev ok 4 [(40, I (ln r86)), (41, .bool (decide ((ln r86) > 0)))] 6 rfl rfl ?_
   refine LP_end _ rfl ?_
   refine W_cond (decide ((ln r86) > 0)) rfl (fun hc97 => ?_) (fun hc97 => ?_)
   ·have H := H.1 hc97
    refine W_exit ?_
    refine (if_pos rfl).mpr ?_
    have f98 := f.mono X55.size
    exact ⟨(atx, best), H, _, env_eq ⟨rfl, rfl, rfl, rfl, rfl, rfl, rfl, rfl, trivial⟩, (((X55.stepx x82).step y (f98.dom _)).stepx x90), (ex87.ext x90), (((ex52.ext x82).but y (Dj.of_fresh ex52 f).symm).ext x90), (ex88.ext x90), (((ex54.ext x82).but y (Dj.of_fresh ex54 f).symm).ext x90)⟩
   have H := H.2 hc97
   refine W_skip ?_
   refine W_seq (W_region ?_)
   refine LP_ev ok 0 [(42, sl a11 weights c12), (43, .pointer (some ⟨b, 2, none⟩))] 2 rfl rfl ?_
   refine LP_ldbox 2 (v := sl a79 x67.Values c80) rfl rfl rfl ti_25 ag_25 (fun _ => rfl) rfl (ex85.ext x90) rfl rfl ?_
   refine LP_ev ok 3 [(45, sl a23 values c24)] 4 rfl rfl ?_
   have ex106 := (((ex52.ext x82).but y (Dj.of_fresh ex52 f).symm).ext x90)
   have ex107 := (ex88.ext x90)
   have ex108 := (((ex54.ext x82).but y (Dj.of_fresh ex54 f).symm).ext x90)
   refine LP_call 4 rfl rfl rfl cal_42 rfl (spec_iChanged_w _ _ _ _ H wx89 r9 ex106 r78 ex107 r21 ex108) ?_
   rintro _ wx109 ⟨r105, H, rfl, x110⟩
   refine LP_ev ok 5 [(16, I r105)] 6 rfl rfl ?_
   refine LP_end _ rfl ?_
   have f111 := f.mono X55.size
   have xc112 := (x90.trans x110)
   have X113 := (((X55.stepx x82).step y (f111.dom _)).stepx xc112)
   have ex114 := (ex87.ext xc112)
   have ex115 := (ex106.ext x110)
   have ex116 := (ex107.ext x110)
   have ex117 := (ex108.ext x110)
   obtain ⟨k120, hk121, H⟩ := jn_elim H
   refine W_join2 (S := Bool) (fun s ρ' w' => k120 s ∧ ∃ (ρ : Env), ρ' = setAll [(1, sl a5 l c6), (2, sl a11 weights c12), (4, sl a23 values c24), (12, I atx), (13, I best), (14, I x49), (16, I r105), (29, sl a17 data c18), (30, I (ln data)), (31, I x49), (53, .bool s)] ρ ∧ wx109 = w') ?_ ?_
   ·refine W_region ?_
    refine LP_ev ok 0 [(47, I atx), (48, .bool (decide (atx < 0))), (49, .bool (decide (atx < 0)))] 3 rfl rfl ?_
    refine LP_split 49 (decide (atx < 0)) rfl (fun hc122 => ?_) (fun hc122 => ?_)
    ·have H := H.1 hc122
     refine LP_ev ok 3 [(50, undef), (51, undef), (52, undef), (53, .bool true)] 7 rfl rfl ?_
     refine LP_end _ rfl ?_
     try refine W_forget [(1, sl a5 l c6), (2, sl a11 weights c12), (4, sl a23 values c24), (12, I atx), (13, I best), (14, I x49), (16, I r105), (29, sl a17 data c18), (30, I (ln data)), (31, I x49), (53, .bool true)] ⟨rfl, rfl, rfl, rfl, rfl, rfl, rfl, rfl, rfl, rfl, rfl, trivial⟩ fun ρ => ?_
     exact ⟨true, H, _, env_eq ⟨rfl, rfl, rfl, rfl, rfl, rfl, rfl, rfl, rfl, rfl, rfl, trivial⟩, rfl⟩
    have H := H.2 hc122
    refine LP_ev ok 3 [(50, I r105), (51, I best), (52, .bool (decide (r105 < best))), (53, .bool (decide (r105 < best)))] 7 rfl rfl ?_
    refine LP_end _ rfl ?_
    try refine W_forget [(1, sl a5 l c6), (2, sl a11 weights c12), (4, sl a23 values c24), (12, I atx), (13, I best), (14, I x49), (16, I r105), (29, sl a17 data c18), (30, I (ln data)), (31, I x49), (50, I r105), (51, I best), (52, .bool (decide (r105 < best))), (53, .bool (decide (r105 < best)))] ⟨rfl, rfl, rfl, rfl, rfl, rfl, rfl, rfl, rfl, rfl, rfl, rfl, rfl, rfl, trivial⟩ fun ρ => ?_
    exact ⟨decide (r105 < best), H, _, env_eq ⟨rfl, rfl, rfl, rfl, rfl, rfl, rfl, rfl, rfl, rfl, rfl, trivial⟩, rfl⟩
   rintro x118 _ _ ⟨H, ρ, rfl, rfl⟩
   subst hk121
   refine W_cond (x118) rfl (fun hc123 => ?_) (fun hc123 => ?_)
   ·have H := H.1 hc123
    refine W_seq (W_region ?_)
    refine LP_ev ok 0 [(54, I x49), (12, I x49)] 2 rfl rfl ?_
    refine LP_end _ rfl ?_
    refine W_region ?_
    refine LP_ev ok 0 [(55, I r105), (13, I r105)] 2 rfl rfl ?_
    exact LP_end _ rfl ⟨(x49, r105), H, _, env_eq ⟨rfl, rfl, rfl, rfl, rfl, rfl, rfl, rfl, trivial⟩, X113, ex114, ex115, ex116, ex117⟩
   have H := H.2 hc123
   exact W_skip ⟨(atx, best), H, _, env_eq ⟨rfl, rfl, rfl, rfl, rfl, rfl, rfl, rfl, trivial⟩, X113, ex114, ex115, ex116, ex117⟩
  rintro ⟨atx57, best58⟩ _ wx59 ⟨H, ρ, rfl, HF⟩
  revert HF
  refine bb5 fun X64 ex60 ex61 ex62 ex63 => ?_
  subst hk66
  refine W_region ?_
  refine LP_ev ok 0 [(56, I (wr (x49 + 1))), (31, I (wr (x49 + 1)))] 2 rfl rfl ?_
  exact LP_end _ rfl ⟨(atx57, best58, wr (x49 + 1)), ⟨H.1, _, env_eq ⟨rfl, rfl, rfl, rfl, rfl, rfl, rfl, rfl, trivial⟩, X64, ex60, ex61, ex62, ex63⟩, H.2⟩
 have H := H.2 hc56
 refine W_exit ?_
 refine (if_pos rfl).mpr ?_
 refine W_seq ?_
 refine W_seq (W_region ?_)
 refine LP_ev ok 0 [(57, I atx), (58, .bool (decide (atx < 0)))] 2 rfl rfl ?_
 refine LP_end _ rfl ?_
 refine W_cond (decide (atx < 0)) rfl (fun hc124 => ?_) (fun hc124 => ?_)
 ·have H := H.1 hc124
  refine W_seq (W_region ?_)
  refine LP_ev ok 0 [(10, I 0), (11, .bool false)] 2 rfl rfl ?_
  refine LP_end _ rfl (W_ret ?_)
  exact ⟨_, Ret_of [I 0, .bool false] ⟨⟨rfl, rfl⟩, ⟨rfl, rfl⟩, trivial⟩, _, _, H, rfl, X55.ext⟩
 have H := H.2 hc124
 refine W_skip ?_
 refine W_seq (W_region ?_)
 refine LP_ev ok 0 [(59, I atx), (10, I atx), (11, .bool true)] 3 rfl rfl ?_
 refine LP_end _ rfl (W_ret ?_)
 exact ⟨_, Ret_of [I atx, .bool true] ⟨⟨rfl, rfl⟩, ⟨rfl, rfl⟩, trivial⟩, _, _, H, rfl, X55.ext⟩

theorem laws_qInts_w (a : List Int) (b : List Int) (Q : Bool → Prop) (H : laws_qInts a b Q) (w : World) {vx : Value} {hx : PH} (r : RS hx vx a) (ex : Sub hx w) {vx2 : Value} {hx3 : PH} (r4 : RS hx3 vx2 b) (ex5 : Sub hx3 w) :
  CallsTo Try.prog 12 #[vx, vx2] w fun v w' => ∃ r0, Q r0 ∧ v = .bool r0 ∧ Ext w w' := by
 obtain ⟨a1, c, rfl⟩ := r.shape
 obtain ⟨a6, c7, rfl⟩ := r4.shape
 refine enter (args := [sl a1 a c, sl a6 b c7]) 26 Try.func12 rfl rfl rfl ?_
 refine W_forget [(0, sl a1 a c), (1, sl a6 b c7)] ⟨rfl, rfl, trivial⟩ fun ρ => ?_
 have X := But.refl emp w
 refine W_seq (W_region ?_)
 refine LP_ev ok 0 [(4, .bool false)] 1 rfl rfl ?_
 refine LP_end _ rfl (W_seq ?_)
 refine W_seq (W_region ?_)
 refine LP_ev ok 0 [(6, sl a1 a c), (7, I (ln a)), (8, sl a6 b c7), (9, I (ln b)), (10, .bool ((ln a) != (ln b)))] 5 rfl rfl ?_
 refine LP_end _ rfl ?_
 refine W_cond ((ln a) != (ln b)) rfl (fun hc => ?_) (fun hc => ?_)
 ·have H := H.1 hc
  refine W_seq (W_region ?_)
  refine LP_ev ok 0 [(4, .bool false)] 1 rfl rfl ?_
  refine LP_end _ rfl (W_ret ?_)
  exact ⟨_, Ret_of [.bool false] ⟨⟨rfl, rfl⟩, trivial⟩, _, H, rfl, X.ext⟩
 have H := H.2 hc
 refine W_skip ?_
 refine W_seq ?_
 refine W_seq (W_region ?_)
 refine LP_ev ok 0 [(11, sl a1 a c), (12, I (ln a)), (13, I 0)] 3 rfl rfl ?_
 refine LP_end _ rfl ?_
 refine W_block ?_
 obtain ⟨J, m, Hx, H⟩ := H
 refine W_loop (S := Int) (fun s ρ' w' => J s ∧ ∃ (ρ : Env), ρ' = setAll [(0, sl a1 a c), (1, sl a6 b c7), (12, I (ln a)), (13, I s)] ρ ∧ But emp w w' ∧ Sub hx w' ∧ Sub hx3 w') (fun s => m s) 0 ⟨Hx, _, env_eq ⟨rfl, rfl, rfl, rfl, trivial⟩, X, ex, ex5⟩ ?_
 rintro x _ wx ⟨Hi, ρ, rfl, X10, ex8, ex9⟩
 have H := H x Hi
 refine W_seq (W_region ?_)
 refine LP_ev ok 0 [(14, .bool (decide (x < (ln a))))] 1 rfl rfl ?_
 refine LP_end _ rfl (W_seq ?_)
 refine W_cond (decide (x < (ln a))) rfl (fun hc11 => ?_) (fun hc11 => ?_)
 ·have H := H.1 hc11
  refine W_skip ?_
  refine W_seq ?_
  refine W_block ?_
  refine W_seq (W_region ?_)
  refine LP_ev ok 0 [(15, I x), (5, I x)] 2 rfl rfl ?_
  refine LP_end _ rfl (W_seq ?_)
  refine W_quiet mix (by kernel_rfl) ?_
  refine QP_ev ok 0 [(16, sl a1 a c), (17, I x)] 2 rfl rfl ?_
  obtain ⟨x12, hi, hx13, H⟩ := H
  refine QP_index 2 rfl rfl rfl Try.underlying25 ti_3 rfl rfl r hi hx13 fun a14 cs r15 d => ?_
  refine QP_load 3 rfl rfl rfl ti_3 ag_3 rfl r15 d ex8 fun vx16 r17 => ?_
  obtain rfl := r17.int
  refine QP_ev ok 4 [(20, sl a6 b c7), (21, I x)] 6 rfl rfl ?_
  obtain ⟨x18, hi19, hx20, H⟩ := H
  refine QP_index 6 rfl rfl rfl Try.underlying25 ti_3 rfl rfl r4 hi19 hx20 fun a21 cs22 r23 d24 => ?_
  refine QP_load 7 rfl rfl rfl ti_3 ag_3 rfl r23 d24 ex9 fun vx25 r26 => ?_
  obtain rfl := r26.int
  refine QP_ev ok 8 [(24, .bool (x12 != x18))] 9 rfl rfl ?_
  refine QP_end _ rfl fun wx27 x28 => ?_
  refine W_cond (x12 != x18) rfl (fun hc29 => ?_) (fun hc29 => ?_)
  ·have H := H.1 hc29
   refine W_seq (W_region ?_)
   refine LP_ev ok 0 [(4, .bool false)] 1 rfl rfl ?_
   refine LP_end _ rfl (W_ret ?_)
   exact ⟨_, Ret_of [.bool false] ⟨⟨rfl, rfl⟩, trivial⟩, _, H, rfl, (X10.stepx x28).ext⟩
  have H := H.2 hc29
  refine W_skip ?_
  refine W_region ?_
  refine LP_ev ok 0 [(25, I (wr (x + 1))), (13, I (wr (x + 1)))] 2 rfl rfl ?_
  exact LP_end _ rfl ⟨wr (x + 1), ⟨H.1, _, env_eq ⟨rfl, rfl, rfl, rfl, trivial⟩, (X10.stepx x28), (ex8.ext x28), (ex9.ext x28)⟩, H.2⟩
 have H := H.2 hc11
 refine W_exit ?_
 refine (if_pos rfl).mpr ?_
 refine W_seq (W_region ?_)
 refine LP_ev ok 0 [(4, .bool true)] 1 rfl rfl ?_
 refine LP_end _ rfl (W_ret ?_)
 exact ⟨_, Ret_of [.bool true] ⟨⟨rfl, rfl⟩, trivial⟩, _, H, rfl, X10.ext⟩

theorem laws_qRecord_w (a : Record) (b : Record) (Q : Bool → Prop) (H : laws_qRecord a b Q) (w : World) {vx : Value} {hx : PH} (r : RS hx vx a.Values) (ex : Sub hx w) {vx2 : Value} {hx3 : PH} (r4 : RS hx3 vx2 b.Values) (ex5 : Sub hx3 w) :
  CallsTo Try.prog 46 #[.agg #[I a.Area, I a.House, vx], .agg #[I b.Area, I b.House, vx2]] w fun v w' => ∃ r0, Q r0 ∧ v = .bool r0 ∧ Ext w w' := by
 obtain ⟨a1, c, rfl⟩ := r.shape
 obtain ⟨a6, c7, rfl⟩ := r4.shape
 refine enter (args := [.agg #[I a.Area, I a.House, sl a1 a.Values c], .agg #[I b.Area, I b.House, sl a6 b.Values c7]]) 24 Try.func46 rfl rfl rfl ?_
 refine W_forget [(0, .agg #[I a.Area, I a.House, sl a1 a.Values c]), (1, .agg #[I b.Area, I b.House, sl a6 b.Values c7])] ⟨rfl, rfl, trivial⟩ fun ρ => ?_
 have X := But.refl emp w
 refine W_seq (W_region ?_)
 refine LP_box 0 (cs := [I a.Area, I a.House, sl a1 a.Values c]) rfl rfl rfl rfl rfl fun b8 wx x ex9 f => ?_
 refine LP_box 1 (cs := [I b.Area, I b.House, sl a6 b.Values c7]) rfl rfl rfl rfl rfl fun b10 wx11 x12 ex13 f14 => ?_
 refine LP_ev ok 2 [(4, .bool false)] 3 rfl rfl ?_
 refine LP_end _ rfl ?_
 have xc := (x.trans x12)
 have X15 := (X.stepx xc)
 have ex18 := (ex9.ext x12)
 obtain ⟨k, hk, H⟩ := jn_elim H
 refine W_join2 (S := Bool) (fun s ρ' w' => k s ∧ ∃ (ρ : Env), ρ' = setAll [(4, .bool s)] ρ ∧ But emp w w') ?_ ?_
 ·refine W_region ?_
  refine LP_ev ok 0 [(5, pb b8)] 1 rfl rfl ?_
  refine LP_ldbox 1 (v := I a.Area) rfl rfl rfl ti_3 ag_3 (fun _ => rfl) rfl ex18 rfl rfl ?_
  refine LP_ev ok 2 [(7, pb b10)] 3 rfl rfl ?_
  refine LP_ldbox 3 (v := I b.Area) rfl rfl rfl ti_3 ag_3 (fun _ => rfl) rfl ex13 rfl rfl ?_
  refine LP_ev ok 4 [(9, .bool (a.Area == b.Area)), (10, .bool (a.Area == b.Area))] 6 rfl rfl ?_
  refine LP_split 10 (a.Area == b.Area) rfl (fun hc => ?_) (fun hc => ?_)
  ·have H := H.1 hc
   refine LP_ev ok 6 [(11, .pointer (some ⟨b8, 1, none⟩))] 7 rfl rfl ?_
   refine LP_ldbox 7 (v := I a.House) rfl rfl rfl ti_3 ag_3 (fun _ => rfl) rfl ex18 rfl rfl ?_
   refine LP_ev ok 8 [(13, .pointer (some ⟨b10, 1, none⟩))] 9 rfl rfl ?_
   refine LP_ldbox 9 (v := I b.House) rfl rfl rfl ti_3 ag_3 (fun _ => rfl) rfl ex13 rfl rfl ?_
   refine LP_ev ok 10 [(15, .bool (a.House == b.House)), (16, .bool (a.House == b.House)), (17, .bool (a.House == b.House))] 13 rfl rfl ?_
   refine LP_split 17 (a.House == b.House) rfl (fun hc25 => ?_) (fun hc25 => ?_)
   ·have H := H.1 hc25
    refine LP_ev ok 13 [(18, .pointer (some ⟨b8, 2, none⟩))] 14 rfl rfl ?_
    refine LP_ldbox 14 (v := sl a1 a.Values c) rfl rfl rfl ti_25 ag_25 (fun _ => rfl) rfl ex18 rfl rfl ?_
    refine LP_ev ok 15 [(20, .pointer (some ⟨b10, 2, none⟩))] 16 rfl rfl ?_
    refine LP_ldbox 16 (v := sl a6 b.Values c7) rfl rfl rfl ti_25 ag_25 (fun _ => rfl) rfl ex13 rfl rfl ?_
    refine LP_call 17 rfl rfl rfl cal_12 rfl (laws_qInts_w _ _ _ H wx11 r (ex.ext xc) r4 (ex5.ext xc)) ?_
    rintro _ wx27 ⟨r26, H, rfl, x28⟩
    refine LP_ev ok 18 [(23, .bool r26), (4, .bool r26)] 20 rfl rfl ?_
    exact LP_end _ rfl ⟨r26, H, _, env_eq ⟨rfl, trivial⟩, (X15.stepx x28)⟩
   have H := H.2 hc25
   refine LP_ev ok 13 [(18, undef), (19, undef), (20, undef), (21, undef), (22, undef), (23, .bool false), (4, .bool false)] 20 rfl rfl ?_
   exact LP_end _ rfl ⟨false, H, _, env_eq ⟨rfl, trivial⟩, X15⟩
  have H := H.2 hc
  refine LP_ev ok 6 [(11, undef), (12, undef), (13, undef), (14, undef), (15, undef), (16, .bool false), (17, .bool false), (18, undef), (19, undef), (20, undef), (21, undef), (22, undef), (23, .bool false), (4, .bool false)] 20 rfl rfl ?_
  exact LP_end _ rfl ⟨false, H, _, env_eq ⟨rfl, trivial⟩, X15⟩
 rintro x22 _ wx23 ⟨H, ρ, rfl, X24⟩
 subst hk
 refine W_ret ?_
 exact ⟨_, Ret_of [.bool x22] ⟨⟨rfl, rfl⟩, trivial⟩, _, H, rfl, X24.ext⟩

theorem laws_qData_w (a : List Record) (b : List Record) (Q : Bool → Prop) (H : laws_qData a b Q) (w : World) {vx : Value} {hx : PH} (r : RS hx vx a) (ex : Sub hx w) {vx2 : Value} {hx3 : PH} (r4 : RS hx3 vx2 b) (ex5 : Sub hx3 w) :
  CallsTo Try.prog 11 #[vx, vx2] w fun v w' => ∃ r0, Q r0 ∧ v = .bool r0 ∧ Ext w w' := by
 obtain ⟨a1, c, rfl⟩ := r.shape
 obtain ⟨a6, c7, rfl⟩ := r4.shape
 refine enter (args := [sl a1 a c, sl a6 b c7]) 27 Try.func11 rfl rfl rfl ?_
 refine W_forget [(0, sl a1 a c), (1, sl a6 b c7)] ⟨rfl, rfl, trivial⟩ fun ρ => ?_
 have X := But.refl emp w
 refine W_seq (W_region ?_)
 refine LP_ev ok 0 [(4, .bool false)] 1 rfl rfl ?_
 refine LP_end _ rfl (W_seq ?_)
 refine W_seq (W_region ?_)
 refine LP_ev ok 0 [(6, sl a1 a c), (7, I (ln a)), (8, sl a6 b c7), (9, I (ln b)), (10, .bool ((ln a) != (ln b)))] 5 rfl rfl ?_
 refine LP_end _ rfl ?_
 refine W_cond ((ln a) != (ln b)) rfl (fun hc => ?_) (fun hc => ?_)
 ·have H := H.1 hc
  refine W_seq (W_region ?_)
  refine LP_ev ok 0 [(4, .bool false)] 1 rfl rfl ?_
  refine LP_end _ rfl (W_ret ?_)
  exact ⟨_, Ret_of [.bool false] ⟨⟨rfl, rfl⟩, trivial⟩, _, H, rfl, X.ext⟩
 have H := H.2 hc
 refine W_skip ?_
 refine W_seq ?_
 refine W_seq (W_region ?_)
 refine LP_ev ok 0 [(11, sl a1 a c), (12, I (ln a)), (13, I 0)] 3 rfl rfl ?_
 refine LP_end _ rfl ?_
 refine W_block ?_
 obtain ⟨J, m, Hx, H⟩ := H
 refine W_loop (S := Int) (fun s ρ' w' => J s ∧ ∃ (ρ : Env), ρ' = setAll [(0, sl a1 a c), (1, sl a6 b c7), (12, I (ln a)), (13, I s)] ρ ∧ But emp w w' ∧ Sub hx w' ∧ Sub hx3 w') (fun s => m s) 0 ⟨Hx, _, env_eq ⟨rfl, rfl, rfl, rfl, trivial⟩, X, ex, ex5⟩ ?_
 rintro x _ wx ⟨Hi, ρ, rfl, X10, ex8, ex9⟩
 have H := H x Hi
 refine W_seq (W_region ?_)
 refine LP_ev ok 0 [(14, .bool (decide (x < (ln a))))] 1 rfl rfl ?_
 refine LP_end _ rfl (W_seq ?_)
 refine W_cond (decide (x < (ln a))) rfl (fun hc11 => ?_) (fun hc11 => ?_)
 ·have H := H.1 hc11
  refine W_skip ?_
  refine W_seq ?_
  refine W_block ?_
  refine W_seq (W_region ?_)
  refine LP_ev ok 0 [(15, I x), (5, I x)] 2 rfl rfl ?_
  refine LP_end _ rfl (W_seq ?_)
  refine W_quiet mix (by kernel_rfl) ?_
  refine QP_ev ok 0 [(16, sl a1 a c), (17, I x)] 2 rfl rfl ?_
  obtain ⟨x12, hi, hx13, H⟩ := H
  refine QP_index 2 rfl rfl rfl Try.underlying26 ti_40 rfl rfl r hi hx13 fun a14 cs r15 d => ?_
  have d16 := d
  obtain ⟨u, rfl, r17⟩ := Record_rd d16
  obtain ⟨a18, c19, rfl⟩ := r17.shape
  refine QP_load 3 rfl rfl rfl ti_40 ag_40 rfl r15 d ex8 fun vx20 r21 => ?_
  obtain ⟨u22, rfl, r23⟩ := Record_rv r21
  obtain ⟨a24, c25, rfl⟩ := r23.shape
  refine QP_ev ok 4 [(20, sl a6 b c7), (21, I x)] 6 rfl rfl ?_
  obtain ⟨x26, hi27, hx28, H⟩ := H
  refine QP_index 6 rfl rfl rfl Try.underlying26 ti_40 rfl rfl r4 hi27 hx28 fun a29 cs30 r31 d32 => ?_
  have d33 := d32
  obtain ⟨u34, rfl, r35⟩ := Record_rd d33
  obtain ⟨a36, c37, rfl⟩ := r35.shape
  refine QP_load 7 rfl rfl rfl ti_40 ag_40 rfl r31 d32 ex9 fun vx38 r39 => ?_
  obtain ⟨u40, rfl, r41⟩ := Record_rv r39
  obtain ⟨a42, c43, rfl⟩ := r41.shape
  obtain ⟨r44, Hd, H⟩ := H
  refine QP_call (.bool r44) 8 rfl rfl rfl cal_46 rfl (fun wx45 x46 => (laws_qRecord_w _ _ _ Hd wx45 r23 (ex8.ext x46) r41 (ex9.ext x46)).mono ?_) ?_
  ·rintro _ _ ⟨_, rfl, rfl, x⟩; exact ⟨rfl, x⟩
  refine QP_ev ok 9 [(25, .bool (!r44))] 10 rfl rfl ?_
  refine QP_end _ rfl fun wx47 x48 => ?_
  refine W_cond (!r44) rfl (fun hc49 => ?_) (fun hc49 => ?_)
  ·have H := H.1 hc49
   refine W_seq (W_region ?_)
   refine LP_ev ok 0 [(4, .bool false)] 1 rfl rfl ?_
   refine LP_end _ rfl (W_ret ?_)
   exact ⟨_, Ret_of [.bool false] ⟨⟨rfl, rfl⟩, trivial⟩, _, H, rfl, (X10.stepx x48).ext⟩
  have H := H.2 hc49
  refine W_skip ?_
  refine W_region ?_
  refine LP_ev ok 0 [(26, I (wr (x + 1))), (13, I (wr (x + 1)))] 2 rfl rfl ?_
  exact LP_end _ rfl ⟨wr (x + 1), ⟨H.1, _, env_eq ⟨rfl, rfl, rfl, rfl, trivial⟩, (X10.stepx x48), (ex8.ext x48), (ex9.ext x48)⟩, H.2⟩
 have H := H.2 hc11
 refine W_exit ?_
 refine (if_pos rfl).mpr ?_
 refine W_seq (W_region ?_)
 refine LP_ev ok 0 [(4, .bool true)] 1 rfl rfl ?_
 refine LP_end _ rfl (W_ret ?_)
 exact ⟨_, Ret_of [.bool true] ⟨⟨rfl, rfl⟩, trivial⟩, _, H, rfl, X10.ext⟩

theorem impl_DonorMend_w (sx : List Variable) (l : List Edit) (weights : List Int) (values : List Int) (donor : List Int) (Q : (List Int) → Bool → Bool → Prop) (H : impl_DonorMend sx l weights values donor Q) (w : World) {vx : Value} {hx : PH} (r : RS hx vx sx) (ex : Sub hx w) {vx1 : Value} {hx2 : PH} (r3 : RS hx2 vx1 l) (ex4 : Sub hx2 w) {vx7 : Value} {hx8 : PH} (r9 : RS hx8 vx7 weights) (ex10 : Sub hx8 w) {vx13 : Value} {hx14 : PH} (r15 : RS hx14 vx13 values) (ex16 : Sub hx14 w) {vx19 : Value} {hx20 : PH} (r21 : RS hx20 vx19 donor) (ex22 : Sub hx20 w) :
  CallsTo Try.prog 13 #[vx, vx1, vx7, vx13, vx19] w fun v w' => ∃ r0 r1 r2 u0 g0, Q r0 r1 r2 ∧ v = .tuple #[u0, .bool r1, .bool r2] ∧ Ext w w' ∧ OS 3 g0 emp u0 r0 ∧ Sub g0 w' ∧ Fresh w.heap.size g0 := by
 obtain ⟨a, c, rfl⟩ := r.shape
 obtain ⟨a5, c6, rfl⟩ := r3.shape
 obtain ⟨a11, c12, rfl⟩ := r9.shape
 obtain ⟨a17, c18, rfl⟩ := r15.shape
 obtain ⟨a23, c24, rfl⟩ := r21.shape
 refine enter (args := [sl a sx c, sl a5 l c6, sl a11 weights c12, sl a17 values c18, sl a23 donor c24]) 73 Try.func13 rfl rfl rfl ?_
 refine W_forget [(0, sl a sx c), (1, sl a5 l c6), (2, sl a11 weights c12), (3, sl a17 values c18), (4, sl a23 donor c24)] ⟨rfl, rfl, rfl, rfl, rfl, trivial⟩ fun ρ => ?_
 have X := But.refl emp w
 refine W_seq (W_region ?_)
 refine LP_ev ok 0 [(10, .slice none 0 0), (11, .bool false), (12, .bool false)] 3 rfl rfl ?_
 refine LP_end _ rfl (W_seq ?_)
 obtain ⟨k, hk, H⟩ := jn_elim H
 refine W_join2 (S := Bool) (fun s ρ' w' => k s ∧ ∃ (ρ : Env), ρ' = setAll [(0, sl a sx c), (1, sl a5 l c6), (2, sl a11 weights c12), (3, sl a17 values c18), (4, sl a23 donor c24), (34, .bool s)] ρ ∧ But emp w w' ∧ Sub hx w' ∧ Sub hx2 w' ∧ Sub hx8 w' ∧ Sub hx14 w' ∧ Sub hx20 w') ?_ ?_
 ·refine W_region ?_
  refine LP_ev ok 0 [(18, sl a sx c), (19, sl a5 l c6), (20, sl a11 weights c12)] 3 rfl rfl ?_
  refine LP_call 3 rfl rfl rfl cal_28 rfl (impl_isMendable_w _ _ _ _ H w r ex r3 ex4 r9 ex10) ?_
  rintro _ wx32 ⟨r31, H, rfl, x33⟩
  refine LP_ev ok 4 [(22, .bool (!r31)), (23, .bool (!r31))] 6 rfl rfl ?_
  refine LP_split 23 (!r31) rfl (fun hc => ?_) (fun hc => ?_)
  ·have H := H.1 hc
   refine LP_ev ok 6 [(24, undef), (25, undef), (26, undef), (27, undef), (28, .bool true), (29, .bool true), (30, undef), (31, undef), (32, undef), (33, undef), (34, .bool true)] 17 rfl rfl ?_
   exact LP_end _ rfl ⟨true, H, _, env_eq ⟨rfl, rfl, rfl, rfl, rfl, rfl, trivial⟩, (X.stepx x33), (ex.ext x33), (ex4.ext x33), (ex10.ext x33), (ex16.ext x33), (ex22.ext x33)⟩
  have H := H.2 hc
  refine LP_ev ok 6 [(24, sl a sx c), (25, sl a17 values c18)] 8 rfl rfl ?_
  have ex41 := (ex.ext x33)
  have ex42 := (ex16.ext x33)
  refine LP_call 8 rfl rfl rfl cal_43 rfl (impl_areValues_w _ _ _ H wx32 r ex41 r15 ex42) ?_
  rintro _ wx43 ⟨r40, H, rfl, x44⟩
  refine LP_ev ok 9 [(27, .bool (!r40)), (28, .bool (!r40)), (29, .bool (!r40))] 12 rfl rfl ?_
  refine LP_split 29 (!r40) rfl (fun hc45 => ?_) (fun hc45 => ?_)
  ·have H := H.1 hc45
   refine LP_ev ok 12 [(30, undef), (31, undef), (32, undef), (33, undef), (34, .bool true)] 17 rfl rfl ?_
   refine LP_end _ rfl ?_
   have xc := (x33.trans x44)
   exact ⟨true, H, _, env_eq ⟨rfl, rfl, rfl, rfl, rfl, rfl, trivial⟩, (X.stepx xc), (ex41.ext x44), (ex4.ext xc), (ex10.ext xc), (ex42.ext x44), (ex22.ext xc)⟩
  have H := H.2 hc45
  refine LP_ev ok 12 [(30, sl a sx c), (31, sl a23 donor c24)] 14 rfl rfl ?_
  have ex53 := (ex41.ext x44)
  have xc54 := (x33.trans x44)
  have ex55 := (ex22.ext xc54)
  refine LP_call 14 rfl rfl rfl cal_43 rfl (impl_areValues_w _ _ _ H wx43 r ex53 r21 ex55) ?_
  rintro _ wx56 ⟨r52, H, rfl, x57⟩
  refine LP_ev ok 15 [(33, .bool (!r52)), (34, .bool (!r52))] 17 rfl rfl ?_
  refine LP_end _ rfl ?_
  have xc58 := (xc54.trans x57)
  exact ⟨!r52, H, _, env_eq ⟨rfl, rfl, rfl, rfl, rfl, rfl, trivial⟩, (X.stepx xc58), (ex53.ext x57), (ex4.ext xc58), (ex10.ext xc58), (ex42.ext (x44.trans x57)), (ex55.ext x57)⟩
 rintro x _ wx ⟨H, ρ, rfl, HF⟩
 revert HF
 refine bb6 fun X30 ex25 ex26 ex27 ex28 ex29 => ?_
 subst hk
 refine W_cond (x) rfl (fun hc66 => ?_) (fun hc66 => ?_)
 ·have H := H.1 hc66
  refine W_seq (W_region ?_)
  refine LP_ev ok 0 [(10, .slice none 0 0), (11, .bool false), (12, .bool false)] 3 rfl rfl ?_
  refine LP_end _ rfl (W_ret ?_)
  exact ⟨_, Ret_of [.slice none 0 0, .bool false, .bool false] ⟨⟨rfl, rfl⟩, ⟨rfl, rfl⟩, ⟨rfl, rfl⟩, trivial⟩, _, _, _, _, emp, H, rfl, X30.ext, OS.nil, (emp_sub _), (emp_fresh _)⟩
 have H := H.2 hc66
 refine W_skip ?_
 refine W_seq (W_region ?_)
 refine LP_ev ok 0 [(36, sl a sx c), (37, sl a5 l c6), (38, sl a11 weights c12), (39, sl a17 values c18)] 4 rfl rfl ?_
 refine LP_call 4 rfl rfl rfl cal_32 rfl (impl_cheapestChange_w _ _ _ _ _ H wx r ex25 r3 ex26 r9 ex27 r15 ex28) ?_
 rintro _ wx69 ⟨r67, r68, vx71, hx72, H, rfl, x70, o, ex73, f⟩
 obtain ⟨a74, c75, rfl⟩ := o.shape
 refine LP_ev ok 5 [(35, .tuple #[sl a74 r67 c75, .bool r68]), (41, sl a74 r67 c75), (42, .bool r68), (13, sl a74 r67 c75), (14, .bool r68)] 10 rfl rfl ?_
 refine LP_end _ rfl (W_seq ?_)
 refine W_seq (W_region ?_)
 refine LP_ev ok 0 [(43, .bool r68), (44, .bool (!r68))] 2 rfl rfl ?_
 refine LP_end _ rfl ?_
 refine W_cond (!r68) rfl (fun hc76 => ?_) (fun hc76 => ?_)
 ·have H := H.1 hc76
  refine W_seq (W_region ?_)
  refine LP_ev ok 0 [(10, .slice none 0 0), (11, .bool false), (12, .bool false)] 3 rfl rfl ?_
  refine LP_end _ rfl (W_ret ?_)
  exact ⟨_, Ret_of [.slice none 0 0, .bool false, .bool false] ⟨⟨rfl, rfl⟩, ⟨rfl, rfl⟩, ⟨rfl, rfl⟩, trivial⟩, _, _, _, _, emp, H, rfl, (X30.stepx x70).ext, OS.nil, (emp_sub _), (emp_fresh _)⟩
 have H := H.2 hc76
 refine W_skip ?_
 refine W_seq (W_region ?_)
 refine LP_ev ok 0 [(45, sl a17 values c18)] 1 rfl rfl ?_
 have ex79 := (ex28.ext x70)
 refine LP_call 1 rfl rfl rfl cal_47 rfl (slices_Clone_int_int_w _ _ H wx69 r15 ex79) ?_
 rintro _ wx80 ⟨r78, vx82, hx83, H, rfl, x81, o84, ex85, f86⟩
 obtain ⟨a87, c88, rfl⟩ := o84.shape
 refine LP_ev ok 2 [(15, sl a87 r78 c88)] 3 rfl rfl ?_
 refine LP_end _ rfl (W_seq ?_)
 refine W_seq (W_region ?_)
 refine LP_ev ok 0 [(47, sl a74 r67 c75), (48, I (ln r67)), (49, I 0)] 3 rfl rfl ?_
 refine LP_end _ rfl ?_
 refine W_block ?_
 have xc106 := (x70.trans x81)
 have f108 := f86.mono (X30.stepx x70).size
 obtain ⟨J, m, Hx, H⟩ := H
 refine W_loop (S := (List Int) × Int) (fun s ρ' w' => J s.1 s.2 ∧ ∃ (ρ : Env) (hx90 : PH), ρ' = setAll [(0, sl a sx c), (1, sl a5 l c6), (3, sl a17 values c18), (4, sl a23 donor c24), (13, sl a74 r67 c75), (15, sl a87 r78 c88), (47, sl a74 r67 c75), (48, I (ln r67)), (49, I s.2)] ρ ∧ But emp w w' ∧ OS 3 hx90 emp (sl a87 r78 c88) s.1 ∧ Sub hx90 w' ∧ Fresh w.heap.size hx90 ∧ Sub hx w' ∧ Sub hx2 w' ∧ Sub hx14 w' ∧ Sub hx20 w' ∧ Sub hx72 w' ∧ Dj hx90 hx ∧ Dj hx90 hx2 ∧ Dj hx90 hx14 ∧ Dj hx90 hx20 ∧ Dj hx90 hx72) (fun s => m s.1 s.2) (r78, 0) ⟨Hx, _, hx83, env_eq ⟨rfl, rfl, rfl, rfl, rfl, rfl, rfl, rfl, rfl, trivial⟩, (X30.stepx xc106), o84, ex85, f108, (ex25.ext xc106), (ex26.ext xc106), (ex79.ext x81), (ex29.ext xc106), (ex73.ext x81), (Dj.of_fresh (ex25.ext x70) f86).symm, (Dj.of_fresh (ex26.ext x70) f86).symm, (Dj.of_fresh ex79 f86).symm, (Dj.of_fresh (ex29.ext x70) f86).symm, (Dj.of_fresh ex73 f86).symm⟩ ?_
 rintro ⟨mended, x94⟩ _ wx95 ⟨Hi, ρ, hx90, rfl, HF⟩
 revert HF
 refine bb9 fun X105 o91 ex92 f93 ex96 ex97 ex98 ex99 => ?_
 refine bb6 fun ex100 d d101 d102 d103 d104 => ?_
 have H := H mended x94 Hi
 refine W_seq (W_region ?_)
 refine LP_ev ok 0 [(50, .bool (decide (x94 < (ln r67))))] 1 rfl rfl ?_
 refine LP_end _ rfl (W_seq ?_)
 refine W_cond (decide (x94 < (ln r67))) rfl (fun hc118 => ?_) (fun hc118 => ?_)
 ·have H := H.1 hc118
  refine W_skip ?_
  refine W_seq ?_
  refine W_block ?_
  refine W_seq (W_region ?_)
  obtain ⟨x119, hi, hx120, H⟩ := H
  refine LP_index 0 rfl rfl rfl Try.underlying25 ti_3 rfl rfl o.readf hi hx120 fun a121 cs r122 d123 => ?_
  refine LP_load 1 rfl rfl rfl ti_3 ag_3 rfl r122 d123 ex100 fun vx124 r125 => ?_
  obtain rfl := r125.int
  refine LP_ev ok 2 [(17, I x119)] 3 rfl rfl ?_
  refine LP_end _ rfl ?_
  refine W_region ?_
  refine LP_ev ok 0 [(53, sl a87 r78 c88), (54, I x119), (55, sl a23 donor c24), (56, I x119)] 4 rfl rfl ?_
  obtain ⟨x126, hi127, hx128, H⟩ := H
  refine LP_index 4 rfl rfl rfl Try.underlying25 ti_3 rfl rfl r21 hi127 hx128 fun a129 cs130 r131 d132 => ?_
  refine LP_load 5 rfl rfl rfl ti_3 ag_3 rfl r131 d132 ex99 fun vx133 r134 => ?_
  obtain rfl := r134.int
  obtain ⟨hi135, hl, H⟩ := H
  refine LP_indexw (v := sl a87 r78 c88) 6 rfl rfl rfl Try.underlying25 ti_3 rfl rfl o91 hi135 hl fun a136 wa => ?_
  refine LP_set 7 rfl rfl rfl rfl rfl wa (Le.refl emp) ⟨_, rfl, rfl⟩ ex92 fun hx137 wx138 o139 ex140 y dm => ?_
  refine LP_end _ rfl ?_
  refine W_region ?_
  refine LP_ev ok 0 [(60, I (wr (x94 + 1))), (49, I (wr (x94 + 1)))] 2 rfl rfl ?_
  refine LP_end _ rfl ?_
  have f142 := (dm _).fresh f93 X105.size
  exact ⟨(List.set mended (Int.toNat x119) x126, wr (x94 + 1)), ⟨H.1, _, hx137, env_eq ⟨rfl, rfl, rfl, rfl, rfl, rfl, rfl, rfl, rfl, trivial⟩, (X105.step y (f93.dom _)), o139, ex140, f142, (ex96.but y d), (ex97.but y d101), (ex98.but y d102), (ex99.but y d103), (ex100.but y d104), (DomLe.dj (dm _) d ex96), (DomLe.dj (dm _) d101 ex97), (DomLe.dj (dm _) d102 ex98), (DomLe.dj (dm _) d103 ex99), (DomLe.dj (dm _) d104 ex100)⟩, H.2⟩
 have H := H.2 hc118
 refine W_exit ?_
 refine (if_pos rfl).mpr ?_
 refine W_seq ?_
 refine W_seq (W_region ?_)
 refine LP_ev ok 0 [(61, sl a5 l c6), (62, sl a87 r78 c88)] 2 rfl rfl ?_
 refine LP_call 2 rfl rfl rfl cal_31 rfl (impl_failsOne_w _ _ _ H wx95 r3 ex97 o91.readf ex92) ?_
 rintro _ wx149 ⟨r148, H, rfl, x150⟩
 refine LP_ev ok 3 [(64, .bool (!r148))] 4 rfl rfl ?_
 refine LP_end _ rfl ?_
 refine W_cond (!r148) rfl (fun hc151 => ?_) (fun hc151 => ?_)
 ·have H := H.1 hc151
  refine W_seq (W_region ?_)
  refine LP_ev ok 0 [(65, sl a87 r78 c88), (10, sl a87 r78 c88), (11, .bool true), (12, .bool true)] 4 rfl rfl ?_
  refine LP_end _ rfl (W_ret ?_)
  exact ⟨_, Ret_of [sl a87 r78 c88, .bool true, .bool true] ⟨⟨rfl, rfl⟩, ⟨rfl, rfl⟩, ⟨rfl, rfl⟩, trivial⟩, _, _, _, _, _, H, rfl, (X105.stepx x150).ext, o91, (ex92.ext x150), f93⟩
 have H := H.2 hc151
 refine W_skip ?_
 refine W_seq (W_region ?_)
 refine LP_ev ok 0 [(66, sl a sx c), (67, sl a5 l c6), (68, sl a sx c), (69, sl a74 r67 c75)] 4 rfl rfl ?_
 have ex155 := (ex96.ext x150)
 refine LP_call 4 rfl rfl rfl cal_34 rfl (impl_otherVars_w _ _ _ H wx149 r ex155 o.readf (ex100.ext x150)) ?_
 rintro _ wx157 ⟨r154, vx159, hx160, H, rfl, x158, o161, ex162, f163⟩
 obtain ⟨a164, c165, rfl⟩ := o161.shape
 refine LP_ev ok 5 [(71, sl a17 values c18)] 6 rfl rfl ?_
 have xc168 := (x150.trans x158)
 refine LP_call 6 rfl rfl rfl cal_33 rfl (impl_completionOf_w _ _ _ _ _ H wx157 r (ex155.ext x158) r3 (ex97.ext xc168) o161.readf ex162 r15 (ex98.ext xc168)) ?_
 rintro _ wx171 ⟨r166, vx173, hx174, H, rfl, x172, o175, ex176, f177, cn⟩
 obtain ⟨a178, c179, rfl⟩ := o175.shape
 refine LP_ev ok 7 [(10, sl a178 r166 c179), (11, .bool false), (12, .bool true)] 10 rfl rfl ?_
 refine LP_end _ rfl (W_ret ?_)
 have X181 := (X105.stepx xc168)
 have f180 := f177.mono X181.size
 exact ⟨_, Ret_of [sl a178 r166 c179, .bool false, .bool true] ⟨⟨rfl, rfl⟩, ⟨rfl, rfl⟩, ⟨rfl, rfl⟩, trivial⟩, _, _, _, _, _, H, rfl, (X181.stepx x172).ext, o175, ex176, f180⟩

theorem impl_FailedEdits_w (sx : List Variable) (l : List Edit) (values : List Int) (Q : (List Int) → Bool → Prop) (H : impl_FailedEdits sx l values Q) (w : World) {vx : Value} {hx : PH} (r : RS hx vx sx) (ex : Sub hx w) {vx1 : Value} {hx2 : PH} (r3 : RS hx2 vx1 l) (ex4 : Sub hx2 w) {vx7 : Value} {hx8 : PH} (r9 : RS hx8 vx7 values) (ex10 : Sub hx8 w) :
  CallsTo Try.prog 14 #[vx, vx1, vx7] w fun v w' => ∃ r0 r1 u0 g0, Q r0 r1 ∧ v = .tuple #[u0, .bool r1] ∧ Ext w w' ∧ OS 3 g0 emp u0 r0 ∧ Sub g0 w' ∧ Fresh w.heap.size g0 := by
 obtain ⟨a, c, rfl⟩ := r.shape
 obtain ⟨a5, c6, rfl⟩ := r3.shape
 obtain ⟨a11, c12, rfl⟩ := r9.shape
 refine enter (args := [sl a sx c, sl a5 l c6, sl a11 values c12]) 42 Try.func14 rfl rfl rfl ?_
 refine W_forget [(0, sl a sx c), (1, sl a5 l c6), (2, sl a11 values c12)] ⟨rfl, rfl, rfl, trivial⟩ fun ρ => ?_
 have X := But.refl emp w
 refine W_seq (W_region ?_)
 refine LP_ev ok 0 [(6, .slice none 0 0), (7, .bool false)] 2 rfl rfl ?_
 refine LP_end _ rfl (W_seq ?_)
 obtain ⟨k, hk, H⟩ := jn_elim H
 refine W_join2 (S := Bool) (fun s ρ' w' => k s ∧ ∃ (ρ : Env), ρ' = setAll [(1, sl a5 l c6), (2, sl a11 values c12), (25, .bool s)] ρ ∧ But emp w w' ∧ Sub hx2 w' ∧ Sub hx8 w') ?_ ?_
 ·refine W_region ?_
  refine LP_ev ok 0 [(11, sl a sx c)] 1 rfl rfl ?_
  refine LP_call 1 rfl rfl rfl cal_48 rfl (impl_IsSchema_w _ _ H w r ex) ?_
  rintro _ wx17 ⟨r16, H, rfl, x18⟩
  refine LP_ev ok 2 [(13, .bool (!r16)), (14, .bool (!r16))] 4 rfl rfl ?_
  refine LP_split 14 (!r16) rfl (fun hc => ?_) (fun hc => ?_)
  ·have H := H.1 hc
   refine LP_ev ok 4 [(15, undef), (16, undef), (17, undef), (18, undef), (19, .bool true), (20, .bool true), (21, undef), (22, undef), (23, undef), (24, undef), (25, .bool true)] 15 rfl rfl ?_
   exact LP_end _ rfl ⟨true, H, _, env_eq ⟨rfl, rfl, rfl, trivial⟩, (X.stepx x18), (ex4.ext x18), (ex10.ext x18)⟩
  have H := H.2 hc
  refine LP_ev ok 4 [(15, sl a sx c), (16, sl a5 l c6)] 6 rfl rfl ?_
  have ex23 := (ex.ext x18)
  have ex24 := (ex4.ext x18)
  refine LP_call 6 rfl rfl rfl cal_49 rfl (impl_areEdits_w _ _ _ H wx17 r ex23 r3 ex24) ?_
  rintro _ wx25 ⟨r22, H, rfl, x26⟩
  refine LP_ev ok 7 [(18, .bool (!r22)), (19, .bool (!r22)), (20, .bool (!r22))] 10 rfl rfl ?_
  refine LP_split 20 (!r22) rfl (fun hc27 => ?_) (fun hc27 => ?_)
  ·have H := H.1 hc27
   refine LP_ev ok 10 [(21, undef), (22, undef), (23, undef), (24, undef), (25, .bool true)] 15 rfl rfl ?_
   refine LP_end _ rfl ?_
   have xc := (x18.trans x26)
   exact ⟨true, H, _, env_eq ⟨rfl, rfl, rfl, trivial⟩, (X.stepx xc), (ex24.ext x26), (ex10.ext xc)⟩
  have H := H.2 hc27
  refine LP_ev ok 10 [(21, sl a sx c), (22, sl a11 values c12)] 12 rfl rfl ?_
  have xc33 := (x18.trans x26)
  have ex34 := (ex10.ext xc33)
  refine LP_call 12 rfl rfl rfl cal_43 rfl (impl_areValues_w _ _ _ H wx25 r (ex23.ext x26) r9 ex34) ?_
  rintro _ wx35 ⟨r31, H, rfl, x36⟩
  refine LP_ev ok 13 [(24, .bool (!r31)), (25, .bool (!r31))] 15 rfl rfl ?_
  exact LP_end _ rfl ⟨!r31, H, _, env_eq ⟨rfl, rfl, rfl, trivial⟩, (X.stepx (xc33.trans x36)), (ex24.ext (x26.trans x36)), (ex34.ext x36)⟩
 rintro x _ wx ⟨H, ρ, rfl, X15, ex13, ex14⟩
 subst hk
 refine W_cond (x) rfl (fun hc42 => ?_) (fun hc42 => ?_)
 ·have H := H.1 hc42
  refine W_seq (W_region ?_)
  refine LP_ev ok 0 [(6, .slice none 0 0), (7, .bool false)] 2 rfl rfl ?_
  refine LP_end _ rfl (W_ret ?_)
  exact ⟨_, Ret_of [.slice none 0 0, .bool false] ⟨⟨rfl, rfl⟩, ⟨rfl, rfl⟩, trivial⟩, _, _, _, emp, H, rfl, X15.ext, OS.nil, (emp_sub _), (emp_fresh _)⟩
 have H := H.2 hc42
 refine W_skip ?_
 refine W_seq (W_region ?_)
 refine LP_ev ok 0 [(8, .slice none 0 0)] 1 rfl rfl ?_
 refine LP_end _ rfl (W_seq ?_)
 refine W_seq (W_region ?_)
 refine LP_ev ok 0 [(26, sl a5 l c6), (27, I (ln l)), (28, I 0)] 3 rfl rfl ?_
 refine LP_end _ rfl ?_
 refine W_block ?_
 obtain ⟨J, m, Hx, H⟩ := H
 refine W_loop (S := (List Int) × Int) (fun s ρ' w' => J s.1 s.2 ∧ ∃ (ρ : Env) (vx43 : Value) (hx44 : PH), ρ' = setAll [(2, sl a11 values c12), (8, vx43), (26, sl a5 l c6), (27, I (ln l)), (28, I s.2)] ρ ∧ But emp w w' ∧ OS 3 hx44 emp vx43 s.1 ∧ Sub hx44 w' ∧ Fresh w.heap.size hx44 ∧ Sub hx2 w' ∧ Sub hx8 w' ∧ Dj hx44 hx2 ∧ Dj hx44 hx8) (fun s => m s.1 s.2) ([], 0) ⟨Hx, _, .slice none 0 0, emp, env_eq ⟨rfl, rfl, rfl, rfl, rfl, trivial⟩, X15, OS.nil, (emp_sub _), (emp_fresh _), ex13, ex14, (fun _ => .inl rfl), (fun _ => .inl rfl)⟩ ?_
 rintro ⟨failed, x46⟩ _ wx47 ⟨Hi, ρ, vx43, hx44, rfl, HF⟩
 revert HF
 refine bb8 fun X53 o ex45 f ex48 ex49 d d52 => ?_
 have H := H failed x46 Hi
 obtain ⟨a50, c51, rfl⟩ := o.shape
 refine W_seq (W_region ?_)
 refine LP_ev ok 0 [(29, .bool (decide (x46 < (ln l))))] 1 rfl rfl ?_
 refine LP_end _ rfl (W_seq ?_)
 refine W_cond (decide (x46 < (ln l))) rfl (fun hc54 => ?_) (fun hc54 => ?_)
 ·have H := H.1 hc54
  refine W_skip ?_
  obtain ⟨k69, hk70, H⟩ := jn_elim H
  refine W_join2 (S := (List Int)) (fun s ρ' w' => k69 s ∧ ∃ (ρ : Env) (vx56 : Value) (hx57 : PH), ρ' = setAll [(2, sl a11 values c12), (8, vx56), (26, sl a5 l c6), (27, I (ln l)), (28, I x46)] ρ ∧ But emp w w' ∧ OS 3 hx57 emp vx56 s ∧ Sub hx57 w' ∧ Fresh w.heap.size hx57 ∧ Sub hx2 w' ∧ Sub hx8 w' ∧ Dj hx57 hx2 ∧ Dj hx57 hx8) ?_ ?_
  ·refine W_block ?_
   refine W_seq (W_region ?_)
   refine LP_ev ok 0 [(30, I x46)] 1 rfl rfl ?_
   obtain ⟨x71, hi, hx72, H⟩ := H
   refine LP_index 1 rfl rfl rfl Try.underlying24 ti_79 rfl rfl r3 hi hx72 fun a73 cs r74 d75 => ?_
   have d76 := d75
   obtain ⟨u, rfl, r77⟩ := Edit_rd d76
   obtain ⟨a78, c79, rfl⟩ := r77.shape
   refine LP_load 2 rfl rfl rfl ti_79 ag_79 rfl r74 d75 ex48 fun vx80 r81 => ?_
   obtain ⟨u82, rfl, r83⟩ := Edit_rv r81
   obtain ⟨a84, c85, rfl⟩ := r83.shape
   refine LP_alloc 3 rfl rfl rfl ti_79 rfl fun b wx86 x87 ex88 f89 => ?_
   refine LP_ev ok 4 [(9, I x46)] 5 rfl rfl ?_
   refine LP_stbox 5 (vs := [sl a84 x71.Sets c85]) (cs' := [sl a84 x71.Sets c85]) rfl rfl rfl ti_79 rfl rfl rfl rfl rfl ex88 rfl rfl fun wx90 ex91 y => ?_
   refine LP_end _ rfl (W_seq (W_region ?_))
   refine LP_ldbox 0 (v := .agg #[sl a84 x71.Sets c85]) rfl rfl rfl ti_79 ag_79 (fun h => by cases h) rfl ex91 rfl rfl ?_
   refine LP_ev ok 1 [(34, sl a11 values c12)] 2 rfl rfl ?_
   have ex93 := ((ex48.ext x87).but y (Dj.of_fresh ex48 f89).symm)
   have ex94 := ((ex49.ext x87).but y (Dj.of_fresh ex49 f89).symm)
   refine LP_call 2 rfl rfl rfl cal_50 rfl (impl_fails_w _ _ _ H wx90 r83 ex93 r9 ex94) ?_
   rintro _ wx95 ⟨r92, H, rfl, x96⟩
   refine LP_end _ rfl ?_
   refine W_cond (r92) rfl (fun hc97 => ?_) (fun hc97 => ?_)
   ·have H := H.1 hc97
    refine W_region ?_
    refine LP_ev ok 0 [(36, sl a50 failed c51), (37, I x46)] 2 rfl rfl ?_
    refine LP_lit (α := Int) (g := emp) 2 (vs := [I x46]) (xs := [x46]) rfl rfl rfl Try.underlying25 ti_3 rfl rfl ⟨⟨_, rfl, rfl⟩, trivial⟩ rfl rfl fun hx98 vx99 wx100 x101 o102 ex103 f104 => ?_
    obtain ⟨a105, c106, rfl⟩ := o102.shape
    have xc107 := (x96.trans x101)
    obtain ⟨hb, H⟩ := H
    refine LP_appendf (α := Int) 3 rfl rfl rfl Try.underlying25 ti_3 rfl rfl rfl o (((ex45.ext x87).but y (Dj.of_fresh ex45 f89).symm).ext xc107) o102.readf ex103 (by first | omega | (simp only [ln] at *; omega)) (by first | omega | (simp only [ln] at *; omega)) fun hx109 vx110 wx111 o112 ex113 y114 dm => ?_
    obtain ⟨a115, c116, rfl⟩ := o112.shape
    refine LP_ev ok 4 [(8, .slice a115 (List.length (failed ++ ([x46]))) c116)] 5 rfl rfl ?_
    refine LP_end _ rfl ?_
    have f117 := f89.mono X53.size
    have f119 := dm.fresh f (((X53.stepx x87).step y (f117.dom _)).stepx xc107).size
    exact ⟨failed ++ ([x46]), H, _, .slice a115 (List.length (failed ++ ([x46]))) c116, hx109, env_eq ⟨rfl, rfl, rfl, rfl, rfl, trivial⟩, ((((X53.stepx x87).step y (f117.dom _)).stepx xc107).step y114 (f.dom _)), o112, ex113, f119, ((ex93.ext xc107).but y114 d), ((ex94.ext xc107).but y114 d52), (DomLe.dj dm d (ex93.ext xc107)), (DomLe.dj dm d52 (ex94.ext xc107))⟩
   have H := H.2 hc97
   refine W_skip ?_
   have f125 := f89.mono X53.size
   exact ⟨failed, H, _, sl a50 failed c51, hx44, env_eq ⟨rfl, rfl, rfl, rfl, rfl, trivial⟩, (((X53.stepx x87).step y (f125.dom _)).stepx x96), o, (((ex45.ext x87).but y (Dj.of_fresh ex45 f89).symm).ext x96), f, (ex93.ext x96), (ex94.ext x96), d, d52⟩
  rintro failed55 _ wx61 ⟨H, ρ, vx56, hx57, rfl, HF⟩
  revert HF
  refine bb8 fun X68 o58 ex59 f60 ex62 ex63 d66 d67 => ?_
  subst hk70
  obtain ⟨a64, c65, rfl⟩ := o58.shape
  refine W_region ?_
  refine LP_ev ok 0 [(40, I (wr (x46 + 1))), (28, I (wr (x46 + 1)))] 2 rfl rfl ?_
  exact LP_end _ rfl ⟨(failed55, wr (x46 + 1)), ⟨H.1, _, sl a64 failed55 c65, hx57, env_eq ⟨rfl, rfl, rfl, rfl, rfl, trivial⟩, X68, o58, ex59, f60, ex62, ex63, d66, d67⟩, H.2⟩
 have H := H.2 hc54
 refine W_exit ?_
 refine (if_pos rfl).mpr ?_
 refine W_seq (W_region ?_)
 refine LP_ev ok 0 [(41, sl a50 failed c51), (6, sl a50 failed c51), (7, .bool true)] 3 rfl rfl ?_
 refine LP_end _ rfl (W_ret ?_)
 exact ⟨_, Ret_of [sl a50 failed c51, .bool true] ⟨⟨rfl, rfl⟩, ⟨rfl, rfl⟩, trivial⟩, _, _, _, _, H, rfl, X53.ext, o, ex45, f⟩

theorem impl_FailingRecords_w (sx : List Variable) (l : List Edit) (data : List Record) (Q : (List Int) → Bool → Prop) (H : impl_FailingRecords sx l data Q) (w : World) {vx : Value} {hx : PH} (r : RS hx vx sx) (ex : Sub hx w) {vx1 : Value} {hx2 : PH} (r3 : RS hx2 vx1 l) (ex4 : Sub hx2 w) {vx7 : Value} {hx8 : PH} (r9 : RS hx8 vx7 data) (ex10 : Sub hx8 w) :
  CallsTo Try.prog 15 #[vx, vx1, vx7] w fun v w' => ∃ r0 r1 u0 g0, Q r0 r1 ∧ v = .tuple #[u0, .bool r1] ∧ Ext w w' ∧ OS 3 g0 emp u0 r0 ∧ Sub g0 w' ∧ Fresh w.heap.size g0 := by
 obtain ⟨a, c, rfl⟩ := r.shape
 obtain ⟨a5, c6, rfl⟩ := r3.shape
 obtain ⟨a11, c12, rfl⟩ := r9.shape
 refine enter (args := [sl a sx c, sl a5 l c6, sl a11 data c12]) 43 Try.func15 rfl rfl rfl ?_
 refine W_forget [(0, sl a sx c), (1, sl a5 l c6), (2, sl a11 data c12)] ⟨rfl, rfl, rfl, trivial⟩ fun ρ => ?_
 have X := But.refl emp w
 refine W_seq (W_region ?_)
 refine LP_ev ok 0 [(6, .slice none 0 0), (7, .bool false)] 2 rfl rfl ?_
 refine LP_end _ rfl (W_seq ?_)
 obtain ⟨k, hk, H⟩ := jn_elim H
 refine W_join2 (S := Bool) (fun s ρ' w' => k s ∧ ∃ (ρ : Env), ρ' = setAll [(1, sl a5 l c6), (2, sl a11 data c12), (25, .bool s)] ρ ∧ But emp w w' ∧ Sub hx2 w' ∧ Sub hx8 w') ?_ ?_
 ·refine W_region ?_
  refine LP_ev ok 0 [(11, sl a sx c)] 1 rfl rfl ?_
  refine LP_call 1 rfl rfl rfl cal_51 rfl (impl_isSmall_w _ _ H w r ex) ?_
  rintro _ wx17 ⟨r16, H, rfl, x18⟩
  refine LP_ev ok 2 [(13, .bool (!r16)), (14, .bool (!r16))] 4 rfl rfl ?_
  refine LP_split 14 (!r16) rfl (fun hc => ?_) (fun hc => ?_)
  ·have H := H.1 hc
   refine LP_ev ok 4 [(15, undef), (16, undef), (17, undef), (18, undef), (19, .bool true), (20, .bool true), (21, undef), (22, undef), (23, undef), (24, undef), (25, .bool true)] 15 rfl rfl ?_
   exact LP_end _ rfl ⟨true, H, _, env_eq ⟨rfl, rfl, rfl, trivial⟩, (X.stepx x18), (ex4.ext x18), (ex10.ext x18)⟩
  have H := H.2 hc
  refine LP_ev ok 4 [(15, sl a sx c), (16, sl a5 l c6)] 6 rfl rfl ?_
  have ex23 := (ex.ext x18)
  have ex24 := (ex4.ext x18)
  refine LP_call 6 rfl rfl rfl cal_49 rfl (impl_areEdits_w _ _ _ H wx17 r ex23 r3 ex24) ?_
  rintro _ wx25 ⟨r22, H, rfl, x26⟩
  refine LP_ev ok 7 [(18, .bool (!r22)), (19, .bool (!r22)), (20, .bool (!r22))] 10 rfl rfl ?_
  refine LP_split 20 (!r22) rfl (fun hc27 => ?_) (fun hc27 => ?_)
  ·have H := H.1 hc27
   refine LP_ev ok 10 [(21, undef), (22, undef), (23, undef), (24, undef), (25, .bool true)] 15 rfl rfl ?_
   refine LP_end _ rfl ?_
   have xc := (x18.trans x26)
   exact ⟨true, H, _, env_eq ⟨rfl, rfl, rfl, trivial⟩, (X.stepx xc), (ex24.ext x26), (ex10.ext xc)⟩
  have H := H.2 hc27
  refine LP_ev ok 10 [(21, sl a sx c), (22, sl a11 data c12)] 12 rfl rfl ?_
  have xc33 := (x18.trans x26)
  have ex34 := (ex10.ext xc33)
  refine LP_call 12 rfl rfl rfl cal_29 rfl (impl_isData_w _ _ _ H wx25 r (ex23.ext x26) r9 ex34) ?_
  rintro _ wx35 ⟨r31, H, rfl, x36⟩
  refine LP_ev ok 13 [(24, .bool (!r31)), (25, .bool (!r31))] 15 rfl rfl ?_
  exact LP_end _ rfl ⟨!r31, H, _, env_eq ⟨rfl, rfl, rfl, trivial⟩, (X.stepx (xc33.trans x36)), (ex24.ext (x26.trans x36)), (ex34.ext x36)⟩
 rintro x _ wx ⟨H, ρ, rfl, X15, ex13, ex14⟩
 subst hk
 refine W_cond (x) rfl (fun hc42 => ?_) (fun hc42 => ?_)
 ·have H := H.1 hc42
  refine W_seq (W_region ?_)
  refine LP_ev ok 0 [(6, .slice none 0 0), (7, .bool false)] 2 rfl rfl ?_
  refine LP_end _ rfl (W_ret ?_)
  exact ⟨_, Ret_of [.slice none 0 0, .bool false] ⟨⟨rfl, rfl⟩, ⟨rfl, rfl⟩, trivial⟩, _, _, _, emp, H, rfl, X15.ext, OS.nil, (emp_sub _), (emp_fresh _)⟩
 have H := H.2 hc42
 refine W_skip ?_
 refine W_seq (W_region ?_)
 refine LP_ev ok 0 [(8, .slice none 0 0)] 1 rfl rfl ?_
 refine LP_end _ rfl (W_seq ?_)
 refine W_seq (W_region ?_)
 refine LP_ev ok 0 [(26, sl a11 data c12), (27, I (ln data)), (28, I 0)] 3 rfl rfl ?_
 refine LP_end _ rfl ?_
 refine W_block ?_
 obtain ⟨J, m, Hx, H⟩ := H
 refine W_loop (S := (List Int) × Int) (fun s ρ' w' => J s.1 s.2 ∧ ∃ (ρ : Env) (vx43 : Value) (hx44 : PH), ρ' = setAll [(1, sl a5 l c6), (8, vx43), (26, sl a11 data c12), (27, I (ln data)), (28, I s.2)] ρ ∧ But emp w w' ∧ OS 3 hx44 emp vx43 s.1 ∧ Sub hx44 w' ∧ Fresh w.heap.size hx44 ∧ Sub hx2 w' ∧ Sub hx8 w' ∧ Dj hx44 hx2 ∧ Dj hx44 hx8) (fun s => m s.1 s.2) ([], 0) ⟨Hx, _, .slice none 0 0, emp, env_eq ⟨rfl, rfl, rfl, rfl, rfl, trivial⟩, X15, OS.nil, (emp_sub _), (emp_fresh _), ex13, ex14, (fun _ => .inl rfl), (fun _ => .inl rfl)⟩ ?_
 rintro ⟨out, x46⟩ _ wx47 ⟨Hi, ρ, vx43, hx44, rfl, HF⟩
 revert HF
 refine bb8 fun X53 o ex45 f ex48 ex49 d d52 => ?_
 have H := H out x46 Hi
 obtain ⟨a50, c51, rfl⟩ := o.shape
 refine W_seq (W_region ?_)
 refine LP_ev ok 0 [(29, .bool (decide (x46 < (ln data))))] 1 rfl rfl ?_
 refine LP_end _ rfl (W_seq ?_)
 refine W_cond (decide (x46 < (ln data))) rfl (fun hc54 => ?_) (fun hc54 => ?_)
 ·have H := H.1 hc54
  refine W_skip ?_
  obtain ⟨k69, hk70, H⟩ := jn_elim H
  refine W_join2 (S := (List Int)) (fun s ρ' w' => k69 s ∧ ∃ (ρ : Env) (vx56 : Value) (hx57 : PH), ρ' = setAll [(1, sl a5 l c6), (8, vx56), (26, sl a11 data c12), (27, I (ln data)), (28, I x46)] ρ ∧ But emp w w' ∧ OS 3 hx57 emp vx56 s ∧ Sub hx57 w' ∧ Fresh w.heap.size hx57 ∧ Sub hx2 w' ∧ Sub hx8 w' ∧ Dj hx57 hx2 ∧ Dj hx57 hx8) ?_ ?_
  ·refine W_block ?_
   refine W_seq (W_region ?_)
   refine LP_ev ok 0 [(30, I x46)] 1 rfl rfl ?_
   obtain ⟨x71, hi, hx72, H⟩ := H
   refine LP_index 1 rfl rfl rfl Try.underlying26 ti_40 rfl rfl r9 hi hx72 fun a73 cs r74 d75 => ?_
   have d76 := d75
   obtain ⟨u, rfl, r77⟩ := Record_rd d76
   obtain ⟨a78, c79, rfl⟩ := r77.shape
   refine LP_load 2 rfl rfl rfl ti_40 ag_40 rfl r74 d75 ex49 fun vx80 r81 => ?_
   obtain ⟨u82, rfl, r83⟩ := Record_rv r81
   obtain ⟨a84, c85, rfl⟩ := r83.shape
   refine LP_alloc 3 rfl rfl rfl ti_40 rfl fun b wx86 x87 ex88 f89 => ?_
   refine LP_ev ok 4 [(9, I x46)] 5 rfl rfl ?_
   refine LP_stbox 5 (vs := [I x71.Area, I x71.House, sl a84 x71.Values c85]) (cs' := [I x71.Area, I x71.House, sl a84 x71.Values c85]) rfl rfl rfl ti_40 rfl rfl rfl rfl rfl ex88 rfl rfl fun wx90 ex91 y => ?_
   refine LP_end _ rfl (W_seq (W_region ?_))
   refine LP_ev ok 0 [(33, sl a5 l c6), (34, .pointer (some ⟨b, 2, none⟩))] 2 rfl rfl ?_
   refine LP_ldbox 2 (v := sl a84 x71.Values c85) rfl rfl rfl ti_25 ag_25 (fun _ => rfl) rfl ex91 rfl rfl ?_
   have ex93 := ((ex48.ext x87).but y (Dj.of_fresh ex48 f89).symm)
   have ex94 := ((ex49.ext x87).but y (Dj.of_fresh ex49 f89).symm)
   refine LP_call 3 rfl rfl rfl cal_31 rfl (impl_failsOne_w _ _ _ H wx90 r3 ex93 r83 ex94) ?_
   rintro _ wx95 ⟨r92, H, rfl, x96⟩
   refine LP_end _ rfl ?_
   refine W_cond (r92) rfl (fun hc97 => ?_) (fun hc97 => ?_)
   ·have H := H.1 hc97
    refine W_region ?_
    refine LP_ev ok 0 [(37, sl a50 out c51), (38, I x46)] 2 rfl rfl ?_
    refine LP_lit (α := Int) (g := emp) 2 (vs := [I x46]) (xs := [x46]) rfl rfl rfl Try.underlying25 ti_3 rfl rfl ⟨⟨_, rfl, rfl⟩, trivial⟩ rfl rfl fun hx98 vx99 wx100 x101 o102 ex103 f104 => ?_
    obtain ⟨a105, c106, rfl⟩ := o102.shape
    have xc107 := (x96.trans x101)
    obtain ⟨hb, H⟩ := H
    refine LP_appendf (α := Int) 3 rfl rfl rfl Try.underlying25 ti_3 rfl rfl rfl o (((ex45.ext x87).but y (Dj.of_fresh ex45 f89).symm).ext xc107) o102.readf ex103 (by first | omega | (simp only [ln] at *; omega)) (by first | omega | (simp only [ln] at *; omega)) fun hx109 vx110 wx111 o112 ex113 y114 dm => ?_
    obtain ⟨a115, c116, rfl⟩ := o112.shape
    refine LP_ev ok 4 [(8, .slice a115 (List.length (out ++ ([x46]))) c116)] 5 rfl rfl ?_
    refine LP_end _ rfl ?_
    have f117 := f89.mono X53.size
    have f119 := dm.fresh f (((X53.stepx x87).step y (f117.dom _)).stepx xc107).size
    exact ⟨out ++ ([x46]), H, _, .slice a115 (List.length (out ++ ([x46]))) c116, hx109, env_eq ⟨rfl, rfl, rfl, rfl, rfl, trivial⟩, ((((X53.stepx x87).step y (f117.dom _)).stepx xc107).step y114 (f.dom _)), o112, ex113, f119, ((ex93.ext xc107).but y114 d), ((ex94.ext xc107).but y114 d52), (DomLe.dj dm d (ex93.ext xc107)), (DomLe.dj dm d52 (ex94.ext xc107))⟩
   have H := H.2 hc97
   refine W_skip ?_
   have f125 := f89.mono X53.size
   exact ⟨out, H, _, sl a50 out c51, hx44, env_eq ⟨rfl, rfl, rfl, rfl, rfl, trivial⟩, (((X53.stepx x87).step y (f125.dom _)).stepx x96), o, (((ex45.ext x87).but y (Dj.of_fresh ex45 f89).symm).ext x96), f, (ex93.ext x96), (ex94.ext x96), d, d52⟩
  rintro out55 _ wx61 ⟨H, ρ, vx56, hx57, rfl, HF⟩
  revert HF
  refine bb8 fun X68 o58 ex59 f60 ex62 ex63 d66 d67 => ?_
  subst hk70
  obtain ⟨a64, c65, rfl⟩ := o58.shape
  refine W_region ?_
  refine LP_ev ok 0 [(41, I (wr (x46 + 1))), (28, I (wr (x46 + 1)))] 2 rfl rfl ?_
  exact LP_end _ rfl ⟨(out55, wr (x46 + 1)), ⟨H.1, _, sl a64 out55 c65, hx57, env_eq ⟨rfl, rfl, rfl, rfl, rfl, trivial⟩, X68, o58, ex59, f60, ex62, ex63, d66, d67⟩, H.2⟩
 have H := H.2 hc54
 refine W_exit ?_
 refine (if_pos rfl).mpr ?_
 refine W_seq (W_region ?_)
 refine LP_ev ok 0 [(42, sl a50 out c51), (6, sl a50 out c51), (7, .bool true)] 3 rfl rfl ?_
 refine LP_end _ rfl (W_ret ?_)
 exact ⟨_, Ret_of [sl a50 out c51, .bool true] ⟨⟨rfl, rfl⟩, ⟨rfl, rfl⟩, trivial⟩, _, _, _, _, H, rfl, X53.ext, o, ex45, f⟩

end Go.Proofs.Ytklajcbpnpkniaa
