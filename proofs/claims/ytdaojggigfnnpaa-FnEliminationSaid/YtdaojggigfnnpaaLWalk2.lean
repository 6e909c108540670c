/- The walks, further. -/
import Derived.Test.YtdaojggigfnnpaaLWalk
set_option linter.unusedVariables false
set_option autoImplicit false
namespace Go.Proofs.Ytdaojggigfnnpaa
open Go Go.RowKit Go.Gv

open Go.Proofs
set_option maxRecDepth 8000
set_option maxHeartbeats 4000000
theorem spec_sAt_w (sx : List Variable) (i : Int) (Q : (List Int) → Prop) (H : spec_sAt sx i Q) (w : World) {vx : Value} {hx : PH} (r : RS hx vx sx) (ex : Sub hx w) :
  CallsTo Try.prog 122 #[vx, I i] w fun v w' => ∃ r0 u0 g0, Q r0 ∧ v = u0 ∧ Ext w w' ∧ OS 3 g0 emp u0 r0 ∧ Sub g0 w' ∧ Fresh w.heap.size g0 := by
 obtain ⟨a, c, rfl⟩ := r.shape
 refine enter (args := [sl a sx c, I i]) 35 Try.func122 rfl rfl rfl ?_
 refine W_forget [(0, sl a sx c), (1, I i)] ⟨rfl, rfl, trivial⟩ fun ρ => ?_
 have X := But.refl emp w
 refine W_seq (W_region ?_)
 refine LP_ev ok 0 [(4, .slice none 0 0)] 1 rfl rfl ?_
 refine LP_end _ rfl (W_seq (W_region ?_))
 refine LP_ev ok 0 [(7, sl a sx c), (8, I (ln sx))] 2 rfl rfl ?_
 obtain ⟨hn, hb, H⟩ := H
 refine LP_make (α := Int) 2 rfl rfl rfl Try.underlying31 ti_3 (x0 := (0 : Int)) rfl rfl hn (by first | omega | (simp only [ln] at *; omega)) (by first | omega | (simp only [ln] at *; omega)) fun hx1 vx2 wx x o ex3 f => ?_
 obtain ⟨a4, c5, rfl⟩ := o.shape
 refine LP_ev ok 3 [(5, .slice a4 (List.length (List.replicate (Int.toNat (ln sx)) ((0 : Int)))) c5)] 4 rfl rfl ?_
 refine LP_end _ rfl (W_seq ?_)
 refine W_seq (W_region ?_)
 refine LP_ev ok 0 [(10, sl a sx c), (11, I (ln sx)), (12, I (wr ((ln sx) - 1))), (6, I (wr ((ln sx) - 1)))] 4 rfl rfl ?_
 refine LP_end _ rfl ?_
 refine W_block ?_
 have f16 := f.mono X.size
 obtain ⟨J, m, Hx, H⟩ := H
 refine W_loop (S := Int × (List Int) × Int) (fun s ρ' w' => J s.1 s.2.1 s.2.2 ∧ ∃ (ρ : Env) (hx8 : PH), ρ' = setAll [(0, sl a sx c), (1, I s.1), (5, .slice a4 (List.length (List.replicate (Int.toNat (ln sx)) ((0 : Int)))) c5), (6, I s.2.2)] ρ ∧ But emp w w' ∧ OS 3 hx8 emp (.slice a4 (List.length (List.replicate (Int.toNat (ln sx)) ((0 : Int)))) c5) s.2.1 ∧ Sub hx8 w' ∧ Fresh w.heap.size hx8 ∧ Sub hx w' ∧ Dj hx8 hx) (fun s => m s.1 s.2.1 s.2.2) (i, List.replicate (Int.toNat (ln sx)) ((0 : Int)), wr ((ln sx) - 1)) ⟨Hx, _, hx1, env_eq ⟨rfl, rfl, rfl, rfl, trivial⟩, (X.stepx x), o, ex3, f16, (ex.ext x), (Dj.of_fresh ex f).symm⟩ ?_
 rintro ⟨i6, out, k⟩ _ wx12 ⟨Hi, ρ, hx8, rfl, HF⟩
 revert HF
 refine bb6 fun X14 o9 ex10 f11 ex13 d => ?_
 have H := H i6 out k Hi
 refine W_seq ?_
 refine W_seq (W_region ?_)
 refine LP_ev ok 0 [(13, I k), (14, .bool (decide (k ≥ 0)))] 2 rfl rfl ?_
 refine LP_end _ rfl ?_
 refine W_cond (decide (k ≥ 0)) rfl (fun hc => ?_) (fun hc => ?_)
 ·have H := H.1 hc
  refine W_skip ?_
  refine W_seq ?_
  refine W_block ?_
  refine W_seq (W_region ?_)
  refine LP_ev ok 0 [(17, .slice a4 (List.length (List.replicate (Int.toNat (ln sx)) ((0 : Int)))) c5), (18, I k), (19, I i6), (20, sl a sx c), (21, I k)] 5 rfl rfl ?_
  obtain ⟨x18, hi, hx19, H⟩ := H
  refine LP_index 5 rfl rfl rfl Try.underlying24 ti_167 rfl rfl r hi hx19 fun a20 cs r21 d22 => ?_
  refine LP_ev ok 6 [(23, .pointer (some (Addr.add a20 1)))] 7 rfl rfl ?_
  refine LP_ldfld (x := x18) (off := 1) 7 (v := I x18.Levels) rfl rfl rfl ti_3 ag_3 (fun _ => rfl) rfl r21 d22 ex13 rfl rfl ?_
  obtain ⟨hz, H⟩ := H
  refine LP_val 8 _ rfl rfl (ex_rem rfl rfl rfl hz _) ?_
  obtain ⟨hi23, hl, H⟩ := H
  refine LP_indexw (v := .slice a4 (List.length (List.replicate (Int.toNat (ln sx)) ((0 : Int)))) c5) 9 rfl rfl rfl Try.underlying31 ti_3 rfl rfl o9 hi23 hl fun a24 wa => ?_
  refine LP_set 10 rfl rfl rfl rfl rfl wa (Le.refl emp) ⟨_, rfl, rfl⟩ ex10 fun hx25 wx26 o27 ex28 y dm => ?_
  refine LP_end _ rfl ?_
  refine W_region ?_
  refine LP_ev ok 0 [(27, I i6), (28, sl a sx c), (29, I k)] 3 rfl rfl ?_
  obtain ⟨x29, hi30, hx31, H⟩ := H
  refine LP_index 3 rfl rfl rfl Try.underlying24 ti_167 rfl rfl r hi30 hx31 fun a32 cs33 r34 d35 => ?_
  refine LP_ev ok 4 [(31, .pointer (some (Addr.add a32 1)))] 5 rfl rfl ?_
  have ex36 := (ex13.but y d)
  refine LP_ldfld (x := x29) (off := 1) 5 (v := I x29.Levels) rfl rfl rfl ti_3 ag_3 (fun _ => rfl) rfl r34 d35 ex36 rfl rfl ?_
  obtain ⟨hz37, H⟩ := H
  refine LP_val 6 _ rfl rfl (ex_quo rfl rfl rfl hz37 _) ?_
  refine LP_ev ok 7 [(1, I (wr (Int.tdiv i6 x29.Levels)))] 8 rfl rfl ?_
  refine LP_end _ rfl ?_
  refine W_region ?_
  refine LP_ev ok 0 [(15, I k), (16, I (wr (k - 1))), (6, I (wr (k - 1)))] 3 rfl rfl ?_
  refine LP_end _ rfl ?_
  have f39 := (dm _).fresh f11 X14.size
  exact ⟨(wr (Int.tdiv i6 x29.Levels), List.set out (Int.toNat k) (Int.tmod i6 x18.Levels), wr (k - 1)), ⟨H.1, _, hx25, env_eq ⟨rfl, rfl, rfl, rfl, trivial⟩, (X14.step y (f11.dom _)), o27, ex28, f39, ex36, (DomLe.dj (dm _) d ex13)⟩, H.2⟩
 have H := H.2 hc
 refine W_exit ?_
 refine (if_pos rfl).mpr ?_
 refine W_seq (W_region ?_)
 refine LP_ev ok 0 [(34, .slice a4 (List.length (List.replicate (Int.toNat (ln sx)) ((0 : Int)))) c5), (4, .slice a4 (List.length (List.replicate (Int.toNat (ln sx)) ((0 : Int)))) c5)] 2 rfl rfl ?_
 refine LP_end _ rfl (W_ret ?_)
 exact ⟨_, Ret_of [.slice a4 (List.length (List.replicate (Int.toNat (ln sx)) ((0 : Int)))) c5] ⟨⟨rfl, rfl⟩, trivial⟩, _, _, _, H, rfl, X14.ext, o9, ex10, f11⟩

theorem spec_eFails_w (ex : Edit) (values : List Int) (Q : Bool → Prop) (H : spec_eFails ex values Q) (w : World) {vx : Value} {hx : PH} (r : RS hx vx ex.Sets) (ex1 : Sub hx w) {vx2 : Value} {hx3 : PH} (r4 : RS hx3 vx2 values) (ex5 : Sub hx3 w) :
  CallsTo Try.prog 202 #[.agg #[vx], vx2] w fun v w' => ∃ r0, Q r0 ∧ v = .bool r0 ∧ Ext w w' := by
 obtain ⟨a, c, rfl⟩ := r.shape
 obtain ⟨a6, c7, rfl⟩ := r4.shape
 refine enter (args := [.agg #[sl a ex.Sets c], sl a6 values c7]) 25 Try.func202 rfl rfl rfl ?_
 refine W_forget [(0, .agg #[sl a ex.Sets c]), (1, sl a6 values c7)] ⟨rfl, rfl, trivial⟩ fun ρ => ?_
 have X := But.refl emp w
 refine W_seq (W_region ?_)
 refine LP_box 0 (cs := [sl a ex.Sets c]) rfl rfl rfl rfl rfl fun b wx x ex8 f => ?_
 refine LP_ev ok 1 [(4, .bool false)] 2 rfl rfl ?_
 refine LP_end _ rfl (W_seq ?_)
 refine W_seq (W_region ?_)
 refine LP_ev ok 0 [(7, sl a6 values c7), (8, I (ln values)), (9, I 0)] 3 rfl rfl ?_
 refine LP_end _ rfl ?_
 refine W_block ?_
 obtain ⟨J, m, Hx, H⟩ := H
 refine W_loop (S := Int) (fun s ρ' w' => J s ∧ ∃ (ρ : Env), ρ' = setAll [(2, pb b), (7, sl a6 values c7), (8, I (ln values)), (9, I s)] ρ ∧ wx = w') (fun s => m s) 0 ⟨Hx, _, env_eq ⟨rfl, rfl, rfl, rfl, trivial⟩, rfl⟩ ?_
 rintro x9 _ _ ⟨Hi, ρ, rfl, rfl⟩
 have H := H x9 Hi
 refine W_seq (W_region ?_)
 refine LP_ev ok 0 [(10, .bool (decide (x9 < (ln values))))] 1 rfl rfl ?_
 refine LP_end _ rfl (W_seq ?_)
 refine W_cond (decide (x9 < (ln values))) rfl (fun hc => ?_) (fun hc => ?_)
 ·have H := H.1 hc
  refine W_skip ?_
  refine W_seq ?_
  refine W_block ?_
  refine W_seq (W_region ?_)
  refine LP_ev ok 0 [(11, I x9)] 1 rfl rfl ?_
  obtain ⟨x11, hi, hx12, H⟩ := H
  refine LP_index 1 rfl rfl rfl Try.underlying31 ti_3 rfl rfl r4 hi hx12 fun a13 cs r14 d => ?_
  refine LP_load 2 rfl rfl rfl ti_3 ag_3 rfl r14 d (ex5.ext x) fun vx16 r17 => ?_
  obtain rfl := r17.int
  refine LP_ev ok 3 [(5, I x9), (6, I x11)] 5 rfl rfl ?_
  refine LP_end _ rfl (W_seq (W_region ?_))
  refine LP_ev ok 0 [(14, pb b)] 1 rfl rfl ?_
  refine LP_ldbox 1 (v := sl a ex.Sets c) rfl rfl rfl ti_31 ag_31 (fun _ => rfl) rfl ex8 rfl rfl ?_
  refine LP_ev ok 2 [(16, I x9)] 3 rfl rfl ?_
  obtain ⟨x18, hi19, hx20, H⟩ := H
  refine LP_index 3 rfl rfl rfl Try.underlying31 ti_3 rfl rfl r hi19 hx20 fun a21 cs22 r23 d24 => ?_
  refine LP_load 4 rfl rfl rfl ti_3 ag_3 rfl r23 d24 (ex1.ext x) fun vx26 r27 => ?_
  obtain rfl := r27.int
  refine LP_ev ok 5 [(19, I x11), (20, .int .u64 (IntKind.u64.wrap (x11)))] 7 rfl rfl ?_
  obtain ⟨hz, H⟩ := H
  refine LP_val 7 _ rfl rfl (ex_shr rfl rfl rfl hz _) ?_
  refine LP_ev ok 8 [(22, I (bits .and .i64 (shr .i64 x18 (IntKind.u64.wrap (x11))) 1)), (23, .bool ((bits .and .i64 (shr .i64 x18 (IntKind.u64.wrap (x11))) 1) == 0))] 10 rfl rfl ?_
  refine LP_end _ rfl ?_
  refine W_cond ((bits .and .i64 (shr .i64 x18 (IntKind.u64.wrap (x11))) 1) == 0) rfl (fun hc28 => ?_) (fun hc28 => ?_)
  ·have H := H.1 hc28
   refine W_seq (W_region ?_)
   refine LP_ev ok 0 [(4, .bool false)] 1 rfl rfl ?_
   refine LP_end _ rfl (W_ret ?_)
   exact ⟨_, Ret_of [.bool false] ⟨⟨rfl, rfl⟩, trivial⟩, _, H, rfl, (X.stepx x).ext⟩
  have H := H.2 hc28
  refine W_skip ?_
  refine W_region ?_
  refine LP_ev ok 0 [(24, I (wr (x9 + 1))), (9, I (wr (x9 + 1)))] 2 rfl rfl ?_
  exact LP_end _ rfl ⟨wr (x9 + 1), ⟨H.1, _, env_eq ⟨rfl, rfl, rfl, rfl, trivial⟩, rfl⟩, H.2⟩
 have H := H.2 hc
 refine W_exit ?_
 refine (if_pos rfl).mpr ?_
 refine W_seq (W_region ?_)
 refine LP_ev ok 0 [(4, .bool true)] 1 rfl rfl ?_
 refine LP_end _ rfl (W_ret ?_)
 exact ⟨_, Ret_of [.bool true] ⟨⟨rfl, rfl⟩, trivial⟩, _, H, rfl, (X.stepx x).ext⟩

theorem spec_eFailed_w (l : List Edit) (values : List Int) (Q : (List Int) → Prop) (H : spec_eFailed l values Q) (w : World) {vx : Value} {hx : PH} (r : RS hx vx l) (ex : Sub hx w) {vx1 : Value} {hx2 : PH} (r3 : RS hx2 vx1 values) (ex4 : Sub hx2 w) :
  CallsTo Try.prog 143 #[vx, vx1] w fun v w' => ∃ r0 u0 g0, Q r0 ∧ v = u0 ∧ Ext w w' ∧ OS 3 g0 emp u0 r0 ∧ Sub g0 w' ∧ Fresh w.heap.size g0 := by
 obtain ⟨a, c, rfl⟩ := r.shape
 obtain ⟨a5, c6, rfl⟩ := r3.shape
 refine enter (args := [sl a l c, sl a5 values c6]) 24 Try.func143 rfl rfl rfl ?_
 refine W_forget [(0, sl a l c), (1, sl a5 values c6)] ⟨rfl, rfl, trivial⟩ fun ρ => ?_
 have X := But.refl emp w
 refine W_seq (W_region ?_)
 refine LP_ev ok 0 [(4, .slice none 0 0)] 1 rfl rfl ?_
 refine LP_end _ rfl (W_seq (W_region ?_))
 refine LP_ev ok 0 [(5, .slice none 0 0)] 1 rfl rfl ?_
 refine LP_end _ rfl (W_seq ?_)
 refine W_seq (W_region ?_)
 refine LP_ev ok 0 [(8, sl a l c), (9, I (ln l)), (10, I 0)] 3 rfl rfl ?_
 refine LP_end _ rfl ?_
 refine W_block ?_
 obtain ⟨J, m, Hx, H⟩ := H
 refine W_loop (S := (List Int) × Int) (fun s ρ' w' => J s.1 s.2 ∧ ∃ (ρ : Env) (vx7 : Value) (hx8 : PH), ρ' = setAll [(1, sl a5 values c6), (5, vx7), (8, sl a l c), (9, I (ln l)), (10, I s.2)] ρ ∧ But emp w w' ∧ OS 3 hx8 emp vx7 s.1 ∧ Sub hx8 w' ∧ Fresh w.heap.size hx8 ∧ Sub hx w' ∧ Sub hx2 w' ∧ Dj hx8 hx ∧ Dj hx8 hx2) (fun s => m s.1 s.2) ([], 0) ⟨Hx, _, .slice none 0 0, emp, env_eq ⟨rfl, rfl, rfl, rfl, rfl, trivial⟩, X, OS.nil, (emp_sub _), (emp_fresh _), ex, ex4, (fun _ => .inl rfl), (fun _ => .inl rfl)⟩ ?_
 rintro ⟨out, x⟩ _ wx ⟨Hi, ρ, vx7, hx8, rfl, HF⟩
 revert HF
 refine bb8 fun X15 o ex9 f ex10 ex11 d d14 => ?_
 have H := H out x Hi
 obtain ⟨a12, c13, rfl⟩ := o.shape
 refine W_seq (W_region ?_)
 refine LP_ev ok 0 [(11, .bool (decide (x < (ln l))))] 1 rfl rfl ?_
 refine LP_end _ rfl (W_seq ?_)
 refine W_cond (decide (x < (ln l))) rfl (fun hc => ?_) (fun hc => ?_)
 ·have H := H.1 hc
  refine W_skip ?_
  obtain ⟨k, hk, H⟩ := jn_elim H
  refine W_join2 (S := (List Int)) (fun s ρ' w' => k s ∧ ∃ (ρ : Env) (vx17 : Value) (hx18 : PH), ρ' = setAll [(1, sl a5 values c6), (5, vx17), (8, sl a l c), (9, I (ln l)), (10, I x)] ρ ∧ But emp w w' ∧ OS 3 hx18 emp vx17 s ∧ Sub hx18 w' ∧ Fresh w.heap.size hx18 ∧ Sub hx w' ∧ Sub hx2 w' ∧ Dj hx18 hx ∧ Dj hx18 hx2) ?_ ?_
  ·refine W_block ?_
   refine W_seq (W_region ?_)
   refine LP_ev ok 0 [(12, I x)] 1 rfl rfl ?_
   obtain ⟨x30, hi, hx31, H⟩ := H
   refine LP_index 1 rfl rfl rfl Try.underlying25 ti_33 rfl rfl r hi hx31 fun a32 cs r33 d34 => ?_
   have d35 := d34
   obtain ⟨u, rfl, r36⟩ := Edit_rd d35
   obtain ⟨a37, c38, rfl⟩ := r36.shape
   refine LP_load 2 rfl rfl rfl ti_33 ag_33 rfl r33 d34 ex10 fun vx39 r40 => ?_
   obtain ⟨u41, rfl, r42⟩ := Edit_rv r40
   obtain ⟨a43, c44, rfl⟩ := r42.shape
   refine LP_alloc 3 rfl rfl rfl ti_33 rfl fun b wx45 x46 ex47 f48 => ?_
   refine LP_ev ok 4 [(6, I x)] 5 rfl rfl ?_
   refine LP_stbox 5 (vs := [sl a43 x30.Sets c44]) (cs' := [sl a43 x30.Sets c44]) rfl rfl rfl ti_33 rfl rfl rfl rfl rfl ex47 rfl rfl fun wx49 ex50 y => ?_
   refine LP_end _ rfl (W_seq (W_region ?_))
   refine LP_ldbox 0 (v := .agg #[sl a43 x30.Sets c44]) rfl rfl rfl ti_33 ag_33 (fun h => by cases h) rfl ex50 rfl rfl ?_
   refine LP_ev ok 1 [(16, sl a5 values c6)] 2 rfl rfl ?_
   have ex52 := ((ex10.ext x46).but y (Dj.of_fresh ex10 f48).symm)
   have ex53 := ((ex11.ext x46).but y (Dj.of_fresh ex11 f48).symm)
   refine LP_call 2 rfl rfl rfl cal_202 rfl (spec_eFails_w _ _ _ H wx49 r42 ex52 r3 ex53) ?_
   rintro _ wx54 ⟨r51, H, rfl, x55⟩
   refine LP_end _ rfl ?_
   refine W_cond (r51) rfl (fun hc56 => ?_) (fun hc56 => ?_)
   ·have H := H.1 hc56
    refine W_region ?_
    refine LP_ev ok 0 [(18, sl a12 out c13), (19, I x)] 2 rfl rfl ?_
    refine LP_lit (α := Int) (g := emp) 2 (vs := [I x]) (xs := [x]) rfl rfl rfl Try.underlying31 ti_3 rfl rfl ⟨⟨_, rfl, rfl⟩, trivial⟩ rfl rfl fun hx57 vx58 wx59 x60 o61 ex62 f63 => ?_
    obtain ⟨a64, c65, rfl⟩ := o61.shape
    have xc := (x55.trans x60)
    obtain ⟨hb, H⟩ := H
    refine LP_appendf (α := Int) 3 rfl rfl rfl Try.underlying31 ti_3 rfl rfl rfl o (((ex9.ext x46).but y (Dj.of_fresh ex9 f48).symm).ext xc) o61.readf ex62 (by first | omega | (simp only [ln] at *; omega)) (by first | omega | (simp only [ln] at *; omega)) fun hx67 vx68 wx69 o70 ex71 y72 dm => ?_
    obtain ⟨a73, c74, rfl⟩ := o70.shape
    refine LP_ev ok 4 [(5, .slice a73 (List.length (out ++ ([x]))) c74)] 5 rfl rfl ?_
    refine LP_end _ rfl ?_
    have f75 := f48.mono X15.size
    have f77 := dm.fresh f (((X15.stepx x46).step y (f75.dom _)).stepx xc).size
    exact ⟨out ++ ([x]), H, _, .slice a73 (List.length (out ++ ([x]))) c74, hx67, env_eq ⟨rfl, rfl, rfl, rfl, rfl, trivial⟩, ((((X15.stepx x46).step y (f75.dom _)).stepx xc).step y72 (f.dom _)), o70, ex71, f77, ((ex52.ext xc).but y72 d), ((ex53.ext xc).but y72 d14), (DomLe.dj dm d (ex52.ext xc)), (DomLe.dj dm d14 (ex53.ext xc))⟩
   have H := H.2 hc56
   refine W_skip ?_
   have f83 := f48.mono X15.size
   exact ⟨out, H, _, sl a12 out c13, hx8, env_eq ⟨rfl, rfl, rfl, rfl, rfl, trivial⟩, (((X15.stepx x46).step y (f83.dom _)).stepx x55), o, (((ex9.ext x46).but y (Dj.of_fresh ex9 f48).symm).ext x55), f, (ex52.ext x55), (ex53.ext x55), d, d14⟩
  rintro out16 _ wx22 ⟨H, ρ, vx17, hx18, rfl, HF⟩
  revert HF
  refine bb8 fun X29 o19 ex20 f21 ex23 ex24 d27 d28 => ?_
  subst hk
  obtain ⟨a25, c26, rfl⟩ := o19.shape
  refine W_region ?_
  refine LP_ev ok 0 [(22, I (wr (x + 1))), (10, I (wr (x + 1)))] 2 rfl rfl ?_
  exact LP_end _ rfl ⟨(out16, wr (x + 1)), ⟨H.1, _, sl a25 out16 c26, hx18, env_eq ⟨rfl, rfl, rfl, rfl, rfl, trivial⟩, X29, o19, ex20, f21, ex23, ex24, d27, d28⟩, H.2⟩
 have H := H.2 hc
 refine W_exit ?_
 refine (if_pos rfl).mpr ?_
 refine W_seq (W_region ?_)
 refine LP_ev ok 0 [(23, sl a12 out c13), (4, sl a12 out c13)] 2 rfl rfl ?_
 refine LP_end _ rfl (W_ret ?_)
 exact ⟨_, Ret_of [sl a12 out c13] ⟨⟨rfl, rfl⟩, trivial⟩, _, _, _, H, rfl, X15.ext, o, ex9, f⟩

theorem spec_eSearch_free_w (x : ESearch) (sets : List Int) (Q : Bool → Prop) (H : spec_eSearch_free x sets Q) (w : World) {vx : Value} {hx : PH} (r : RS hx vx x.S) (ex : Sub hx w) {vx1 : Value} {hx2 : PH} (r3 : RS hx2 vx1 x.Passing) (ex4 : Sub hx2 w) {vx7 : Value} {hx8 : PH} (r9 : RS hx8 vx7 x.Out) (ex10 : Sub hx8 w) {b : Nat} (ex13 : Sub (bx b 162 [vx, vx1, I x.V, vx7]) w) {vx14 : Value} {hx15 : PH} (r16 : RS hx15 vx14 sets) (ex17 : Sub hx15 w) :
  CallsTo Try.prog 203 #[pb b, vx14] w fun v w' => ∃ r0, Q r0 ∧ v = .bool r0 ∧ Ext w w' := by
 obtain ⟨a, c, rfl⟩ := r.shape
 obtain ⟨a5, c6, rfl⟩ := r3.shape
 obtain ⟨a11, c12, rfl⟩ := r9.shape
 obtain ⟨a18, c19, rfl⟩ := r16.shape
 refine enter (args := [pb b, sl a18 sets c19]) 21 Try.func203 rfl rfl rfl ?_
 refine W_forget [(0, pb b), (1, sl a18 sets c19)] ⟨rfl, rfl, trivial⟩ fun ρ => ?_
 have X := But.refl emp w
 refine W_seq (W_region ?_)
 refine LP_ev ok 0 [(4, .bool false)] 1 rfl rfl ?_
 refine LP_end _ rfl (W_seq ?_)
 refine W_seq (W_region ?_)
 refine LP_ev ok 0 [(7, pb b), (8, pb b), (9, .pointer (some ⟨b, 1, none⟩))] 3 rfl rfl ?_
 refine LP_ldbox 3 (v := sl a5 x.Passing c6) rfl rfl rfl ti_50 ag_50 (fun _ => rfl) rfl ex13 rfl rfl ?_
 refine LP_ev ok 4 [(11, I (ln x.Passing)), (12, I 0)] 6 rfl rfl ?_
 refine LP_end _ rfl ?_
 refine W_block ?_
 obtain ⟨J, m, Hx, H⟩ := H
 refine W_loop (S := Int) (fun s ρ' w' => J s ∧ ∃ (ρ : Env), ρ' = setAll [(1, sl a18 sets c19), (10, sl a5 x.Passing c6), (11, I (ln x.Passing)), (12, I s)] ρ ∧ But emp w w' ∧ Sub hx2 w' ∧ Sub hx15 w') (fun s => m s) 0 ⟨Hx, _, env_eq ⟨rfl, rfl, rfl, rfl, trivial⟩, X, ex4, ex17⟩ ?_
 rintro x20 _ wx ⟨Hi, ρ, rfl, X23, ex21, ex22⟩
 have H := H x20 Hi
 refine W_seq (W_region ?_)
 refine LP_ev ok 0 [(13, .bool (decide (x20 < (ln x.Passing))))] 1 rfl rfl ?_
 refine LP_end _ rfl (W_seq ?_)
 refine W_cond (decide (x20 < (ln x.Passing))) rfl (fun hc => ?_) (fun hc => ?_)
 ·have H := H.1 hc
  refine W_skip ?_
  refine W_seq ?_
  refine W_block ?_
  refine W_seq (W_region ?_)
  obtain ⟨x24, hi, hx25, H⟩ := H
  refine LP_index 0 rfl rfl rfl Try.underlying50 ti_31 rfl rfl r3 hi hx25 fun a26 cs r27 d => ?_
  refine LP_load 1 rfl rfl rfl ti_31 ag_31 rfl r27 d ex21 fun vx28 r29 => ?_
  have r32 := r29.slice
  obtain ⟨a30, c31, rfl⟩ := r32.shape
  refine LP_ev ok 2 [(6, sl a30 x24 c31)] 3 rfl rfl ?_
  refine LP_end _ rfl (W_seq (W_region ?_))
  refine LP_ev ok 0 [(16, sl a18 sets c19), (17, .agg #[sl a18 sets c19]), (18, sl a30 x24 c31)] 3 rfl rfl ?_
  refine LP_call 3 rfl rfl rfl cal_202 rfl (spec_eFails_w _ _ _ H wx r16 ex22 r32 ex21) ?_
  rintro _ wx34 ⟨r33, H, rfl, x35⟩
  refine LP_end _ rfl ?_
  refine W_cond (r33) rfl (fun hc36 => ?_) (fun hc36 => ?_)
  ·have H := H.1 hc36
   refine W_seq (W_region ?_)
   refine LP_ev ok 0 [(4, .bool false)] 1 rfl rfl ?_
   refine LP_end _ rfl (W_ret ?_)
   exact ⟨_, Ret_of [.bool false] ⟨⟨rfl, rfl⟩, trivial⟩, _, H, rfl, (X23.stepx x35).ext⟩
  have H := H.2 hc36
  refine W_skip ?_
  refine W_region ?_
  refine LP_ev ok 0 [(20, I (wr (x20 + 1))), (12, I (wr (x20 + 1)))] 2 rfl rfl ?_
  exact LP_end _ rfl ⟨wr (x20 + 1), ⟨H.1, _, env_eq ⟨rfl, rfl, rfl, rfl, trivial⟩, (X23.stepx x35), (ex21.ext x35), (ex22.ext x35)⟩, H.2⟩
 have H := H.2 hc
 refine W_exit ?_
 refine (if_pos rfl).mpr ?_
 refine W_seq (W_region ?_)
 refine LP_ev ok 0 [(4, .bool true)] 1 rfl rfl ?_
 refine LP_end _ rfl (W_ret ?_)
 exact ⟨_, Ret_of [.bool true] ⟨⟨rfl, rfl⟩, trivial⟩, _, H, rfl, X23.ext⟩

theorem spec_eSearch_grows_w (x : ESearch) (sets : List Int) (Q : Bool → Prop) (H : spec_eSearch_grows x sets Q) (w : World) {vx : Value} {hx : PH} (r : RS hx vx x.S) (ex : Sub hx w) {vx1 : Value} {hx2 : PH} (r3 : RS hx2 vx1 x.Passing) (ex4 : Sub hx2 w) {vx7 : Value} {hx8 : PH} (r9 : RS hx8 vx7 x.Out) (ex10 : Sub hx8 w) {b : Nat} (ex13 : Sub (bx b 162 [vx, vx1, I x.V, vx7]) w) {vx14 : Value} {hx15 : PH} (r16 : RS hx15 vx14 sets) (ex17 : Sub hx15 w) :
  CallsTo Try.prog 204 #[pb b, vx14] w fun v w' => ∃ r0, Q r0 ∧ v = .bool r0 ∧ Ext w w' := by
 obtain ⟨a, c, rfl⟩ := r.shape
 obtain ⟨a5, c6, rfl⟩ := r3.shape
 obtain ⟨a11, c12, rfl⟩ := r9.shape
 obtain ⟨a18, c19, rfl⟩ := r16.shape
 refine enter (args := [pb b, sl a18 sets c19]) 49 Try.func204 rfl rfl rfl ?_
 refine W_forget [(0, pb b), (1, sl a18 sets c19)] ⟨rfl, rfl, trivial⟩ fun ρ => ?_
 have X := But.refl emp w
 refine W_seq (W_region ?_)
 refine LP_ev ok 0 [(4, .bool false)] 1 rfl rfl ?_
 refine LP_end _ rfl (W_seq ?_)
 refine W_seq (W_region ?_)
 refine LP_ev ok 0 [(8, sl a18 sets c19), (9, I (ln sets)), (10, I 0)] 3 rfl rfl ?_
 refine LP_end _ rfl ?_
 refine W_block ?_
 obtain ⟨J, m, Hx, H⟩ := H
 refine W_loop (S := Int) (fun s ρ' w' => J s ∧ ∃ (ρ : Env), ρ' = setAll [(0, pb b), (1, sl a18 sets c19), (9, I (ln sets)), (10, I s)] ρ ∧ But emp w w' ∧ Sub hx w' ∧ Sub hx2 w' ∧ Sub hx8 w' ∧ Sub (bx b 162 [sl a x.S c, sl a5 x.Passing c6, I x.V, sl a11 x.Out c12]) w' ∧ Sub hx15 w') (fun s => m s) 0 ⟨Hx, _, env_eq ⟨rfl, rfl, rfl, rfl, trivial⟩, X, ex, ex4, ex10, ex13, ex17⟩ ?_
 rintro x20 _ wx ⟨Hi, ρ, rfl, HF⟩
 revert HF
 refine bb6 fun X26 ex21 ex22 ex23 ex24 ex25 => ?_
 have H := H x20 Hi
 refine W_seq (W_region ?_)
 refine LP_ev ok 0 [(11, .bool (decide (x20 < (ln sets))))] 1 rfl rfl ?_
 refine LP_end _ rfl (W_seq ?_)
 refine W_cond (decide (x20 < (ln sets))) rfl (fun hc => ?_) (fun hc => ?_)
 ·have H := H.1 hc
  refine W_skip ?_
  refine W_seq ?_
  refine W_block ?_
  refine W_seq (W_region ?_)
  refine LP_ev ok 0 [(12, I x20), (5, I x20)] 2 rfl rfl ?_
  refine LP_end _ rfl (W_seq (W_region ?_))
  refine LP_ev ok 0 [(6, I 0)] 1 rfl rfl ?_
  refine LP_end _ rfl ?_
  refine W_block ?_
  obtain ⟨J34, m35, Hx36, H⟩ := H
  refine W_loop (S := Int) (fun s ρ' w' => J34 s ∧ ∃ (ρ : Env), ρ' = setAll [(0, pb b), (1, sl a18 sets c19), (5, I x20), (6, I s), (9, I (ln sets)), (10, I x20)] ρ ∧ But emp w w' ∧ Sub hx w' ∧ Sub hx2 w' ∧ Sub hx8 w' ∧ Sub (bx b 162 [sl a x.S c, sl a5 x.Passing c6, I x.V, sl a11 x.Out c12]) w' ∧ Sub hx15 w') (fun s => m35 s) 0 ⟨Hx36, _, env_eq ⟨rfl, rfl, rfl, rfl, rfl, rfl, trivial⟩, X26, ex21, ex22, ex23, ex24, ex25⟩ ?_
  rintro level _ wx27 ⟨Hi, ρ, rfl, HF⟩
  revert HF
  refine bb6 fun X33 ex28 ex29 ex30 ex31 ex32 => ?_
  have H := H level Hi
  refine W_seq ?_
  refine W_seq (W_region ?_)
  refine LP_ev ok 0 [(13, I level), (14, pb b), (15, pb b), (16, pb b)] 4 rfl rfl ?_
  refine LP_ldbox 4 (v := sl a x.S c) rfl rfl rfl ti_24 ag_24 (fun _ => rfl) rfl ex31 rfl rfl ?_
  refine LP_ev ok 5 [(18, I x20)] 6 rfl rfl ?_
  obtain ⟨x38, hi, hx39, H⟩ := H
  refine LP_index 6 rfl rfl rfl Try.underlying24 ti_167 rfl rfl r hi hx39 fun a40 cs r41 d => ?_
  refine LP_ev ok 7 [(20, .pointer (some (Addr.add a40 1)))] 8 rfl rfl ?_
  refine LP_ldfld (x := x38) (off := 1) 8 (v := I x38.Levels) rfl rfl rfl ti_3 ag_3 (fun _ => rfl) rfl r41 d ex28 rfl rfl ?_
  refine LP_ev ok 9 [(22, .bool (decide (level < x38.Levels)))] 10 rfl rfl ?_
  refine LP_end _ rfl ?_
  refine W_cond (decide (level < x38.Levels)) rfl (fun hc42 => ?_) (fun hc42 => ?_)
  ·have H := H.1 hc42
   refine W_skip ?_
   obtain ⟨k, hk, H⟩ := jn_elim H
   refine W_join2 (S := Unit) (fun s ρ' w' => k ∧ ∃ (ρ : Env), ρ' = setAll [(0, pb b), (1, sl a18 sets c19), (5, I x20), (6, I level), (9, I (ln sets)), (10, I x20)] ρ ∧ But emp w w' ∧ Sub hx w' ∧ Sub hx2 w' ∧ Sub hx8 w' ∧ Sub (bx b 162 [sl a x.S c, sl a5 x.Passing c6, I x.V, sl a11 x.Out c12]) w' ∧ Sub hx15 w') ?_ ?_
   ·refine W_block ?_
    refine W_seq ?_
    refine W_seq (W_region ?_)
    refine LP_ev ok 0 [(25, sl a18 sets c19), (26, I x20)] 2 rfl rfl ?_
    obtain ⟨x50, hi51, hx52, H⟩ := H
    refine LP_index 2 rfl rfl rfl Try.underlying31 ti_3 rfl rfl r16 hi51 hx52 fun a53 cs54 r55 d56 => ?_
    refine LP_load 3 rfl rfl rfl ti_3 ag_3 rfl r55 d56 ex32 fun vx57 r58 => ?_
    obtain rfl := r58.int
    refine LP_ev ok 4 [(29, I level), (30, .int .u64 (IntKind.u64.wrap (level)))] 6 rfl rfl ?_
    obtain ⟨hz, H⟩ := H
    refine LP_val 6 _ rfl rfl (ex_shr rfl rfl rfl hz _) ?_
    refine LP_ev ok 7 [(32, I (bits .and .i64 (shr .i64 x50 (IntKind.u64.wrap (level))) 1)), (33, .bool ((bits .and .i64 (shr .i64 x50 (IntKind.u64.wrap (level))) 1) == 1))] 9 rfl rfl ?_
    refine LP_end _ rfl ?_
    refine W_cond ((bits .and .i64 (shr .i64 x50 (IntKind.u64.wrap (level))) 1) == 1) rfl (fun hc59 => ?_) (fun hc59 => ?_)
    ·have H := H.1 hc59
     refine W_exit ?_
     refine (if_pos rfl).mpr ?_
     exact ⟨(), H, _, env_eq ⟨rfl, rfl, rfl, rfl, rfl, rfl, trivial⟩, X33, ex28, ex29, ex30, ex31, ex32⟩
    have H := H.2 hc59
    refine W_skip ?_
    refine W_seq (W_region ?_)
    refine LP_ev ok 0 [(34, sl a18 sets c19)] 1 rfl rfl ?_
    refine LP_call 1 rfl rfl rfl cal_183 rfl (spec_l1Own_w _ _ H wx27 r16 ex32) ?_
    rintro _ wx61 ⟨r60, vx63, hx64, H, rfl, x62, o, ex65, f⟩
    obtain ⟨a66, c67, rfl⟩ := o.shape
    refine LP_ev ok 2 [(7, sl a66 r60 c67)] 3 rfl rfl ?_
    refine LP_end _ rfl (W_seq (W_region ?_))
    refine LP_ev ok 0 [(36, sl a66 r60 c67), (37, I x20)] 2 rfl rfl ?_
    obtain ⟨x68, hi69, hx70, H⟩ := H
    refine LP_index 2 rfl rfl rfl Try.underlying31 ti_3 rfl rfl o.readf hi69 hx70 fun a71 cs72 r73 d74 => ?_
    refine LP_load 3 rfl rfl rfl ti_3 ag_3 rfl r73 d74 ex65 fun vx75 r76 => ?_
    obtain rfl := r76.int
    refine LP_ev ok 4 [(40, I level), (41, .int .u64 (IntKind.u64.wrap (level)))] 6 rfl rfl ?_
    obtain ⟨hz77, H⟩ := H
    refine LP_val 6 _ rfl rfl (ex_shl rfl rfl rfl hz77 _) ?_
    refine LP_ev ok 7 [(43, I (bits .or .i64 x68 (shl .i64 1 (IntKind.u64.wrap (level)))))] 8 rfl rfl ?_
    obtain ⟨hi78, hl, H⟩ := H
    refine LP_indexw (v := sl a66 r60 c67) 8 rfl rfl rfl Try.underlying31 ti_3 rfl rfl o hi78 hl fun a79 wa => ?_
    refine LP_set 9 rfl rfl rfl rfl rfl wa (Le.refl emp) ⟨_, rfl, rfl⟩ ex65 fun hx80 wx81 o82 ex83 y dm => ?_
    refine LP_end _ rfl ?_
    try refine W_forget [(0, pb b), (1, sl a18 sets c19), (5, I x20), (6, I level), (7, sl a66 r60 c67), (9, I (ln sets)), (10, I x20)] ⟨rfl, rfl, rfl, rfl, rfl, rfl, rfl, trivial⟩ fun ρ => ?_
    refine W_seq (W_region ?_)
    refine LP_ev ok 0 [(45, pb b), (46, sl a66 r60 c67)] 2 rfl rfl ?_
    have ex85 := ((ex28.ext x62).but y (Dj.of_fresh ex28 f).symm)
    have ex86 := ((ex29.ext x62).but y (Dj.of_fresh ex29 f).symm)
    have ex87 := ((ex30.ext x62).but y (Dj.of_fresh ex30 f).symm)
    have ex88 := ((ex31.ext x62).but y (Dj.of_fresh ex31 f).symm)
    refine LP_call 2 rfl rfl rfl cal_203 rfl (spec_eSearch_free_w _ _ _ H wx81 r ex85 r3 ex86 r9 ex87 ex88 o82.readf ex83) ?_
    rintro _ wx89 ⟨r84, H, rfl, x90⟩
    refine LP_end _ rfl ?_
    refine W_cond (r84) rfl (fun hc91 => ?_) (fun hc91 => ?_)
    ·have H := H.1 hc91
     refine W_seq (W_region ?_)
     refine LP_ev ok 0 [(4, .bool true)] 1 rfl rfl ?_
     refine LP_end _ rfl (W_ret ?_)
     have f92 := f.mono X33.size
     exact ⟨_, Ret_of [.bool true] ⟨⟨rfl, rfl⟩, trivial⟩, _, H, rfl, (((X33.stepx x62).step y (f92.dom _)).stepx x90).ext⟩
    have H := H.2 hc91
    refine W_skip ?_
    have f94 := f.mono X33.size
    exact ⟨(), H, _, env_eq ⟨rfl, rfl, rfl, rfl, rfl, rfl, trivial⟩, (((X33.stepx x62).step y (f94.dom _)).stepx x90), (ex85.ext x90), (ex86.ext x90), (ex87.ext x90), (ex88.ext x90), (((ex32.ext x62).but y (Dj.of_fresh ex32 f).symm).ext x90)⟩
   rintro ⟨⟩ _ wx43 ⟨H, ρ, rfl, HF⟩
   revert HF
   refine bb6 fun X49 ex44 ex45 ex46 ex47 ex48 => ?_
   subst hk
   refine W_region ?_
   refine LP_ev ok 0 [(23, I level), (24, I (wr (level + 1))), (6, I (wr (level + 1)))] 3 rfl rfl ?_
   exact LP_end _ rfl ⟨wr (level + 1), ⟨H.1, _, env_eq ⟨rfl, rfl, rfl, rfl, rfl, rfl, trivial⟩, X49, ex44, ex45, ex46, ex47, ex48⟩, H.2⟩
  have H := H.2 hc42
  refine W_exit ?_
  refine (if_pos rfl).mpr ?_
  refine W_region ?_
  refine LP_ev ok 0 [(48, I (wr (x20 + 1))), (10, I (wr (x20 + 1)))] 2 rfl rfl ?_
  exact LP_end _ rfl ⟨wr (x20 + 1), ⟨H.1, _, env_eq ⟨rfl, rfl, rfl, rfl, trivial⟩, X33, ex28, ex29, ex30, ex31, ex32⟩, H.2⟩
 have H := H.2 hc
 refine W_exit ?_
 refine (if_pos rfl).mpr ?_
 refine W_seq (W_region ?_)
 refine LP_ev ok 0 [(4, .bool false)] 1 rfl rfl ?_
 refine LP_end _ rfl (W_ret ?_)
 exact ⟨_, Ret_of [.bool false] ⟨⟨rfl, rfl⟩, trivial⟩, _, H, rfl, X26.ext⟩

theorem spec_eSearch_run_w (x : ESearch) (k : Int) (sets : List Int) (Q : (List Edit) → Int → Prop) (H : spec_eSearch_run x k sets Q) (w : World) {vx : Value} {hx : PH} (r : RS hx vx x.S) (ex : Sub hx w) {vx1 : Value} {hx2 : PH} (r3 : RS hx2 vx1 x.Passing) (ex4 : Sub hx2 w) {vx7 : Value} {hx8 : PH} (r9 : OD hx8 vx7 x.Out) (ex10 : Sub hx8 w) {b : Nat} (ex13 : Sub (bx b 162 [vx, vx1, I x.V, vx7]) w) {vx14 : Value} {hx15 : PH} (r16 : RS hx15 vx14 sets) (ex17 : Sub hx15 w) (d : Dj hx8 (bx b 162 [vx, vx1, I x.V, vx7])) (d20 : Dj hx8 hx) (d21 : Dj hx8 hx2) (d22 : Dj hx8 hx15) (d23 : Dj (bx b 162 [vx, vx1, I x.V, vx7]) hx) (d24 : Dj (bx b 162 [vx, vx1, I x.V, vx7]) hx2) (d25 : Dj (bx b 162 [vx, vx1, I x.V, vx7]) hx15) :
  CallsTo Try.prog 144 #[pb b, I k, vx14] w fun v w' => ∃ m1 m2_0 v1_ k1, Q m1 m2_0 ∧ v = .tuple #[] ∧ But (un hx8 (bx b 162 [vx, vx1, I x.V, vx7])) w w' ∧ OD k1 v1_ m1 ∧ Sub k1 w' ∧ DomLe (un hx8 (bx b 162 [vx, vx1, I x.V, vx7])) w.heap.size k1 ∧ Sub (bx b 162 [vx, vx1, I m2_0, v1_]) w' ∧ Dj k1 (bx b 162 [vx, vx1, I m2_0, v1_]) := by
 obtain ⟨S, mu, H0, HS⟩ := H
 have key : ∀ (m : Nat) (x : ESearch) (k : Int) (sets : List Int) (Q : (List Edit) → Int → Prop), S x k sets Q → mu x k sets < m → ∀ (w : World) {vx : Value} {hx : PH} (r : RS hx vx x.S) (ex : Sub hx w) {vx1 : Value} {hx2 : PH} (r3 : RS hx2 vx1 x.Passing) (ex4 : Sub hx2 w) {vx7 : Value} {hx8 : PH} (r9 : OD hx8 vx7 x.Out) (ex10 : Sub hx8 w) {b : Nat} (ex13 : Sub (bx b 162 [vx, vx1, I x.V, vx7]) w) {vx14 : Value} {hx15 : PH} (r16 : RS hx15 vx14 sets) (ex17 : Sub hx15 w) (d : Dj hx8 (bx b 162 [vx, vx1, I x.V, vx7])) (d20 : Dj hx8 hx) (d21 : Dj hx8 hx2) (d22 : Dj hx8 hx15) (d23 : Dj (bx b 162 [vx, vx1, I x.V, vx7]) hx) (d24 : Dj (bx b 162 [vx, vx1, I x.V, vx7]) hx2) (d25 : Dj (bx b 162 [vx, vx1, I x.V, vx7]) hx15), CallsTo Try.prog 144 #[pb b, I k, vx14] w fun v w' => ∃ m1 m2_0 v1_ k1, Q m1 m2_0 ∧ v = .tuple #[] ∧ But (un hx8 (bx b 162 [vx, vx1, I x.V, vx7])) w w' ∧ OD k1 v1_ m1 ∧ Sub k1 w' ∧ DomLe (un hx8 (bx b 162 [vx, vx1, I x.V, vx7])) w.heap.size k1 ∧ Sub (bx b 162 [vx, vx1, I m2_0, v1_]) w' ∧ Dj k1 (bx b 162 [vx, vx1, I m2_0, v1_]) := by
  intro m
  induction m with
  | zero => intro x k sets Q _ hm; exact absurd hm (Nat.not_lt_zero _)
  | succ m ih =>
   intro x k sets Q H0 hm w vx hx r ex vx1 hx2 r3 ex4 vx7 hx8 r9 ex10 b ex13 vx14 hx15 r16 ex17 d d20 d21 d22 d23 d24 d25
   have H := HS x k sets Q H0
   obtain ⟨a, c, rfl⟩ := r.shape
   obtain ⟨a5, c6, rfl⟩ := r3.shape
   obtain ⟨a11, c12, rfl⟩ := r9.shape
   obtain ⟨a18, c19, rfl⟩ := r16.shape
   refine enter (args := [pb b, I k, sl a18 sets c19]) 68 Try.func144 rfl rfl rfl ?_
   refine W_forget [(0, pb b), (1, I k), (2, sl a18 sets c19)] ⟨rfl, rfl, rfl, trivial⟩ fun ρ => ?_
   obtain ⟨M, hM⟩ : ∃ M : PH, M = (un hx8 (bx b 162 [sl a x.S c, sl a5 x.Passing c6, I x.V, sl a11 x.Out c12])) := ⟨_, rfl⟩
   have D : Dom M hx8 := by subst hM; exact (Dom.l _ _)
   have D26 : Dom M (bx b 162 [sl a x.S c, sl a5 x.Passing c6, I x.V, sl a11 x.Out c12]) := by subst hM; exact (Dom.trans (Dom.r _ _) (Dom.refl _))
   have X := But.refl M w
   refine W_seq ?_
   refine W_seq (W_region ?_)
   refine LP_ev ok 0 [(8, I k), (9, pb b), (10, pb b), (11, pb b)] 4 rfl rfl ?_
   refine LP_ldbox 4 (v := sl a x.S c) rfl rfl rfl ti_24 ag_24 (fun _ => rfl) rfl ex13 rfl rfl ?_
   refine LP_ev ok 5 [(13, I (ln x.S)), (14, .bool (k == (ln x.S)))] 7 rfl rfl ?_
   refine LP_end _ rfl ?_
   refine W_cond (k == (ln x.S)) rfl (fun hc => ?_) (fun hc => ?_)
   ·have H := H.1 hc
    obtain ⟨k39, hk, H⟩ := jn_elim H
    refine W_join2 (S := (List Edit)) (fun s ρ' w' => k39 s ∧ ∃ (ρ : Env) (vx27 : Value) (hx28 : PH), ρ' = setAll [] ρ ∧ But M w w' ∧ OD hx28 vx27 s ∧ Sub hx28 w' ∧ DomLe M w.heap.size hx28 ∧ Sub hx w' ∧ Sub hx2 w' ∧ Sub (bx b 162 [sl a x.S c, sl a5 x.Passing c6, I x.V, vx27]) w' ∧ Dj hx28 hx ∧ Dj hx28 hx2 ∧ Dj hx28 (bx b 162 [sl a x.S c, sl a5 x.Passing c6, I x.V, vx27])) ?_ ?_
    ·obtain ⟨k48, hk49, H⟩ := jn_elim H
     refine W_join2 (S := Bool) (fun s ρ' w' => k48 s ∧ ∃ (ρ : Env), ρ' = setAll [(0, pb b), (2, sl a18 sets c19), (23, .bool s)] ρ ∧ But M w w' ∧ Sub hx w' ∧ Sub hx2 w' ∧ Sub hx8 w' ∧ Sub (bx b 162 [sl a x.S c, sl a5 x.Passing c6, I x.V, sl a11 x.Out c12]) w' ∧ Sub hx15 w') ?_ ?_
     ·refine W_region ?_
      refine LP_ev ok 0 [(15, pb b), (16, sl a18 sets c19)] 2 rfl rfl ?_
      refine LP_call 2 rfl rfl rfl cal_203 rfl (spec_eSearch_free_w _ _ _ H w r ex r3 ex4 r9.readf ex10 ex13 r16 ex17) ?_
      rintro _ wx51 ⟨r50, H, rfl, x52⟩
      refine LP_ev ok 3 [(18, .bool r50)] 4 rfl rfl ?_
      refine LP_split 18 (r50) rfl (fun hc53 => ?_) (fun hc53 => ?_)
      ·have H := H.1 hc53
       refine LP_ev ok 4 [(19, pb b), (20, sl a18 sets c19)] 6 rfl rfl ?_
       have ex55 := (ex.ext x52)
       have ex56 := (ex4.ext x52)
       have ex57 := (ex10.ext x52)
       have ex58 := (ex13.ext x52)
       have ex59 := (ex17.ext x52)
       refine LP_call 6 rfl rfl rfl cal_204 rfl (spec_eSearch_grows_w _ _ _ H wx51 r ex55 r3 ex56 r9.readf ex57 ex58 r16 ex59) ?_
       rintro _ wx60 ⟨r54, H, rfl, x61⟩
       refine LP_ev ok 7 [(22, .bool (!r54)), (23, .bool (!r54))] 9 rfl rfl ?_
       exact LP_end _ rfl ⟨!r54, H, _, env_eq ⟨rfl, rfl, rfl, trivial⟩, (X.stepx (x52.trans x61)), (ex55.ext x61), (ex56.ext x61), (ex57.ext x61), (ex58.ext x61), (ex59.ext x61)⟩
      have H := H.2 hc53
      refine LP_ev ok 4 [(19, undef), (20, undef), (21, undef), (22, undef), (23, .bool false)] 9 rfl rfl ?_
      exact LP_end _ rfl ⟨false, H, _, env_eq ⟨rfl, rfl, rfl, trivial⟩, (X.stepx x52), (ex.ext x52), (ex4.ext x52), (ex10.ext x52), (ex13.ext x52), (ex17.ext x52)⟩
     rintro x40 _ wx41 ⟨H, ρ, rfl, HF⟩
     revert HF
     refine bb6 fun X47 ex42 ex43 ex44 ex45 ex46 => ?_
     subst hk49
     refine W_cond (x40) rfl (fun hc74 => ?_) (fun hc74 => ?_)
     ·have H := H.1 hc74
      refine W_open mix fun wx75 x76 => ?_
      refine AP_game 10 [[], [], [1], [1, 2], [1, 2, 3], [], [5], [5, 6], [5, 6, 7], [1, 2, 3, 4, 5, 6, 7, 8], [0, 1, 2, 3, 4, 5, 6, 7, 8, 9], [0, 1, 2, 3, 4, 5, 6, 7, 8, 9, 10], [0, 1, 2, 3, 4, 5, 6, 7, 8, 9, 10, 11]] [[(0, none)], [(0, none)], [(25, some 1)], [(26, some 2)], [(27, some 3)], [(2, none)], [(29, some 5)], [(30, some 6)], [(31, some 7)], [(28, some 4), (32, some 8)]] [(24, some 0), (33, some 9)] [(0, false), (1, false), (2, false), (3, false), (4, false), (5, false), (6, true), (7, false), (8, true), (9, true)] (by kernel_rfl) (by kernel_rfl) ?_
      refine GS_ev ok [(0, pb b)] (pb b) rfl rfl (fun _ h => h) (fun _ => rfl) ?_
      refine GS_ev ok [(0, pb b)] (pb b) rfl rfl (fun _ h => h) (fun _ => rfl) ?_
      refine GS_ev ok [(25, pb b)] (pb b) rfl rfl (fun _ h => h) (fun _ => rfl) ?_
      refine GS_ev ok [(26, pb b)] (.pointer (some ⟨b, 3, none⟩)) rfl rfl (fun _ h => h) (fun _ => rfl) ?_
      have ex77 := (ex45.ext x76)
      refine GS_r1 [(27, .pointer (some ⟨b, 3, none⟩))] (sl a11 x.Out c12) rfl rfl (fun _ h => h) (fun _ w e => ex_ldbox rfl ti_25 ag_25 (fun _ => rfl) rfl e rfl rfl) ex77 ?_
      refine GS_ev ok [(2, sl a18 sets c19)] (sl a18 sets c19) rfl rfl (fun _ h => h) (fun _ => rfl) ?_
      refine GS_lp [(29, sl a18 sets c19)] rfl rfl (fun _ h => h) rfl fun ρ wx78 x79 => ?_
      have xc81 := (x76.trans x79)
      refine LP_call 0 rfl rfl rfl cal_183 rfl (spec_l1Own_w _ _ H wx78 r16 (ex46.ext xc81)) ?_
      rintro _ wx83 ⟨r80, vx85, hx86, H, rfl, x84, o87, ex88, f89⟩
      obtain ⟨a90, c91, rfl⟩ := o87.shape
      have ex93 := (ex77.ext (x79.trans x84))
      refine LP_gs ⟨⟨.inr ex93, trivial⟩, ?_⟩
      refine GS_ev ok [(30, sl a90 r80 c91)] (.agg #[sl a90 r80 c91]) rfl rfl (fun _ h => h) (fun _ => rfl) ?_
      refine GS_lp [(31, .agg #[sl a90 r80 c91])] rfl rfl (fun _ h => h) rfl fun ρ wx94 x95 => ?_
      have rv : RVO hx86 (.agg #[sl a90 r80 c91]) ((Edit.mk r80) : Edit) := ⟨_, ⟨_, rfl, (OS.od o87)⟩, rfl⟩
      refine LP_litD (α := Edit) 0 (vs := [.agg #[sl a90 r80 c91]]) (xs := [((Edit.mk r80) : Edit)]) rfl rfl rfl Try.underlying25 ti_33 rfl rfl (allO.one rv) (ex88.ext x95) rfl rfl fun hx97 vx98 wx99 x100 o101 ex102 dm => ?_
      obtain ⟨a103, c104, rfl⟩ := o101.shape
      refine LP_gs ⟨⟨.inr (ex93.ext (x95.trans x100)), trivial⟩, ?_⟩
      refine GS_lp [(28, sl a11 x.Out c12), (32, .slice a103 (List.length ([((Edit.mk r80) : Edit)])) c104)] rfl rfl (fun _ h => h) rfl fun ρ wx107 x108 => ?_
      have xc109 := (((((x76.trans x79).trans x84).trans x95).trans x100).trans x108)
      have ex111 := (ex44.ext xc81)
      have xc112 := (x84.trans x95)
      obtain ⟨hb, H⟩ := H
      refine LP_appendD (α := Edit) 0 rfl rfl rfl Try.underlying25 ti_33 rfl rfl rfl r9 (ex44.ext xc109) o101 (ex102.ext x108) (DomLe.dj dm (Dj.of_fresh ex111 f89).symm (ex111.ext xc112)).symm (by first | omega | (simp only [ln] at *; omega)) (by first | omega | (simp only [ln] at *; omega)) fun hx115 vx116 wx117 hw o118 ex119 y dh dm120 => ?_
      obtain ⟨a121, c122, rfl⟩ := o118.shape
      refine LP_gs ⟨⟨.inl rfl, trivial⟩, ?_⟩
      intro wx123 x124 ρ hn
      refine AP_forget [(24, pb b), (33, .slice a121 (List.length (x.Out ++ ([((Edit.mk r80) : Edit)]))) c122)] (by exact hn) fun ρ => ?_
      refine AP_tail 10 [[], [], [1], [1, 2], [1, 2, 3], [], [5], [5, 6], [5, 6, 7], [1, 2, 3, 4, 5, 6, 7, 8], [0, 1, 2, 3, 4, 5, 6, 7, 8, 9], [0, 1, 2, 3, 4, 5, 6, 7, 8, 9, 10], [0, 1, 2, 3, 4, 5, 6, 7, 8, 9, 10, 11]] (by kernel_rfl) ?_
      refine LP_ev ok 10 [(34, pb b), (35, .pointer (some ⟨b, 3, none⟩))] 12 rfl rfl ?_
      refine LP_stbox 12 (vs := [.slice a121 (List.length (x.Out ++ ([((Edit.mk r80) : Edit)]))) c122]) (cs' := [sl a x.S c, sl a5 x.Passing c6, I x.V, .slice a121 (List.length (x.Out ++ ([((Edit.mk r80) : Edit)]))) c122]) rfl rfl rfl ti_25 rfl rfl rfl rfl rfl (((ex77.ext ((((x79.trans x84).trans x95).trans x100).trans x108)).but (But.dom y dh) d).ext x124) rfl rfl fun wx125 ex126 y127 => ?_
      refine LP_end _ rfl ?_
      have ex131 := (ex77.ext x79)
      have ex132 := (ex131.ext xc112)
      have xc133 := (x100.trans x108)
      have ex134 := (ex132.ext xc133)
      have X137 := (X47.stepx xc81)
      have f136 := f89.mono X137.size
      have X139 := (X137.stepx xc112)
      have f138 := DomLe.fresh dm f136 X139.size
      have ex143 := (ex42.ext xc81)
      have ex144 := (ex143.ext xc112)
      have ex146 := (ex43.ext xc81)
      have ex147 := (ex146.ext xc112)
      exact ⟨x.Out ++ ([((Edit.mk r80) : Edit)]), H, _, .slice a121 (List.length (x.Out ++ ([((Edit.mk r80) : Edit)]))) c122, hx115, env_eq trivial, ((((X47.stepx xc109).step (But.dom y dh) (Dom.le D _)).stepx x124).step y127 (Dom.le D26 _)), o118, ((ex119.ext x124).but y127 (DomLe.dj dm120 (Dj.un_l d (DomLe.dj dm (Dj.of_fresh ex131 f89).symm ex132)) ex134).symm), (DomLe.trans (DomLe.un (Dom.le D _) (f138.dom _)) dm120 (X139.stepx xc133).size), ((((ex42.ext xc109).but (But.dom y dh) d20).ext x124).but y127 d23), ((((ex43.ext xc109).but (But.dom y dh) d21).ext x124).but y127 d24), ex126, (DomLe.dj dm120 (Dj.un_l d20 (DomLe.dj dm (Dj.of_fresh ex143 f89).symm ex144)) (ex144.ext xc133)), (DomLe.dj dm120 (Dj.un_l d21 (DomLe.dj dm (Dj.of_fresh ex146 f89).symm ex147)) (ex147.ext xc133)), (Dj.box (DomLe.dj dm120 (Dj.un_l d (DomLe.dj dm (Dj.of_fresh ex131 f89).symm ex132)) ex134).symm).symm⟩
     have H := H.2 hc74
     exact W_skip ⟨x.Out, H, _, sl a11 x.Out c12, hx8, env_eq trivial, X47, r9, ex44, (Dom.le D _), ex42, ex43, ex45, d20, d21, d⟩
    rintro out _ wx ⟨H, ρ, vx27, hx28, rfl, HF⟩
    revert HF
    refine bb9 fun X38 o ex29 f ex30 ex31 ex34 d35 => ?_
    refine bb2 fun d36 d37 => ?_
    subst hk
    obtain ⟨a32, c33, rfl⟩ := o.shape
    refine W_ret ?_
    subst hM
    exact ⟨_, Ret_of [] trivial, _, _, _, _, H, rfl, X38, o, ex29, f, ex34, d37⟩
   have H := H.2 hc
   refine W_skip ?_
   refine W_seq (W_region ?_)
   refine LP_ev ok 0 [(6, I 1)] 1 rfl rfl ?_
   refine LP_end _ rfl ?_
   obtain ⟨k156, hk157, H⟩ := jn_elim H
   refine W_join2 (S := Int) (fun s ρ' w' => k156 s ∧ ∃ (ρ : Env), ρ' = setAll [(0, pb b), (1, I k), (2, sl a18 sets c19), (6, I s)] ρ ∧ But M w w' ∧ Sub hx w' ∧ Sub hx2 w' ∧ Sub hx8 w' ∧ Sub (bx b 162 [sl a x.S c, sl a5 x.Passing c6, I x.V, sl a11 x.Out c12]) w' ∧ Sub hx15 w') ?_ ?_
   ·refine W_seq (W_region ?_)
    refine LP_ev ok 0 [(36, I k), (37, pb b), (38, pb b), (39, .pointer (some ⟨b, 2, none⟩))] 4 rfl rfl ?_
    refine LP_ldbox 4 (v := I x.V) rfl rfl rfl ti_3 ag_3 (fun _ => rfl) rfl ex13 rfl rfl ?_
    refine LP_ev ok 5 [(41, .bool (k == x.V))] 6 rfl rfl ?_
    refine LP_end _ rfl ?_
    refine W_cond (k == x.V) rfl (fun hc158 => ?_) (fun hc158 => ?_)
    ·have H := H.1 hc158
     refine W_region ?_
     refine LP_ev ok 0 [(42, pb b), (43, pb b), (44, pb b)] 3 rfl rfl ?_
     refine LP_ldbox 3 (v := sl a x.S c) rfl rfl rfl ti_24 ag_24 (fun _ => rfl) rfl ex13 rfl rfl ?_
     refine LP_ev ok 4 [(46, I k)] 5 rfl rfl ?_
     refine LP_call 5 rfl rfl rfl cal_149 rfl (spec_eFull_w _ _ _ H w r ex) ?_
     rintro _ wx160 ⟨r159, H, rfl, x161⟩
     refine LP_ev ok 6 [(6, I r159)] 7 rfl rfl ?_
     exact LP_end _ rfl ⟨r159, H, _, env_eq ⟨rfl, rfl, rfl, rfl, trivial⟩, (X.stepx x161), (ex.ext x161), (ex4.ext x161), (ex10.ext x161), (ex13.ext x161), (ex17.ext x161)⟩
    have H := H.2 hc158
    exact W_skip ⟨1, H, _, env_eq ⟨rfl, rfl, rfl, rfl, trivial⟩, X, ex, ex4, ex10, ex13, ex17⟩
   rintro first _ wx149 ⟨H, ρ, rfl, HF⟩
   revert HF
   refine bb6 fun X155 ex150 ex151 ex152 ex153 ex154 => ?_
   subst hk157
   refine W_seq (W_region ?_)
   refine LP_ev ok 0 [(48, I first), (7, I first)] 2 rfl rfl ?_
   refine LP_end _ rfl ?_
   refine W_block ?_
   obtain ⟨J, m187, Hx, H⟩ := H
   refine W_loop (S := Int × Int × (List Edit)) (fun s ρ' w' => J s.1 s.2.1 s.2.2 ∧ ∃ (ρ : Env) (vx170 : Value) (hx171 : PH), ρ' = setAll [(0, pb b), (1, I k), (2, sl a18 sets c19), (7, I s.1)] ρ ∧ But M w w' ∧ OD hx171 vx170 s.2.2 ∧ Sub hx171 w' ∧ DomLe M w.heap.size hx171 ∧ Sub hx w' ∧ Sub hx2 w' ∧ Sub hx15 w' ∧ Sub (bx b 162 [sl a x.S c, sl a5 x.Passing c6, I s.2.1, vx170]) w' ∧ Dj hx171 hx ∧ Dj hx171 hx2 ∧ Dj hx171 hx15 ∧ Dj hx171 (bx b 162 [sl a x.S c, sl a5 x.Passing c6, I s.2.1, vx170])) (fun s => m187 s.1 s.2.1 s.2.2) (first, x.V, x.Out) ⟨Hx, _, sl a11 x.Out c12, hx8, env_eq ⟨rfl, rfl, rfl, rfl, trivial⟩, X155, r9, ex152, (Dom.le D _), ex150, ex151, ex154, ex153, d20, d21, d22, d⟩ ?_
   rintro ⟨setx, vx168, out169⟩ _ wx175 ⟨Hi, ρ, vx170, hx171, rfl, HF⟩
   revert HF
   refine bb9 fun X186 o172 ex173 f174 ex176 ex177 ex178 ex181 => ?_
   refine bb4 fun d182 d183 d184 d185 => ?_
   have H := H setx vx168 out169 Hi
   obtain ⟨a179, c180, rfl⟩ := o172.shape
   refine W_seq ?_
   refine W_seq (W_region ?_)
   refine LP_ev ok 0 [(49, I setx), (50, pb b), (51, pb b), (52, pb b)] 4 rfl rfl ?_
   refine LP_ldbox 4 (v := sl a x.S c) rfl rfl rfl ti_24 ag_24 (fun _ => rfl) rfl ex181 rfl rfl ?_
   refine LP_ev ok 5 [(54, I k)] 6 rfl rfl ?_
   refine LP_call 6 rfl rfl rfl cal_149 rfl (spec_eFull_w _ _ _ H wx175 r ex176) ?_
   rintro _ wx189 ⟨r188, H, rfl, x190⟩
   refine LP_ev ok 7 [(56, .bool (decide (setx ≤ r188)))] 8 rfl rfl ?_
   refine LP_end _ rfl ?_
   refine W_cond (decide (setx ≤ r188)) rfl (fun hc191 => ?_) (fun hc191 => ?_)
   ·have H := H.1 hc191
    refine W_skip ?_
    refine W_seq ?_
    refine W_block ?_
    refine W_region ?_
    refine LP_ev ok 0 [(59, pb b), (60, I k), (61, I (wr (k + 1))), (62, sl a18 sets c19)] 4 rfl rfl ?_
    have ex193 := (ex178.ext x190)
    refine LP_call 4 rfl rfl rfl cal_183 rfl (spec_l1Own_w _ _ H wx189 r16 ex193) ?_
    rintro _ wx194 ⟨r192, vx196, hx197, H, rfl, x195, o198, ex199, f200⟩
    obtain ⟨a201, c202, rfl⟩ := o198.shape
    refine LP_ev ok 5 [(64, I setx)] 6 rfl rfl ?_
    refine LP_lit (α := Int) (g := emp) 6 (vs := [I setx]) (xs := [setx]) rfl rfl rfl Try.underlying31 ti_3 rfl rfl ⟨⟨_, rfl, rfl⟩, trivial⟩ rfl rfl fun hx203 vx204 wx205 x206 o207 ex208 f209 => ?_
    obtain ⟨a210, c211, rfl⟩ := o207.shape
    obtain ⟨hb213, H⟩ := H
    refine LP_appendf (α := Int) 7 rfl rfl rfl Try.underlying31 ti_3 rfl rfl rfl o198 (ex199.ext x206) o207.readf ex208 (by first | omega | (simp only [ln] at *; omega)) (by first | omega | (simp only [ln] at *; omega)) fun hx214 vx215 wx216 o217 ex218 y219 dm220 => ?_
    obtain ⟨a221, c222, rfl⟩ := o217.shape
    have ex223 := (ex173.ext x190)
    have xc224 := (x195.trans x206)
    have ex225 := (ex223.ext xc224)
    have ex226 := (ex181.ext x190)
    have ex227 := (ex226.ext xc224)
    have xc230 := ((x190.trans x195).trans x206)
    have ex232 := ((ex176.ext xc230).but y219 (Dj.of_fresh (ex176.ext x190) f200).symm)
    have ex234 := ((ex177.ext xc230).but y219 (Dj.of_fresh (ex177.ext x190) f200).symm)
    refine LP_call 8 rfl rfl rfl cal_144 rfl (ih _ _ _ _ H.1 (Nat.lt_of_lt_of_le H.2 (Nat.le_of_lt_succ hm)) wx216 r ex232 r3 ex234 o172 (ex225.but y219 (Dj.of_fresh ex223 f200).symm) (ex227.but y219 (Dj.of_fresh ex226 f200).symm) o217.readf ex218 d185 d182 d183 (DomLe.dj dm220 (Dj.of_fresh ex223 f200).symm ex225).symm (Dj.box d23) (Dj.box d24) (DomLe.dj dm220 (Dj.of_fresh ex226 f200).symm ex227).symm) ?_
    rintro _ wx237 ⟨r228, r229, vx243, hx239, H, rfl, x238, HF⟩
    revert HF
    refine bb5 fun o240 ex241 dm242 ex244 d245 => ?_
    obtain ⟨a246, c247, rfl⟩ := o240.shape
    refine LP_end _ rfl ?_
    refine W_region ?_
    refine LP_ev ok 0 [(57, I setx), (58, I (wr (setx + 1))), (7, I (wr (setx + 1)))] 3 rfl rfl ?_
    refine LP_end _ rfl ?_
    have X249 := (X186.stepx x190)
    have f248 := f200.mono X249.size
    exact ⟨(wr (setx + 1), r229, r228), ⟨H.1, _, sl a246 r228 c247, hx239, env_eq ⟨rfl, rfl, rfl, rfl, trivial⟩, (((X186.stepx xc230).step y219 (f248.dom _)).step x238 (DomLe.un f174 (DomLe.dom D26 single_dom))), o240, ex241, (DomLe.trans (DomLe.un f174 (DomLe.dom D26 single_dom)) dm242 ((X249.stepx xc224).step y219 (f248.dom _)).size), (ex232.but x238 (Dj.un_l d182 (Dj.box d23))), (ex234.but x238 (Dj.un_l d183 (Dj.box d24))), (((ex193.ext xc224).but y219 (Dj.of_fresh ex193 f200).symm).but x238 (Dj.un_l d184 (Dj.box d25))), ex244, (DomLe.dj dm242 (Dj.un_l d182 (Dj.box d23)) ex232), (DomLe.dj dm242 (Dj.un_l d183 (Dj.box d24)) ex234), (DomLe.dj dm242 (Dj.un_l d184 (Dj.box d25)) ((ex193.ext xc224).but y219 (Dj.of_fresh ex193 f200).symm)), d245⟩, H.2⟩
   have H := H.2 hc191
   refine W_exit ?_
   refine (if_pos rfl).mpr ?_
   subst hM
   exact ⟨_, Ret_of [] trivial, _, _, _, _, H, rfl, (X186.stepx x190), o172, (ex173.ext x190), f174, (ex181.ext x190), d185⟩
 exact key _ x k sets Q H0 (Nat.lt_succ_self _) w r ex r3 ex4 r9 ex10 ex13 r16 ex17 d d20 d21 d22 d23 d24 d25

theorem spec_eMaximal_w (sx : List Variable) (l : List Edit) (vx7 : Int) (Q : (List Edit) → Prop) (H : spec_eMaximal sx l vx7 Q) (w : World) {vx : Value} {hx : PH} (r : RS hx vx sx) (ex : Sub hx w) {vx1 : Value} {hx2 : PH} (r3 : RS hx2 vx1 l) (ex4 : Sub hx2 w) :
  CallsTo Try.prog 66 #[vx, vx1, I vx7] w fun v w' => ∃ r0 u0 g0, Q r0 ∧ v = u0 ∧ Ext w w' ∧ OD g0 u0 r0 ∧ Sub g0 w' ∧ Fresh w.heap.size g0 := by
 obtain ⟨a, c, rfl⟩ := r.shape
 obtain ⟨a5, c6, rfl⟩ := r3.shape
 refine enter (args := [sl a sx c, sl a5 l c6, I vx7]) 44 Try.func66 rfl rfl rfl ?_
 refine W_forget [(0, sl a sx c), (1, sl a5 l c6), (2, I vx7)] ⟨rfl, rfl, rfl, trivial⟩ fun ρ => ?_
 have X := But.refl emp w
 refine W_seq (W_region ?_)
 refine LP_ev ok 0 [(6, .slice none 0 0)] 1 rfl rfl ?_
 refine LP_end _ rfl (W_seq (W_region ?_))
 refine LP_ev ok 0 [(10, sl a sx c), (11, I vx7), (12, .agg #[sl a sx c, .slice none 0 0, I vx7, .slice none 0 0])] 3 rfl rfl ?_
 refine LP_box 3 (cs := [sl a sx c, .slice none 0 0, I vx7, .slice none 0 0]) rfl rfl rfl rfl rfl fun b wx x ex8 f => ?_
 refine LP_ev ok 4 [(7, pb b)] 5 rfl rfl ?_
 refine LP_end _ rfl (W_seq ?_)
 refine W_seq (W_region ?_)
 refine LP_ev ok 0 [(8, I 0)] 1 rfl rfl ?_
 refine LP_end _ rfl ?_
 refine W_block ?_
 obtain ⟨J, m, Hx, H⟩ := H
 refine W_loop (S := Int × (List (List Int))) (fun s ρ' w' => J s.1 s.2 ∧ ∃ (ρ : Env) (vx9 : Value) (hx10 : PH), ρ' = setAll [(0, sl a sx c), (1, sl a5 l c6), (7, pb b), (8, I s.1)] ρ ∧ But emp w w' ∧ OD hx10 vx9 s.2 ∧ Sub hx10 w' ∧ Fresh w.heap.size hx10 ∧ Sub hx w' ∧ Sub hx2 w' ∧ Sub (bx b 162 [sl a sx c, vx9, I vx7, .slice none 0 0]) w' ∧ Dj hx10 hx ∧ Dj hx10 hx2 ∧ Dj hx10 (bx b 162 [sl a sx c, vx9, I vx7, .slice none 0 0])) (fun s => m s.1 s.2) (0, []) ⟨Hx, _, .slice none 0 0, emp, env_eq ⟨rfl, rfl, rfl, rfl, trivial⟩, (X.stepx x), OD.nil, (emp_sub _), (emp_fresh _), (ex.ext x), (ex4.ext x), ex8, (fun _ => .inl rfl), (fun _ => .inl rfl), (fun _ => .inl rfl)⟩ ?_
 rintro ⟨i, passing⟩ _ wx13 ⟨Hi, ρ, vx9, hx10, rfl, HF⟩
 revert HF
 refine bb9 fun X21 o ex11 f12 ex14 ex15 ex18 d => ?_
 refine bb2 fun d19 d20 => ?_
 have H := H i passing Hi
 obtain ⟨a16, c17, rfl⟩ := o.shape
 refine W_seq ?_
 refine W_seq (W_region ?_)
 refine LP_ev ok 0 [(14, I i), (15, sl a sx c)] 2 rfl rfl ?_
 refine LP_call 2 rfl rfl rfl cal_121 rfl (spec_sCount_w _ _ H wx13 r ex14) ?_
 rintro _ wx26 ⟨r25, H, rfl, x27⟩
 refine LP_ev ok 3 [(17, .bool (decide (i < r25)))] 4 rfl rfl ?_
 refine LP_end _ rfl ?_
 refine W_cond (decide (i < r25)) rfl (fun hc => ?_) (fun hc => ?_)
 ·have H := H.1 hc
  refine W_skip ?_
  have X28 := (X21.stepx x27)
  have ex29 := (ex14.ext x27)
  have ex30 := (ex15.ext x27)
  have ex31 := (ex18.ext x27)
  have f32 := f.mono X.size
  have ex33 := (ex11.ext x27)
  obtain ⟨k, hk, H⟩ := jn_elim H
  refine W_join2 (S := (List (List Int))) (fun s ρ' w' => k s ∧ ∃ (ρ : Env) (vx35 : Value) (hx36 : PH), ρ' = setAll [(0, sl a sx c), (1, sl a5 l c6), (7, pb b), (8, I i)] ρ ∧ But emp w w' ∧ OD hx36 vx35 s ∧ Sub hx36 w' ∧ Fresh w.heap.size hx36 ∧ Sub hx w' ∧ Sub hx2 w' ∧ Sub (bx b 162 [sl a sx c, vx35, I vx7, .slice none 0 0]) w' ∧ Dj hx36 hx ∧ Dj hx36 hx2 ∧ Dj hx36 (bx b 162 [sl a sx c, vx35, I vx7, .slice none 0 0])) ?_ ?_
  ·refine W_block ?_
   refine W_seq (W_region ?_)
   refine LP_ev ok 0 [(20, sl a sx c), (21, I i)] 2 rfl rfl ?_
   refine LP_call 2 rfl rfl rfl cal_122 rfl (spec_sAt_w _ _ _ H wx26 r ex29) ?_
   rintro _ wx51 ⟨r50, vx53, hx54, H, rfl, x52, o55, ex56, f57⟩
   obtain ⟨a58, c59, rfl⟩ := o55.shape
   refine LP_ev ok 3 [(9, sl a58 r50 c59)] 4 rfl rfl ?_
   refine LP_end _ rfl (W_seq (W_region ?_))
   refine LP_ev ok 0 [(23, sl a5 l c6), (24, sl a58 r50 c59)] 2 rfl rfl ?_
   have ex61 := (ex30.ext x52)
   refine LP_call 2 rfl rfl rfl cal_143 rfl (spec_eFailed_w _ _ _ H wx51 r3 ex61 o55.readf ex56) ?_
   rintro _ wx62 ⟨r60, vx64, hx65, H, rfl, x63, o66, ex67, f68⟩
   obtain ⟨a69, c70, rfl⟩ := o66.shape
   refine LP_ev ok 3 [(26, I (ln r60)), (27, .bool ((ln r60) == 0))] 5 rfl rfl ?_
   refine LP_end _ rfl ?_
   refine W_cond ((ln r60) == 0) rfl (fun hc71 => ?_) (fun hc71 => ?_)
   ·have H := H.1 hc71
    refine W_region ?_
    refine LP_ev ok 0 [(28, pb b), (29, pb b), (30, pb b), (31, .pointer (some ⟨b, 1, none⟩))] 4 rfl rfl ?_
    have xc := (x52.trans x63)
    have ex72 := (ex31.ext xc)
    refine LP_ldbox 4 (v := sl a16 passing c17) rfl rfl rfl ti_50 ag_50 (fun _ => rfl) rfl ex72 rfl rfl ?_
    refine LP_ev ok 5 [(33, sl a58 r50 c59)] 6 rfl rfl ?_
    refine LP_litD (α := List Int) 6 (vs := [sl a58 r50 c59]) (xs := [r50]) rfl rfl rfl Try.underlying50 ti_31 rfl rfl (allO.one (OD.rvo (OS.od o55))) (ex56.ext x63) rfl rfl fun hx74 vx75 wx76 x77 o78 ex79 dm => ?_
    obtain ⟨a80, c81, rfl⟩ := o78.shape
    have xc82 := (xc.trans x77)
    obtain ⟨hb, H⟩ := H
    refine LP_appendD (α := List Int) 7 rfl rfl rfl Try.underlying50 ti_31 rfl rfl rfl o (ex33.ext xc82) o78 ex79 (DomLe.dj dm (Dj.of_fresh ex33 f57).symm (ex33.ext xc)).symm (by first | omega | (simp only [ln] at *; omega)) (by first | omega | (simp only [ln] at *; omega)) fun hx85 vx86 wx87 hw o88 ex89 y dh dm90 => ?_
    obtain ⟨a91, c92, rfl⟩ := o88.shape
    refine LP_ev ok 8 [(36, pb b), (37, .pointer (some ⟨b, 1, none⟩))] 10 rfl rfl ?_
    refine LP_stbox 10 (vs := [.slice a91 (List.length (passing ++ ([r50]))) c92]) (cs' := [sl a sx c, .slice a91 (List.length (passing ++ ([r50]))) c92, I vx7, .slice none 0 0]) rfl rfl rfl ti_50 rfl rfl rfl rfl rfl ((ex72.ext x77).but (But.dom y dh) d20) rfl rfl fun wx93 ex94 y95 => ?_
    refine LP_end _ rfl ?_
    have ex98 := (ex72.ext x77)
    have f100 := f57.mono X28.size
    have X102 := (X28.stepx xc)
    have f101 := DomLe.fresh dm f100 X102.size
    have f103 := DomLe.fresh dm90 (Fresh.un f12 f101) (X102.stepx x77).size
    have ex108 := (ex29.ext xc)
    have ex110 := (ex61.ext x63)
    exact ⟨passing ++ ([r50]), H, _, .slice a91 (List.length (passing ++ ([r50]))) c92, hx85, env_eq ⟨rfl, rfl, rfl, rfl, trivial⟩, (((X28.stepx xc82).step (But.dom y dh) (f12.dom _)).step y95 ((Fresh.box f32).dom _)), o88, (ex89.but y95 (DomLe.dj dm90 (Dj.un_l d20 (DomLe.dj dm (Dj.of_fresh ex31 f57).symm ex72)) ex98).symm), f103, (((ex29.ext xc82).but (But.dom y dh) d).but y95 (Dj.box (Dj.of_fresh ex f).symm)), (((ex61.ext (x63.trans x77)).but (But.dom y dh) d19).but y95 (Dj.box (Dj.of_fresh ex4 f).symm)), ex94, (DomLe.dj dm90 (Dj.un_l d (DomLe.dj dm (Dj.of_fresh ex29 f57).symm ex108)) (ex108.ext x77)), (DomLe.dj dm90 (Dj.un_l d19 (DomLe.dj dm (Dj.of_fresh ex30 f57).symm ex110)) (ex110.ext x77)), (Dj.box (DomLe.dj dm90 (Dj.un_l d20 (DomLe.dj dm (Dj.of_fresh ex31 f57).symm ex72)) ex98).symm).symm⟩
   have H := H.2 hc71
   refine W_skip ?_
   have xc112 := (x52.trans x63)
   exact ⟨passing, H, _, sl a16 passing c17, hx10, env_eq ⟨rfl, rfl, rfl, rfl, trivial⟩, (X28.stepx xc112), o, (ex33.ext xc112), f12, (ex29.ext xc112), (ex61.ext x63), (ex31.ext xc112), d, d19, d20⟩
  rintro passing34 _ wx40 ⟨H, ρ, vx35, hx36, rfl, HF⟩
  revert HF
  refine bb9 fun X49 o37 ex38 f39 ex41 ex42 ex45 d46 => ?_
  refine bb2 fun d47 d48 => ?_
  subst hk
  obtain ⟨a43, c44, rfl⟩ := o37.shape
  refine W_region ?_
  refine LP_ev ok 0 [(18, I i), (19, I (wr (i + 1))), (8, I (wr (i + 1)))] 3 rfl rfl ?_
  exact LP_end _ rfl ⟨(wr (i + 1), passing34), ⟨H.1, _, sl a43 passing34 c44, hx36, env_eq ⟨rfl, rfl, rfl, rfl, trivial⟩, X49, o37, ex38, f39, ex41, ex42, ex45, d46, d47, d48⟩, H.2⟩
 have H := H.2 hc
 refine W_exit ?_
 refine (if_pos rfl).mpr ?_
 refine W_seq (W_region ?_)
 refine LP_ev ok 0 [(38, pb b)] 1 rfl rfl ?_
 refine LP_call 1 rfl rfl rfl cal_144 rfl (spec_eSearch_run_w _ _ _ _ H wx26 r (ex14.ext x27) o.readf (ex11.ext x27) (OD.nil (α := Edit)) (emp_sub _) (ex18.ext x27) (.inl ⟨rfl, rfl⟩) (emp_sub _) (Dj.emp_l _) (Dj.emp_l _) (Dj.emp_l _) (Dj.emp_l _) (Dj.box (Dj.of_fresh ex f).symm) d20.symm (Dj.emp_r _)) ?_
 rintro _ wx123 ⟨r118, r119, vx129, hx125, H, rfl, x124, HF⟩
 revert HF
 refine bb5 fun o126 ex127 dm128 ex130 d131 => ?_
 obtain ⟨a132, c133, rfl⟩ := o126.shape
 refine LP_end _ rfl (W_seq (W_region ?_))
 refine LP_ev ok 0 [(40, pb b), (41, pb b), (42, .pointer (some ⟨b, 3, none⟩))] 3 rfl rfl ?_
 refine LP_ldbox 3 (v := sl a132 r118 c133) rfl rfl rfl ti_25 ag_25 (fun _ => rfl) rfl ex130 rfl rfl ?_
 refine LP_ev ok 4 [(6, sl a132 r118 c133)] 5 rfl rfl ?_
 refine LP_end _ rfl (W_ret ?_)
 have f134 := f.mono X.size
 have X136 := (X21.stepx x27)
 have f135 := DomLe.fresh dm128 (Fresh.un (emp_fresh _) (Fresh.box f134)) X136.size
 exact ⟨_, Ret_of [sl a132 r118 c133] ⟨⟨rfl, rfl⟩, trivial⟩, _, _, _, H, rfl, (X136.step x124 (DomLe.un (fun _ _ _ => rfl) ((Fresh.box f134).dom _))).ext, o126, ex127, f135⟩

theorem spec_EliminateVariable_w (sx : List Variable) (l : List Edit) (vx7 : Int) (Q : (List Edit) → Bool → Prop) (H : spec_EliminateVariable sx l vx7 Q) (w : World) {vx : Value} {hx : PH} (r : RS hx vx sx) (ex : Sub hx w) {vx1 : Value} {hx2 : PH} (r3 : RS hx2 vx1 l) (ex4 : Sub hx2 w) :
  CallsTo Try.prog 52 #[vx, vx1, I vx7] w fun v w' => ∃ r0 r1 u0 g0, Q r0 r1 ∧ v = .tuple #[u0, .bool r1] ∧ Ext w w' ∧ OD g0 u0 r0 ∧ Sub g0 w' ∧ Fresh w.heap.size g0 := by
 obtain ⟨a, c, rfl⟩ := r.shape
 obtain ⟨a5, c6, rfl⟩ := r3.shape
 refine enter (args := [sl a sx c, sl a5 l c6, I vx7]) 24 Try.func52 rfl rfl rfl ?_
 refine W_forget [(0, sl a sx c), (1, sl a5 l c6), (2, I vx7)] ⟨rfl, rfl, rfl, trivial⟩ fun ρ => ?_
 have X := But.refl emp w
 refine W_seq (W_region ?_)
 refine LP_ev ok 0 [(6, .slice none 0 0), (7, .bool false)] 2 rfl rfl ?_
 refine LP_end _ rfl (W_seq ?_)
 obtain ⟨k, hk, H⟩ := jn_elim H
 refine W_join2 (S := Bool) (fun s ρ' w' => k s ∧ ∃ (ρ : Env), ρ' = setAll [(0, sl a sx c), (1, sl a5 l c6), (2, I vx7), (19, .bool s)] ρ ∧ But emp w w' ∧ Sub hx w' ∧ Sub hx2 w') ?_ ?_
 ·refine W_region ?_
  refine LP_ev ok 0 [(8, sl a sx c), (9, sl a5 l c6)] 2 rfl rfl ?_
  refine LP_call 2 rfl rfl rfl cal_65 rfl (spec_eSmall_w _ _ _ H w r ex r3 ex4) ?_
  rintro _ wx12 ⟨r11, H, rfl, x13⟩
  refine LP_ev ok 3 [(11, .bool (!r11)), (12, .bool (!r11))] 5 rfl rfl ?_
  refine LP_split 12 (!r11) rfl (fun hc => ?_) (fun hc => ?_)
  ·have H := H.1 hc
   refine LP_ev ok 5 [(13, undef), (14, undef), (15, undef), (16, undef), (17, undef), (18, undef), (19, .bool true)] 12 rfl rfl ?_
   exact LP_end _ rfl ⟨true, H, _, env_eq ⟨rfl, rfl, rfl, rfl, trivial⟩, (X.stepx x13), (ex.ext x13), (ex4.ext x13)⟩
  have H := H.2 hc
  refine LP_ev ok 5 [(13, I vx7), (14, sl a sx c), (15, I (ln sx)), (16, I (wr ((ln sx) - 1)))] 9 rfl rfl ?_
  refine LP_call 9 rfl rfl rfl cal_75 rfl (spec_l1In_w _ _ _ _ H wx12 ) ?_
  rintro _ wx18 ⟨r17, H, rfl, x19⟩
  refine LP_ev ok 10 [(18, .bool (!r17)), (19, .bool (!r17))] 12 rfl rfl ?_
  refine LP_end _ rfl ?_
  have xc := (x13.trans x19)
  exact ⟨!r17, H, _, env_eq ⟨rfl, rfl, rfl, rfl, trivial⟩, (X.stepx xc), (ex.ext xc), (ex4.ext xc)⟩
 rintro x _ wx ⟨H, ρ, rfl, X10, ex8, ex9⟩
 subst hk
 refine W_cond (x) rfl (fun hc23 => ?_) (fun hc23 => ?_)
 ·have H := H.1 hc23
  refine W_seq (W_region ?_)
  refine LP_ev ok 0 [(6, .slice none 0 0), (7, .bool false)] 2 rfl rfl ?_
  refine LP_end _ rfl (W_ret ?_)
  exact ⟨_, Ret_of [.slice none 0 0, .bool false] ⟨⟨rfl, rfl⟩, ⟨rfl, rfl⟩, trivial⟩, _, _, _, emp, H, rfl, X10.ext, OD.nil, (emp_sub _), (emp_fresh _)⟩
 have H := H.2 hc23
 refine W_skip ?_
 refine W_seq (W_region ?_)
 refine LP_ev ok 0 [(20, sl a sx c), (21, sl a5 l c6), (22, I vx7)] 3 rfl rfl ?_
 refine LP_call 3 rfl rfl rfl cal_66 rfl (spec_eMaximal_w _ _ _ _ H wx r ex8 r3 ex9) ?_
 rintro _ wx25 ⟨r24, vx27, hx28, H, rfl, x26, o, ex29, f⟩
 obtain ⟨a30, c31, rfl⟩ := o.shape
 refine LP_ev ok 4 [(6, sl a30 r24 c31), (7, .bool true)] 6 rfl rfl ?_
 refine LP_end _ rfl (W_ret ?_)
 have f32 := f.mono X10.size
 exact ⟨_, Ret_of [sl a30 r24 c31, .bool true] ⟨⟨rfl, rfl⟩, ⟨rfl, rfl⟩, trivial⟩, _, _, _, _, H, rfl, (X10.stepx x26).ext, o, ex29, f32⟩

theorem laws_sameInts_w (a : List Int) (b : List Int) (Q : Bool → Prop) (H : laws_sameInts a b Q) (w : World) {vx : Value} {hx : PH} (r : RS hx vx a) (ex : Sub hx w) {vx2 : Value} {hx3 : PH} (r4 : RS hx3 vx2 b) (ex5 : Sub hx3 w) :
  CallsTo Try.prog 19 #[vx, vx2] w fun v w' => ∃ r0, Q r0 ∧ v = .bool r0 ∧ Ext w w' := by
 obtain ⟨a1, c, rfl⟩ := r.shape
 obtain ⟨a6, c7, rfl⟩ := r4.shape
 refine enter (args := [sl a1 a c, sl a6 b c7]) 26 Try.func19 rfl rfl rfl ?_
 refine W_forget [(0, sl a1 a c), (1, sl a6 b c7)] ⟨rfl, rfl, trivial⟩ fun ρ => ?_
 have X := But.refl emp w
 refine W_seq (W_region ?_)
 refine LP_ev ok 0 [(4, .bool false)] 1 rfl rfl ?_
 refine LP_end _ rfl (W_seq ?_)
 refine W_seq (W_region ?_)
 refine LP_ev ok 0 [(6, sl a1 a c), (7, I (ln a)), (8, sl a6 b c7), (9, I (ln b)), (10, .bool ((ln a) != (ln b)))] 5 rfl rfl ?_
 refine LP_end _ rfl ?_
 refine W_cond ((ln a) != (ln b)) rfl (fun hc => ?_) (fun hc => ?_)
 ·have H := H.1 hc
  refine W_seq (W_region ?_)
  refine LP_ev ok 0 [(4, .bool false)] 1 rfl rfl ?_
  refine LP_end _ rfl (W_ret ?_)
  exact ⟨_, Ret_of [.bool false] ⟨⟨rfl, rfl⟩, trivial⟩, _, H, rfl, X.ext⟩
 have H := H.2 hc
 refine W_skip ?_
 refine W_seq ?_
 refine W_seq (W_region ?_)
 refine LP_ev ok 0 [(11, sl a1 a c), (12, I (ln a)), (13, I 0)] 3 rfl rfl ?_
 refine LP_end _ rfl ?_
 refine W_block ?_
 obtain ⟨J, m, Hx, H⟩ := H
 refine W_loop (S := Int) (fun s ρ' w' => J s ∧ ∃ (ρ : Env), ρ' = setAll [(0, sl a1 a c), (1, sl a6 b c7), (12, I (ln a)), (13, I s)] ρ ∧ But emp w w' ∧ Sub hx w' ∧ Sub hx3 w') (fun s => m s) 0 ⟨Hx, _, env_eq ⟨rfl, rfl, rfl, rfl, trivial⟩, X, ex, ex5⟩ ?_
 rintro x _ wx ⟨Hi, ρ, rfl, X10, ex8, ex9⟩
 have H := H x Hi
 refine W_seq (W_region ?_)
 refine LP_ev ok 0 [(14, .bool (decide (x < (ln a))))] 1 rfl rfl ?_
 refine LP_end _ rfl (W_seq ?_)
 refine W_cond (decide (x < (ln a))) rfl (fun hc11 => ?_) (fun hc11 => ?_)
 ·have H := H.1 hc11
  refine W_skip ?_
  refine W_seq ?_
  refine W_block ?_
  refine W_seq (W_region ?_)
  refine LP_ev ok 0 [(15, I x), (5, I x)] 2 rfl rfl ?_
  refine LP_end _ rfl (W_seq ?_)
  refine W_quiet mix (by kernel_rfl) ?_
  refine QP_ev ok 0 [(16, sl a1 a c), (17, I x)] 2 rfl rfl ?_
  obtain ⟨x12, hi, hx13, H⟩ := H
  refine QP_index 2 rfl rfl rfl Try.underlying31 ti_3 rfl rfl r hi hx13 fun a14 cs r15 d => ?_
  refine QP_load 3 rfl rfl rfl ti_3 ag_3 rfl r15 d ex8 fun vx16 r17 => ?_
  obtain rfl := r17.int
  refine QP_ev ok 4 [(20, sl a6 b c7), (21, I x)] 6 rfl rfl ?_
  obtain ⟨x18, hi19, hx20, H⟩ := H
  refine QP_index 6 rfl rfl rfl Try.underlying31 ti_3 rfl rfl r4 hi19 hx20 fun a21 cs22 r23 d24 => ?_
  refine QP_load 7 rfl rfl rfl ti_3 ag_3 rfl r23 d24 ex9 fun vx25 r26 => ?_
  obtain rfl := r26.int
  refine QP_ev ok 8 [(24, .bool (x12 != x18))] 9 rfl rfl ?_
  refine QP_end _ rfl fun wx27 x28 => ?_
  refine W_cond (x12 != x18) rfl (fun hc29 => ?_) (fun hc29 => ?_)
  ·have H := H.1 hc29
   refine W_seq (W_region ?_)
   refine LP_ev ok 0 [(4, .bool false)] 1 rfl rfl ?_
   refine LP_end _ rfl (W_ret ?_)
   exact ⟨_, Ret_of [.bool false] ⟨⟨rfl, rfl⟩, trivial⟩, _, H, rfl, (X10.stepx x28).ext⟩
  have H := H.2 hc29
  refine W_skip ?_
  refine W_region ?_
  refine LP_ev ok 0 [(25, I (wr (x + 1))), (13, I (wr (x + 1)))] 2 rfl rfl ?_
  exact LP_end _ rfl ⟨wr (x + 1), ⟨H.1, _, env_eq ⟨rfl, rfl, rfl, rfl, trivial⟩, (X10.stepx x28), (ex8.ext x28), (ex9.ext x28)⟩, H.2⟩
 have H := H.2 hc11
 refine W_exit ?_
 refine (if_pos rfl).mpr ?_
 refine W_seq (W_region ?_)
 refine LP_ev ok 0 [(4, .bool true)] 1 rfl rfl ?_
 refine LP_end _ rfl (W_ret ?_)
 exact ⟨_, Ret_of [.bool true] ⟨⟨rfl, rfl⟩, trivial⟩, _, H, rfl, X10.ext⟩

theorem laws_pSameEdits_w (a : List Edit) (b : List Edit) (Q : Bool → Prop) (H : laws_pSameEdits a b Q) (w : World) {vx : Value} {hx : PH} (r : RS hx vx a) (ex : Sub hx w) {vx2 : Value} {hx3 : PH} (r4 : RS hx3 vx2 b) (ex5 : Sub hx3 w) :
  CallsTo Try.prog 14 #[vx, vx2] w fun v w' => ∃ r0, Q r0 ∧ v = .bool r0 ∧ Ext w w' := by
 obtain ⟨a1, c, rfl⟩ := r.shape
 obtain ⟨a6, c7, rfl⟩ := r4.shape
 refine enter (args := [sl a1 a c, sl a6 b c7]) 29 Try.func14 rfl rfl rfl ?_
 refine W_forget [(0, sl a1 a c), (1, sl a6 b c7)] ⟨rfl, rfl, trivial⟩ fun ρ => ?_
 have X := But.refl emp w
 refine W_seq (W_region ?_)
 refine LP_ev ok 0 [(4, .bool false)] 1 rfl rfl ?_
 refine LP_end _ rfl (W_seq ?_)
 refine W_seq (W_region ?_)
 refine LP_ev ok 0 [(6, sl a1 a c), (7, I (ln a)), (8, sl a6 b c7), (9, I (ln b)), (10, .bool ((ln a) != (ln b)))] 5 rfl rfl ?_
 refine LP_end _ rfl ?_
 refine W_cond ((ln a) != (ln b)) rfl (fun hc => ?_) (fun hc => ?_)
 ·have H := H.1 hc
  refine W_seq (W_region ?_)
  refine LP_ev ok 0 [(4, .bool false)] 1 rfl rfl ?_
  refine LP_end _ rfl (W_ret ?_)
  exact ⟨_, Ret_of [.bool false] ⟨⟨rfl, rfl⟩, trivial⟩, _, H, rfl, X.ext⟩
 have H := H.2 hc
 refine W_skip ?_
 refine W_seq ?_
 refine W_seq (W_region ?_)
 refine LP_ev ok 0 [(11, sl a1 a c), (12, I (ln a)), (13, I 0)] 3 rfl rfl ?_
 refine LP_end _ rfl ?_
 refine W_block ?_
 obtain ⟨J, m, Hx, H⟩ := H
 refine W_loop (S := Int) (fun s ρ' w' => J s ∧ ∃ (ρ : Env), ρ' = setAll [(0, sl a1 a c), (1, sl a6 b c7), (12, I (ln a)), (13, I s)] ρ ∧ But emp w w' ∧ Sub hx w' ∧ Sub hx3 w') (fun s => m s) 0 ⟨Hx, _, env_eq ⟨rfl, rfl, rfl, rfl, trivial⟩, X, ex, ex5⟩ ?_
 rintro x _ wx ⟨Hi, ρ, rfl, X10, ex8, ex9⟩
 have H := H x Hi
 refine W_seq (W_region ?_)
 refine LP_ev ok 0 [(14, .bool (decide (x < (ln a))))] 1 rfl rfl ?_
 refine LP_end _ rfl (W_seq ?_)
 refine W_cond (decide (x < (ln a))) rfl (fun hc11 => ?_) (fun hc11 => ?_)
 ·have H := H.1 hc11
  refine W_skip ?_
  refine W_seq ?_
  refine W_block ?_
  refine W_seq (W_region ?_)
  refine LP_ev ok 0 [(15, I x), (5, I x)] 2 rfl rfl ?_
  refine LP_end _ rfl (W_seq ?_)
  refine W_quiet mix (by kernel_rfl) ?_
  refine QP_ev ok 0 [(16, sl a1 a c), (17, I x)] 2 rfl rfl ?_
  obtain ⟨x12, hi, hx13, H⟩ := H
  refine QP_index 2 rfl rfl rfl Try.underlying25 ti_33 rfl rfl r hi hx13 fun a14 cs r15 d => ?_
  have d16 := d
  obtain ⟨u, rfl, r17⟩ := Edit_rd d16
  obtain ⟨a18, c19, rfl⟩ := r17.shape
  refine QP_ev ok 3 [(19, .pointer (some (Addr.add a14 0)))] 4 rfl rfl ?_
  refine QP_ldpart (off := 0) 4 (v := sl a18 x12.Sets c19) rfl rfl rfl ti_31 ag_31 (fun _ => rfl) rfl r15 ex8 rfl rfl ?_
  refine QP_ev ok 5 [(21, sl a6 b c7), (22, I x)] 7 rfl rfl ?_
  obtain ⟨x20, hi21, hx22, H⟩ := H
  refine QP_index 7 rfl rfl rfl Try.underlying25 ti_33 rfl rfl r4 hi21 hx22 fun a23 cs24 r25 d26 => ?_
  have d27 := d26
  obtain ⟨u28, rfl, r29⟩ := Edit_rd d27
  obtain ⟨a30, c31, rfl⟩ := r29.shape
  refine QP_ev ok 8 [(24, .pointer (some (Addr.add a23 0)))] 9 rfl rfl ?_
  refine QP_ldpart (off := 0) 9 (v := sl a30 x20.Sets c31) rfl rfl rfl ti_31 ag_31 (fun _ => rfl) rfl r25 ex9 rfl rfl ?_
  obtain ⟨r32, Hd, H⟩ := H
  refine QP_call (.bool r32) 10 rfl rfl rfl cal_19 rfl (fun wx33 x34 => (laws_sameInts_w _ _ _ Hd wx33 r17 (ex8.ext x34) r29 (ex9.ext x34)).mono ?_) ?_
  ·rintro _ _ ⟨_, rfl, rfl, x⟩; exact ⟨rfl, x⟩
  refine QP_ev ok 11 [(27, .bool (!r32))] 12 rfl rfl ?_
  refine QP_end _ rfl fun wx35 x36 => ?_
  refine W_cond (!r32) rfl (fun hc37 => ?_) (fun hc37 => ?_)
  ·have H := H.1 hc37
   refine W_seq (W_region ?_)
   refine LP_ev ok 0 [(4, .bool false)] 1 rfl rfl ?_
   refine LP_end _ rfl (W_ret ?_)
   exact ⟨_, Ret_of [.bool false] ⟨⟨rfl, rfl⟩, trivial⟩, _, H, rfl, (X10.stepx x36).ext⟩
  have H := H.2 hc37
  refine W_skip ?_
  refine W_region ?_
  refine LP_ev ok 0 [(28, I (wr (x + 1))), (13, I (wr (x + 1)))] 2 rfl rfl ?_
  exact LP_end _ rfl ⟨wr (x + 1), ⟨H.1, _, env_eq ⟨rfl, rfl, rfl, rfl, trivial⟩, (X10.stepx x36), (ex8.ext x36), (ex9.ext x36)⟩, H.2⟩
 have H := H.2 hc11
 refine W_exit ?_
 refine (if_pos rfl).mpr ?_
 refine W_seq (W_region ?_)
 refine LP_ev ok 0 [(4, .bool true)] 1 rfl rfl ?_
 refine LP_end _ rfl (W_ret ?_)
 exact ⟨_, Ret_of [.bool true] ⟨⟨rfl, rfl⟩, trivial⟩, _, H, rfl, X10.ext⟩

theorem spec_CombinationCount_w (sx : List Variable) (Q : Int → Bool → Prop) (H : spec_CombinationCount sx Q) (w : World) {vx : Value} {hx : PH} (r : RS hx vx sx) (ex : Sub hx w) :
  CallsTo Try.prog 53 #[vx] w fun v w' => ∃ r0 r1, Q r0 r1 ∧ v = .tuple #[I r0, .bool r1] ∧ Ext w w' := by
 obtain ⟨a, c, rfl⟩ := r.shape
 refine enter (args := [sl a sx c]) 9 Try.func53 rfl rfl rfl ?_
 refine W_forget [(0, sl a sx c)] ⟨rfl, trivial⟩ fun ρ => ?_
 have X := But.refl emp w
 refine W_seq (W_region ?_)
 refine LP_ev ok 0 [(2, I 0), (3, .bool false)] 2 rfl rfl ?_
 refine LP_end _ rfl (W_seq ?_)
 refine W_seq (W_region ?_)
 refine LP_ev ok 0 [(4, sl a sx c)] 1 rfl rfl ?_
 refine LP_call 1 rfl rfl rfl cal_120 rfl (spec_sGood_w _ _ H w r ex) ?_
 rintro _ wx ⟨r1, H, rfl, x⟩
 refine LP_ev ok 2 [(6, .bool (!r1))] 3 rfl rfl ?_
 refine LP_end _ rfl ?_
 refine W_cond (!r1) rfl (fun hc => ?_) (fun hc => ?_)
 ·have H := H.1 hc
  refine W_seq (W_region ?_)
  refine LP_ev ok 0 [(2, I 0), (3, .bool false)] 2 rfl rfl ?_
  refine LP_end _ rfl (W_ret ?_)
  exact ⟨_, Ret_of [I 0, .bool false] ⟨⟨rfl, rfl⟩, ⟨rfl, rfl⟩, trivial⟩, _, _, H, rfl, (X.stepx x).ext⟩
 have H := H.2 hc
 refine W_skip ?_
 refine W_seq (W_region ?_)
 refine LP_ev ok 0 [(7, sl a sx c)] 1 rfl rfl ?_
 refine LP_call 1 rfl rfl rfl cal_121 rfl (spec_sCount_w _ _ H wx r (ex.ext x)) ?_
 rintro _ wx5 ⟨r3, H, rfl, x6⟩
 refine LP_ev ok 2 [(2, I r3), (3, .bool true)] 4 rfl rfl ?_
 refine LP_end _ rfl (W_ret ?_)
 exact ⟨_, Ret_of [I r3, .bool true] ⟨⟨rfl, rfl⟩, ⟨rfl, rfl⟩, trivial⟩, _, _, H, rfl, (X.stepx (x.trans x6)).ext⟩

theorem laws_numberOf_w (b : List B8) (Q : Int → Prop) (H : laws_numberOf b Q) (w : World) {vx : Value} {hx : PH} (r : RS hx vx b) (ex : Sub hx w) :
  CallsTo Try.prog 55 #[vx] w fun v w' => ∃ r0, Q r0 ∧ v = I r0 ∧ Ext w w' := by
 obtain ⟨a, c, rfl⟩ := r.shape
 refine enter (args := [sl a b c]) 20 Try.func55 rfl rfl rfl ?_
 refine W_forget [(0, sl a b c)] ⟨rfl, trivial⟩ fun ρ => ?_
 have X := But.refl emp w
 refine W_seq (W_region ?_)
 refine LP_ev ok 0 [(2, I 0)] 1 rfl rfl ?_
 refine LP_end _ rfl (W_seq (W_region ?_))
 refine LP_ev ok 0 [(3, I 0)] 1 rfl rfl ?_
 refine LP_end _ rfl (W_seq ?_)
 refine W_seq (W_region ?_)
 refine LP_ev ok 0 [(6, sl a b c), (7, I (ln b)), (8, I 0)] 3 rfl rfl ?_
 refine LP_end _ rfl ?_
 refine W_block ?_
 obtain ⟨J, m, Hx, H⟩ := H
 refine W_loop (S := Int × Int) (fun s ρ' w' => J s.1 s.2 ∧ ∃ (ρ : Env), ρ' = setAll [(3, I s.1), (6, sl a b c), (7, I (ln b)), (8, I s.2)] ρ ∧ w = w') (fun s => m s.1 s.2) (0, 0) ⟨Hx, _, env_eq ⟨rfl, rfl, rfl, rfl, trivial⟩, rfl⟩ ?_
 rintro ⟨n, x⟩ _ _ ⟨Hi, ρ, rfl, rfl⟩
 have H := H n x Hi
 refine W_seq (W_region ?_)
 refine LP_ev ok 0 [(9, .bool (decide (x < (ln b))))] 1 rfl rfl ?_
 refine LP_end _ rfl (W_seq ?_)
 refine W_cond (decide (x < (ln b))) rfl (fun hc => ?_) (fun hc => ?_)
 ·have H := H.1 hc
  refine W_skip ?_
  refine W_seq ?_
  refine W_block ?_
  refine W_seq (W_region ?_)
  obtain ⟨x1, hi, hx2, H⟩ := H
  refine LP_index 0 rfl rfl rfl Try.underlying22 ti_5 rfl rfl r hi hx2 fun a3 cs r4 d => ?_
  refine LP_load 1 rfl rfl rfl ti_5 ag_5 rfl r4 d ex fun vx5 r6 => ?_
  obtain rfl := r6.b8
  refine LP_ev ok 2 [(5, .int .u8 x1.v)] 3 rfl rfl ?_
  refine LP_end _ rfl ?_
  refine W_region ?_
  refine LP_ev ok 0 [(12, I n), (13, I (wr (31 * n))), (14, .int .u8 x1.v), (15, I (wr (x1.v))), (16, I (wr ((wr (31 * n)) + (wr (x1.v)))))] 5 rfl rfl ?_
  refine LP_val 5 _ rfl rfl (ex_rem rfl rfl rfl (by decide) _) ?_
  refine LP_ev ok 6 [(3, I (Int.tmod (wr ((wr (31 * n)) + (wr (x1.v)))) 1000003))] 7 rfl rfl ?_
  refine LP_end _ rfl ?_
  refine W_region ?_
  refine LP_ev ok 0 [(18, I (wr (x + 1))), (8, I (wr (x + 1)))] 2 rfl rfl ?_
  exact LP_end _ rfl ⟨(Int.tmod (wr ((wr (31 * n)) + (wr (x1.v)))) 1000003, wr (x + 1)), ⟨H.1, _, env_eq ⟨rfl, rfl, rfl, rfl, trivial⟩, rfl⟩, H.2⟩
 have H := H.2 hc
 refine W_exit ?_
 refine (if_pos rfl).mpr ?_
 refine W_seq (W_region ?_)
 refine LP_ev ok 0 [(19, I n), (2, I n)] 2 rfl rfl ?_
 refine LP_end _ rfl (W_ret ?_)
 exact ⟨_, Ret_of [I n] ⟨⟨rfl, rfl⟩, trivial⟩, _, H, rfl, X.ext⟩

theorem spec_CombinationAt_w (sx : List Variable) (i : Int) (Q : (List Int) → Bool → Prop) (H : spec_CombinationAt sx i Q) (w : World) {vx : Value} {hx : PH} (r : RS hx vx sx) (ex : Sub hx w) :
  CallsTo Try.prog 54 #[vx, I i] w fun v w' => ∃ r0 r1 u0 g0, Q r0 r1 ∧ v = .tuple #[u0, .bool r1] ∧ Ext w w' ∧ OS 3 g0 emp u0 r0 ∧ Sub g0 w' ∧ Fresh w.heap.size g0 := by
 obtain ⟨a, c, rfl⟩ := r.shape
 refine enter (args := [sl a sx c, I i]) 20 Try.func54 rfl rfl rfl ?_
 refine W_forget [(0, sl a sx c), (1, I i)] ⟨rfl, rfl, trivial⟩ fun ρ => ?_
 have X := But.refl emp w
 refine W_seq (W_region ?_)
 refine LP_ev ok 0 [(4, .slice none 0 0), (5, .bool false)] 2 rfl rfl ?_
 refine LP_end _ rfl (W_seq ?_)
 obtain ⟨k, hk, H⟩ := jn_elim H
 refine W_join2 (S := Bool) (fun s ρ' w' => k s ∧ ∃ (ρ : Env), ρ' = setAll [(0, sl a sx c), (1, I i), (16, .bool s)] ρ ∧ But emp w w' ∧ Sub hx w') ?_ ?_
 ·refine W_region ?_
  refine LP_ev ok 0 [(6, sl a sx c)] 1 rfl rfl ?_
  refine LP_call 1 rfl rfl rfl cal_120 rfl (spec_sGood_w _ _ H w r ex) ?_
  rintro _ wx4 ⟨r3, H, rfl, x5⟩
  refine LP_ev ok 2 [(8, .bool (!r3)), (9, .bool (!r3))] 4 rfl rfl ?_
  refine LP_split 9 (!r3) rfl (fun hc => ?_) (fun hc => ?_)
  ·have H := H.1 hc
   refine LP_ev ok 4 [(10, undef), (11, undef), (12, undef), (13, undef), (14, undef), (15, undef), (16, .bool true)] 11 rfl rfl ?_
   exact LP_end _ rfl ⟨true, H, _, env_eq ⟨rfl, rfl, rfl, trivial⟩, (X.stepx x5), (ex.ext x5)⟩
  have H := H.2 hc
  refine LP_ev ok 4 [(10, I i), (11, sl a sx c)] 6 rfl rfl ?_
  have ex9 := (ex.ext x5)
  refine LP_call 6 rfl rfl rfl cal_121 rfl (spec_sCount_w _ _ H wx4 r ex9) ?_
  rintro _ wx10 ⟨r8, H, rfl, x11⟩
  refine LP_ev ok 7 [(13, I (wr (r8 - 1)))] 8 rfl rfl ?_
  refine LP_call 8 rfl rfl rfl cal_75 rfl (spec_l1In_w _ _ _ _ H wx10 ) ?_
  rintro _ wx13 ⟨r12, H, rfl, x14⟩
  refine LP_ev ok 9 [(15, .bool (!r12)), (16, .bool (!r12))] 11 rfl rfl ?_
  exact LP_end _ rfl ⟨!r12, H, _, env_eq ⟨rfl, rfl, rfl, trivial⟩, (X.stepx ((x5.trans x11).trans x14)), (ex9.ext (x11.trans x14))⟩
 rintro x _ wx ⟨H, ρ, rfl, X2, ex1⟩
 subst hk
 refine W_cond (x) rfl (fun hc18 => ?_) (fun hc18 => ?_)
 ·have H := H.1 hc18
  refine W_seq (W_region ?_)
  refine LP_ev ok 0 [(4, .slice none 0 0), (5, .bool false)] 2 rfl rfl ?_
  refine LP_end _ rfl (W_ret ?_)
  exact ⟨_, Ret_of [.slice none 0 0, .bool false] ⟨⟨rfl, rfl⟩, ⟨rfl, rfl⟩, trivial⟩, _, _, _, emp, H, rfl, X2.ext, OS.nil, (emp_sub _), (emp_fresh _)⟩
 have H := H.2 hc18
 refine W_skip ?_
 refine W_seq (W_region ?_)
 refine LP_ev ok 0 [(17, sl a sx c), (18, I i)] 2 rfl rfl ?_
 refine LP_call 2 rfl rfl rfl cal_122 rfl (spec_sAt_w _ _ _ H wx r ex1) ?_
 rintro _ wx20 ⟨r19, vx22, hx23, H, rfl, x21, o, ex24, f⟩
 obtain ⟨a25, c26, rfl⟩ := o.shape
 refine LP_ev ok 3 [(4, sl a25 r19 c26), (5, .bool true)] 5 rfl rfl ?_
 refine LP_end _ rfl (W_ret ?_)
 have f27 := f.mono X2.size
 exact ⟨_, Ret_of [sl a25 r19 c26, .bool true] ⟨⟨rfl, rfl⟩, ⟨rfl, rfl⟩, trivial⟩, _, _, _, _, H, rfl, (X2.stepx x21).ext, o, ex24, f27⟩

theorem impl_areValues_w (sx : List Variable) (values : List Int) (Q : Bool → Prop) (H : impl_areValues sx values Q) (w : World) {vx : Value} {hx : PH} (r : RS hx vx sx) (ex : Sub hx w) {vx1 : Value} {hx2 : PH} (r3 : RS hx2 vx1 values) (ex4 : Sub hx2 w) :
  CallsTo Try.prog 124 #[vx, vx1] w fun v w' => ∃ r0, Q r0 ∧ v = .bool r0 ∧ Ext w w' := by
 obtain ⟨a, c, rfl⟩ := r.shape
 obtain ⟨a5, c6, rfl⟩ := r3.shape
 refine enter (args := [sl a sx c, sl a5 values c6]) 31 Try.func124 rfl rfl rfl ?_
 refine W_forget [(0, sl a sx c), (1, sl a5 values c6)] ⟨rfl, rfl, trivial⟩ fun ρ => ?_
 have X := But.refl emp w
 refine W_seq (W_region ?_)
 refine LP_ev ok 0 [(4, .bool false)] 1 rfl rfl ?_
 refine LP_end _ rfl (W_seq ?_)
 refine W_seq (W_region ?_)
 refine LP_ev ok 0 [(7, sl a5 values c6), (8, I (ln values)), (9, sl a sx c), (10, I (ln sx)), (11, .bool ((ln values) != (ln sx)))] 5 rfl rfl ?_
 refine LP_end _ rfl ?_
 refine W_cond ((ln values) != (ln sx)) rfl (fun hc => ?_) (fun hc => ?_)
 ·have H := H.1 hc
  refine W_seq (W_region ?_)
  refine LP_ev ok 0 [(4, .bool false)] 1 rfl rfl ?_
  refine LP_end _ rfl (W_ret ?_)
  exact ⟨_, Ret_of [.bool false] ⟨⟨rfl, rfl⟩, trivial⟩, _, H, rfl, X.ext⟩
 have H := H.2 hc
 refine W_skip ?_
 refine W_seq ?_
 refine W_seq (W_region ?_)
 refine LP_ev ok 0 [(12, sl a5 values c6), (13, I (ln values)), (14, I 0)] 3 rfl rfl ?_
 refine LP_end _ rfl ?_
 refine W_block ?_
 obtain ⟨J, m, Hx, H⟩ := H
 refine W_loop (S := Int) (fun s ρ' w' => J s ∧ ∃ (ρ : Env), ρ' = setAll [(0, sl a sx c), (12, sl a5 values c6), (13, I (ln values)), (14, I s)] ρ ∧ w = w') (fun s => m s) 0 ⟨Hx, _, env_eq ⟨rfl, rfl, rfl, rfl, trivial⟩, rfl⟩ ?_
 rintro x _ _ ⟨Hi, ρ, rfl, rfl⟩
 have H := H x Hi
 refine W_seq (W_region ?_)
 refine LP_ev ok 0 [(15, .bool (decide (x < (ln values))))] 1 rfl rfl ?_
 refine LP_end _ rfl (W_seq ?_)
 refine W_cond (decide (x < (ln values))) rfl (fun hc7 => ?_) (fun hc7 => ?_)
 ·have H := H.1 hc7
  refine W_skip ?_
  refine W_seq ?_
  refine W_block ?_
  refine W_seq (W_region ?_)
  refine LP_ev ok 0 [(16, I x)] 1 rfl rfl ?_
  obtain ⟨x8, hi, hx9, H⟩ := H
  refine LP_index 1 rfl rfl rfl Try.underlying31 ti_3 rfl rfl r3 hi hx9 fun a10 cs r11 d => ?_
  refine LP_load 2 rfl rfl rfl ti_3 ag_3 rfl r11 d ex4 fun vx12 r13 => ?_
  obtain rfl := r13.int
  refine LP_ev ok 3 [(5, I x), (6, I x8)] 5 rfl rfl ?_
  refine LP_end _ rfl ?_
  obtain ⟨k, hk, H⟩ := jn_elim H
  refine W_join2 (S := Bool) (fun s ρ' w' => k s ∧ ∃ (ρ : Env), ρ' = setAll [(0, sl a sx c), (12, sl a5 values c6), (13, I (ln values)), (14, I x), (29, .bool s)] ρ ∧ w = w') ?_ ?_
  ·refine W_region ?_
   refine LP_ev ok 0 [(19, I x8), (20, .bool (decide (x8 < 0))), (21, .bool (decide (x8 < 0)))] 3 rfl rfl ?_
   refine LP_split 21 (decide (x8 < 0)) rfl (fun hc16 => ?_) (fun hc16 => ?_)
   ·have H := H.1 hc16
    refine LP_ev ok 3 [(22, undef), (23, undef), (24, undef), (25, undef), (26, undef), (27, undef), (28, undef), (29, .bool true)] 11 rfl rfl ?_
    exact LP_end _ rfl ⟨true, H, _, env_eq ⟨rfl, rfl, rfl, rfl, rfl, trivial⟩, rfl⟩
   have H := H.2 hc16
   refine LP_ev ok 3 [(22, I x8), (23, sl a sx c), (24, I x)] 6 rfl rfl ?_
   obtain ⟨x17, hi18, hx19, H⟩ := H
   refine LP_index 6 rfl rfl rfl Try.underlying24 ti_167 rfl rfl r hi18 hx19 fun a20 cs21 r22 d23 => ?_
   refine LP_ev ok 7 [(26, .pointer (some (Addr.add a20 1)))] 8 rfl rfl ?_
   refine LP_ldfld (x := x17) (off := 1) 8 (v := I x17.Levels) rfl rfl rfl ti_3 ag_3 (fun _ => rfl) rfl r22 d23 ex rfl rfl ?_
   refine LP_ev ok 9 [(28, .bool (decide (x8 ≥ x17.Levels))), (29, .bool (decide (x8 ≥ x17.Levels)))] 11 rfl rfl ?_
   exact LP_end _ rfl ⟨decide (x8 ≥ x17.Levels), H, _, env_eq ⟨rfl, rfl, rfl, rfl, rfl, trivial⟩, rfl⟩
  rintro x14 _ _ ⟨H, ρ, rfl, rfl⟩
  subst hk
  refine W_cond (x14) rfl (fun hc24 => ?_) (fun hc24 => ?_)
  ·have H := H.1 hc24
   refine W_seq (W_region ?_)
   refine LP_ev ok 0 [(4, .bool false)] 1 rfl rfl ?_
   refine LP_end _ rfl (W_ret ?_)
   exact ⟨_, Ret_of [.bool false] ⟨⟨rfl, rfl⟩, trivial⟩, _, H, rfl, X.ext⟩
  have H := H.2 hc24
  refine W_skip ?_
  refine W_region ?_
  refine LP_ev ok 0 [(30, I (wr (x + 1))), (14, I (wr (x + 1)))] 2 rfl rfl ?_
  exact LP_end _ rfl ⟨wr (x + 1), ⟨H.1, _, env_eq ⟨rfl, rfl, rfl, rfl, trivial⟩, rfl⟩, H.2⟩
 have H := H.2 hc7
 refine W_exit ?_
 refine (if_pos rfl).mpr ?_
 refine W_seq (W_region ?_)
 refine LP_ev ok 0 [(4, .bool true)] 1 rfl rfl ?_
 refine LP_end _ rfl (W_ret ?_)
 exact ⟨_, Ret_of [.bool true] ⟨⟨rfl, rfl⟩, trivial⟩, _, H, rfl, X.ext⟩

theorem impl_FailsEdit_w (sx : List Variable) (ex1 : Edit) (values : List Int) (Q : Bool → Bool → Prop) (H : impl_FailsEdit sx ex1 values Q) (w : World) {vx : Value} {hx : PH} (r : RS hx vx sx) (ex : Sub hx w) {vx2 : Value} {hx3 : PH} (r4 : RS hx3 vx2 ex1.Sets) (ex5 : Sub hx3 w) {vx8 : Value} {hx9 : PH} (r10 : RS hx9 vx8 values) (ex11 : Sub hx9 w) :
  CallsTo Try.prog 56 #[vx, .agg #[vx2], vx8] w fun v w' => ∃ r0 r1, Q r0 r1 ∧ v = .tuple #[.bool r0, .bool r1] ∧ Ext w w' := by
 obtain ⟨a, c, rfl⟩ := r.shape
 obtain ⟨a6, c7, rfl⟩ := r4.shape
 obtain ⟨a12, c13, rfl⟩ := r10.shape
 refine enter (args := [sl a sx c, .agg #[sl a6 ex1.Sets c7], sl a12 values c13]) 26 Try.func56 rfl rfl rfl ?_
 refine W_forget [(0, sl a sx c), (1, .agg #[sl a6 ex1.Sets c7]), (2, sl a12 values c13)] ⟨rfl, rfl, rfl, trivial⟩ fun ρ => ?_
 have X := But.refl emp w
 refine W_seq (W_region ?_)
 refine LP_box 0 (cs := [sl a6 ex1.Sets c7]) rfl rfl rfl rfl rfl fun b wx x ex14 f => ?_
 refine LP_ev ok 1 [(6, .bool false), (7, .bool false)] 3 rfl rfl ?_
 refine LP_end _ rfl (W_seq ?_)
 have X15 := (X.stepx x)
 have ex16 := (ex.ext x)
 have ex17 := (ex5.ext x)
 have ex18 := (ex11.ext x)
 obtain ⟨k, hk, H⟩ := jn_elim H
 refine W_join2 (S := Bool) (fun s ρ' w' => k s ∧ ∃ (ρ : Env), ρ' = setAll [(2, sl a12 values c13), (4, pb b), (22, .bool s)] ρ ∧ But emp w w' ∧ Sub hx3 w' ∧ Sub hx9 w' ∧ Sub (bx b 33 [sl a6 ex1.Sets c7]) w') ?_ ?_
 ·refine W_region ?_
  refine LP_ev ok 0 [(8, sl a sx c)] 1 rfl rfl ?_
  refine LP_call 1 rfl rfl rfl cal_123 rfl (impl_IsSchema_w _ _ H wx r ex16) ?_
  rintro _ wx27 ⟨r26, H, rfl, x28⟩
  refine LP_ev ok 2 [(10, .bool (!r26)), (11, .bool (!r26))] 4 rfl rfl ?_
  refine LP_split 11 (!r26) rfl (fun hc => ?_) (fun hc => ?_)
  ·have H := H.1 hc
   refine LP_ev ok 4 [(12, undef), (13, undef), (14, undef), (15, undef), (16, .bool true), (17, .bool true), (18, undef), (19, undef), (20, undef), (21, undef), (22, .bool true)] 15 rfl rfl ?_
   exact LP_end _ rfl ⟨true, H, _, env_eq ⟨rfl, rfl, rfl, trivial⟩, (X15.stepx x28), (ex17.ext x28), (ex18.ext x28), (ex14.ext x28)⟩
  have H := H.2 hc
  refine LP_ev ok 4 [(12, sl a sx c)] 5 rfl rfl ?_
  have ex33 := (ex14.ext x28)
  refine LP_ldbox 5 (v := .agg #[sl a6 ex1.Sets c7]) rfl rfl rfl ti_33 ag_33 (fun h => by cases h) rfl ex33 rfl rfl ?_
  have ex35 := (ex16.ext x28)
  have ex36 := (ex17.ext x28)
  refine LP_call 6 rfl rfl rfl cal_67 rfl (impl_isEdit_w _ _ _ H wx27 r ex35 r4 ex36) ?_
  rintro _ wx37 ⟨r34, H, rfl, x38⟩
  refine LP_ev ok 7 [(15, .bool (!r34)), (16, .bool (!r34)), (17, .bool (!r34))] 10 rfl rfl ?_
  refine LP_split 17 (!r34) rfl (fun hc39 => ?_) (fun hc39 => ?_)
  ·have H := H.1 hc39
   refine LP_ev ok 10 [(18, undef), (19, undef), (20, undef), (21, undef), (22, .bool true)] 15 rfl rfl ?_
   refine LP_end _ rfl ?_
   have xc := (x28.trans x38)
   exact ⟨true, H, _, env_eq ⟨rfl, rfl, rfl, trivial⟩, (X15.stepx xc), (ex36.ext x38), (ex18.ext xc), (ex33.ext x38)⟩
  have H := H.2 hc39
  refine LP_ev ok 10 [(18, sl a sx c), (19, sl a12 values c13)] 12 rfl rfl ?_
  have xc46 := (x28.trans x38)
  have ex47 := (ex18.ext xc46)
  refine LP_call 12 rfl rfl rfl cal_124 rfl (impl_areValues_w _ _ _ H wx37 r (ex35.ext x38) r10 ex47) ?_
  rintro _ wx48 ⟨r44, H, rfl, x49⟩
  refine LP_ev ok 13 [(21, .bool (!r44)), (22, .bool (!r44))] 15 rfl rfl ?_
  refine LP_end _ rfl ?_
  have xc52 := (x38.trans x49)
  exact ⟨!r44, H, _, env_eq ⟨rfl, rfl, rfl, trivial⟩, (X15.stepx (xc46.trans x49)), (ex36.ext xc52), (ex47.ext x49), (ex33.ext xc52)⟩
 rintro x20 _ wx21 ⟨H, ρ, rfl, X25, ex22, ex23, ex24⟩
 subst hk
 refine W_cond (x20) rfl (fun hc56 => ?_) (fun hc56 => ?_)
 ·have H := H.1 hc56
  refine W_seq (W_region ?_)
  refine LP_ev ok 0 [(6, .bool false), (7, .bool false)] 2 rfl rfl ?_
  refine LP_end _ rfl (W_ret ?_)
  exact ⟨_, Ret_of [.bool false, .bool false] ⟨⟨rfl, rfl⟩, ⟨rfl, rfl⟩, trivial⟩, _, _, H, rfl, X25.ext⟩
 have H := H.2 hc56
 refine W_skip ?_
 refine W_seq (W_region ?_)
 refine LP_ldbox 0 (v := .agg #[sl a6 ex1.Sets c7]) rfl rfl rfl ti_33 ag_33 (fun h => by cases h) rfl ex24 rfl rfl ?_
 refine LP_ev ok 1 [(24, sl a12 values c13)] 2 rfl rfl ?_
 refine LP_call 2 rfl rfl rfl cal_70 rfl (impl_fails_w _ _ _ H wx21 r4 ex22 r10 ex23) ?_
 rintro _ wx58 ⟨r57, H, rfl, x59⟩
 refine LP_ev ok 3 [(6, .bool r57), (7, .bool true)] 5 rfl rfl ?_
 refine LP_end _ rfl (W_ret ?_)
 exact ⟨_, Ret_of [.bool r57, .bool true] ⟨⟨rfl, rfl⟩, ⟨rfl, rfl⟩, trivial⟩, _, _, H, rfl, (X25.stepx x59).ext⟩

theorem impl_areVars_w (sx : List Variable) (vars : List Int) (Q : Bool → Prop) (H : impl_areVars sx vars Q) (w : World) {vx : Value} {hx : PH} (r : RS hx vx sx) (ex : Sub hx w) {vx1 : Value} {hx2 : PH} (r3 : RS hx2 vx1 vars) (ex4 : Sub hx2 w) :
  CallsTo Try.prog 125 #[vx, vx1] w fun v w' => ∃ r0, Q r0 ∧ v = .bool r0 ∧ Ext w w' := by
 obtain ⟨a, c, rfl⟩ := r.shape
 obtain ⟨a5, c6, rfl⟩ := r3.shape
 refine enter (args := [sl a sx c, sl a5 vars c6]) 25 Try.func125 rfl rfl rfl ?_
 refine W_forget [(0, sl a sx c), (1, sl a5 vars c6)] ⟨rfl, rfl, trivial⟩ fun ρ => ?_
 have X := But.refl emp w
 refine W_seq (W_region ?_)
 refine LP_ev ok 0 [(4, .bool false)] 1 rfl rfl ?_
 refine LP_end _ rfl (W_seq (W_region ?_))
 refine LP_ev ok 0 [(5, I ((-1)))] 1 rfl rfl ?_
 refine LP_end _ rfl (W_seq ?_)
 refine W_seq (W_region ?_)
 refine LP_ev ok 0 [(8, sl a5 vars c6), (9, I (ln vars)), (10, I 0)] 3 rfl rfl ?_
 refine LP_end _ rfl ?_
 refine W_block ?_
 obtain ⟨J, m, Hx, H⟩ := H
 refine W_loop (S := Int × Int) (fun s ρ' w' => J s.1 s.2 ∧ ∃ (ρ : Env), ρ' = setAll [(0, sl a sx c), (5, I s.1), (8, sl a5 vars c6), (9, I (ln vars)), (10, I s.2)] ρ ∧ w = w') (fun s => m s.1 s.2) ((-1), 0) ⟨Hx, _, env_eq ⟨rfl, rfl, rfl, rfl, rfl, trivial⟩, rfl⟩ ?_
 rintro ⟨last, x⟩ _ _ ⟨Hi, ρ, rfl, rfl⟩
 have H := H last x Hi
 refine W_seq (W_region ?_)
 refine LP_ev ok 0 [(11, .bool (decide (x < (ln vars))))] 1 rfl rfl ?_
 refine LP_end _ rfl (W_seq ?_)
 refine W_cond (decide (x < (ln vars))) rfl (fun hc => ?_) (fun hc => ?_)
 ·have H := H.1 hc
  refine W_skip ?_
  refine W_seq ?_
  refine W_block ?_
  refine W_seq (W_region ?_)
  obtain ⟨x7, hi, hx8, H⟩ := H
  refine LP_index 0 rfl rfl rfl Try.underlying31 ti_3 rfl rfl r3 hi hx8 fun a9 cs r10 d => ?_
  refine LP_load 1 rfl rfl rfl ti_3 ag_3 rfl r10 d ex4 fun vx11 r12 => ?_
  obtain rfl := r12.int
  refine LP_ev ok 2 [(7, I x7)] 3 rfl rfl ?_
  refine LP_end _ rfl (W_seq ?_)
  obtain ⟨k, hk, H⟩ := jn_elim H
  refine W_join2 (S := Bool) (fun s ρ' w' => k s ∧ ∃ (ρ : Env), ρ' = setAll [(0, sl a sx c), (7, I x7), (8, sl a5 vars c6), (9, I (ln vars)), (10, I x), (22, .bool s)] ρ ∧ w = w') ?_ ?_
  ·refine W_region ?_
   refine LP_ev ok 0 [(14, I x7), (15, I last), (16, .bool (decide (x7 ≤ last))), (17, .bool (decide (x7 ≤ last)))] 4 rfl rfl ?_
   refine LP_split 17 (decide (x7 ≤ last)) rfl (fun hc15 => ?_) (fun hc15 => ?_)
   ·have H := H.1 hc15
    refine LP_ev ok 4 [(18, undef), (19, undef), (20, undef), (21, undef), (22, .bool true)] 9 rfl rfl ?_
    exact LP_end _ rfl ⟨true, H, _, env_eq ⟨rfl, rfl, rfl, rfl, rfl, rfl, trivial⟩, rfl⟩
   have H := H.2 hc15
   refine LP_ev ok 4 [(18, I x7), (19, sl a sx c), (20, I (ln sx)), (21, .bool (decide (x7 ≥ (ln sx)))), (22, .bool (decide (x7 ≥ (ln sx))))] 9 rfl rfl ?_
   exact LP_end _ rfl ⟨decide (x7 ≥ (ln sx)), H, _, env_eq ⟨rfl, rfl, rfl, rfl, rfl, rfl, trivial⟩, rfl⟩
  rintro x13 _ _ ⟨H, ρ, rfl, rfl⟩
  subst hk
  refine W_cond (x13) rfl (fun hc16 => ?_) (fun hc16 => ?_)
  ·have H := H.1 hc16
   refine W_seq (W_region ?_)
   refine LP_ev ok 0 [(4, .bool false)] 1 rfl rfl ?_
   refine LP_end _ rfl (W_ret ?_)
   exact ⟨_, Ret_of [.bool false] ⟨⟨rfl, rfl⟩, trivial⟩, _, H, rfl, X.ext⟩
  have H := H.2 hc16
  refine W_skip ?_
  refine W_region ?_
  refine LP_ev ok 0 [(23, I x7), (5, I x7)] 2 rfl rfl ?_
  refine LP_end _ rfl ?_
  refine W_region ?_
  refine LP_ev ok 0 [(24, I (wr (x + 1))), (10, I (wr (x + 1)))] 2 rfl rfl ?_
  exact LP_end _ rfl ⟨(x7, wr (x + 1)), ⟨H.1, _, env_eq ⟨rfl, rfl, rfl, rfl, rfl, trivial⟩, rfl⟩, H.2⟩
 have H := H.2 hc
 refine W_exit ?_
 refine (if_pos rfl).mpr ?_
 refine W_seq (W_region ?_)
 refine LP_ev ok 0 [(4, .bool true)] 1 rfl rfl ?_
 refine LP_end _ rfl (W_ret ?_)
 exact ⟨_, Ret_of [.bool true] ⟨⟨rfl, rfl⟩, trivial⟩, _, H, rfl, X.ext⟩

theorem impl_completionOf_1_w (c : List Int) (c2 : List Int) (c10 : List Int) (c19 : List Int) (Q : Bool → (List Int) → Prop) (H : impl_completionOf_1 c c2 c10 c19 Q) (w : World) {vx : Value} {hx : PH} (r : OS 3 hx emp vx c) (ex : Sub hx w) {vx3 : Value} {hx4 : PH} (r5 : RS hx4 vx3 c2) (ex6 : Sub hx4 w) {b : Nat} (ex9 : Sub (bx b 31 [vx3]) w) {vx11 : Value} {hx12 : PH} (r13 : RS hx12 vx11 c10) (ex14 : Sub hx12 w) {b17 : Nat} (ex18 : Sub (bx b17 31 [vx11]) w) {vx20 : Value} {hx21 : PH} (r22 : OS 3 hx21 emp vx20 c19) (ex23 : Sub hx21 w) (cn : CanV vx20 c19) {b26 : Nat} (ex27 : Sub (bx b26 31 [vx20]) w) (d : Dj hx hx21) (d28 : Dj hx (bx b26 31 [vx20])) (d29 : Dj hx21 (bx b26 31 [vx20])) (d30 : Dj hx hx4) (d31 : Dj hx (bx b 31 [vx3])) (d32 : Dj hx hx12) (d33 : Dj hx (bx b17 31 [vx11])) (d34 : Dj hx21 hx4) (d35 : Dj hx21 (bx b 31 [vx3])) (d36 : Dj hx21 hx12) (d37 : Dj hx21 (bx b17 31 [vx11])) (d38 : Dj (bx b26 31 [vx20]) hx4) (d39 : Dj (bx b26 31 [vx20]) (bx b 31 [vx3])) (d40 : Dj (bx b26 31 [vx20]) hx12) (d41 : Dj (bx b26 31 [vx20]) (bx b17 31 [vx11])) :
  CallsTo Try.prog 190 #[vx, pb b, pb b17, pb b26] w fun v w' => ∃ r0 m1 v1_ k1, Q r0 m1 ∧ v = .bool r0 ∧ But (un hx (un hx21 (bx b26 31 [vx20]))) w w' ∧ OS 3 k1 emp v1_ m1 ∧ Sub k1 w' ∧ DomLe (un hx (un hx21 (bx b26 31 [vx20]))) w.heap.size k1 ∧ Sub (bx b26 31 [v1_]) w' ∧ Dj k1 (bx b26 31 [v1_]) ∧ CanV v1_ m1 := by
 obtain ⟨a, c1, rfl⟩ := r.shape
 obtain ⟨a7, c8, rfl⟩ := r5.shape
 obtain ⟨a15, c16, rfl⟩ := r13.shape
 obtain ⟨a24, c25, rfl⟩ := r22.shape
 refine enter (args := [sl a c c1, pb b, pb b17, pb b26]) 25 Try.func190 rfl rfl rfl ?_
 refine W_forget [(0, sl a c c1), (1, pb b), (2, pb b17), (3, pb b26)] ⟨rfl, rfl, rfl, rfl, trivial⟩ fun ρ => ?_
 obtain ⟨M, hM⟩ : ∃ M : PH, M = (un hx (un hx21 (bx b26 31 [sl a24 c19 c25]))) := ⟨_, rfl⟩
 have D : Dom M hx := by subst hM; exact (Dom.l _ _)
 have D42 : Dom M hx21 := by subst hM; exact (Dom.trans (Dom.r _ _) (Dom.l _ _))
 have D43 : Dom M (bx b26 31 [sl a24 c19 c25]) := by subst hM; exact (Dom.trans (Dom.r _ _) (Dom.trans (Dom.r _ _) (Dom.refl _)))
 have X := But.refl M w
 refine W_seq (W_region ?_)
 refine LP_ev ok 0 [(5, .bool false)] 1 rfl rfl ?_
 refine LP_end _ rfl (W_seq ?_)
 refine W_seq (W_region ?_)
 refine LP_ldbox 0 (v := sl a7 c2 c8) rfl rfl rfl ti_31 ag_31 (fun _ => rfl) rfl ex9 rfl rfl ?_
 refine LP_ev ok 1 [(9, I (ln c2)), (10, I 0)] 3 rfl rfl ?_
 refine LP_end _ rfl ?_
 refine W_block ?_
 obtain ⟨J, m, Hx, H⟩ := H
 refine W_loop (S := Int) (fun s ρ' w' => J s ∧ ∃ (ρ : Env), ρ' = setAll [(0, sl a c c1), (2, pb b17), (3, pb b26), (8, sl a7 c2 c8), (9, I (ln c2)), (10, I s)] ρ ∧ But M w w' ∧ Sub hx w' ∧ Sub hx4 w' ∧ Sub hx12 w' ∧ Sub (bx b17 31 [sl a15 c10 c16]) w' ∧ Sub hx21 w' ∧ Sub (bx b26 31 [sl a24 c19 c25]) w') (fun s => m s) 0 ⟨Hx, _, env_eq ⟨rfl, rfl, rfl, rfl, rfl, rfl, trivial⟩, X, ex, ex6, ex14, ex18, ex23, ex27⟩ ?_
 rintro x _ wx ⟨Hi, ρ, rfl, HF⟩
 revert HF
 refine bb7 fun X50 ex44 ex45 ex46 ex47 ex48 ex49 => ?_
 have H := H x Hi
 refine W_seq (W_region ?_)
 refine LP_ev ok 0 [(11, .bool (decide (x < (ln c2))))] 1 rfl rfl ?_
 refine LP_end _ rfl (W_seq ?_)
 refine W_cond (decide (x < (ln c2))) rfl (fun hc => ?_) (fun hc => ?_)
 ·have H := H.1 hc
  refine W_skip ?_
  refine W_seq ?_
  refine W_block ?_
  refine W_seq (W_region ?_)
  obtain ⟨x51, hi, hx52, H⟩ := H
  refine LP_index 0 rfl rfl rfl Try.underlying31 ti_3 rfl rfl r5 hi hx52 fun a53 cs r54 d55 => ?_
  refine LP_load 1 rfl rfl rfl ti_3 ag_3 rfl r54 d55 ex45 fun vx56 r57 => ?_
  obtain rfl := r57.int
  refine LP_ev ok 2 [(7, I x51)] 3 rfl rfl ?_
  refine LP_end _ rfl (W_seq ?_)
  refine W_quiet mix (by kernel_rfl) ?_
  refine QP_ev ok 0 [(14, sl a c c1), (15, I x51)] 2 rfl rfl ?_
  obtain ⟨x58, hi59, hx60, H⟩ := H
  refine QP_index 2 rfl rfl rfl Try.underlying31 ti_3 rfl rfl r.readf hi59 hx60 fun a61 cs62 r63 d64 => ?_
  refine QP_load 3 rfl rfl rfl ti_3 ag_3 rfl r63 d64 ex44 fun vx65 r66 => ?_
  obtain rfl := r66.int
  refine QP_ldbox 4 (v := sl a15 c10 c16) rfl rfl rfl ti_31 ag_31 (fun _ => rfl) rfl ex47 rfl rfl ?_
  refine QP_ev ok 5 [(19, I x51)] 6 rfl rfl ?_
  obtain ⟨x67, hi68, hx69, H⟩ := H
  refine QP_index 6 rfl rfl rfl Try.underlying31 ti_3 rfl rfl r13 hi68 hx69 fun a70 cs71 r72 d73 => ?_
  refine QP_load 7 rfl rfl rfl ti_3 ag_3 rfl r72 d73 ex46 fun vx74 r75 => ?_
  obtain rfl := r75.int
  refine QP_ev ok 8 [(22, .bool (x58 != x67))] 9 rfl rfl ?_
  refine QP_end _ rfl fun wx76 x77 => ?_
  refine W_cond (x58 != x67) rfl (fun hc78 => ?_) (fun hc78 => ?_)
  ·have H := H.1 hc78
   refine W_seq (W_region ?_)
   refine LP_ev ok 0 [(5, .bool true)] 1 rfl rfl ?_
   refine LP_end _ rfl (W_ret ?_)
   subst hM
   exact ⟨_, Ret_of [.bool true] ⟨⟨rfl, rfl⟩, trivial⟩, _, _, _, _, H, rfl, (X50.stepx x77), r22, (ex48.ext x77), (Dom.le D42 _), (ex49.ext x77), d29, cn⟩
  have H := H.2 hc78
  refine W_skip ?_
  refine W_region ?_
  refine LP_ev ok 0 [(23, I (wr (x + 1))), (10, I (wr (x + 1)))] 2 rfl rfl ?_
  exact LP_end _ rfl ⟨wr (x + 1), ⟨H.1, _, env_eq ⟨rfl, rfl, rfl, rfl, rfl, rfl, trivial⟩, (X50.stepx x77), (ex44.ext x77), (ex45.ext x77), (ex46.ext x77), (ex47.ext x77), (ex48.ext x77), (ex49.ext x77)⟩, H.2⟩
 have H := H.2 hc
 refine W_exit ?_
 refine (if_pos rfl).mpr ?_
 refine W_seq (W_region ?_)
 refine LP_ev ok 0 [(24, sl a c c1)] 1 rfl rfl ?_
 refine LP_stbox 1 (vs := [sl a c c1]) (cs' := [sl a c c1]) rfl rfl rfl ti_31 rfl rfl rfl rfl rfl ex49 rfl rfl fun wx89 ex90 y => ?_
 refine LP_end _ rfl (W_seq (W_region ?_))
 refine LP_ev ok 0 [(5, .bool false)] 1 rfl rfl ?_
 refine LP_end _ rfl (W_ret ?_)
 obtain ⟨hz, H⟩ := H
 subst hM
 exact ⟨_, Ret_of [.bool false] ⟨⟨rfl, rfl⟩, trivial⟩, _, _, _, _, H, rfl, (X50.step y (Dom.le D43 _)), r, (ex44.but y d28.symm), (Dom.le D _), ex90, (Dj.box d28.symm).symm, (can_of r.readf hz)⟩

theorem impl_passing_impl_completionOf_1_w (sx : List Variable) (l : List Edit) (c7 : List Int) (c15 : List Int) (c24 : List Int) (Q : (List Int) → Prop) (H : impl_passing_impl_completionOf_1 sx l c7 c15 c24 Q) (w : World) {vx : Value} {hx : PH} (r : RS hx vx sx) (ex : Sub hx w) {vx1 : Value} {hx2 : PH} (r3 : RS hx2 vx1 l) (ex4 : Sub hx2 w) {vx8 : Value} {hx9 : PH} (r10 : RS hx9 vx8 c7) (ex11 : Sub hx9 w) {b : Nat} (ex14 : Sub (bx b 31 [vx8]) w) {vx16 : Value} {hx17 : PH} (r18 : RS hx17 vx16 c15) (ex19 : Sub hx17 w) {b22 : Nat} (ex23 : Sub (bx b22 31 [vx16]) w) {vx25 : Value} {hx26 : PH} (r27 : OS 3 hx26 emp vx25 c24) (ex28 : Sub hx26 w) (cn : CanV vx25 c24) {b31 : Nat} (ex32 : Sub (bx b31 31 [vx25]) w) (d : Dj hx26 (bx b31 31 [vx25])) (d33 : Dj hx26 hx) (d34 : Dj hx26 hx2) (d35 : Dj hx26 hx9) (d36 : Dj hx26 (bx b 31 [vx8])) (d37 : Dj hx26 hx17) (d38 : Dj hx26 (bx b22 31 [vx16])) (d39 : Dj (bx b31 31 [vx25]) hx) (d40 : Dj (bx b31 31 [vx25]) hx2) (d41 : Dj (bx b31 31 [vx25]) hx9) (d42 : Dj (bx b31 31 [vx25]) (bx b 31 [vx8])) (d43 : Dj (bx b31 31 [vx25]) hx17) (d44 : Dj (bx b31 31 [vx25]) (bx b22 31 [vx16])) :
  CallsTo Try.prog 189 #[vx, vx1, .func (.func 190) #[] #[pb b, pb b22, pb b31]] w fun v w' => ∃ m1 v1_ k1, Q m1 ∧ v = .tuple #[] ∧ But (un hx26 (bx b31 31 [vx25])) w w' ∧ OS 3 k1 emp v1_ m1 ∧ Sub k1 w' ∧ DomLe (un hx26 (bx b31 31 [vx25])) w.heap.size k1 ∧ Sub (bx b31 31 [v1_]) w' ∧ Dj k1 (bx b31 31 [v1_]) ∧ CanV v1_ m1 := by
 obtain ⟨a, c, rfl⟩ := r.shape
 obtain ⟨a5, c6, rfl⟩ := r3.shape
 obtain ⟨a12, c13, rfl⟩ := r10.shape
 obtain ⟨a20, c21, rfl⟩ := r18.shape
 obtain ⟨a29, c30, rfl⟩ := r27.shape
 refine enter (args := [sl a sx c, sl a5 l c6, .func (.func 190) #[] #[pb b, pb b22, pb b31]]) 27 Try.func189 rfl rfl rfl ?_
 refine W_forget [(0, sl a sx c), (1, sl a5 l c6), (2, .func (.func 190) #[] #[pb b, pb b22, pb b31])] ⟨rfl, rfl, rfl, trivial⟩ fun ρ => ?_
 obtain ⟨M, hM⟩ : ∃ M : PH, M = (un hx26 (bx b31 31 [sl a29 c24 c30])) := ⟨_, rfl⟩
 have D : Dom M hx26 := by subst hM; exact (Dom.l _ _)
 have D45 : Dom M (bx b31 31 [sl a29 c24 c30]) := by subst hM; exact (Dom.trans (Dom.r _ _) (Dom.refl _))
 have X := But.refl M w
 refine W_seq (W_region ?_)
 refine LP_ev ok 0 [(8, sl a sx c)] 1 rfl rfl ?_
 refine LP_call 1 rfl rfl rfl cal_68 rfl (impl_combinations_w _ _ H w r ex) ?_
 rintro _ wx ⟨r46, H, rfl, x⟩
 refine LP_ev ok 2 [(10, I 0)] 3 rfl rfl ?_
 refine LP_end _ rfl ?_
 refine W_block ?_
 obtain ⟨J, m, Hx, H⟩ := H
 refine W_loop (S := Int × (List Int)) (fun s ρ' w' => J s.1 s.2 ∧ ∃ (ρ : Env) (vx49 : Value) (hx50 : PH), ρ' = setAll [(0, sl a sx c), (1, sl a5 l c6), (2, .func (.func 190) #[] #[pb b, pb b22, pb b31]), (9, I r46), (10, I s.1)] ρ ∧ But M w w' ∧ OS 3 hx50 emp vx49 s.2 ∧ Sub hx50 w' ∧ DomLe M w.heap.size hx50 ∧ Sub hx w' ∧ Sub hx2 w' ∧ Sub hx9 w' ∧ Sub (bx b 31 [sl a12 c7 c13]) w' ∧ Sub hx17 w' ∧ Sub (bx b22 31 [sl a20 c15 c21]) w' ∧ Sub (bx b31 31 [vx49]) w' ∧ Dj hx50 hx ∧ Dj hx50 hx2 ∧ Dj hx50 hx9 ∧ Dj hx50 (bx b 31 [sl a12 c7 c13]) ∧ Dj hx50 hx17 ∧ Dj hx50 (bx b22 31 [sl a20 c15 c21]) ∧ Dj hx50 (bx b31 31 [vx49]) ∧ CanV vx49 s.2) (fun s => m s.1 s.2) (0, c24) ⟨Hx, _, sl a29 c24 c30, hx26, env_eq ⟨rfl, rfl, rfl, rfl, rfl, trivial⟩, (X.stepx x), r27, (ex28.ext x), (Dom.le D _), (ex.ext x), (ex4.ext x), (ex11.ext x), (ex14.ext x), (ex19.ext x), (ex23.ext x), (ex32.ext x), d33, d34, d35, d36, d37, d38, d, cn⟩ ?_
 rintro ⟨x47, x48⟩ _ wx52 ⟨Hi, ρ, vx49, hx50, rfl, HF⟩
 revert HF
 refine bb9 fun X70 o ex51 f ex53 ex54 ex55 ex56 => ?_
 refine bb9 fun ex57 ex58 ex61 d62 d63 d64 d65 d66 => ?_
 refine bb3 fun d67 d68 cn69 => ?_
 have H := H x47 x48 Hi
 obtain ⟨a59, c60, rfl⟩ := o.shape
 refine W_seq (W_region ?_)
 refine LP_ev ok 0 [(11, .bool (decide (x47 < r46)))] 1 rfl rfl ?_
 refine LP_end _ rfl (W_seq ?_)
 refine W_cond (decide (x47 < r46)) rfl (fun hc => ?_) (fun hc => ?_)
 ·have H := H.1 hc
  refine W_skip ?_
  refine W_seq ?_
  refine W_block ?_
  refine W_seq (W_region ?_)
  refine LP_ev ok 0 [(12, I x47), (6, I x47)] 2 rfl rfl ?_
  refine LP_end _ rfl (W_seq (W_region ?_))
  refine LP_ev ok 0 [(13, sl a sx c), (14, I x47)] 2 rfl rfl ?_
  refine LP_call 2 rfl rfl rfl cal_69 rfl (impl_valuesAt_w _ _ _ H wx52 r ex53) ?_
  rintro _ wx81 ⟨r80, vx83, hx84, H, rfl, x82, o85, ex86, f87⟩
  obtain ⟨a88, c89, rfl⟩ := o85.shape
  refine LP_ev ok 3 [(7, sl a88 r80 c89)] 4 rfl rfl ?_
  refine LP_end _ rfl ?_
  have X90 := (X70.stepx x82)
  have ex91 := (ex53.ext x82)
  have ex92 := (ex54.ext x82)
  have ex93 := (ex55.ext x82)
  have ex94 := (ex56.ext x82)
  have ex95 := (ex57.ext x82)
  have ex96 := (ex58.ext x82)
  have ex97 := (ex61.ext x82)
  have ex98 := (ex51.ext x82)
  have f99 := f87.mono X70.size
  obtain ⟨k, hk, H⟩ := jn_elim H
  refine W_join2 (S := Bool × (List Int)) (fun s ρ' w' => k s.1 s.2 ∧ ∃ (ρ : Env) (vx102 : Value) (hx103 : PH), ρ' = setAll [(0, sl a sx c), (1, sl a5 l c6), (2, .func (.func 190) #[] #[pb b, pb b22, pb b31]), (9, I r46), (10, I x47), (25, .bool s.1)] ρ ∧ But M w w' ∧ OS 3 hx103 emp vx102 s.2 ∧ Sub hx103 w' ∧ DomLe M w.heap.size hx103 ∧ Sub hx w' ∧ Sub hx2 w' ∧ Sub hx9 w' ∧ Sub (bx b 31 [sl a12 c7 c13]) w' ∧ Sub hx17 w' ∧ Sub (bx b22 31 [sl a20 c15 c21]) w' ∧ Sub (bx b31 31 [vx102]) w' ∧ Dj hx103 hx ∧ Dj hx103 hx2 ∧ Dj hx103 hx9 ∧ Dj hx103 (bx b 31 [sl a12 c7 c13]) ∧ Dj hx103 hx17 ∧ Dj hx103 (bx b22 31 [sl a20 c15 c21]) ∧ Dj hx103 (bx b31 31 [vx102]) ∧ CanV vx102 s.2) ?_ ?_
  ·refine W_region ?_
   refine LP_ev ok 0 [(16, sl a5 l c6), (17, sl a88 r80 c89)] 2 rfl rfl ?_
   refine LP_call 2 rfl rfl rfl cal_71 rfl (impl_failsOne_w _ _ _ H wx81 r3 ex92 o85.readf ex86) ?_
   rintro _ wx127 ⟨r126, H, rfl, x128⟩
   refine LP_ev ok 3 [(19, .bool (!r126)), (20, .bool (!r126))] 5 rfl rfl ?_
   refine LP_split 20 (!r126) rfl (fun hc129 => ?_) (fun hc129 => ?_)
   ·have H := H.1 hc129
    refine LP_ev ok 5 [(21, .func (.func 190) #[] #[pb b, pb b22, pb b31]), (22, sl a88 r80 c89)] 7 rfl rfl ?_
    have ex133 := (ex93.ext x128)
    have ex134 := (ex94.ext x128)
    have ex135 := (ex95.ext x128)
    have ex136 := (ex96.ext x128)
    refine LP_callc 7 rfl rfl rfl rfl cal_190 rfl rfl (impl_completionOf_1_w _ _ _ _ _ H wx127 o85 (ex86.ext x128) r10 ex133 ex134 r18 ex135 ex136 o (ex98.ext x128) cn69 (ex97.ext x128) (Dj.of_fresh ex51 f87).symm (Dj.of_fresh ex61 f87).symm d68 (Dj.of_fresh ex55 f87).symm (Dj.of_fresh ex56 f87).symm (Dj.of_fresh ex57 f87).symm (Dj.of_fresh ex58 f87).symm d64 d65 d66 d67 (Dj.box d41) (Dj.box d42) (Dj.box d43) (Dj.box d44)) ?_
    rintro _ wx139 ⟨r130, r131, vx144, hx141, H, rfl, x140, HF⟩
    revert HF
    refine bb6 fun o142 ex143 dm ex145 d146 cn147 => ?_
    obtain ⟨a148, c149, rfl⟩ := o142.shape
    refine LP_ev ok 8 [(24, .bool (!r130)), (25, .bool (!r130))] 10 rfl rfl ?_
    exact LP_end _ rfl ⟨(!r130, r131), H, _, sl a148 r131 c149, hx141, env_eq ⟨rfl, rfl, rfl, rfl, rfl, rfl, trivial⟩, ((X90.stepx x128).step x140 (DomLe.un (f99.dom _) (DomLe.un f (DomLe.dom D45 single_dom)))), o142, ex143, (DomLe.trans (DomLe.un (f99.dom _) (DomLe.un f (DomLe.dom D45 single_dom))) dm (X90.stepx x128).size), ((ex91.ext x128).but x140 (Dj.un_l (Dj.of_fresh ex53 f87).symm (Dj.un_l d62 (Dj.box d39)))), ((ex92.ext x128).but x140 (Dj.un_l (Dj.of_fresh ex54 f87).symm (Dj.un_l d63 (Dj.box d40)))), (ex133.but x140 (Dj.un_l (Dj.of_fresh ex55 f87).symm (Dj.un_l d64 (Dj.box d41)))), (ex134.but x140 (Dj.un_l (Dj.of_fresh ex56 f87).symm (Dj.un_l d65 (Dj.box d42)))), (ex135.but x140 (Dj.un_l (Dj.of_fresh ex57 f87).symm (Dj.un_l d66 (Dj.box d43)))), (ex136.but x140 (Dj.un_l (Dj.of_fresh ex58 f87).symm (Dj.un_l d67 (Dj.box d44)))), ex145, (DomLe.dj dm (Dj.un_l (Dj.of_fresh ex53 f87).symm (Dj.un_l d62 (Dj.box d39))) (ex91.ext x128)), (DomLe.dj dm (Dj.un_l (Dj.of_fresh ex54 f87).symm (Dj.un_l d63 (Dj.box d40))) (ex92.ext x128)), (DomLe.dj dm (Dj.un_l (Dj.of_fresh ex55 f87).symm (Dj.un_l d64 (Dj.box d41))) ex133), (DomLe.dj dm (Dj.un_l (Dj.of_fresh ex56 f87).symm (Dj.un_l d65 (Dj.box d42))) ex134), (DomLe.dj dm (Dj.un_l (Dj.of_fresh ex57 f87).symm (Dj.un_l d66 (Dj.box d43))) ex135), (DomLe.dj dm (Dj.un_l (Dj.of_fresh ex58 f87).symm (Dj.un_l d67 (Dj.box d44))) ex136), d146, cn147⟩
   have H := H.2 hc129
   refine LP_ev ok 5 [(21, undef), (22, undef), (23, undef), (24, undef), (25, .bool false)] 10 rfl rfl ?_
   exact LP_end _ rfl ⟨(false, x48), H, _, sl a59 x48 c60, hx50, env_eq ⟨rfl, rfl, rfl, rfl, rfl, rfl, trivial⟩, (X90.stepx x128), o, (ex98.ext x128), f, (ex91.ext x128), (ex92.ext x128), (ex93.ext x128), (ex94.ext x128), (ex95.ext x128), (ex96.ext x128), (ex97.ext x128), d62, d63, d64, d65, d66, d67, d68, cn69⟩
  rintro ⟨x100, x101⟩ _ wx107 ⟨H, ρ, vx102, hx103, rfl, HF⟩
  revert HF
  refine bb9 fun X125 o104 ex105 f106 ex108 ex109 ex110 ex111 => ?_
  refine bb9 fun ex112 ex113 ex116 d117 d118 d119 d120 d121 => ?_
  refine bb3 fun d122 d123 cn124 => ?_
  subst hk
  obtain ⟨a114, c115, rfl⟩ := o104.shape
  refine W_cond (x100) rfl (fun hc169 => ?_) (fun hc169 => ?_)
  ·have H := H.1 hc169
   refine W_ret ?_
   subst hM
   exact ⟨_, Ret_of [] trivial, _, _, _, H, rfl, X125, o104, ex105, f106, ex116, d123, cn124⟩
  have H := H.2 hc169
  refine W_skip ?_
  refine W_region ?_
  refine LP_ev ok 0 [(26, I (wr (x47 + 1))), (10, I (wr (x47 + 1)))] 2 rfl rfl ?_
  exact LP_end _ rfl ⟨(wr (x47 + 1), x101), ⟨H.1, _, sl a114 x101 c115, hx103, env_eq ⟨rfl, rfl, rfl, rfl, rfl, trivial⟩, X125, o104, ex105, f106, ex108, ex109, ex110, ex111, ex112, ex113, ex116, d117, d118, d119, d120, d121, d122, d123, cn124⟩, H.2⟩
 have H := H.2 hc
 refine W_exit ?_
 refine (if_pos rfl).mpr ?_
 subst hM
 exact ⟨_, Ret_of [] trivial, _, _, _, H, rfl, X70, o, ex51, f, ex61, d68, cn69⟩

theorem impl_completionOf_w (sx : List Variable) (l : List Edit) (fixed : List Int) (values : List Int) (Q : (List Int) → Prop) (H : impl_completionOf sx l fixed values Q) (w : World) {vx : Value} {hx : PH} (r : RS hx vx sx) (ex : Sub hx w) {vx1 : Value} {hx2 : PH} (r3 : RS hx2 vx1 l) (ex4 : Sub hx2 w) {vx7 : Value} {hx8 : PH} (r9 : RS hx8 vx7 fixed) (ex10 : Sub hx8 w) {vx13 : Value} {hx14 : PH} (r15 : RS hx14 vx13 values) (ex16 : Sub hx14 w) :
  CallsTo Try.prog 126 #[vx, vx1, vx7, vx13] w fun v w' => ∃ r0 u0 g0, Q r0 ∧ v = u0 ∧ Ext w w' ∧ OS 3 g0 emp u0 r0 ∧ Sub g0 w' ∧ Fresh w.heap.size g0 ∧ CanV u0 r0 := by
 obtain ⟨a, c, rfl⟩ := r.shape
 obtain ⟨a5, c6, rfl⟩ := r3.shape
 obtain ⟨a11, c12, rfl⟩ := r9.shape
 obtain ⟨a17, c18, rfl⟩ := r15.shape
 refine enter (args := [sl a sx c, sl a5 l c6, sl a11 fixed c12, sl a17 values c18]) 15 Try.func126 rfl rfl rfl ?_
 refine W_forget [(0, sl a sx c), (1, sl a5 l c6), (2, sl a11 fixed c12), (3, sl a17 values c18)] ⟨rfl, rfl, rfl, rfl, trivial⟩ fun ρ => ?_
 have X := But.refl emp w
 refine W_seq (W_region ?_)
 refine LP_box 0 (cs := [sl a11 fixed c12]) rfl rfl rfl rfl rfl fun b wx x ex19 f => ?_
 refine LP_box 1 (cs := [sl a17 values c18]) rfl rfl rfl rfl rfl fun b20 wx21 x22 ex23 f24 => ?_
 refine LP_ev ok 2 [(8, .slice none 0 0)] 3 rfl rfl ?_
 refine LP_end _ rfl (W_seq (W_region ?_))
 refine LP_alloc 0 rfl rfl rfl ti_31 rfl fun b25 wx26 x27 ex28 f29 => ?_
 refine LP_end _ rfl (W_seq (W_region ?_))
 refine LP_ev ok 0 [(10, sl a sx c), (11, sl a5 l c6), (12, .func (.func 190) #[] #[pb b, pb b20, pb b25])] 3 rfl rfl ?_
 have xc := (x.trans x22)
 have ex30 := (ex.ext xc)
 have ex31 := (ex4.ext xc)
 have ex32 := (ex10.ext xc)
 have ex33 := (ex19.ext x22)
 have ex34 := (ex16.ext xc)
 refine LP_call 3 rfl rfl rfl cal_189 rfl (impl_passing_impl_completionOf_1_w _ _ _ _ _ _ H wx26 r (ex30.ext x27) r3 (ex31.ext x27) r9 (ex32.ext x27) (ex33.ext x27) r15 (ex34.ext x27) (ex23.ext x27) (OS.nil (E := 3) (g := emp)) (emp_sub _) CanV.nil ex28 (Dj.emp_l _) (Dj.emp_l _) (Dj.emp_l _) (Dj.emp_l _) (Dj.emp_l _) (Dj.emp_l _) (Dj.emp_l _) (Dj.of_fresh ex30 f29).symm (Dj.of_fresh ex31 f29).symm (Dj.of_fresh ex32 f29).symm (Dj.of_fresh ex33 f29).symm (Dj.of_fresh ex34 f29).symm (Dj.of_fresh ex23 f29).symm) ?_
 rintro _ wx42 ⟨r35, vx46, hx44, H, rfl, x43, HF⟩
 revert HF
 refine bb6 fun o ex45 dm ex47 d cn => ?_
 obtain ⟨a48, c49, rfl⟩ := o.shape
 refine LP_end _ rfl (W_seq (W_region ?_))
 refine LP_ldbox 0 (v := sl a48 r35 c49) rfl rfl rfl ti_31 ag_31 (fun _ => rfl) rfl ex47 rfl rfl ?_
 refine LP_ev ok 1 [(8, sl a48 r35 c49)] 2 rfl rfl ?_
 refine LP_end _ rfl (W_ret ?_)
 have X51 := (X.stepx xc)
 have f50 := f29.mono X51.size
 have X53 := (X51.stepx x27)
 have f52 := DomLe.fresh dm (Fresh.un (emp_fresh _) f50) X53.size
 exact ⟨_, Ret_of [sl a48 r35 c49] ⟨⟨rfl, rfl⟩, trivial⟩, _, _, _, H, rfl, (X53.step x43 (DomLe.un (fun _ _ _ => rfl) (f50.dom _))).ext, o, ex45, f52, cn⟩

theorem impl_CanComplete_w (sx : List Variable) (l : List Edit) (fixed : List Int) (values : List Int) (Q : Bool → Bool → Prop) (H : impl_CanComplete sx l fixed values Q) (w : World) {vx : Value} {hx : PH} (r : RS hx vx sx) (ex : Sub hx w) {vx1 : Value} {hx2 : PH} (r3 : RS hx2 vx1 l) (ex4 : Sub hx2 w) {vx7 : Value} {hx8 : PH} (r9 : RS hx8 vx7 fixed) (ex10 : Sub hx8 w) {vx13 : Value} {hx14 : PH} (r15 : RS hx14 vx13 values) (ex16 : Sub hx14 w) :
  CallsTo Try.prog 57 #[vx, vx1, vx7, vx13] w fun v w' => ∃ r0 r1, Q r0 r1 ∧ v = .tuple #[.bool r0, .bool r1] ∧ Ext w w' := by
 obtain ⟨a, c, rfl⟩ := r.shape
 obtain ⟨a5, c6, rfl⟩ := r3.shape
 obtain ⟨a11, c12, rfl⟩ := r9.shape
 obtain ⟨a17, c18, rfl⟩ := r15.shape
 refine enter (args := [sl a sx c, sl a5 l c6, sl a11 fixed c12, sl a17 values c18]) 37 Try.func57 rfl rfl rfl ?_
 refine W_forget [(0, sl a sx c), (1, sl a5 l c6), (2, sl a11 fixed c12), (3, sl a17 values c18)] ⟨rfl, rfl, rfl, rfl, trivial⟩ fun ρ => ?_
 have X := But.refl emp w
 refine W_seq (W_region ?_)
 refine LP_ev ok 0 [(8, .bool false), (9, .bool false)] 2 rfl rfl ?_
 refine LP_end _ rfl (W_seq ?_)
 obtain ⟨k, hk, H⟩ := jn_elim H
 refine W_join2 (S := Bool) (fun s ρ' w' => k s ∧ ∃ (ρ : Env), ρ' = setAll [(0, sl a sx c), (1, sl a5 l c6), (2, sl a11 fixed c12), (3, sl a17 values c18), (30, .bool s)] ρ ∧ But emp w w' ∧ Sub hx w' ∧ Sub hx2 w' ∧ Sub hx8 w' ∧ Sub hx14 w') ?_ ?_
 ·refine W_region ?_
  refine LP_ev ok 0 [(10, sl a sx c)] 1 rfl rfl ?_
  refine LP_call 1 rfl rfl rfl cal_62 rfl (impl_isSmall_w _ _ H w r ex) ?_
  rintro _ wx25 ⟨r24, H, rfl, x26⟩
  refine LP_ev ok 2 [(12, .bool (!r24)), (13, .bool (!r24))] 4 rfl rfl ?_
  refine LP_split 13 (!r24) rfl (fun hc => ?_) (fun hc => ?_)
  ·have H := H.1 hc
   refine LP_ev ok 4 [(14, undef), (15, undef), (16, undef), (17, undef), (18, .bool true), (19, .bool true), (20, undef), (21, undef), (22, undef), (23, undef), (24, .bool true), (25, .bool true), (26, undef), (27, undef), (28, undef), (29, undef), (30, .bool true)] 21 rfl rfl ?_
   exact LP_end _ rfl ⟨true, H, _, env_eq ⟨rfl, rfl, rfl, rfl, rfl, trivial⟩, (X.stepx x26), (ex.ext x26), (ex4.ext x26), (ex10.ext x26), (ex16.ext x26)⟩
  have H := H.2 hc
  refine LP_ev ok 4 [(14, sl a sx c), (15, sl a5 l c6)] 6 rfl rfl ?_
  have ex33 := (ex.ext x26)
  have ex34 := (ex4.ext x26)
  refine LP_call 6 rfl rfl rfl cal_63 rfl (impl_areEdits_w _ _ _ H wx25 r ex33 r3 ex34) ?_
  rintro _ wx35 ⟨r32, H, rfl, x36⟩
  refine LP_ev ok 7 [(17, .bool (!r32)), (18, .bool (!r32)), (19, .bool (!r32))] 10 rfl rfl ?_
  refine LP_split 19 (!r32) rfl (fun hc37 => ?_) (fun hc37 => ?_)
  ·have H := H.1 hc37
   refine LP_ev ok 10 [(20, undef), (21, undef), (22, undef), (23, undef), (24, .bool true), (25, .bool true), (26, undef), (27, undef), (28, undef), (29, undef), (30, .bool true)] 21 rfl rfl ?_
   refine LP_end _ rfl ?_
   have xc := (x26.trans x36)
   exact ⟨true, H, _, env_eq ⟨rfl, rfl, rfl, rfl, rfl, trivial⟩, (X.stepx xc), (ex33.ext x36), (ex34.ext x36), (ex10.ext xc), (ex16.ext xc)⟩
  have H := H.2 hc37
  refine LP_ev ok 10 [(20, sl a sx c), (21, sl a11 fixed c12)] 12 rfl rfl ?_
  have ex44 := (ex33.ext x36)
  have xc45 := (x26.trans x36)
  have ex46 := (ex10.ext xc45)
  refine LP_call 12 rfl rfl rfl cal_125 rfl (impl_areVars_w _ _ _ H wx35 r ex44 r9 ex46) ?_
  rintro _ wx47 ⟨r43, H, rfl, x48⟩
  refine LP_ev ok 13 [(23, .bool (!r43)), (24, .bool (!r43)), (25, .bool (!r43))] 16 rfl rfl ?_
  refine LP_split 25 (!r43) rfl (fun hc49 => ?_) (fun hc49 => ?_)
  ·have H := H.1 hc49
   refine LP_ev ok 16 [(26, undef), (27, undef), (28, undef), (29, undef), (30, .bool true)] 21 rfl rfl ?_
   refine LP_end _ rfl ?_
   have xc50 := (xc45.trans x48)
   exact ⟨true, H, _, env_eq ⟨rfl, rfl, rfl, rfl, rfl, trivial⟩, (X.stepx xc50), (ex44.ext x48), (ex34.ext (x36.trans x48)), (ex46.ext x48), (ex16.ext xc50)⟩
  have H := H.2 hc49
  refine LP_ev ok 16 [(26, sl a sx c), (27, sl a17 values c18)] 18 rfl rfl ?_
  have ex58 := (ex44.ext x48)
  have xc59 := (xc45.trans x48)
  have ex60 := (ex16.ext xc59)
  refine LP_call 18 rfl rfl rfl cal_124 rfl (impl_areValues_w _ _ _ H wx47 r ex58 r15 ex60) ?_
  rintro _ wx61 ⟨r57, H, rfl, x62⟩
  refine LP_ev ok 19 [(29, .bool (!r57)), (30, .bool (!r57))] 21 rfl rfl ?_
  exact LP_end _ rfl ⟨!r57, H, _, env_eq ⟨rfl, rfl, rfl, rfl, rfl, trivial⟩, (X.stepx (xc59.trans x62)), (ex58.ext x62), (ex34.ext ((x36.trans x48).trans x62)), (ex46.ext (x48.trans x62)), (ex60.ext x62)⟩
 rintro x _ wx ⟨H, ρ, rfl, HF⟩
 revert HF
 refine bb5 fun X23 ex19 ex20 ex21 ex22 => ?_
 subst hk
 refine W_cond (x) rfl (fun hc71 => ?_) (fun hc71 => ?_)
 ·have H := H.1 hc71
  refine W_seq (W_region ?_)
  refine LP_ev ok 0 [(8, .bool false), (9, .bool false)] 2 rfl rfl ?_
  refine LP_end _ rfl (W_ret ?_)
  exact ⟨_, Ret_of [.bool false, .bool false] ⟨⟨rfl, rfl⟩, ⟨rfl, rfl⟩, trivial⟩, _, _, H, rfl, X23.ext⟩
 have H := H.2 hc71
 refine W_skip ?_
 refine W_seq (W_region ?_)
 refine LP_ev ok 0 [(31, sl a sx c), (32, sl a5 l c6), (33, sl a11 fixed c12), (34, sl a17 values c18)] 4 rfl rfl ?_
 refine LP_call 4 rfl rfl rfl cal_126 rfl (impl_completionOf_w _ _ _ _ _ H wx r ex19 r3 ex20 r9 ex21 r15 ex22) ?_
 rintro _ wx73 ⟨r72, vx75, hx76, H, rfl, x74, o, ex77, f, cn⟩
 obtain ⟨a78, c79, rfl⟩ := o.shape
 refine LP_val 5 _ rfl rfl (ex_nenilc rfl Try.underlying31 rfl rfl (cn _ _ _ rfl) _) ?_
 refine LP_ev ok 6 [(8, .bool (!(ln r72 == 0))), (9, .bool true)] 8 rfl rfl ?_
 refine LP_end _ rfl (W_ret ?_)
 exact ⟨_, Ret_of [.bool (!(ln r72 == 0)), .bool true] ⟨⟨rfl, rfl⟩, ⟨rfl, rfl⟩, trivial⟩, _, _, H, rfl, (X23.stepx x74).ext⟩

theorem spec_l1Cur_values_w (c : L1Cur) (sx : List Variable) (Q : (List Int) → Int → Int → Prop) (H : spec_l1Cur_values c sx Q) (w : World) {vx : Value} {hx : PH} (r : RS hx vx c.Code) (ex : Sub hx w) {b : Nat} (ex2 : Sub (bx b 99 [vx, I c.At, .int .u64 c.Seed]) w) {vx3 : Value} {hx4 : PH} (r5 : RS hx4 vx3 sx) (ex6 : Sub hx4 w) (d : Dj (bx b 99 [vx, I c.At, .int .u64 c.Seed]) hx) (d9 : Dj (bx b 99 [vx, I c.At, .int .u64 c.Seed]) hx4) :
  CallsTo Try.prog 223 #[pb b, vx3] w fun v w' => ∃ r0 m1_0 m1_1 u0 g0, Q r0 m1_0 m1_1 ∧ v = u0 ∧ But (bx b 99 [vx, I c.At, .int .u64 c.Seed]) w w' ∧ OS 3 g0 emp u0 r0 ∧ Sub g0 w' ∧ Fresh w.heap.size g0 ∧ Sub (bx b 99 [vx, I m1_0, .int .u64 m1_1]) w' ∧ Dj g0 (bx b 99 [vx, I m1_0, .int .u64 m1_1]) := by
 obtain ⟨a, c1, rfl⟩ := r.shape
 obtain ⟨a7, c8, rfl⟩ := r5.shape
 refine enter (args := [pb b, sl a7 sx c8]) 23 Try.func223 rfl rfl rfl ?_
 refine W_forget [(0, pb b), (1, sl a7 sx c8)] ⟨rfl, rfl, trivial⟩ fun ρ => ?_
 have D : Dom (bx b 99 [sl a c.Code c1, I c.At, .int .u64 c.Seed]) (bx b 99 [sl a c.Code c1, I c.At, .int .u64 c.Seed]) := (Dom.refl _)
 have X := But.refl (bx b 99 [sl a c.Code c1, I c.At, .int .u64 c.Seed]) w
 refine W_seq (W_region ?_)
 refine LP_ev ok 0 [(4, .slice none 0 0)] 1 rfl rfl ?_
 refine LP_end _ rfl (W_seq (W_region ?_))
 refine LP_ev ok 0 [(5, .slice none 0 0)] 1 rfl rfl ?_
 refine LP_end _ rfl (W_seq ?_)
 refine W_seq (W_region ?_)
 refine LP_ev ok 0 [(8, sl a7 sx c8), (9, I (ln sx)), (10, I 0)] 3 rfl rfl ?_
 refine LP_end _ rfl ?_
 refine W_block ?_
 obtain ⟨J, m, Hx, H⟩ := H
 refine W_loop (S := (List Int) × Int × Int × Int) (fun s ρ' w' => J s.1 s.2.1 s.2.2.1 s.2.2.2 ∧ ∃ (ρ : Env) (vx10 : Value) (hx11 : PH), ρ' = setAll [(0, pb b), (5, vx10), (8, sl a7 sx c8), (9, I (ln sx)), (10, I s.2.1)] ρ ∧ But (bx b 99 [sl a c.Code c1, I c.At, .int .u64 c.Seed]) w w' ∧ OS 3 hx11 emp vx10 s.1 ∧ Sub hx11 w' ∧ Fresh w.heap.size hx11 ∧ Sub hx w' ∧ Sub hx4 w' ∧ Sub (bx b 99 [sl a c.Code c1, I s.2.2.1, .int .u64 s.2.2.2]) w' ∧ Dj hx11 hx ∧ Dj hx11 hx4 ∧ Dj hx11 (bx b 99 [sl a c.Code c1, I s.2.2.1, .int .u64 s.2.2.2])) (fun s => m s.1 s.2.1 s.2.2.1 s.2.2.2) ([], 0, c.At, c.Seed) ⟨Hx, _, .slice none 0 0, emp, env_eq ⟨rfl, rfl, rfl, rfl, rfl, trivial⟩, X, OS.nil, (emp_sub _), (emp_fresh _), ex, ex6, ex2, (fun _ => .inl rfl), (fun _ => .inl rfl), (fun _ => .inl rfl)⟩ ?_
 rintro ⟨out, x, atx, seed⟩ _ wx ⟨Hi, ρ, vx10, hx11, rfl, HF⟩
 revert HF
 refine bb9 fun X21 o ex12 f ex13 ex14 ex17 d18 => ?_
 refine bb2 fun d19 d20 => ?_
 have H := H out x atx seed Hi
 obtain ⟨a15, c16, rfl⟩ := o.shape
 refine W_seq (W_region ?_)
 refine LP_ev ok 0 [(11, .bool (decide (x < (ln sx))))] 1 rfl rfl ?_
 refine LP_end _ rfl (W_seq ?_)
 refine W_cond (decide (x < (ln sx))) rfl (fun hc => ?_) (fun hc => ?_)
 ·have H := H.1 hc
  refine W_skip ?_
  refine W_seq ?_
  refine W_block ?_
  refine W_seq (W_region ?_)
  obtain ⟨x22, hi, hx23, H⟩ := H
  refine LP_index 0 rfl rfl rfl Try.underlying24 ti_167 rfl rfl r5 hi hx23 fun a24 cs r25 d26 => ?_
  refine LP_load 1 rfl rfl rfl ti_167 ag_167 rfl r25 d26 ex14 fun vx27 r28 => ?_
  obtain rfl := Variable_rv r28
  refine LP_alloc 2 rfl rfl rfl ti_167 rfl fun b29 wx30 x31 ex32 f33 => ?_
  refine LP_stbox 3 (vs := [.string x22.Name, I x22.Levels]) (cs' := [.string x22.Name, I x22.Levels]) rfl rfl rfl ti_167 rfl rfl rfl rfl rfl ex32 rfl rfl fun wx34 ex35 y => ?_
  refine LP_end _ rfl ?_
  refine W_region ?_
  refine LP_ev ok 0 [(14, sl a15 out c16), (15, pb b), (16, .pointer (some ⟨b29, 1, none⟩))] 3 rfl rfl ?_
  refine LP_ldbox 3 (v := I x22.Levels) rfl rfl rfl ti_3 ag_3 (fun _ => rfl) rfl ex35 rfl rfl ?_
  have ex39 := ((ex13.ext x31).but y (Dj.of_fresh ex13 f33).symm)
  refine LP_call 4 rfl rfl rfl cal_73 rfl (spec_l1Cur_pick_w _ _ _ H wx34 r ex39 ((ex17.ext x31).but y (Dj.of_fresh ex17 f33).symm) (Dj.box d)) ?_
  rintro _ wx41 ⟨r36, r37, r38, H, rfl, x42, ex43⟩
  refine LP_lit (α := Int) (g := emp) 5 (vs := [I r36]) (xs := [r36]) rfl rfl rfl Try.underlying31 ti_3 rfl rfl ⟨⟨_, rfl, rfl⟩, trivial⟩ rfl rfl fun hx44 vx45 wx46 x47 o48 ex49 f50 => ?_
  obtain ⟨a51, c52, rfl⟩ := o48.shape
  obtain ⟨hb, H⟩ := H
  refine LP_appendf (α := Int) 6 rfl rfl rfl Try.underlying31 ti_3 rfl rfl rfl o ((((ex12.ext x31).but y (Dj.of_fresh ex12 f33).symm).but x42 d20.symm).ext x47) o48.readf ex49 (by first | omega | (simp only [ln] at *; omega)) (by first | omega | (simp only [ln] at *; omega)) fun hx54 vx55 wx56 o57 ex58 y59 dm => ?_
  obtain ⟨a60, c61, rfl⟩ := o57.shape
  refine LP_ev ok 7 [(5, .slice a60 (List.length (out ++ ([r36]))) c61)] 8 rfl rfl ?_
  refine LP_end _ rfl ?_
  refine W_region ?_
  refine LP_ev ok 0 [(21, I (wr (x + 1))), (10, I (wr (x + 1)))] 2 rfl rfl ?_
  refine LP_end _ rfl ?_
  have f62 := f33.mono X21.size
  have f64 := dm.fresh f ((((X21.stepx x31).step y (f62.dom _)).step x42 (DomLe.dom D single_dom)).stepx x47).size
  exact ⟨(out ++ ([r36]), wr (x + 1), r37, r38), ⟨H.1, _, .slice a60 (List.length (out ++ ([r36]))) c61, hx54, env_eq ⟨rfl, rfl, rfl, rfl, rfl, trivial⟩, (((((X21.stepx x31).step y (f62.dom _)).step x42 (DomLe.dom D single_dom)).stepx x47).step y59 (f.dom _)), o57, ex58, f64, (((ex39.but x42 (Dj.box d)).ext x47).but y59 d18), (((((ex14.ext x31).but y (Dj.of_fresh ex14 f33).symm).but x42 (Dj.box d9)).ext x47).but y59 d19), ((ex43.ext x47).but y59 (Dj.box d20.symm).symm), (DomLe.dj dm d18 ((ex39.but x42 (Dj.box d)).ext x47)), (DomLe.dj dm d19 ((((ex14.ext x31).but y (Dj.of_fresh ex14 f33).symm).but x42 (Dj.box d9)).ext x47)), (DomLe.dj dm (Dj.box d20.symm).symm (ex43.ext x47))⟩, H.2⟩
 have H := H.2 hc
 refine W_exit ?_
 refine (if_pos rfl).mpr ?_
 refine W_seq (W_region ?_)
 refine LP_ev ok 0 [(22, sl a15 out c16), (4, sl a15 out c16)] 2 rfl rfl ?_
 refine LP_end _ rfl (W_ret ?_)
 exact ⟨_, Ret_of [sl a15 out c16] ⟨⟨rfl, rfl⟩, trivial⟩, _, _, _, _, _, H, rfl, X21, o, ex12, f, ex17, d20⟩

theorem spec_l1Cur_anyValues_w (c : L1Cur) (sx : List Variable) (Q : (List Int) → Int → Int → Prop) (H : spec_l1Cur_anyValues c sx Q) (w : World) {vx : Value} {hx : PH} (r : RS hx vx c.Code) (ex : Sub hx w) {b : Nat} (ex2 : Sub (bx b 99 [vx, I c.At, .int .u64 c.Seed]) w) {vx3 : Value} {hx4 : PH} (r5 : RS hx4 vx3 sx) (ex6 : Sub hx4 w) (d : Dj (bx b 99 [vx, I c.At, .int .u64 c.Seed]) hx) (d9 : Dj (bx b 99 [vx, I c.At, .int .u64 c.Seed]) hx4) :
  CallsTo Try.prog 191 #[pb b, vx3] w fun v w' => ∃ r0 m1_0 m1_1 u0 g0, Q r0 m1_0 m1_1 ∧ v = u0 ∧ But (bx b 99 [vx, I c.At, .int .u64 c.Seed]) w w' ∧ OS 3 g0 emp u0 r0 ∧ Sub g0 w' ∧ Fresh w.heap.size g0 ∧ Sub (bx b 99 [vx, I m1_0, .int .u64 m1_1]) w' ∧ Dj g0 (bx b 99 [vx, I m1_0, .int .u64 m1_1]) := by
 obtain ⟨a, c1, rfl⟩ := r.shape
 obtain ⟨a7, c8, rfl⟩ := r5.shape
 refine enter (args := [pb b, sl a7 sx c8]) 33 Try.func191 rfl rfl rfl ?_
 refine W_forget [(0, pb b), (1, sl a7 sx c8)] ⟨rfl, rfl, trivial⟩ fun ρ => ?_
 have D : Dom (bx b 99 [sl a c.Code c1, I c.At, .int .u64 c.Seed]) (bx b 99 [sl a c.Code c1, I c.At, .int .u64 c.Seed]) := (Dom.refl _)
 have X := But.refl (bx b 99 [sl a c.Code c1, I c.At, .int .u64 c.Seed]) w
 refine W_seq (W_region ?_)
 refine LP_ev ok 0 [(4, .slice none 0 0)] 1 rfl rfl ?_
 refine LP_end _ rfl (W_seq (W_region ?_))
 refine LP_ev ok 0 [(6, pb b), (7, sl a7 sx c8)] 2 rfl rfl ?_
 refine LP_call 2 rfl rfl rfl cal_223 rfl (spec_l1Cur_values_w _ _ _ H w r ex ex2 r5 ex6 d d9) ?_
 rintro _ wx ⟨r10, r11, r12, vx13, hx14, H, rfl, x, HF⟩
 revert HF
 refine bb5 fun o ex15 f ex16 d17 => ?_
 obtain ⟨a18, c19, rfl⟩ := o.shape
 refine LP_ev ok 3 [(5, sl a18 r10 c19)] 4 rfl rfl ?_
 refine LP_end _ rfl ?_
 have X20 := (X.step x (Dom.le D _))
 have ex21 := (ex.but x d)
 have f22 := f.mono X.size
 obtain ⟨k, hk, H⟩ := jn_elim H
 refine W_join2 (S := (List Int) × Int × Int) (fun s ρ' w' => k s.1 s.2.1 s.2.2 ∧ ∃ (ρ : Env) (hx24 : PH), ρ' = setAll [(5, sl a18 r10 c19)] ρ ∧ But (bx b 99 [sl a c.Code c1, I c.At, .int .u64 c.Seed]) w w' ∧ OS 3 hx24 emp (sl a18 r10 c19) s.1 ∧ Sub hx24 w' ∧ Fresh w.heap.size hx24 ∧ Sub hx w' ∧ Sub (bx b 99 [sl a c.Code c1, I s.2.1, .int .u64 s.2.2]) w' ∧ Dj hx24 hx ∧ Dj hx24 (bx b 99 [sl a c.Code c1, I s.2.1, .int .u64 s.2.2])) ?_ ?_
 ·refine W_block ?_
  obtain ⟨k42, hk43, H⟩ := jn_elim H
  refine W_join2 (S := Bool × Int × Int) (fun s ρ' w' => k42 s.1 s.2.1 s.2.2 ∧ ∃ (ρ : Env), ρ' = setAll [(0, pb b), (5, sl a18 r10 c19), (9, .bool s.1)] ρ ∧ But (bx b 99 [sl a c.Code c1, I c.At, .int .u64 c.Seed]) w w' ∧ Sub hx w' ∧ Sub hx14 w' ∧ Sub (bx b 99 [sl a c.Code c1, I s.2.1, .int .u64 s.2.2]) w') ?_ ?_
  ·refine W_region ?_
   refine LP_ev ok 0 [(10, sl a18 r10 c19), (11, I (ln r10)), (12, .bool (decide ((ln r10) > 0))), (13, .bool (decide ((ln r10) > 0)))] 4 rfl rfl ?_
   refine LP_split 13 (decide ((ln r10) > 0)) rfl (fun hc => ?_) (fun hc => ?_)
   ·have H := H.1 hc
    refine LP_ev ok 4 [(14, pb b)] 5 rfl rfl ?_
    refine LP_call 5 rfl rfl rfl cal_147 rfl (spec_l1Cur_one_w _ _ _ H wx r ex21 ex16 (Dj.box d)) ?_
    rintro _ wx47 ⟨r44, r45, r46, H, rfl, x48, ex49⟩
    refine LP_ev ok 6 [(16, .bool r44), (9, .bool r44)] 8 rfl rfl ?_
    exact LP_end _ rfl ⟨(r44, r45, r46), H, _, env_eq ⟨rfl, rfl, rfl, trivial⟩, (X20.step x48 (DomLe.dom D single_dom)), (ex21.but x48 (Dj.box d)), (ex15.but x48 d17.symm), ex49⟩
   have H := H.2 hc
   refine LP_ev ok 4 [(14, undef), (15, undef), (16, .bool false), (9, .bool false)] 8 rfl rfl ?_
   exact LP_end _ rfl ⟨(false, r11, r12), H, _, env_eq ⟨rfl, rfl, rfl, trivial⟩, X20, ex21, ex15, ex16⟩
  rintro ⟨x34, atx35, seed36⟩ _ wx37 ⟨H, ρ, rfl, X41, ex38, ex39, ex40⟩
  subst hk43
  refine W_cond (x34) rfl (fun hc53 => ?_) (fun hc53 => ?_)
  ·have H := H.1 hc53
   refine W_region ?_
   refine LP_ev ok 0 [(17, sl a18 r10 c19), (18, pb b), (19, sl a18 r10 c19), (20, I (ln r10))] 4 rfl rfl ?_
   refine LP_call 4 rfl rfl rfl cal_73 rfl (spec_l1Cur_pick_w _ _ _ H wx37 r ex38 ex40 (Dj.box d)) ?_
   rintro _ wx57 ⟨r54, r55, r56, H, rfl, x58, ex59⟩
   refine LP_ev ok 5 [(22, pb b)] 6 rfl rfl ?_
   refine LP_lit (α := Int) (g := emp) 6 (vs := [I ((-1)), I 2, I 8]) (xs := [(-1), 2, 8]) rfl rfl rfl Try.underlying31 ti_3 rfl rfl ⟨⟨_, rfl, rfl⟩, ⟨_, rfl, rfl⟩, ⟨_, rfl, rfl⟩, trivial⟩ rfl rfl fun hx60 vx61 wx62 x63 o64 ex65 f66 => ?_
   obtain ⟨a67, c68, rfl⟩ := o64.shape
   have ex72 := ((ex38.but x58 (Dj.box d)).ext x63)
   refine LP_call 7 rfl rfl rfl cal_180 rfl (spec_l1Cur_among_w _ _ _ H wx62 r ex72 (ex59.ext x63) o64.readf ex65 (Dj.box d) (Dj.of_fresh ex59 f66)) ?_
   rintro _ wx74 ⟨r69, r70, r71, H, rfl, x75, ex76⟩
   obtain ⟨hi, hl, H⟩ := H
   refine LP_indexw (v := sl a18 r10 c19) 8 rfl rfl rfl Try.underlying31 ti_3 rfl rfl o hi hl fun a77 wa => ?_
   refine LP_set 9 rfl rfl rfl rfl rfl wa (Le.refl emp) ⟨_, rfl, rfl⟩ (((ex39.but x58 (Dj.box d17.symm)).ext x63).but x75 (Dj.box d17.symm)) fun hx78 wx79 o80 ex81 y dm => ?_
   refine LP_end _ rfl ?_
   have f84 := (dm _).fresh f22 (((X41.step x58 (DomLe.dom D single_dom)).stepx x63).step x75 (DomLe.dom D single_dom)).size
   exact ⟨(List.set r10 (Int.toNat r54) r69, r70, r71), H, _, hx78, env_eq ⟨rfl, trivial⟩, ((((X41.step x58 (DomLe.dom D single_dom)).stepx x63).step x75 (DomLe.dom D single_dom)).step y (f22.dom _)), o80, ex81, f84, ((ex72.but x75 (Dj.box d)).but y (Dj.of_fresh ex f).symm), (ex76.but y (Dj.box d17.symm).symm), (DomLe.dj (dm _) (Dj.of_fresh ex f).symm (ex72.but x75 (Dj.box d))), (DomLe.dj (dm _) (Dj.box d17.symm).symm ex76)⟩
  have H := H.2 hc53
  refine W_seq (W_region ?_)
  refine LP_ev ok 0 [(27, pb b)] 1 rfl rfl ?_
  refine LP_call 1 rfl rfl rfl cal_147 rfl (spec_l1Cur_one_w _ _ _ H wx37 r ex38 ex40 (Dj.box d)) ?_
  rintro _ wx92 ⟨r89, r90, r91, H, rfl, x93, ex94⟩
  refine LP_ev ok 2 [(26, .bool r89)] 3 rfl rfl ?_
  refine LP_end _ rfl ?_
  refine W_cond (r89) rfl (fun hc95 => ?_) (fun hc95 => ?_)
  ·have H := H.1 hc95
   refine W_seq (W_region ?_)
   refine LP_ev ok 0 [(29, sl a18 r10 c19)] 1 rfl rfl ?_
   refine LP_lit (α := Int) (g := emp) 1 (vs := [I 0]) (xs := [0]) rfl rfl rfl Try.underlying31 ti_3 rfl rfl ⟨⟨_, rfl, rfl⟩, trivial⟩ rfl rfl fun hx96 vx97 wx98 x99 o100 ex101 f102 => ?_
   obtain ⟨a103, c104, rfl⟩ := o100.shape
   obtain ⟨hb, H⟩ := H
   refine LP_appendf (α := Int) 2 rfl rfl rfl Try.underlying31 ti_3 rfl rfl rfl o ((ex39.but x93 (Dj.box d17.symm)).ext x99) o100.readf ex101 (by first | omega | (simp only [ln] at *; omega)) (by first | omega | (simp only [ln] at *; omega)) fun hx106 vx107 wx108 o109 ex110 y111 dm112 => ?_
   obtain ⟨a113, c114, rfl⟩ := o109.shape
   refine LP_ev ok 3 [(4, .slice a113 (List.length (r10 ++ ([0]))) c114)] 4 rfl rfl ?_
   refine LP_end _ rfl (W_ret ?_)
   have X116 := ((X41.step x93 (DomLe.dom D single_dom)).stepx x99)
   have f115 := dm112.fresh f22 X116.size
   exact ⟨_, Ret_of [.slice a113 (List.length (r10 ++ ([0]))) c114] ⟨⟨rfl, rfl⟩, trivial⟩, _, _, _, _, _, H, rfl, (X116.step y111 (f22.dom _)), o109, ex110, f115, ((ex94.ext x99).but y111 (Dj.box d17.symm).symm), (DomLe.dj dm112 (Dj.box d17.symm).symm (ex94.ext x99))⟩
  have H := H.2 hc95
  exact W_skip ⟨(r10, r90, r91), H, _, hx14, env_eq ⟨rfl, trivial⟩, (X41.step x93 (DomLe.dom D single_dom)), o, (ex39.but x93 (Dj.box d17.symm)), f22, (ex38.but x93 (Dj.box d)), ex94, (Dj.of_fresh ex f).symm, (Dj.box d17.symm).symm⟩
 rintro ⟨out, atx, seed⟩ _ wx28 ⟨H, ρ, hx24, rfl, HF⟩
 revert HF
 refine bb8 fun X33 o25 ex26 f27 ex29 ex30 d31 d32 => ?_
 subst hk
 refine W_seq (W_region ?_)
 refine LP_ev ok 0 [(32, sl a18 r10 c19), (4, sl a18 r10 c19)] 2 rfl rfl ?_
 refine LP_end _ rfl (W_ret ?_)
 exact ⟨_, Ret_of [sl a18 r10 c19] ⟨⟨rfl, rfl⟩, trivial⟩, _, _, _, _, _, H, rfl, X33, o25, ex26, f27, ex30, d32⟩

theorem spec_DrawFailedEdits_w (code : List B8) (Q : (List Variable) → (List Edit) → (List Int) → Prop) (H : spec_DrawFailedEdits code Q) (w : World) {vx : Value} {hx : PH} (r : RS hx vx code) (ex : Sub hx w) :
  CallsTo Try.prog 127 #[vx] w fun v w' => ∃ r0 r1 r2 u0 g0 u1 g1 u2 g2, Q r0 r1 r2 ∧ v = .tuple #[u0, u1, u2] ∧ Ext w w' ∧ OS 167 g0 emp u0 r0 ∧ Sub g0 w' ∧ Fresh w.heap.size g0 ∧ OD g1 u1 r1 ∧ Sub g1 w' ∧ Fresh w.heap.size g1 ∧ OS 3 g2 emp u2 r2 ∧ Sub g2 w' ∧ Fresh w.heap.size g2 ∧ Dj g0 g1 ∧ Dj g0 g2 ∧ Dj g1 g2 := by
 obtain ⟨a, c, rfl⟩ := r.shape
 refine enter (args := [sl a code c]) 19 Try.func127 rfl rfl rfl ?_
 refine W_forget [(0, sl a code c)] ⟨rfl, trivial⟩ fun ρ => ?_
 have X := But.refl emp w
 refine W_seq (W_region ?_)
 refine LP_ev ok 0 [(2, .slice none 0 0), (3, .slice none 0 0), (4, .slice none 0 0)] 3 rfl rfl ?_
 refine LP_end _ rfl (W_seq (W_region ?_))
 refine LP_ev ok 0 [(7, sl a code c), (8, .agg #[sl a code c, I 0, .int .u64 0])] 2 rfl rfl ?_
 refine LP_box 2 (cs := [sl a code c, I 0, .int .u64 0]) rfl rfl rfl rfl rfl fun b wx x ex1 f => ?_
 refine LP_ev ok 3 [(5, pb b)] 4 rfl rfl ?_
 refine LP_end _ rfl (W_seq (W_region ?_))
 refine LP_ev ok 0 [(10, pb b)] 1 rfl rfl ?_
 have ex5 := (ex.ext x)
 refine LP_call 1 rfl rfl rfl cal_135 rfl (spec_l1Cur_anySchema_w _ _ H wx r ex5 ex1 (Dj.of_fresh ex f).symm) ?_
 rintro _ wx6 ⟨r2, r3, r4, vx8, hx9, H, rfl, x7, HF⟩
 revert HF
 refine bb5 fun o ex10 f11 ex12 d => ?_
 obtain ⟨a13, c14, rfl⟩ := o.shape
 refine LP_ev ok 2 [(6, sl a13 r2 c14)] 3 rfl rfl ?_
 refine LP_end _ rfl (W_seq (W_region ?_))
 refine LP_ev ok 0 [(12, sl a13 r2 c14), (13, pb b), (14, sl a13 r2 c14)] 3 rfl rfl ?_
 have ex18 := (ex5.but x7 (Dj.of_fresh ex f).symm)
 refine LP_call 3 rfl rfl rfl cal_136 rfl (spec_l1Cur_edits_w _ _ _ H wx6 r ex18 ex12 o.readf ex10 (Dj.box (Dj.of_fresh ex f).symm) d.symm) ?_
 rintro _ wx19 ⟨r15, r16, r17, vx21, hx22, H, rfl, x20, HF⟩
 revert HF
 refine bb5 fun o23 ex24 f25 ex26 d27 => ?_
 obtain ⟨a28, c29, rfl⟩ := o23.shape
 refine LP_ev ok 4 [(16, pb b), (17, sl a13 r2 c14)] 6 rfl rfl ?_
 have ex34 := (ex10.but x20 d.symm)
 refine LP_call 6 rfl rfl rfl cal_191 rfl (spec_l1Cur_anyValues_w _ _ _ H wx19 r (ex18.but x20 (Dj.box (Dj.of_fresh ex f).symm)) ex26 o.readf ex34 (Dj.box (Dj.of_fresh ex f).symm) (Dj.box d.symm)) ?_
 rintro _ wx35 ⟨r30, r31, r32, vx37, hx38, H, rfl, x36, HF⟩
 revert HF
 refine bb5 fun o39 ex40 f41 ex42 d43 => ?_
 obtain ⟨a44, c45, rfl⟩ := o39.shape
 refine LP_ev ok 7 [(2, sl a13 r2 c14), (3, sl a28 r15 c29), (4, sl a44 r30 c45)] 10 rfl rfl ?_
 refine LP_end _ rfl (W_ret ?_)
 have X48 := (X.stepx x)
 have f47 := f11.mono X48.size
 have f51 := f.mono X.size
 have X52 := (X48.step x7 (f51.dom _))
 have f50 := f25.mono X52.size
 have X54 := (X52.step x20 ((Fresh.box f51).dom _))
 have f53 := f41.mono X54.size
 exact ⟨_, Ret_of [sl a13 r2 c14, sl a28 r15 c29, sl a44 r30 c45] ⟨⟨rfl, rfl⟩, ⟨rfl, rfl⟩, ⟨rfl, rfl⟩, trivial⟩, _, _, _, _, _, _, _, _, _, H, rfl, (X54.step x36 ((Fresh.box f51).dom _)).ext, o, (ex34.but x36 (Dj.box d.symm)), f47, o23, (ex24.but x36 d27.symm), f50, o39, ex40, f53, (Dj.of_fresh ex10 f25), (Dj.of_fresh ex34 f41), (Dj.of_fresh ex24 f41)⟩

theorem spec_DrawSmallestCover_w (code : List B8) (Q : (List Variable) → (List Edit) → (List Int) → Prop) (H : spec_DrawSmallestCover code Q) (w : World) {vx : Value} {hx : PH} (r : RS hx vx code) (ex : Sub hx w) :
  CallsTo Try.prog 58 #[vx] w fun v w' => ∃ r0 r1 r2 u0 g0 u1 g1 u2 g2, Q r0 r1 r2 ∧ v = .tuple #[u0, u1, u2] ∧ Ext w w' ∧ OS 167 g0 emp u0 r0 ∧ Sub g0 w' ∧ Fresh w.heap.size g0 ∧ OD g1 u1 r1 ∧ Sub g1 w' ∧ Fresh w.heap.size g1 ∧ OS 3 g2 emp u2 r2 ∧ Sub g2 w' ∧ Fresh w.heap.size g2 ∧ Dj g0 g1 ∧ Dj g0 g2 ∧ Dj g1 g2 := by
 obtain ⟨a, c, rfl⟩ := r.shape
 refine enter (args := [sl a code c]) 10 Try.func58 rfl rfl rfl ?_
 refine W_forget [(0, sl a code c)] ⟨rfl, trivial⟩ fun ρ => ?_
 have X := But.refl emp w
 refine W_seq (W_region ?_)
 refine LP_ev ok 0 [(2, .slice none 0 0), (3, .slice none 0 0), (4, .slice none 0 0)] 3 rfl rfl ?_
 refine LP_end _ rfl (W_seq (W_region ?_))
 refine LP_ev ok 0 [(5, sl a code c)] 1 rfl rfl ?_
 refine LP_call 1 rfl rfl rfl cal_127 rfl (spec_DrawFailedEdits_w _ _ H w r ex) ?_
 rintro _ wx ⟨r1, r2, r3, vx4, hx5, vx7, hx8, vx12, hx13, H, rfl, x, HF⟩
 revert HF
 refine bb9 fun o ex6 f o9 ex10 f11 o14 ex15 => ?_
 refine bb4 fun f16 d d17 d18 => ?_
 obtain ⟨a19, c20, rfl⟩ := o.shape
 obtain ⟨a21, c22, rfl⟩ := o9.shape
 obtain ⟨a23, c24, rfl⟩ := o14.shape
 refine LP_ev ok 2 [(7, sl a19 r1 c20), (8, sl a21 r2 c22), (9, sl a23 r3 c24), (2, sl a19 r1 c20), (3, sl a21 r2 c22), (4, sl a23 r3 c24)] 8 rfl rfl ?_
 refine LP_end _ rfl (W_ret ?_)
 have f25 := f.mono X.size
 have f26 := f11.mono X.size
 have f27 := f16.mono X.size
 exact ⟨_, Ret_of [sl a19 r1 c20, sl a21 r2 c22, sl a23 r3 c24] ⟨⟨rfl, rfl⟩, ⟨rfl, rfl⟩, ⟨rfl, rfl⟩, trivial⟩, _, _, _, _, _, _, _, _, _, H, rfl, (X.stepx x).ext, o, ex6, f25, o9, ex10, f26, o14, ex15, f27, d, d17, d18⟩

theorem impl_membersOf_w (mask : Int) (Q : (List Int) → Prop) (H : impl_membersOf mask Q) (w : World)  :
  CallsTo Try.prog 192 #[I mask] w fun v w' => ∃ r0 u0 g0, Q r0 ∧ v = u0 ∧ Ext w w' ∧ OS 3 g0 emp u0 r0 ∧ Sub g0 w' ∧ Fresh w.heap.size g0 := by
 refine enter (args := [I mask]) 21 Try.func192 rfl rfl rfl ?_
 refine W_forget [(0, I mask)] ⟨rfl, trivial⟩ fun ρ => ?_
 have X := But.refl emp w
 refine W_seq (W_region ?_)
 refine LP_ev ok 0 [(2, .slice none 0 0)] 1 rfl rfl ?_
 refine LP_end _ rfl (W_seq (W_region ?_))
 refine LP_ev ok 0 [(3, .slice none 0 0)] 1 rfl rfl ?_
 refine LP_end _ rfl (W_seq ?_)
 refine W_seq (W_region ?_)
 refine LP_ev ok 0 [(4, I 0)] 1 rfl rfl ?_
 refine LP_end _ rfl ?_
 refine W_block ?_
 obtain ⟨J, m, Hx, H⟩ := H
 refine W_loop (S := (List Int) × Int) (fun s ρ' w' => J s.1 s.2 ∧ ∃ (ρ : Env) (vx : Value) (hx : PH), ρ' = setAll [(0, I mask), (3, vx), (4, I s.2)] ρ ∧ But emp w w' ∧ OS 3 hx emp vx s.1 ∧ Sub hx w' ∧ Fresh w.heap.size hx) (fun s => m s.1 s.2) ([], 0) ⟨Hx, _, .slice none 0 0, emp, env_eq ⟨rfl, rfl, rfl, trivial⟩, X, OS.nil, (emp_sub _), (emp_fresh _)⟩ ?_
 rintro ⟨out, i⟩ _ wx ⟨Hi, ρ, vx, hx, rfl, X1, o, ex, f⟩
 have H := H out i Hi
 obtain ⟨a, c, rfl⟩ := o.shape
 refine W_seq ?_
 refine W_seq (W_region ?_)
 refine LP_ev ok 0 [(5, I mask), (6, I i)] 2 rfl rfl ?_
 obtain ⟨hz, H⟩ := H
 refine LP_val 2 _ rfl rfl (ex_shr rfl rfl rfl hz _) ?_
 refine LP_ev ok 3 [(8, .bool ((shr .i64 mask i) != 0))] 4 rfl rfl ?_
 refine LP_end _ rfl ?_
 refine W_cond ((shr .i64 mask i) != 0) rfl (fun hc => ?_) (fun hc => ?_)
 ·have H := H.1 hc
  refine W_skip ?_
  obtain ⟨k, hk, H⟩ := jn_elim H
  refine W_join2 (S := (List Int)) (fun s ρ' w' => k s ∧ ∃ (ρ : Env) (vx3 : Value) (hx4 : PH), ρ' = setAll [(0, I mask), (3, vx3), (4, I i)] ρ ∧ But emp w w' ∧ OS 3 hx4 emp vx3 s ∧ Sub hx4 w' ∧ Fresh w.heap.size hx4) ?_ ?_
  ·refine W_block ?_
   refine W_seq (W_region ?_)
   refine LP_ev ok 0 [(11, I mask), (12, I i)] 2 rfl rfl ?_
   obtain ⟨hz12, H⟩ := H
   refine LP_val 2 _ rfl rfl (ex_shr rfl rfl rfl hz12 _) ?_
   refine LP_ev ok 3 [(14, I (bits .and .i64 (shr .i64 mask i) 1)), (15, .bool ((bits .and .i64 (shr .i64 mask i) 1) == 1))] 5 rfl rfl ?_
   refine LP_end _ rfl ?_
   refine W_cond ((bits .and .i64 (shr .i64 mask i) 1) == 1) rfl (fun hc13 => ?_) (fun hc13 => ?_)
   ·have H := H.1 hc13
    refine W_region ?_
    refine LP_ev ok 0 [(16, sl a out c), (17, I i)] 2 rfl rfl ?_
    refine LP_lit (α := Int) (g := emp) 2 (vs := [I i]) (xs := [i]) rfl rfl rfl Try.underlying31 ti_3 rfl rfl ⟨⟨_, rfl, rfl⟩, trivial⟩ rfl rfl fun hx14 vx15 wx16 x o17 ex18 f19 => ?_
    obtain ⟨a20, c21, rfl⟩ := o17.shape
    obtain ⟨hb, H⟩ := H
    refine LP_appendf (α := Int) 3 rfl rfl rfl Try.underlying31 ti_3 rfl rfl rfl o (ex.ext x) o17.readf ex18 (by first | omega | (simp only [ln] at *; omega)) (by first | omega | (simp only [ln] at *; omega)) fun hx23 vx24 wx25 o26 ex27 y dm => ?_
    obtain ⟨a28, c29, rfl⟩ := o26.shape
    refine LP_ev ok 4 [(3, .slice a28 (List.length (out ++ ([i]))) c29)] 5 rfl rfl ?_
    refine LP_end _ rfl ?_
    have f31 := dm.fresh f (X1.stepx x).size
    exact ⟨out ++ ([i]), H, _, .slice a28 (List.length (out ++ ([i]))) c29, hx23, env_eq ⟨rfl, rfl, rfl, trivial⟩, ((X1.stepx x).step y (f.dom _)), o26, ex27, f31⟩
   have H := H.2 hc13
   exact W_skip ⟨out, H, _, sl a out c, hx, env_eq ⟨rfl, rfl, rfl, trivial⟩, X1, o, ex, f⟩
  rintro out2 _ wx8 ⟨H, ρ, vx3, hx4, rfl, X11, o5, ex6, f7⟩
  subst hk
  obtain ⟨a9, c10, rfl⟩ := o5.shape
  refine W_region ?_
  refine LP_ev ok 0 [(9, I i), (10, I (wr (i + 1))), (4, I (wr (i + 1)))] 3 rfl rfl ?_
  exact LP_end _ rfl ⟨(out2, wr (i + 1)), ⟨H.1, _, sl a9 out2 c10, hx4, env_eq ⟨rfl, rfl, rfl, trivial⟩, X11, o5, ex6, f7⟩, H.2⟩
 have H := H.2 hc
 refine W_exit ?_
 refine (if_pos rfl).mpr ?_
 refine W_seq (W_region ?_)
 refine LP_ev ok 0 [(20, sl a out c), (2, sl a out c)] 2 rfl rfl ?_
 refine LP_end _ rfl (W_ret ?_)
 exact ⟨_, Ret_of [sl a out c] ⟨⟨rfl, rfl⟩, trivial⟩, _, _, _, H, rfl, X1.ext, o, ex, f⟩

theorem slices_Index_int_int_w (sx : List Int) (vx1 : Int) (Q : Int → Prop) (H : slices_Index_int_int sx vx1 Q) (w : World) {vx : Value} {hx : PH} (r : RS hx vx sx) (ex : Sub hx w) :
  CallsTo Try.prog 233 #[vx, I vx1] w fun v w' => ∃ r0, Q r0 ∧ v = I r0 ∧ Ext w w' := by
 obtain ⟨a, c, rfl⟩ := r.shape
 refine enter (args := [sl a sx c, I vx1]) 19 Try.func233 rfl rfl rfl ?_
 refine W_forget [(0, sl a sx c), (1, I vx1)] ⟨rfl, rfl, trivial⟩ fun ρ => ?_
 have X := But.refl emp w
 refine W_seq (W_region ?_)
 refine LP_ev ok 0 [(4, I 0)] 1 rfl rfl ?_
 refine LP_end _ rfl (W_seq ?_)
 refine W_seq (W_region ?_)
 refine LP_ev ok 0 [(6, sl a sx c), (7, I (ln sx)), (8, I 0)] 3 rfl rfl ?_
 refine LP_end _ rfl ?_
 refine W_block ?_
 obtain ⟨J, m, Hx, H⟩ := H
 refine W_loop (S := Int) (fun s ρ' w' => J s ∧ ∃ (ρ : Env), ρ' = setAll [(0, sl a sx c), (1, I vx1), (7, I (ln sx)), (8, I s)] ρ ∧ w = w') (fun s => m s) 0 ⟨Hx, _, env_eq ⟨rfl, rfl, rfl, rfl, trivial⟩, rfl⟩ ?_
 rintro x _ _ ⟨Hi, ρ, rfl, rfl⟩
 have H := H x Hi
 refine W_seq (W_region ?_)
 refine LP_ev ok 0 [(9, .bool (decide (x < (ln sx))))] 1 rfl rfl ?_
 refine LP_end _ rfl (W_seq ?_)
 refine W_cond (decide (x < (ln sx))) rfl (fun hc => ?_) (fun hc => ?_)
 ·have H := H.1 hc
  refine W_skip ?_
  refine W_seq ?_
  refine W_block ?_
  refine W_seq (W_region ?_)
  refine LP_ev ok 0 [(10, I x), (5, I x)] 2 rfl rfl ?_
  refine LP_end _ rfl (W_seq (W_region ?_))
  refine LP_ev ok 0 [(11, I vx1), (12, sl a sx c), (13, I x)] 3 rfl rfl ?_
  obtain ⟨x2, hi, hx3, H⟩ := H
  refine LP_index 3 rfl rfl rfl Try.underlying31 ti_3 rfl rfl r hi hx3 fun a4 cs r5 d => ?_
  refine LP_load 4 rfl rfl rfl ti_3 ag_3 rfl r5 d ex fun vx6 r7 => ?_
  obtain rfl := r7.int
  refine LP_ev ok 5 [(16, .bool (vx1 == x2))] 6 rfl rfl ?_
  refine LP_end _ rfl ?_
  refine W_cond (vx1 == x2) rfl (fun hc8 => ?_) (fun hc8 => ?_)
  ·have H := H.1 hc8
   refine W_seq (W_region ?_)
   refine LP_ev ok 0 [(17, I x), (4, I x)] 2 rfl rfl ?_
   refine LP_end _ rfl (W_ret ?_)
   exact ⟨_, Ret_of [I x] ⟨⟨rfl, rfl⟩, trivial⟩, _, H, rfl, X.ext⟩
  have H := H.2 hc8
  refine W_skip ?_
  refine W_region ?_
  refine LP_ev ok 0 [(18, I (wr (x + 1))), (8, I (wr (x + 1)))] 2 rfl rfl ?_
  exact LP_end _ rfl ⟨wr (x + 1), ⟨H.1, _, env_eq ⟨rfl, rfl, rfl, rfl, trivial⟩, rfl⟩, H.2⟩
 have H := H.2 hc
 refine W_exit ?_
 refine (if_pos rfl).mpr ?_
 refine W_seq (W_region ?_)
 refine LP_ev ok 0 [(4, I ((-1)))] 1 rfl rfl ?_
 refine LP_end _ rfl (W_ret ?_)
 exact ⟨_, Ret_of [I ((-1))] ⟨⟨rfl, rfl⟩, trivial⟩, _, H, rfl, X.ext⟩

theorem slices_Contains_int_int_w (sx : List Int) (vx1 : Int) (Q : Bool → Prop) (H : slices_Contains_int_int sx vx1 Q) (w : World) {vx : Value} {hx : PH} (r : RS hx vx sx) (ex : Sub hx w) :
  CallsTo Try.prog 225 #[vx, I vx1] w fun v w' => ∃ r0, Q r0 ∧ v = .bool r0 ∧ Ext w w' := by
 obtain ⟨a, c, rfl⟩ := r.shape
 refine enter (args := [sl a sx c, I vx1]) 9 Try.func225 rfl rfl rfl ?_
 refine W_forget [(0, sl a sx c), (1, I vx1)] ⟨rfl, rfl, trivial⟩ fun ρ => ?_
 have X := But.refl emp w
 refine W_seq (W_region ?_)
 refine LP_ev ok 0 [(4, .bool false)] 1 rfl rfl ?_
 refine LP_end _ rfl (W_seq (W_region ?_))
 refine LP_ev ok 0 [(5, sl a sx c), (6, I vx1)] 2 rfl rfl ?_
 refine LP_call 2 rfl rfl rfl cal_233 rfl (slices_Index_int_int_w _ _ _ H w r ex) ?_
 rintro _ wx ⟨r2, H, rfl, x⟩
 refine LP_ev ok 3 [(8, .bool (decide (r2 ≥ 0))), (4, .bool (decide (r2 ≥ 0)))] 5 rfl rfl ?_
 refine LP_end _ rfl (W_ret ?_)
 exact ⟨_, Ret_of [.bool (decide (r2 ≥ 0))] ⟨⟨rfl, rfl⟩, trivial⟩, _, H, rfl, (X.stepx x).ext⟩

theorem impl_otherVars_w (sx : List Variable) (vars : List Int) (Q : (List Int) → Prop) (H : impl_otherVars sx vars Q) (w : World) {vx : Value} {hx : PH} (r : RS hx vx sx) (ex : Sub hx w) {vx1 : Value} {hx2 : PH} (r3 : RS hx2 vx1 vars) (ex4 : Sub hx2 w) :
  CallsTo Try.prog 196 #[vx, vx1] w fun v w' => ∃ r0 u0 g0, Q r0 ∧ v = u0 ∧ Ext w w' ∧ OS 3 g0 emp u0 r0 ∧ Sub g0 w' ∧ Fresh w.heap.size g0 := by
 obtain ⟨a, c, rfl⟩ := r.shape
 obtain ⟨a5, c6, rfl⟩ := r3.shape
 refine enter (args := [sl a sx c, sl a5 vars c6]) 22 Try.func196 rfl rfl rfl ?_
 refine W_forget [(0, sl a sx c), (1, sl a5 vars c6)] ⟨rfl, rfl, trivial⟩ fun ρ => ?_
 have X := But.refl emp w
 refine W_seq (W_region ?_)
 refine LP_ev ok 0 [(4, .slice none 0 0)] 1 rfl rfl ?_
 refine LP_end _ rfl (W_seq (W_region ?_))
 refine LP_ev ok 0 [(5, .slice none 0 0)] 1 rfl rfl ?_
 refine LP_end _ rfl (W_seq ?_)
 refine W_seq (W_region ?_)
 refine LP_ev ok 0 [(7, sl a sx c), (8, I (ln sx)), (9, I 0)] 3 rfl rfl ?_
 refine LP_end _ rfl ?_
 refine W_block ?_
 obtain ⟨J, m, Hx, H⟩ := H
 refine W_loop (S := (List Int) × Int) (fun s ρ' w' => J s.1 s.2 ∧ ∃ (ρ : Env) (vx7 : Value) (hx8 : PH), ρ' = setAll [(1, sl a5 vars c6), (5, vx7), (8, I (ln sx)), (9, I s.2)] ρ ∧ But emp w w' ∧ OS 3 hx8 emp vx7 s.1 ∧ Sub hx8 w' ∧ Fresh w.heap.size hx8 ∧ Sub hx2 w' ∧ Dj hx8 hx2) (fun s => m s.1 s.2) ([], 0) ⟨Hx, _, .slice none 0 0, emp, env_eq ⟨rfl, rfl, rfl, rfl, trivial⟩, X, OS.nil, (emp_sub _), (emp_fresh _), ex4, (fun _ => .inl rfl)⟩ ?_
 rintro ⟨out, x⟩ _ wx ⟨Hi, ρ, vx7, hx8, rfl, HF⟩
 revert HF
 refine bb6 fun X13 o ex9 f ex10 d => ?_
 have H := H out x Hi
 obtain ⟨a11, c12, rfl⟩ := o.shape
 refine W_seq (W_region ?_)
 refine LP_ev ok 0 [(10, .bool (decide (x < (ln sx))))] 1 rfl rfl ?_
 refine LP_end _ rfl (W_seq ?_)
 refine W_cond (decide (x < (ln sx))) rfl (fun hc => ?_) (fun hc => ?_)
 ·have H := H.1 hc
  refine W_skip ?_
  obtain ⟨k, hk, H⟩ := jn_elim H
  refine W_join2 (S := (List Int)) (fun s ρ' w' => k s ∧ ∃ (ρ : Env) (vx15 : Value) (hx16 : PH), ρ' = setAll [(1, sl a5 vars c6), (5, vx15), (8, I (ln sx)), (9, I x)] ρ ∧ But emp w w' ∧ OS 3 hx16 emp vx15 s ∧ Sub hx16 w' ∧ Fresh w.heap.size hx16 ∧ Sub hx2 w' ∧ Dj hx16 hx2) ?_ ?_
  ·refine W_block ?_
   refine W_seq (W_region ?_)
   refine LP_ev ok 0 [(11, I x), (6, I x)] 2 rfl rfl ?_
   refine LP_end _ rfl (W_seq (W_region ?_))
   refine LP_ev ok 0 [(12, sl a5 vars c6), (13, I x)] 2 rfl rfl ?_
   refine LP_call 2 rfl rfl rfl cal_225 rfl (slices_Contains_int_int_w _ _ _ H wx r3 ex10) ?_
   rintro _ wx27 ⟨r26, H, rfl, x28⟩
   refine LP_ev ok 3 [(15, .bool (!r26))] 4 rfl rfl ?_
   refine LP_end _ rfl ?_
   refine W_cond (!r26) rfl (fun hc29 => ?_) (fun hc29 => ?_)
   ·have H := H.1 hc29
    refine W_region ?_
    refine LP_ev ok 0 [(16, sl a11 out c12), (17, I x)] 2 rfl rfl ?_
    refine LP_lit (α := Int) (g := emp) 2 (vs := [I x]) (xs := [x]) rfl rfl rfl Try.underlying31 ti_3 rfl rfl ⟨⟨_, rfl, rfl⟩, trivial⟩ rfl rfl fun hx30 vx31 wx32 x33 o34 ex35 f36 => ?_
    obtain ⟨a37, c38, rfl⟩ := o34.shape
    have xc := (x28.trans x33)
    obtain ⟨hb, H⟩ := H
    refine LP_appendf (α := Int) 3 rfl rfl rfl Try.underlying31 ti_3 rfl rfl rfl o (ex9.ext xc) o34.readf ex35 (by first | omega | (simp only [ln] at *; omega)) (by first | omega | (simp only [ln] at *; omega)) fun hx40 vx41 wx42 o43 ex44 y dm => ?_
    obtain ⟨a45, c46, rfl⟩ := o43.shape
    refine LP_ev ok 4 [(5, .slice a45 (List.length (out ++ ([x]))) c46)] 5 rfl rfl ?_
    refine LP_end _ rfl ?_
    have f48 := dm.fresh f (X13.stepx xc).size
    exact ⟨out ++ ([x]), H, _, .slice a45 (List.length (out ++ ([x]))) c46, hx40, env_eq ⟨rfl, rfl, rfl, rfl, trivial⟩, ((X13.stepx xc).step y (f.dom _)), o43, ex44, f48, ((ex10.ext xc).but y d), (DomLe.dj dm d (ex10.ext xc))⟩
   have H := H.2 hc29
   exact W_skip ⟨out, H, _, sl a11 out c12, hx8, env_eq ⟨rfl, rfl, rfl, rfl, trivial⟩, (X13.stepx x28), o, (ex9.ext x28), f, (ex10.ext x28), d⟩
  rintro out14 _ wx20 ⟨H, ρ, vx15, hx16, rfl, HF⟩
  revert HF
  refine bb6 fun X25 o17 ex18 f19 ex21 d24 => ?_
  subst hk
  obtain ⟨a22, c23, rfl⟩ := o17.shape
  refine W_region ?_
  refine LP_ev ok 0 [(20, I (wr (x + 1))), (9, I (wr (x + 1)))] 2 rfl rfl ?_
  exact LP_end _ rfl ⟨(out14, wr (x + 1)), ⟨H.1, _, sl a22 out14 c23, hx16, env_eq ⟨rfl, rfl, rfl, rfl, trivial⟩, X25, o17, ex18, f19, ex21, d24⟩, H.2⟩
 have H := H.2 hc
 refine W_exit ?_
 refine (if_pos rfl).mpr ?_
 refine W_seq (W_region ?_)
 refine LP_ev ok 0 [(21, sl a11 out c12), (4, sl a11 out c12)] 2 rfl rfl ?_
 refine LP_end _ rfl (W_ret ?_)
 exact ⟨_, Ret_of [sl a11 out c12] ⟨⟨rfl, rfl⟩, trivial⟩, _, _, _, H, rfl, X13.ext, o, ex9, f⟩

theorem impl_SmallestCover_1_w (vars : List Int) (Q : Int → Prop) (H : impl_SmallestCover_1 vars Q) (w : World) {vx : Value} {hx : PH} (r : RS hx vx vars) (ex : Sub hx w) :
  CallsTo Try.prog 129 #[vx] w fun v w' => ∃ r0, Q r0 ∧ v = I r0 ∧ Ext w w' := by
 obtain ⟨a, c, rfl⟩ := r.shape
 refine enter (args := [sl a vars c]) 5 Try.func129 rfl rfl rfl ?_
 refine W_forget [(0, sl a vars c)] ⟨rfl, trivial⟩ fun ρ => ?_
 have X := But.refl emp w
 refine W_seq (W_region ?_)
 refine LP_ev ok 0 [(2, I 0)] 1 rfl rfl ?_
 refine LP_end _ rfl (W_seq (W_region ?_))
 refine LP_ev ok 0 [(3, sl a vars c), (4, I (ln vars)), (2, I (ln vars))] 3 rfl rfl ?_
 refine LP_end _ rfl (W_ret ?_)
 exact ⟨_, Ret_of [I (ln vars)] ⟨⟨rfl, rfl⟩, trivial⟩, _, H, rfl, X.ext⟩

theorem cmp_isNaN_int_w (x : Int) (Q : Bool → Prop) (H : cmp_isNaN_int x Q) (w : World)  :
  CallsTo Try.prog 224 #[I x] w fun v w' => ∃ r0, Q r0 ∧ v = .bool r0 ∧ Ext w w' := by
 refine enter (args := [I x]) 6 Try.func224 rfl rfl rfl ?_
 refine W_forget [(0, I x)] ⟨rfl, trivial⟩ fun ρ => ?_
 have X := But.refl emp w
 refine W_seq (W_region ?_)
 refine LP_ev ok 0 [(2, .bool false)] 1 rfl rfl ?_
 refine LP_end _ rfl (W_seq (W_region ?_))
 refine LP_ev ok 0 [(3, I x), (4, I x), (5, .bool (x != x)), (2, .bool (x != x))] 4 rfl rfl ?_
 refine LP_end _ rfl (W_ret ?_)
 exact ⟨_, Ret_of [.bool (x != x)] ⟨⟨rfl, rfl⟩, trivial⟩, _, H, rfl, X.ext⟩

theorem cmp_Compare_int_w (x : Int) (y : Int) (Q : Int → Prop) (H : cmp_Compare_int x y Q) (w : World)  :
  CallsTo Try.prog 194 #[I x, I y] w fun v w' => ∃ r0, Q r0 ∧ v = I r0 ∧ Ext w w' := by
 refine enter (args := [I x, I y]) 20 Try.func194 rfl rfl rfl ?_
 refine W_forget [(0, I x), (1, I y)] ⟨rfl, rfl, trivial⟩ fun ρ => ?_
 have X := But.refl emp w
 refine W_seq (W_region ?_)
 refine LP_ev ok 0 [(4, I 0)] 1 rfl rfl ?_
 refine LP_end _ rfl (W_seq (W_region ?_))
 refine LP_ev ok 0 [(7, I x)] 1 rfl rfl ?_
 refine LP_call 1 rfl rfl rfl cal_224 rfl (cmp_isNaN_int_w _ _ H w ) ?_
 rintro _ wx ⟨r, H, rfl, x1⟩
 refine LP_ev ok 2 [(5, .bool r)] 3 rfl rfl ?_
 refine LP_end _ rfl (W_seq (W_region ?_))
 refine LP_ev ok 0 [(9, I y)] 1 rfl rfl ?_
 refine LP_call 1 rfl rfl rfl cal_224 rfl (cmp_isNaN_int_w _ _ H wx ) ?_
 rintro _ wx3 ⟨r2, H, rfl, x4⟩
 refine LP_ev ok 2 [(6, .bool r2)] 3 rfl rfl ?_
 refine LP_end _ rfl (W_seq ?_)
 refine W_seq (W_region ?_)
 refine LP_ev ok 0 [(11, .bool r)] 1 rfl rfl ?_
 refine LP_end _ rfl ?_
 refine W_cond (r) rfl (fun hc => ?_) (fun hc => ?_)
 ·have H := H.1 hc
  refine W_seq ?_
  refine W_seq (W_region ?_)
  refine LP_ev ok 0 [(12, .bool r2)] 1 rfl rfl ?_
  refine LP_end _ rfl ?_
  refine W_cond (r2) rfl (fun hc5 => ?_) (fun hc5 => ?_)
  ·have H := H.1 hc5
   refine W_seq (W_region ?_)
   refine LP_ev ok 0 [(4, I 0)] 1 rfl rfl ?_
   refine LP_end _ rfl (W_ret ?_)
   exact ⟨_, Ret_of [I 0] ⟨⟨rfl, rfl⟩, trivial⟩, _, H, rfl, (X.stepx (x1.trans x4)).ext⟩
  have H := H.2 hc5
  refine W_skip ?_
  refine W_seq (W_region ?_)
  refine LP_ev ok 0 [(4, I ((-1)))] 1 rfl rfl ?_
  refine LP_end _ rfl (W_ret ?_)
  exact ⟨_, Ret_of [I ((-1))] ⟨⟨rfl, rfl⟩, trivial⟩, _, H, rfl, (X.stepx (x1.trans x4)).ext⟩
 have H := H.2 hc
 refine W_skip ?_
 refine W_seq ?_
 refine W_seq (W_region ?_)
 refine LP_ev ok 0 [(13, .bool r2)] 1 rfl rfl ?_
 refine LP_end _ rfl ?_
 refine W_cond (r2) rfl (fun hc9 => ?_) (fun hc9 => ?_)
 ·have H := H.1 hc9
  refine W_seq (W_region ?_)
  refine LP_ev ok 0 [(4, I 1)] 1 rfl rfl ?_
  refine LP_end _ rfl (W_ret ?_)
  exact ⟨_, Ret_of [I 1] ⟨⟨rfl, rfl⟩, trivial⟩, _, H, rfl, (X.stepx (x1.trans x4)).ext⟩
 have H := H.2 hc9
 refine W_skip ?_
 refine W_seq ?_
 refine W_seq (W_region ?_)
 refine LP_ev ok 0 [(14, I x), (15, I y), (16, .bool (decide (x < y)))] 3 rfl rfl ?_
 refine LP_end _ rfl ?_
 refine W_cond (decide (x < y)) rfl (fun hc12 => ?_) (fun hc12 => ?_)
 ·have H := H.1 hc12
  refine W_seq (W_region ?_)
  refine LP_ev ok 0 [(4, I ((-1)))] 1 rfl rfl ?_
  refine LP_end _ rfl (W_ret ?_)
  exact ⟨_, Ret_of [I ((-1))] ⟨⟨rfl, rfl⟩, trivial⟩, _, H, rfl, (X.stepx (x1.trans x4)).ext⟩
 have H := H.2 hc12
 refine W_skip ?_
 refine W_seq ?_
 refine W_seq (W_region ?_)
 refine LP_ev ok 0 [(17, I x), (18, I y), (19, .bool (decide (x > y)))] 3 rfl rfl ?_
 refine LP_end _ rfl ?_
 refine W_cond (decide (x > y)) rfl (fun hc15 => ?_) (fun hc15 => ?_)
 ·have H := H.1 hc15
  refine W_seq (W_region ?_)
  refine LP_ev ok 0 [(4, I 1)] 1 rfl rfl ?_
  refine LP_end _ rfl (W_ret ?_)
  exact ⟨_, Ret_of [I 1] ⟨⟨rfl, rfl⟩, trivial⟩, _, H, rfl, (X.stepx (x1.trans x4)).ext⟩
 have H := H.2 hc15
 refine W_skip ?_
 refine W_seq (W_region ?_)
 refine LP_ev ok 0 [(4, I 0)] 1 rfl rfl ?_
 refine LP_end _ rfl (W_ret ?_)
 exact ⟨_, Ret_of [I 0] ⟨⟨rfl, rfl⟩, trivial⟩, _, H, rfl, (X.stepx (x1.trans x4)).ext⟩

theorem slices_Compare_int_int_w (sx : List Int) (sx1 : List Int) (Q : Int → Prop) (H : slices_Compare_int_int sx sx1 Q) (w : World) {vx : Value} {hx : PH} (r : RS hx vx sx) (ex : Sub hx w) {vx2 : Value} {hx3 : PH} (r4 : RS hx3 vx2 sx1) (ex5 : Sub hx3 w) :
  CallsTo Try.prog 195 #[vx, vx2] w fun v w' => ∃ r0, Q r0 ∧ v = I r0 ∧ Ext w w' := by
 obtain ⟨a, c, rfl⟩ := r.shape
 obtain ⟨a6, c7, rfl⟩ := r4.shape
 refine enter (args := [sl a sx c, sl a6 sx1 c7]) 36 Try.func195 rfl rfl rfl ?_
 refine W_forget [(0, sl a sx c), (1, sl a6 sx1 c7)] ⟨rfl, rfl, trivial⟩ fun ρ => ?_
 have X := But.refl emp w
 refine W_seq (W_region ?_)
 refine LP_ev ok 0 [(4, I 0)] 1 rfl rfl ?_
 refine LP_end _ rfl (W_seq ?_)
 refine W_seq (W_region ?_)
 refine LP_ev ok 0 [(9, sl a sx c), (10, I (ln sx)), (11, I 0)] 3 rfl rfl ?_
 refine LP_end _ rfl ?_
 refine W_block ?_
 obtain ⟨J, m, Hx, H⟩ := H
 refine W_loop (S := Int) (fun s ρ' w' => J s ∧ ∃ (ρ : Env), ρ' = setAll [(0, sl a sx c), (1, sl a6 sx1 c7), (9, sl a sx c), (10, I (ln sx)), (11, I s)] ρ ∧ But emp w w' ∧ Sub hx w' ∧ Sub hx3 w') (fun s => m s) 0 ⟨Hx, _, env_eq ⟨rfl, rfl, rfl, rfl, rfl, trivial⟩, X, ex, ex5⟩ ?_
 rintro x _ wx ⟨Hi, ρ, rfl, X10, ex8, ex9⟩
 have H := H x Hi
 refine W_seq (W_region ?_)
 refine LP_ev ok 0 [(12, .bool (decide (x < (ln sx))))] 1 rfl rfl ?_
 refine LP_end _ rfl (W_seq ?_)
 refine W_cond (decide (x < (ln sx))) rfl (fun hc => ?_) (fun hc => ?_)
 ·have H := H.1 hc
  refine W_skip ?_
  refine W_seq ?_
  refine W_block ?_
  refine W_seq (W_region ?_)
  refine LP_ev ok 0 [(13, I x)] 1 rfl rfl ?_
  obtain ⟨x11, hi, hx12, H⟩ := H
  refine LP_index 1 rfl rfl rfl Try.underlying31 ti_3 rfl rfl r hi hx12 fun a13 cs r14 d => ?_
  refine LP_load 2 rfl rfl rfl ti_3 ag_3 rfl r14 d ex8 fun vx15 r16 => ?_
  obtain rfl := r16.int
  refine LP_ev ok 3 [(5, I x), (6, I x11)] 5 rfl rfl ?_
  refine LP_end _ rfl (W_seq ?_)
  refine W_seq (W_region ?_)
  refine LP_ev ok 0 [(16, I x), (17, sl a6 sx1 c7), (18, I (ln sx1)), (19, .bool (decide (x ≥ (ln sx1))))] 4 rfl rfl ?_
  refine LP_end _ rfl ?_
  refine W_cond (decide (x ≥ (ln sx1))) rfl (fun hc17 => ?_) (fun hc17 => ?_)
  ·have H := H.1 hc17
   refine W_seq (W_region ?_)
   refine LP_ev ok 0 [(4, I 1)] 1 rfl rfl ?_
   refine LP_end _ rfl (W_ret ?_)
   exact ⟨_, Ret_of [I 1] ⟨⟨rfl, rfl⟩, trivial⟩, _, H, rfl, X10.ext⟩
  have H := H.2 hc17
  refine W_skip ?_
  refine W_seq (W_region ?_)
  refine LP_ev ok 0 [(20, sl a6 sx1 c7), (21, I x)] 2 rfl rfl ?_
  obtain ⟨x18, hi19, hx20, H⟩ := H
  refine LP_index 2 rfl rfl rfl Try.underlying31 ti_3 rfl rfl r4 hi19 hx20 fun a21 cs22 r23 d24 => ?_
  refine LP_load 3 rfl rfl rfl ti_3 ag_3 rfl r23 d24 ex9 fun vx25 r26 => ?_
  obtain rfl := r26.int
  refine LP_ev ok 4 [(7, I x18)] 5 rfl rfl ?_
  refine LP_end _ rfl (W_seq (W_region ?_))
  refine LP_ev ok 0 [(24, I x11), (25, I x18)] 2 rfl rfl ?_
  refine LP_call 2 rfl rfl rfl cal_194 rfl (cmp_Compare_int_w _ _ _ H wx ) ?_
  rintro _ wx28 ⟨r27, H, rfl, x29⟩
  refine LP_ev ok 3 [(8, I r27)] 4 rfl rfl ?_
  refine LP_end _ rfl (W_seq (W_region ?_))
  refine LP_ev ok 0 [(27, I r27), (28, .bool (r27 != 0))] 2 rfl rfl ?_
  refine LP_end _ rfl ?_
  refine W_cond (r27 != 0) rfl (fun hc30 => ?_) (fun hc30 => ?_)
  ·have H := H.1 hc30
   refine W_seq (W_region ?_)
   refine LP_ev ok 0 [(29, I r27), (4, I r27)] 2 rfl rfl ?_
   refine LP_end _ rfl (W_ret ?_)
   exact ⟨_, Ret_of [I r27] ⟨⟨rfl, rfl⟩, trivial⟩, _, H, rfl, (X10.stepx x29).ext⟩
  have H := H.2 hc30
  refine W_skip ?_
  refine W_region ?_
  refine LP_ev ok 0 [(30, I (wr (x + 1))), (11, I (wr (x + 1)))] 2 rfl rfl ?_
  exact LP_end _ rfl ⟨wr (x + 1), ⟨H.1, _, env_eq ⟨rfl, rfl, rfl, rfl, rfl, trivial⟩, (X10.stepx x29), (ex8.ext x29), (ex9.ext x29)⟩, H.2⟩
 have H := H.2 hc
 refine W_exit ?_
 refine (if_pos rfl).mpr ?_
 refine W_seq ?_
 refine W_seq (W_region ?_)
 refine LP_ev ok 0 [(31, sl a sx c), (32, I (ln sx)), (33, sl a6 sx1 c7), (34, I (ln sx1)), (35, .bool (decide ((ln sx) < (ln sx1))))] 5 rfl rfl ?_
 refine LP_end _ rfl ?_
 refine W_cond (decide ((ln sx) < (ln sx1))) rfl (fun hc35 => ?_) (fun hc35 => ?_)
 ·have H := H.1 hc35
  refine W_seq (W_region ?_)
  refine LP_ev ok 0 [(4, I ((-1)))] 1 rfl rfl ?_
  refine LP_end _ rfl (W_ret ?_)
  exact ⟨_, Ret_of [I ((-1))] ⟨⟨rfl, rfl⟩, trivial⟩, _, H, rfl, X10.ext⟩
 have H := H.2 hc35
 refine W_skip ?_
 refine W_seq (W_region ?_)
 refine LP_ev ok 0 [(4, I 0)] 1 rfl rfl ?_
 refine LP_end _ rfl (W_ret ?_)
 exact ⟨_, Ret_of [I 0] ⟨⟨rfl, rfl⟩, trivial⟩, _, H, rfl, X10.ext⟩

theorem cmp_Or_int_w (vals : List Int) (Q : Int → Prop) (H : cmp_Or_int vals Q) (w : World) {vx : Value} {hx : PH} (r : RS hx vx vals) (ex : Sub hx w) :
  CallsTo Try.prog 193 #[vx] w fun v w' => ∃ r0, Q r0 ∧ v = I r0 ∧ Ext w w' := by
 obtain ⟨a, c, rfl⟩ := r.shape
 refine enter (args := [sl a vals c]) 18 Try.func193 rfl rfl rfl ?_
 refine W_forget [(0, sl a vals c)] ⟨rfl, trivial⟩ fun ρ => ?_
 have X := But.refl emp w
 refine W_seq (W_region ?_)
 refine LP_ev ok 0 [(2, I 0)] 1 rfl rfl ?_
 refine LP_end _ rfl (W_seq (W_region ?_))
 refine LP_ev ok 0 [(3, I 0)] 1 rfl rfl ?_
 refine LP_end _ rfl (W_seq ?_)
 refine W_seq (W_region ?_)
 refine LP_ev ok 0 [(6, sl a vals c), (7, I (ln vals)), (8, I 0)] 3 rfl rfl ?_
 refine LP_end _ rfl ?_
 refine W_block ?_
 obtain ⟨J, m, Hx, H⟩ := H
 refine W_loop (S := Int) (fun s ρ' w' => J s ∧ ∃ (ρ : Env), ρ' = setAll [(3, I 0), (6, sl a vals c), (7, I (ln vals)), (8, I s)] ρ ∧ w = w') (fun s => m s) 0 ⟨Hx, _, env_eq ⟨rfl, rfl, rfl, rfl, trivial⟩, rfl⟩ ?_
 rintro x _ _ ⟨Hi, ρ, rfl, rfl⟩
 have H := H x Hi
 refine W_seq (W_region ?_)
 refine LP_ev ok 0 [(9, .bool (decide (x < (ln vals))))] 1 rfl rfl ?_
 refine LP_end _ rfl (W_seq ?_)
 refine W_cond (decide (x < (ln vals))) rfl (fun hc => ?_) (fun hc => ?_)
 ·have H := H.1 hc
  refine W_skip ?_
  refine W_seq ?_
  refine W_block ?_
  refine W_seq (W_region ?_)
  obtain ⟨x1, hi, hx2, H⟩ := H
  refine LP_index 0 rfl rfl rfl Try.underlying31 ti_3 rfl rfl r hi hx2 fun a3 cs r4 d => ?_
  refine LP_load 1 rfl rfl rfl ti_3 ag_3 rfl r4 d ex fun vx5 r6 => ?_
  obtain rfl := r6.int
  refine LP_ev ok 2 [(5, I x1)] 3 rfl rfl ?_
  refine LP_end _ rfl (W_seq (W_region ?_))
  refine LP_ev ok 0 [(12, I x1), (13, I 0), (14, .bool (x1 != 0))] 3 rfl rfl ?_
  refine LP_end _ rfl ?_
  refine W_cond (x1 != 0) rfl (fun hc7 => ?_) (fun hc7 => ?_)
  ·have H := H.1 hc7
   refine W_seq (W_region ?_)
   refine LP_ev ok 0 [(15, I x1), (2, I x1)] 2 rfl rfl ?_
   refine LP_end _ rfl (W_ret ?_)
   exact ⟨_, Ret_of [I x1] ⟨⟨rfl, rfl⟩, trivial⟩, _, H, rfl, X.ext⟩
  have H := H.2 hc7
  refine W_skip ?_
  refine W_region ?_
  refine LP_ev ok 0 [(16, I (wr (x + 1))), (8, I (wr (x + 1)))] 2 rfl rfl ?_
  exact LP_end _ rfl ⟨wr (x + 1), ⟨H.1, _, env_eq ⟨rfl, rfl, rfl, rfl, trivial⟩, rfl⟩, H.2⟩
 have H := H.2 hc
 refine W_exit ?_
 refine (if_pos rfl).mpr ?_
 refine W_seq (W_region ?_)
 refine LP_ev ok 0 [(17, I 0), (2, I 0)] 2 rfl rfl ?_
 refine LP_end _ rfl (W_ret ?_)
 exact ⟨_, Ret_of [I 0] ⟨⟨rfl, rfl⟩, trivial⟩, _, H, rfl, X.ext⟩

theorem impl_leastCover_impl_SmallestCover_1_w (sx : List Variable) (l : List Edit) (values : List Int) (Q : (List Int) → Bool → Prop) (H : impl_leastCover_impl_SmallestCover_1 sx l values Q) (w : World) {vx : Value} {hx : PH} (r : RS hx vx sx) (ex : Sub hx w) {vx1 : Value} {hx2 : PH} (r3 : RS hx2 vx1 l) (ex4 : Sub hx2 w) {vx7 : Value} {hx8 : PH} (r9 : RS hx8 vx7 values) (ex10 : Sub hx8 w) :
  CallsTo Try.prog 128 #[vx, vx1, vx7, .func (.func 129) #[] #[]] w fun v w' => ∃ r0 r1 u0 g0, Q r0 r1 ∧ v = .tuple #[u0, .bool r1] ∧ Ext w w' ∧ OS 3 g0 emp u0 r0 ∧ Sub g0 w' ∧ Fresh w.heap.size g0 := by
 obtain ⟨a, c, rfl⟩ := r.shape
 obtain ⟨a5, c6, rfl⟩ := r3.shape
 obtain ⟨a11, c12, rfl⟩ := r9.shape
 refine enter (args := [sl a sx c, sl a5 l c6, sl a11 values c12, .func (.func 129) #[] #[]]) 55 Try.func128 rfl rfl rfl ?_
 refine W_forget [(0, sl a sx c), (1, sl a5 l c6), (2, sl a11 values c12), (3, .func (.func 129) #[] #[])] ⟨rfl, rfl, rfl, rfl, trivial⟩ fun ρ => ?_
 have X := But.refl emp w
 refine W_seq (W_region ?_)
 refine LP_ev ok 0 [(8, .slice none 0 0), (9, .bool false)] 2 rfl rfl ?_
 refine LP_end _ rfl (W_seq (W_region ?_))
 refine LP_ev ok 0 [(10, .slice none 0 0)] 1 rfl rfl ?_
 refine LP_end _ rfl (W_seq (W_region ?_))
 refine LP_ev ok 0 [(11, .bool false)] 1 rfl rfl ?_
 refine LP_end _ rfl (W_seq ?_)
 refine W_seq (W_region ?_)
 refine LP_ev ok 0 [(14, sl a sx c), (15, I (ln sx))] 2 rfl rfl ?_
 obtain ⟨hz, H⟩ := H
 refine LP_val 2 _ rfl rfl (ex_shl rfl rfl rfl hz _) ?_
 refine LP_ev ok 3 [(17, I 0)] 4 rfl rfl ?_
 refine LP_end _ rfl ?_
 refine W_block ?_
 obtain ⟨J, m, Hx, H⟩ := H
 refine W_loop (S := (List Int) × Bool × Int) (fun s ρ' w' => J s.1 s.2.1 s.2.2 ∧ ∃ (ρ : Env) (vx13 : Value) (hx14 : PH), ρ' = setAll [(0, sl a sx c), (1, sl a5 l c6), (2, sl a11 values c12), (3, .func (.func 129) #[] #[]), (10, vx13), (11, .bool s.2.1), (16, I (shl .i64 1 (ln sx))), (17, I s.2.2)] ρ ∧ But emp w w' ∧ OS 3 hx14 emp vx13 s.1 ∧ Sub hx14 w' ∧ Fresh w.heap.size hx14 ∧ Sub hx w' ∧ Sub hx2 w' ∧ Sub hx8 w' ∧ Dj hx14 hx ∧ Dj hx14 hx2 ∧ Dj hx14 hx8) (fun s => m s.1 s.2.1 s.2.2) ([], false, 0) ⟨Hx, _, .slice none 0 0, emp, env_eq ⟨rfl, rfl, rfl, rfl, rfl, rfl, rfl, rfl, trivial⟩, X, OS.nil, (emp_sub _), (emp_fresh _), ex, ex4, ex10, (fun _ => .inl rfl), (fun _ => .inl rfl), (fun _ => .inl rfl)⟩ ?_
 rintro ⟨best, found, x⟩ _ wx ⟨Hi, ρ, vx13, hx14, rfl, HF⟩
 revert HF
 refine bb9 fun X23 o ex15 f ex16 ex17 ex18 d => ?_
 refine bb2 fun d21 d22 => ?_
 have H := H best found x Hi
 obtain ⟨a19, c20, rfl⟩ := o.shape
 refine W_seq (W_region ?_)
 refine LP_ev ok 0 [(18, .bool (decide (x < (shl .i64 1 (ln sx)))))] 1 rfl rfl ?_
 refine LP_end _ rfl (W_seq ?_)
 refine W_cond (decide (x < (shl .i64 1 (ln sx)))) rfl (fun hc => ?_) (fun hc => ?_)
 ·have H := H.1 hc
  refine W_skip ?_
  obtain ⟨k, hk, H⟩ := jn_elim H
  refine W_join2 (S := (List Int) × Bool) (fun s ρ' w' => k s.1 s.2 ∧ ∃ (ρ : Env) (vx25 : Value) (hx26 : PH), ρ' = setAll [(0, sl a sx c), (1, sl a5 l c6), (2, sl a11 values c12), (3, .func (.func 129) #[] #[]), (10, vx25), (11, .bool s.2), (16, I (shl .i64 1 (ln sx))), (17, I x)] ρ ∧ But emp w w' ∧ OS 3 hx26 emp vx25 s.1 ∧ Sub hx26 w' ∧ Fresh w.heap.size hx26 ∧ Sub hx w' ∧ Sub hx2 w' ∧ Sub hx8 w' ∧ Dj hx26 hx ∧ Dj hx26 hx2 ∧ Dj hx26 hx8) ?_ ?_
  ·refine W_block ?_
   refine W_seq (W_region ?_)
   refine LP_ev ok 0 [(19, I x), (12, I x)] 2 rfl rfl ?_
   refine LP_end _ rfl (W_seq (W_region ?_))
   refine LP_ev ok 0 [(20, I x)] 1 rfl rfl ?_
   refine LP_call 1 rfl rfl rfl cal_192 rfl (impl_membersOf_w _ _ H wx ) ?_
   rintro _ wx42 ⟨r41, vx44, hx45, H, rfl, x43, o46, ex47, f48⟩
   obtain ⟨a49, c50, rfl⟩ := o46.shape
   refine LP_ev ok 2 [(13, sl a49 r41 c50)] 3 rfl rfl ?_
   refine LP_end _ rfl (W_seq ?_)
   have X51 := (X23.stepx x43)
   have ex52 := (ex16.ext x43)
   have ex53 := (ex17.ext x43)
   have ex54 := (ex18.ext x43)
   have ex55 := (ex15.ext x43)
   have f56 := f48.mono X23.size
   obtain ⟨k65, hk66, H⟩ := jn_elim H
   refine W_join2 (S := Bool) (fun s ρ' w' => k65 s ∧ ∃ (ρ : Env), ρ' = setAll [(0, sl a sx c), (1, sl a5 l c6), (2, sl a11 values c12), (3, .func (.func 129) #[] #[]), (10, sl a19 best c20), (11, .bool found), (13, sl a49 r41 c50), (16, I (shl .i64 1 (ln sx))), (17, I x), (42, .bool s)] ρ ∧ But emp w w' ∧ Sub hx w' ∧ Sub hx2 w' ∧ Sub hx8 w' ∧ Sub hx14 w' ∧ Sub hx45 w') ?_ ?_
   ·refine W_region ?_
    refine LP_ev ok 0 [(22, .bool found), (23, .bool found)] 2 rfl rfl ?_
    refine LP_split 23 (found) rfl (fun hc67 => ?_) (fun hc67 => ?_)
    ·have H := H.1 hc67
     refine LP_ev ok 2 [(24, .func (.func 129) #[] #[]), (25, sl a49 r41 c50)] 4 rfl rfl ?_
     refine LP_callv 4 rfl rfl rfl rfl cal_129 rfl (impl_SmallestCover_1_w _ _ H wx42 o46.readf ex47) ?_
     rintro _ wx69 ⟨r68, H, rfl, x70⟩
     refine LP_ev ok 5 [(27, .func (.func 129) #[] #[]), (28, sl a19 best c20)] 7 rfl rfl ?_
     have ex72 := (ex55.ext x70)
     refine LP_callv 7 rfl rfl rfl rfl cal_129 rfl (impl_SmallestCover_1_w _ _ H wx69 o.readf ex72) ?_
     rintro _ wx73 ⟨r71, H, rfl, x74⟩
     refine LP_call 8 rfl rfl rfl cal_194 rfl (cmp_Compare_int_w _ _ _ H wx73 ) ?_
     rintro _ wx76 ⟨r75, H, rfl, x77⟩
     refine LP_ev ok 9 [(31, sl a49 r41 c50), (32, I (ln r41)), (33, sl a19 best c20), (34, I (ln best))] 13 rfl rfl ?_
     refine LP_call 13 rfl rfl rfl cal_194 rfl (cmp_Compare_int_w _ _ _ H wx76 ) ?_
     rintro _ wx79 ⟨r78, H, rfl, x80⟩
     refine LP_ev ok 14 [(36, sl a49 r41 c50), (37, sl a19 best c20)] 16 rfl rfl ?_
     have ex82 := (ex47.ext (((x70.trans x74).trans x77).trans x80))
     have ex84 := (ex72.ext ((x74.trans x77).trans x80))
     refine LP_call 16 rfl rfl rfl cal_195 rfl (slices_Compare_int_int_w _ _ _ H wx79 o46.readf ex82 o.readf ex84) ?_
     rintro _ wx85 ⟨r81, H, rfl, x86⟩
     refine LP_lit (α := Int) (g := emp) 17 (vs := [I r75, I r78, I r81]) (xs := [r75, r78, r81]) rfl rfl rfl Try.underlying31 ti_3 rfl rfl ⟨⟨_, rfl, rfl⟩, ⟨_, rfl, rfl⟩, ⟨_, rfl, rfl⟩, trivial⟩ rfl rfl fun hx87 vx88 wx89 x90 o91 ex92 f93 => ?_
     obtain ⟨a94, c95, rfl⟩ := o91.shape
     refine LP_call 18 rfl rfl rfl cal_193 rfl (cmp_Or_int_w _ _ H wx89 o91.readf ex92) ?_
     rintro _ wx97 ⟨r96, H, rfl, x98⟩
     refine LP_ev ok 19 [(41, .bool (decide (r96 ≥ 0))), (42, .bool (decide (r96 ≥ 0)))] 21 rfl rfl ?_
     refine LP_end _ rfl ?_
     try refine W_forget [(0, sl a sx c), (1, sl a5 l c6), (2, sl a11 values c12), (3, .func (.func 129) #[] #[]), (10, sl a19 best c20), (11, .bool found), (13, sl a49 r41 c50), (16, I (shl .i64 1 (ln sx))), (17, I x), (24, .func (.func 129) #[] #[]), (25, sl a49 r41 c50), (26, I r68), (27, .func (.func 129) #[] #[]), (28, sl a19 best c20), (29, I r71), (30, I r75), (31, sl a49 r41 c50), (32, I (ln r41)), (33, sl a19 best c20), (34, I (ln best)), (35, I r78), (36, sl a49 r41 c50), (37, sl a19 best c20), (38, I r81), (39, .slice a94 (List.length ([r75, r78, r81])) c95), (40, I r96), (41, .bool (decide (r96 ≥ 0))), (42, .bool (decide (r96 ≥ 0)))] ⟨rfl, rfl, rfl, rfl, rfl, rfl, rfl, rfl, rfl, rfl, rfl, rfl, rfl, rfl, rfl, rfl, rfl, rfl, rfl, rfl, rfl, rfl, rfl, rfl, rfl, rfl, rfl, rfl, trivial⟩ fun ρ => ?_
     have xc99 := ((((((x70.trans x74).trans x77).trans x80).trans x86).trans x90).trans x98)
     have xc104 := ((x86.trans x90).trans x98)
     exact ⟨decide (r96 ≥ 0), H, _, env_eq ⟨rfl, rfl, rfl, rfl, rfl, rfl, rfl, rfl, rfl, rfl, trivial⟩, (X51.stepx xc99), (ex52.ext xc99), (ex53.ext xc99), (ex54.ext xc99), (ex84.ext xc104), (ex82.ext xc104)⟩
    have H := H.2 hc67
    refine LP_ev ok 2 [(24, undef), (25, undef), (26, undef), (27, undef), (28, undef), (29, undef), (30, undef), (31, undef), (32, undef), (33, undef), (34, undef), (35, undef), (36, undef), (37, undef), (38, undef), (39, undef), (40, undef), (41, undef), (42, .bool false)] 21 rfl rfl ?_
    refine LP_end _ rfl ?_
    try refine W_forget [(0, sl a sx c), (1, sl a5 l c6), (2, sl a11 values c12), (3, .func (.func 129) #[] #[]), (10, sl a19 best c20), (11, .bool found), (13, sl a49 r41 c50), (16, I (shl .i64 1 (ln sx))), (17, I x), (42, .bool false)] ⟨rfl, rfl, rfl, rfl, rfl, rfl, rfl, rfl, rfl, rfl, trivial⟩ fun ρ => ?_
    exact ⟨false, H, _, env_eq ⟨rfl, rfl, rfl, rfl, rfl, rfl, rfl, rfl, rfl, rfl, trivial⟩, X51, ex52, ex53, ex54, ex55, ex47⟩
   rintro x57 _ wx58 ⟨H, ρ, rfl, HF⟩
   revert HF
   refine bb6 fun X64 ex59 ex60 ex61 ex62 ex63 => ?_
   subst hk66
   refine W_cond (x57) rfl (fun hc107 => ?_) (fun hc107 => ?_)
   ·have H := H.1 hc107
    refine W_exit ?_
    refine (if_pos rfl).mpr ?_
    exact ⟨(best, found), H, _, sl a19 best c20, hx14, env_eq ⟨rfl, rfl, rfl, rfl, rfl, rfl, rfl, rfl, trivial⟩, X64, o, ex62, f, ex59, ex60, ex61, d, d21, d22⟩
   have H := H.2 hc107
   refine W_skip ?_
   refine W_seq (W_region ?_)
   refine LP_ev ok 0 [(43, sl a sx c), (44, sl a5 l c6), (45, sl a sx c), (46, sl a49 r41 c50)] 4 rfl rfl ?_
   refine LP_call 4 rfl rfl rfl cal_196 rfl (impl_otherVars_w _ _ _ H wx58 r ex59 o46.readf ex63) ?_
   rintro _ wx109 ⟨r108, vx111, hx112, H, rfl, x110, o113, ex114, f115⟩
   obtain ⟨a116, c117, rfl⟩ := o113.shape
   refine LP_ev ok 5 [(48, sl a11 values c12)] 6 rfl rfl ?_
   have ex119 := (ex59.ext x110)
   have ex120 := (ex60.ext x110)
   have ex121 := (ex61.ext x110)
   refine LP_call 6 rfl rfl rfl cal_126 rfl (impl_completionOf_w _ _ _ _ _ H wx109 r ex119 r3 ex120 o113.readf ex114 r9 ex121) ?_
   rintro _ wx122 ⟨r118, vx124, hx125, H, rfl, x123, o126, ex127, f128, cn⟩
   obtain ⟨a129, c130, rfl⟩ := o126.shape
   refine LP_val 7 _ rfl rfl (ex_nenilc rfl Try.underlying31 rfl rfl (cn _ _ _ rfl) _) ?_
   refine LP_end _ rfl ?_
   refine W_cond (!(ln r118 == 0)) rfl (fun hc131 => ?_) (fun hc131 => ?_)
   ·have H := H.1 hc131
    refine W_region ?_
    refine LP_ev ok 0 [(51, sl a49 r41 c50), (10, sl a49 r41 c50), (11, .bool true)] 3 rfl rfl ?_
    refine LP_end _ rfl ?_
    have xc132 := (x110.trans x123)
    exact ⟨(r41, true), H, _, sl a49 r41 c50, hx45, env_eq ⟨rfl, rfl, rfl, rfl, rfl, rfl, rfl, rfl, trivial⟩, (X64.stepx xc132), o46, (ex63.ext xc132), f56, (ex119.ext x123), (ex120.ext x123), (ex121.ext x123), (Dj.of_fresh ex16 f48).symm, (Dj.of_fresh ex17 f48).symm, (Dj.of_fresh ex18 f48).symm⟩
   have H := H.2 hc131
   refine W_skip ?_
   have xc138 := (x110.trans x123)
   exact ⟨(best, found), H, _, sl a19 best c20, hx14, env_eq ⟨rfl, rfl, rfl, rfl, rfl, rfl, rfl, rfl, trivial⟩, (X64.stepx xc138), o, (ex62.ext xc138), f, (ex119.ext x123), (ex120.ext x123), (ex121.ext x123), d, d21, d22⟩
  rintro ⟨best24, found30⟩ _ wx31 ⟨H, ρ, vx25, hx26, rfl, HF⟩
  revert HF
  refine bb9 fun X40 o27 ex28 f29 ex32 ex33 ex34 d37 => ?_
  refine bb2 fun d38 d39 => ?_
  subst hk
  obtain ⟨a35, c36, rfl⟩ := o27.shape
  refine W_region ?_
  refine LP_ev ok 0 [(52, I (wr (x + 1))), (17, I (wr (x + 1)))] 2 rfl rfl ?_
  exact LP_end _ rfl ⟨(best24, found30, wr (x + 1)), ⟨H.1, _, sl a35 best24 c36, hx26, env_eq ⟨rfl, rfl, rfl, rfl, rfl, rfl, rfl, rfl, trivial⟩, X40, o27, ex28, f29, ex32, ex33, ex34, d37, d38, d39⟩, H.2⟩
 have H := H.2 hc
 refine W_exit ?_
 refine (if_pos rfl).mpr ?_
 refine W_seq (W_region ?_)
 refine LP_ev ok 0 [(53, sl a19 best c20), (54, .bool found), (8, sl a19 best c20), (9, .bool found)] 4 rfl rfl ?_
 refine LP_end _ rfl (W_ret ?_)
 exact ⟨_, Ret_of [sl a19 best c20, .bool found] ⟨⟨rfl, rfl⟩, ⟨rfl, rfl⟩, trivial⟩, _, _, _, _, H, rfl, X23.ext, o, ex15, f⟩

theorem impl_SmallestCover_w (sx : List Variable) (l : List Edit) (values : List Int) (Q : (List Int) → Bool → Prop) (H : impl_SmallestCover sx l values Q) (w : World) {vx : Value} {hx : PH} (r : RS hx vx sx) (ex : Sub hx w) {vx1 : Value} {hx2 : PH} (r3 : RS hx2 vx1 l) (ex4 : Sub hx2 w) {vx7 : Value} {hx8 : PH} (r9 : RS hx8 vx7 values) (ex10 : Sub hx8 w) :
  CallsTo Try.prog 59 #[vx, vx1, vx7] w fun v w' => ∃ r0 r1 u0 g0, Q r0 r1 ∧ v = .tuple #[u0, .bool r1] ∧ Ext w w' ∧ OS 3 g0 emp u0 r0 ∧ Sub g0 w' ∧ Fresh w.heap.size g0 := by
 obtain ⟨a, c, rfl⟩ := r.shape
 obtain ⟨a5, c6, rfl⟩ := r3.shape
 obtain ⟨a11, c12, rfl⟩ := r9.shape
 refine enter (args := [sl a sx c, sl a5 l c6, sl a11 values c12]) 29 Try.func59 rfl rfl rfl ?_
 refine W_forget [(0, sl a sx c), (1, sl a5 l c6), (2, sl a11 values c12)] ⟨rfl, rfl, rfl, trivial⟩ fun ρ => ?_
 have X := But.refl emp w
 refine W_seq (W_region ?_)
 refine LP_ev ok 0 [(6, .slice none 0 0), (7, .bool false)] 2 rfl rfl ?_
 refine LP_end _ rfl (W_seq ?_)
 obtain ⟨k, hk, H⟩ := jn_elim H
 refine W_join2 (S := Bool) (fun s ρ' w' => k s ∧ ∃ (ρ : Env), ρ' = setAll [(0, sl a sx c), (1, sl a5 l c6), (2, sl a11 values c12), (22, .bool s)] ρ ∧ But emp w w' ∧ Sub hx w' ∧ Sub hx2 w' ∧ Sub hx8 w') ?_ ?_
 ·refine W_region ?_
  refine LP_ev ok 0 [(8, sl a sx c)] 1 rfl rfl ?_
  refine LP_call 1 rfl rfl rfl cal_62 rfl (impl_isSmall_w _ _ H w r ex) ?_
  rintro _ wx18 ⟨r17, H, rfl, x19⟩
  refine LP_ev ok 2 [(10, .bool (!r17)), (11, .bool (!r17))] 4 rfl rfl ?_
  refine LP_split 11 (!r17) rfl (fun hc => ?_) (fun hc => ?_)
  ·have H := H.1 hc
   refine LP_ev ok 4 [(12, undef), (13, undef), (14, undef), (15, undef), (16, .bool true), (17, .bool true), (18, undef), (19, undef), (20, undef), (21, undef), (22, .bool true)] 15 rfl rfl ?_
   exact LP_end _ rfl ⟨true, H, _, env_eq ⟨rfl, rfl, rfl, rfl, trivial⟩, (X.stepx x19), (ex.ext x19), (ex4.ext x19), (ex10.ext x19)⟩
  have H := H.2 hc
  refine LP_ev ok 4 [(12, sl a sx c), (13, sl a5 l c6)] 6 rfl rfl ?_
  have ex25 := (ex.ext x19)
  have ex26 := (ex4.ext x19)
  refine LP_call 6 rfl rfl rfl cal_63 rfl (impl_areEdits_w _ _ _ H wx18 r ex25 r3 ex26) ?_
  rintro _ wx27 ⟨r24, H, rfl, x28⟩
  refine LP_ev ok 7 [(15, .bool (!r24)), (16, .bool (!r24)), (17, .bool (!r24))] 10 rfl rfl ?_
  refine LP_split 17 (!r24) rfl (fun hc29 => ?_) (fun hc29 => ?_)
  ·have H := H.1 hc29
   refine LP_ev ok 10 [(18, undef), (19, undef), (20, undef), (21, undef), (22, .bool true)] 15 rfl rfl ?_
   refine LP_end _ rfl ?_
   have xc := (x19.trans x28)
   exact ⟨true, H, _, env_eq ⟨rfl, rfl, rfl, rfl, trivial⟩, (X.stepx xc), (ex25.ext x28), (ex26.ext x28), (ex10.ext xc)⟩
  have H := H.2 hc29
  refine LP_ev ok 10 [(18, sl a sx c), (19, sl a11 values c12)] 12 rfl rfl ?_
  have ex35 := (ex25.ext x28)
  have xc36 := (x19.trans x28)
  have ex37 := (ex10.ext xc36)
  refine LP_call 12 rfl rfl rfl cal_124 rfl (impl_areValues_w _ _ _ H wx27 r ex35 r9 ex37) ?_
  rintro _ wx38 ⟨r34, H, rfl, x39⟩
  refine LP_ev ok 13 [(21, .bool (!r34)), (22, .bool (!r34))] 15 rfl rfl ?_
  exact LP_end _ rfl ⟨!r34, H, _, env_eq ⟨rfl, rfl, rfl, rfl, trivial⟩, (X.stepx (xc36.trans x39)), (ex35.ext x39), (ex26.ext (x28.trans x39)), (ex37.ext x39)⟩
 rintro x _ wx ⟨H, ρ, rfl, X16, ex13, ex14, ex15⟩
 subst hk
 refine W_cond (x) rfl (fun hc46 => ?_) (fun hc46 => ?_)
 ·have H := H.1 hc46
  refine W_seq (W_region ?_)
  refine LP_ev ok 0 [(6, .slice none 0 0), (7, .bool false)] 2 rfl rfl ?_
  refine LP_end _ rfl (W_ret ?_)
  exact ⟨_, Ret_of [.slice none 0 0, .bool false] ⟨⟨rfl, rfl⟩, ⟨rfl, rfl⟩, trivial⟩, _, _, _, emp, H, rfl, X16.ext, OS.nil, (emp_sub _), (emp_fresh _)⟩
 have H := H.2 hc46
 refine W_skip ?_
 refine W_seq (W_region ?_)
 refine LP_ev ok 0 [(23, sl a sx c), (24, sl a5 l c6), (25, sl a11 values c12)] 3 rfl rfl ?_
 refine LP_call 3 rfl rfl rfl cal_128 rfl (impl_leastCover_impl_SmallestCover_1_w _ _ _ _ H wx r ex13 r3 ex14 r9 ex15) ?_
 rintro _ wx49 ⟨r47, r48, vx51, hx52, H, rfl, x50, o, ex53, f⟩
 obtain ⟨a54, c55, rfl⟩ := o.shape
 refine LP_ev ok 4 [(27, sl a54 r47 c55), (28, .bool r48), (6, sl a54 r47 c55), (7, .bool r48)] 8 rfl rfl ?_
 refine LP_end _ rfl (W_ret ?_)
 have f56 := f.mono X16.size
 exact ⟨_, Ret_of [sl a54 r47 c55, .bool r48] ⟨⟨rfl, rfl⟩, ⟨rfl, rfl⟩, trivial⟩, _, _, _, _, H, rfl, (X16.stepx x50).ext, o, ex53, f56⟩

theorem spec_l1Rising_w (l : List Int) (lo : Int) (hi : Int) (Q : Bool → Prop) (H : spec_l1Rising l lo hi Q) (w : World) {vx : Value} {hx : PH} (r : RS hx vx l) (ex : Sub hx w) :
  CallsTo Try.prog 197 #[vx, I lo, I hi] w fun v w' => ∃ r0, Q r0 ∧ v = .bool r0 ∧ Ext w w' := by
 obtain ⟨a, c, rfl⟩ := r.shape
 refine enter (args := [sl a l c, I lo, I hi]) 35 Try.func197 rfl rfl rfl ?_
 refine W_forget [(0, sl a l c), (1, I lo), (2, I hi)] ⟨rfl, rfl, rfl, trivial⟩ fun ρ => ?_
 have X := But.refl emp w
 refine W_seq (W_region ?_)
 refine LP_ev ok 0 [(6, .bool false)] 1 rfl rfl ?_
 refine LP_end _ rfl (W_seq ?_)
 refine W_seq (W_region ?_)
 refine LP_ev ok 0 [(9, sl a l c), (10, I (ln l)), (11, I 0)] 3 rfl rfl ?_
 refine LP_end _ rfl ?_
 refine W_block ?_
 obtain ⟨J, m, Hx, H⟩ := H
 refine W_loop (S := Int) (fun s ρ' w' => J s ∧ ∃ (ρ : Env), ρ' = setAll [(0, sl a l c), (1, I lo), (2, I hi), (9, sl a l c), (10, I (ln l)), (11, I s)] ρ ∧ But emp w w' ∧ Sub hx w') (fun s => m s) 0 ⟨Hx, _, env_eq ⟨rfl, rfl, rfl, rfl, rfl, rfl, trivial⟩, X, ex⟩ ?_
 rintro x _ wx ⟨Hi, ρ, rfl, X2, ex1⟩
 have H := H x Hi
 refine W_seq (W_region ?_)
 refine LP_ev ok 0 [(12, .bool (decide (x < (ln l))))] 1 rfl rfl ?_
 refine LP_end _ rfl (W_seq ?_)
 refine W_cond (decide (x < (ln l))) rfl (fun hc => ?_) (fun hc => ?_)
 ·have H := H.1 hc
  refine W_skip ?_
  refine W_seq ?_
  refine W_block ?_
  refine W_seq (W_region ?_)
  refine LP_ev ok 0 [(13, I x)] 1 rfl rfl ?_
  obtain ⟨x3, hi4, hx5, H⟩ := H
  refine LP_index 1 rfl rfl rfl Try.underlying31 ti_3 rfl rfl r hi4 hx5 fun a6 cs r7 d => ?_
  refine LP_load 2 rfl rfl rfl ti_3 ag_3 rfl r7 d ex1 fun vx8 r9 => ?_
  obtain rfl := r9.int
  refine LP_ev ok 3 [(7, I x), (8, I x3)] 5 rfl rfl ?_
  refine LP_end _ rfl ?_
  obtain ⟨k, hk, H⟩ := jn_elim H
  refine W_join2 (S := Bool) (fun s ρ' w' => k s ∧ ∃ (ρ : Env), ρ' = setAll [(0, sl a l c), (1, I lo), (2, I hi), (9, sl a l c), (10, I (ln l)), (11, I x), (33, .bool s)] ρ ∧ But emp w w' ∧ Sub hx w') ?_ ?_
  ·refine W_region ?_
   refine LP_ev ok 0 [(16, I x3), (17, I lo), (18, I hi)] 3 rfl rfl ?_
   refine LP_call 3 rfl rfl rfl cal_75 rfl (spec_l1In_w _ _ _ _ H wx ) ?_
   rintro _ wx15 ⟨r14, H, rfl, x16⟩
   refine LP_ev ok 4 [(20, .bool (!r14)), (21, .bool (!r14))] 6 rfl rfl ?_
   refine LP_split 21 (!r14) rfl (fun hc17 => ?_) (fun hc17 => ?_)
   ·have H := H.1 hc17
    refine LP_ev ok 6 [(22, undef), (23, undef), (24, undef), (25, undef), (26, undef), (27, undef), (28, undef), (29, undef), (30, undef), (31, undef), (32, undef), (33, .bool true)] 18 rfl rfl ?_
    exact LP_end _ rfl ⟨true, H, _, env_eq ⟨rfl, rfl, rfl, rfl, rfl, rfl, rfl, trivial⟩, (X2.stepx x16), (ex1.ext x16)⟩
   have H := H.2 hc17
   refine LP_ev ok 6 [(22, I x), (23, .bool (decide (x > 0))), (24, .bool (decide (x > 0)))] 9 rfl rfl ?_
   refine LP_split 24 (decide (x > 0)) rfl (fun hc20 => ?_) (fun hc20 => ?_)
   ·have H := H.1 hc20
    refine LP_ev ok 9 [(25, sl a l c), (26, I x), (27, I (wr (x - 1)))] 12 rfl rfl ?_
    obtain ⟨x21, hi22, hx23, H⟩ := H
    refine LP_index 12 rfl rfl rfl Try.underlying31 ti_3 rfl rfl r hi22 hx23 fun a24 cs25 r26 d27 => ?_
    have ex28 := (ex1.ext x16)
    refine LP_load 13 rfl rfl rfl ti_3 ag_3 rfl r26 d27 ex28 fun vx29 r30 => ?_
    obtain rfl := r30.int
    refine LP_ev ok 14 [(30, I x3), (31, .bool (decide (x21 ≥ x3))), (32, .bool (decide (x21 ≥ x3))), (33, .bool (decide (x21 ≥ x3)))] 18 rfl rfl ?_
    exact LP_end _ rfl ⟨decide (x21 ≥ x3), H, _, env_eq ⟨rfl, rfl, rfl, rfl, rfl, rfl, rfl, trivial⟩, (X2.stepx x16), ex28⟩
   have H := H.2 hc20
   refine LP_ev ok 9 [(25, undef), (26, undef), (27, undef), (28, undef), (29, undef), (30, undef), (31, undef), (32, .bool false), (33, .bool false)] 18 rfl rfl ?_
   exact LP_end _ rfl ⟨false, H, _, env_eq ⟨rfl, rfl, rfl, rfl, rfl, rfl, rfl, trivial⟩, (X2.stepx x16), (ex1.ext x16)⟩
  rintro x10 _ wx11 ⟨H, ρ, rfl, X13, ex12⟩
  subst hk
  refine W_cond (x10) rfl (fun hc34 => ?_) (fun hc34 => ?_)
  ·have H := H.1 hc34
   refine W_seq (W_region ?_)
   refine LP_ev ok 0 [(6, .bool false)] 1 rfl rfl ?_
   refine LP_end _ rfl (W_ret ?_)
   exact ⟨_, Ret_of [.bool false] ⟨⟨rfl, rfl⟩, trivial⟩, _, H, rfl, X13.ext⟩
  have H := H.2 hc34
  refine W_skip ?_
  refine W_region ?_
  refine LP_ev ok 0 [(34, I (wr (x + 1))), (11, I (wr (x + 1)))] 2 rfl rfl ?_
  exact LP_end _ rfl ⟨wr (x + 1), ⟨H.1, _, env_eq ⟨rfl, rfl, rfl, rfl, rfl, rfl, trivial⟩, X13, ex12⟩, H.2⟩
 have H := H.2 hc
 refine W_exit ?_
 refine (if_pos rfl).mpr ?_
 refine W_seq (W_region ?_)
 refine LP_ev ok 0 [(6, .bool true)] 1 rfl rfl ?_
 refine LP_end _ rfl (W_ret ?_)
 exact ⟨_, Ret_of [.bool true] ⟨⟨rfl, rfl⟩, trivial⟩, _, H, rfl, X2.ext⟩

theorem spec_sFits_w (sx : List Variable) (values : List Int) (Q : Bool → Prop) (H : spec_sFits sx values Q) (w : World) {vx : Value} {hx : PH} (r : RS hx vx sx) (ex : Sub hx w) {vx1 : Value} {hx2 : PH} (r3 : RS hx2 vx1 values) (ex4 : Sub hx2 w) :
  CallsTo Try.prog 198 #[vx, vx1] w fun v w' => ∃ r0, Q r0 ∧ v = .bool r0 ∧ Ext w w' := by
 obtain ⟨a, c, rfl⟩ := r.shape
 obtain ⟨a5, c6, rfl⟩ := r3.shape
 refine enter (args := [sl a sx c, sl a5 values c6]) 29 Try.func198 rfl rfl rfl ?_
 refine W_forget [(0, sl a sx c), (1, sl a5 values c6)] ⟨rfl, rfl, trivial⟩ fun ρ => ?_
 have X := But.refl emp w
 refine W_seq (W_region ?_)
 refine LP_ev ok 0 [(4, .bool false)] 1 rfl rfl ?_
 refine LP_end _ rfl (W_seq ?_)
 refine W_seq (W_region ?_)
 refine LP_ev ok 0 [(7, sl a5 values c6), (8, I (ln values)), (9, sl a sx c), (10, I (ln sx)), (11, .bool ((ln values) != (ln sx)))] 5 rfl rfl ?_
 refine LP_end _ rfl ?_
 refine W_cond ((ln values) != (ln sx)) rfl (fun hc => ?_) (fun hc => ?_)
 ·have H := H.1 hc
  refine W_seq (W_region ?_)
  refine LP_ev ok 0 [(4, .bool false)] 1 rfl rfl ?_
  refine LP_end _ rfl (W_ret ?_)
  exact ⟨_, Ret_of [.bool false] ⟨⟨rfl, rfl⟩, trivial⟩, _, H, rfl, X.ext⟩
 have H := H.2 hc
 refine W_skip ?_
 refine W_seq ?_
 refine W_seq (W_region ?_)
 refine LP_ev ok 0 [(12, sl a sx c), (13, I (ln sx)), (14, I 0)] 3 rfl rfl ?_
 refine LP_end _ rfl ?_
 refine W_block ?_
 obtain ⟨J, m, Hx, H⟩ := H
 refine W_loop (S := Int) (fun s ρ' w' => J s ∧ ∃ (ρ : Env), ρ' = setAll [(1, sl a5 values c6), (12, sl a sx c), (13, I (ln sx)), (14, I s)] ρ ∧ But emp w w' ∧ Sub hx w' ∧ Sub hx2 w') (fun s => m s) 0 ⟨Hx, _, env_eq ⟨rfl, rfl, rfl, rfl, trivial⟩, X, ex, ex4⟩ ?_
 rintro x _ wx ⟨Hi, ρ, rfl, X9, ex7, ex8⟩
 have H := H x Hi
 refine W_seq (W_region ?_)
 refine LP_ev ok 0 [(15, .bool (decide (x < (ln sx))))] 1 rfl rfl ?_
 refine LP_end _ rfl (W_seq ?_)
 refine W_cond (decide (x < (ln sx))) rfl (fun hc10 => ?_) (fun hc10 => ?_)
 ·have H := H.1 hc10
  refine W_skip ?_
  refine W_seq ?_
  refine W_block ?_
  refine W_seq (W_region ?_)
  refine LP_ev ok 0 [(16, I x)] 1 rfl rfl ?_
  obtain ⟨x11, hi, hx12, H⟩ := H
  refine LP_index 1 rfl rfl rfl Try.underlying24 ti_167 rfl rfl r hi hx12 fun a13 cs r14 d => ?_
  refine LP_load 2 rfl rfl rfl ti_167 ag_167 rfl r14 d ex7 fun vx15 r16 => ?_
  obtain rfl := Variable_rv r16
  refine LP_alloc 3 rfl rfl rfl ti_167 rfl fun b wx17 x18 ex19 f => ?_
  refine LP_ev ok 4 [(5, I x)] 5 rfl rfl ?_
  refine LP_stbox 5 (vs := [.string x11.Name, I x11.Levels]) (cs' := [.string x11.Name, I x11.Levels]) rfl rfl rfl ti_167 rfl rfl rfl rfl rfl ex19 rfl rfl fun wx20 ex21 y => ?_
  refine LP_end _ rfl (W_seq ?_)
  refine W_quiet mix (by kernel_rfl) ?_
  refine QP_ev ok 0 [(19, sl a5 values c6), (20, I x)] 2 rfl rfl ?_
  obtain ⟨x22, hi23, hx24, H⟩ := H
  refine QP_index 2 rfl rfl rfl Try.underlying31 ti_3 rfl rfl r3 hi23 hx24 fun a25 cs26 r27 d28 => ?_
  have ex29 := ((ex8.ext x18).but y (Dj.of_fresh ex8 f).symm)
  refine QP_load 3 rfl rfl rfl ti_3 ag_3 rfl r27 d28 ex29 fun vx30 r31 => ?_
  obtain rfl := r31.int
  refine QP_ev ok 4 [(23, .pointer (some ⟨b, 1, none⟩))] 5 rfl rfl ?_
  refine QP_ldbox 5 (v := I x11.Levels) rfl rfl rfl ti_3 ag_3 (fun _ => rfl) rfl ex21 rfl rfl ?_
  refine QP_ev ok 6 [(25, I (wr (x11.Levels - 1)))] 7 rfl rfl ?_
  obtain ⟨r32, Hd, H⟩ := H
  refine QP_call (.bool r32) 7 rfl rfl rfl cal_75 rfl (fun wx33 x34 => (spec_l1In_w _ _ _ _ Hd wx33 ).mono ?_) ?_
  ·rintro _ _ ⟨_, rfl, rfl, x⟩; exact ⟨rfl, x⟩
  refine QP_ev ok 8 [(27, .bool (!r32))] 9 rfl rfl ?_
  refine QP_end _ rfl fun wx35 x36 => ?_
  refine W_cond (!r32) rfl (fun hc37 => ?_) (fun hc37 => ?_)
  ·have H := H.1 hc37
   refine W_seq (W_region ?_)
   refine LP_ev ok 0 [(4, .bool false)] 1 rfl rfl ?_
   refine LP_end _ rfl (W_ret ?_)
   have f38 := f.mono X9.size
   exact ⟨_, Ret_of [.bool false] ⟨⟨rfl, rfl⟩, trivial⟩, _, H, rfl, (((X9.stepx x18).step y (f38.dom _)).stepx x36).ext⟩
  have H := H.2 hc37
  refine W_skip ?_
  refine W_region ?_
  refine LP_ev ok 0 [(28, I (wr (x + 1))), (14, I (wr (x + 1)))] 2 rfl rfl ?_
  refine LP_end _ rfl ?_
  have f40 := f.mono X9.size
  exact ⟨wr (x + 1), ⟨H.1, _, env_eq ⟨rfl, rfl, rfl, rfl, trivial⟩, (((X9.stepx x18).step y (f40.dom _)).stepx x36), (((ex7.ext x18).but y (Dj.of_fresh ex7 f).symm).ext x36), (ex29.ext x36)⟩, H.2⟩
 have H := H.2 hc10
 refine W_exit ?_
 refine (if_pos rfl).mpr ?_
 refine W_seq (W_region ?_)
 refine LP_ev ok 0 [(4, .bool true)] 1 rfl rfl ?_
 refine LP_end _ rfl (W_ret ?_)
 exact ⟨_, Ret_of [.bool true] ⟨⟨rfl, rfl⟩, trivial⟩, _, H, rfl, X9.ext⟩

theorem spec_eAsked_w (sx : List Variable) (l : List Edit) (fixed : List Int) (values : List Int) (Q : Bool → Prop) (H : spec_eAsked sx l fixed values Q) (w : World) {vx : Value} {hx : PH} (r : RS hx vx sx) (ex : Sub hx w) {vx1 : Value} {hx2 : PH} (r3 : RS hx2 vx1 l) (ex4 : Sub hx2 w) {vx7 : Value} {hx8 : PH} (r9 : RS hx8 vx7 fixed) (ex10 : Sub hx8 w) {vx13 : Value} {hx14 : PH} (r15 : RS hx14 vx13 values) (ex16 : Sub hx14 w) :
  CallsTo Try.prog 130 #[vx, vx1, vx7, vx13] w fun v w' => ∃ r0, Q r0 ∧ v = .bool r0 ∧ Ext w w' := by
 obtain ⟨a, c, rfl⟩ := r.shape
 obtain ⟨a5, c6, rfl⟩ := r3.shape
 obtain ⟨a11, c12, rfl⟩ := r9.shape
 obtain ⟨a17, c18, rfl⟩ := r15.shape
 refine enter (args := [sl a sx c, sl a5 l c6, sl a11 fixed c12, sl a17 values c18]) 24 Try.func130 rfl rfl rfl ?_
 refine W_forget [(0, sl a sx c), (1, sl a5 l c6), (2, sl a11 fixed c12), (3, sl a17 values c18)] ⟨rfl, rfl, rfl, rfl, trivial⟩ fun ρ => ?_
 have X := But.refl emp w
 refine W_seq (W_region ?_)
 refine LP_ev ok 0 [(8, .bool false)] 1 rfl rfl ?_
 refine LP_end _ rfl ?_
 obtain ⟨k, hk, H⟩ := jn_elim H
 refine W_join2 (S := Bool) (fun s ρ' w' => k s ∧ ∃ (ρ : Env), ρ' = setAll [(8, .bool s)] ρ ∧ But emp w w') ?_ ?_
 ·refine W_region ?_
  refine LP_ev ok 0 [(9, sl a sx c), (10, sl a5 l c6)] 2 rfl rfl ?_
  refine LP_call 2 rfl rfl rfl cal_65 rfl (spec_eSmall_w _ _ _ H w r ex r3 ex4) ?_
  rintro _ wx21 ⟨r20, H, rfl, x22⟩
  refine LP_ev ok 3 [(12, .bool r20)] 4 rfl rfl ?_
  refine LP_split 12 (r20) rfl (fun hc => ?_) (fun hc => ?_)
  ·have H := H.1 hc
   refine LP_ev ok 4 [(13, sl a11 fixed c12), (14, sl a sx c), (15, I (ln sx)), (16, I (wr ((ln sx) - 1)))] 8 rfl rfl ?_
   refine LP_call 8 rfl rfl rfl cal_197 rfl (spec_l1Rising_w _ _ _ _ H wx21 r9 (ex10.ext x22)) ?_
   rintro _ wx25 ⟨r23, H, rfl, x26⟩
   refine LP_ev ok 9 [(18, .bool r23), (19, .bool r23)] 11 rfl rfl ?_
   refine LP_split 19 (r23) rfl (fun hc27 => ?_) (fun hc27 => ?_)
   ·have H := H.1 hc27
    refine LP_ev ok 11 [(20, sl a sx c), (21, sl a17 values c18)] 13 rfl rfl ?_
    have xc := (x22.trans x26)
    refine LP_call 13 rfl rfl rfl cal_198 rfl (spec_sFits_w _ _ _ H wx25 r (ex.ext xc) r15 (ex16.ext xc)) ?_
    rintro _ wx31 ⟨r28, H, rfl, x32⟩
    refine LP_ev ok 14 [(23, .bool r28), (8, .bool r28)] 16 rfl rfl ?_
    exact LP_end _ rfl ⟨r28, H, _, env_eq ⟨rfl, trivial⟩, (X.stepx (xc.trans x32))⟩
   have H := H.2 hc27
   refine LP_ev ok 11 [(20, undef), (21, undef), (22, undef), (23, .bool false), (8, .bool false)] 16 rfl rfl ?_
   exact LP_end _ rfl ⟨false, H, _, env_eq ⟨rfl, trivial⟩, (X.stepx (x22.trans x26))⟩
  have H := H.2 hc
  refine LP_ev ok 4 [(13, undef), (14, undef), (15, undef), (16, undef), (17, undef), (18, .bool false), (19, .bool false), (20, undef), (21, undef), (22, undef), (23, .bool false), (8, .bool false)] 16 rfl rfl ?_
  exact LP_end _ rfl ⟨false, H, _, env_eq ⟨rfl, trivial⟩, (X.stepx x22)⟩
 rintro x _ wx ⟨H, ρ, rfl, X19⟩
 subst hk
 refine W_ret ?_
 exact ⟨_, Ret_of [.bool x] ⟨⟨rfl, rfl⟩, trivial⟩, _, H, rfl, X19.ext⟩

theorem spec_eLevels_w (setx : Int) (Q : (List Int) → Prop) (H : spec_eLevels setx Q) (w : World)  :
  CallsTo Try.prog 131 #[I setx] w fun v w' => ∃ r0 u0 g0, Q r0 ∧ v = u0 ∧ Ext w w' ∧ OS 3 g0 emp u0 r0 ∧ Sub g0 w' ∧ Fresh w.heap.size g0 := by
 refine enter (args := [I setx]) 23 Try.func131 rfl rfl rfl ?_
 refine W_forget [(0, I setx)] ⟨rfl, trivial⟩ fun ρ => ?_
 have X := But.refl emp w
 refine W_seq (W_region ?_)
 refine LP_ev ok 0 [(2, .slice none 0 0)] 1 rfl rfl ?_
 refine LP_end _ rfl (W_seq (W_region ?_))
 refine LP_ev ok 0 [(3, .slice none 0 0)] 1 rfl rfl ?_
 refine LP_end _ rfl (W_seq ?_)
 refine W_seq (W_region ?_)
 refine LP_ev ok 0 [(4, I 0)] 1 rfl rfl ?_
 refine LP_end _ rfl ?_
 refine W_block ?_
 obtain ⟨J, m, Hx, H⟩ := H
 refine W_loop (S := (List Int) × Int) (fun s ρ' w' => J s.1 s.2 ∧ ∃ (ρ : Env) (vx : Value) (hx : PH), ρ' = setAll [(0, I setx), (3, vx), (4, I s.2)] ρ ∧ But emp w w' ∧ OS 3 hx emp vx s.1 ∧ Sub hx w' ∧ Fresh w.heap.size hx) (fun s => m s.1 s.2) ([], 0) ⟨Hx, _, .slice none 0 0, emp, env_eq ⟨rfl, rfl, rfl, trivial⟩, X, OS.nil, (emp_sub _), (emp_fresh _)⟩ ?_
 rintro ⟨out, x⟩ _ wx ⟨Hi, ρ, vx, hx, rfl, X1, o, ex, f⟩
 have H := H out x Hi
 obtain ⟨a, c, rfl⟩ := o.shape
 refine W_seq ?_
 refine W_seq (W_region ?_)
 refine LP_ev ok 0 [(5, I setx), (6, I x), (7, .int .u64 (IntKind.u64.wrap (x)))] 3 rfl rfl ?_
 obtain ⟨hz, H⟩ := H
 refine LP_val 3 _ rfl rfl (ex_shr rfl rfl rfl hz _) ?_
 refine LP_ev ok 4 [(9, .bool (decide ((shr .i64 setx (IntKind.u64.wrap (x))) > 0)))] 5 rfl rfl ?_
 refine LP_end _ rfl ?_
 refine W_cond (decide ((shr .i64 setx (IntKind.u64.wrap (x))) > 0)) rfl (fun hc => ?_) (fun hc => ?_)
 ·have H := H.1 hc
  refine W_skip ?_
  obtain ⟨k, hk, H⟩ := jn_elim H
  refine W_join2 (S := (List Int)) (fun s ρ' w' => k s ∧ ∃ (ρ : Env) (vx3 : Value) (hx4 : PH), ρ' = setAll [(0, I setx), (3, vx3), (4, I x)] ρ ∧ But emp w w' ∧ OS 3 hx4 emp vx3 s ∧ Sub hx4 w' ∧ Fresh w.heap.size hx4) ?_ ?_
  ·refine W_block ?_
   refine W_seq (W_region ?_)
   refine LP_ev ok 0 [(12, I setx), (13, I x), (14, .int .u64 (IntKind.u64.wrap (x)))] 3 rfl rfl ?_
   obtain ⟨hz12, H⟩ := H
   refine LP_val 3 _ rfl rfl (ex_shr rfl rfl rfl hz12 _) ?_
   refine LP_ev ok 4 [(16, I (bits .and .i64 (shr .i64 setx (IntKind.u64.wrap (x))) 1)), (17, .bool ((bits .and .i64 (shr .i64 setx (IntKind.u64.wrap (x))) 1) == 1))] 6 rfl rfl ?_
   refine LP_end _ rfl ?_
   refine W_cond ((bits .and .i64 (shr .i64 setx (IntKind.u64.wrap (x))) 1) == 1) rfl (fun hc13 => ?_) (fun hc13 => ?_)
   ·have H := H.1 hc13
    refine W_region ?_
    refine LP_ev ok 0 [(18, sl a out c), (19, I x)] 2 rfl rfl ?_
    refine LP_lit (α := Int) (g := emp) 2 (vs := [I x]) (xs := [x]) rfl rfl rfl Try.underlying31 ti_3 rfl rfl ⟨⟨_, rfl, rfl⟩, trivial⟩ rfl rfl fun hx14 vx15 wx16 x17 o18 ex19 f20 => ?_
    obtain ⟨a21, c22, rfl⟩ := o18.shape
    obtain ⟨hb, H⟩ := H
    refine LP_appendf (α := Int) 3 rfl rfl rfl Try.underlying31 ti_3 rfl rfl rfl o (ex.ext x17) o18.readf ex19 (by first | omega | (simp only [ln] at *; omega)) (by first | omega | (simp only [ln] at *; omega)) fun hx24 vx25 wx26 o27 ex28 y dm => ?_
    obtain ⟨a29, c30, rfl⟩ := o27.shape
    refine LP_ev ok 4 [(3, .slice a29 (List.length (out ++ ([x]))) c30)] 5 rfl rfl ?_
    refine LP_end _ rfl ?_
    have f32 := dm.fresh f (X1.stepx x17).size
    exact ⟨out ++ ([x]), H, _, .slice a29 (List.length (out ++ ([x]))) c30, hx24, env_eq ⟨rfl, rfl, rfl, trivial⟩, ((X1.stepx x17).step y (f.dom _)), o27, ex28, f32⟩
   have H := H.2 hc13
   exact W_skip ⟨out, H, _, sl a out c, hx, env_eq ⟨rfl, rfl, rfl, trivial⟩, X1, o, ex, f⟩
  rintro out2 _ wx8 ⟨H, ρ, vx3, hx4, rfl, X11, o5, ex6, f7⟩
  subst hk
  obtain ⟨a9, c10, rfl⟩ := o5.shape
  refine W_region ?_
  refine LP_ev ok 0 [(10, I x), (11, I (wr (x + 1))), (4, I (wr (x + 1)))] 3 rfl rfl ?_
  exact LP_end _ rfl ⟨(out2, wr (x + 1)), ⟨H.1, _, sl a9 out2 c10, hx4, env_eq ⟨rfl, rfl, rfl, trivial⟩, X11, o5, ex6, f7⟩, H.2⟩
 have H := H.2 hc
 refine W_exit ?_
 refine (if_pos rfl).mpr ?_
 refine W_seq (W_region ?_)
 refine LP_ev ok 0 [(22, sl a out c), (2, sl a out c)] 2 rfl rfl ?_
 refine LP_end _ rfl (W_ret ?_)
 exact ⟨_, Ret_of [sl a out c] ⟨⟨rfl, rfl⟩, trivial⟩, _, _, _, H, rfl, X1.ext, o, ex, f⟩

theorem spec_l1Has_w (l : List Int) (n : Int) (Q : Bool → Prop) (H : spec_l1Has l n Q) (w : World) {vx : Value} {hx : PH} (r : RS hx vx l) (ex : Sub hx w) :
  CallsTo Try.prog 132 #[vx, I n] w fun v w' => ∃ r0, Q r0 ∧ v = .bool r0 ∧ Ext w w' := by
 obtain ⟨a, c, rfl⟩ := r.shape
 refine enter (args := [sl a l c, I n]) 17 Try.func132 rfl rfl rfl ?_
 refine W_forget [(0, sl a l c), (1, I n)] ⟨rfl, rfl, trivial⟩ fun ρ => ?_
 have X := But.refl emp w
 refine W_seq (W_region ?_)
 refine LP_ev ok 0 [(4, .bool false)] 1 rfl rfl ?_
 refine LP_end _ rfl (W_seq ?_)
 refine W_seq (W_region ?_)
 refine LP_ev ok 0 [(7, sl a l c), (8, I (ln l)), (9, I 0)] 3 rfl rfl ?_
 refine LP_end _ rfl ?_
 refine W_block ?_
 obtain ⟨J, m, Hx, H⟩ := H
 refine W_loop (S := Int) (fun s ρ' w' => J s ∧ ∃ (ρ : Env), ρ' = setAll [(1, I n), (7, sl a l c), (8, I (ln l)), (9, I s)] ρ ∧ w = w') (fun s => m s) 0 ⟨Hx, _, env_eq ⟨rfl, rfl, rfl, rfl, trivial⟩, rfl⟩ ?_
 rintro x _ _ ⟨Hi, ρ, rfl, rfl⟩
 have H := H x Hi
 refine W_seq (W_region ?_)
 refine LP_ev ok 0 [(10, .bool (decide (x < (ln l))))] 1 rfl rfl ?_
 refine LP_end _ rfl (W_seq ?_)
 refine W_cond (decide (x < (ln l))) rfl (fun hc => ?_) (fun hc => ?_)
 ·have H := H.1 hc
  refine W_skip ?_
  refine W_seq ?_
  refine W_block ?_
  refine W_seq (W_region ?_)
  obtain ⟨x1, hi, hx2, H⟩ := H
  refine LP_index 0 rfl rfl rfl Try.underlying31 ti_3 rfl rfl r hi hx2 fun a3 cs r4 d => ?_
  refine LP_load 1 rfl rfl rfl ti_3 ag_3 rfl r4 d ex fun vx5 r6 => ?_
  obtain rfl := r6.int
  refine LP_ev ok 2 [(6, I x1)] 3 rfl rfl ?_
  refine LP_end _ rfl (W_seq (W_region ?_))
  refine LP_ev ok 0 [(13, I x1), (14, I n), (15, .bool (x1 == n))] 3 rfl rfl ?_
  refine LP_end _ rfl ?_
  refine W_cond (x1 == n) rfl (fun hc7 => ?_) (fun hc7 => ?_)
  ·have H := H.1 hc7
   refine W_seq (W_region ?_)
   refine LP_ev ok 0 [(4, .bool true)] 1 rfl rfl ?_
   refine LP_end _ rfl (W_ret ?_)
   exact ⟨_, Ret_of [.bool true] ⟨⟨rfl, rfl⟩, trivial⟩, _, H, rfl, X.ext⟩
  have H := H.2 hc7
  refine W_skip ?_
  refine W_region ?_
  refine LP_ev ok 0 [(16, I (wr (x + 1))), (9, I (wr (x + 1)))] 2 rfl rfl ?_
  exact LP_end _ rfl ⟨wr (x + 1), ⟨H.1, _, env_eq ⟨rfl, rfl, rfl, rfl, trivial⟩, rfl⟩, H.2⟩
 have H := H.2 hc
 refine W_exit ?_
 refine (if_pos rfl).mpr ?_
 refine W_seq (W_region ?_)
 refine LP_ev ok 0 [(4, .bool false)] 1 rfl rfl ?_
 refine LP_end _ rfl (W_ret ?_)
 exact ⟨_, Ret_of [.bool false] ⟨⟨rfl, rfl⟩, trivial⟩, _, H, rfl, X.ext⟩

theorem spec_eComplete_w (sx : List Variable) (l : List Edit) (fixed : List Int) (values : List Int) (Q : (List Int) → Bool → Prop) (H : spec_eComplete sx l fixed values Q) (w : World) {vx : Value} {hx : PH} (r : RS hx vx sx) (ex : Sub hx w) {vx1 : Value} {hx2 : PH} (r3 : RS hx2 vx1 l) (ex4 : Sub hx2 w) {vx7 : Value} {hx8 : PH} (r9 : RS hx8 vx7 fixed) (ex10 : Sub hx8 w) {vx13 : Value} {hx14 : PH} (r15 : RS hx14 vx13 values) (ex16 : Sub hx14 w) :
  CallsTo Try.prog 133 #[vx, vx1, vx7, vx13] w fun v w' => ∃ r0 r1 u0 g0, Q r0 r1 ∧ v = .tuple #[u0, .bool r1] ∧ Ext w w' ∧ OS 3 g0 emp u0 r0 ∧ Sub g0 w' ∧ Fresh w.heap.size g0 := by
 obtain ⟨a, c, rfl⟩ := r.shape
 obtain ⟨a5, c6, rfl⟩ := r3.shape
 obtain ⟨a11, c12, rfl⟩ := r9.shape
 obtain ⟨a17, c18, rfl⟩ := r15.shape
 refine enter (args := [sl a sx c, sl a5 l c6, sl a11 fixed c12, sl a17 values c18]) 50 Try.func133 rfl rfl rfl ?_
 refine W_forget [(0, sl a sx c), (1, sl a5 l c6), (2, sl a11 fixed c12), (3, sl a17 values c18)] ⟨rfl, rfl, rfl, rfl, trivial⟩ fun ρ => ?_
 have X := But.refl emp w
 refine W_seq (W_region ?_)
 refine LP_ev ok 0 [(8, .slice none 0 0), (9, .bool false)] 2 rfl rfl ?_
 refine LP_end _ rfl (W_seq ?_)
 refine W_seq (W_region ?_)
 refine LP_ev ok 0 [(10, I 0)] 1 rfl rfl ?_
 refine LP_end _ rfl ?_
 refine W_block ?_
 obtain ⟨J, m, Hx, H⟩ := H
 refine W_loop (S := Int) (fun s ρ' w' => J s ∧ ∃ (ρ : Env), ρ' = setAll [(0, sl a sx c), (1, sl a5 l c6), (2, sl a11 fixed c12), (3, sl a17 values c18), (10, I s)] ρ ∧ But emp w w' ∧ Sub hx w' ∧ Sub hx2 w' ∧ Sub hx8 w' ∧ Sub hx14 w') (fun s => m s) 0 ⟨Hx, _, env_eq ⟨rfl, rfl, rfl, rfl, rfl, trivial⟩, X, ex, ex4, ex10, ex16⟩ ?_
 rintro i _ wx ⟨Hi, ρ, rfl, HF⟩
 revert HF
 refine bb5 fun X23 ex19 ex20 ex21 ex22 => ?_
 have H := H i Hi
 refine W_seq ?_
 refine W_seq (W_region ?_)
 refine LP_ev ok 0 [(15, I i), (16, sl a sx c)] 2 rfl rfl ?_
 refine LP_call 2 rfl rfl rfl cal_121 rfl (spec_sCount_w _ _ H wx r ex19) ?_
 rintro _ wx25 ⟨r24, H, rfl, x⟩
 refine LP_ev ok 3 [(18, .bool (decide (i < r24)))] 4 rfl rfl ?_
 refine LP_end _ rfl ?_
 refine W_cond (decide (i < r24)) rfl (fun hc => ?_) (fun hc => ?_)
 ·have H := H.1 hc
  refine W_skip ?_
  refine W_seq ?_
  refine W_block ?_
  refine W_seq (W_region ?_)
  refine LP_ev ok 0 [(21, sl a sx c), (22, I i)] 2 rfl rfl ?_
  have ex27 := (ex19.ext x)
  refine LP_call 2 rfl rfl rfl cal_122 rfl (spec_sAt_w _ _ _ H wx25 r ex27) ?_
  rintro _ wx28 ⟨r26, vx30, hx31, H, rfl, x29, o, ex32, f⟩
  obtain ⟨a33, c34, rfl⟩ := o.shape
  refine LP_ev ok 3 [(11, sl a33 r26 c34)] 4 rfl rfl ?_
  refine LP_end _ rfl (W_seq (W_region ?_))
  refine LP_ev ok 0 [(24, sl a5 l c6), (25, sl a33 r26 c34)] 2 rfl rfl ?_
  have xc := (x.trans x29)
  have ex36 := (ex20.ext xc)
  refine LP_call 2 rfl rfl rfl cal_143 rfl (spec_eFailed_w _ _ _ H wx28 r3 ex36 o.readf ex32) ?_
  rintro _ wx37 ⟨r35, vx39, hx40, H, rfl, x38, o41, ex42, f43⟩
  obtain ⟨a44, c45, rfl⟩ := o41.shape
  refine LP_ev ok 3 [(27, I (ln r35)), (28, .bool ((ln r35) == 0)), (12, .bool ((ln r35) == 0))] 6 rfl rfl ?_
  refine LP_end _ rfl (W_seq ?_)
  refine W_seq (W_region ?_)
  refine LP_ev ok 0 [(29, sl a11 fixed c12), (30, I (ln fixed)), (31, I 0)] 3 rfl rfl ?_
  refine LP_end _ rfl ?_
  refine W_block ?_
  have xc57 := (xc.trans x38)
  obtain ⟨J54, m55, Hx56, H⟩ := H
  refine W_loop (S := Bool × Int) (fun s ρ' w' => J54 s.1 s.2 ∧ ∃ (ρ : Env), ρ' = setAll [(0, sl a sx c), (1, sl a5 l c6), (2, sl a11 fixed c12), (3, sl a17 values c18), (10, I i), (11, sl a33 r26 c34), (12, .bool s.1), (29, sl a11 fixed c12), (30, I (ln fixed)), (31, I s.2)] ρ ∧ But emp w w' ∧ Sub hx w' ∧ Sub hx2 w' ∧ Sub hx8 w' ∧ Sub hx14 w' ∧ Sub hx31 w') (fun s => m55 s.1 s.2) ((ln r35) == 0, 0) ⟨Hx56, _, env_eq ⟨rfl, rfl, rfl, rfl, rfl, rfl, rfl, rfl, rfl, rfl, trivial⟩, (X23.stepx xc57), (ex27.ext (x29.trans x38)), (ex36.ext x38), (ex21.ext xc57), (ex22.ext xc57), (ex32.ext x38)⟩ ?_
  rintro ⟨fits, x46⟩ _ wx47 ⟨Hi, ρ, rfl, HF⟩
  revert HF
  refine bb6 fun X53 ex48 ex49 ex50 ex51 ex52 => ?_
  have H := H fits x46 Hi
  refine W_seq (W_region ?_)
  refine LP_ev ok 0 [(32, .bool (decide (x46 < (ln fixed))))] 1 rfl rfl ?_
  refine LP_end _ rfl (W_seq ?_)
  refine W_cond (decide (x46 < (ln fixed))) rfl (fun hc66 => ?_) (fun hc66 => ?_)
  ·have H := H.1 hc66
   refine W_skip ?_
   obtain ⟨k, hk, H⟩ := jn_elim H
   refine W_join2 (S := Bool) (fun s ρ' w' => k s ∧ ∃ (ρ : Env), ρ' = setAll [(0, sl a sx c), (1, sl a5 l c6), (2, sl a11 fixed c12), (3, sl a17 values c18), (10, I i), (11, sl a33 r26 c34), (12, .bool s), (29, sl a11 fixed c12), (30, I (ln fixed)), (31, I x46)] ρ ∧ But emp w w' ∧ Sub hx w' ∧ Sub hx2 w' ∧ Sub hx8 w' ∧ Sub hx14 w' ∧ Sub hx31 w') ?_ ?_
   ·refine W_block ?_
    refine W_seq (W_region ?_)
    obtain ⟨x77, hi, hx78, H⟩ := H
    refine LP_index 0 rfl rfl rfl Try.underlying31 ti_3 rfl rfl r9 hi hx78 fun a79 cs r80 d => ?_
    refine LP_load 1 rfl rfl rfl ti_3 ag_3 rfl r80 d ex50 fun vx81 r82 => ?_
    obtain rfl := r82.int
    refine LP_ev ok 2 [(14, I x77)] 3 rfl rfl ?_
    refine LP_end _ rfl ?_
    refine W_quiet mix (by kernel_rfl) ?_
    refine QP_ev ok 0 [(35, .bool fits), (36, .bool fits)] 2 rfl rfl ?_
    refine QP_split 36 (fits) rfl (fun hc83 => ?_) (fun hc83 => ?_)
    ·have H := H.1 hc83
     refine QP_ev ok 2 [(37, sl a33 r26 c34), (38, I x77)] 4 rfl rfl ?_
     obtain ⟨x84, hi85, hx86, H⟩ := H
     refine QP_index 4 rfl rfl rfl Try.underlying31 ti_3 rfl rfl o.readf hi85 hx86 fun a87 cs88 r89 d90 => ?_
     refine QP_load 5 rfl rfl rfl ti_3 ag_3 rfl r89 d90 ex52 fun vx91 r92 => ?_
     obtain rfl := r92.int
     refine QP_ev ok 6 [(41, sl a17 values c18), (42, I x77)] 8 rfl rfl ?_
     obtain ⟨x93, hi94, hx95, H⟩ := H
     refine QP_index 8 rfl rfl rfl Try.underlying31 ti_3 rfl rfl r15 hi94 hx95 fun a96 cs97 r98 d99 => ?_
     refine QP_load 9 rfl rfl rfl ti_3 ag_3 rfl r98 d99 ex51 fun vx100 r101 => ?_
     obtain rfl := r101.int
     refine QP_ev ok 10 [(45, .bool (x84 == x93)), (46, .bool (x84 == x93)), (12, .bool (x84 == x93))] 13 rfl rfl ?_
     refine QP_end _ rfl fun wx102 x103 => ?_
     exact ⟨x84 == x93, H, _, env_eq ⟨rfl, rfl, rfl, rfl, rfl, rfl, rfl, rfl, rfl, rfl, trivial⟩, (X53.stepx x103), (ex48.ext x103), (ex49.ext x103), (ex50.ext x103), (ex51.ext x103), (ex52.ext x103)⟩
    have H := H.2 hc83
    refine QP_ev ok 2 [(37, undef), (38, undef), (39, undef), (40, undef), (41, undef), (42, undef), (43, undef), (44, undef), (45, undef), (46, .bool false), (12, .bool false)] 13 rfl rfl ?_
    refine QP_end _ rfl fun wx110 x111 => ?_
    exact ⟨false, H, _, env_eq ⟨rfl, rfl, rfl, rfl, rfl, rfl, rfl, rfl, rfl, rfl, trivial⟩, (X53.stepx x111), (ex48.ext x111), (ex49.ext x111), (ex50.ext x111), (ex51.ext x111), (ex52.ext x111)⟩
   rintro fits69 _ wx70 ⟨H, ρ, rfl, HF⟩
   revert HF
   refine bb6 fun X76 ex71 ex72 ex73 ex74 ex75 => ?_
   subst hk
   refine W_region ?_
   refine LP_ev ok 0 [(47, I (wr (x46 + 1))), (31, I (wr (x46 + 1)))] 2 rfl rfl ?_
   exact LP_end _ rfl ⟨(fits69, wr (x46 + 1)), ⟨H.1, _, env_eq ⟨rfl, rfl, rfl, rfl, rfl, rfl, rfl, rfl, rfl, rfl, trivial⟩, X76, ex71, ex72, ex73, ex74, ex75⟩, H.2⟩
  have H := H.2 hc66
  refine W_exit ?_
  refine (if_pos rfl).mpr ?_
  refine W_seq (W_region ?_)
  refine LP_ev ok 0 [(48, .bool fits)] 1 rfl rfl ?_
  refine LP_end _ rfl ?_
  refine W_cond (fits) rfl (fun hc118 => ?_) (fun hc118 => ?_)
  ·have H := H.1 hc118
   refine W_seq (W_region ?_)
   refine LP_ev ok 0 [(49, sl a33 r26 c34), (8, sl a33 r26 c34), (9, .bool true)] 3 rfl rfl ?_
   refine LP_end _ rfl (W_ret ?_)
   have f119 := f.mono (X23.stepx x).size
   exact ⟨_, Ret_of [sl a33 r26 c34, .bool true] ⟨⟨rfl, rfl⟩, ⟨rfl, rfl⟩, trivial⟩, _, _, _, _, H, rfl, X53.ext, o, ex52, f119⟩
  have H := H.2 hc118
  refine W_skip ?_
  refine W_region ?_
  refine LP_ev ok 0 [(19, I i), (20, I (wr (i + 1))), (10, I (wr (i + 1)))] 3 rfl rfl ?_
  exact LP_end _ rfl ⟨wr (i + 1), ⟨H.1, _, env_eq ⟨rfl, rfl, rfl, rfl, rfl, trivial⟩, X53, ex48, ex49, ex50, ex51⟩, H.2⟩
 have H := H.2 hc
 refine W_exit ?_
 refine (if_pos rfl).mpr ?_
 refine W_seq (W_region ?_)
 refine LP_ev ok 0 [(8, .slice none 0 0), (9, .bool false)] 2 rfl rfl ?_
 refine LP_end _ rfl (W_ret ?_)
 exact ⟨_, Ret_of [.slice none 0 0, .bool false] ⟨⟨rfl, rfl⟩, ⟨rfl, rfl⟩, trivial⟩, _, _, _, emp, H, rfl, (X23.stepx x).ext, OS.nil, (emp_sub _), (emp_fresh _)⟩

theorem spec_l1Sign_w (n : Int) (Q : Int → Prop) (H : spec_l1Sign n Q) (w : World)  :
  CallsTo Try.prog 199 #[I n] w fun v w' => ∃ r0, Q r0 ∧ v = I r0 ∧ Ext w w' := by
 refine enter (args := [I n]) 9 Try.func199 rfl rfl rfl ?_
 refine W_forget [(0, I n)] ⟨rfl, trivial⟩ fun ρ => ?_
 have X := But.refl emp w
 refine W_seq (W_region ?_)
 refine LP_ev ok 0 [(2, I 0)] 1 rfl rfl ?_
 refine LP_end _ rfl (W_seq ?_)
 refine W_block ?_
 refine W_seq (W_region ?_)
 refine LP_ev ok 0 [(4, I n), (5, .bool (decide (n < 0))), (3, .bool (decide (n < 0)))] 3 rfl rfl ?_
 refine LP_end _ rfl ?_
 refine W_cond (decide (n < 0)) rfl (fun hc => ?_) (fun hc => ?_)
 ·have H := H.1 hc
  refine W_seq (W_region ?_)
  refine LP_ev ok 0 [(2, I ((-1)))] 1 rfl rfl ?_
  refine LP_end _ rfl (W_ret ?_)
  exact ⟨_, Ret_of [I ((-1))] ⟨⟨rfl, rfl⟩, trivial⟩, _, H, rfl, X.ext⟩
 have H := H.2 hc
 refine W_seq (W_region ?_)
 refine LP_ev ok 0 [(7, I n), (8, .bool (decide (n > 0))), (6, .bool (decide (n > 0)))] 3 rfl rfl ?_
 refine LP_end _ rfl ?_
 refine W_cond (decide (n > 0)) rfl (fun hc1 => ?_) (fun hc1 => ?_)
 ·have H := H.1 hc1
  refine W_seq (W_region ?_)
  refine LP_ev ok 0 [(2, I 1)] 1 rfl rfl ?_
  refine LP_end _ rfl (W_ret ?_)
  exact ⟨_, Ret_of [I 1] ⟨⟨rfl, rfl⟩, trivial⟩, _, H, rfl, X.ext⟩
 have H := H.2 hc1
 refine W_skip ?_
 refine W_seq (W_region ?_)
 refine LP_ev ok 0 [(2, I 0)] 1 rfl rfl ?_
 refine LP_end _ rfl (W_ret ?_)
 exact ⟨_, Ret_of [I 0] ⟨⟨rfl, rfl⟩, trivial⟩, _, H, rfl, X.ext⟩

theorem spec_l1Less_w (a : List Int) (b : List Int) (Q : Int → Prop) (H : spec_l1Less a b Q) (w : World) {vx : Value} {hx : PH} (r : RS hx vx a) (ex : Sub hx w) {vx2 : Value} {hx3 : PH} (r4 : RS hx3 vx2 b) (ex5 : Sub hx3 w) :
  CallsTo Try.prog 134 #[vx, vx2] w fun v w' => ∃ r0, Q r0 ∧ v = I r0 ∧ Ext w w' := by
 obtain ⟨a1, c, rfl⟩ := r.shape
 obtain ⟨a6, c7, rfl⟩ := r4.shape
 refine enter (args := [sl a1 a c, sl a6 b c7]) 42 Try.func134 rfl rfl rfl ?_
 refine W_forget [(0, sl a1 a c), (1, sl a6 b c7)] ⟨rfl, rfl, trivial⟩ fun ρ => ?_
 have X := But.refl emp w
 refine W_seq (W_region ?_)
 refine LP_ev ok 0 [(4, I 0)] 1 rfl rfl ?_
 refine LP_end _ rfl (W_seq ?_)
 refine W_seq (W_region ?_)
 refine LP_ev ok 0 [(5, I 0)] 1 rfl rfl ?_
 refine LP_end _ rfl ?_
 refine W_block ?_
 obtain ⟨J, m, Hx, H⟩ := H
 refine W_loop (S := Int) (fun s ρ' w' => J s ∧ ∃ (ρ : Env), ρ' = setAll [(0, sl a1 a c), (1, sl a6 b c7), (5, I s)] ρ ∧ But emp w w' ∧ Sub hx w' ∧ Sub hx3 w') (fun s => m s) 0 ⟨Hx, _, env_eq ⟨rfl, rfl, rfl, trivial⟩, X, ex, ex5⟩ ?_
 rintro i _ wx ⟨Hi, ρ, rfl, X10, ex8, ex9⟩
 have H := H i Hi
 refine W_seq ?_
 obtain ⟨k, hk, H⟩ := jn_elim H
 refine W_join2 (S := Bool) (fun s ρ' w' => k s ∧ ∃ (ρ : Env), ρ' = setAll [(0, sl a1 a c), (1, sl a6 b c7), (5, I i), (15, .bool s)] ρ ∧ wx = w') ?_ ?_
 ·refine W_region ?_
  refine LP_ev ok 0 [(6, I i), (7, sl a1 a c), (8, I (ln a)), (9, .bool (decide (i < (ln a)))), (10, .bool (decide (i < (ln a))))] 5 rfl rfl ?_
  refine LP_split 10 (decide (i < (ln a))) rfl (fun hc => ?_) (fun hc => ?_)
  ·have H := H.1 hc
   refine LP_ev ok 5 [(11, I i), (12, sl a6 b c7), (13, I (ln b)), (14, .bool (decide (i < (ln b)))), (15, .bool (decide (i < (ln b))))] 10 rfl rfl ?_
   exact LP_end _ rfl ⟨decide (i < (ln b)), H, _, env_eq ⟨rfl, rfl, rfl, rfl, trivial⟩, rfl⟩
  have H := H.2 hc
  refine LP_ev ok 5 [(11, undef), (12, undef), (13, undef), (14, undef), (15, .bool false)] 10 rfl rfl ?_
  exact LP_end _ rfl ⟨false, H, _, env_eq ⟨rfl, rfl, rfl, rfl, trivial⟩, rfl⟩
 rintro x _ _ ⟨H, ρ, rfl, rfl⟩
 subst hk
 refine W_cond (x) rfl (fun hc12 => ?_) (fun hc12 => ?_)
 ·have H := H.1 hc12
  refine W_skip ?_
  refine W_seq ?_
  refine W_block ?_
  refine W_seq ?_
  refine W_quiet mix (by kernel_rfl) ?_
  refine QP_ev ok 0 [(18, sl a1 a c), (19, I i)] 2 rfl rfl ?_
  obtain ⟨x13, hi, hx14, H⟩ := H
  refine QP_index 2 rfl rfl rfl Try.underlying31 ti_3 rfl rfl r hi hx14 fun a15 cs r16 d => ?_
  refine QP_load 3 rfl rfl rfl ti_3 ag_3 rfl r16 d ex8 fun vx17 r18 => ?_
  obtain rfl := r18.int
  refine QP_ev ok 4 [(22, sl a6 b c7), (23, I i)] 6 rfl rfl ?_
  obtain ⟨x19, hi20, hx21, H⟩ := H
  refine QP_index 6 rfl rfl rfl Try.underlying31 ti_3 rfl rfl r4 hi20 hx21 fun a22 cs23 r24 d25 => ?_
  refine QP_load 7 rfl rfl rfl ti_3 ag_3 rfl r24 d25 ex9 fun vx26 r27 => ?_
  obtain rfl := r27.int
  refine QP_ev ok 8 [(26, .bool (x13 != x19))] 9 rfl rfl ?_
  refine QP_end _ rfl fun wx28 x29 => ?_
  refine W_cond (x13 != x19) rfl (fun hc30 => ?_) (fun hc30 => ?_)
  ·have H := H.1 hc30
   refine W_seq ?_
   refine W_seq ?_
   refine W_quiet mix (by kernel_rfl) ?_
   refine QP_ev ok 0 [(27, sl a1 a c), (28, I i)] 2 rfl rfl ?_
   obtain ⟨x31, hi32, hx33, H⟩ := H
   refine QP_index 2 rfl rfl rfl Try.underlying31 ti_3 rfl rfl r hi32 hx33 fun a34 cs35 r36 d37 => ?_
   refine QP_load 3 rfl rfl rfl ti_3 ag_3 rfl r36 d37 (ex8.ext x29) fun vx39 r40 => ?_
   obtain rfl := r40.int
   refine QP_ev ok 4 [(31, sl a6 b c7), (32, I i)] 6 rfl rfl ?_
   obtain ⟨x41, hi42, hx43, H⟩ := H
   refine QP_index 6 rfl rfl rfl Try.underlying31 ti_3 rfl rfl r4 hi42 hx43 fun a44 cs45 r46 d47 => ?_
   refine QP_load 7 rfl rfl rfl ti_3 ag_3 rfl r46 d47 (ex9.ext x29) fun vx49 r50 => ?_
   obtain rfl := r50.int
   refine QP_ev ok 8 [(35, .bool (decide (x31 < x41)))] 9 rfl rfl ?_
   refine QP_end _ rfl fun wx51 x52 => ?_
   refine W_cond (decide (x31 < x41)) rfl (fun hc53 => ?_) (fun hc53 => ?_)
   ·have H := H.1 hc53
    refine W_seq (W_region ?_)
    refine LP_ev ok 0 [(4, I ((-1)))] 1 rfl rfl ?_
    refine LP_end _ rfl (W_ret ?_)
    exact ⟨_, Ret_of [I ((-1))] ⟨⟨rfl, rfl⟩, trivial⟩, _, H, rfl, (X10.stepx (x29.trans x52)).ext⟩
   have H := H.2 hc53
   refine W_skip ?_
   refine W_seq (W_region ?_)
   refine LP_ev ok 0 [(4, I 1)] 1 rfl rfl ?_
   refine LP_end _ rfl (W_ret ?_)
   exact ⟨_, Ret_of [I 1] ⟨⟨rfl, rfl⟩, trivial⟩, _, H, rfl, (X10.stepx (x29.trans x52)).ext⟩
  have H := H.2 hc30
  refine W_skip ?_
  refine W_region ?_
  refine LP_ev ok 0 [(16, I i), (17, I (wr (i + 1))), (5, I (wr (i + 1)))] 3 rfl rfl ?_
  exact LP_end _ rfl ⟨wr (i + 1), ⟨H.1, _, env_eq ⟨rfl, rfl, rfl, trivial⟩, (X10.stepx x29), (ex8.ext x29), (ex9.ext x29)⟩, H.2⟩
 have H := H.2 hc12
 refine W_exit ?_
 refine (if_pos rfl).mpr ?_
 refine W_seq (W_region ?_)
 refine LP_ev ok 0 [(36, sl a1 a c), (37, I (ln a)), (38, sl a6 b c7), (39, I (ln b)), (40, I (wr ((ln a) - (ln b))))] 5 rfl rfl ?_
 refine LP_call 5 rfl rfl rfl cal_199 rfl (spec_l1Sign_w _ _ H wx ) ?_
 rintro _ wx61 ⟨r60, H, rfl, x62⟩
 refine LP_ev ok 6 [(4, I r60)] 7 rfl rfl ?_
 refine LP_end _ rfl (W_ret ?_)
 exact ⟨_, Ret_of [I r60] ⟨⟨rfl, rfl⟩, trivial⟩, _, H, rfl, (X10.stepx x62).ext⟩

theorem spec_SmallestCover_w (sx : List Variable) (l : List Edit) (values : List Int) (Q : (List Int) → Bool → Prop) (H : spec_SmallestCover sx l values Q) (w : World) {vx : Value} {hx : PH} (r : RS hx vx sx) (ex : Sub hx w) {vx1 : Value} {hx2 : PH} (r3 : RS hx2 vx1 l) (ex4 : Sub hx2 w) {vx7 : Value} {hx8 : PH} (r9 : RS hx8 vx7 values) (ex10 : Sub hx8 w) :
  CallsTo Try.prog 60 #[vx, vx1, vx7] w fun v w' => ∃ r0 r1 u0 g0, Q r0 r1 ∧ v = .tuple #[u0, .bool r1] ∧ Ext w w' ∧ OS 3 g0 emp u0 r0 ∧ Sub g0 w' ∧ Fresh w.heap.size g0 := by
 obtain ⟨a, c, rfl⟩ := r.shape
 obtain ⟨a5, c6, rfl⟩ := r3.shape
 obtain ⟨a11, c12, rfl⟩ := r9.shape
 refine enter (args := [sl a sx c, sl a5 l c6, sl a11 values c12]) 80 Try.func60 rfl rfl rfl ?_
 refine W_forget [(0, sl a sx c), (1, sl a5 l c6), (2, sl a11 values c12)] ⟨rfl, rfl, rfl, trivial⟩ fun ρ => ?_
 have X := But.refl emp w
 refine W_seq (W_region ?_)
 refine LP_ev ok 0 [(6, .slice none 0 0), (7, .bool false)] 2 rfl rfl ?_
 refine LP_end _ rfl (W_seq ?_)
 refine W_seq (W_region ?_)
 refine LP_ev ok 0 [(16, sl a sx c), (17, sl a5 l c6), (18, sl a11 values c12)] 3 rfl rfl ?_
 refine LP_call 3 rfl rfl rfl cal_130 rfl (spec_eAsked_w _ _ _ _ _ H w r ex r3 ex4 (.inl ⟨rfl, rfl⟩) (emp_sub _) r9 ex10) ?_
 rintro _ wx ⟨r13, H, rfl, x⟩
 refine LP_ev ok 4 [(20, .bool (!r13))] 5 rfl rfl ?_
 refine LP_end _ rfl ?_
 refine W_cond (!r13) rfl (fun hc => ?_) (fun hc => ?_)
 ·have H := H.1 hc
  refine W_seq (W_region ?_)
  refine LP_ev ok 0 [(6, .slice none 0 0), (7, .bool false)] 2 rfl rfl ?_
  refine LP_end _ rfl (W_ret ?_)
  exact ⟨_, Ret_of [.slice none 0 0, .bool false] ⟨⟨rfl, rfl⟩, ⟨rfl, rfl⟩, trivial⟩, _, _, _, emp, H, rfl, (X.stepx x).ext, OS.nil, (emp_sub _), (emp_fresh _)⟩
 have H := H.2 hc
 refine W_skip ?_
 refine W_seq (W_region ?_)
 refine LP_ev ok 0 [(8, .slice none 0 0)] 1 rfl rfl ?_
 refine LP_end _ rfl (W_seq (W_region ?_))
 refine LP_ev ok 0 [(9, .bool false)] 1 rfl rfl ?_
 refine LP_end _ rfl (W_seq ?_)
 refine W_seq (W_region ?_)
 refine LP_ev ok 0 [(10, I 0)] 1 rfl rfl ?_
 refine LP_end _ rfl ?_
 refine W_block ?_
 obtain ⟨J, m, Hx, H⟩ := H
 refine W_loop (S := (List Int) × Bool × Int) (fun s ρ' w' => J s.1 s.2.1 s.2.2 ∧ ∃ (ρ : Env) (vx15 : Value) (hx16 : PH), ρ' = setAll [(0, sl a sx c), (1, sl a5 l c6), (2, sl a11 values c12), (8, vx15), (9, .bool s.2.1), (10, I s.2.2)] ρ ∧ But emp w w' ∧ OS 3 hx16 emp vx15 s.1 ∧ Sub hx16 w' ∧ Fresh w.heap.size hx16 ∧ Sub hx w' ∧ Sub hx2 w' ∧ Sub hx8 w' ∧ Dj hx16 hx ∧ Dj hx16 hx2 ∧ Dj hx16 hx8) (fun s => m s.1 s.2.1 s.2.2) ([], false, 0) ⟨Hx, _, .slice none 0 0, emp, env_eq ⟨rfl, rfl, rfl, rfl, rfl, rfl, trivial⟩, (X.stepx x), OS.nil, (emp_sub _), (emp_fresh _), (ex.ext x), (ex4.ext x), (ex10.ext x), (fun _ => .inl rfl), (fun _ => .inl rfl), (fun _ => .inl rfl)⟩ ?_
 rintro ⟨best, found, setx⟩ _ wx18 ⟨Hi, ρ, vx15, hx16, rfl, HF⟩
 revert HF
 refine bb9 fun X26 o ex17 f ex19 ex20 ex21 d => ?_
 refine bb2 fun d24 d25 => ?_
 have H := H best found setx Hi
 obtain ⟨a22, c23, rfl⟩ := o.shape
 refine W_seq ?_
 refine W_seq (W_region ?_)
 refine LP_ev ok 0 [(21, I setx), (22, sl a sx c), (23, I (ln sx)), (24, .int .u64 (IntKind.u64.wrap (ln sx)))] 4 rfl rfl ?_
 obtain ⟨hz, H⟩ := H
 refine LP_val 4 _ rfl rfl (ex_shl rfl rfl rfl hz _) ?_
 refine LP_ev ok 5 [(26, .bool (decide (setx < (shl .i64 1 (IntKind.u64.wrap (ln sx))))))] 6 rfl rfl ?_
 refine LP_end _ rfl ?_
 refine W_cond (decide (setx < (shl .i64 1 (IntKind.u64.wrap (ln sx))))) rfl (fun hc31 => ?_) (fun hc31 => ?_)
 ·have H := H.1 hc31
  refine W_skip ?_
  obtain ⟨k, hk, H⟩ := jn_elim H
  refine W_join2 (S := (List Int) × Bool) (fun s ρ' w' => k s.1 s.2 ∧ ∃ (ρ : Env) (vx33 : Value) (hx34 : PH), ρ' = setAll [(0, sl a sx c), (1, sl a5 l c6), (2, sl a11 values c12), (8, vx33), (9, .bool s.2), (10, I setx)] ρ ∧ But emp w w' ∧ OS 3 hx34 emp vx33 s.1 ∧ Sub hx34 w' ∧ Fresh w.heap.size hx34 ∧ Sub hx w' ∧ Sub hx2 w' ∧ Sub hx8 w' ∧ Dj hx34 hx ∧ Dj hx34 hx2 ∧ Dj hx34 hx8) ?_ ?_
  ·refine W_block ?_
   refine W_seq (W_region ?_)
   refine LP_ev ok 0 [(29, I setx)] 1 rfl rfl ?_
   refine LP_call 1 rfl rfl rfl cal_131 rfl (spec_eLevels_w _ _ H wx18 ) ?_
   rintro _ wx50 ⟨r49, vx52, hx53, H, rfl, x51, o54, ex55, f56⟩
   obtain ⟨a57, c58, rfl⟩ := o54.shape
   refine LP_ev ok 2 [(11, sl a57 r49 c58)] 3 rfl rfl ?_
   refine LP_end _ rfl (W_seq (W_region ?_))
   refine LP_ev ok 0 [(12, .slice none 0 0)] 1 rfl rfl ?_
   refine LP_end _ rfl (W_seq ?_)
   refine W_seq (W_region ?_)
   refine LP_ev ok 0 [(31, sl a sx c), (32, I (ln sx)), (33, I 0)] 3 rfl rfl ?_
   refine LP_end _ rfl ?_
   refine W_block ?_
   obtain ⟨J79, m80, Hx81, H⟩ := H
   refine W_loop (S := (List Int) × Int) (fun s ρ' w' => J79 s.1 s.2 ∧ ∃ (ρ : Env) (vx59 : Value) (hx60 : PH), ρ' = setAll [(0, sl a sx c), (1, sl a5 l c6), (2, sl a11 values c12), (8, sl a22 best c23), (9, .bool found), (10, I setx), (11, sl a57 r49 c58), (12, vx59), (32, I (ln sx)), (33, I s.2)] ρ ∧ But emp w w' ∧ OS 3 hx60 emp vx59 s.1 ∧ Sub hx60 w' ∧ Fresh w.heap.size hx60 ∧ Sub hx w' ∧ Sub hx2 w' ∧ Sub hx8 w' ∧ Sub hx16 w' ∧ Sub hx53 w' ∧ Dj hx60 hx ∧ Dj hx60 hx2 ∧ Dj hx60 hx8 ∧ Dj hx60 hx16 ∧ Dj hx60 hx53) (fun s => m80 s.1 s.2) ([], 0) ⟨Hx81, _, .slice none 0 0, emp, env_eq ⟨rfl, rfl, rfl, rfl, rfl, rfl, rfl, rfl, rfl, rfl, trivial⟩, (X26.stepx x51), OS.nil, (emp_sub _), (emp_fresh _), (ex19.ext x51), (ex20.ext x51), (ex21.ext x51), (ex17.ext x51), ex55, (fun _ => .inl rfl), (fun _ => .inl rfl), (fun _ => .inl rfl), (fun _ => .inl rfl), (fun _ => .inl rfl)⟩ ?_
   rintro ⟨fixed, x64⟩ _ wx65 ⟨Hi, ρ, vx59, hx60, rfl, HF⟩
   revert HF
   refine bb9 fun X78 o61 ex62 f63 ex66 ex67 ex68 ex69 => ?_
   refine bb6 fun ex70 d73 d74 d75 d76 d77 => ?_
   have H := H fixed x64 Hi
   obtain ⟨a71, c72, rfl⟩ := o61.shape
   refine W_seq (W_region ?_)
   refine LP_ev ok 0 [(34, .bool (decide (x64 < (ln sx))))] 1 rfl rfl ?_
   refine LP_end _ rfl (W_seq ?_)
   refine W_cond (decide (x64 < (ln sx))) rfl (fun hc88 => ?_) (fun hc88 => ?_)
   ·have H := H.1 hc88
    refine W_skip ?_
    obtain ⟨k110, hk111, H⟩ := jn_elim H
    refine W_join2 (S := (List Int)) (fun s ρ' w' => k110 s ∧ ∃ (ρ : Env) (vx91 : Value) (hx92 : PH), ρ' = setAll [(0, sl a sx c), (1, sl a5 l c6), (2, sl a11 values c12), (8, sl a22 best c23), (9, .bool found), (10, I setx), (11, sl a57 r49 c58), (12, vx91), (32, I (ln sx)), (33, I x64)] ρ ∧ But emp w w' ∧ OS 3 hx92 emp vx91 s ∧ Sub hx92 w' ∧ Fresh w.heap.size hx92 ∧ Sub hx w' ∧ Sub hx2 w' ∧ Sub hx8 w' ∧ Sub hx16 w' ∧ Sub hx53 w' ∧ Dj hx92 hx ∧ Dj hx92 hx2 ∧ Dj hx92 hx8 ∧ Dj hx92 hx16 ∧ Dj hx92 hx53) ?_ ?_
    ·refine W_block ?_
     refine W_seq (W_region ?_)
     refine LP_ev ok 0 [(35, I x64), (13, I x64)] 2 rfl rfl ?_
     refine LP_end _ rfl (W_seq (W_region ?_))
     refine LP_ev ok 0 [(36, sl a57 r49 c58), (37, I x64)] 2 rfl rfl ?_
     refine LP_call 2 rfl rfl rfl cal_132 rfl (spec_l1Has_w _ _ _ H wx65 o54.readf ex70) ?_
     rintro _ wx113 ⟨r112, H, rfl, x114⟩
     refine LP_ev ok 3 [(39, .bool (!r112))] 4 rfl rfl ?_
     refine LP_end _ rfl ?_
     refine W_cond (!r112) rfl (fun hc115 => ?_) (fun hc115 => ?_)
     ·have H := H.1 hc115
      refine W_region ?_
      refine LP_ev ok 0 [(40, sl a71 fixed c72), (41, I x64)] 2 rfl rfl ?_
      refine LP_lit (α := Int) (g := emp) 2 (vs := [I x64]) (xs := [x64]) rfl rfl rfl Try.underlying31 ti_3 rfl rfl ⟨⟨_, rfl, rfl⟩, trivial⟩ rfl rfl fun hx116 vx117 wx118 x119 o120 ex121 f122 => ?_
      obtain ⟨a123, c124, rfl⟩ := o120.shape
      have xc := (x114.trans x119)
      obtain ⟨hb, H⟩ := H
      refine LP_appendf (α := Int) 3 rfl rfl rfl Try.underlying31 ti_3 rfl rfl rfl o61 (ex62.ext xc) o120.readf ex121 (by first | omega | (simp only [ln] at *; omega)) (by first | omega | (simp only [ln] at *; omega)) fun hx126 vx127 wx128 o129 ex130 y dm => ?_
      obtain ⟨a131, c132, rfl⟩ := o129.shape
      refine LP_ev ok 4 [(12, .slice a131 (List.length (fixed ++ ([x64]))) c132)] 5 rfl rfl ?_
      refine LP_end _ rfl ?_
      have f134 := dm.fresh f63 (X78.stepx xc).size
      exact ⟨fixed ++ ([x64]), H, _, .slice a131 (List.length (fixed ++ ([x64]))) c132, hx126, env_eq ⟨rfl, rfl, rfl, rfl, rfl, rfl, rfl, rfl, rfl, rfl, trivial⟩, ((X78.stepx xc).step y (f63.dom _)), o129, ex130, f134, ((ex66.ext xc).but y d73), ((ex67.ext xc).but y d74), ((ex68.ext xc).but y d75), ((ex69.ext xc).but y d76), ((ex70.ext xc).but y d77), (DomLe.dj dm d73 (ex66.ext xc)), (DomLe.dj dm d74 (ex67.ext xc)), (DomLe.dj dm d75 (ex68.ext xc)), (DomLe.dj dm d76 (ex69.ext xc)), (DomLe.dj dm d77 (ex70.ext xc))⟩
     have H := H.2 hc115
     exact W_skip ⟨fixed, H, _, sl a71 fixed c72, hx60, env_eq ⟨rfl, rfl, rfl, rfl, rfl, rfl, rfl, rfl, rfl, rfl, trivial⟩, (X78.stepx x114), o61, (ex62.ext x114), f63, (ex66.ext x114), (ex67.ext x114), (ex68.ext x114), (ex69.ext x114), (ex70.ext x114), d73, d74, d75, d76, d77⟩
    rintro fixed90 _ wx96 ⟨H, ρ, vx91, hx92, rfl, HF⟩
    revert HF
    refine bb9 fun X109 o93 ex94 f95 ex97 ex98 ex99 ex100 => ?_
    refine bb6 fun ex101 d104 d105 d106 d107 d108 => ?_
    subst hk111
    obtain ⟨a102, c103, rfl⟩ := o93.shape
    refine W_region ?_
    refine LP_ev ok 0 [(44, I (wr (x64 + 1))), (33, I (wr (x64 + 1)))] 2 rfl rfl ?_
    exact LP_end _ rfl ⟨(fixed90, wr (x64 + 1)), ⟨H.1, _, sl a102 fixed90 c103, hx92, env_eq ⟨rfl, rfl, rfl, rfl, rfl, rfl, rfl, rfl, rfl, rfl, trivial⟩, X109, o93, ex94, f95, ex97, ex98, ex99, ex100, ex101, d104, d105, d106, d107, d108⟩, H.2⟩
   have H := H.2 hc88
   refine W_exit ?_
   refine (if_pos rfl).mpr ?_
   refine W_seq ?_
   refine W_seq (W_region ?_)
   refine LP_ev ok 0 [(46, sl a sx c), (47, sl a5 l c6), (48, sl a71 fixed c72), (49, sl a11 values c12)] 4 rfl rfl ?_
   refine LP_call 4 rfl rfl rfl cal_133 rfl (spec_eComplete_w _ _ _ _ _ H wx65 r ex66 r3 ex67 o61.readf ex62 r9 ex68) ?_
   rintro _ wx155 ⟨r153, r154, vx157, hx158, H, rfl, x156, o159, ex160, f161⟩
   obtain ⟨a162, c163, rfl⟩ := o159.shape
   refine LP_ev ok 5 [(45, .tuple #[sl a162 r153 c163, .bool r154]), (51, sl a162 r153 c163), (52, .bool r154), (14, sl a162 r153 c163), (15, .bool r154)] 10 rfl rfl ?_
   refine LP_end _ rfl (W_seq (W_region ?_))
   refine LP_ev ok 0 [(53, .bool r154), (54, .bool (!r154))] 2 rfl rfl ?_
   refine LP_end _ rfl ?_
   refine W_cond (!r154) rfl (fun hc164 => ?_) (fun hc164 => ?_)
   ·have H := H.1 hc164
    refine W_exit ?_
    refine (if_pos rfl).mpr ?_
    exact ⟨(best, found), H, _, sl a22 best c23, hx16, env_eq ⟨rfl, rfl, rfl, rfl, rfl, rfl, trivial⟩, (X78.stepx x156), o, (ex69.ext x156), f, (ex66.ext x156), (ex67.ext x156), (ex68.ext x156), d, d24, d25⟩
   have H := H.2 hc164
   refine W_skip ?_
   have X170 := (X78.stepx x156)
   have ex171 := (ex66.ext x156)
   have ex172 := (ex67.ext x156)
   have ex173 := (ex68.ext x156)
   have ex174 := (ex69.ext x156)
   have ex175 := (ex70.ext x156)
   have f176 := f56.mono X26.size
   obtain ⟨k185, hk186, H⟩ := jn_elim H
   refine W_join2 (S := Bool) (fun s ρ' w' => k185 s ∧ ∃ (ρ : Env), ρ' = setAll [(0, sl a sx c), (1, sl a5 l c6), (2, sl a11 values c12), (8, sl a22 best c23), (9, .bool found), (10, I setx), (11, sl a57 r49 c58), (76, .bool s)] ρ ∧ But emp w w' ∧ Sub hx w' ∧ Sub hx2 w' ∧ Sub hx8 w' ∧ Sub hx16 w' ∧ Sub hx53 w') ?_ ?_
   ·refine W_region ?_
    refine LP_ev ok 0 [(55, .bool found), (56, .bool (!found)), (57, .bool (!found))] 3 rfl rfl ?_
    refine LP_split 57 (!found) rfl (fun hc187 => ?_) (fun hc187 => ?_)
    ·have H := H.1 hc187
     refine LP_ev ok 3 [(58, undef), (59, undef), (60, undef), (61, undef), (62, undef), (63, .bool true), (64, .bool true), (65, undef), (66, undef), (67, undef), (68, undef), (69, undef), (70, undef), (71, undef), (72, undef), (73, undef), (74, undef), (75, undef), (76, .bool true)] 22 rfl rfl ?_
     refine LP_end _ rfl ?_
     try refine W_forget [(0, sl a sx c), (1, sl a5 l c6), (2, sl a11 values c12), (8, sl a22 best c23), (9, .bool found), (10, I setx), (11, sl a57 r49 c58), (76, .bool true)] ⟨rfl, rfl, rfl, rfl, rfl, rfl, rfl, rfl, trivial⟩ fun ρ => ?_
     exact ⟨true, H, _, env_eq ⟨rfl, rfl, rfl, rfl, rfl, rfl, rfl, rfl, trivial⟩, X170, ex171, ex172, ex173, ex174, ex175⟩
    have H := H.2 hc187
    refine LP_ev ok 3 [(58, sl a57 r49 c58), (59, I (ln r49)), (60, sl a22 best c23), (61, I (ln best)), (62, .bool (decide ((ln r49) < (ln best)))), (63, .bool (decide ((ln r49) < (ln best)))), (64, .bool (decide ((ln r49) < (ln best))))] 10 rfl rfl ?_
    refine LP_split 64 (decide ((ln r49) < (ln best))) rfl (fun hc188 => ?_) (fun hc188 => ?_)
    ·have H := H.1 hc188
     refine LP_ev ok 10 [(65, undef), (66, undef), (67, undef), (68, undef), (69, undef), (70, undef), (71, undef), (72, undef), (73, undef), (74, undef), (75, undef), (76, .bool true)] 22 rfl rfl ?_
     refine LP_end _ rfl ?_
     try refine W_forget [(0, sl a sx c), (1, sl a5 l c6), (2, sl a11 values c12), (8, sl a22 best c23), (9, .bool found), (10, I setx), (11, sl a57 r49 c58), (58, sl a57 r49 c58), (59, I (ln r49)), (60, sl a22 best c23), (61, I (ln best)), (62, .bool (decide ((ln r49) < (ln best)))), (76, .bool true)] ⟨rfl, rfl, rfl, rfl, rfl, rfl, rfl, rfl, rfl, rfl, rfl, rfl, rfl, trivial⟩ fun ρ => ?_
     exact ⟨true, H, _, env_eq ⟨rfl, rfl, rfl, rfl, rfl, rfl, rfl, rfl, trivial⟩, X170, ex171, ex172, ex173, ex174, ex175⟩
    have H := H.2 hc188
    refine LP_ev ok 10 [(65, sl a57 r49 c58), (66, I (ln r49)), (67, sl a22 best c23), (68, I (ln best)), (69, .bool ((ln r49) == (ln best))), (70, .bool ((ln r49) == (ln best)))] 16 rfl rfl ?_
    refine LP_split 70 ((ln r49) == (ln best)) rfl (fun hc189 => ?_) (fun hc189 => ?_)
    ·have H := H.1 hc189
     refine LP_ev ok 16 [(71, sl a57 r49 c58), (72, sl a22 best c23)] 18 rfl rfl ?_
     refine LP_call 18 rfl rfl rfl cal_134 rfl (spec_l1Less_w _ _ _ H wx155 o54.readf ex175 o.readf ex174) ?_
     rintro _ wx191 ⟨r190, H, rfl, x192⟩
     refine LP_ev ok 19 [(74, .bool (decide (r190 < 0))), (75, .bool (decide (r190 < 0))), (76, .bool (decide (r190 < 0)))] 22 rfl rfl ?_
     refine LP_end _ rfl ?_
     try refine W_forget [(0, sl a sx c), (1, sl a5 l c6), (2, sl a11 values c12), (8, sl a22 best c23), (9, .bool found), (10, I setx), (11, sl a57 r49 c58), (58, sl a57 r49 c58), (59, I (ln r49)), (60, sl a22 best c23), (61, I (ln best)), (62, .bool (decide ((ln r49) < (ln best)))), (65, sl a57 r49 c58), (66, I (ln r49)), (67, sl a22 best c23), (68, I (ln best)), (69, .bool ((ln r49) == (ln best))), (70, .bool true), (71, sl a57 r49 c58), (72, sl a22 best c23), (73, I r190), (74, .bool (decide (r190 < 0))), (75, .bool (decide (r190 < 0))), (76, .bool (decide (r190 < 0)))] ⟨rfl, rfl, rfl, rfl, rfl, rfl, rfl, rfl, rfl, rfl, rfl, rfl, rfl, rfl, rfl, rfl, rfl, rfl, rfl, rfl, rfl, rfl, rfl, rfl, trivial⟩ fun ρ => ?_
     exact ⟨decide (r190 < 0), H, _, env_eq ⟨rfl, rfl, rfl, rfl, rfl, rfl, rfl, rfl, trivial⟩, (X170.stepx x192), (ex171.ext x192), (ex172.ext x192), (ex173.ext x192), (ex174.ext x192), (ex175.ext x192)⟩
    have H := H.2 hc189
    refine LP_ev ok 16 [(71, undef), (72, undef), (73, undef), (74, undef), (75, .bool false), (76, .bool false)] 22 rfl rfl ?_
    refine LP_end _ rfl ?_
    try refine W_forget [(0, sl a sx c), (1, sl a5 l c6), (2, sl a11 values c12), (8, sl a22 best c23), (9, .bool found), (10, I setx), (11, sl a57 r49 c58), (58, sl a57 r49 c58), (59, I (ln r49)), (60, sl a22 best c23), (61, I (ln best)), (62, .bool (decide ((ln r49) < (ln best)))), (65, sl a57 r49 c58), (66, I (ln r49)), (67, sl a22 best c23), (68, I (ln best)), (69, .bool ((ln r49) == (ln best))), (70, .bool false), (75, .bool false), (76, .bool false)] ⟨rfl, rfl, rfl, rfl, rfl, rfl, rfl, rfl, rfl, rfl, rfl, rfl, rfl, rfl, rfl, rfl, rfl, rfl, rfl, rfl, trivial⟩ fun ρ => ?_
    exact ⟨false, H, _, env_eq ⟨rfl, rfl, rfl, rfl, rfl, rfl, rfl, rfl, trivial⟩, X170, ex171, ex172, ex173, ex174, ex175⟩
   rintro x177 _ wx178 ⟨H, ρ, rfl, HF⟩
   revert HF
   refine bb6 fun X184 ex179 ex180 ex181 ex182 ex183 => ?_
   subst hk186
   refine W_cond (x177) rfl (fun hc199 => ?_) (fun hc199 => ?_)
   ·have H := H.1 hc199
    refine W_seq (W_region ?_)
    refine LP_ev ok 0 [(77, sl a57 r49 c58), (8, sl a57 r49 c58)] 2 rfl rfl ?_
    refine LP_end _ rfl ?_
    refine W_region ?_
    refine LP_ev ok 0 [(9, .bool true)] 1 rfl rfl ?_
    exact LP_end _ rfl ⟨(r49, true), H, _, sl a57 r49 c58, hx53, env_eq ⟨rfl, rfl, rfl, rfl, rfl, rfl, trivial⟩, X184, o54, ex183, f176, ex179, ex180, ex181, (Dj.of_fresh ex19 f56).symm, (Dj.of_fresh ex20 f56).symm, (Dj.of_fresh ex21 f56).symm⟩
   have H := H.2 hc199
   exact W_skip ⟨(best, found), H, _, sl a22 best c23, hx16, env_eq ⟨rfl, rfl, rfl, rfl, rfl, rfl, trivial⟩, X184, o, ex182, f, ex179, ex180, ex181, d, d24, d25⟩
  rintro ⟨best32, found38⟩ _ wx39 ⟨H, ρ, vx33, hx34, rfl, HF⟩
  revert HF
  refine bb9 fun X48 o35 ex36 f37 ex40 ex41 ex42 d45 => ?_
  refine bb2 fun d46 d47 => ?_
  subst hk
  obtain ⟨a43, c44, rfl⟩ := o35.shape
  refine W_region ?_
  refine LP_ev ok 0 [(27, I setx), (28, I (wr (setx + 1))), (10, I (wr (setx + 1)))] 3 rfl rfl ?_
  exact LP_end _ rfl ⟨(best32, found38, wr (setx + 1)), ⟨H.1, _, sl a43 best32 c44, hx34, env_eq ⟨rfl, rfl, rfl, rfl, rfl, rfl, trivial⟩, X48, o35, ex36, f37, ex40, ex41, ex42, d45, d46, d47⟩, H.2⟩
 have H := H.2 hc31
 refine W_exit ?_
 refine (if_pos rfl).mpr ?_
 refine W_seq (W_region ?_)
 refine LP_ev ok 0 [(78, sl a22 best c23), (79, .bool found), (6, sl a22 best c23), (7, .bool found)] 4 rfl rfl ?_
 refine LP_end _ rfl (W_ret ?_)
 exact ⟨_, Ret_of [sl a22 best c23, .bool found] ⟨⟨rfl, rfl⟩, ⟨rfl, rfl⟩, trivial⟩, _, _, _, _, H, rfl, X26.ext, o, ex17, f⟩

theorem laws_FnElimination_w (code : List B8) (more : List B8) (Q : Bool → Prop) (H : laws_FnElimination code more Q) (w : World) {vx : Value} {hx : PH} (r : RS hx vx code) (ex : Sub hx w) {vx1 : Value} {hx2 : PH} (r3 : RS hx2 vx1 more) (ex4 : Sub hx2 w) :
  CallsTo Try.prog 9 #[vx, vx1] w fun v w' => ∃ r0, Q r0 ∧ v = .bool r0 ∧ Ext w w' := by
 obtain ⟨a, c, rfl⟩ := r.shape
 obtain ⟨a5, c6, rfl⟩ := r3.shape
 refine enter (args := [sl a code c, sl a5 more c6]) 158 Try.func9 rfl rfl rfl ?_
 refine W_forget [(0, sl a code c), (1, sl a5 more c6)] ⟨rfl, rfl, trivial⟩ fun ρ => ?_
 have X := But.refl emp w
 refine W_seq (W_region ?_)
 refine LP_ev ok 0 [(4, .bool false)] 1 rfl rfl ?_
 refine LP_end _ rfl (W_seq ?_)
 refine W_seq (W_region ?_)
 refine LP_ev ok 0 [(32, sl a code c), (33, sl a5 more c6)] 2 rfl rfl ?_
 refine LP_call 2 rfl rfl rfl cal_10 rfl (laws_big_w _ _ _ H w r ex r3 ex4) ?_
 rintro _ wx ⟨r7, H, rfl, x⟩
 refine LP_end _ rfl ?_
 refine W_cond (r7) rfl (fun hc => ?_) (fun hc => ?_)
 ·have H := H.1 hc
  refine W_seq (W_region ?_)
  refine LP_ev ok 0 [(4, .bool true)] 1 rfl rfl ?_
  refine LP_end _ rfl (W_ret ?_)
  exact ⟨_, Ret_of [.bool true] ⟨⟨rfl, rfl⟩, trivial⟩, _, H, rfl, (X.stepx x).ext⟩
 have H := H.2 hc
 refine W_skip ?_
 refine W_seq (W_region ?_)
 refine LP_ev ok 0 [(36, sl a code c)] 1 rfl rfl ?_
 refine LP_call 1 rfl rfl rfl cal_50 rfl (spec_DrawEliminateVariable_w _ _ H wx r (ex.ext x)) ?_
 rintro _ wx13 ⟨r9, r10, r11, vx15, hx16, vx18, hx19, H, rfl, x14, HF⟩
 revert HF
 refine bb7 fun o ex17 f o20 ex21 f22 d => ?_
 obtain ⟨a23, c24, rfl⟩ := o.shape
 obtain ⟨a25, c26, rfl⟩ := o20.shape
 refine LP_ev ok 2 [(35, .tuple #[sl a23 r9 c24, sl a25 r10 c26, I r11]), (38, sl a23 r9 c24), (39, sl a25 r10 c26), (40, I r11), (5, sl a23 r9 c24), (6, sl a25 r10 c26), (7, I r11)] 9 rfl rfl ?_
 refine LP_end _ rfl (W_seq (W_region ?_))
 refine LP_ev ok 0 [(42, sl a23 r9 c24), (43, sl a25 r10 c26), (44, I r11)] 3 rfl rfl ?_
 refine LP_call 3 rfl rfl rfl cal_51 rfl (impl_EliminateVariable_w _ _ _ _ H wx13 o.readf ex17 o20.readf ex21) ?_
 rintro _ wx29 ⟨r27, r28, vx31, hx32, H, rfl, x30, o33, ex34, f35⟩
 obtain ⟨a36, c37, rfl⟩ := o33.shape
 refine LP_ev ok 4 [(41, .tuple #[sl a36 r27 c37, .bool r28]), (46, sl a36 r27 c37), (47, .bool r28), (8, sl a36 r27 c37), (9, .bool r28)] 9 rfl rfl ?_
 refine LP_end _ rfl (W_seq (W_region ?_))
 refine LP_ev ok 0 [(49, sl a23 r9 c24), (50, sl a25 r10 c26), (51, I r11)] 3 rfl rfl ?_
 have ex40 := (ex17.ext x30)
 have ex41 := (ex21.ext x30)
 refine LP_call 3 rfl rfl rfl cal_52 rfl (spec_EliminateVariable_w _ _ _ _ H wx29 o.readf ex40 o20.readf ex41) ?_
 rintro _ wx42 ⟨r38, r39, vx44, hx45, H, rfl, x43, o46, ex47, f48⟩
 obtain ⟨a49, c50, rfl⟩ := o46.shape
 refine LP_ev ok 4 [(48, .tuple #[sl a49 r38 c50, .bool r39]), (53, sl a49 r38 c50), (54, .bool r39), (10, sl a49 r38 c50), (11, .bool r39)] 9 rfl rfl ?_
 refine LP_end _ rfl ?_
 try refine W_forget [(1, sl a5 more c6), (5, sl a23 r9 c24), (6, sl a25 r10 c26), (7, I r11), (8, sl a36 r27 c37), (9, .bool r28), (10, sl a49 r38 c50), (11, .bool r39)] ⟨rfl, rfl, rfl, rfl, rfl, rfl, rfl, rfl, trivial⟩ fun ρ => ?_
 refine W_seq ?_
 have xc := (((x.trans x14).trans x30).trans x43)
 have X51 := (X.stepx xc)
 have ex52 := (ex4.ext xc)
 have ex53 := (ex40.ext x43)
 have ex56 := (ex41.ext x43)
 obtain ⟨k, hk, H⟩ := jn_elim H
 refine W_join2 (S := Bool) (fun s ρ' w' => k s ∧ ∃ (ρ : Env), ρ' = setAll [(1, sl a5 more c6), (5, sl a23 r9 c24), (6, sl a25 r10 c26), (7, I r11), (9, .bool r28), (10, sl a49 r38 c50), (63, .bool s)] ρ ∧ But emp w w' ∧ Sub hx2 w' ∧ Sub hx16 w' ∧ Sub hx19 w' ∧ Sub hx45 w') ?_ ?_
 ·refine W_region ?_
  refine LP_ev ok 0 [(55, .bool r28), (56, .bool r39), (57, .bool (r28 != r39)), (58, .bool (r28 != r39))] 4 rfl rfl ?_
  refine LP_split 58 (r28 != r39) rfl (fun hc70 => ?_) (fun hc70 => ?_)
  ·have H := H.1 hc70
   refine LP_ev ok 4 [(59, undef), (60, undef), (61, undef), (62, undef), (63, .bool true)] 9 rfl rfl ?_
   exact LP_end _ rfl ⟨true, H, _, env_eq ⟨rfl, rfl, rfl, rfl, rfl, rfl, rfl, trivial⟩, X51, ex52, ex53, ex56, ex47⟩
  have H := H.2 hc70
  refine LP_ev ok 4 [(59, sl a36 r27 c37), (60, sl a49 r38 c50)] 6 rfl rfl ?_
  refine LP_call 6 rfl rfl rfl cal_14 rfl (laws_pSameEdits_w _ _ _ H wx42 o33.readf (ex34.ext x43) o46.readf ex47) ?_
  rintro _ wx72 ⟨r71, H, rfl, x73⟩
  refine LP_ev ok 7 [(62, .bool (!r71)), (63, .bool (!r71))] 9 rfl rfl ?_
  exact LP_end _ rfl ⟨!r71, H, _, env_eq ⟨rfl, rfl, rfl, rfl, rfl, rfl, rfl, trivial⟩, (X51.stepx x73), (ex52.ext x73), (ex53.ext x73), (ex56.ext x73), (ex47.ext x73)⟩
 rintro x63 _ wx64 ⟨H, ρ, rfl, HF⟩
 revert HF
 refine bb5 fun X69 ex65 ex66 ex67 ex68 => ?_
 subst hk
 refine W_cond (x63) rfl (fun hc79 => ?_) (fun hc79 => ?_)
 ·have H := H.1 hc79
  refine W_seq (W_region ?_)
  refine LP_ev ok 0 [(4, .bool false)] 1 rfl rfl ?_
  refine LP_end _ rfl (W_ret ?_)
  exact ⟨_, Ret_of [.bool false] ⟨⟨rfl, rfl⟩, trivial⟩, _, H, rfl, X69.ext⟩
 have H := H.2 hc79
 refine W_skip ?_
 obtain ⟨k83, hk84, H⟩ := jn_elim H
 refine W_join2 (S := Unit) (fun s ρ' w' => k83 ∧ ∃ (ρ : Env), ρ' = setAll [(1, sl a5 more c6)] ρ ∧ But emp w w' ∧ Sub hx2 w') ?_ ?_
 ·refine W_seq (W_region ?_)
  refine LP_ev ok 0 [(64, .bool r28)] 1 rfl rfl ?_
  refine LP_end _ rfl ?_
  refine W_cond (r28) rfl (fun hc85 => ?_) (fun hc85 => ?_)
  ·have H := H.1 hc85
   refine W_seq (W_region ?_)
   refine LP_ev ok 0 [(66, sl a23 r9 c24)] 1 rfl rfl ?_
   refine LP_call 1 rfl rfl rfl cal_53 rfl (spec_CombinationCount_w _ _ H wx64 o.readf ex66) ?_
   rintro _ wx88 ⟨r86, r87, H, rfl, x89⟩
   refine LP_ev ok 2 [(65, .tuple #[I r86, .bool r87]), (68, I r86), (69, .bool r87), (12, I r86), (13, .bool r87)] 7 rfl rfl ?_
   refine LP_end _ rfl (W_seq (W_region ?_))
   refine LP_ev ok 0 [(71, sl a23 r9 c24), (72, sl a5 more c6)] 2 rfl rfl ?_
   have ex91 := (ex65.ext x89)
   refine LP_call 2 rfl rfl rfl cal_55 rfl (laws_numberOf_w _ _ H wx88 r3 ex91) ?_
   rintro _ wx92 ⟨r90, H, rfl, x93⟩
   refine LP_ev ok 3 [(74, I r86)] 4 rfl rfl ?_
   obtain ⟨hz, H⟩ := H
   refine LP_val 4 _ rfl rfl (ex_rem rfl rfl rfl hz _) ?_
   have xc96 := (x89.trans x93)
   have ex97 := (ex66.ext xc96)
   refine LP_call 5 rfl rfl rfl cal_54 rfl (spec_CombinationAt_w _ _ _ H wx92 o.readf ex97) ?_
   rintro _ wx98 ⟨r94, r95, vx100, hx101, H, rfl, x99, o102, ex103, f104⟩
   obtain ⟨a105, c106, rfl⟩ := o102.shape
   refine LP_ev ok 6 [(70, .tuple #[sl a105 r94 c106, .bool r95]), (77, sl a105 r94 c106), (78, .bool r95), (14, sl a105 r94 c106), (15, .bool r95)] 11 rfl rfl ?_
   refine LP_end _ rfl (W_seq ?_)
   refine W_seq (W_region ?_)
   refine LP_ev ok 0 [(79, .bool r95), (80, .bool (!r95))] 2 rfl rfl ?_
   refine LP_end _ rfl ?_
   refine W_cond (!r95) rfl (fun hc107 => ?_) (fun hc107 => ?_)
   ·have H := H.1 hc107
    refine W_seq (W_region ?_)
    refine LP_ev ok 0 [(4, .bool true)] 1 rfl rfl ?_
    refine LP_end _ rfl (W_ret ?_)
    exact ⟨_, Ret_of [.bool true] ⟨⟨rfl, rfl⟩, trivial⟩, _, H, rfl, (X69.stepx (xc96.trans x99)).ext⟩
   have H := H.2 hc107
   refine W_skip ?_
   refine W_seq (W_region ?_)
   refine LP_ev ok 0 [(16, .bool true)] 1 rfl rfl ?_
   refine LP_end _ rfl (W_seq ?_)
   refine W_seq (W_region ?_)
   refine LP_ev ok 0 [(81, sl a49 r38 c50), (82, I (ln r38)), (83, I 0)] 3 rfl rfl ?_
   refine LP_end _ rfl ?_
   try refine W_forget [(1, sl a5 more c6), (5, sl a23 r9 c24), (6, sl a25 r10 c26), (7, I r11), (14, sl a105 r94 c106), (16, .bool true), (81, sl a49 r38 c50), (82, I (ln r38)), (83, I 0)] ⟨rfl, rfl, rfl, rfl, rfl, rfl, rfl, rfl, rfl, trivial⟩ fun ρ => ?_
   refine W_block ?_
   have xc118 := (xc96.trans x99)
   obtain ⟨J, m, Hx, H⟩ := H
   refine W_loop (S := Bool × Int) (fun s ρ' w' => J s.1 s.2 ∧ ∃ (ρ : Env), ρ' = setAll [(1, sl a5 more c6), (5, sl a23 r9 c24), (6, sl a25 r10 c26), (7, I r11), (14, sl a105 r94 c106), (16, .bool s.1), (81, sl a49 r38 c50), (82, I (ln r38)), (83, I s.2)] ρ ∧ But emp w w' ∧ Sub hx2 w' ∧ Sub hx16 w' ∧ Sub hx19 w' ∧ Sub hx45 w' ∧ Sub hx101 w') (fun s => m s.1 s.2) (true, 0) ⟨Hx, _, env_eq ⟨rfl, rfl, rfl, rfl, rfl, rfl, rfl, rfl, rfl, trivial⟩, (X69.stepx xc118), (ex91.ext (x93.trans x99)), (ex97.ext x99), (ex67.ext xc118), (ex68.ext xc118), ex103⟩ ?_
   rintro ⟨pass, x110⟩ _ wx111 ⟨Hi, ρ, rfl, HF⟩
   revert HF
   refine bb6 fun X117 ex112 ex113 ex114 ex115 ex116 => ?_
   have H := H pass x110 Hi
   refine W_seq (W_region ?_)
   refine LP_ev ok 0 [(84, .bool (decide (x110 < (ln r38))))] 1 rfl rfl ?_
   refine LP_end _ rfl (W_seq ?_)
   refine W_cond (decide (x110 < (ln r38))) rfl (fun hc125 => ?_) (fun hc125 => ?_)
   ·have H := H.1 hc125
    refine W_skip ?_
    obtain ⟨k136, hk137, H⟩ := jn_elim H
    refine W_join2 (S := Bool) (fun s ρ' w' => k136 s ∧ ∃ (ρ : Env), ρ' = setAll [(1, sl a5 more c6), (5, sl a23 r9 c24), (6, sl a25 r10 c26), (7, I r11), (14, sl a105 r94 c106), (16, .bool s), (81, sl a49 r38 c50), (82, I (ln r38)), (83, I x110)] ρ ∧ But emp w w' ∧ Sub hx2 w' ∧ Sub hx16 w' ∧ Sub hx19 w' ∧ Sub hx45 w' ∧ Sub hx101 w') ?_ ?_
    ·refine W_block ?_
     refine W_seq (W_region ?_)
     obtain ⟨x138, hi, hx139, H⟩ := H
     refine LP_index 0 rfl rfl rfl Try.underlying25 ti_33 rfl rfl o46.readf hi hx139 fun a140 cs r141 d142 => ?_
     have d143 := d142
     obtain ⟨u, rfl, r144⟩ := Edit_rd d143
     obtain ⟨a145, c146, rfl⟩ := r144.shape
     refine LP_load 1 rfl rfl rfl ti_33 ag_33 rfl r141 d142 ex115 fun vx147 r148 => ?_
     obtain ⟨u149, rfl, r150⟩ := Edit_rv r148
     obtain ⟨a151, c152, rfl⟩ := r150.shape
     refine LP_alloc 2 rfl rfl rfl ti_33 rfl fun b wx153 x154 ex155 f156 => ?_
     refine LP_stbox 3 (vs := [sl a151 x138.Sets c152]) (cs' := [sl a151 x138.Sets c152]) rfl rfl rfl ti_33 rfl rfl rfl rfl rfl ex155 rfl rfl fun wx157 ex158 y => ?_
     refine LP_end _ rfl (W_seq (W_region ?_))
     refine LP_ev ok 0 [(88, sl a23 r9 c24)] 1 rfl rfl ?_
     refine LP_ldbox 1 (v := .agg #[sl a151 x138.Sets c152]) rfl rfl rfl ti_33 ag_33 (fun h => by cases h) rfl ex158 rfl rfl ?_
     refine LP_ev ok 2 [(90, sl a105 r94 c106)] 3 rfl rfl ?_
     have ex161 := ((ex113.ext x154).but y (Dj.of_fresh ex113 f156).symm)
     have ex162 := ((ex115.ext x154).but y (Dj.of_fresh ex115 f156).symm)
     have ex163 := ((ex116.ext x154).but y (Dj.of_fresh ex116 f156).symm)
     refine LP_call 3 rfl rfl rfl cal_56 rfl (impl_FailsEdit_w _ _ _ _ H wx157 o.readf ex161 r150 ex162 o102.readf ex163) ?_
     rintro _ wx164 ⟨r159, r160, H, rfl, x165⟩
     refine LP_ev ok 4 [(87, .tuple #[.bool r159, .bool r160]), (92, .bool r159), (93, .bool r160), (19, .bool r159), (20, .bool r160)] 9 rfl rfl ?_
     refine LP_end _ rfl (W_seq ?_)
     refine W_seq (W_region ?_)
     refine LP_ev ok 0 [(94, .bool r160), (95, .bool (!r160))] 2 rfl rfl ?_
     refine LP_end _ rfl ?_
     refine W_cond (!r160) rfl (fun hc166 => ?_) (fun hc166 => ?_)
     ·have H := H.1 hc166
      refine W_seq (W_region ?_)
      refine LP_ev ok 0 [(4, .bool false)] 1 rfl rfl ?_
      refine LP_end _ rfl (W_ret ?_)
      have f167 := f156.mono X117.size
      exact ⟨_, Ret_of [.bool false] ⟨⟨rfl, rfl⟩, trivial⟩, _, H, rfl, (((X117.stepx x154).step y (f167.dom _)).stepx x165).ext⟩
     have H := H.2 hc166
     refine W_skip ?_
     refine W_region ?_
     refine LP_ev ok 0 [(96, .bool pass), (97, .bool pass)] 2 rfl rfl ?_
     refine LP_split 97 (pass) rfl (fun hc169 => ?_) (fun hc169 => ?_)
     ·have H := H.1 hc169
      refine LP_ev ok 2 [(98, .bool r159), (99, .bool (!r159)), (100, .bool (!r159)), (16, .bool (!r159))] 6 rfl rfl ?_
      refine LP_end _ rfl ?_
      have f170 := f156.mono X117.size
      exact ⟨!r159, H, _, env_eq ⟨rfl, rfl, rfl, rfl, rfl, rfl, rfl, rfl, rfl, trivial⟩, (((X117.stepx x154).step y (f170.dom _)).stepx x165), (((ex112.ext x154).but y (Dj.of_fresh ex112 f156).symm).ext x165), (ex161.ext x165), (((ex114.ext x154).but y (Dj.of_fresh ex114 f156).symm).ext x165), (ex162.ext x165), (ex163.ext x165)⟩
     have H := H.2 hc169
     refine LP_ev ok 2 [(98, undef), (99, undef), (100, .bool false), (16, .bool false)] 6 rfl rfl ?_
     refine LP_end _ rfl ?_
     have f177 := f156.mono X117.size
     exact ⟨false, H, _, env_eq ⟨rfl, rfl, rfl, rfl, rfl, rfl, rfl, rfl, rfl, trivial⟩, (((X117.stepx x154).step y (f177.dom _)).stepx x165), (((ex112.ext x154).but y (Dj.of_fresh ex112 f156).symm).ext x165), (ex161.ext x165), (((ex114.ext x154).but y (Dj.of_fresh ex114 f156).symm).ext x165), (ex162.ext x165), (ex163.ext x165)⟩
    rintro pass128 _ wx129 ⟨H, ρ, rfl, HF⟩
    revert HF
    refine bb6 fun X135 ex130 ex131 ex132 ex133 ex134 => ?_
    subst hk137
    refine W_region ?_
    refine LP_ev ok 0 [(101, I (wr (x110 + 1))), (83, I (wr (x110 + 1)))] 2 rfl rfl ?_
    exact LP_end _ rfl ⟨(pass128, wr (x110 + 1)), ⟨H.1, _, env_eq ⟨rfl, rfl, rfl, rfl, rfl, rfl, rfl, rfl, rfl, trivial⟩, X135, ex130, ex131, ex132, ex133, ex134⟩, H.2⟩
   have H := H.2 hc125
   refine W_exit ?_
   refine (if_pos rfl).mpr ?_
   refine W_seq (W_region ?_)
   refine LP_ev ok 0 [(21, .slice none 0 0)] 1 rfl rfl ?_
   refine LP_end _ rfl (W_seq ?_)
   refine W_seq (W_region ?_)
   refine LP_ev ok 0 [(102, sl a23 r9 c24), (103, I (ln r9)), (104, I 0)] 3 rfl rfl ?_
   refine LP_end _ rfl ?_
   refine W_block ?_
   obtain ⟨J202, m203, Hx204, H⟩ := H
   refine W_loop (S := (List Int) × Int) (fun s ρ' w' => J202 s.1 s.2 ∧ ∃ (ρ : Env) (vx184 : Value) (hx185 : PH), ρ' = setAll [(1, sl a5 more c6), (5, sl a23 r9 c24), (6, sl a25 r10 c26), (7, I r11), (14, sl a105 r94 c106), (16, .bool pass), (21, vx184), (103, I (ln r9)), (104, I s.2)] ρ ∧ But emp w w' ∧ OS 3 hx185 emp vx184 s.1 ∧ Sub hx185 w' ∧ Fresh w.heap.size hx185 ∧ Sub hx2 w' ∧ Sub hx16 w' ∧ Sub hx19 w' ∧ Sub hx101 w' ∧ Dj hx185 hx2 ∧ Dj hx185 hx16 ∧ Dj hx185 hx19 ∧ Dj hx185 hx101) (fun s => m203 s.1 s.2) ([], 0) ⟨Hx204, _, .slice none 0 0, emp, env_eq ⟨rfl, rfl, rfl, rfl, rfl, rfl, rfl, rfl, rfl, trivial⟩, X117, OS.nil, (emp_sub _), (emp_fresh _), ex112, ex113, ex114, ex116, (fun _ => .inl rfl), (fun _ => .inl rfl), (fun _ => .inl rfl), (fun _ => .inl rfl)⟩ ?_
   rintro ⟨fixed, x189⟩ _ wx190 ⟨Hi, ρ, vx184, hx185, rfl, HF⟩
   revert HF
   refine bb9 fun X201 o186 ex187 f188 ex191 ex192 ex193 ex194 => ?_
   refine bb4 fun d197 d198 d199 d200 => ?_
   have H := H fixed x189 Hi
   obtain ⟨a195, c196, rfl⟩ := o186.shape
   refine W_seq (W_region ?_)
   refine LP_ev ok 0 [(105, .bool (decide (x189 < (ln r9))))] 1 rfl rfl ?_
   refine LP_end _ rfl (W_seq ?_)
   refine W_cond (decide (x189 < (ln r9))) rfl (fun hc206 => ?_) (fun hc206 => ?_)
   ·have H := H.1 hc206
    refine W_skip ?_
    obtain ⟨k227, hk228, H⟩ := jn_elim H
    refine W_join2 (S := (List Int)) (fun s ρ' w' => k227 s ∧ ∃ (ρ : Env) (vx210 : Value) (hx211 : PH), ρ' = setAll [(1, sl a5 more c6), (5, sl a23 r9 c24), (6, sl a25 r10 c26), (7, I r11), (14, sl a105 r94 c106), (16, .bool pass), (21, vx210), (103, I (ln r9)), (104, I x189)] ρ ∧ But emp w w' ∧ OS 3 hx211 emp vx210 s ∧ Sub hx211 w' ∧ Fresh w.heap.size hx211 ∧ Sub hx2 w' ∧ Sub hx16 w' ∧ Sub hx19 w' ∧ Sub hx101 w' ∧ Dj hx211 hx2 ∧ Dj hx211 hx16 ∧ Dj hx211 hx19 ∧ Dj hx211 hx101) ?_ ?_
    ·refine W_block ?_
     refine W_seq (W_region ?_)
     refine LP_ev ok 0 [(106, I x189), (22, I x189)] 2 rfl rfl ?_
     refine LP_end _ rfl (W_seq (W_region ?_))
     refine LP_ev ok 0 [(107, I x189), (108, I r11), (109, .bool (x189 != r11))] 3 rfl rfl ?_
     refine LP_end _ rfl ?_
     refine W_cond (x189 != r11) rfl (fun hc229 => ?_) (fun hc229 => ?_)
     ·have H := H.1 hc229
      refine W_region ?_
      refine LP_ev ok 0 [(110, sl a195 fixed c196), (111, I x189)] 2 rfl rfl ?_
      refine LP_lit (α := Int) (g := emp) 2 (vs := [I x189]) (xs := [x189]) rfl rfl rfl Try.underlying31 ti_3 rfl rfl ⟨⟨_, rfl, rfl⟩, trivial⟩ rfl rfl fun hx230 vx231 wx232 x233 o234 ex235 f236 => ?_
      obtain ⟨a237, c238, rfl⟩ := o234.shape
      obtain ⟨hb, H⟩ := H
      refine LP_appendf (α := Int) 3 rfl rfl rfl Try.underlying31 ti_3 rfl rfl rfl o186 (ex187.ext x233) o234.readf ex235 (by first | omega | (simp only [ln] at *; omega)) (by first | omega | (simp only [ln] at *; omega)) fun hx240 vx241 wx242 o243 ex244 y245 dm => ?_
      obtain ⟨a246, c247, rfl⟩ := o243.shape
      refine LP_ev ok 4 [(21, .slice a246 (List.length (fixed ++ ([x189]))) c247)] 5 rfl rfl ?_
      refine LP_end _ rfl ?_
      have f249 := dm.fresh f188 (X201.stepx x233).size
      exact ⟨fixed ++ ([x189]), H, _, .slice a246 (List.length (fixed ++ ([x189]))) c247, hx240, env_eq ⟨rfl, rfl, rfl, rfl, rfl, rfl, rfl, rfl, rfl, trivial⟩, ((X201.stepx x233).step y245 (f188.dom _)), o243, ex244, f249, ((ex191.ext x233).but y245 d197), ((ex192.ext x233).but y245 d198), ((ex193.ext x233).but y245 d199), ((ex194.ext x233).but y245 d200), (DomLe.dj dm d197 (ex191.ext x233)), (DomLe.dj dm d198 (ex192.ext x233)), (DomLe.dj dm d199 (ex193.ext x233)), (DomLe.dj dm d200 (ex194.ext x233))⟩
     have H := H.2 hc229
     exact W_skip ⟨fixed, H, _, sl a195 fixed c196, hx185, env_eq ⟨rfl, rfl, rfl, rfl, rfl, rfl, rfl, rfl, rfl, trivial⟩, X201, o186, ex187, f188, ex191, ex192, ex193, ex194, d197, d198, d199, d200⟩
    rintro fixed209 _ wx215 ⟨H, ρ, vx210, hx211, rfl, HF⟩
    revert HF
    refine bb9 fun X226 o212 ex213 f214 ex216 ex217 ex218 ex219 => ?_
    refine bb4 fun d222 d223 d224 d225 => ?_
    subst hk228
    obtain ⟨a220, c221, rfl⟩ := o212.shape
    refine W_region ?_
    refine LP_ev ok 0 [(114, I (wr (x189 + 1))), (104, I (wr (x189 + 1)))] 2 rfl rfl ?_
    exact LP_end _ rfl ⟨(fixed209, wr (x189 + 1)), ⟨H.1, _, sl a220 fixed209 c221, hx211, env_eq ⟨rfl, rfl, rfl, rfl, rfl, rfl, rfl, rfl, rfl, trivial⟩, X226, o212, ex213, f214, ex216, ex217, ex218, ex219, d222, d223, d224, d225⟩, H.2⟩
   have H := H.2 hc206
   refine W_exit ?_
   refine (if_pos rfl).mpr ?_
   refine W_seq (W_region ?_)
   refine LP_ev ok 0 [(116, sl a23 r9 c24), (117, sl a25 r10 c26), (118, sl a195 fixed c196), (119, sl a105 r94 c106)] 4 rfl rfl ?_
   refine LP_call 4 rfl rfl rfl cal_57 rfl (impl_CanComplete_w _ _ _ _ _ H wx190 o.readf ex192 o20.readf ex193 o186.readf ex187 o102.readf ex194) ?_
   rintro _ wx261 ⟨r259, r260, H, rfl, x262⟩
   refine LP_ev ok 5 [(115, .tuple #[.bool r259, .bool r260]), (121, .bool r259), (122, .bool r260), (23, .bool r259), (24, .bool r260)] 10 rfl rfl ?_
   refine LP_end _ rfl ?_
   have X263 := (X201.stepx x262)
   obtain ⟨k267, hk268, H⟩ := jn_elim H
   refine W_join2 (S := Bool) (fun s ρ' w' => k267 s ∧ ∃ (ρ : Env), ρ' = setAll [(1, sl a5 more c6), (129, .bool s)] ρ ∧ wx261 = w') ?_ ?_
   ·refine W_region ?_
    refine LP_ev ok 0 [(123, .bool r260), (124, .bool (!r260)), (125, .bool (!r260))] 3 rfl rfl ?_
    refine LP_split 125 (!r260) rfl (fun hc269 => ?_) (fun hc269 => ?_)
    ·have H := H.1 hc269
     refine LP_ev ok 3 [(126, undef), (127, undef), (128, undef), (129, .bool true)] 7 rfl rfl ?_
     exact LP_end _ rfl ⟨true, H, _, env_eq ⟨rfl, rfl, trivial⟩, rfl⟩
    have H := H.2 hc269
    refine LP_ev ok 3 [(126, .bool r259), (127, .bool pass), (128, .bool (r259 != pass)), (129, .bool (r259 != pass))] 7 rfl rfl ?_
    exact LP_end _ rfl ⟨r259 != pass, H, _, env_eq ⟨rfl, rfl, trivial⟩, rfl⟩
   rintro x265 _ _ ⟨H, ρ, rfl, rfl⟩
   subst hk268
   refine W_cond (x265) rfl (fun hc270 => ?_) (fun hc270 => ?_)
   ·have H := H.1 hc270
    refine W_seq (W_region ?_)
    refine LP_ev ok 0 [(4, .bool false)] 1 rfl rfl ?_
    refine LP_end _ rfl (W_ret ?_)
    exact ⟨_, Ret_of [.bool false] ⟨⟨rfl, rfl⟩, trivial⟩, _, H, rfl, X263.ext⟩
   have H := H.2 hc270
   exact W_skip ⟨(), H, _, env_eq ⟨rfl, trivial⟩, X263, (ex191.ext x262)⟩
  have H := H.2 hc85
  exact W_skip ⟨(), H, _, env_eq ⟨rfl, trivial⟩, X69, ex65⟩
 rintro ⟨⟩ _ wx80 ⟨H, ρ, rfl, X82, ex81⟩
 subst hk84
 refine W_seq (W_region ?_)
 refine LP_ev ok 0 [(131, sl a5 more c6)] 1 rfl rfl ?_
 refine LP_call 1 rfl rfl rfl cal_58 rfl (spec_DrawSmallestCover_w _ _ H wx80 r3 ex81) ?_
 rintro _ wx274 ⟨r271, r272, r273, vx276, hx277, vx281, hx282, vx286, hx287, H, rfl, x275, HF⟩
 revert HF
 refine bb9 fun o278 ex279 f280 o283 ex284 f285 o288 ex289 => ?_
 refine bb4 fun f290 d291 d292 d293 => ?_
 obtain ⟨a294, c295, rfl⟩ := o278.shape
 obtain ⟨a296, c297, rfl⟩ := o283.shape
 obtain ⟨a298, c299, rfl⟩ := o288.shape
 refine LP_ev ok 2 [(130, .tuple #[sl a294 r271 c295, sl a296 r272 c297, sl a298 r273 c299]), (133, sl a294 r271 c295), (134, sl a296 r272 c297), (135, sl a298 r273 c299), (25, sl a294 r271 c295), (26, sl a296 r272 c297), (27, sl a298 r273 c299)] 9 rfl rfl ?_
 refine LP_end _ rfl (W_seq (W_region ?_))
 refine LP_ev ok 0 [(137, sl a294 r271 c295), (138, sl a296 r272 c297), (139, sl a298 r273 c299)] 3 rfl rfl ?_
 refine LP_call 3 rfl rfl rfl cal_59 rfl (impl_SmallestCover_w _ _ _ _ H wx274 o278.readf ex279 o283.readf ex284 o288.readf ex289) ?_
 rintro _ wx302 ⟨r300, r301, vx304, hx305, H, rfl, x303, o306, ex307, f308⟩
 obtain ⟨a309, c310, rfl⟩ := o306.shape
 refine LP_ev ok 4 [(136, .tuple #[sl a309 r300 c310, .bool r301]), (141, sl a309 r300 c310), (142, .bool r301), (28, sl a309 r300 c310), (29, .bool r301)] 9 rfl rfl ?_
 refine LP_end _ rfl (W_seq (W_region ?_))
 refine LP_ev ok 0 [(144, sl a294 r271 c295), (145, sl a296 r272 c297), (146, sl a298 r273 c299)] 3 rfl rfl ?_
 refine LP_call 3 rfl rfl rfl cal_60 rfl (spec_SmallestCover_w _ _ _ _ H wx302 o278.readf (ex279.ext x303) o283.readf (ex284.ext x303) o288.readf (ex289.ext x303)) ?_
 rintro _ wx316 ⟨r311, r312, vx318, hx319, H, rfl, x317, o320, ex321, f322⟩
 obtain ⟨a323, c324, rfl⟩ := o320.shape
 refine LP_ev ok 4 [(143, .tuple #[sl a323 r311 c324, .bool r312]), (148, sl a323 r311 c324), (149, .bool r312), (30, sl a323 r311 c324), (31, .bool r312)] 9 rfl rfl ?_
 refine LP_end _ rfl ?_
 try refine W_forget [(28, sl a309 r300 c310), (29, .bool r301), (30, sl a323 r311 c324), (31, .bool r312)] ⟨rfl, rfl, rfl, rfl, trivial⟩ fun ρ => ?_
 have X326 := (X82.stepx ((x275.trans x303).trans x317))
 obtain ⟨k335, hk336, H⟩ := jn_elim H
 refine W_join2 (S := Bool) (fun s ρ' w' => k335 s ∧ ∃ (ρ : Env), ρ' = setAll [(4, .bool s)] ρ ∧ But emp w w') ?_ ?_
 ·refine W_region ?_
  refine LP_ev ok 0 [(150, .bool r301), (151, .bool r312), (152, .bool (r301 == r312)), (153, .bool (r301 == r312))] 4 rfl rfl ?_
  refine LP_split 153 (r301 == r312) rfl (fun hc337 => ?_) (fun hc337 => ?_)
  ·have H := H.1 hc337
   refine LP_ev ok 4 [(154, sl a309 r300 c310), (155, sl a323 r311 c324)] 6 rfl rfl ?_
   refine LP_call 6 rfl rfl rfl cal_19 rfl (laws_sameInts_w _ _ _ H wx316 o306.readf (ex307.ext x317) o320.readf ex321) ?_
   rintro _ wx339 ⟨r338, H, rfl, x340⟩
   refine LP_ev ok 7 [(157, .bool r338), (4, .bool r338)] 9 rfl rfl ?_
   exact LP_end _ rfl ⟨r338, H, _, env_eq ⟨rfl, trivial⟩, (X326.stepx x340)⟩
  have H := H.2 hc337
  refine LP_ev ok 4 [(154, undef), (155, undef), (156, undef), (157, .bool false), (4, .bool false)] 9 rfl rfl ?_
  exact LP_end _ rfl ⟨false, H, _, env_eq ⟨rfl, trivial⟩, X326⟩
 rintro x332 _ wx333 ⟨H, ρ, rfl, X334⟩
 subst hk336
 refine W_ret ?_
 exact ⟨_, Ret_of [.bool x332] ⟨⟨rfl, rfl⟩, trivial⟩, _, H, rfl, X334.ext⟩

end Go.Proofs.Ytdaojggigfnnpaa
