/- The walks, further. -/
import Derived.Test.YtdaojggigfnnpaaIWalk
set_option linter.unusedVariables false
set_option autoImplicit false
namespace Go.Proofs.Ytdaojggigfnnpaa
open Go Go.RowKit Go.Gv

open Go.Proofs
set_option maxRecDepth 8000
set_option maxHeartbeats 4000000
theorem spec_eFails_w (ex : Edit) (values : List Int) (Q : Bool → Prop) (H : spec_eFails ex values Q) (w : World) {vx : Value} {hx : PH} (r : RS hx vx ex.Sets) (ex1 : Sub hx w) {vx2 : Value} {hx3 : PH} (r4 : RS hx3 vx2 values) (ex5 : Sub hx3 w) :
  CallsTo Try.prog 202 #[.agg #[vx], vx2] w fun v w' => ∃ r0, Q r0 ∧ v = .bool r0 ∧ Ext w w' := by
 obtain ⟨a, c, rfl⟩ := r.shape
 obtain ⟨a6, c7, rfl⟩ := r4.shape
 refine enter (args := [.agg #[sl a ex.Sets c], sl a6 values c7]) 25 Try.func202 rfl rfl rfl ?_
 refine W_forget [(0, .agg #[sl a ex.Sets c]), (1, sl a6 values c7)] ⟨rfl, rfl, trivial⟩ fun ρ => ?_
 have X := But.refl emp w
 refine W_seq (W_region ?_)
 refine LP_box 0 (cs := [sl a ex.Sets c]) rfl rfl rfl rfl rfl fun b wx x ex8 f => ?_
 refine LP_ev ok 1 [(4, .bool false)] 2 rfl rfl ?_
 refine LP_end _ rfl (W_seq ?_)
 refine W_seq (W_region ?_)
 refine LP_ev ok 0 [(7, sl a6 values c7), (8, I (ln values)), (9, I 0)] 3 rfl rfl ?_
 refine LP_end _ rfl ?_
 refine W_block ?_
 obtain ⟨J, m, Hx, H⟩ := H
 refine W_loop (S := Int) (fun s ρ' w' => J s ∧ ∃ (ρ : Env), ρ' = setAll [(2, pb b), (7, sl a6 values c7), (8, I (ln values)), (9, I s)] ρ ∧ wx = w') (fun s => m s) 0 ⟨Hx, _, env_eq ⟨rfl, rfl, rfl, rfl, trivial⟩, rfl⟩ ?_
 rintro x9 _ _ ⟨Hi, ρ, rfl, rfl⟩
 have H := H x9 Hi
 refine W_seq (W_region ?_)
 refine LP_ev ok 0 [(10, .bool (decide (x9 < (ln values))))] 1 rfl rfl ?_
 refine LP_end _ rfl (W_seq ?_)
 refine W_cond (decide (x9 < (ln values))) rfl (fun hc => ?_) (fun hc => ?_)
 ·have H := H.1 hc
  refine W_skip ?_
  refine W_seq ?_
  refine W_block ?_
  refine W_seq (W_region ?_)
  refine LP_ev ok 0 [(11, I x9)] 1 rfl rfl ?_
  obtain ⟨x11, hi, hx12, H⟩ := H
  refine LP_index 1 rfl rfl rfl Try.underlying31 ti_3 rfl rfl r4 hi hx12 fun a13 cs r14 d => ?_
  refine LP_load 2 rfl rfl rfl ti_3 ag_3 rfl r14 d (ex5.ext x) fun vx16 r17 => ?_
  obtain rfl := r17.int
  refine LP_ev ok 3 [(5, I x9), (6, I x11)] 5 rfl rfl ?_
  refine LP_end _ rfl (W_seq (W_region ?_))
  refine LP_ev ok 0 [(14, pb b)] 1 rfl rfl ?_
  refine LP_ldbox 1 (v := sl a ex.Sets c) rfl rfl rfl ti_31 ag_31 (fun _ => rfl) rfl ex8 rfl rfl ?_
  refine LP_ev ok 2 [(16, I x9)] 3 rfl rfl ?_
  obtain ⟨x18, hi19, hx20, H⟩ := H
  refine LP_index 3 rfl rfl rfl Try.underlying31 ti_3 rfl rfl r hi19 hx20 fun a21 cs22 r23 d24 => ?_
  refine LP_load 4 rfl rfl rfl ti_3 ag_3 rfl r23 d24 (ex1.ext x) fun vx26 r27 => ?_
  obtain rfl := r27.int
  refine LP_ev ok 5 [(19, I x11), (20, .int .u64 (IntKind.u64.wrap (x11)))] 7 rfl rfl ?_
  obtain ⟨hz, H⟩ := H
  refine LP_val 7 _ rfl rfl (ex_shr rfl rfl rfl hz _) ?_
  refine LP_ev ok 8 [(22, I (bits .and .i64 (shr .i64 x18 (IntKind.u64.wrap (x11))) 1)), (23, .bool ((bits .and .i64 (shr .i64 x18 (IntKind.u64.wrap (x11))) 1) == 0))] 10 rfl rfl ?_
  refine LP_end _ rfl ?_
  refine W_cond ((bits .and .i64 (shr .i64 x18 (IntKind.u64.wrap (x11))) 1) == 0) rfl (fun hc28 => ?_) (fun hc28 => ?_)
  ·have H := H.1 hc28
   refine W_seq (W_region ?_)
   refine LP_ev ok 0 [(4, .bool false)] 1 rfl rfl ?_
   refine LP_end _ rfl (W_ret ?_)
   exact ⟨_, Ret_of [.bool false] ⟨⟨rfl, rfl⟩, trivial⟩, _, H, rfl, (X.stepx x).ext⟩
  have H := H.2 hc28
  refine W_skip ?_
  refine W_region ?_
  refine LP_ev ok 0 [(24, I (wr (x9 + 1))), (9, I (wr (x9 + 1)))] 2 rfl rfl ?_
  exact LP_end _ rfl ⟨wr (x9 + 1), ⟨H.1, _, env_eq ⟨rfl, rfl, rfl, rfl, trivial⟩, rfl⟩, H.2⟩
 have H := H.2 hc
 refine W_exit ?_
 refine (if_pos rfl).mpr ?_
 refine W_seq (W_region ?_)
 refine LP_ev ok 0 [(4, .bool true)] 1 rfl rfl ?_
 refine LP_end _ rfl (W_ret ?_)
 exact ⟨_, Ret_of [.bool true] ⟨⟨rfl, rfl⟩, trivial⟩, _, H, rfl, (X.stepx x).ext⟩

theorem spec_eFailed_w (l : List Edit) (values : List Int) (Q : (List Int) → Prop) (H : spec_eFailed l values Q) (w : World) {vx : Value} {hx : PH} (r : RS hx vx l) (ex : Sub hx w) {vx1 : Value} {hx2 : PH} (r3 : RS hx2 vx1 values) (ex4 : Sub hx2 w) :
  CallsTo Try.prog 143 #[vx, vx1] w fun v w' => ∃ r0 u0 g0, Q r0 ∧ v = u0 ∧ Ext w w' ∧ OS 3 g0 emp u0 r0 ∧ Sub g0 w' ∧ Fresh w.heap.size g0 := by
 obtain ⟨a, c, rfl⟩ := r.shape
 obtain ⟨a5, c6, rfl⟩ := r3.shape
 refine enter (args := [sl a l c, sl a5 values c6]) 24 Try.func143 rfl rfl rfl ?_
 refine W_forget [(0, sl a l c), (1, sl a5 values c6)] ⟨rfl, rfl, trivial⟩ fun ρ => ?_
 have X := But.refl emp w
 refine W_seq (W_region ?_)
 refine LP_ev ok 0 [(4, .slice none 0 0)] 1 rfl rfl ?_
 refine LP_end _ rfl (W_seq (W_region ?_))
 refine LP_ev ok 0 [(5, .slice none 0 0)] 1 rfl rfl ?_
 refine LP_end _ rfl (W_seq ?_)
 refine W_seq (W_region ?_)
 refine LP_ev ok 0 [(8, sl a l c), (9, I (ln l)), (10, I 0)] 3 rfl rfl ?_
 refine LP_end _ rfl ?_
 refine W_block ?_
 obtain ⟨J, m, Hx, H⟩ := H
 refine W_loop (S := (List Int) × Int) (fun s ρ' w' => J s.1 s.2 ∧ ∃ (ρ : Env) (vx7 : Value) (hx8 : PH), ρ' = setAll [(1, sl a5 values c6), (5, vx7), (8, sl a l c), (9, I (ln l)), (10, I s.2)] ρ ∧ But emp w w' ∧ OS 3 hx8 emp vx7 s.1 ∧ Sub hx8 w' ∧ Fresh w.heap.size hx8 ∧ Sub hx w' ∧ Sub hx2 w' ∧ Dj hx8 hx ∧ Dj hx8 hx2) (fun s => m s.1 s.2) ([], 0) ⟨Hx, _, .slice none 0 0, emp, env_eq ⟨rfl, rfl, rfl, rfl, rfl, trivial⟩, X, OS.nil, (emp_sub _), (emp_fresh _), ex, ex4, (fun _ => .inl rfl), (fun _ => .inl rfl)⟩ ?_
 rintro ⟨out, x⟩ _ wx ⟨Hi, ρ, vx7, hx8, rfl, HF⟩
 revert HF
 refine bb8 fun X15 o ex9 f ex10 ex11 d d14 => ?_
 have H := H out x Hi
 obtain ⟨a12, c13, rfl⟩ := o.shape
 refine W_seq (W_region ?_)
 refine LP_ev ok 0 [(11, .bool (decide (x < (ln l))))] 1 rfl rfl ?_
 refine LP_end _ rfl (W_seq ?_)
 refine W_cond (decide (x < (ln l))) rfl (fun hc => ?_) (fun hc => ?_)
 ·have H := H.1 hc
  refine W_skip ?_
  obtain ⟨k, hk, H⟩ := jn_elim H
  refine W_join2 (S := (List Int)) (fun s ρ' w' => k s ∧ ∃ (ρ : Env) (vx17 : Value) (hx18 : PH), ρ' = setAll [(1, sl a5 values c6), (5, vx17), (8, sl a l c), (9, I (ln l)), (10, I x)] ρ ∧ But emp w w' ∧ OS 3 hx18 emp vx17 s ∧ Sub hx18 w' ∧ Fresh w.heap.size hx18 ∧ Sub hx w' ∧ Sub hx2 w' ∧ Dj hx18 hx ∧ Dj hx18 hx2) ?_ ?_
  ·refine W_block ?_
   refine W_seq (W_region ?_)
   refine LP_ev ok 0 [(12, I x)] 1 rfl rfl ?_
   obtain ⟨x30, hi, hx31, H⟩ := H
   refine LP_index 1 rfl rfl rfl Try.underlying25 ti_33 rfl rfl r hi hx31 fun a32 cs r33 d34 => ?_
   have d35 := d34
   obtain ⟨u, rfl, r36⟩ := Edit_rd d35
   obtain ⟨a37, c38, rfl⟩ := r36.shape
   refine LP_load 2 rfl rfl rfl ti_33 ag_33 rfl r33 d34 ex10 fun vx39 r40 => ?_
   obtain ⟨u41, rfl, r42⟩ := Edit_rv r40
   obtain ⟨a43, c44, rfl⟩ := r42.shape
   refine LP_alloc 3 rfl rfl rfl ti_33 rfl fun b wx45 x46 ex47 f48 => ?_
   refine LP_ev ok 4 [(6, I x)] 5 rfl rfl ?_
   refine LP_stbox 5 (vs := [sl a43 x30.Sets c44]) (cs' := [sl a43 x30.Sets c44]) rfl rfl rfl ti_33 rfl rfl rfl rfl rfl ex47 rfl rfl fun wx49 ex50 y => ?_
   refine LP_end _ rfl (W_seq (W_region ?_))
   refine LP_ldbox 0 (v := .agg #[sl a43 x30.Sets c44]) rfl rfl rfl ti_33 ag_33 (fun h => by cases h) rfl ex50 rfl rfl ?_
   refine LP_ev ok 1 [(16, sl a5 values c6)] 2 rfl rfl ?_
   have ex52 := ((ex10.ext x46).but y (Dj.of_fresh ex10 f48).symm)
   have ex53 := ((ex11.ext x46).but y (Dj.of_fresh ex11 f48).symm)
   refine LP_call 2 rfl rfl rfl cal_202 rfl (spec_eFails_w _ _ _ H wx49 r42 ex52 r3 ex53) ?_
   rintro _ wx54 ⟨r51, H, rfl, x55⟩
   refine LP_end _ rfl ?_
   refine W_cond (r51) rfl (fun hc56 => ?_) (fun hc56 => ?_)
   ·have H := H.1 hc56
    refine W_region ?_
    refine LP_ev ok 0 [(18, sl a12 out c13), (19, I x)] 2 rfl rfl ?_
    refine LP_lit (α := Int) (g := emp) 2 (vs := [I x]) (xs := [x]) rfl rfl rfl Try.underlying31 ti_3 rfl rfl ⟨⟨_, rfl, rfl⟩, trivial⟩ rfl rfl fun hx57 vx58 wx59 x60 o61 ex62 f63 => ?_
    obtain ⟨a64, c65, rfl⟩ := o61.shape
    have xc := (x55.trans x60)
    obtain ⟨hb, H⟩ := H
    refine LP_appendf (α := Int) 3 rfl rfl rfl Try.underlying31 ti_3 rfl rfl rfl o (((ex9.ext x46).but y (Dj.of_fresh ex9 f48).symm).ext xc) o61.readf ex62 (by first | omega | (simp only [ln] at *; omega)) (by first | omega | (simp only [ln] at *; omega)) fun hx67 vx68 wx69 o70 ex71 y72 dm => ?_
    obtain ⟨a73, c74, rfl⟩ := o70.shape
    refine LP_ev ok 4 [(5, .slice a73 (List.length (out ++ ([x]))) c74)] 5 rfl rfl ?_
    refine LP_end _ rfl ?_
    have f75 := f48.mono X15.size
    have f77 := dm.fresh f (((X15.stepx x46).step y (f75.dom _)).stepx xc).size
    exact ⟨out ++ ([x]), H, _, .slice a73 (List.length (out ++ ([x]))) c74, hx67, env_eq ⟨rfl, rfl, rfl, rfl, rfl, trivial⟩, ((((X15.stepx x46).step y (f75.dom _)).stepx xc).step y72 (f.dom _)), o70, ex71, f77, ((ex52.ext xc).but y72 d), ((ex53.ext xc).but y72 d14), (DomLe.dj dm d (ex52.ext xc)), (DomLe.dj dm d14 (ex53.ext xc))⟩
   have H := H.2 hc56
   refine W_skip ?_
   have f83 := f48.mono X15.size
   exact ⟨out, H, _, sl a12 out c13, hx8, env_eq ⟨rfl, rfl, rfl, rfl, rfl, trivial⟩, (((X15.stepx x46).step y (f83.dom _)).stepx x55), o, (((ex9.ext x46).but y (Dj.of_fresh ex9 f48).symm).ext x55), f, (ex52.ext x55), (ex53.ext x55), d, d14⟩
  rintro out16 _ wx22 ⟨H, ρ, vx17, hx18, rfl, HF⟩
  revert HF
  refine bb8 fun X29 o19 ex20 f21 ex23 ex24 d27 d28 => ?_
  subst hk
  obtain ⟨a25, c26, rfl⟩ := o19.shape
  refine W_region ?_
  refine LP_ev ok 0 [(22, I (wr (x + 1))), (10, I (wr (x + 1)))] 2 rfl rfl ?_
  exact LP_end _ rfl ⟨(out16, wr (x + 1)), ⟨H.1, _, sl a25 out16 c26, hx18, env_eq ⟨rfl, rfl, rfl, rfl, rfl, trivial⟩, X29, o19, ex20, f21, ex23, ex24, d27, d28⟩, H.2⟩
 have H := H.2 hc
 refine W_exit ?_
 refine (if_pos rfl).mpr ?_
 refine W_seq (W_region ?_)
 refine LP_ev ok 0 [(23, sl a12 out c13), (4, sl a12 out c13)] 2 rfl rfl ?_
 refine LP_end _ rfl (W_ret ?_)
 exact ⟨_, Ret_of [sl a12 out c13] ⟨⟨rfl, rfl⟩, trivial⟩, _, _, _, H, rfl, X15.ext, o, ex9, f⟩

theorem spec_eSearch_free_w (x : ESearch) (sets : List Int) (Q : Bool → Prop) (H : spec_eSearch_free x sets Q) (w : World) {vx : Value} {hx : PH} (r : RS hx vx x.S) (ex : Sub hx w) {vx1 : Value} {hx2 : PH} (r3 : RS hx2 vx1 x.Passing) (ex4 : Sub hx2 w) {vx7 : Value} {hx8 : PH} (r9 : RS hx8 vx7 x.Out) (ex10 : Sub hx8 w) {b : Nat} (ex13 : Sub (bx b 162 [vx, vx1, I x.V, vx7]) w) {vx14 : Value} {hx15 : PH} (r16 : RS hx15 vx14 sets) (ex17 : Sub hx15 w) :
  CallsTo Try.prog 203 #[pb b, vx14] w fun v w' => ∃ r0, Q r0 ∧ v = .bool r0 ∧ Ext w w' := by
 obtain ⟨a, c, rfl⟩ := r.shape
 obtain ⟨a5, c6, rfl⟩ := r3.shape
 obtain ⟨a11, c12, rfl⟩ := r9.shape
 obtain ⟨a18, c19, rfl⟩ := r16.shape
 refine enter (args := [pb b, sl a18 sets c19]) 21 Try.func203 rfl rfl rfl ?_
 refine W_forget [(0, pb b), (1, sl a18 sets c19)] ⟨rfl, rfl, trivial⟩ fun ρ => ?_
 have X := But.refl emp w
 refine W_seq (W_region ?_)
 refine LP_ev ok 0 [(4, .bool false)] 1 rfl rfl ?_
 refine LP_end _ rfl (W_seq ?_)
 refine W_seq (W_region ?_)
 refine LP_ev ok 0 [(7, pb b), (8, pb b), (9, .pointer (some ⟨b, 1, none⟩))] 3 rfl rfl ?_
 refine LP_ldbox 3 (v := sl a5 x.Passing c6) rfl rfl rfl ti_50 ag_50 (fun _ => rfl) rfl ex13 rfl rfl ?_
 refine LP_ev ok 4 [(11, I (ln x.Passing)), (12, I 0)] 6 rfl rfl ?_
 refine LP_end _ rfl ?_
 refine W_block ?_
 obtain ⟨J, m, Hx, H⟩ := H
 refine W_loop (S := Int) (fun s ρ' w' => J s ∧ ∃ (ρ : Env), ρ' = setAll [(1, sl a18 sets c19), (10, sl a5 x.Passing c6), (11, I (ln x.Passing)), (12, I s)] ρ ∧ But emp w w' ∧ Sub hx2 w' ∧ Sub hx15 w') (fun s => m s) 0 ⟨Hx, _, env_eq ⟨rfl, rfl, rfl, rfl, trivial⟩, X, ex4, ex17⟩ ?_
 rintro x20 _ wx ⟨Hi, ρ, rfl, X23, ex21, ex22⟩
 have H := H x20 Hi
 refine W_seq (W_region ?_)
 refine LP_ev ok 0 [(13, .bool (decide (x20 < (ln x.Passing))))] 1 rfl rfl ?_
 refine LP_end _ rfl (W_seq ?_)
 refine W_cond (decide (x20 < (ln x.Passing))) rfl (fun hc => ?_) (fun hc => ?_)
 ·have H := H.1 hc
  refine W_skip ?_
  refine W_seq ?_
  refine W_block ?_
  refine W_seq (W_region ?_)
  obtain ⟨x24, hi, hx25, H⟩ := H
  refine LP_index 0 rfl rfl rfl Try.underlying50 ti_31 rfl rfl r3 hi hx25 fun a26 cs r27 d => ?_
  refine LP_load 1 rfl rfl rfl ti_31 ag_31 rfl r27 d ex21 fun vx28 r29 => ?_
  have r32 := r29.slice
  obtain ⟨a30, c31, rfl⟩ := r32.shape
  refine LP_ev ok 2 [(6, sl a30 x24 c31)] 3 rfl rfl ?_
  refine LP_end _ rfl (W_seq (W_region ?_))
  refine LP_ev ok 0 [(16, sl a18 sets c19), (17, .agg #[sl a18 sets c19]), (18, sl a30 x24 c31)] 3 rfl rfl ?_
  refine LP_call 3 rfl rfl rfl cal_202 rfl (spec_eFails_w _ _ _ H wx r16 ex22 r32 ex21) ?_
  rintro _ wx34 ⟨r33, H, rfl, x35⟩
  refine LP_end _ rfl ?_
  refine W_cond (r33) rfl (fun hc36 => ?_) (fun hc36 => ?_)
  ·have H := H.1 hc36
   refine W_seq (W_region ?_)
   refine LP_ev ok 0 [(4, .bool false)] 1 rfl rfl ?_
   refine LP_end _ rfl (W_ret ?_)
   exact ⟨_, Ret_of [.bool false] ⟨⟨rfl, rfl⟩, trivial⟩, _, H, rfl, (X23.stepx x35).ext⟩
  have H := H.2 hc36
  refine W_skip ?_
  refine W_region ?_
  refine LP_ev ok 0 [(20, I (wr (x20 + 1))), (12, I (wr (x20 + 1)))] 2 rfl rfl ?_
  exact LP_end _ rfl ⟨wr (x20 + 1), ⟨H.1, _, env_eq ⟨rfl, rfl, rfl, rfl, trivial⟩, (X23.stepx x35), (ex21.ext x35), (ex22.ext x35)⟩, H.2⟩
 have H := H.2 hc
 refine W_exit ?_
 refine (if_pos rfl).mpr ?_
 refine W_seq (W_region ?_)
 refine LP_ev ok 0 [(4, .bool true)] 1 rfl rfl ?_
 refine LP_end _ rfl (W_ret ?_)
 exact ⟨_, Ret_of [.bool true] ⟨⟨rfl, rfl⟩, trivial⟩, _, H, rfl, X23.ext⟩

theorem spec_eSearch_grows_w (x : ESearch) (sets : List Int) (Q : Bool → Prop) (H : spec_eSearch_grows x sets Q) (w : World) {vx : Value} {hx : PH} (r : RS hx vx x.S) (ex : Sub hx w) {vx1 : Value} {hx2 : PH} (r3 : RS hx2 vx1 x.Passing) (ex4 : Sub hx2 w) {vx7 : Value} {hx8 : PH} (r9 : RS hx8 vx7 x.Out) (ex10 : Sub hx8 w) {b : Nat} (ex13 : Sub (bx b 162 [vx, vx1, I x.V, vx7]) w) {vx14 : Value} {hx15 : PH} (r16 : RS hx15 vx14 sets) (ex17 : Sub hx15 w) :
  CallsTo Try.prog 204 #[pb b, vx14] w fun v w' => ∃ r0, Q r0 ∧ v = .bool r0 ∧ Ext w w' := by
 obtain ⟨a, c, rfl⟩ := r.shape
 obtain ⟨a5, c6, rfl⟩ := r3.shape
 obtain ⟨a11, c12, rfl⟩ := r9.shape
 obtain ⟨a18, c19, rfl⟩ := r16.shape
 refine enter (args := [pb b, sl a18 sets c19]) 49 Try.func204 rfl rfl rfl ?_
 refine W_forget [(0, pb b), (1, sl a18 sets c19)] ⟨rfl, rfl, trivial⟩ fun ρ => ?_
 have X := But.refl emp w
 refine W_seq (W_region ?_)
 refine LP_ev ok 0 [(4, .bool false)] 1 rfl rfl ?_
 refine LP_end _ rfl (W_seq ?_)
 refine W_seq (W_region ?_)
 refine LP_ev ok 0 [(8, sl a18 sets c19), (9, I (ln sets)), (10, I 0)] 3 rfl rfl ?_
 refine LP_end _ rfl ?_
 refine W_block ?_
 obtain ⟨J, m, Hx, H⟩ := H
 refine W_loop (S := Int) (fun s ρ' w' => J s ∧ ∃ (ρ : Env), ρ' = setAll [(0, pb b), (1, sl a18 sets c19), (9, I (ln sets)), (10, I s)] ρ ∧ But emp w w' ∧ Sub hx w' ∧ Sub hx2 w' ∧ Sub hx8 w' ∧ Sub (bx b 162 [sl a x.S c, sl a5 x.Passing c6, I x.V, sl a11 x.Out c12]) w' ∧ Sub hx15 w') (fun s => m s) 0 ⟨Hx, _, env_eq ⟨rfl, rfl, rfl, rfl, trivial⟩, X, ex, ex4, ex10, ex13, ex17⟩ ?_
 rintro x20 _ wx ⟨Hi, ρ, rfl, HF⟩
 revert HF
 refine bb6 fun X26 ex21 ex22 ex23 ex24 ex25 => ?_
 have H := H x20 Hi
 refine W_seq (W_region ?_)
 refine LP_ev ok 0 [(11, .bool (decide (x20 < (ln sets))))] 1 rfl rfl ?_
 refine LP_end _ rfl (W_seq ?_)
 refine W_cond (decide (x20 < (ln sets))) rfl (fun hc => ?_) (fun hc => ?_)
 ·have H := H.1 hc
  refine W_skip ?_
  refine W_seq ?_
  refine W_block ?_
  refine W_seq (W_region ?_)
  refine LP_ev ok 0 [(12, I x20), (5, I x20)] 2 rfl rfl ?_
  refine LP_end _ rfl (W_seq (W_region ?_))
  refine LP_ev ok 0 [(6, I 0)] 1 rfl rfl ?_
  refine LP_end _ rfl ?_
  refine W_block ?_
  obtain ⟨J34, m35, Hx36, H⟩ := H
  refine W_loop (S := Int) (fun s ρ' w' => J34 s ∧ ∃ (ρ : Env), ρ' = setAll [(0, pb b), (1, sl a18 sets c19), (5, I x20), (6, I s), (9, I (ln sets)), (10, I x20)] ρ ∧ But emp w w' ∧ Sub hx w' ∧ Sub hx2 w' ∧ Sub hx8 w' ∧ Sub (bx b 162 [sl a x.S c, sl a5 x.Passing c6, I x.V, sl a11 x.Out c12]) w' ∧ Sub hx15 w') (fun s => m35 s) 0 ⟨Hx36, _, env_eq ⟨rfl, rfl, rfl, rfl, rfl, rfl, trivial⟩, X26, ex21, ex22, ex23, ex24, ex25⟩ ?_
  rintro level _ wx27 ⟨Hi, ρ, rfl, HF⟩
  revert HF
  refine bb6 fun X33 ex28 ex29 ex30 ex31 ex32 => ?_
  have H := H level Hi
  refine W_seq ?_
  refine W_seq (W_region ?_)
  refine LP_ev ok 0 [(13, I level), (14, pb b), (15, pb b), (16, pb b)] 4 rfl rfl ?_
  refine LP_ldbox 4 (v := sl a x.S c) rfl rfl rfl ti_24 ag_24 (fun _ => rfl) rfl ex31 rfl rfl ?_
  refine LP_ev ok 5 [(18, I x20)] 6 rfl rfl ?_
  obtain ⟨x38, hi, hx39, H⟩ := H
  refine LP_index 6 rfl rfl rfl Try.underlying24 ti_167 rfl rfl r hi hx39 fun a40 cs r41 d => ?_
  refine LP_ev ok 7 [(20, .pointer (some (Addr.add a40 1)))] 8 rfl rfl ?_
  refine LP_ldfld (x := x38) (off := 1) 8 (v := I x38.Levels) rfl rfl rfl ti_3 ag_3 (fun _ => rfl) rfl r41 d ex28 rfl rfl ?_
  refine LP_ev ok 9 [(22, .bool (decide (level < x38.Levels)))] 10 rfl rfl ?_
  refine LP_end _ rfl ?_
  refine W_cond (decide (level < x38.Levels)) rfl (fun hc42 => ?_) (fun hc42 => ?_)
  ·have H := H.1 hc42
   refine W_skip ?_
   obtain ⟨k, hk, H⟩ := jn_elim H
   refine W_join2 (S := Unit) (fun s ρ' w' => k ∧ ∃ (ρ : Env), ρ' = setAll [(0, pb b), (1, sl a18 sets c19), (5, I x20), (6, I level), (9, I (ln sets)), (10, I x20)] ρ ∧ But emp w w' ∧ Sub hx w' ∧ Sub hx2 w' ∧ Sub hx8 w' ∧ Sub (bx b 162 [sl a x.S c, sl a5 x.Passing c6, I x.V, sl a11 x.Out c12]) w' ∧ Sub hx15 w') ?_ ?_
   ·refine W_block ?_
    refine W_seq ?_
    refine W_seq (W_region ?_)
    refine LP_ev ok 0 [(25, sl a18 sets c19), (26, I x20)] 2 rfl rfl ?_
    obtain ⟨x50, hi51, hx52, H⟩ := H
    refine LP_index 2 rfl rfl rfl Try.underlying31 ti_3 rfl rfl r16 hi51 hx52 fun a53 cs54 r55 d56 => ?_
    refine LP_load 3 rfl rfl rfl ti_3 ag_3 rfl r55 d56 ex32 fun vx57 r58 => ?_
    obtain rfl := r58.int
    refine LP_ev ok 4 [(29, I level), (30, .int .u64 (IntKind.u64.wrap (level)))] 6 rfl rfl ?_
    obtain ⟨hz, H⟩ := H
    refine LP_val 6 _ rfl rfl (ex_shr rfl rfl rfl hz _) ?_
    refine LP_ev ok 7 [(32, I (bits .and .i64 (shr .i64 x50 (IntKind.u64.wrap (level))) 1)), (33, .bool ((bits .and .i64 (shr .i64 x50 (IntKind.u64.wrap (level))) 1) == 1))] 9 rfl rfl ?_
    refine LP_end _ rfl ?_
    refine W_cond ((bits .and .i64 (shr .i64 x50 (IntKind.u64.wrap (level))) 1) == 1) rfl (fun hc59 => ?_) (fun hc59 => ?_)
    ·have H := H.1 hc59
     refine W_exit ?_
     refine (if_pos rfl).mpr ?_
     exact ⟨(), H, _, env_eq ⟨rfl, rfl, rfl, rfl, rfl, rfl, trivial⟩, X33, ex28, ex29, ex30, ex31, ex32⟩
    have H := H.2 hc59
    refine W_skip ?_
    refine W_seq (W_region ?_)
    refine LP_ev ok 0 [(34, sl a18 sets c19)] 1 rfl rfl ?_
    refine LP_call 1 rfl rfl rfl cal_183 rfl (spec_l1Own_w _ _ H wx27 r16 ex32) ?_
    rintro _ wx61 ⟨r60, vx63, hx64, H, rfl, x62, o, ex65, f⟩
    obtain ⟨a66, c67, rfl⟩ := o.shape
    refine LP_ev ok 2 [(7, sl a66 r60 c67)] 3 rfl rfl ?_
    refine LP_end _ rfl (W_seq (W_region ?_))
    refine LP_ev ok 0 [(36, sl a66 r60 c67), (37, I x20)] 2 rfl rfl ?_
    obtain ⟨x68, hi69, hx70, H⟩ := H
    refine LP_index 2 rfl rfl rfl Try.underlying31 ti_3 rfl rfl o.readf hi69 hx70 fun a71 cs72 r73 d74 => ?_
    refine LP_load 3 rfl rfl rfl ti_3 ag_3 rfl r73 d74 ex65 fun vx75 r76 => ?_
    obtain rfl := r76.int
    refine LP_ev ok 4 [(40, I level), (41, .int .u64 (IntKind.u64.wrap (level)))] 6 rfl rfl ?_
    obtain ⟨hz77, H⟩ := H
    refine LP_val 6 _ rfl rfl (ex_shl rfl rfl rfl hz77 _) ?_
    refine LP_ev ok 7 [(43, I (bits .or .i64 x68 (shl .i64 1 (IntKind.u64.wrap (level)))))] 8 rfl rfl ?_
    obtain ⟨hi78, hl, H⟩ := H
    refine LP_indexw (v := sl a66 r60 c67) 8 rfl rfl rfl Try.underlying31 ti_3 rfl rfl o hi78 hl fun a79 wa => ?_
    refine LP_set 9 rfl rfl rfl rfl rfl wa (Le.refl emp) ⟨_, rfl, rfl⟩ ex65 fun hx80 wx81 o82 ex83 y dm => ?_
    refine LP_end _ rfl ?_
    try refine W_forget [(0, pb b), (1, sl a18 sets c19), (5, I x20), (6, I level), (7, sl a66 r60 c67), (9, I (ln sets)), (10, I x20)] ⟨rfl, rfl, rfl, rfl, rfl, rfl, rfl, trivial⟩ fun ρ => ?_
    refine W_seq (W_region ?_)
    refine LP_ev ok 0 [(45, pb b), (46, sl a66 r60 c67)] 2 rfl rfl ?_
    have ex85 := ((ex28.ext x62).but y (Dj.of_fresh ex28 f).symm)
    have ex86 := ((ex29.ext x62).but y (Dj.of_fresh ex29 f).symm)
    have ex87 := ((ex30.ext x62).but y (Dj.of_fresh ex30 f).symm)
    have ex88 := ((ex31.ext x62).but y (Dj.of_fresh ex31 f).symm)
    refine LP_call 2 rfl rfl rfl cal_203 rfl (spec_eSearch_free_w _ _ _ H wx81 r ex85 r3 ex86 r9 ex87 ex88 o82.readf ex83) ?_
    rintro _ wx89 ⟨r84, H, rfl, x90⟩
    refine LP_end _ rfl ?_
    refine W_cond (r84) rfl (fun hc91 => ?_) (fun hc91 => ?_)
    ·have H := H.1 hc91
     refine W_seq (W_region ?_)
     refine LP_ev ok 0 [(4, .bool true)] 1 rfl rfl ?_
     refine LP_end _ rfl (W_ret ?_)
     have f92 := f.mono X33.size
     exact ⟨_, Ret_of [.bool true] ⟨⟨rfl, rfl⟩, trivial⟩, _, H, rfl, (((X33.stepx x62).step y (f92.dom _)).stepx x90).ext⟩
    have H := H.2 hc91
    refine W_skip ?_
    have f94 := f.mono X33.size
    exact ⟨(), H, _, env_eq ⟨rfl, rfl, rfl, rfl, rfl, rfl, trivial⟩, (((X33.stepx x62).step y (f94.dom _)).stepx x90), (ex85.ext x90), (ex86.ext x90), (ex87.ext x90), (ex88.ext x90), (((ex32.ext x62).but y (Dj.of_fresh ex32 f).symm).ext x90)⟩
   rintro ⟨⟩ _ wx43 ⟨H, ρ, rfl, HF⟩
   revert HF
   refine bb6 fun X49 ex44 ex45 ex46 ex47 ex48 => ?_
   subst hk
   refine W_region ?_
   refine LP_ev ok 0 [(23, I level), (24, I (wr (level + 1))), (6, I (wr (level + 1)))] 3 rfl rfl ?_
   exact LP_end _ rfl ⟨wr (level + 1), ⟨H.1, _, env_eq ⟨rfl, rfl, rfl, rfl, rfl, rfl, trivial⟩, X49, ex44, ex45, ex46, ex47, ex48⟩, H.2⟩
  have H := H.2 hc42
  refine W_exit ?_
  refine (if_pos rfl).mpr ?_
  refine W_region ?_
  refine LP_ev ok 0 [(48, I (wr (x20 + 1))), (10, I (wr (x20 + 1)))] 2 rfl rfl ?_
  exact LP_end _ rfl ⟨wr (x20 + 1), ⟨H.1, _, env_eq ⟨rfl, rfl, rfl, rfl, trivial⟩, X33, ex28, ex29, ex30, ex31, ex32⟩, H.2⟩
 have H := H.2 hc
 refine W_exit ?_
 refine (if_pos rfl).mpr ?_
 refine W_seq (W_region ?_)
 refine LP_ev ok 0 [(4, .bool false)] 1 rfl rfl ?_
 refine LP_end _ rfl (W_ret ?_)
 exact ⟨_, Ret_of [.bool false] ⟨⟨rfl, rfl⟩, trivial⟩, _, H, rfl, X26.ext⟩

theorem spec_eSearch_run_w (x : ESearch) (k : Int) (sets : List Int) (Q : (List Edit) → Int → Prop) (H : spec_eSearch_run x k sets Q) (w : World) {vx : Value} {hx : PH} (r : RS hx vx x.S) (ex : Sub hx w) {vx1 : Value} {hx2 : PH} (r3 : RS hx2 vx1 x.Passing) (ex4 : Sub hx2 w) {vx7 : Value} {hx8 : PH} (r9 : OD hx8 vx7 x.Out) (ex10 : Sub hx8 w) {b : Nat} (ex13 : Sub (bx b 162 [vx, vx1, I x.V, vx7]) w) {vx14 : Value} {hx15 : PH} (r16 : RS hx15 vx14 sets) (ex17 : Sub hx15 w) (d : Dj hx8 (bx b 162 [vx, vx1, I x.V, vx7])) (d20 : Dj hx8 hx) (d21 : Dj hx8 hx2) (d22 : Dj hx8 hx15) (d23 : Dj (bx b 162 [vx, vx1, I x.V, vx7]) hx) (d24 : Dj (bx b 162 [vx, vx1, I x.V, vx7]) hx2) (d25 : Dj (bx b 162 [vx, vx1, I x.V, vx7]) hx15) :
  CallsTo Try.prog 144 #[pb b, I k, vx14] w fun v w' => ∃ m1 m2_0 v1_ k1, Q m1 m2_0 ∧ v = .tuple #[] ∧ But (un hx8 (bx b 162 [vx, vx1, I x.V, vx7])) w w' ∧ OD k1 v1_ m1 ∧ Sub k1 w' ∧ DomLe (un hx8 (bx b 162 [vx, vx1, I x.V, vx7])) w.heap.size k1 ∧ Sub (bx b 162 [vx, vx1, I m2_0, v1_]) w' ∧ Dj k1 (bx b 162 [vx, vx1, I m2_0, v1_]) := by
 obtain ⟨S, mu, H0, HS⟩ := H
 have key : ∀ (m : Nat) (x : ESearch) (k : Int) (sets : List Int) (Q : (List Edit) → Int → Prop), S x k sets Q → mu x k sets < m → ∀ (w : World) {vx : Value} {hx : PH} (r : RS hx vx x.S) (ex : Sub hx w) {vx1 : Value} {hx2 : PH} (r3 : RS hx2 vx1 x.Passing) (ex4 : Sub hx2 w) {vx7 : Value} {hx8 : PH} (r9 : OD hx8 vx7 x.Out) (ex10 : Sub hx8 w) {b : Nat} (ex13 : Sub (bx b 162 [vx, vx1, I x.V, vx7]) w) {vx14 : Value} {hx15 : PH} (r16 : RS hx15 vx14 sets) (ex17 : Sub hx15 w) (d : Dj hx8 (bx b 162 [vx, vx1, I x.V, vx7])) (d20 : Dj hx8 hx) (d21 : Dj hx8 hx2) (d22 : Dj hx8 hx15) (d23 : Dj (bx b 162 [vx, vx1, I x.V, vx7]) hx) (d24 : Dj (bx b 162 [vx, vx1, I x.V, vx7]) hx2) (d25 : Dj (bx b 162 [vx, vx1, I x.V, vx7]) hx15), CallsTo Try.prog 144 #[pb b, I k, vx14] w fun v w' => ∃ m1 m2_0 v1_ k1, Q m1 m2_0 ∧ v = .tuple #[] ∧ But (un hx8 (bx b 162 [vx, vx1, I x.V, vx7])) w w' ∧ OD k1 v1_ m1 ∧ Sub k1 w' ∧ DomLe (un hx8 (bx b 162 [vx, vx1, I x.V, vx7])) w.heap.size k1 ∧ Sub (bx b 162 [vx, vx1, I m2_0, v1_]) w' ∧ Dj k1 (bx b 162 [vx, vx1, I m2_0, v1_]) := by
  intro m
  induction m with
  | zero => intro x k sets Q _ hm; exact absurd hm (Nat.not_lt_zero _)
  | succ m ih =>
   intro x k sets Q H0 hm w vx hx r ex vx1 hx2 r3 ex4 vx7 hx8 r9 ex10 b ex13 vx14 hx15 r16 ex17 d d20 d21 d22 d23 d24 d25
   have H := HS x k sets Q H0
   obtain ⟨a, c, rfl⟩ := r.shape
   obtain ⟨a5, c6, rfl⟩ := r3.shape
   obtain ⟨a11, c12, rfl⟩ := r9.shape
   obtain ⟨a18, c19, rfl⟩ := r16.shape
   refine enter (args := [pb b, I k, sl a18 sets c19]) 68 Try.func144 rfl rfl rfl ?_
   refine W_forget [(0, pb b), (1, I k), (2, sl a18 sets c19)] ⟨rfl, rfl, rfl, trivial⟩ fun ρ => ?_
   obtain ⟨M, hM⟩ : ∃ M : PH, M = (un hx8 (bx b 162 [sl a x.S c, sl a5 x.Passing c6, I x.V, sl a11 x.Out c12])) := ⟨_, rfl⟩
   have D : Dom M hx8 := by subst hM; exact (Dom.l _ _)
   have D26 : Dom M (bx b 162 [sl a x.S c, sl a5 x.Passing c6, I x.V, sl a11 x.Out c12]) := by subst hM; exact (Dom.trans (Dom.r _ _) (Dom.refl _))
   have X := But.refl M w
   refine W_seq ?_
   refine W_seq (W_region ?_)
   refine LP_ev ok 0 [(8, I k), (9, pb b), (10, pb b), (11, pb b)] 4 rfl rfl ?_
   refine LP_ldbox 4 (v := sl a x.S c) rfl rfl rfl ti_24 ag_24 (fun _ => rfl) rfl ex13 rfl rfl ?_
   refine LP_ev ok 5 [(13, I (ln x.S)), (14, .bool (k == (ln x.S)))] 7 rfl rfl ?_
   refine LP_end _ rfl ?_
   refine W_cond (k == (ln x.S)) rfl (fun hc => ?_) (fun hc => ?_)
   ·have H := H.1 hc
    obtain ⟨k39, hk, H⟩ := jn_elim H
    refine W_join2 (S := (List Edit)) (fun s ρ' w' => k39 s ∧ ∃ (ρ : Env) (vx27 : Value) (hx28 : PH), ρ' = setAll [] ρ ∧ But M w w' ∧ OD hx28 vx27 s ∧ Sub hx28 w' ∧ DomLe M w.heap.size hx28 ∧ Sub hx w' ∧ Sub hx2 w' ∧ Sub (bx b 162 [sl a x.S c, sl a5 x.Passing c6, I x.V, vx27]) w' ∧ Dj hx28 hx ∧ Dj hx28 hx2 ∧ Dj hx28 (bx b 162 [sl a x.S c, sl a5 x.Passing c6, I x.V, vx27])) ?_ ?_
    ·obtain ⟨k48, hk49, H⟩ := jn_elim H
     refine W_join2 (S := Bool) (fun s ρ' w' => k48 s ∧ ∃ (ρ : Env), ρ' = setAll [(0, pb b), (2, sl a18 sets c19), (23, .bool s)] ρ ∧ But M w w' ∧ Sub hx w' ∧ Sub hx2 w' ∧ Sub hx8 w' ∧ Sub (bx b 162 [sl a x.S c, sl a5 x.Passing c6, I x.V, sl a11 x.Out c12]) w' ∧ Sub hx15 w') ?_ ?_
     ·refine W_region ?_
      refine LP_ev ok 0 [(15, pb b), (16, sl a18 sets c19)] 2 rfl rfl ?_
      refine LP_call 2 rfl rfl rfl cal_203 rfl (spec_eSearch_free_w _ _ _ H w r ex r3 ex4 r9.readf ex10 ex13 r16 ex17) ?_
      rintro _ wx51 ⟨r50, H, rfl, x52⟩
      refine LP_ev ok 3 [(18, .bool r50)] 4 rfl rfl ?_
      refine LP_split 18 (r50) rfl (fun hc53 => ?_) (fun hc53 => ?_)
      ·have H := H.1 hc53
       refine LP_ev ok 4 [(19, pb b), (20, sl a18 sets c19)] 6 rfl rfl ?_
       have ex55 := (ex.ext x52)
       have ex56 := (ex4.ext x52)
       have ex57 := (ex10.ext x52)
       have ex58 := (ex13.ext x52)
       have ex59 := (ex17.ext x52)
       refine LP_call 6 rfl rfl rfl cal_204 rfl (spec_eSearch_grows_w _ _ _ H wx51 r ex55 r3 ex56 r9.readf ex57 ex58 r16 ex59) ?_
       rintro _ wx60 ⟨r54, H, rfl, x61⟩
       refine LP_ev ok 7 [(22, .bool (!r54)), (23, .bool (!r54))] 9 rfl rfl ?_
       exact LP_end _ rfl ⟨!r54, H, _, env_eq ⟨rfl, rfl, rfl, trivial⟩, (X.stepx (x52.trans x61)), (ex55.ext x61), (ex56.ext x61), (ex57.ext x61), (ex58.ext x61), (ex59.ext x61)⟩
      have H := H.2 hc53
      refine LP_ev ok 4 [(19, undef), (20, undef), (21, undef), (22, undef), (23, .bool false)] 9 rfl rfl ?_
      exact LP_end _ rfl ⟨false, H, _, env_eq ⟨rfl, rfl, rfl, trivial⟩, (X.stepx x52), (ex.ext x52), (ex4.ext x52), (ex10.ext x52), (ex13.ext x52), (ex17.ext x52)⟩
     rintro x40 _ wx41 ⟨H, ρ, rfl, HF⟩
     revert HF
     refine bb6 fun X47 ex42 ex43 ex44 ex45 ex46 => ?_
     subst hk49
     refine W_cond (x40) rfl (fun hc74 => ?_) (fun hc74 => ?_)
     ·have H := H.1 hc74
      refine W_open mix fun wx75 x76 => ?_
      refine AP_game 10 [[], [], [1], [1, 2], [1, 2, 3], [], [5], [5, 6], [5, 6, 7], [1, 2, 3, 4, 5, 6, 7, 8], [0, 1, 2, 3, 4, 5, 6, 7, 8, 9], [0, 1, 2, 3, 4, 5, 6, 7, 8, 9, 10], [0, 1, 2, 3, 4, 5, 6, 7, 8, 9, 10, 11]] [[(0, none)], [(0, none)], [(25, some 1)], [(26, some 2)], [(27, some 3)], [(2, none)], [(29, some 5)], [(30, some 6)], [(31, some 7)], [(28, some 4), (32, some 8)]] [(24, some 0), (33, some 9)] [(0, false), (1, false), (2, false), (3, false), (4, false), (5, false), (6, true), (7, false), (8, true), (9, true)] (by kernel_rfl) (by kernel_rfl) ?_
      refine GS_ev ok [(0, pb b)] (pb b) rfl rfl (fun _ h => h) (fun _ => rfl) ?_
      refine GS_ev ok [(0, pb b)] (pb b) rfl rfl (fun _ h => h) (fun _ => rfl) ?_
      refine GS_ev ok [(25, pb b)] (pb b) rfl rfl (fun _ h => h) (fun _ => rfl) ?_
      refine GS_ev ok [(26, pb b)] (.pointer (some ⟨b, 3, none⟩)) rfl rfl (fun _ h => h) (fun _ => rfl) ?_
      have ex77 := (ex45.ext x76)
      refine GS_r1 [(27, .pointer (some ⟨b, 3, none⟩))] (sl a11 x.Out c12) rfl rfl (fun _ h => h) (fun _ w e => ex_ldbox rfl ti_25 ag_25 (fun _ => rfl) rfl e rfl rfl) ex77 ?_
      refine GS_ev ok [(2, sl a18 sets c19)] (sl a18 sets c19) rfl rfl (fun _ h => h) (fun _ => rfl) ?_
      refine GS_lp [(29, sl a18 sets c19)] rfl rfl (fun _ h => h) rfl fun ρ wx78 x79 => ?_
      have xc81 := (x76.trans x79)
      refine LP_call 0 rfl rfl rfl cal_183 rfl (spec_l1Own_w _ _ H wx78 r16 (ex46.ext xc81)) ?_
      rintro _ wx83 ⟨r80, vx85, hx86, H, rfl, x84, o87, ex88, f89⟩
      obtain ⟨a90, c91, rfl⟩ := o87.shape
      have ex93 := (ex77.ext (x79.trans x84))
      refine LP_gs ⟨⟨.inr ex93, trivial⟩, ?_⟩
      refine GS_ev ok [(30, sl a90 r80 c91)] (.agg #[sl a90 r80 c91]) rfl rfl (fun _ h => h) (fun _ => rfl) ?_
      refine GS_lp [(31, .agg #[sl a90 r80 c91])] rfl rfl (fun _ h => h) rfl fun ρ wx94 x95 => ?_
      have rv : RVO hx86 (.agg #[sl a90 r80 c91]) ((Edit.mk r80) : Edit) := ⟨_, ⟨_, rfl, (OS.od o87)⟩, rfl⟩
      refine LP_litD (α := Edit) 0 (vs := [.agg #[sl a90 r80 c91]]) (xs := [((Edit.mk r80) : Edit)]) rfl rfl rfl Try.underlying25 ti_33 rfl rfl (allO.one rv) (ex88.ext x95) rfl rfl fun hx97 vx98 wx99 x100 o101 ex102 dm => ?_
      obtain ⟨a103, c104, rfl⟩ := o101.shape
      refine LP_gs ⟨⟨.inr (ex93.ext (x95.trans x100)), trivial⟩, ?_⟩
      refine GS_lp [(28, sl a11 x.Out c12), (32, .slice a103 (List.length ([((Edit.mk r80) : Edit)])) c104)] rfl rfl (fun _ h => h) rfl fun ρ wx107 x108 => ?_
      have xc109 := (((((x76.trans x79).trans x84).trans x95).trans x100).trans x108)
      have ex111 := (ex44.ext xc81)
      have xc112 := (x84.trans x95)
      obtain ⟨hb, H⟩ := H
      refine LP_appendD (α := Edit) 0 rfl rfl rfl Try.underlying25 ti_33 rfl rfl rfl r9 (ex44.ext xc109) o101 (ex102.ext x108) (DomLe.dj dm (Dj.of_fresh ex111 f89).symm (ex111.ext xc112)).symm (by first | omega | (simp only [ln] at *; omega)) (by first | omega | (simp only [ln] at *; omega)) fun hx115 vx116 wx117 hw o118 ex119 y dh dm120 => ?_
      obtain ⟨a121, c122, rfl⟩ := o118.shape
      refine LP_gs ⟨⟨.inl rfl, trivial⟩, ?_⟩
      intro wx123 x124 ρ hn
      refine AP_forget [(24, pb b), (33, .slice a121 (List.length (x.Out ++ ([((Edit.mk r80) : Edit)]))) c122)] (by exact hn) fun ρ => ?_
      refine AP_tail 10 [[], [], [1], [1, 2], [1, 2, 3], [], [5], [5, 6], [5, 6, 7], [1, 2, 3, 4, 5, 6, 7, 8], [0, 1, 2, 3, 4, 5, 6, 7, 8, 9], [0, 1, 2, 3, 4, 5, 6, 7, 8, 9, 10], [0, 1, 2, 3, 4, 5, 6, 7, 8, 9, 10, 11]] (by kernel_rfl) ?_
      refine LP_ev ok 10 [(34, pb b), (35, .pointer (some ⟨b, 3, none⟩))] 12 rfl rfl ?_
      refine LP_stbox 12 (vs := [.slice a121 (List.length (x.Out ++ ([((Edit.mk r80) : Edit)]))) c122]) (cs' := [sl a x.S c, sl a5 x.Passing c6, I x.V, .slice a121 (List.length (x.Out ++ ([((Edit.mk r80) : Edit)]))) c122]) rfl rfl rfl ti_25 rfl rfl rfl rfl rfl (((ex77.ext ((((x79.trans x84).trans x95).trans x100).trans x108)).but (But.dom y dh) d).ext x124) rfl rfl fun wx125 ex126 y127 => ?_
      refine LP_end _ rfl ?_
      have ex131 := (ex77.ext x79)
      have ex132 := (ex131.ext xc112)
      have xc133 := (x100.trans x108)
      have ex134 := (ex132.ext xc133)
      have X137 := (X47.stepx xc81)
      have f136 := f89.mono X137.size
      have X139 := (X137.stepx xc112)
      have f138 := DomLe.fresh dm f136 X139.size
      have ex143 := (ex42.ext xc81)
      have ex144 := (ex143.ext xc112)
      have ex146 := (ex43.ext xc81)
      have ex147 := (ex146.ext xc112)
      exact ⟨x.Out ++ ([((Edit.mk r80) : Edit)]), H, _, .slice a121 (List.length (x.Out ++ ([((Edit.mk r80) : Edit)]))) c122, hx115, env_eq trivial, ((((X47.stepx xc109).step (But.dom y dh) (Dom.le D _)).stepx x124).step y127 (Dom.le D26 _)), o118, ((ex119.ext x124).but y127 (DomLe.dj dm120 (Dj.un_l d (DomLe.dj dm (Dj.of_fresh ex131 f89).symm ex132)) ex134).symm), (DomLe.trans (DomLe.un (Dom.le D _) (f138.dom _)) dm120 (X139.stepx xc133).size), ((((ex42.ext xc109).but (But.dom y dh) d20).ext x124).but y127 d23), ((((ex43.ext xc109).but (But.dom y dh) d21).ext x124).but y127 d24), ex126, (DomLe.dj dm120 (Dj.un_l d20 (DomLe.dj dm (Dj.of_fresh ex143 f89).symm ex144)) (ex144.ext xc133)), (DomLe.dj dm120 (Dj.un_l d21 (DomLe.dj dm (Dj.of_fresh ex146 f89).symm ex147)) (ex147.ext xc133)), (Dj.box (DomLe.dj dm120 (Dj.un_l d (DomLe.dj dm (Dj.of_fresh ex131 f89).symm ex132)) ex134).symm).symm⟩
     have H := H.2 hc74
     exact W_skip ⟨x.Out, H, _, sl a11 x.Out c12, hx8, env_eq trivial, X47, r9, ex44, (Dom.le D _), ex42, ex43, ex45, d20, d21, d⟩
    rintro out _ wx ⟨H, ρ, vx27, hx28, rfl, HF⟩
    revert HF
    refine bb9 fun X38 o ex29 f ex30 ex31 ex34 d35 => ?_
    refine bb2 fun d36 d37 => ?_
    subst hk
    obtain ⟨a32, c33, rfl⟩ := o.shape
    refine W_ret ?_
    subst hM
    exact ⟨_, Ret_of [] trivial, _, _, _, _, H, rfl, X38, o, ex29, f, ex34, d37⟩
   have H := H.2 hc
   refine W_skip ?_
   refine W_seq (W_region ?_)
   refine LP_ev ok 0 [(6, I 1)] 1 rfl rfl ?_
   refine LP_end _ rfl ?_
   obtain ⟨k156, hk157, H⟩ := jn_elim H
   refine W_join2 (S := Int) (fun s ρ' w' => k156 s ∧ ∃ (ρ : Env), ρ' = setAll [(0, pb b), (1, I k), (2, sl a18 sets c19), (6, I s)] ρ ∧ But M w w' ∧ Sub hx w' ∧ Sub hx2 w' ∧ Sub hx8 w' ∧ Sub (bx b 162 [sl a x.S c, sl a5 x.Passing c6, I x.V, sl a11 x.Out c12]) w' ∧ Sub hx15 w') ?_ ?_
   ·refine W_seq (W_region ?_)
    refine LP_ev ok 0 [(36, I k), (37, pb b), (38, pb b), (39, .pointer (some ⟨b, 2, none⟩))] 4 rfl rfl ?_
    refine LP_ldbox 4 (v := I x.V) rfl rfl rfl ti_3 ag_3 (fun _ => rfl) rfl ex13 rfl rfl ?_
    refine LP_ev ok 5 [(41, .bool (k == x.V))] 6 rfl rfl ?_
    refine LP_end _ rfl ?_
    refine W_cond (k == x.V) rfl (fun hc158 => ?_) (fun hc158 => ?_)
    ·have H := H.1 hc158
     refine W_region ?_
     refine LP_ev ok 0 [(42, pb b), (43, pb b), (44, pb b)] 3 rfl rfl ?_
     refine LP_ldbox 3 (v := sl a x.S c) rfl rfl rfl ti_24 ag_24 (fun _ => rfl) rfl ex13 rfl rfl ?_
     refine LP_ev ok 4 [(46, I k)] 5 rfl rfl ?_
     refine LP_call 5 rfl rfl rfl cal_149 rfl (spec_eFull_w _ _ _ H w r ex) ?_
     rintro _ wx160 ⟨r159, H, rfl, x161⟩
     refine LP_ev ok 6 [(6, I r159)] 7 rfl rfl ?_
     exact LP_end _ rfl ⟨r159, H, _, env_eq ⟨rfl, rfl, rfl, rfl, trivial⟩, (X.stepx x161), (ex.ext x161), (ex4.ext x161), (ex10.ext x161), (ex13.ext x161), (ex17.ext x161)⟩
    have H := H.2 hc158
    exact W_skip ⟨1, H, _, env_eq ⟨rfl, rfl, rfl, rfl, trivial⟩, X, ex, ex4, ex10, ex13, ex17⟩
   rintro first _ wx149 ⟨H, ρ, rfl, HF⟩
   revert HF
   refine bb6 fun X155 ex150 ex151 ex152 ex153 ex154 => ?_
   subst hk157
   refine W_seq (W_region ?_)
   refine LP_ev ok 0 [(48, I first), (7, I first)] 2 rfl rfl ?_
   refine LP_end _ rfl ?_
   refine W_block ?_
   obtain ⟨J, m187, Hx, H⟩ := H
   refine W_loop (S := Int × Int × (List Edit)) (fun s ρ' w' => J s.1 s.2.1 s.2.2 ∧ ∃ (ρ : Env) (vx170 : Value) (hx171 : PH), ρ' = setAll [(0, pb b), (1, I k), (2, sl a18 sets c19), (7, I s.1)] ρ ∧ But M w w' ∧ OD hx171 vx170 s.2.2 ∧ Sub hx171 w' ∧ DomLe M w.heap.size hx171 ∧ Sub hx w' ∧ Sub hx2 w' ∧ Sub hx15 w' ∧ Sub (bx b 162 [sl a x.S c, sl a5 x.Passing c6, I s.2.1, vx170]) w' ∧ Dj hx171 hx ∧ Dj hx171 hx2 ∧ Dj hx171 hx15 ∧ Dj hx171 (bx b 162 [sl a x.S c, sl a5 x.Passing c6, I s.2.1, vx170])) (fun s => m187 s.1 s.2.1 s.2.2) (first, x.V, x.Out) ⟨Hx, _, sl a11 x.Out c12, hx8, env_eq ⟨rfl, rfl, rfl, rfl, trivial⟩, X155, r9, ex152, (Dom.le D _), ex150, ex151, ex154, ex153, d20, d21, d22, d⟩ ?_
   rintro ⟨setx, vx168, out169⟩ _ wx175 ⟨Hi, ρ, vx170, hx171, rfl, HF⟩
   revert HF
   refine bb9 fun X186 o172 ex173 f174 ex176 ex177 ex178 ex181 => ?_
   refine bb4 fun d182 d183 d184 d185 => ?_
   have H := H setx vx168 out169 Hi
   obtain ⟨a179, c180, rfl⟩ := o172.shape
   refine W_seq ?_
   refine W_seq (W_region ?_)
   refine LP_ev ok 0 [(49, I setx), (50, pb b), (51, pb b), (52, pb b)] 4 rfl rfl ?_
   refine LP_ldbox 4 (v := sl a x.S c) rfl rfl rfl ti_24 ag_24 (fun _ => rfl) rfl ex181 rfl rfl ?_
   refine LP_ev ok 5 [(54, I k)] 6 rfl rfl ?_
   refine LP_call 6 rfl rfl rfl cal_149 rfl (spec_eFull_w _ _ _ H wx175 r ex176) ?_
   rintro _ wx189 ⟨r188, H, rfl, x190⟩
   refine LP_ev ok 7 [(56, .bool (decide (setx ≤ r188)))] 8 rfl rfl ?_
   refine LP_end _ rfl ?_
   refine W_cond (decide (setx ≤ r188)) rfl (fun hc191 => ?_) (fun hc191 => ?_)
   ·have H := H.1 hc191
    refine W_skip ?_
    refine W_seq ?_
    refine W_block ?_
    refine W_region ?_
    refine LP_ev ok 0 [(59, pb b), (60, I k), (61, I (wr (k + 1))), (62, sl a18 sets c19)] 4 rfl rfl ?_
    have ex193 := (ex178.ext x190)
    refine LP_call 4 rfl rfl rfl cal_183 rfl (spec_l1Own_w _ _ H wx189 r16 ex193) ?_
    rintro _ wx194 ⟨r192, vx196, hx197, H, rfl, x195, o198, ex199, f200⟩
    obtain ⟨a201, c202, rfl⟩ := o198.shape
    refine LP_ev ok 5 [(64, I setx)] 6 rfl rfl ?_
    refine LP_lit (α := Int) (g := emp) 6 (vs := [I setx]) (xs := [setx]) rfl rfl rfl Try.underlying31 ti_3 rfl rfl ⟨⟨_, rfl, rfl⟩, trivial⟩ rfl rfl fun hx203 vx204 wx205 x206 o207 ex208 f209 => ?_
    obtain ⟨a210, c211, rfl⟩ := o207.shape
    obtain ⟨hb213, H⟩ := H
    refine LP_appendf (α := Int) 7 rfl rfl rfl Try.underlying31 ti_3 rfl rfl rfl o198 (ex199.ext x206) o207.readf ex208 (by first | omega | (simp only [ln] at *; omega)) (by first | omega | (simp only [ln] at *; omega)) fun hx214 vx215 wx216 o217 ex218 y219 dm220 => ?_
    obtain ⟨a221, c222, rfl⟩ := o217.shape
    have ex223 := (ex173.ext x190)
    have xc224 := (x195.trans x206)
    have ex225 := (ex223.ext xc224)
    have ex226 := (ex181.ext x190)
    have ex227 := (ex226.ext xc224)
    have xc230 := ((x190.trans x195).trans x206)
    have ex232 := ((ex176.ext xc230).but y219 (Dj.of_fresh (ex176.ext x190) f200).symm)
    have ex234 := ((ex177.ext xc230).but y219 (Dj.of_fresh (ex177.ext x190) f200).symm)
    refine LP_call 8 rfl rfl rfl cal_144 rfl (ih _ _ _ _ H.1 (Nat.lt_of_lt_of_le H.2 (Nat.le_of_lt_succ hm)) wx216 r ex232 r3 ex234 o172 (ex225.but y219 (Dj.of_fresh ex223 f200).symm) (ex227.but y219 (Dj.of_fresh ex226 f200).symm) o217.readf ex218 d185 d182 d183 (DomLe.dj dm220 (Dj.of_fresh ex223 f200).symm ex225).symm (Dj.box d23) (Dj.box d24) (DomLe.dj dm220 (Dj.of_fresh ex226 f200).symm ex227).symm) ?_
    rintro _ wx237 ⟨r228, r229, vx243, hx239, H, rfl, x238, HF⟩
    revert HF
    refine bb5 fun o240 ex241 dm242 ex244 d245 => ?_
    obtain ⟨a246, c247, rfl⟩ := o240.shape
    refine LP_end _ rfl ?_
    refine W_region ?_
    refine LP_ev ok 0 [(57, I setx), (58, I (wr (setx + 1))), (7, I (wr (setx + 1)))] 3 rfl rfl ?_
    refine LP_end _ rfl ?_
    have X249 := (X186.stepx x190)
    have f248 := f200.mono X249.size
    exact ⟨(wr (setx + 1), r229, r228), ⟨H.1, _, sl a246 r228 c247, hx239, env_eq ⟨rfl, rfl, rfl, rfl, trivial⟩, (((X186.stepx xc230).step y219 (f248.dom _)).step x238 (DomLe.un f174 (DomLe.dom D26 single_dom))), o240, ex241, (DomLe.trans (DomLe.un f174 (DomLe.dom D26 single_dom)) dm242 ((X249.stepx xc224).step y219 (f248.dom _)).size), (ex232.but x238 (Dj.un_l d182 (Dj.box d23))), (ex234.but x238 (Dj.un_l d183 (Dj.box d24))), (((ex193.ext xc224).but y219 (Dj.of_fresh ex193 f200).symm).but x238 (Dj.un_l d184 (Dj.box d25))), ex244, (DomLe.dj dm242 (Dj.un_l d182 (Dj.box d23)) ex232), (DomLe.dj dm242 (Dj.un_l d183 (Dj.box d24)) ex234), (DomLe.dj dm242 (Dj.un_l d184 (Dj.box d25)) ((ex193.ext xc224).but y219 (Dj.of_fresh ex193 f200).symm)), d245⟩, H.2⟩
   have H := H.2 hc191
   refine W_exit ?_
   refine (if_pos rfl).mpr ?_
   subst hM
   exact ⟨_, Ret_of [] trivial, _, _, _, _, H, rfl, (X186.stepx x190), o172, (ex173.ext x190), f174, (ex181.ext x190), d185⟩
 exact key _ x k sets Q H0 (Nat.lt_succ_self _) w r ex r3 ex4 r9 ex10 ex13 r16 ex17 d d20 d21 d22 d23 d24 d25

theorem spec_eMaximal_w (sx : List Variable) (l : List Edit) (vx7 : Int) (Q : (List Edit) → Prop) (H : spec_eMaximal sx l vx7 Q) (w : World) {vx : Value} {hx : PH} (r : RS hx vx sx) (ex : Sub hx w) {vx1 : Value} {hx2 : PH} (r3 : RS hx2 vx1 l) (ex4 : Sub hx2 w) :
  CallsTo Try.prog 66 #[vx, vx1, I vx7] w fun v w' => ∃ r0 u0 g0, Q r0 ∧ v = u0 ∧ Ext w w' ∧ OD g0 u0 r0 ∧ Sub g0 w' ∧ Fresh w.heap.size g0 := by
 obtain ⟨a, c, rfl⟩ := r.shape
 obtain ⟨a5, c6, rfl⟩ := r3.shape
 refine enter (args := [sl a sx c, sl a5 l c6, I vx7]) 44 Try.func66 rfl rfl rfl ?_
 refine W_forget [(0, sl a sx c), (1, sl a5 l c6), (2, I vx7)] ⟨rfl, rfl, rfl, trivial⟩ fun ρ => ?_
 have X := But.refl emp w
 refine W_seq (W_region ?_)
 refine LP_ev ok 0 [(6, .slice none 0 0)] 1 rfl rfl ?_
 refine LP_end _ rfl (W_seq (W_region ?_))
 refine LP_ev ok 0 [(10, sl a sx c), (11, I vx7), (12, .agg #[sl a sx c, .slice none 0 0, I vx7, .slice none 0 0])] 3 rfl rfl ?_
 refine LP_box 3 (cs := [sl a sx c, .slice none 0 0, I vx7, .slice none 0 0]) rfl rfl rfl rfl rfl fun b wx x ex8 f => ?_
 refine LP_ev ok 4 [(7, pb b)] 5 rfl rfl ?_
 refine LP_end _ rfl (W_seq ?_)
 refine W_seq (W_region ?_)
 refine LP_ev ok 0 [(8, I 0)] 1 rfl rfl ?_
 refine LP_end _ rfl ?_
 refine W_block ?_
 obtain ⟨J, m, Hx, H⟩ := H
 refine W_loop (S := Int × (List (List Int))) (fun s ρ' w' => J s.1 s.2 ∧ ∃ (ρ : Env) (vx9 : Value) (hx10 : PH), ρ' = setAll [(0, sl a sx c), (1, sl a5 l c6), (7, pb b), (8, I s.1)] ρ ∧ But emp w w' ∧ OD hx10 vx9 s.2 ∧ Sub hx10 w' ∧ Fresh w.heap.size hx10 ∧ Sub hx w' ∧ Sub hx2 w' ∧ Sub (bx b 162 [sl a sx c, vx9, I vx7, .slice none 0 0]) w' ∧ Dj hx10 hx ∧ Dj hx10 hx2 ∧ Dj hx10 (bx b 162 [sl a sx c, vx9, I vx7, .slice none 0 0])) (fun s => m s.1 s.2) (0, []) ⟨Hx, _, .slice none 0 0, emp, env_eq ⟨rfl, rfl, rfl, rfl, trivial⟩, (X.stepx x), OD.nil, (emp_sub _), (emp_fresh _), (ex.ext x), (ex4.ext x), ex8, (fun _ => .inl rfl), (fun _ => .inl rfl), (fun _ => .inl rfl)⟩ ?_
 rintro ⟨i, passing⟩ _ wx13 ⟨Hi, ρ, vx9, hx10, rfl, HF⟩
 revert HF
 refine bb9 fun X21 o ex11 f12 ex14 ex15 ex18 d => ?_
 refine bb2 fun d19 d20 => ?_
 have H := H i passing Hi
 obtain ⟨a16, c17, rfl⟩ := o.shape
 refine W_seq ?_
 refine W_seq (W_region ?_)
 refine LP_ev ok 0 [(14, I i), (15, sl a sx c)] 2 rfl rfl ?_
 refine LP_call 2 rfl rfl rfl cal_121 rfl (spec_sCount_w _ _ H wx13 r ex14) ?_
 rintro _ wx26 ⟨r25, H, rfl, x27⟩
 refine LP_ev ok 3 [(17, .bool (decide (i < r25)))] 4 rfl rfl ?_
 refine LP_end _ rfl ?_
 refine W_cond (decide (i < r25)) rfl (fun hc => ?_) (fun hc => ?_)
 ·have H := H.1 hc
  refine W_skip ?_
  have X28 := (X21.stepx x27)
  have ex29 := (ex14.ext x27)
  have ex30 := (ex15.ext x27)
  have ex31 := (ex18.ext x27)
  have f32 := f.mono X.size
  have ex33 := (ex11.ext x27)
  obtain ⟨k, hk, H⟩ := jn_elim H
  refine W_join2 (S := (List (List Int))) (fun s ρ' w' => k s ∧ ∃ (ρ : Env) (vx35 : Value) (hx36 : PH), ρ' = setAll [(0, sl a sx c), (1, sl a5 l c6), (7, pb b), (8, I i)] ρ ∧ But emp w w' ∧ OD hx36 vx35 s ∧ Sub hx36 w' ∧ Fresh w.heap.size hx36 ∧ Sub hx w' ∧ Sub hx2 w' ∧ Sub (bx b 162 [sl a sx c, vx35, I vx7, .slice none 0 0]) w' ∧ Dj hx36 hx ∧ Dj hx36 hx2 ∧ Dj hx36 (bx b 162 [sl a sx c, vx35, I vx7, .slice none 0 0])) ?_ ?_
  ·refine W_block ?_
   refine W_seq (W_region ?_)
   refine LP_ev ok 0 [(20, sl a sx c), (21, I i)] 2 rfl rfl ?_
   refine LP_call 2 rfl rfl rfl cal_122 rfl (spec_sAt_w _ _ _ H wx26 r ex29) ?_
   rintro _ wx51 ⟨r50, vx53, hx54, H, rfl, x52, o55, ex56, f57⟩
   obtain ⟨a58, c59, rfl⟩ := o55.shape
   refine LP_ev ok 3 [(9, sl a58 r50 c59)] 4 rfl rfl ?_
   refine LP_end _ rfl (W_seq (W_region ?_))
   refine LP_ev ok 0 [(23, sl a5 l c6), (24, sl a58 r50 c59)] 2 rfl rfl ?_
   have ex61 := (ex30.ext x52)
   refine LP_call 2 rfl rfl rfl cal_143 rfl (spec_eFailed_w _ _ _ H wx51 r3 ex61 o55.readf ex56) ?_
   rintro _ wx62 ⟨r60, vx64, hx65, H, rfl, x63, o66, ex67, f68⟩
   obtain ⟨a69, c70, rfl⟩ := o66.shape
   refine LP_ev ok 3 [(26, I (ln r60)), (27, .bool ((ln r60) == 0))] 5 rfl rfl ?_
   refine LP_end _ rfl ?_
   refine W_cond ((ln r60) == 0) rfl (fun hc71 => ?_) (fun hc71 => ?_)
   ·have H := H.1 hc71
    refine W_region ?_
    refine LP_ev ok 0 [(28, pb b), (29, pb b), (30, pb b), (31, .pointer (some ⟨b, 1, none⟩))] 4 rfl rfl ?_
    have xc := (x52.trans x63)
    have ex72 := (ex31.ext xc)
    refine LP_ldbox 4 (v := sl a16 passing c17) rfl rfl rfl ti_50 ag_50 (fun _ => rfl) rfl ex72 rfl rfl ?_
    refine LP_ev ok 5 [(33, sl a58 r50 c59)] 6 rfl rfl ?_
    refine LP_litD (α := List Int) 6 (vs := [sl a58 r50 c59]) (xs := [r50]) rfl rfl rfl Try.underlying50 ti_31 rfl rfl (allO.one (OD.rvo (OS.od o55))) (ex56.ext x63) rfl rfl fun hx74 vx75 wx76 x77 o78 ex79 dm => ?_
    obtain ⟨a80, c81, rfl⟩ := o78.shape
    have xc82 := (xc.trans x77)
    obtain ⟨hb, H⟩ := H
    refine LP_appendD (α := List Int) 7 rfl rfl rfl Try.underlying50 ti_31 rfl rfl rfl o (ex33.ext xc82) o78 ex79 (DomLe.dj dm (Dj.of_fresh ex33 f57).symm (ex33.ext xc)).symm (by first | omega | (simp only [ln] at *; omega)) (by first | omega | (simp only [ln] at *; omega)) fun hx85 vx86 wx87 hw o88 ex89 y dh dm90 => ?_
    obtain ⟨a91, c92, rfl⟩ := o88.shape
    refine LP_ev ok 8 [(36, pb b), (37, .pointer (some ⟨b, 1, none⟩))] 10 rfl rfl ?_
    refine LP_stbox 10 (vs := [.slice a91 (List.length (passing ++ ([r50]))) c92]) (cs' := [sl a sx c, .slice a91 (List.length (passing ++ ([r50]))) c92, I vx7, .slice none 0 0]) rfl rfl rfl ti_50 rfl rfl rfl rfl rfl ((ex72.ext x77).but (But.dom y dh) d20) rfl rfl fun wx93 ex94 y95 => ?_
    refine LP_end _ rfl ?_
    have ex98 := (ex72.ext x77)
    have f100 := f57.mono X28.size
    have X102 := (X28.stepx xc)
    have f101 := DomLe.fresh dm f100 X102.size
    have f103 := DomLe.fresh dm90 (Fresh.un f12 f101) (X102.stepx x77).size
    have ex108 := (ex29.ext xc)
    have ex110 := (ex61.ext x63)
    exact ⟨passing ++ ([r50]), H, _, .slice a91 (List.length (passing ++ ([r50]))) c92, hx85, env_eq ⟨rfl, rfl, rfl, rfl, trivial⟩, (((X28.stepx xc82).step (But.dom y dh) (f12.dom _)).step y95 ((Fresh.box f32).dom _)), o88, (ex89.but y95 (DomLe.dj dm90 (Dj.un_l d20 (DomLe.dj dm (Dj.of_fresh ex31 f57).symm ex72)) ex98).symm), f103, (((ex29.ext xc82).but (But.dom y dh) d).but y95 (Dj.box (Dj.of_fresh ex f).symm)), (((ex61.ext (x63.trans x77)).but (But.dom y dh) d19).but y95 (Dj.box (Dj.of_fresh ex4 f).symm)), ex94, (DomLe.dj dm90 (Dj.un_l d (DomLe.dj dm (Dj.of_fresh ex29 f57).symm ex108)) (ex108.ext x77)), (DomLe.dj dm90 (Dj.un_l d19 (DomLe.dj dm (Dj.of_fresh ex30 f57).symm ex110)) (ex110.ext x77)), (Dj.box (DomLe.dj dm90 (Dj.un_l d20 (DomLe.dj dm (Dj.of_fresh ex31 f57).symm ex72)) ex98).symm).symm⟩
   have H := H.2 hc71
   refine W_skip ?_
   have xc112 := (x52.trans x63)
   exact ⟨passing, H, _, sl a16 passing c17, hx10, env_eq ⟨rfl, rfl, rfl, rfl, trivial⟩, (X28.stepx xc112), o, (ex33.ext xc112), f12, (ex29.ext xc112), (ex61.ext x63), (ex31.ext xc112), d, d19, d20⟩
  rintro passing34 _ wx40 ⟨H, ρ, vx35, hx36, rfl, HF⟩
  revert HF
  refine bb9 fun X49 o37 ex38 f39 ex41 ex42 ex45 d46 => ?_
  refine bb2 fun d47 d48 => ?_
  subst hk
  obtain ⟨a43, c44, rfl⟩ := o37.shape
  refine W_region ?_
  refine LP_ev ok 0 [(18, I i), (19, I (wr (i + 1))), (8, I (wr (i + 1)))] 3 rfl rfl ?_
  exact LP_end _ rfl ⟨(wr (i + 1), passing34), ⟨H.1, _, sl a43 passing34 c44, hx36, env_eq ⟨rfl, rfl, rfl, rfl, trivial⟩, X49, o37, ex38, f39, ex41, ex42, ex45, d46, d47, d48⟩, H.2⟩
 have H := H.2 hc
 refine W_exit ?_
 refine (if_pos rfl).mpr ?_
 refine W_seq (W_region ?_)
 refine LP_ev ok 0 [(38, pb b)] 1 rfl rfl ?_
 refine LP_call 1 rfl rfl rfl cal_144 rfl (spec_eSearch_run_w _ _ _ _ H wx26 r (ex14.ext x27) o.readf (ex11.ext x27) (OD.nil (α := Edit)) (emp_sub _) (ex18.ext x27) (.inl ⟨rfl, rfl⟩) (emp_sub _) (Dj.emp_l _) (Dj.emp_l _) (Dj.emp_l _) (Dj.emp_l _) (Dj.box (Dj.of_fresh ex f).symm) d20.symm (Dj.emp_r _)) ?_
 rintro _ wx123 ⟨r118, r119, vx129, hx125, H, rfl, x124, HF⟩
 revert HF
 refine bb5 fun o126 ex127 dm128 ex130 d131 => ?_
 obtain ⟨a132, c133, rfl⟩ := o126.shape
 refine LP_end _ rfl (W_seq (W_region ?_))
 refine LP_ev ok 0 [(40, pb b), (41, pb b), (42, .pointer (some ⟨b, 3, none⟩))] 3 rfl rfl ?_
 refine LP_ldbox 3 (v := sl a132 r118 c133) rfl rfl rfl ti_25 ag_25 (fun _ => rfl) rfl ex130 rfl rfl ?_
 refine LP_ev ok 4 [(6, sl a132 r118 c133)] 5 rfl rfl ?_
 refine LP_end _ rfl (W_ret ?_)
 have f134 := f.mono X.size
 have X136 := (X21.stepx x27)
 have f135 := DomLe.fresh dm128 (Fresh.un (emp_fresh _) (Fresh.box f134)) X136.size
 exact ⟨_, Ret_of [sl a132 r118 c133] ⟨⟨rfl, rfl⟩, trivial⟩, _, _, _, H, rfl, (X136.step x124 (DomLe.un (fun _ _ _ => rfl) ((Fresh.box f134).dom _))).ext, o126, ex127, f135⟩

theorem spec_MaximalEdits_w (sx : List Variable) (l : List Edit) (Q : (List Edit) → Bool → Prop) (H : spec_MaximalEdits sx l Q) (w : World) {vx : Value} {hx : PH} (r : RS hx vx sx) (ex : Sub hx w) {vx1 : Value} {hx2 : PH} (r3 : RS hx2 vx1 l) (ex4 : Sub hx2 w) :
  CallsTo Try.prog 13 #[vx, vx1] w fun v w' => ∃ r0 r1 u0 g0, Q r0 r1 ∧ v = .tuple #[u0, .bool r1] ∧ Ext w w' ∧ OD g0 u0 r0 ∧ Sub g0 w' ∧ Fresh w.heap.size g0 := by
 obtain ⟨a, c, rfl⟩ := r.shape
 obtain ⟨a5, c6, rfl⟩ := r3.shape
 refine enter (args := [sl a sx c, sl a5 l c6]) 13 Try.func13 rfl rfl rfl ?_
 refine W_forget [(0, sl a sx c), (1, sl a5 l c6)] ⟨rfl, rfl, trivial⟩ fun ρ => ?_
 have X := But.refl emp w
 refine W_seq (W_region ?_)
 refine LP_ev ok 0 [(4, .slice none 0 0), (5, .bool false)] 2 rfl rfl ?_
 refine LP_end _ rfl (W_seq ?_)
 refine W_seq (W_region ?_)
 refine LP_ev ok 0 [(6, sl a sx c), (7, sl a5 l c6)] 2 rfl rfl ?_
 refine LP_call 2 rfl rfl rfl cal_65 rfl (spec_eSmall_w _ _ _ H w r ex r3 ex4) ?_
 rintro _ wx ⟨r7, H, rfl, x⟩
 refine LP_ev ok 3 [(9, .bool (!r7))] 4 rfl rfl ?_
 refine LP_end _ rfl ?_
 refine W_cond (!r7) rfl (fun hc => ?_) (fun hc => ?_)
 ·have H := H.1 hc
  refine W_seq (W_region ?_)
  refine LP_ev ok 0 [(4, .slice none 0 0), (5, .bool false)] 2 rfl rfl ?_
  refine LP_end _ rfl (W_ret ?_)
  exact ⟨_, Ret_of [.slice none 0 0, .bool false] ⟨⟨rfl, rfl⟩, ⟨rfl, rfl⟩, trivial⟩, _, _, _, emp, H, rfl, (X.stepx x).ext, OD.nil, (emp_sub _), (emp_fresh _)⟩
 have H := H.2 hc
 refine W_skip ?_
 refine W_seq (W_region ?_)
 refine LP_ev ok 0 [(10, sl a sx c), (11, sl a5 l c6)] 2 rfl rfl ?_
 refine LP_call 2 rfl rfl rfl cal_66 rfl (spec_eMaximal_w _ _ _ _ H wx r (ex.ext x) r3 (ex4.ext x)) ?_
 rintro _ wx12 ⟨r9, vx14, hx15, H, rfl, x13, o, ex16, f⟩
 obtain ⟨a17, c18, rfl⟩ := o.shape
 refine LP_ev ok 3 [(4, sl a17 r9 c18), (5, .bool true)] 5 rfl rfl ?_
 refine LP_end _ rfl (W_ret ?_)
 have X20 := (X.stepx x)
 have f19 := f.mono X20.size
 exact ⟨_, Ret_of [sl a17 r9 c18, .bool true] ⟨⟨rfl, rfl⟩, ⟨rfl, rfl⟩, trivial⟩, _, _, _, _, H, rfl, (X20.stepx x13).ext, o, ex16, f19⟩

theorem laws_sameInts_w (a : List Int) (b : List Int) (Q : Bool → Prop) (H : laws_sameInts a b Q) (w : World) {vx : Value} {hx : PH} (r : RS hx vx a) (ex : Sub hx w) {vx2 : Value} {hx3 : PH} (r4 : RS hx3 vx2 b) (ex5 : Sub hx3 w) :
  CallsTo Try.prog 19 #[vx, vx2] w fun v w' => ∃ r0, Q r0 ∧ v = .bool r0 ∧ Ext w w' := by
 obtain ⟨a1, c, rfl⟩ := r.shape
 obtain ⟨a6, c7, rfl⟩ := r4.shape
 refine enter (args := [sl a1 a c, sl a6 b c7]) 26 Try.func19 rfl rfl rfl ?_
 refine W_forget [(0, sl a1 a c), (1, sl a6 b c7)] ⟨rfl, rfl, trivial⟩ fun ρ => ?_
 have X := But.refl emp w
 refine W_seq (W_region ?_)
 refine LP_ev ok 0 [(4, .bool false)] 1 rfl rfl ?_
 refine LP_end _ rfl (W_seq ?_)
 refine W_seq (W_region ?_)
 refine LP_ev ok 0 [(6, sl a1 a c), (7, I (ln a)), (8, sl a6 b c7), (9, I (ln b)), (10, .bool ((ln a) != (ln b)))] 5 rfl rfl ?_
 refine LP_end _ rfl ?_
 refine W_cond ((ln a) != (ln b)) rfl (fun hc => ?_) (fun hc => ?_)
 ·have H := H.1 hc
  refine W_seq (W_region ?_)
  refine LP_ev ok 0 [(4, .bool false)] 1 rfl rfl ?_
  refine LP_end _ rfl (W_ret ?_)
  exact ⟨_, Ret_of [.bool false] ⟨⟨rfl, rfl⟩, trivial⟩, _, H, rfl, X.ext⟩
 have H := H.2 hc
 refine W_skip ?_
 refine W_seq ?_
 refine W_seq (W_region ?_)
 refine LP_ev ok 0 [(11, sl a1 a c), (12, I (ln a)), (13, I 0)] 3 rfl rfl ?_
 refine LP_end _ rfl ?_
 refine W_block ?_
 obtain ⟨J, m, Hx, H⟩ := H
 refine W_loop (S := Int) (fun s ρ' w' => J s ∧ ∃ (ρ : Env), ρ' = setAll [(0, sl a1 a c), (1, sl a6 b c7), (12, I (ln a)), (13, I s)] ρ ∧ But emp w w' ∧ Sub hx w' ∧ Sub hx3 w') (fun s => m s) 0 ⟨Hx, _, env_eq ⟨rfl, rfl, rfl, rfl, trivial⟩, X, ex, ex5⟩ ?_
 rintro x _ wx ⟨Hi, ρ, rfl, X10, ex8, ex9⟩
 have H := H x Hi
 refine W_seq (W_region ?_)
 refine LP_ev ok 0 [(14, .bool (decide (x < (ln a))))] 1 rfl rfl ?_
 refine LP_end _ rfl (W_seq ?_)
 refine W_cond (decide (x < (ln a))) rfl (fun hc11 => ?_) (fun hc11 => ?_)
 ·have H := H.1 hc11
  refine W_skip ?_
  refine W_seq ?_
  refine W_block ?_
  refine W_seq (W_region ?_)
  refine LP_ev ok 0 [(15, I x), (5, I x)] 2 rfl rfl ?_
  refine LP_end _ rfl (W_seq ?_)
  refine W_quiet mix (by kernel_rfl) ?_
  refine QP_ev ok 0 [(16, sl a1 a c), (17, I x)] 2 rfl rfl ?_
  obtain ⟨x12, hi, hx13, H⟩ := H
  refine QP_index 2 rfl rfl rfl Try.underlying31 ti_3 rfl rfl r hi hx13 fun a14 cs r15 d => ?_
  refine QP_load 3 rfl rfl rfl ti_3 ag_3 rfl r15 d ex8 fun vx16 r17 => ?_
  obtain rfl := r17.int
  refine QP_ev ok 4 [(20, sl a6 b c7), (21, I x)] 6 rfl rfl ?_
  obtain ⟨x18, hi19, hx20, H⟩ := H
  refine QP_index 6 rfl rfl rfl Try.underlying31 ti_3 rfl rfl r4 hi19 hx20 fun a21 cs22 r23 d24 => ?_
  refine QP_load 7 rfl rfl rfl ti_3 ag_3 rfl r23 d24 ex9 fun vx25 r26 => ?_
  obtain rfl := r26.int
  refine QP_ev ok 8 [(24, .bool (x12 != x18))] 9 rfl rfl ?_
  refine QP_end _ rfl fun wx27 x28 => ?_
  refine W_cond (x12 != x18) rfl (fun hc29 => ?_) (fun hc29 => ?_)
  ·have H := H.1 hc29
   refine W_seq (W_region ?_)
   refine LP_ev ok 0 [(4, .bool false)] 1 rfl rfl ?_
   refine LP_end _ rfl (W_ret ?_)
   exact ⟨_, Ret_of [.bool false] ⟨⟨rfl, rfl⟩, trivial⟩, _, H, rfl, (X10.stepx x28).ext⟩
  have H := H.2 hc29
  refine W_skip ?_
  refine W_region ?_
  refine LP_ev ok 0 [(25, I (wr (x + 1))), (13, I (wr (x + 1)))] 2 rfl rfl ?_
  exact LP_end _ rfl ⟨wr (x + 1), ⟨H.1, _, env_eq ⟨rfl, rfl, rfl, rfl, trivial⟩, (X10.stepx x28), (ex8.ext x28), (ex9.ext x28)⟩, H.2⟩
 have H := H.2 hc11
 refine W_exit ?_
 refine (if_pos rfl).mpr ?_
 refine W_seq (W_region ?_)
 refine LP_ev ok 0 [(4, .bool true)] 1 rfl rfl ?_
 refine LP_end _ rfl (W_ret ?_)
 exact ⟨_, Ret_of [.bool true] ⟨⟨rfl, rfl⟩, trivial⟩, _, H, rfl, X10.ext⟩

theorem laws_pSameEdits_w (a : List Edit) (b : List Edit) (Q : Bool → Prop) (H : laws_pSameEdits a b Q) (w : World) {vx : Value} {hx : PH} (r : RS hx vx a) (ex : Sub hx w) {vx2 : Value} {hx3 : PH} (r4 : RS hx3 vx2 b) (ex5 : Sub hx3 w) :
  CallsTo Try.prog 14 #[vx, vx2] w fun v w' => ∃ r0, Q r0 ∧ v = .bool r0 ∧ Ext w w' := by
 obtain ⟨a1, c, rfl⟩ := r.shape
 obtain ⟨a6, c7, rfl⟩ := r4.shape
 refine enter (args := [sl a1 a c, sl a6 b c7]) 29 Try.func14 rfl rfl rfl ?_
 refine W_forget [(0, sl a1 a c), (1, sl a6 b c7)] ⟨rfl, rfl, trivial⟩ fun ρ => ?_
 have X := But.refl emp w
 refine W_seq (W_region ?_)
 refine LP_ev ok 0 [(4, .bool false)] 1 rfl rfl ?_
 refine LP_end _ rfl (W_seq ?_)
 refine W_seq (W_region ?_)
 refine LP_ev ok 0 [(6, sl a1 a c), (7, I (ln a)), (8, sl a6 b c7), (9, I (ln b)), (10, .bool ((ln a) != (ln b)))] 5 rfl rfl ?_
 refine LP_end _ rfl ?_
 refine W_cond ((ln a) != (ln b)) rfl (fun hc => ?_) (fun hc => ?_)
 ·have H := H.1 hc
  refine W_seq (W_region ?_)
  refine LP_ev ok 0 [(4, .bool false)] 1 rfl rfl ?_
  refine LP_end _ rfl (W_ret ?_)
  exact ⟨_, Ret_of [.bool false] ⟨⟨rfl, rfl⟩, trivial⟩, _, H, rfl, X.ext⟩
 have H := H.2 hc
 refine W_skip ?_
 refine W_seq ?_
 refine W_seq (W_region ?_)
 refine LP_ev ok 0 [(11, sl a1 a c), (12, I (ln a)), (13, I 0)] 3 rfl rfl ?_
 refine LP_end _ rfl ?_
 refine W_block ?_
 obtain ⟨J, m, Hx, H⟩ := H
 refine W_loop (S := Int) (fun s ρ' w' => J s ∧ ∃ (ρ : Env), ρ' = setAll [(0, sl a1 a c), (1, sl a6 b c7), (12, I (ln a)), (13, I s)] ρ ∧ But emp w w' ∧ Sub hx w' ∧ Sub hx3 w') (fun s => m s) 0 ⟨Hx, _, env_eq ⟨rfl, rfl, rfl, rfl, trivial⟩, X, ex, ex5⟩ ?_
 rintro x _ wx ⟨Hi, ρ, rfl, X10, ex8, ex9⟩
 have H := H x Hi
 refine W_seq (W_region ?_)
 refine LP_ev ok 0 [(14, .bool (decide (x < (ln a))))] 1 rfl rfl ?_
 refine LP_end _ rfl (W_seq ?_)
 refine W_cond (decide (x < (ln a))) rfl (fun hc11 => ?_) (fun hc11 => ?_)
 ·have H := H.1 hc11
  refine W_skip ?_
  refine W_seq ?_
  refine W_block ?_
  refine W_seq (W_region ?_)
  refine LP_ev ok 0 [(15, I x), (5, I x)] 2 rfl rfl ?_
  refine LP_end _ rfl (W_seq ?_)
  refine W_quiet mix (by kernel_rfl) ?_
  refine QP_ev ok 0 [(16, sl a1 a c), (17, I x)] 2 rfl rfl ?_
  obtain ⟨x12, hi, hx13, H⟩ := H
  refine QP_index 2 rfl rfl rfl Try.underlying25 ti_33 rfl rfl r hi hx13 fun a14 cs r15 d => ?_
  have d16 := d
  obtain ⟨u, rfl, r17⟩ := Edit_rd d16
  obtain ⟨a18, c19, rfl⟩ := r17.shape
  refine QP_ev ok 3 [(19, .pointer (some (Addr.add a14 0)))] 4 rfl rfl ?_
  refine QP_ldpart (off := 0) 4 (v := sl a18 x12.Sets c19) rfl rfl rfl ti_31 ag_31 (fun _ => rfl) rfl r15 ex8 rfl rfl ?_
  refine QP_ev ok 5 [(21, sl a6 b c7), (22, I x)] 7 rfl rfl ?_
  obtain ⟨x20, hi21, hx22, H⟩ := H
  refine QP_index 7 rfl rfl rfl Try.underlying25 ti_33 rfl rfl r4 hi21 hx22 fun a23 cs24 r25 d26 => ?_
  have d27 := d26
  obtain ⟨u28, rfl, r29⟩ := Edit_rd d27
  obtain ⟨a30, c31, rfl⟩ := r29.shape
  refine QP_ev ok 8 [(24, .pointer (some (Addr.add a23 0)))] 9 rfl rfl ?_
  refine QP_ldpart (off := 0) 9 (v := sl a30 x20.Sets c31) rfl rfl rfl ti_31 ag_31 (fun _ => rfl) rfl r25 ex9 rfl rfl ?_
  obtain ⟨r32, Hd, H⟩ := H
  refine QP_call (.bool r32) 10 rfl rfl rfl cal_19 rfl (fun wx33 x34 => (laws_sameInts_w _ _ _ Hd wx33 r17 (ex8.ext x34) r29 (ex9.ext x34)).mono ?_) ?_
  ·rintro _ _ ⟨_, rfl, rfl, x⟩; exact ⟨rfl, x⟩
  refine QP_ev ok 11 [(27, .bool (!r32))] 12 rfl rfl ?_
  refine QP_end _ rfl fun wx35 x36 => ?_
  refine W_cond (!r32) rfl (fun hc37 => ?_) (fun hc37 => ?_)
  ·have H := H.1 hc37
   refine W_seq (W_region ?_)
   refine LP_ev ok 0 [(4, .bool false)] 1 rfl rfl ?_
   refine LP_end _ rfl (W_ret ?_)
   exact ⟨_, Ret_of [.bool false] ⟨⟨rfl, rfl⟩, trivial⟩, _, H, rfl, (X10.stepx x36).ext⟩
  have H := H.2 hc37
  refine W_skip ?_
  refine W_region ?_
  refine LP_ev ok 0 [(28, I (wr (x + 1))), (13, I (wr (x + 1)))] 2 rfl rfl ?_
  exact LP_end _ rfl ⟨wr (x + 1), ⟨H.1, _, env_eq ⟨rfl, rfl, rfl, rfl, trivial⟩, (X10.stepx x36), (ex8.ext x36), (ex9.ext x36)⟩, H.2⟩
 have H := H.2 hc11
 refine W_exit ?_
 refine (if_pos rfl).mpr ?_
 refine W_seq (W_region ?_)
 refine LP_ev ok 0 [(4, .bool true)] 1 rfl rfl ?_
 refine LP_end _ rfl (W_ret ?_)
 exact ⟨_, Ret_of [.bool true] ⟨⟨rfl, rfl⟩, trivial⟩, _, H, rfl, X10.ext⟩

theorem impl_IsImplied_w (sx : List Variable) (l : List Edit) (ex7 : Edit) (Q : Bool → Bool → Prop) (H : impl_IsImplied sx l ex7 Q) (w : World) {vx : Value} {hx : PH} (r : RS hx vx sx) (ex : Sub hx w) {vx1 : Value} {hx2 : PH} (r3 : RS hx2 vx1 l) (ex4 : Sub hx2 w) {vx8 : Value} {hx9 : PH} (r10 : RS hx9 vx8 ex7.Sets) (ex11 : Sub hx9 w) :
  CallsTo Try.prog 15 #[vx, vx1, .agg #[vx8]] w fun v w' => ∃ r0 r1, Q r0 r1 ∧ v = .tuple #[.bool r0, .bool r1] ∧ Ext w w' := by
 obtain ⟨a, c, rfl⟩ := r.shape
 obtain ⟨a5, c6, rfl⟩ := r3.shape
 obtain ⟨a12, c13, rfl⟩ := r10.shape
 refine enter (args := [sl a sx c, sl a5 l c6, .agg #[sl a12 ex7.Sets c13]]) 43 Try.func15 rfl rfl rfl ?_
 refine W_forget [(0, sl a sx c), (1, sl a5 l c6), (2, .agg #[sl a12 ex7.Sets c13])] ⟨rfl, rfl, rfl, trivial⟩ fun ρ => ?_
 have X := But.refl emp w
 refine W_seq (W_region ?_)
 refine LP_box 0 (cs := [sl a12 ex7.Sets c13]) rfl rfl rfl rfl rfl fun b wx x ex14 f => ?_
 refine LP_ev ok 1 [(6, .bool false), (7, .bool false)] 3 rfl rfl ?_
 refine LP_end _ rfl (W_seq ?_)
 have X15 := (X.stepx x)
 have ex16 := (ex.ext x)
 have ex17 := (ex4.ext x)
 have ex18 := (ex11.ext x)
 obtain ⟨k, hk, H⟩ := jn_elim H
 refine W_join2 (S := Bool) (fun s ρ' w' => k s ∧ ∃ (ρ : Env), ρ' = setAll [(0, sl a sx c), (1, sl a5 l c6), (5, pb b), (24, .bool s)] ρ ∧ But emp w w' ∧ Sub hx w' ∧ Sub hx2 w' ∧ Sub hx9 w' ∧ Sub (bx b 33 [sl a12 ex7.Sets c13]) w') ?_ ?_
 ·refine W_region ?_
  refine LP_ev ok 0 [(10, sl a sx c)] 1 rfl rfl ?_
  refine LP_call 1 rfl rfl rfl cal_62 rfl (impl_isSmall_w _ _ H wx r ex16) ?_
  rintro _ wx28 ⟨r27, H, rfl, x29⟩
  refine LP_ev ok 2 [(12, .bool (!r27)), (13, .bool (!r27))] 4 rfl rfl ?_
  refine LP_split 13 (!r27) rfl (fun hc => ?_) (fun hc => ?_)
  ·have H := H.1 hc
   refine LP_ev ok 4 [(14, undef), (15, undef), (16, undef), (17, undef), (18, .bool true), (19, .bool true), (20, undef), (21, undef), (22, undef), (23, undef), (24, .bool true)] 15 rfl rfl ?_
   exact LP_end _ rfl ⟨true, H, _, env_eq ⟨rfl, rfl, rfl, rfl, trivial⟩, (X15.stepx x29), (ex16.ext x29), (ex17.ext x29), (ex18.ext x29), (ex14.ext x29)⟩
  have H := H.2 hc
  refine LP_ev ok 4 [(14, sl a sx c), (15, sl a5 l c6)] 6 rfl rfl ?_
  have ex36 := (ex16.ext x29)
  have ex37 := (ex17.ext x29)
  refine LP_call 6 rfl rfl rfl cal_63 rfl (impl_areEdits_w _ _ _ H wx28 r ex36 r3 ex37) ?_
  rintro _ wx38 ⟨r35, H, rfl, x39⟩
  refine LP_ev ok 7 [(17, .bool (!r35)), (18, .bool (!r35)), (19, .bool (!r35))] 10 rfl rfl ?_
  refine LP_split 19 (!r35) rfl (fun hc40 => ?_) (fun hc40 => ?_)
  ·have H := H.1 hc40
   refine LP_ev ok 10 [(20, undef), (21, undef), (22, undef), (23, undef), (24, .bool true)] 15 rfl rfl ?_
   refine LP_end _ rfl ?_
   have xc := (x29.trans x39)
   exact ⟨true, H, _, env_eq ⟨rfl, rfl, rfl, rfl, trivial⟩, (X15.stepx xc), (ex36.ext x39), (ex37.ext x39), (ex18.ext xc), (ex14.ext xc)⟩
  have H := H.2 hc40
  refine LP_ev ok 10 [(20, sl a sx c)] 11 rfl rfl ?_
  have xc46 := (x29.trans x39)
  have ex47 := (ex14.ext xc46)
  refine LP_ldbox 11 (v := .agg #[sl a12 ex7.Sets c13]) rfl rfl rfl ti_33 ag_33 (fun h => by cases h) rfl ex47 rfl rfl ?_
  have ex49 := (ex36.ext x39)
  have ex50 := (ex18.ext xc46)
  refine LP_call 12 rfl rfl rfl cal_67 rfl (impl_isEdit_w _ _ _ H wx38 r ex49 r10 ex50) ?_
  rintro _ wx51 ⟨r48, H, rfl, x52⟩
  refine LP_ev ok 13 [(23, .bool (!r48)), (24, .bool (!r48))] 15 rfl rfl ?_
  exact LP_end _ rfl ⟨!r48, H, _, env_eq ⟨rfl, rfl, rfl, rfl, trivial⟩, (X15.stepx (xc46.trans x52)), (ex49.ext x52), (ex37.ext (x39.trans x52)), (ex50.ext x52), (ex47.ext x52)⟩
 rintro x20 _ wx21 ⟨H, ρ, rfl, HF⟩
 revert HF
 refine bb5 fun X26 ex22 ex23 ex24 ex25 => ?_
 subst hk
 refine W_cond (x20) rfl (fun hc60 => ?_) (fun hc60 => ?_)
 ·have H := H.1 hc60
  refine W_seq (W_region ?_)
  refine LP_ev ok 0 [(6, .bool false), (7, .bool false)] 2 rfl rfl ?_
  refine LP_end _ rfl (W_ret ?_)
  exact ⟨_, Ret_of [.bool false, .bool false] ⟨⟨rfl, rfl⟩, ⟨rfl, rfl⟩, trivial⟩, _, _, H, rfl, X26.ext⟩
 have H := H.2 hc60
 refine W_skip ?_
 refine W_seq ?_
 refine W_seq (W_region ?_)
 refine LP_ev ok 0 [(25, sl a sx c)] 1 rfl rfl ?_
 refine LP_call 1 rfl rfl rfl cal_68 rfl (impl_combinations_w _ _ H wx21 r ex22) ?_
 rintro _ wx62 ⟨r61, H, rfl, x63⟩
 refine LP_ev ok 2 [(27, I 0)] 3 rfl rfl ?_
 refine LP_end _ rfl ?_
 refine W_block ?_
 obtain ⟨J, m, Hx, H⟩ := H
 refine W_loop (S := Int) (fun s ρ' w' => J s ∧ ∃ (ρ : Env), ρ' = setAll [(0, sl a sx c), (1, sl a5 l c6), (5, pb b), (26, I r61), (27, I s)] ρ ∧ But emp w w' ∧ Sub hx w' ∧ Sub hx2 w' ∧ Sub hx9 w' ∧ Sub (bx b 33 [sl a12 ex7.Sets c13]) w') (fun s => m s) 0 ⟨Hx, _, env_eq ⟨rfl, rfl, rfl, rfl, rfl, trivial⟩, (X26.stepx x63), (ex22.ext x63), (ex23.ext x63), (ex24.ext x63), (ex25.ext x63)⟩ ?_
 rintro x64 _ wx65 ⟨Hi, ρ, rfl, HF⟩
 revert HF
 refine bb5 fun X70 ex66 ex67 ex68 ex69 => ?_
 have H := H x64 Hi
 refine W_seq (W_region ?_)
 refine LP_ev ok 0 [(28, .bool (decide (x64 < r61)))] 1 rfl rfl ?_
 refine LP_end _ rfl (W_seq ?_)
 refine W_cond (decide (x64 < r61)) rfl (fun hc76 => ?_) (fun hc76 => ?_)
 ·have H := H.1 hc76
  refine W_skip ?_
  refine W_seq ?_
  refine W_block ?_
  refine W_seq (W_region ?_)
  refine LP_ev ok 0 [(29, I x64), (8, I x64)] 2 rfl rfl ?_
  refine LP_end _ rfl (W_seq (W_region ?_))
  refine LP_ev ok 0 [(30, sl a sx c), (31, I x64)] 2 rfl rfl ?_
  refine LP_call 2 rfl rfl rfl cal_69 rfl (impl_valuesAt_w _ _ _ H wx65 r ex66) ?_
  rintro _ wx78 ⟨r77, vx80, hx81, H, rfl, x79, o, ex82, f83⟩
  obtain ⟨a84, c85, rfl⟩ := o.shape
  refine LP_ev ok 3 [(9, sl a84 r77 c85)] 4 rfl rfl ?_
  refine LP_end _ rfl ?_
  have X86 := (X70.stepx x79)
  have ex87 := (ex66.ext x79)
  have ex88 := (ex67.ext x79)
  have ex89 := (ex68.ext x79)
  have ex90 := (ex69.ext x79)
  obtain ⟨k99, hk100, H⟩ := jn_elim H
  refine W_join2 (S := Bool) (fun s ρ' w' => k99 s ∧ ∃ (ρ : Env), ρ' = setAll [(0, sl a sx c), (1, sl a5 l c6), (5, pb b), (26, I r61), (27, I x64), (41, .bool s)] ρ ∧ But emp w w' ∧ Sub hx w' ∧ Sub hx2 w' ∧ Sub hx9 w' ∧ Sub (bx b 33 [sl a12 ex7.Sets c13]) w') ?_ ?_
  ·refine W_region ?_
   refine LP_ldbox 0 (v := .agg #[sl a12 ex7.Sets c13]) rfl rfl rfl ti_33 ag_33 (fun h => by cases h) rfl ex90 rfl rfl ?_
   refine LP_ev ok 1 [(34, sl a84 r77 c85)] 2 rfl rfl ?_
   refine LP_call 2 rfl rfl rfl cal_70 rfl (impl_fails_w _ _ _ H wx78 r10 ex89 o.readf ex82) ?_
   rintro _ wx102 ⟨r101, H, rfl, x103⟩
   refine LP_ev ok 3 [(36, .bool r101)] 4 rfl rfl ?_
   refine LP_split 36 (r101) rfl (fun hc104 => ?_) (fun hc104 => ?_)
   ·have H := H.1 hc104
    refine LP_ev ok 4 [(37, sl a5 l c6), (38, sl a84 r77 c85)] 6 rfl rfl ?_
    have ex106 := (ex88.ext x103)
    refine LP_call 6 rfl rfl rfl cal_71 rfl (impl_failsOne_w _ _ _ H wx102 r3 ex106 o.readf (ex82.ext x103)) ?_
    rintro _ wx108 ⟨r105, H, rfl, x109⟩
    refine LP_ev ok 7 [(40, .bool (!r105)), (41, .bool (!r105))] 9 rfl rfl ?_
    refine LP_end _ rfl ?_
    have xc110 := (x103.trans x109)
    exact ⟨!r105, H, _, env_eq ⟨rfl, rfl, rfl, rfl, rfl, rfl, trivial⟩, (X86.stepx xc110), (ex87.ext xc110), (ex106.ext x109), (ex89.ext xc110), (ex90.ext xc110)⟩
   have H := H.2 hc104
   refine LP_ev ok 4 [(37, undef), (38, undef), (39, undef), (40, undef), (41, .bool false)] 9 rfl rfl ?_
   exact LP_end _ rfl ⟨false, H, _, env_eq ⟨rfl, rfl, rfl, rfl, rfl, rfl, trivial⟩, (X86.stepx x103), (ex87.ext x103), (ex88.ext x103), (ex89.ext x103), (ex90.ext x103)⟩
  rintro x92 _ wx93 ⟨H, ρ, rfl, HF⟩
  revert HF
  refine bb5 fun X98 ex94 ex95 ex96 ex97 => ?_
  subst hk100
  refine W_cond (x92) rfl (fun hc121 => ?_) (fun hc121 => ?_)
  ·have H := H.1 hc121
   refine W_seq (W_region ?_)
   refine LP_ev ok 0 [(6, .bool false), (7, .bool true)] 2 rfl rfl ?_
   refine LP_end _ rfl (W_ret ?_)
   exact ⟨_, Ret_of [.bool false, .bool true] ⟨⟨rfl, rfl⟩, ⟨rfl, rfl⟩, trivial⟩, _, _, H, rfl, X98.ext⟩
  have H := H.2 hc121
  refine W_skip ?_
  refine W_region ?_
  refine LP_ev ok 0 [(42, I (wr (x64 + 1))), (27, I (wr (x64 + 1)))] 2 rfl rfl ?_
  exact LP_end _ rfl ⟨wr (x64 + 1), ⟨H.1, _, env_eq ⟨rfl, rfl, rfl, rfl, rfl, trivial⟩, X98, ex94, ex95, ex96, ex97⟩, H.2⟩
 have H := H.2 hc76
 refine W_exit ?_
 refine (if_pos rfl).mpr ?_
 refine W_seq (W_region ?_)
 refine LP_ev ok 0 [(6, .bool true), (7, .bool true)] 2 rfl rfl ?_
 refine LP_end _ rfl (W_ret ?_)
 exact ⟨_, Ret_of [.bool true, .bool true] ⟨⟨rfl, rfl⟩, ⟨rfl, rfl⟩, trivial⟩, _, _, H, rfl, X70.ext⟩

theorem spec_DrawContainsEdit_w (code : List B8) (Q : (List Variable) → Edit → Edit → Prop) (H : spec_DrawContainsEdit code Q) (w : World) {vx : Value} {hx : PH} (r : RS hx vx code) (ex : Sub hx w) :
  CallsTo Try.prog 72 #[vx] w fun v w' => ∃ r0 r1 r2 u0 g0 u1_0 g1_0 u2_0 g2_0, Q r0 r1 r2 ∧ v = .tuple #[u0, .agg #[u1_0], .agg #[u2_0]] ∧ Ext w w' ∧ OS 167 g0 emp u0 r0 ∧ Sub g0 w' ∧ Fresh w.heap.size g0 ∧ OS 3 g1_0 emp u1_0 r1.Sets ∧ Sub g1_0 w' ∧ Fresh w.heap.size g1_0 ∧ OS 3 g2_0 emp u2_0 r2.Sets ∧ Sub g2_0 w' ∧ Fresh w.heap.size g2_0 ∧ Dj g0 g1_0 ∧ Dj g0 g2_0 ∧ Dj g1_0 g2_0 := by
 obtain ⟨a, c, rfl⟩ := r.shape
 refine enter (args := [sl a code c]) 71 Try.func72 rfl rfl rfl ?_
 refine W_forget [(0, sl a code c)] ⟨rfl, trivial⟩ fun ρ => ?_
 have X := But.refl emp w
 refine W_seq (W_region ?_)
 refine LP_ev ok 0 [(2, .slice none 0 0)] 1 rfl rfl ?_
 refine LP_alloc 1 rfl rfl rfl ti_33 rfl fun b wx x ex1 f => ?_
 refine LP_alloc 2 rfl rfl rfl ti_33 rfl fun b2 wx3 x4 ex5 f6 => ?_
 refine LP_end _ rfl (W_seq (W_region ?_))
 refine LP_ev ok 0 [(10, sl a code c), (11, .agg #[sl a code c, I 0, .int .u64 0])] 2 rfl rfl ?_
 refine LP_box 2 (cs := [sl a code c, I 0, .int .u64 0]) rfl rfl rfl rfl rfl fun b7 wx8 x9 ex10 f11 => ?_
 refine LP_ev ok 3 [(5, pb b7)] 4 rfl rfl ?_
 refine LP_end _ rfl (W_seq (W_region ?_))
 refine LP_ev ok 0 [(13, pb b7)] 1 rfl rfl ?_
 have xc := (x.trans x4)
 have ex12 := (ex.ext xc)
 have ex16 := (ex12.ext x9)
 refine LP_call 1 rfl rfl rfl cal_135 rfl (spec_l1Cur_anySchema_w _ _ H wx8 r ex16 ex10 (Dj.of_fresh ex12 f11).symm) ?_
 rintro _ wx17 ⟨r13, r14, r15, vx19, hx20, H, rfl, x18, HF⟩
 revert HF
 refine bb5 fun o ex21 f22 ex23 d => ?_
 obtain ⟨a24, c25, rfl⟩ := o.shape
 refine LP_ev ok 2 [(6, sl a24 r13 c25)] 3 rfl rfl ?_
 refine LP_end _ rfl (W_seq (W_region ?_))
 refine LP_ev ok 0 [(15, pb b7), (16, sl a24 r13 c25)] 2 rfl rfl ?_
 have ex29 := (ex16.but x18 (Dj.of_fresh ex12 f11).symm)
 refine LP_call 2 rfl rfl rfl cal_146 rfl (spec_l1Cur_anyEdit_w _ _ _ H wx17 r ex29 ex23 o.readf ex21 (Dj.box (Dj.of_fresh ex12 f11).symm) d.symm) ?_
 rintro _ wx30 ⟨r26, r27, r28, vx32, hx33, H, rfl, x31, HF⟩
 revert HF
 refine bb5 fun o34 ex35 f36 ex37 d38 => ?_
 obtain ⟨a39, c40, rfl⟩ := o34.shape
 refine LP_ev ok 3 [(18, pb b7), (19, sl a24 r13 c25)] 5 rfl rfl ?_
 have ex44 := (ex29.but x31 (Dj.box (Dj.of_fresh ex12 f11).symm))
 have ex45 := (ex21.but x31 d.symm)
 refine LP_call 5 rfl rfl rfl cal_146 rfl (spec_l1Cur_anyEdit_w _ _ _ H wx30 r ex44 ex37 o.readf ex45 (Dj.box (Dj.of_fresh ex12 f11).symm) (Dj.box d.symm)) ?_
 rintro _ wx46 ⟨r41, r42, r43, vx48, hx49, H, rfl, x47, HF⟩
 revert HF
 refine bb5 fun o50 ex51 f52 ex53 d54 => ?_
 obtain ⟨a55, c56, rfl⟩ := o50.shape
 refine LP_alloc 6 rfl rfl rfl ti_33 rfl fun b57 wx58 x59 ex60 f61 => ?_
 refine LP_alloc 7 rfl rfl rfl ti_33 rfl fun b62 wx63 x64 ex65 f66 => ?_
 refine LP_stbox 8 (vs := [sl a39 r26.Sets c40]) (cs' := [sl a39 r26.Sets c40]) rfl rfl rfl ti_33 rfl rfl rfl rfl rfl (ex60.ext x64) rfl rfl fun wx67 ex68 y => ?_
 refine LP_stbox 9 (vs := [sl a55 r41.Sets c56]) (cs' := [sl a55 r41.Sets c56]) rfl rfl rfl ti_33 rfl rfl rfl rfl rfl (ex65.but y (Dj.of_fresh ex60 f66)) rfl rfl fun wx70 ex71 y72 => ?_
 refine LP_end _ rfl ?_
 have X76 := (X.stepx xc)
 have f75 := f11.mono X76.size
 have xc77 := (x59.trans x64)
 have X79 := ((((X76.stepx x9).step x18 (f75.dom _)).step x31 ((Fresh.box f75).dom _)).step x47 ((Fresh.box f75).dom _))
 have f78 := f61.mono X79.size
 have f80 := f66.mono (X79.stepx x59).size
 have X82 := (((((((X.stepx (xc.trans x9)).step x18 (f75.dom _)).step x31 ((Fresh.box f75).dom _)).step x47 ((Fresh.box f75).dom _)).stepx xc77).step y (f78.dom _)).step y72 (f80.dom _))
 have ex83 := (ex44.but x47 (Dj.box (Dj.of_fresh ex12 f11).symm))
 have ex87 := (ex1.ext x4)
 have ex88 := ((((ex87.ext x9).but x18 (Dj.of_fresh ex87 f11).symm).but x31 (Dj.box (Dj.of_fresh ex87 f11).symm)).but x47 (Dj.box (Dj.of_fresh ex87 f11).symm))
 have ex89 := (ex88.ext x59)
 have ex90 := (((((((ex1.ext (x4.trans x9)).but x18 (Dj.of_fresh ex87 f11).symm).but x31 (Dj.box (Dj.of_fresh ex87 f11).symm)).but x47 (Dj.box (Dj.of_fresh ex87 f11).symm)).ext xc77).but y (Dj.of_fresh ex88 f61).symm).but y72 (Dj.of_fresh ex89 f66).symm)
 have f91 := f.mono X.size
 have ex92 := ((((ex5.ext x9).but x18 (Dj.of_fresh ex5 f11).symm).but x31 (Dj.box (Dj.of_fresh ex5 f11).symm)).but x47 (Dj.box (Dj.of_fresh ex5 f11).symm))
 have ex94 := (((((((ex5.ext x9).but x18 (Dj.of_fresh ex5 f11).symm).but x31 (Dj.box (Dj.of_fresh ex5 f11).symm)).but x47 (Dj.box (Dj.of_fresh ex5 f11).symm)).ext xc77).but y (Dj.of_fresh ex92 f61).symm).but y72 (Dj.of_fresh (ex92.ext x59) f66).symm)
 have f95 := f6.mono (X.stepx x).size
 have ex97 := (ex53.ext x59)
 have ex99 := (ex45.but x47 (Dj.box d.symm))
 have ex101 := ((((ex45.but x47 (Dj.box d.symm)).ext xc77).but y (Dj.of_fresh ex99 f61).symm).but y72 (Dj.of_fresh (ex99.ext x59) f66).symm)
 have X103 := (X76.stepx x9)
 have f102 := f22.mono X103.size
 have ex104 := (ex35.but x47 d38.symm)
 have ex106 := ((((ex35.but x47 d38.symm).ext xc77).but y (Dj.of_fresh ex104 f61).symm).but y72 (Dj.of_fresh (ex104.ext x59) f66).symm)
 have X108 := (X103.step x18 (f75.dom _))
 have f107 := f36.mono X108.size
 have ex109 := (ex51.ext x59)
 have ex110 := (((ex51.ext xc77).but y (Dj.of_fresh ex51 f61).symm).but y72 (Dj.of_fresh ex109 f66).symm)
 have f111 := f52.mono (X108.step x31 ((Fresh.box f75).dom _)).size
 have ex113 := (ex68.but y72 (Dj.box (Dj.of_fresh ex60 f66).symm.symm).symm)
 obtain ⟨k, hk, H⟩ := jn_elim H
 refine W_join2 (S := (List Int)) (fun s ρ' w' => k s ∧ ∃ (ρ : Env) (hx115 : PH), ρ' = setAll [(3, pb b), (4, pb b2), (6, sl a24 r13 c25), (7, pb b57), (8, pb b62)] ρ ∧ But emp w w' ∧ OS 3 hx115 emp (sl a55 r41.Sets c56) s ∧ Sub hx115 w' ∧ Fresh w.heap.size hx115 ∧ Sub (bx b 33 [.slice none 0 0]) w' ∧ Sub (bx b2 33 [.slice none 0 0]) w' ∧ Sub hx20 w' ∧ Sub hx33 w' ∧ Sub (bx b57 33 [sl a39 r26.Sets c40]) w' ∧ Sub (bx b62 33 [sl a55 r41.Sets c56]) w' ∧ Dj hx115 (bx b 33 [.slice none 0 0]) ∧ Dj hx115 (bx b2 33 [.slice none 0 0]) ∧ Dj hx115 hx20 ∧ Dj hx115 hx33 ∧ Dj hx115 (bx b57 33 [sl a39 r26.Sets c40]) ∧ Dj hx115 (bx b62 33 [sl a55 r41.Sets c56])) ?_ ?_
 ·obtain ⟨k143, hk144, H⟩ := jn_elim H
  refine W_join2 (S := Bool) (fun s ρ' w' => k143 s ∧ ∃ (ρ : Env), ρ' = setAll [(3, pb b), (4, pb b2), (6, sl a24 r13 c25), (7, pb b57), (8, pb b62), (36, .bool s)] ρ ∧ But emp w w' ∧ Sub (bx b 33 [.slice none 0 0]) w' ∧ Sub (bx b2 33 [.slice none 0 0]) w' ∧ Sub hx20 w' ∧ Sub hx33 w' ∧ Sub hx49 w' ∧ Sub (bx b57 33 [sl a39 r26.Sets c40]) w' ∧ Sub (bx b62 33 [sl a55 r41.Sets c56]) w') ?_ ?_
  ·refine W_region ?_
   refine LP_ev ok 0 [(21, pb b7)] 1 rfl rfl ?_
   refine LP_call 1 rfl rfl rfl cal_147 rfl (spec_l1Cur_one_w _ _ _ H wx70 r ((((ex44.but x47 (Dj.box (Dj.of_fresh ex12 f11).symm)).ext xc77).but y (Dj.of_fresh ex83 f61).symm).but y72 (Dj.of_fresh (ex83.ext x59) f66).symm) (((ex53.ext xc77).but y (Dj.of_fresh ex53 f61).symm).but y72 (Dj.of_fresh ex97 f66).symm) (Dj.box (Dj.of_fresh ex12 f11).symm)) ?_
   rintro _ wx148 ⟨r145, r146, r147, H, rfl, x149, ex150⟩
   refine LP_ev ok 2 [(23, .bool r145)] 3 rfl rfl ?_
   refine LP_split 23 (r145) rfl (fun hc => ?_) (fun hc => ?_)
   ·have H := H.1 hc
    refine LP_ev ok 3 [(24, sl a24 r13 c25)] 4 rfl rfl ?_
    have ex152 := (ex101.but x149 (Dj.box d.symm))
    refine LP_call 4 rfl rfl rfl cal_120 rfl (spec_sGood_w _ _ H wx148 o.readf ex152) ?_
    rintro _ wx153 ⟨r151, H, rfl, x154⟩
    refine LP_ev ok 5 [(26, .bool r151), (27, .bool r151)] 7 rfl rfl ?_
    refine LP_split 27 (r151) rfl (fun hc155 => ?_) (fun hc155 => ?_)
    ·have H := H.1 hc155
     refine LP_ev ok 7 [(28, sl a24 r13 c25)] 8 rfl rfl ?_
     have ex156 := ((ex113.but x149 (Dj.box (Dj.of_fresh ex53 f61).symm).symm).ext x154)
     refine LP_ldbox 8 (v := .agg #[sl a39 r26.Sets c40]) rfl rfl rfl ti_33 ag_33 (fun h => by cases h) rfl ex156 rfl rfl ?_
     have ex158 := (ex152.ext x154)
     have ex159 := ((ex106.but x149 (Dj.box d38.symm)).ext x154)
     refine LP_call 9 rfl rfl rfl cal_77 rfl (spec_eGood_w _ _ _ H wx153 o.readf ex158 o34.readf ex159) ?_
     rintro _ wx160 ⟨r157, H, rfl, x161⟩
     refine LP_ev ok 10 [(31, .bool r157), (32, .bool r157)] 12 rfl rfl ?_
     refine LP_split 32 (r157) rfl (fun hc162 => ?_) (fun hc162 => ?_)
     ·have H := H.1 hc162
      refine LP_ev ok 12 [(33, sl a24 r13 c25)] 13 rfl rfl ?_
      have xc163 := (x154.trans x161)
      have ex164 := ((ex71.but x149 (Dj.box (Dj.of_fresh ex97 f66).symm).symm).ext xc163)
      refine LP_ldbox 13 (v := .agg #[sl a55 r41.Sets c56]) rfl rfl rfl ti_33 ag_33 (fun h => by cases h) rfl ex164 rfl rfl ?_
      have ex166 := (ex158.ext x161)
      have ex167 := ((ex110.but x149 d54.symm).ext xc163)
      refine LP_call 14 rfl rfl rfl cal_77 rfl (spec_eGood_w _ _ _ H wx160 o.readf ex166 o50.readf ex167) ?_
      rintro _ wx168 ⟨r165, H, rfl, x169⟩
      refine LP_ev ok 15 [(36, .bool r165)] 16 rfl rfl ?_
      refine LP_end _ rfl ?_
      try refine W_forget [(3, pb b), (4, pb b2), (6, sl a24 r13 c25), (7, pb b57), (8, pb b62), (36, .bool r165)] ⟨rfl, rfl, rfl, rfl, rfl, rfl, trivial⟩ fun ρ => ?_
      have xc170 := (xc163.trans x169)
      have xc175 := (x161.trans x169)
      exact ⟨r165, H, _, env_eq ⟨rfl, rfl, rfl, rfl, rfl, rfl, trivial⟩, ((X82.step x149 ((Fresh.box f75).dom _)).stepx xc170), ((ex90.but x149 (Dj.box (Dj.of_fresh ex87 f11).symm)).ext xc170), ((ex94.but x149 (Dj.box (Dj.of_fresh ex5 f11).symm)).ext xc170), (ex166.ext x169), (ex159.ext xc175), (ex167.ext x169), (ex156.ext xc175), (ex164.ext x169)⟩
     have H := H.2 hc162
     refine LP_ev ok 12 [(33, undef), (34, undef), (35, undef), (36, .bool false)] 16 rfl rfl ?_
     refine LP_end _ rfl ?_
     try refine W_forget [(3, pb b), (4, pb b2), (6, sl a24 r13 c25), (7, pb b57), (8, pb b62), (36, .bool false)] ⟨rfl, rfl, rfl, rfl, rfl, rfl, trivial⟩ fun ρ => ?_
     have xc180 := (x154.trans x161)
     exact ⟨false, H, _, env_eq ⟨rfl, rfl, rfl, rfl, rfl, rfl, trivial⟩, ((X82.step x149 ((Fresh.box f75).dom _)).stepx xc180), ((ex90.but x149 (Dj.box (Dj.of_fresh ex87 f11).symm)).ext xc180), ((ex94.but x149 (Dj.box (Dj.of_fresh ex5 f11).symm)).ext xc180), (ex158.ext x161), (ex159.ext x161), ((ex110.but x149 d54.symm).ext xc180), (ex156.ext x161), ((ex71.but x149 (Dj.box (Dj.of_fresh ex97 f66).symm).symm).ext xc180)⟩
    have H := H.2 hc155
    refine LP_ev ok 7 [(28, undef), (29, undef), (30, undef), (31, .bool false), (32, .bool false), (33, undef), (34, undef), (35, undef), (36, .bool false)] 16 rfl rfl ?_
    refine LP_end _ rfl ?_
    try refine W_forget [(3, pb b), (4, pb b2), (6, sl a24 r13 c25), (7, pb b57), (8, pb b62), (36, .bool false)] ⟨rfl, rfl, rfl, rfl, rfl, rfl, trivial⟩ fun ρ => ?_
    exact ⟨false, H, _, env_eq ⟨rfl, rfl, rfl, rfl, rfl, rfl, trivial⟩, ((X82.step x149 ((Fresh.box f75).dom _)).stepx x154), ((ex90.but x149 (Dj.box (Dj.of_fresh ex87 f11).symm)).ext x154), ((ex94.but x149 (Dj.box (Dj.of_fresh ex5 f11).symm)).ext x154), (ex152.ext x154), ((ex106.but x149 (Dj.box d38.symm)).ext x154), ((ex110.but x149 d54.symm).ext x154), ((ex113.but x149 (Dj.box (Dj.of_fresh ex53 f61).symm).symm).ext x154), ((ex71.but x149 (Dj.box (Dj.of_fresh ex97 f66).symm).symm).ext x154)⟩
   have H := H.2 hc
   refine LP_ev ok 3 [(24, undef), (25, undef), (26, .bool false), (27, .bool false), (28, undef), (29, undef), (30, undef), (31, .bool false), (32, .bool false), (33, undef), (34, undef), (35, undef), (36, .bool false)] 16 rfl rfl ?_
   refine LP_end _ rfl ?_
   try refine W_forget [(3, pb b), (4, pb b2), (6, sl a24 r13 c25), (7, pb b57), (8, pb b62), (36, .bool false)] ⟨rfl, rfl, rfl, rfl, rfl, rfl, trivial⟩ fun ρ => ?_
   exact ⟨false, H, _, env_eq ⟨rfl, rfl, rfl, rfl, rfl, rfl, trivial⟩, (X82.step x149 ((Fresh.box f75).dom _)), (ex90.but x149 (Dj.box (Dj.of_fresh ex87 f11).symm)), (ex94.but x149 (Dj.box (Dj.of_fresh ex5 f11).symm)), (ex101.but x149 (Dj.box d.symm)), (ex106.but x149 (Dj.box d38.symm)), (ex110.but x149 d54.symm), (ex113.but x149 (Dj.box (Dj.of_fresh ex53 f61).symm).symm), (ex71.but x149 (Dj.box (Dj.of_fresh ex97 f66).symm).symm)⟩
  rintro x133 _ wx134 ⟨H, ρ, rfl, HF⟩
  revert HF
  refine bb8 fun X142 ex135 ex136 ex137 ex138 ex139 ex140 ex141 => ?_
  subst hk144
  refine W_cond (x133) rfl (fun hc205 => ?_) (fun hc205 => ?_)
  ·have H := H.1 hc205
   refine W_seq (W_region ?_)
   refine LP_ev ok 0 [(37, pb b62)] 1 rfl rfl ?_
   refine LP_ldbox 1 (v := sl a55 r41.Sets c56) rfl rfl rfl ti_31 ag_31 (fun _ => rfl) rfl ex141 rfl rfl ?_
   refine LP_ev ok 2 [(39, I (ln r41.Sets)), (40, I 0)] 4 rfl rfl ?_
   refine LP_end _ rfl ?_
   refine W_block ?_
   obtain ⟨J, m, Hx, H⟩ := H
   refine W_loop (S := Int × (List Int)) (fun s ρ' w' => J s.1 s.2 ∧ ∃ (ρ : Env) (hx209 : PH), ρ' = setAll [(3, pb b), (4, pb b2), (6, sl a24 r13 c25), (7, pb b57), (8, pb b62), (39, I (ln r41.Sets)), (40, I s.1)] ρ ∧ But emp w w' ∧ OS 3 hx209 emp (sl a55 r41.Sets c56) s.2 ∧ Sub hx209 w' ∧ Fresh w.heap.size hx209 ∧ Sub (bx b 33 [.slice none 0 0]) w' ∧ Sub (bx b2 33 [.slice none 0 0]) w' ∧ Sub hx20 w' ∧ Sub hx33 w' ∧ Sub (bx b57 33 [sl a39 r26.Sets c40]) w' ∧ Sub (bx b62 33 [sl a55 r41.Sets c56]) w' ∧ Dj hx209 (bx b 33 [.slice none 0 0]) ∧ Dj hx209 (bx b2 33 [.slice none 0 0]) ∧ Dj hx209 hx20 ∧ Dj hx209 hx33 ∧ Dj hx209 (bx b57 33 [sl a39 r26.Sets c40]) ∧ Dj hx209 (bx b62 33 [sl a55 r41.Sets c56])) (fun s => m s.1 s.2) (0, r41.Sets) ⟨Hx, _, hx49, env_eq ⟨rfl, rfl, rfl, rfl, rfl, rfl, rfl, trivial⟩, X142, o50, ex139, f111, ex135, ex136, ex137, ex138, ex140, ex141, (Dj.of_fresh (((ex87.ext x9).but x18 (Dj.of_fresh ex87 f11).symm).but x31 (Dj.box (Dj.of_fresh ex87 f11).symm)) f52).symm, (Dj.of_fresh (((ex5.ext x9).but x18 (Dj.of_fresh ex5 f11).symm).but x31 (Dj.box (Dj.of_fresh ex5 f11).symm)) f52).symm, (Dj.of_fresh ex45 f52).symm, (Dj.of_fresh ex35 f52).symm, (Dj.box (Dj.of_fresh ex51 f61).symm).symm, (Dj.box (Dj.of_fresh ex109 f66).symm).symm⟩ ?_
   rintro ⟨x206, sets207⟩ _ wx213 ⟨Hi, ρ, hx209, rfl, HF⟩
   revert HF
   refine bb9 fun X226 o210 ex211 f212 ex214 ex215 ex216 ex217 => ?_
   refine bb8 fun ex218 ex219 d220 d221 d222 d223 d224 d225 => ?_
   have H := H x206 sets207 Hi
   refine W_seq (W_region ?_)
   refine LP_ev ok 0 [(41, .bool (decide (x206 < (ln r41.Sets))))] 1 rfl rfl ?_
   refine LP_end _ rfl (W_seq ?_)
   refine W_cond (decide (x206 < (ln r41.Sets))) rfl (fun hc229 => ?_) (fun hc229 => ?_)
   ·have H := H.1 hc229
    refine W_skip ?_
    obtain ⟨k250, hk251, H⟩ := jn_elim H
    refine W_join2 (S := (List Int)) (fun s ρ' w' => k250 s ∧ ∃ (ρ : Env) (hx232 : PH), ρ' = setAll [(3, pb b), (4, pb b2), (6, sl a24 r13 c25), (7, pb b57), (8, pb b62), (39, I (ln r41.Sets)), (40, I x206)] ρ ∧ But emp w w' ∧ OS 3 hx232 emp (sl a55 r41.Sets c56) s ∧ Sub hx232 w' ∧ Fresh w.heap.size hx232 ∧ Sub (bx b 33 [.slice none 0 0]) w' ∧ Sub (bx b2 33 [.slice none 0 0]) w' ∧ Sub hx20 w' ∧ Sub hx33 w' ∧ Sub (bx b57 33 [sl a39 r26.Sets c40]) w' ∧ Sub (bx b62 33 [sl a55 r41.Sets c56]) w' ∧ Dj hx232 (bx b 33 [.slice none 0 0]) ∧ Dj hx232 (bx b2 33 [.slice none 0 0]) ∧ Dj hx232 hx20 ∧ Dj hx232 hx33 ∧ Dj hx232 (bx b57 33 [sl a39 r26.Sets c40]) ∧ Dj hx232 (bx b62 33 [sl a55 r41.Sets c56])) ?_ ?_
    ·refine W_block ?_
     refine W_seq (W_region ?_)
     refine LP_ev ok 0 [(42, I x206), (9, I x206)] 2 rfl rfl ?_
     refine LP_end _ rfl (W_seq ?_)
     refine W_quiet mix (by kernel_rfl) ?_
     refine QP_ev ok 0 [(43, pb b62)] 1 rfl rfl ?_
     refine QP_ldbox 1 (v := sl a55 r41.Sets c56) rfl rfl rfl ti_31 ag_31 (fun _ => rfl) rfl ex219 rfl rfl ?_
     refine QP_ev ok 2 [(45, I x206)] 3 rfl rfl ?_
     obtain ⟨x252, hi, hx253, H⟩ := H
     refine QP_index 3 rfl rfl rfl Try.underlying31 ti_3 rfl rfl o210.readf hi hx253 fun a254 cs r255 d256 => ?_
     refine QP_load 4 rfl rfl rfl ti_3 ag_3 rfl r255 d256 ex211 fun vx257 r258 => ?_
     obtain rfl := r258.int
     refine QP_ev ok 5 [(48, pb b57)] 6 rfl rfl ?_
     refine QP_ldbox 6 (v := sl a39 r26.Sets c40) rfl rfl rfl ti_31 ag_31 (fun _ => rfl) rfl ex218 rfl rfl ?_
     refine QP_ev ok 7 [(50, I x206)] 8 rfl rfl ?_
     obtain ⟨x259, hi260, hx261, H⟩ := H
     refine QP_index 8 rfl rfl rfl Try.underlying31 ti_3 rfl rfl o34.readf hi260 hx261 fun a262 cs263 r264 d265 => ?_
     refine QP_load 9 rfl rfl rfl ti_3 ag_3 rfl r264 d265 ex217 fun vx266 r267 => ?_
     obtain rfl := r267.int
     refine QP_ev ok 10 [(53, I (bits .and .i64 x252 x259)), (54, .bool (decide ((bits .and .i64 x252 x259) > 0)))] 12 rfl rfl ?_
     refine QP_end _ rfl fun wx268 x269 => ?_
     refine W_cond (decide ((bits .and .i64 x252 x259) > 0)) rfl (fun hc270 => ?_) (fun hc270 => ?_)
     ·have H := H.1 hc270
      refine W_open mix fun wx271 x272 => ?_
      refine AP_game 10 [[], [0], [], [0, 1, 2], [0, 1, 2, 3], [], [5], [], [5, 6, 7], [5, 6, 7, 8], [0, 1, 2, 3, 4, 5, 6, 7, 8, 9], [0, 1, 2, 3, 4, 5, 6, 7, 8, 9, 10], [0, 1, 2, 3, 4, 5, 6, 7, 8, 9, 10, 11]] [[(8, none)], [(55, some 0)], [(9, none)], [(56, some 1), (57, some 2)], [(58, some 3)], [(7, none)], [(60, some 5)], [(9, none)], [(61, some 6), (62, some 7)], [(63, some 8)]] [(3, none), (4, none), (6, none), (7, none), (8, none), (39, none), (40, none), (56, some 1), (57, some 2), (59, some 4), (64, some 9)] [(0, false), (1, false), (2, false), (3, false), (4, false), (5, false), (6, false), (7, false), (8, false), (9, false)] (by kernel_rfl) (by kernel_rfl) ?_
      refine GS_ev ok [(8, pb b62)] (pb b62) rfl rfl (fun _ h => h) (fun _ => rfl) ?_
      have xc273 := (x269.trans x272)
      have ex274 := (ex219.ext xc273)
      refine GS_r1 [(55, pb b62)] (sl a55 r41.Sets c56) rfl rfl (fun _ h => h) (fun _ w e => ex_ldbox rfl ti_31 ag_31 (fun _ => rfl) rfl e rfl rfl) ex274 ?_
      refine GS_ev ok [(9, I x206)] (I x206) rfl rfl (fun _ h => h) (fun _ => rfl) ?_
      obtain ⟨x275, hi276, hx277, H⟩ := H
      obtain ⟨a278, cs279, hx282, r280, d281⟩ := run_indexAt Try.underlying31 ti_3 o210.readf .i64 _ x275 hi276 hx277
      refine GS_r0 [(56, sl a55 r41.Sets c56), (57, I x206)] (.pointer (some a278)) rfl rfl (fun _ h => h) (fun _ _ => ex_index rfl rfl rfl (hx282 _)) ?_
      obtain ⟨vx283, hx285, r284⟩ := run_loadAt ti_3 ag_3 r280 d281
      obtain rfl := r284.int
      have ex286 := (ex211.ext xc273)
      refine GS_r1 [(58, .pointer (some a278))] (I x275) rfl rfl (fun _ h => h) (fun _ w e => ex_load rfl rfl (hx285 w e)) ex286 ?_
      refine GS_ev ok [(7, pb b57)] (pb b57) rfl rfl (fun _ h => h) (fun _ => rfl) ?_
      have ex287 := (ex218.ext xc273)
      refine GS_r1 [(60, pb b57)] (sl a39 r26.Sets c40) rfl rfl (fun _ h => h) (fun _ w e => ex_ldbox rfl ti_31 ag_31 (fun _ => rfl) rfl e rfl rfl) ex287 ?_
      refine GS_ev ok [(9, I x206)] (I x206) rfl rfl (fun _ h => h) (fun _ => rfl) ?_
      obtain ⟨x288, hi289, hx290, H⟩ := H
      obtain ⟨a291, cs292, hx295, r293, d294⟩ := run_indexAt Try.underlying31 ti_3 o34.readf .i64 _ x288 hi289 hx290
      refine GS_r0 [(61, sl a39 r26.Sets c40), (62, I x206)] (.pointer (some a291)) rfl rfl (fun _ h => h) (fun _ _ => ex_index rfl rfl rfl (hx295 _)) ?_
      obtain ⟨vx296, hx298, r297⟩ := run_loadAt ti_3 ag_3 r293 d294
      obtain rfl := r297.int
      have ex299 := (ex217.ext xc273)
      refine GS_r1 [(63, .pointer (some a291))] (I x288) rfl rfl (fun _ h => h) (fun _ w e => ex_load rfl rfl (hx298 w e)) ex299 ?_
      intro wx300 x301 ρ hn
      refine AP_forget [(3, pb b), (4, pb b2), (6, sl a24 r13 c25), (7, pb b57), (8, pb b62), (39, I (ln r41.Sets)), (40, I x206), (56, sl a55 r41.Sets c56), (57, I x206), (59, I x275), (64, I x288)] (by exact hn) fun ρ => ?_
      refine AP_tail 10 [[], [0], [], [0, 1, 2], [0, 1, 2, 3], [], [5], [], [5, 6, 7], [5, 6, 7, 8], [0, 1, 2, 3, 4, 5, 6, 7, 8, 9], [0, 1, 2, 3, 4, 5, 6, 7, 8, 9, 10], [0, 1, 2, 3, 4, 5, 6, 7, 8, 9, 10, 11]] (by kernel_rfl) ?_
      refine LP_ev ok 10 [(65, I (bits .and .i64 x275 x288))] 11 rfl rfl ?_
      obtain ⟨hi302, hl, H⟩ := H
      refine LP_indexw (v := sl a55 r41.Sets c56) 11 rfl rfl rfl Try.underlying31 ti_3 rfl rfl o210 hi302 hl fun a303 wa => ?_
      refine LP_set 12 rfl rfl rfl rfl rfl wa (Le.refl emp) ⟨_, rfl, rfl⟩ (ex286.ext x301) fun hx304 wx305 o306 ex307 y308 dm => ?_
      refine LP_end _ rfl ?_
      have xc310 := (xc273.trans x301)
      have f312 := (dm _).fresh f212 (X226.stepx xc310).size
      exact ⟨List.set sets207 (Int.toNat x206) (bits .and .i64 x275 x288), H, _, hx304, env_eq ⟨rfl, rfl, rfl, rfl, rfl, rfl, rfl, trivial⟩, ((X226.stepx xc310).step y308 (f212.dom _)), o306, ex307, f312, ((ex214.ext xc310).but y308 d220), ((ex215.ext xc310).but y308 d221), ((ex216.ext xc310).but y308 d222), ((ex299.ext x301).but y308 d223), ((ex287.ext x301).but y308 d224), ((ex274.ext x301).but y308 d225), (DomLe.dj (dm _) d220 (ex214.ext xc310)), (DomLe.dj (dm _) d221 (ex215.ext xc310)), (DomLe.dj (dm _) d222 (ex216.ext xc310)), (DomLe.dj (dm _) d223 (ex299.ext x301)), (DomLe.dj (dm _) d224 (ex287.ext x301)), (DomLe.dj (dm _) d225 (ex274.ext x301))⟩
     have H := H.2 hc270
     exact W_skip ⟨sets207, H, _, hx209, env_eq ⟨rfl, rfl, rfl, rfl, rfl, rfl, rfl, trivial⟩, (X226.stepx x269), o210, (ex211.ext x269), f212, (ex214.ext x269), (ex215.ext x269), (ex216.ext x269), (ex217.ext x269), (ex218.ext x269), (ex219.ext x269), d220, d221, d222, d223, d224, d225⟩
    rintro sets230 _ wx236 ⟨H, ρ, hx232, rfl, HF⟩
    revert HF
    refine bb9 fun X249 o233 ex234 f235 ex237 ex238 ex239 ex240 => ?_
    refine bb8 fun ex241 ex242 d243 d244 d245 d246 d247 d248 => ?_
    subst hk251
    refine W_region ?_
    refine LP_ev ok 0 [(67, I (wr (x206 + 1))), (40, I (wr (x206 + 1)))] 2 rfl rfl ?_
    exact LP_end _ rfl ⟨(wr (x206 + 1), sets230), ⟨H.1, _, hx232, env_eq ⟨rfl, rfl, rfl, rfl, rfl, rfl, rfl, trivial⟩, X249, o233, ex234, f235, ex237, ex238, ex239, ex240, ex241, ex242, d243, d244, d245, d246, d247, d248⟩, H.2⟩
   have H := H.2 hc229
   refine W_exit ?_
   refine (if_pos rfl).mpr ?_
   exact ⟨sets207, H, _, hx209, env_eq ⟨rfl, rfl, rfl, rfl, rfl, trivial⟩, X226, o210, ex211, f212, ex214, ex215, ex216, ex217, ex218, ex219, d220, d221, d222, d223, d224, d225⟩
  have H := H.2 hc205
  exact W_skip ⟨r41.Sets, H, _, hx49, env_eq ⟨rfl, rfl, rfl, rfl, rfl, trivial⟩, X142, o50, ex139, f111, ex135, ex136, ex137, ex138, ex140, ex141, (Dj.of_fresh (((ex87.ext x9).but x18 (Dj.of_fresh ex87 f11).symm).but x31 (Dj.box (Dj.of_fresh ex87 f11).symm)) f52).symm, (Dj.of_fresh (((ex5.ext x9).but x18 (Dj.of_fresh ex5 f11).symm).but x31 (Dj.box (Dj.of_fresh ex5 f11).symm)) f52).symm, (Dj.of_fresh ex45 f52).symm, (Dj.of_fresh ex35 f52).symm, (Dj.box (Dj.of_fresh ex51 f61).symm).symm, (Dj.box (Dj.of_fresh ex109 f66).symm).symm⟩
 rintro sets _ wx119 ⟨H, ρ, hx115, rfl, HF⟩
 revert HF
 refine bb9 fun X132 o116 ex117 f118 ex120 ex121 ex122 ex123 => ?_
 refine bb8 fun ex124 ex125 d126 d127 d128 d129 d130 d131 => ?_
 subst hk
 refine W_seq ?_
 refine W_open mix fun wx336 x337 => ?_
 refine AP_game 5 [[], [], [], [0], [0, 1, 3], [0, 1, 2, 3, 4]] [[(6, none)], [(7, none)], [(8, none)], [(68, some 0)], [(3, none), (69, some 1)]] [(2, some 3), (3, none), (4, none), (70, some 2)] [(0, false), (1, false), (2, false), (3, false), (4, true)] (by kernel_rfl) (by kernel_rfl) ?_
 refine GS_ev ok [(6, sl a24 r13 c25)] (sl a24 r13 c25) rfl rfl (fun _ h => h) (fun _ => rfl) ?_
 refine GS_r1 [(7, pb b57)] (.agg #[sl a39 r26.Sets c40]) rfl rfl (fun _ h => h) (fun _ w e => ex_ldbox rfl ti_33 ag_33 (fun h => by cases h) rfl e rfl rfl) (ex124.ext x337) ?_
 have ex339 := (ex125.ext x337)
 refine GS_r1 [(8, pb b62)] (.agg #[sl a55 r41.Sets c56]) rfl rfl (fun _ h => h) (fun _ w e => ex_ldbox rfl ti_33 ag_33 (fun h => by cases h) rfl e rfl rfl) ex339 ?_
 refine GS_ev ok [(68, sl a24 r13 c25)] (sl a24 r13 c25) rfl rfl (fun _ h => h) (fun _ => rfl) ?_
 refine GS_lp [(3, pb b), (69, .agg #[sl a39 r26.Sets c40])] rfl rfl (fun _ h => h) rfl fun ρ wx340 x341 => ?_
 have xc345 := (x337.trans x341)
 refine LP_stbox 0 (vs := [sl a39 r26.Sets c40]) (cs' := [sl a39 r26.Sets c40]) rfl rfl rfl ti_33 rfl rfl rfl rfl rfl (ex120.ext xc345) rfl rfl fun wx342 ex343 y344 => ?_
 refine LP_gs ⟨⟨.inr ((ex339.ext x341).but y344 (Dj.box (Dj.of_fresh ex89 f66).symm).symm), .inl rfl, trivial⟩, ?_⟩
 intro wx348 x349 ρ hn350
 refine AP_forget [(2, sl a24 r13 c25), (3, pb b), (4, pb b2), (70, .agg #[sl a55 r41.Sets c56])] (by exact hn350) fun ρ => ?_
 refine AP_tail 5 [[], [], [], [0], [0, 1, 3], [0, 1, 2, 3, 4]] (by kernel_rfl) ?_
 refine LP_stbox 5 (vs := [sl a55 r41.Sets c56]) (cs' := [sl a55 r41.Sets c56]) rfl rfl rfl ti_33 rfl rfl rfl rfl rfl (((ex121.ext xc345).but y344 (Dj.of_fresh ex1 f6)).ext x349) rfl rfl fun wx351 ex352 y353 => ?_
 refine LP_end _ rfl (W_ret ?_)
 have ex355 := (ex87.ext x9)
 have ex356 := (ex5.ext x9)
 exact ⟨_, Ret_of [sl a24 r13 c25, .agg #[sl a39 r26.Sets c40], .agg #[sl a55 r41.Sets c56]] ⟨⟨rfl, rfl⟩, ⟨_, rfl, rfl, ld_res ti_33 ag_33 (fun h => by cases h) ((ex343.ext x349).but y353 (Dj.box (Dj.of_fresh ex1 f6).symm.symm).symm) rfl rfl⟩, ⟨_, rfl, rfl, ld_res ti_33 ag_33 (fun h => by cases h) ex352 rfl rfl⟩, trivial⟩, _, _, _, _, _, _, _, _, _, H, rfl, ((((X132.stepx xc345).step y344 (f91.dom _)).stepx x349).step y353 (f95.dom _)).ext, o, ((((ex122.ext xc345).but y344 (Dj.of_fresh ex355 f22)).ext x349).but y353 (Dj.of_fresh ex356 f22)), f102, o34, ((((ex123.ext xc345).but y344 (Dj.of_fresh (ex355.but x18 (Dj.of_fresh ex87 f11).symm) f36)).ext x349).but y353 (Dj.of_fresh (ex356.but x18 (Dj.of_fresh ex5 f11).symm) f36)), f107, o116, ((((ex117.ext xc345).but y344 d126.symm).ext x349).but y353 d127.symm), f118, (Dj.of_fresh ex21 f36), d128.symm, d129.symm⟩

theorem spec_DrawResolveEdits_w (code : List B8) (Q : (List Variable) → Edit → Edit → Int → Prop) (H : spec_DrawResolveEdits code Q) (w : World) {vx : Value} {hx : PH} (r : RS hx vx code) (ex : Sub hx w) :
  CallsTo Try.prog 16 #[vx] w fun v w' => ∃ r0 r1 r2 r3 u0 g0 u1_0 g1_0 u2_0 g2_0, Q r0 r1 r2 r3 ∧ v = .tuple #[u0, .agg #[u1_0], .agg #[u2_0], I r3] ∧ Ext w w' ∧ OS 167 g0 emp u0 r0 ∧ Sub g0 w' ∧ Fresh w.heap.size g0 ∧ OS 3 g1_0 emp u1_0 r1.Sets ∧ Sub g1_0 w' ∧ Fresh w.heap.size g1_0 ∧ OS 3 g2_0 emp u2_0 r2.Sets ∧ Sub g2_0 w' ∧ Fresh w.heap.size g2_0 ∧ Dj g0 g1_0 ∧ Dj g0 g2_0 ∧ Dj g1_0 g2_0 := by
 obtain ⟨a, c, rfl⟩ := r.shape
 refine enter (args := [sl a code c]) 28 Try.func16 rfl rfl rfl ?_
 refine W_forget [(0, sl a code c)] ⟨rfl, trivial⟩ fun ρ => ?_
 have X := But.refl emp w
 refine W_seq (W_region ?_)
 refine LP_ev ok 0 [(2, .slice none 0 0)] 1 rfl rfl ?_
 refine LP_alloc 1 rfl rfl rfl ti_33 rfl fun b wx x ex1 f => ?_
 refine LP_alloc 2 rfl rfl rfl ti_33 rfl fun b2 wx3 x4 ex5 f6 => ?_
 refine LP_ev ok 3 [(5, I 0)] 4 rfl rfl ?_
 refine LP_end _ rfl (W_seq (W_region ?_))
 refine LP_ev ok 0 [(10, sl a code c), (11, .agg #[sl a code c, I 0, .int .u64 0])] 2 rfl rfl ?_
 refine LP_box 2 (cs := [sl a code c, I 0, .int .u64 0]) rfl rfl rfl rfl rfl fun b7 wx8 x9 ex10 f11 => ?_
 refine LP_ev ok 3 [(6, pb b7)] 4 rfl rfl ?_
 refine LP_end _ rfl (W_seq (W_region ?_))
 refine LP_ev ok 0 [(14, sl a code c)] 1 rfl rfl ?_
 have xc := ((x.trans x4).trans x9)
 have ex15 := (ex.ext xc)
 refine LP_call 1 rfl rfl rfl cal_72 rfl (spec_DrawContainsEdit_w _ _ H wx8 r ex15) ?_
 rintro _ wx16 ⟨r12, r13, r14, vx18, hx19, vx22, hx23, vx27, hx28, H, rfl, x17, HF⟩
 revert HF
 refine bb9 fun o ex20 f21 o24 ex25 f26 o29 ex30 => ?_
 refine bb4 fun f31 d d32 d33 => ?_
 obtain ⟨a34, c35, rfl⟩ := o.shape
 obtain ⟨a36, c37, rfl⟩ := o24.shape
 obtain ⟨a38, c39, rfl⟩ := o29.shape
 refine LP_ev ok 2 [(13, .tuple #[sl a34 r12 c35, .agg #[sl a36 r13.Sets c37], .agg #[sl a38 r14.Sets c39]]), (16, sl a34 r12 c35), (17, .agg #[sl a36 r13.Sets c37]), (18, .agg #[sl a38 r14.Sets c39])] 6 rfl rfl ?_
 refine LP_alloc 6 rfl rfl rfl ti_33 rfl fun b40 wx41 x42 ex43 f44 => ?_
 refine LP_alloc 7 rfl rfl rfl ti_33 rfl fun b45 wx46 x47 ex48 f49 => ?_
 refine LP_ev ok 8 [(7, sl a34 r12 c35)] 9 rfl rfl ?_
 refine LP_stbox 9 (vs := [sl a36 r13.Sets c37]) (cs' := [sl a36 r13.Sets c37]) rfl rfl rfl ti_33 rfl rfl rfl rfl rfl (ex43.ext x47) rfl rfl fun wx50 ex51 y => ?_
 refine LP_stbox 10 (vs := [sl a38 r14.Sets c39]) (cs' := [sl a38 r14.Sets c39]) rfl rfl rfl ti_33 rfl rfl rfl rfl rfl (ex48.but y (Dj.of_fresh ex43 f49)) rfl rfl fun wx53 ex54 y55 => ?_
 refine LP_end _ rfl (W_seq ?_)
 refine W_open mix fun wx57 x58 => ?_
 refine AP_game 12 [[], [], [], [], [3], [], [3, 4, 5], [3, 4, 5, 6], [3, 4, 5, 6, 7], [0, 3, 4, 5, 6], [0, 1, 3, 4, 5, 6, 9], [0, 1, 2, 3, 4, 5, 6, 9, 10], [0, 1, 2, 3, 4, 5, 6, 7, 8, 9, 10, 11]] [[(7, none)], [(8, none)], [(9, none)], [(6, none)], [(22, some 3)], [(6, none)], [(24, some 5)], [(25, some 6)], [(23, some 4), (26, some 7)], [(19, some 0)], [(3, none), (20, some 1)], [(4, none), (21, some 2)]] [(2, some 9), (3, none), (4, none), (5, none), (27, some 8)] [(0, false), (1, false), (2, false), (3, false), (5, false), (4, true), (6, true), (7, false), (8, false), (9, false), (10, true), (11, true)] (by kernel_rfl) (by kernel_rfl) ?_
 refine GS_ev ok [(7, sl a34 r12 c35)] (sl a34 r12 c35) rfl rfl (fun _ h => h) (fun _ => rfl) ?_
 have ex59 := ((ex51.but y55 (Dj.box (Dj.of_fresh ex43 f49).symm.symm).symm).ext x58)
 refine GS_r1 [(8, pb b40)] (.agg #[sl a36 r13.Sets c37]) rfl rfl (fun _ h => h) (fun _ w e => ex_ldbox rfl ti_33 ag_33 (fun h => by cases h) rfl e rfl rfl) ex59 ?_
 have ex60 := (ex54.ext x58)
 refine GS_r1 [(9, pb b45)] (.agg #[sl a38 r14.Sets c39]) rfl rfl (fun _ h => h) (fun _ w e => ex_ldbox rfl ti_33 ag_33 (fun h => by cases h) rfl e rfl rfl) ex60 ?_
 refine GS_ev ok [(6, pb b7)] (pb b7) rfl rfl (fun _ h => h) (fun _ => rfl) ?_
 refine GS_ev ok [(6, pb b7)] (pb b7) rfl rfl (fun _ h => h) (fun _ => rfl) ?_
 refine GS_lp [(22, pb b7)] rfl rfl (fun _ h => h) rfl fun ρ wx61 x62 => ?_
 have xc63 := (x.trans x4)
 have ex64 := (ex.ext xc63)
 have xc68 := ((x17.trans x42).trans x47)
 have ex69 := (ex15.ext x17)
 have xc71 := (x58.trans x62)
 have ex72 := ((((ex15.ext xc68).but y (Dj.of_fresh ex69 f44).symm).but y55 (Dj.of_fresh (ex69.ext x42) f49).symm).ext xc71)
 have ex73 := (ex10.ext x17)
 have ex74 := (ex73.ext x42)
 refine LP_call 0 rfl rfl rfl cal_73 rfl (spec_l1Cur_pick_w _ _ _ H wx61 r ex72 ((((ex10.ext xc68).but y (Dj.of_fresh ex73 f44).symm).but y55 (Dj.of_fresh ex74 f49).symm).ext xc71) (Dj.of_fresh ex64 f11).symm) ?_
 rintro _ wx76 ⟨r65, r66, r67, H, rfl, x77, ex78⟩
 have ex79 := ((ex60.ext x62).but x77 (Dj.box (Dj.of_fresh ex74 f49).symm).symm)
 have ex80 := ((ex59.ext x62).but x77 (Dj.box (Dj.of_fresh ex73 f44).symm).symm)
 refine LP_gs ⟨⟨.inr ex79, .inr ex80, trivial⟩, ?_⟩
 refine GS_lp [(24, pb b7)] rfl rfl (fun _ h => h) rfl fun ρ wx81 x82 => ?_
 refine LP_call 0 rfl rfl rfl cal_73 rfl (spec_l1Cur_pick_w _ _ _ H wx81 r ((ex72.but x77 (Dj.of_fresh ex64 f11).symm).ext x82) (ex78.ext x82) (Dj.box (Dj.of_fresh ex64 f11).symm)) ?_
 rintro _ wx88 ⟨r83, r84, r85, H, rfl, x89, ex90⟩
 have ex91 := ((ex79.ext x82).but x89 (Dj.box (Dj.box (Dj.of_fresh ex74 f49)).symm).symm)
 refine LP_gs ⟨⟨.inr ex91, .inr ((ex80.ext x82).but x89 (Dj.box (Dj.box (Dj.of_fresh ex73 f44)).symm).symm), trivial⟩, ?_⟩
 refine GS_r0 [(25, I r83)] (I (wr (Int.tdiv r83 19))) rfl rfl (fun _ h => h) (fun _ _ => ex_quo rfl rfl rfl (by decide) _) ?_
 refine GS_ev ok [(23, I r65), (26, I (wr (Int.tdiv r83 19)))] (I (wr (r65 - (wr (Int.tdiv r83 19))))) rfl rfl (fun _ h => h) (fun _ => rfl) ?_
 refine GS_ev ok [(19, sl a34 r12 c35)] (sl a34 r12 c35) rfl rfl (fun _ h => h) (fun _ => rfl) ?_
 refine GS_lp [(3, pb b), (20, .agg #[sl a36 r13.Sets c37])] rfl rfl (fun _ h => h) rfl fun ρ wx93 x94 => ?_
 have ex100 := (ex1.ext ((x4.trans x9).trans x17))
 have ex101 := (ex100.ext x42)
 have ex102 := (ex1.ext x4)
 refine LP_stbox 0 (vs := [sl a36 r13.Sets c37]) (cs' := [sl a36 r13.Sets c37]) rfl rfl rfl ti_33 rfl rfl rfl rfl rfl ((((((((ex1.ext ((((x4.trans x9).trans x17).trans x42).trans x47)).but y (Dj.of_fresh ex100 f44).symm).but y55 (Dj.of_fresh ex101 f49).symm).ext xc71).but x77 (Dj.of_fresh ex102 f11).symm).ext x82).but x89 (Dj.box (Dj.of_fresh ex102 f11).symm)).ext x94) rfl rfl fun wx95 ex96 y97 => ?_
 refine LP_gs ⟨⟨.inr ((ex91.ext x94).but y97 (Dj.box (Dj.of_fresh ex101 f49).symm).symm), .inl rfl, trivial⟩, ?_⟩
 refine GS_lp [(4, pb b2), (21, .agg #[sl a38 r14.Sets c39])] rfl rfl (fun _ h => h) rfl fun ρ wx105 x106 => ?_
 have ex112 := (ex5.ext (x9.trans x17))
 refine LP_stbox 0 (vs := [sl a38 r14.Sets c39]) (cs' := [sl a38 r14.Sets c39]) rfl rfl rfl ti_33 rfl rfl rfl rfl rfl ((((((((((ex5.ext (((x9.trans x17).trans x42).trans x47)).but y (Dj.of_fresh ex112 f44).symm).but y55 (Dj.of_fresh (ex112.ext x42) f49).symm).ext xc71).but x77 (Dj.of_fresh ex5 f11).symm).ext x82).but x89 (Dj.box (Dj.of_fresh ex5 f11).symm)).ext x94).but y97 (Dj.of_fresh ex1 f6)).ext x106) rfl rfl fun wx107 ex108 y109 => ?_
 refine LP_gs ⟨⟨.inl rfl, .inl rfl, trivial⟩, ?_⟩
 intro wx115 x116 ρ hn
 refine AP_forget [(2, sl a34 r12 c35), (3, pb b), (4, pb b2), (5, I 0), (27, I (wr (r65 - (wr (Int.tdiv r83 19)))))] (by exact hn) fun ρ => ?_
 refine AP_tail 12 [[], [], [], [], [3], [], [3, 4, 5], [3, 4, 5, 6], [3, 4, 5, 6, 7], [0, 3, 4, 5, 6], [0, 1, 3, 4, 5, 6, 9], [0, 1, 2, 3, 4, 5, 6, 9, 10], [0, 1, 2, 3, 4, 5, 6, 7, 8, 9, 10, 11]] (by kernel_rfl) ?_
 refine LP_ev ok 12 [(5, I (wr (r65 - (wr (Int.tdiv r83 19)))))] 13 rfl rfl ?_
 refine LP_end _ rfl (W_ret ?_)
 have xc117 := (x42.trans x47)
 have ex119 := (ex102.ext x9)
 have ex120 := (ex5.ext x9)
 have X123 := (X.stepx xc)
 have f122 := f21.mono X123.size
 have f127 := f26.mono X123.size
 have f131 := f31.mono X123.size
 have X133 := (X123.stepx x17)
 have f132 := f44.mono X133.size
 have f134 := f49.mono (X133.stepx x42).size
 have f136 := f11.mono (X.stepx xc63).size
 have f138 := f.mono X.size
 have f139 := f6.mono (X.stepx x).size
 exact ⟨_, Ret_of [sl a34 r12 c35, .agg #[sl a36 r13.Sets c37], .agg #[sl a38 r14.Sets c39], I (wr (r65 - (wr (Int.tdiv r83 19))))] ⟨⟨rfl, rfl⟩, ⟨_, rfl, rfl, ld_res ti_33 ag_33 (fun h => by cases h) (((ex96.ext x106).but y109 (Dj.box (Dj.of_fresh ex1 f6).symm.symm).symm).ext x116) rfl rfl⟩, ⟨_, rfl, rfl, ld_res ti_33 ag_33 (fun h => by cases h) (ex108.ext x116) rfl rfl⟩, ⟨rfl, rfl⟩, trivial⟩, _, _, _, _, _, _, _, _, _, _, H, rfl, ((((((((((((X123.stepx xc68).step y (f132.dom _)).step y55 (f134.dom _)).stepx xc71).step x77 (f136.dom _)).stepx x82).step x89 ((Fresh.box f136).dom _)).stepx x94).step y97 (f138.dom _)).stepx x106).step y109 (f139.dom _)).stepx x116).ext, o, ((((((((((((ex20.ext xc117).but y (Dj.of_fresh ex20 f44).symm).but y55 (Dj.of_fresh (ex20.ext x42) f49).symm).ext xc71).but x77 (Dj.of_fresh ex10 f21)).ext x82).but x89 (Dj.box (Dj.of_fresh ex10 f21))).ext x94).but y97 (Dj.of_fresh ex119 f21)).ext x106).but y109 (Dj.of_fresh ex120 f21)).ext x116), f122, o24, ((((((((((((ex25.ext xc117).but y (Dj.of_fresh ex25 f44).symm).but y55 (Dj.of_fresh (ex25.ext x42) f49).symm).ext xc71).but x77 (Dj.of_fresh ex10 f26)).ext x82).but x89 (Dj.box (Dj.of_fresh ex10 f26))).ext x94).but y97 (Dj.of_fresh ex119 f26)).ext x106).but y109 (Dj.of_fresh ex120 f26)).ext x116), f127, o29, ((((((((((((ex30.ext xc117).but y (Dj.of_fresh ex30 f44).symm).but y55 (Dj.of_fresh (ex30.ext x42) f49).symm).ext xc71).but x77 (Dj.of_fresh ex10 f31)).ext x82).but x89 (Dj.box (Dj.of_fresh ex10 f31))).ext x94).but y97 (Dj.of_fresh ex119 f31)).ext x106).but y109 (Dj.of_fresh ex120 f31)).ext x116), f131, d, d32, d33⟩

theorem impl_ResolveEdits_w (sx : List Variable) (ex1 : Edit) (f : Edit) (vx14 : Int) (Q : Edit → Bool → Prop) (H : impl_ResolveEdits sx ex1 f vx14 Q) (w : World) {vx : Value} {hx : PH} (r : RS hx vx sx) (ex : Sub hx w) {vx2 : Value} {hx3 : PH} (r4 : RS hx3 vx2 ex1.Sets) (ex5 : Sub hx3 w) {vx8 : Value} {hx9 : PH} (r10 : RS hx9 vx8 f.Sets) (ex11 : Sub hx9 w) :
  CallsTo Try.prog 17 #[vx, .agg #[vx2], .agg #[vx8], I vx14] w fun v w' => ∃ r0 r1 u0_0 g0_0, Q r0 r1 ∧ v = .tuple #[.agg #[u0_0], .bool r1] ∧ Ext w w' ∧ OS 3 g0_0 emp u0_0 r0.Sets ∧ Sub g0_0 w' ∧ Fresh w.heap.size g0_0 := by
 obtain ⟨a, c, rfl⟩ := r.shape
 obtain ⟨a6, c7, rfl⟩ := r4.shape
 obtain ⟨a12, c13, rfl⟩ := r10.shape
 refine enter (args := [sl a sx c, .agg #[sl a6 ex1.Sets c7], .agg #[sl a12 f.Sets c13], I vx14]) 76 Try.func17 rfl rfl rfl ?_
 refine W_forget [(0, sl a sx c), (1, .agg #[sl a6 ex1.Sets c7]), (2, .agg #[sl a12 f.Sets c13]), (3, I vx14)] ⟨rfl, rfl, rfl, rfl, trivial⟩ fun ρ => ?_
 have X := But.refl emp w
 refine W_seq (W_region ?_)
 refine LP_box 0 (cs := [sl a6 ex1.Sets c7]) rfl rfl rfl rfl rfl fun b wx x ex15 f16 => ?_
 refine LP_box 1 (cs := [sl a12 f.Sets c13]) rfl rfl rfl rfl rfl fun b17 wx18 x19 ex20 f21 => ?_
 refine LP_alloc 2 rfl rfl rfl ti_33 rfl fun b22 wx23 x24 ex25 f26 => ?_
 refine LP_ev ok 3 [(9, .bool false)] 4 rfl rfl ?_
 refine LP_end _ rfl (W_seq ?_)
 have xc := ((x.trans x19).trans x24)
 have X27 := (X.stepx xc)
 have ex28 := (ex.ext xc)
 have ex29 := (ex5.ext xc)
 have ex30 := (ex11.ext xc)
 have ex32 := (ex15.ext (x19.trans x24))
 have ex34 := (ex20.ext x24)
 have f37 := f26.mono ((X.stepx x).stepx x19).size
 obtain ⟨k, hk, H⟩ := jn_elim H
 refine W_join2 (S := Bool) (fun s ρ' w' => k s ∧ ∃ (ρ : Env), ρ' = setAll [(3, I vx14), (5, pb b), (6, pb b17), (8, pb b22), (37, .bool s)] ρ ∧ But emp w w' ∧ Sub hx3 w' ∧ Sub hx9 w' ∧ Sub (bx b 33 [sl a6 ex1.Sets c7]) w' ∧ Sub (bx b17 33 [sl a12 f.Sets c13]) w' ∧ Sub (bx b22 33 [.slice none 0 0]) w') ?_ ?_
 ·refine W_region ?_
  refine LP_ev ok 0 [(13, sl a sx c)] 1 rfl rfl ?_
  refine LP_call 1 rfl rfl rfl cal_62 rfl (impl_isSmall_w _ _ H wx23 r ex28) ?_
  rintro _ wx48 ⟨r47, H, rfl, x49⟩
  refine LP_ev ok 2 [(15, .bool (!r47)), (16, .bool (!r47))] 4 rfl rfl ?_
  refine LP_split 16 (!r47) rfl (fun hc => ?_) (fun hc => ?_)
  ·have H := H.1 hc
   refine LP_ev ok 4 [(17, undef), (18, undef), (19, undef), (20, undef), (21, .bool true), (22, .bool true), (23, undef), (24, undef), (25, undef), (26, undef), (27, .bool true), (28, .bool true), (29, undef), (30, undef), (31, .bool true), (32, .bool true), (33, undef), (34, undef), (35, undef), (36, undef), (37, .bool true)] 25 rfl rfl ?_
   refine LP_end _ rfl ?_
   try refine W_forget [(3, I vx14), (5, pb b), (6, pb b17), (8, pb b22), (37, .bool true)] ⟨rfl, rfl, rfl, rfl, rfl, trivial⟩ fun ρ => ?_
   exact ⟨true, H, _, env_eq ⟨rfl, rfl, rfl, rfl, rfl, trivial⟩, (X27.stepx x49), (ex29.ext x49), (ex30.ext x49), (ex32.ext x49), (ex34.ext x49), (ex25.ext x49)⟩
  have H := H.2 hc
  refine LP_ev ok 4 [(17, sl a sx c)] 5 rfl rfl ?_
  have ex56 := (ex32.ext x49)
  refine LP_ldbox 5 (v := .agg #[sl a6 ex1.Sets c7]) rfl rfl rfl ti_33 ag_33 (fun h => by cases h) rfl ex56 rfl rfl ?_
  have ex58 := (ex28.ext x49)
  have ex59 := (ex29.ext x49)
  refine LP_call 6 rfl rfl rfl cal_67 rfl (impl_isEdit_w _ _ _ H wx48 r ex58 r4 ex59) ?_
  rintro _ wx60 ⟨r57, H, rfl, x61⟩
  refine LP_ev ok 7 [(20, .bool (!r57)), (21, .bool (!r57)), (22, .bool (!r57))] 10 rfl rfl ?_
  refine LP_split 22 (!r57) rfl (fun hc62 => ?_) (fun hc62 => ?_)
  ·have H := H.1 hc62
   refine LP_ev ok 10 [(23, undef), (24, undef), (25, undef), (26, undef), (27, .bool true), (28, .bool true), (29, undef), (30, undef), (31, .bool true), (32, .bool true), (33, undef), (34, undef), (35, undef), (36, undef), (37, .bool true)] 25 rfl rfl ?_
   refine LP_end _ rfl ?_
   try refine W_forget [(3, I vx14), (5, pb b), (6, pb b17), (8, pb b22), (37, .bool true)] ⟨rfl, rfl, rfl, rfl, rfl, trivial⟩ fun ρ => ?_
   have xc63 := (x49.trans x61)
   exact ⟨true, H, _, env_eq ⟨rfl, rfl, rfl, rfl, rfl, trivial⟩, (X27.stepx xc63), (ex59.ext x61), (ex30.ext xc63), (ex56.ext x61), (ex34.ext xc63), (ex25.ext xc63)⟩
  have H := H.2 hc62
  refine LP_ev ok 10 [(23, sl a sx c)] 11 rfl rfl ?_
  have xc70 := (x49.trans x61)
  have ex71 := (ex34.ext xc70)
  refine LP_ldbox 11 (v := .agg #[sl a12 f.Sets c13]) rfl rfl rfl ti_33 ag_33 (fun h => by cases h) rfl ex71 rfl rfl ?_
  have ex74 := (ex30.ext xc70)
  refine LP_call 12 rfl rfl rfl cal_67 rfl (impl_isEdit_w _ _ _ H wx60 r (ex58.ext x61) r10 ex74) ?_
  rintro _ wx75 ⟨r72, H, rfl, x76⟩
  refine LP_ev ok 13 [(26, .bool (!r72)), (27, .bool (!r72)), (28, .bool (!r72))] 16 rfl rfl ?_
  refine LP_split 28 (!r72) rfl (fun hc77 => ?_) (fun hc77 => ?_)
  ·have H := H.1 hc77
   refine LP_ev ok 16 [(29, undef), (30, undef), (31, .bool true), (32, .bool true), (33, undef), (34, undef), (35, undef), (36, undef), (37, .bool true)] 25 rfl rfl ?_
   refine LP_end _ rfl ?_
   try refine W_forget [(3, I vx14), (5, pb b), (6, pb b17), (8, pb b22), (37, .bool true)] ⟨rfl, rfl, rfl, rfl, rfl, trivial⟩ fun ρ => ?_
   have xc78 := (xc70.trans x76)
   have xc80 := (x61.trans x76)
   exact ⟨true, H, _, env_eq ⟨rfl, rfl, rfl, rfl, rfl, trivial⟩, (X27.stepx xc78), (ex59.ext xc80), (ex74.ext x76), (ex56.ext xc80), (ex71.ext x76), (ex25.ext xc78)⟩
  have H := H.2 hc77
  refine LP_ev ok 16 [(29, I vx14), (30, .bool (decide (vx14 < 0))), (31, .bool (decide (vx14 < 0))), (32, .bool (decide (vx14 < 0)))] 20 rfl rfl ?_
  refine LP_split 32 (decide (vx14 < 0)) rfl (fun hc86 => ?_) (fun hc86 => ?_)
  ·have H := H.1 hc86
   refine LP_ev ok 20 [(33, undef), (34, undef), (35, undef), (36, undef), (37, .bool true)] 25 rfl rfl ?_
   refine LP_end _ rfl ?_
   try refine W_forget [(3, I vx14), (5, pb b), (6, pb b17), (8, pb b22), (37, .bool true)] ⟨rfl, rfl, rfl, rfl, rfl, trivial⟩ fun ρ => ?_
   have xc87 := (xc70.trans x76)
   have xc89 := (x61.trans x76)
   exact ⟨true, H, _, env_eq ⟨rfl, rfl, rfl, rfl, rfl, trivial⟩, (X27.stepx xc87), (ex59.ext xc89), (ex74.ext x76), (ex56.ext xc89), (ex71.ext x76), (ex25.ext xc87)⟩
  have H := H.2 hc86
  refine LP_ev ok 20 [(33, I vx14), (34, sl a sx c), (35, I (ln sx)), (36, .bool (decide (vx14 ≥ (ln sx)))), (37, .bool (decide (vx14 ≥ (ln sx))))] 25 rfl rfl ?_
  refine LP_end _ rfl ?_
  try refine W_forget [(3, I vx14), (5, pb b), (6, pb b17), (8, pb b22), (37, .bool (decide (vx14 ≥ (ln sx))))] ⟨rfl, rfl, rfl, rfl, rfl, trivial⟩ fun ρ => ?_
  have xc95 := (xc70.trans x76)
  have xc97 := (x61.trans x76)
  exact ⟨decide (vx14 ≥ (ln sx)), H, _, env_eq ⟨rfl, rfl, rfl, rfl, rfl, trivial⟩, (X27.stepx xc95), (ex59.ext xc97), (ex74.ext x76), (ex56.ext xc97), (ex71.ext x76), (ex25.ext xc95)⟩
 rintro x39 _ wx40 ⟨H, ρ, rfl, HF⟩
 revert HF
 refine bb6 fun X46 ex41 ex42 ex43 ex44 ex45 => ?_
 subst hk
 refine W_cond (x39) rfl (fun hc103 => ?_) (fun hc103 => ?_)
 ·have H := H.1 hc103
  refine W_seq (W_region ?_)
  refine LP_ev ok 0 [(38, .agg #[.slice none 0 0])] 1 rfl rfl ?_
  refine LP_stbox 1 (vs := [.slice none 0 0]) (cs' := [.slice none 0 0]) rfl rfl rfl ti_33 rfl rfl rfl rfl rfl ex45 rfl rfl fun wx104 ex105 y => ?_
  refine LP_ev ok 2 [(9, .bool false)] 3 rfl rfl ?_
  refine LP_end _ rfl (W_ret ?_)
  exact ⟨_, Ret_of [.agg #[.slice none 0 0], .bool false] ⟨⟨_, rfl, rfl, ld_res ti_33 ag_33 (fun h => by cases h) ex105 rfl rfl⟩, ⟨rfl, rfl⟩, trivial⟩, _, _, _, emp, H, rfl, (X46.step y (f37.dom _)).ext, OS.nil, (emp_sub _), (emp_fresh _)⟩
 have H := H.2 hc103
 refine W_skip ?_
 refine W_seq (W_region ?_)
 refine LP_ev ok 0 [(39, pb b)] 1 rfl rfl ?_
 refine LP_ldbox 1 (v := sl a6 ex1.Sets c7) rfl rfl rfl ti_31 ag_31 (fun _ => rfl) rfl ex43 rfl rfl ?_
 refine LP_call 2 rfl rfl rfl cal_74 rfl (slices_Clone_int_int_w _ _ H wx40 r4 ex41) ?_
 rintro _ wx108 ⟨r107, vx110, hx111, H, rfl, x109, o, ex112, f113⟩
 obtain ⟨a114, c115, rfl⟩ := o.shape
 refine LP_ev ok 3 [(10, sl a114 r107 c115)] 4 rfl rfl ?_
 refine LP_end _ rfl (W_seq ?_)
 refine W_seq (W_region ?_)
 refine LP_ev ok 0 [(42, pb b17)] 1 rfl rfl ?_
 refine LP_ldbox 1 (v := sl a12 f.Sets c13) rfl rfl rfl ti_31 ag_31 (fun _ => rfl) rfl (ex44.ext x109) rfl rfl ?_
 refine LP_ev ok 2 [(44, I (ln f.Sets)), (45, I 0)] 4 rfl rfl ?_
 refine LP_end _ rfl ?_
 refine W_block ?_
 have f129 := f113.mono X46.size
 obtain ⟨J, m, Hx, H⟩ := H
 refine W_loop (S := (List Int) × Int) (fun s ρ' w' => J s.1 s.2 ∧ ∃ (ρ : Env) (hx118 : PH), ρ' = setAll [(3, I vx14), (8, pb b22), (10, sl a114 r107 c115), (43, sl a12 f.Sets c13), (44, I (ln f.Sets)), (45, I s.2)] ρ ∧ But emp w w' ∧ OS 3 hx118 emp (sl a114 r107 c115) s.1 ∧ Sub hx118 w' ∧ Fresh w.heap.size hx118 ∧ Sub hx9 w' ∧ Sub (bx b22 33 [.slice none 0 0]) w' ∧ Dj hx118 hx9 ∧ Dj hx118 (bx b22 33 [.slice none 0 0])) (fun s => m s.1 s.2) (r107, 0) ⟨Hx, _, hx111, env_eq ⟨rfl, rfl, rfl, rfl, rfl, rfl, trivial⟩, (X46.stepx x109), o, ex112, f129, (ex42.ext x109), (ex45.ext x109), (Dj.of_fresh ex42 f113).symm, (Dj.of_fresh ex45 f113).symm⟩ ?_
 rintro ⟨sets, x122⟩ _ wx123 ⟨Hi, ρ, hx118, rfl, HF⟩
 revert HF
 refine bb8 fun X127 o119 ex120 f121 ex124 ex125 d d126 => ?_
 have H := H sets x122 Hi
 refine W_seq (W_region ?_)
 refine LP_ev ok 0 [(46, .bool (decide (x122 < (ln f.Sets))))] 1 rfl rfl ?_
 refine LP_end _ rfl (W_seq ?_)
 refine W_cond (decide (x122 < (ln f.Sets))) rfl (fun hc132 => ?_) (fun hc132 => ?_)
 ·have H := H.1 hc132
  refine W_skip ?_
  refine W_seq ?_
  refine W_block ?_
  refine W_seq (W_region ?_)
  refine LP_ev ok 0 [(47, I x122)] 1 rfl rfl ?_
  obtain ⟨x133, hi, hx134, H⟩ := H
  refine LP_index 1 rfl rfl rfl Try.underlying31 ti_3 rfl rfl r10 hi hx134 fun a135 cs r136 d137 => ?_
  refine LP_load 2 rfl rfl rfl ti_3 ag_3 rfl r136 d137 ex124 fun vx138 r139 => ?_
  obtain rfl := r139.int
  refine LP_ev ok 3 [(11, I x122), (12, I x133)] 5 rfl rfl ?_
  refine LP_end _ rfl ?_
  obtain ⟨k152, hk153, H⟩ := jn_elim H
  refine W_join2 (S := (List Int)) (fun s ρ' w' => k152 s ∧ ∃ (ρ : Env) (hx142 : PH), ρ' = setAll [(3, I vx14), (8, pb b22), (10, sl a114 r107 c115), (11, I x122), (43, sl a12 f.Sets c13), (44, I (ln f.Sets)), (45, I x122)] ρ ∧ But emp w w' ∧ OS 3 hx142 emp (sl a114 r107 c115) s ∧ Sub hx142 w' ∧ Fresh w.heap.size hx142 ∧ Sub hx9 w' ∧ Sub (bx b22 33 [.slice none 0 0]) w' ∧ Dj hx142 hx9 ∧ Dj hx142 (bx b22 33 [.slice none 0 0])) ?_ ?_
  ·refine W_seq (W_region ?_)
   refine LP_ev ok 0 [(50, I x122), (51, I vx14), (52, .bool (x122 == vx14))] 3 rfl rfl ?_
   refine LP_end _ rfl ?_
   refine W_cond (x122 == vx14) rfl (fun hc154 => ?_) (fun hc154 => ?_)
   ·have H := H.1 hc154
    refine W_region ?_
    refine LP_ev ok 0 [(53, sl a114 r107 c115), (54, I x122)] 2 rfl rfl ?_
    obtain ⟨x155, hi156, hx157, H⟩ := H
    refine LP_index 2 rfl rfl rfl Try.underlying31 ti_3 rfl rfl o119.readf hi156 hx157 fun a158 cs159 r160 d161 => ?_
    refine LP_load 3 rfl rfl rfl ti_3 ag_3 rfl r160 d161 ex120 fun vx162 r163 => ?_
    obtain rfl := r163.int
    refine LP_ev ok 4 [(57, I x133), (58, I (bits .or .i64 x155 x133))] 6 rfl rfl ?_
    obtain ⟨hi164, hl, H⟩ := H
    refine LP_indexw (v := sl a114 r107 c115) 6 rfl rfl rfl Try.underlying31 ti_3 rfl rfl o119 hi164 hl fun a165 wa => ?_
    refine LP_set 7 rfl rfl rfl rfl rfl wa (Le.refl emp) ⟨_, rfl, rfl⟩ ex120 fun hx166 wx167 o168 ex169 y170 dm => ?_
    refine LP_end _ rfl ?_
    have f172 := (dm _).fresh f121 X127.size
    exact ⟨List.set sets (Int.toNat x122) (bits .or .i64 x155 x133), H, _, hx166, env_eq ⟨rfl, rfl, rfl, rfl, rfl, rfl, rfl, trivial⟩, (X127.step y170 (f121.dom _)), o168, ex169, f172, (ex124.but y170 d), (ex125.but y170 d126), (DomLe.dj (dm _) d ex124), (DomLe.dj (dm _) d126 ex125)⟩
   have H := H.2 hc154
   refine W_region ?_
   refine LP_ev ok 0 [(60, sl a114 r107 c115), (61, I x122)] 2 rfl rfl ?_
   obtain ⟨x175, hi176, hx177, H⟩ := H
   refine LP_index 2 rfl rfl rfl Try.underlying31 ti_3 rfl rfl o119.readf hi176 hx177 fun a178 cs179 r180 d181 => ?_
   refine LP_load 3 rfl rfl rfl ti_3 ag_3 rfl r180 d181 ex120 fun vx182 r183 => ?_
   obtain rfl := r183.int
   refine LP_ev ok 4 [(64, I x133), (65, I (bits .and .i64 x175 x133))] 6 rfl rfl ?_
   obtain ⟨hi184, hl185, H⟩ := H
   refine LP_indexw (v := sl a114 r107 c115) 6 rfl rfl rfl Try.underlying31 ti_3 rfl rfl o119 hi184 hl185 fun a186 wa187 => ?_
   refine LP_set 7 rfl rfl rfl rfl rfl wa187 (Le.refl emp) ⟨_, rfl, rfl⟩ ex120 fun hx188 wx189 o190 ex191 y192 dm193 => ?_
   refine LP_end _ rfl ?_
   have f195 := (dm193 _).fresh f121 X127.size
   exact ⟨List.set sets (Int.toNat x122) (bits .and .i64 x175 x133), H, _, hx188, env_eq ⟨rfl, rfl, rfl, rfl, rfl, rfl, rfl, trivial⟩, (X127.step y192 (f121.dom _)), o190, ex191, f195, (ex124.but y192 d), (ex125.but y192 d126), (DomLe.dj (dm193 _) d ex124), (DomLe.dj (dm193 _) d126 ex125)⟩
  rintro sets140 _ wx146 ⟨H, ρ, hx142, rfl, HF⟩
  revert HF
  refine bb8 fun X151 o143 ex144 f145 ex147 ex148 d149 d150 => ?_
  subst hk153
  refine W_seq (W_region ?_)
  refine LP_ev ok 0 [(67, sl a114 r107 c115), (68, I x122)] 2 rfl rfl ?_
  obtain ⟨x198, hi199, hx200, H⟩ := H
  refine LP_index 2 rfl rfl rfl Try.underlying31 ti_3 rfl rfl o143.readf hi199 hx200 fun a201 cs202 r203 d204 => ?_
  refine LP_load 3 rfl rfl rfl ti_3 ag_3 rfl r203 d204 ex144 fun vx205 r206 => ?_
  obtain rfl := r206.int
  refine LP_ev ok 4 [(71, .bool (x198 == 0))] 5 rfl rfl ?_
  refine LP_end _ rfl ?_
  refine W_cond (x198 == 0) rfl (fun hc207 => ?_) (fun hc207 => ?_)
  ·have H := H.1 hc207
   refine W_seq (W_region ?_)
   refine LP_ev ok 0 [(72, .agg #[.slice none 0 0])] 1 rfl rfl ?_
   refine LP_stbox 1 (vs := [.slice none 0 0]) (cs' := [.slice none 0 0]) rfl rfl rfl ti_33 rfl rfl rfl rfl rfl ex148 rfl rfl fun wx208 ex209 y210 => ?_
   refine LP_ev ok 2 [(9, .bool false)] 3 rfl rfl ?_
   refine LP_end _ rfl (W_ret ?_)
   exact ⟨_, Ret_of [.agg #[.slice none 0 0], .bool false] ⟨⟨_, rfl, rfl, ld_res ti_33 ag_33 (fun h => by cases h) ex209 rfl rfl⟩, ⟨rfl, rfl⟩, trivial⟩, _, _, _, emp, H, rfl, (X151.step y210 (f37.dom _)).ext, OS.nil, (emp_sub _), (emp_fresh _)⟩
  have H := H.2 hc207
  refine W_skip ?_
  refine W_region ?_
  refine LP_ev ok 0 [(73, I (wr (x122 + 1))), (45, I (wr (x122 + 1)))] 2 rfl rfl ?_
  exact LP_end _ rfl ⟨(sets140, wr (x122 + 1)), ⟨H.1, _, hx142, env_eq ⟨rfl, rfl, rfl, rfl, rfl, rfl, trivial⟩, X151, o143, ex144, f145, ex147, ex148, d149, d150⟩, H.2⟩
 have H := H.2 hc132
 refine W_exit ?_
 refine (if_pos rfl).mpr ?_
 refine W_seq (W_region ?_)
 refine LP_ev ok 0 [(74, sl a114 r107 c115), (75, .agg #[sl a114 r107 c115])] 2 rfl rfl ?_
 refine LP_stbox 2 (vs := [sl a114 r107 c115]) (cs' := [sl a114 r107 c115]) rfl rfl rfl ti_33 rfl rfl rfl rfl rfl ex125 rfl rfl fun wx212 ex213 y214 => ?_
 refine LP_ev ok 3 [(9, .bool true)] 4 rfl rfl ?_
 refine LP_end _ rfl (W_ret ?_)
 exact ⟨_, Ret_of [.agg #[sl a114 r107 c115], .bool true] ⟨⟨_, rfl, rfl, ld_res ti_33 ag_33 (fun h => by cases h) ex213 rfl rfl⟩, ⟨rfl, rfl⟩, trivial⟩, _, _, _, _, H, rfl, (X127.step y214 (f37.dom _)).ext, o119, (ex120.but y214 d126.symm), f121⟩

theorem spec_eResolve_w (ex : Edit) (f : Edit) (vx8 : Int) (Q : Edit → Prop) (H : spec_eResolve ex f vx8 Q) (w : World) {vx : Value} {hx : PH} (r : RS hx vx ex.Sets) (ex1 : Sub hx w) {vx2 : Value} {hx3 : PH} (r4 : RS hx3 vx2 f.Sets) (ex5 : Sub hx3 w) :
  CallsTo Try.prog 76 #[.agg #[vx], .agg #[vx2], I vx8] w fun v w' => ∃ r0 u0_0 g0_0, Q r0 ∧ v = .agg #[u0_0] ∧ Ext w w' ∧ OS 3 g0_0 emp u0_0 r0.Sets ∧ Sub g0_0 w' ∧ Fresh w.heap.size g0_0 := by
 obtain ⟨a, c, rfl⟩ := r.shape
 obtain ⟨a6, c7, rfl⟩ := r4.shape
 refine enter (args := [.agg #[sl a ex.Sets c], .agg #[sl a6 f.Sets c7], I vx8]) 48 Try.func76 rfl rfl rfl ?_
 refine W_forget [(0, .agg #[sl a ex.Sets c]), (1, .agg #[sl a6 f.Sets c7]), (2, I vx8)] ⟨rfl, rfl, rfl, trivial⟩ fun ρ => ?_
 have X := But.refl emp w
 refine W_seq (W_region ?_)
 refine LP_box 0 (cs := [sl a ex.Sets c]) rfl rfl rfl rfl rfl fun b wx x ex9 f10 => ?_
 refine LP_box 1 (cs := [sl a6 f.Sets c7]) rfl rfl rfl rfl rfl fun b11 wx12 x13 ex14 f15 => ?_
 refine LP_alloc 2 rfl rfl rfl ti_33 rfl fun b16 wx17 x18 ex19 f20 => ?_
 refine LP_end _ rfl (W_seq (W_region ?_))
 refine LP_ev ok 0 [(10, .agg #[.slice none 0 0])] 1 rfl rfl ?_
 refine LP_alloc 1 rfl rfl rfl ti_33 rfl fun b21 wx22 x23 ex24 f25 => ?_
 refine LP_stbox 2 (vs := [.slice none 0 0]) (cs' := [.slice none 0 0]) rfl rfl rfl ti_33 rfl rfl rfl rfl rfl ex24 rfl rfl fun wx26 ex27 y => ?_
 refine LP_end _ rfl (W_seq ?_)
 refine W_seq (W_region ?_)
 refine LP_ev ok 0 [(11, pb b)] 1 rfl rfl ?_
 refine LP_ldbox 1 (v := sl a ex.Sets c) rfl rfl rfl ti_31 ag_31 (fun _ => rfl) rfl ((ex9.ext ((x13.trans x18).trans x23)).but y (Dj.of_fresh (ex9.ext (x13.trans x18)) f25).symm) rfl rfl ?_
 refine LP_ev ok 2 [(13, I (ln ex.Sets)), (14, I 0)] 4 rfl rfl ?_
 refine LP_end _ rfl ?_
 refine W_block ?_
 have xc49 := (((x.trans x13).trans x18).trans x23)
 have xc51 := ((x.trans x13).trans x18)
 have f50 := f25.mono (X.stepx xc51).size
 obtain ⟨J, m, Hx, H⟩ := H
 refine W_loop (S := Int × (List Int)) (fun s ρ' w' => J s.1 s.2 ∧ ∃ (ρ : Env) (vx32 : Value) (hx33 : PH), ρ' = setAll [(2, I vx8), (4, pb b11), (6, pb b16), (7, pb b21), (12, sl a ex.Sets c), (13, I (ln ex.Sets)), (14, I s.1)] ρ ∧ But emp w w' ∧ OS 3 hx33 emp vx32 s.2 ∧ Sub hx33 w' ∧ Fresh w.heap.size hx33 ∧ Sub hx w' ∧ Sub hx3 w' ∧ Sub (bx b11 33 [sl a6 f.Sets c7]) w' ∧ Sub (bx b16 33 [.slice none 0 0]) w' ∧ Sub (bx b21 33 [vx32]) w' ∧ Dj hx33 hx ∧ Dj hx33 hx3 ∧ Dj hx33 (bx b11 33 [sl a6 f.Sets c7]) ∧ Dj hx33 (bx b16 33 [.slice none 0 0]) ∧ Dj hx33 (bx b21 33 [vx32])) (fun s => m s.1 s.2) (0, []) ⟨Hx, _, .slice none 0 0, emp, env_eq ⟨rfl, rfl, rfl, rfl, rfl, rfl, rfl, trivial⟩, ((X.stepx xc49).step y (f50.dom _)), OS.nil, (emp_sub _), (emp_fresh _), ((ex1.ext xc49).but y (Dj.of_fresh (ex1.ext xc51) f25).symm), ((ex5.ext xc49).but y (Dj.of_fresh (ex5.ext xc51) f25).symm), ((ex14.ext (x18.trans x23)).but y (Dj.of_fresh (ex14.ext x18) f25).symm), ((ex19.ext x23).but y (Dj.of_fresh ex19 f25).symm), ex27, (fun _ => .inl rfl), (fun _ => .inl rfl), (fun _ => .inl rfl), (fun _ => .inl rfl), (fun _ => .inl rfl)⟩ ?_
 rintro ⟨x31, sets⟩ _ wx36 ⟨Hi, ρ, vx32, hx33, rfl, HF⟩
 revert HF
 refine bb9 fun X48 o ex34 f35 ex37 ex38 ex39 ex40 => ?_
 refine bb6 fun ex43 d d44 d45 d46 d47 => ?_
 have H := H x31 sets Hi
 obtain ⟨a41, c42, rfl⟩ := o.shape
 refine W_seq (W_region ?_)
 refine LP_ev ok 0 [(15, .bool (decide (x31 < (ln ex.Sets))))] 1 rfl rfl ?_
 refine LP_end _ rfl (W_seq ?_)
 refine W_cond (decide (x31 < (ln ex.Sets))) rfl (fun hc => ?_) (fun hc => ?_)
 ·have H := H.1 hc
  refine W_skip ?_
  obtain ⟨k, hk, H⟩ := jn_elim H
  refine W_join2 (S := (List Int)) (fun s ρ' w' => k s ∧ ∃ (ρ : Env) (vx67 : Value) (hx68 : PH), ρ' = setAll [(2, I vx8), (4, pb b11), (6, pb b16), (7, pb b21), (12, sl a ex.Sets c), (13, I (ln ex.Sets)), (14, I x31)] ρ ∧ But emp w w' ∧ OS 3 hx68 emp vx67 s ∧ Sub hx68 w' ∧ Fresh w.heap.size hx68 ∧ Sub hx w' ∧ Sub hx3 w' ∧ Sub (bx b11 33 [sl a6 f.Sets c7]) w' ∧ Sub (bx b16 33 [.slice none 0 0]) w' ∧ Sub (bx b21 33 [vx67]) w' ∧ Dj hx68 hx ∧ Dj hx68 hx3 ∧ Dj hx68 (bx b11 33 [sl a6 f.Sets c7]) ∧ Dj hx68 (bx b16 33 [.slice none 0 0]) ∧ Dj hx68 (bx b21 33 [vx67])) ?_ ?_
  ·refine W_block ?_
   refine W_seq (W_region ?_)
   refine LP_ev ok 0 [(16, I x31)] 1 rfl rfl ?_
   obtain ⟨x86, hi, hx87, H⟩ := H
   refine LP_index 1 rfl rfl rfl Try.underlying31 ti_3 rfl rfl r hi hx87 fun a88 cs r89 d90 => ?_
   refine LP_load 2 rfl rfl rfl ti_3 ag_3 rfl r89 d90 ex37 fun vx91 r92 => ?_
   obtain rfl := r92.int
   refine LP_ev ok 3 [(8, I x31), (9, I x86)] 5 rfl rfl ?_
   refine LP_end _ rfl (W_seq (W_region ?_))
   refine LP_ev ok 0 [(19, I x31), (20, I vx8), (21, .bool (x31 == vx8))] 3 rfl rfl ?_
   refine LP_end _ rfl ?_
   refine W_cond (x31 == vx8) rfl (fun hc93 => ?_) (fun hc93 => ?_)
   ·have H := H.1 hc93
    refine W_open mix fun wx94 x95 => ?_
    refine AP_game 10 [[], [0], [], [], [3], [], [3, 4, 5], [3, 4, 5, 6], [2, 3, 4, 5, 6, 7], [2, 3, 4, 5, 6, 7, 8], [0, 1, 2, 3, 4, 5, 6, 7, 8, 9], [0, 1, 2, 3, 4, 5, 6, 7, 8, 9, 10], [0, 1, 2, 3, 4, 5, 6, 7, 8, 9, 10, 11]] [[(7, none)], [(22, some 0)], [(9, none)], [(4, none)], [(25, some 3)], [(8, none)], [(26, some 4), (27, some 5)], [(28, some 6)], [(24, some 2), (29, some 7)], [(30, some 8)]] [(2, none), (4, none), (6, none), (7, none), (12, none), (13, none), (14, none), (23, some 1), (31, some 9)] [(0, false), (1, false), (2, false), (3, false), (4, false), (5, false), (6, false), (7, false), (8, false), (9, true)] (by kernel_rfl) (by kernel_rfl) ?_
    refine GS_ev ok [(7, pb b21)] (pb b21) rfl rfl (fun _ h => h) (fun _ => rfl) ?_
    have ex96 := (ex43.ext x95)
    refine GS_r1 [(22, pb b21)] (sl a41 sets c42) rfl rfl (fun _ h => h) (fun _ w e => ex_ldbox rfl ti_31 ag_31 (fun _ => rfl) rfl e rfl rfl) ex96 ?_
    refine GS_ev ok [(9, I x86)] (I x86) rfl rfl (fun _ h => h) (fun _ => rfl) ?_
    refine GS_ev ok [(4, pb b11)] (pb b11) rfl rfl (fun _ h => h) (fun _ => rfl) ?_
    have ex97 := (ex39.ext x95)
    refine GS_r1 [(25, pb b11)] (sl a6 f.Sets c7) rfl rfl (fun _ h => h) (fun _ w e => ex_ldbox rfl ti_31 ag_31 (fun _ => rfl) rfl e rfl rfl) ex97 ?_
    refine GS_ev ok [(8, I x31)] (I x31) rfl rfl (fun _ h => h) (fun _ => rfl) ?_
    obtain ⟨x98, hi99, hx100, H⟩ := H
    obtain ⟨a101, cs102, hx105, r103, d104⟩ := run_indexAt Try.underlying31 ti_3 r4 .i64 _ x98 hi99 hx100
    refine GS_r0 [(26, sl a6 f.Sets c7), (27, I x31)] (.pointer (some a101)) rfl rfl (fun _ h => h) (fun _ _ => ex_index rfl rfl rfl (hx105 _)) ?_
    obtain ⟨vx106, hx108, r107⟩ := run_loadAt ti_3 ag_3 r103 d104
    obtain rfl := r107.int
    have ex109 := (ex38.ext x95)
    refine GS_r1 [(28, .pointer (some a101))] (I x98) rfl rfl (fun _ h => h) (fun _ w e => ex_load rfl rfl (hx108 w e)) ex109 ?_
    refine GS_ev ok [(24, I x86), (29, I x98)] (I (bits .or .i64 x86 x98)) rfl rfl (fun _ h => h) (fun _ => rfl) ?_
    refine GS_lp [(30, I (bits .or .i64 x86 x98))] rfl rfl (fun _ h => h) rfl fun ρ wx110 x111 => ?_
    refine LP_lit (α := Int) (g := emp) 0 (vs := [I (bits .or .i64 x86 x98)]) (xs := [bits .or .i64 x86 x98]) rfl rfl rfl Try.underlying31 ti_3 rfl rfl ⟨⟨_, rfl, rfl⟩, trivial⟩ rfl rfl fun hx112 vx113 wx114 x115 o116 ex117 f118 => ?_
    obtain ⟨a119, c120, rfl⟩ := o116.shape
    have xc121 := (x111.trans x115)
    refine LP_gs ⟨⟨.inl rfl, .inl rfl, .inr (ex96.ext xc121), trivial⟩, ?_⟩
    intro wx123 x124 ρ hn
    refine AP_forget [(2, I vx8), (4, pb b11), (6, pb b16), (7, pb b21), (12, sl a ex.Sets c), (13, I (ln ex.Sets)), (14, I x31), (23, sl a41 sets c42), (31, .slice a119 (List.length ([bits .or .i64 x86 x98])) c120)] (by exact hn) fun ρ => ?_
    refine AP_tail 10 [[], [0], [], [], [3], [], [3, 4, 5], [3, 4, 5, 6], [2, 3, 4, 5, 6, 7], [2, 3, 4, 5, 6, 7, 8], [0, 1, 2, 3, 4, 5, 6, 7, 8, 9], [0, 1, 2, 3, 4, 5, 6, 7, 8, 9, 10], [0, 1, 2, 3, 4, 5, 6, 7, 8, 9, 10, 11]] (by kernel_rfl) ?_
    have xc125 := (((x95.trans x111).trans x115).trans x124)
    obtain ⟨hb, H⟩ := H
    refine LP_appendf (α := Int) 10 rfl rfl rfl Try.underlying31 ti_3 rfl rfl rfl o (ex34.ext xc125) o116.readf (ex117.ext x124) (by first | omega | (simp only [ln] at *; omega)) (by first | omega | (simp only [ln] at *; omega)) fun hx128 vx129 wx130 o131 ex132 y133 dm => ?_
    obtain ⟨a134, c135, rfl⟩ := o131.shape
    refine LP_ev ok 11 [(33, pb b21)] 12 rfl rfl ?_
    have xc139 := (xc121.trans x124)
    refine LP_stbox 12 (vs := [.slice a134 (List.length (sets ++ ([bits .or .i64 x86 x98]))) c135]) (cs' := [.slice a134 (List.length (sets ++ ([bits .or .i64 x86 x98]))) c135]) rfl rfl rfl ti_31 rfl rfl rfl rfl rfl ((ex96.ext xc139).but y133 d47) rfl rfl fun wx136 ex137 y138 => ?_
    refine LP_end _ rfl ?_
    have ex142 := (ex96.ext xc139)
    have f144 := dm.fresh f35 (X48.stepx xc125).size
    have xc146 := ((x.trans x13).trans x18)
    exact ⟨sets ++ ([bits .or .i64 x86 x98]), H, _, .slice a134 (List.length (sets ++ ([bits .or .i64 x86 x98]))) c135, hx128, env_eq ⟨rfl, rfl, rfl, rfl, rfl, rfl, rfl, trivial⟩, (((X48.stepx xc125).step y133 (f35.dom _)).step y138 ((Fresh.box f50).dom _)), o131, (ex132.but y138 (DomLe.dj dm d47 ex142).symm), f144, (((ex37.ext xc125).but y133 d).but y138 (Dj.box (Dj.of_fresh (ex1.ext xc146) f25).symm)), (((ex109.ext xc139).but y133 d44).but y138 (Dj.box (Dj.of_fresh (ex5.ext xc146) f25).symm)), (((ex97.ext xc139).but y133 d45).but y138 (Dj.box (Dj.of_fresh (ex14.ext x18) f25).symm)), (((ex40.ext xc125).but y133 d46).but y138 (Dj.box (Dj.of_fresh ex19 f25).symm)), ex137, (DomLe.dj dm d (ex37.ext xc125)), (DomLe.dj dm d44 (ex109.ext xc139)), (DomLe.dj dm d45 (ex97.ext xc139)), (DomLe.dj dm d46 (ex40.ext xc125)), (Dj.box (DomLe.dj dm d47 ex142).symm).symm⟩
   have H := H.2 hc93
   refine W_open mix fun wx158 x159 => ?_
   refine AP_game 10 [[], [0], [], [], [3], [], [3, 4, 5], [3, 4, 5, 6], [2, 3, 4, 5, 6, 7], [2, 3, 4, 5, 6, 7, 8], [0, 1, 2, 3, 4, 5, 6, 7, 8, 9], [0, 1, 2, 3, 4, 5, 6, 7, 8, 9, 10], [0, 1, 2, 3, 4, 5, 6, 7, 8, 9, 10, 11]] [[(7, none)], [(34, some 0)], [(9, none)], [(4, none)], [(37, some 3)], [(8, none)], [(38, some 4), (39, some 5)], [(40, some 6)], [(36, some 2), (41, some 7)], [(42, some 8)]] [(2, none), (4, none), (6, none), (7, none), (12, none), (13, none), (14, none), (35, some 1), (43, some 9)] [(0, false), (1, false), (2, false), (3, false), (4, false), (5, false), (6, false), (7, false), (8, false), (9, true)] (by kernel_rfl) (by kernel_rfl) ?_
   refine GS_ev ok [(7, pb b21)] (pb b21) rfl rfl (fun _ h => h) (fun _ => rfl) ?_
   have ex160 := (ex43.ext x159)
   refine GS_r1 [(34, pb b21)] (sl a41 sets c42) rfl rfl (fun _ h => h) (fun _ w e => ex_ldbox rfl ti_31 ag_31 (fun _ => rfl) rfl e rfl rfl) ex160 ?_
   refine GS_ev ok [(9, I x86)] (I x86) rfl rfl (fun _ h => h) (fun _ => rfl) ?_
   refine GS_ev ok [(4, pb b11)] (pb b11) rfl rfl (fun _ h => h) (fun _ => rfl) ?_
   have ex161 := (ex39.ext x159)
   refine GS_r1 [(37, pb b11)] (sl a6 f.Sets c7) rfl rfl (fun _ h => h) (fun _ w e => ex_ldbox rfl ti_31 ag_31 (fun _ => rfl) rfl e rfl rfl) ex161 ?_
   refine GS_ev ok [(8, I x31)] (I x31) rfl rfl (fun _ h => h) (fun _ => rfl) ?_
   obtain ⟨x162, hi163, hx164, H⟩ := H
   obtain ⟨a165, cs166, hx169, r167, d168⟩ := run_indexAt Try.underlying31 ti_3 r4 .i64 _ x162 hi163 hx164
   refine GS_r0 [(38, sl a6 f.Sets c7), (39, I x31)] (.pointer (some a165)) rfl rfl (fun _ h => h) (fun _ _ => ex_index rfl rfl rfl (hx169 _)) ?_
   obtain ⟨vx170, hx172, r171⟩ := run_loadAt ti_3 ag_3 r167 d168
   obtain rfl := r171.int
   have ex173 := (ex38.ext x159)
   refine GS_r1 [(40, .pointer (some a165))] (I x162) rfl rfl (fun _ h => h) (fun _ w e => ex_load rfl rfl (hx172 w e)) ex173 ?_
   refine GS_ev ok [(36, I x86), (41, I x162)] (I (bits .and .i64 x86 x162)) rfl rfl (fun _ h => h) (fun _ => rfl) ?_
   refine GS_lp [(42, I (bits .and .i64 x86 x162))] rfl rfl (fun _ h => h) rfl fun ρ wx174 x175 => ?_
   refine LP_lit (α := Int) (g := emp) 0 (vs := [I (bits .and .i64 x86 x162)]) (xs := [bits .and .i64 x86 x162]) rfl rfl rfl Try.underlying31 ti_3 rfl rfl ⟨⟨_, rfl, rfl⟩, trivial⟩ rfl rfl fun hx176 vx177 wx178 x179 o180 ex181 f182 => ?_
   obtain ⟨a183, c184, rfl⟩ := o180.shape
   have xc185 := (x175.trans x179)
   refine LP_gs ⟨⟨.inl rfl, .inl rfl, .inr (ex160.ext xc185), trivial⟩, ?_⟩
   intro wx187 x188 ρ hn189
   refine AP_forget [(2, I vx8), (4, pb b11), (6, pb b16), (7, pb b21), (12, sl a ex.Sets c), (13, I (ln ex.Sets)), (14, I x31), (35, sl a41 sets c42), (43, .slice a183 (List.length ([bits .and .i64 x86 x162])) c184)] (by exact hn189) fun ρ => ?_
   refine AP_tail 10 [[], [0], [], [], [3], [], [3, 4, 5], [3, 4, 5, 6], [2, 3, 4, 5, 6, 7], [2, 3, 4, 5, 6, 7, 8], [0, 1, 2, 3, 4, 5, 6, 7, 8, 9], [0, 1, 2, 3, 4, 5, 6, 7, 8, 9, 10], [0, 1, 2, 3, 4, 5, 6, 7, 8, 9, 10, 11]] (by kernel_rfl) ?_
   have xc190 := (((x159.trans x175).trans x179).trans x188)
   obtain ⟨hb193, H⟩ := H
   refine LP_appendf (α := Int) 10 rfl rfl rfl Try.underlying31 ti_3 rfl rfl rfl o (ex34.ext xc190) o180.readf (ex181.ext x188) (by first | omega | (simp only [ln] at *; omega)) (by first | omega | (simp only [ln] at *; omega)) fun hx194 vx195 wx196 o197 ex198 y199 dm200 => ?_
   obtain ⟨a201, c202, rfl⟩ := o197.shape
   refine LP_ev ok 11 [(45, pb b21)] 12 rfl rfl ?_
   have xc206 := (xc185.trans x188)
   refine LP_stbox 12 (vs := [.slice a201 (List.length (sets ++ ([bits .and .i64 x86 x162]))) c202]) (cs' := [.slice a201 (List.length (sets ++ ([bits .and .i64 x86 x162]))) c202]) rfl rfl rfl ti_31 rfl rfl rfl rfl rfl ((ex160.ext xc206).but y199 d47) rfl rfl fun wx203 ex204 y205 => ?_
   refine LP_end _ rfl ?_
   have ex209 := (ex160.ext xc206)
   have f211 := dm200.fresh f35 (X48.stepx xc190).size
   have xc213 := ((x.trans x13).trans x18)
   exact ⟨sets ++ ([bits .and .i64 x86 x162]), H, _, .slice a201 (List.length (sets ++ ([bits .and .i64 x86 x162]))) c202, hx194, env_eq ⟨rfl, rfl, rfl, rfl, rfl, rfl, rfl, trivial⟩, (((X48.stepx xc190).step y199 (f35.dom _)).step y205 ((Fresh.box f50).dom _)), o197, (ex198.but y205 (DomLe.dj dm200 d47 ex209).symm), f211, (((ex37.ext xc190).but y199 d).but y205 (Dj.box (Dj.of_fresh (ex1.ext xc213) f25).symm)), (((ex173.ext xc206).but y199 d44).but y205 (Dj.box (Dj.of_fresh (ex5.ext xc213) f25).symm)), (((ex161.ext xc206).but y199 d45).but y205 (Dj.box (Dj.of_fresh (ex14.ext x18) f25).symm)), (((ex40.ext xc190).but y199 d46).but y205 (Dj.box (Dj.of_fresh ex19 f25).symm)), ex204, (DomLe.dj dm200 d (ex37.ext xc190)), (DomLe.dj dm200 d44 (ex173.ext xc206)), (DomLe.dj dm200 d45 (ex161.ext xc206)), (DomLe.dj dm200 d46 (ex40.ext xc190)), (Dj.box (DomLe.dj dm200 d47 ex209).symm).symm⟩
  rintro sets66 _ wx72 ⟨H, ρ, vx67, hx68, rfl, HF⟩
  revert HF
  refine bb9 fun X85 o69 ex70 f71 ex73 ex74 ex75 ex76 => ?_
  refine bb6 fun ex79 d80 d81 d82 d83 d84 => ?_
  subst hk
  obtain ⟨a77, c78, rfl⟩ := o69.shape
  refine W_region ?_
  refine LP_ev ok 0 [(46, I (wr (x31 + 1))), (14, I (wr (x31 + 1)))] 2 rfl rfl ?_
  exact LP_end _ rfl ⟨(wr (x31 + 1), sets66), ⟨H.1, _, sl a77 sets66 c78, hx68, env_eq ⟨rfl, rfl, rfl, rfl, rfl, rfl, rfl, trivial⟩, X85, o69, ex70, f71, ex73, ex74, ex75, ex76, ex79, d80, d81, d82, d83, d84⟩, H.2⟩
 have H := H.2 hc
 refine W_exit ?_
 refine (if_pos rfl).mpr ?_
 refine W_seq (W_region ?_)
 refine LP_ldbox 0 (v := .agg #[sl a41 sets c42]) rfl rfl rfl ti_33 ag_33 (fun h => by cases h) rfl ex43 rfl rfl ?_
 refine LP_stbox 1 (vs := [sl a41 sets c42]) (cs' := [sl a41 sets c42]) rfl rfl rfl ti_33 rfl rfl rfl rfl rfl ex40 rfl rfl fun wx225 ex226 y227 => ?_
 refine LP_end _ rfl (W_ret ?_)
 have f229 := f20.mono (X.stepx (x.trans x13)).size
 exact ⟨_, Ret_of [.agg #[sl a41 sets c42]] ⟨⟨_, rfl, rfl, ld_res ti_33 ag_33 (fun h => by cases h) ex226 rfl rfl⟩, trivial⟩, _, _, _, H, rfl, (X48.step y227 (f229.dom _)).ext, o, (ex34.but y227 d46.symm), f35⟩

theorem spec_ResolveEdits_w (sx : List Variable) (ex1 : Edit) (f : Edit) (vx14 : Int) (Q : Edit → Bool → Prop) (H : spec_ResolveEdits sx ex1 f vx14 Q) (w : World) {vx : Value} {hx : PH} (r : RS hx vx sx) (ex : Sub hx w) {vx2 : Value} {hx3 : PH} (r4 : RS hx3 vx2 ex1.Sets) (ex5 : Sub hx3 w) {vx8 : Value} {hx9 : PH} (r10 : RS hx9 vx8 f.Sets) (ex11 : Sub hx9 w) :
  CallsTo Try.prog 18 #[vx, .agg #[vx2], .agg #[vx8], I vx14] w fun v w' => ∃ r0 r1 u0_0 g0_0, Q r0 r1 ∧ v = .tuple #[.agg #[u0_0], .bool r1] ∧ Ext w w' ∧ OS 3 g0_0 emp u0_0 r0.Sets ∧ Sub g0_0 w' ∧ Fresh w.heap.size g0_0 := by
 obtain ⟨a, c, rfl⟩ := r.shape
 obtain ⟨a6, c7, rfl⟩ := r4.shape
 obtain ⟨a12, c13, rfl⟩ := r10.shape
 refine enter (args := [sl a sx c, .agg #[sl a6 ex1.Sets c7], .agg #[sl a12 f.Sets c13], I vx14]) 36 Try.func18 rfl rfl rfl ?_
 refine W_forget [(0, sl a sx c), (1, .agg #[sl a6 ex1.Sets c7]), (2, .agg #[sl a12 f.Sets c13]), (3, I vx14)] ⟨rfl, rfl, rfl, rfl, trivial⟩ fun ρ => ?_
 have X := But.refl emp w
 refine W_seq (W_region ?_)
 refine LP_box 0 (cs := [sl a6 ex1.Sets c7]) rfl rfl rfl rfl rfl fun b wx x ex15 f16 => ?_
 refine LP_box 1 (cs := [sl a12 f.Sets c13]) rfl rfl rfl rfl rfl fun b17 wx18 x19 ex20 f21 => ?_
 refine LP_alloc 2 rfl rfl rfl ti_33 rfl fun b22 wx23 x24 ex25 f26 => ?_
 refine LP_ev ok 3 [(9, .bool false)] 4 rfl rfl ?_
 refine LP_end _ rfl (W_seq ?_)
 have xc := ((x.trans x19).trans x24)
 have X27 := (X.stepx xc)
 have ex29 := (ex5.ext xc)
 have ex30 := (ex11.ext xc)
 have ex32 := (ex15.ext (x19.trans x24))
 have ex34 := (ex20.ext x24)
 have f37 := f26.mono ((X.stepx x).stepx x19).size
 obtain ⟨k, hk, H⟩ := jn_elim H
 refine W_join2 (S := Bool) (fun s ρ' w' => k s ∧ ∃ (ρ : Env), ρ' = setAll [(0, sl a sx c), (3, I vx14), (5, pb b), (6, pb b17), (8, pb b22), (24, .bool s)] ρ ∧ But emp w w' ∧ Sub hx w' ∧ Sub hx3 w' ∧ Sub hx9 w' ∧ Sub (bx b 33 [sl a6 ex1.Sets c7]) w' ∧ Sub (bx b17 33 [sl a12 f.Sets c13]) w' ∧ Sub (bx b22 33 [.slice none 0 0]) w') ?_ ?_
 ·refine W_region ?_
  refine LP_ev ok 0 [(11, sl a sx c)] 1 rfl rfl ?_
  refine LP_ldbox 1 (v := .agg #[sl a6 ex1.Sets c7]) rfl rfl rfl ti_33 ag_33 (fun h => by cases h) rfl ex32 rfl rfl ?_
  refine LP_ldbox 2 (v := .agg #[sl a12 f.Sets c13]) rfl rfl rfl ti_33 ag_33 (fun h => by cases h) rfl ex34 rfl rfl ?_
  refine LP_lit (α := Edit) (g := (un hx3 hx9)) 3 (vs := [.agg #[sl a6 ex1.Sets c7], .agg #[sl a12 f.Sets c13]]) (xs := [((Edit.mk ex1.Sets) : Edit), ((Edit.mk f.Sets) : Edit)]) rfl rfl rfl Try.underlying25 ti_33 rfl rfl ⟨⟨_, ⟨_, rfl, RS.le (Le.un_left _ _) r4⟩, rfl⟩, ⟨_, ⟨_, rfl, RS.le (Le.trans (Le.refl _) (Le.un_right ex29 ex30)) r10⟩, rfl⟩, trivial⟩ rfl rfl fun hx48 vx49 wx50 x51 o ex52 f53 => ?_
  have ex55 : Sub (un hx48 (un hx3 hx9)) wx50 := Sub.un ex52 ((Sub.un ex29 ex30).ext x51)
  have r54 : RS (un hx48 (un hx3 hx9)) vx49 [((Edit.mk ex1.Sets) : Edit), ((Edit.mk f.Sets) : Edit)] := OS.read o (Le.un_left _ _) (Le.un_right ex52 ((Sub.un ex29 ex30).ext x51))
  obtain ⟨a56, c57, rfl⟩ := r54.shape
  have ex59 := ((ex.ext xc).ext x51)
  refine LP_call 4 rfl rfl rfl cal_65 rfl (spec_eSmall_w _ _ _ H wx50 r ex59 r54 ex55) ?_
  rintro _ wx60 ⟨r58, H, rfl, x61⟩
  refine LP_ev ok 5 [(16, .bool (!r58)), (17, .bool (!r58))] 7 rfl rfl ?_
  refine LP_split 17 (!r58) rfl (fun hc => ?_) (fun hc => ?_)
  ·have H := H.1 hc
   refine LP_ev ok 7 [(18, undef), (19, undef), (20, undef), (21, undef), (22, undef), (23, undef), (24, .bool true)] 14 rfl rfl ?_
   refine LP_end _ rfl ?_
   have xc62 := (x51.trans x61)
   exact ⟨true, H, _, env_eq ⟨rfl, rfl, rfl, rfl, rfl, rfl, trivial⟩, (X27.stepx xc62), (ex59.ext x61), (ex29.ext xc62), (ex30.ext xc62), (ex32.ext xc62), (ex34.ext xc62), (ex25.ext xc62)⟩
  have H := H.2 hc
  refine LP_ev ok 7 [(18, I vx14), (19, sl a sx c), (20, I (ln sx)), (21, I (wr ((ln sx) - 1)))] 11 rfl rfl ?_
  refine LP_call 11 rfl rfl rfl cal_75 rfl (spec_l1In_w _ _ _ _ H wx60 ) ?_
  rintro _ wx71 ⟨r70, H, rfl, x72⟩
  refine LP_ev ok 12 [(23, .bool (!r70)), (24, .bool (!r70))] 14 rfl rfl ?_
  refine LP_end _ rfl ?_
  have xc73 := ((x51.trans x61).trans x72)
  exact ⟨!r70, H, _, env_eq ⟨rfl, rfl, rfl, rfl, rfl, rfl, trivial⟩, (X27.stepx xc73), (ex59.ext (x61.trans x72)), (ex29.ext xc73), (ex30.ext xc73), (ex32.ext xc73), (ex34.ext xc73), (ex25.ext xc73)⟩
 rintro x39 _ wx40 ⟨H, ρ, rfl, HF⟩
 revert HF
 refine bb7 fun X47 ex41 ex42 ex43 ex44 ex45 ex46 => ?_
 subst hk
 refine W_cond (x39) rfl (fun hc82 => ?_) (fun hc82 => ?_)
 ·have H := H.1 hc82
  refine W_seq (W_region ?_)
  refine LP_ev ok 0 [(25, .agg #[.slice none 0 0])] 1 rfl rfl ?_
  refine LP_stbox 1 (vs := [.slice none 0 0]) (cs' := [.slice none 0 0]) rfl rfl rfl ti_33 rfl rfl rfl rfl rfl ex46 rfl rfl fun wx83 ex84 y => ?_
  refine LP_ev ok 2 [(9, .bool false)] 3 rfl rfl ?_
  refine LP_end _ rfl (W_ret ?_)
  exact ⟨_, Ret_of [.agg #[.slice none 0 0], .bool false] ⟨⟨_, rfl, rfl, ld_res ti_33 ag_33 (fun h => by cases h) ex84 rfl rfl⟩, ⟨rfl, rfl⟩, trivial⟩, _, _, _, emp, H, rfl, (X47.step y (f37.dom _)).ext, OS.nil, (emp_sub _), (emp_fresh _)⟩
 have H := H.2 hc82
 refine W_skip ?_
 refine W_seq (W_region ?_)
 refine LP_ldbox 0 (v := .agg #[sl a6 ex1.Sets c7]) rfl rfl rfl ti_33 ag_33 (fun h => by cases h) rfl ex44 rfl rfl ?_
 refine LP_ldbox 1 (v := .agg #[sl a12 f.Sets c13]) rfl rfl rfl ti_33 ag_33 (fun h => by cases h) rfl ex45 rfl rfl ?_
 refine LP_ev ok 2 [(28, I vx14)] 3 rfl rfl ?_
 refine LP_call 3 rfl rfl rfl cal_76 rfl (spec_eResolve_w _ _ _ _ H wx40 r4 ex42 r10 ex43) ?_
 rintro _ wx87 ⟨r86, vx89, hx90, H, rfl, x88, o91, ex92, f93⟩
 obtain ⟨a94, c95, rfl⟩ := o91.shape
 refine LP_alloc 4 rfl rfl rfl ti_33 rfl fun b96 wx97 x98 ex99 f100 => ?_
 refine LP_stbox 5 (vs := [sl a94 r86.Sets c95]) (cs' := [sl a94 r86.Sets c95]) rfl rfl rfl ti_33 rfl rfl rfl rfl rfl ex99 rfl rfl fun wx101 ex102 y103 => ?_
 refine LP_end _ rfl (W_seq ?_)
 refine W_seq (W_region ?_)
 refine LP_ev ok 0 [(30, sl a sx c)] 1 rfl rfl ?_
 refine LP_ldbox 1 (v := .agg #[sl a94 r86.Sets c95]) rfl rfl rfl ti_33 ag_33 (fun h => by cases h) rfl ex102 rfl rfl ?_
 have xc105 := (x88.trans x98)
 have ex108 := ((ex92.ext x98).but y103 (Dj.of_fresh ex92 f100).symm)
 refine LP_call 2 rfl rfl rfl cal_77 rfl (spec_eGood_w _ _ _ H wx101 r ((ex41.ext xc105).but y103 (Dj.of_fresh (ex41.ext x88) f100).symm) o91.readf ex108) ?_
 rintro _ wx109 ⟨r104, H, rfl, x110⟩
 refine LP_ev ok 3 [(33, .bool (!r104))] 4 rfl rfl ?_
 refine LP_end _ rfl ?_
 refine W_cond (!r104) rfl (fun hc111 => ?_) (fun hc111 => ?_)
 ·have H := H.1 hc111
  refine W_seq (W_region ?_)
  refine LP_ev ok 0 [(34, .agg #[.slice none 0 0])] 1 rfl rfl ?_
  refine LP_stbox 1 (vs := [.slice none 0 0]) (cs' := [.slice none 0 0]) rfl rfl rfl ti_33 rfl rfl rfl rfl rfl (((ex46.ext xc105).but y103 (Dj.of_fresh (ex46.ext x88) f100).symm).ext x110) rfl rfl fun wx112 ex113 y114 => ?_
  refine LP_ev ok 2 [(9, .bool false)] 3 rfl rfl ?_
  refine LP_end _ rfl (W_ret ?_)
  have f117 := f100.mono (X47.stepx x88).size
  exact ⟨_, Ret_of [.agg #[.slice none 0 0], .bool false] ⟨⟨_, rfl, rfl, ld_res ti_33 ag_33 (fun h => by cases h) ex113 rfl rfl⟩, ⟨rfl, rfl⟩, trivial⟩, _, _, _, emp, H, rfl, ((((X47.stepx xc105).step y103 (f117.dom _)).stepx x110).step y114 (f37.dom _)).ext, OS.nil, (emp_sub _), (emp_fresh _)⟩
 have H := H.2 hc111
 refine W_skip ?_
 refine W_seq (W_region ?_)
 refine LP_ldbox 0 (v := .agg #[sl a94 r86.Sets c95]) rfl rfl rfl ti_33 ag_33 (fun h => by cases h) rfl (ex102.ext x110) rfl rfl ?_
 refine LP_stbox 1 (vs := [sl a94 r86.Sets c95]) (cs' := [sl a94 r86.Sets c95]) rfl rfl rfl ti_33 rfl rfl rfl rfl rfl (((ex46.ext xc105).but y103 (Dj.of_fresh (ex46.ext x88) f100).symm).ext x110) rfl rfl fun wx121 ex122 y123 => ?_
 refine LP_ev ok 2 [(9, .bool true)] 3 rfl rfl ?_
 refine LP_end _ rfl (W_ret ?_)
 have f127 := f93.mono X47.size
 have f128 := f100.mono (X47.stepx x88).size
 exact ⟨_, Ret_of [.agg #[sl a94 r86.Sets c95], .bool true] ⟨⟨_, rfl, rfl, ld_res ti_33 ag_33 (fun h => by cases h) ex122 rfl rfl⟩, ⟨rfl, rfl⟩, trivial⟩, _, _, _, _, H, rfl, ((((X47.stepx xc105).step y103 (f128.dom _)).stepx x110).step y123 (f37.dom _)).ext, o91, ((ex108.ext x110).but y123 (Dj.of_fresh ex46 f93)), f127⟩

theorem laws_FnImplied_w (code : List B8) (more : List B8) (Q : Bool → Prop) (H : laws_FnImplied code more Q) (w : World) {vx : Value} {hx : PH} (r : RS hx vx code) (ex : Sub hx w) {vx1 : Value} {hx2 : PH} (r3 : RS hx2 vx1 more) (ex4 : Sub hx2 w) :
  CallsTo Try.prog 3 #[vx, vx1] w fun v w' => ∃ r0, Q r0 ∧ v = .bool r0 ∧ Ext w w' := by
 obtain ⟨a, c, rfl⟩ := r.shape
 obtain ⟨a5, c6, rfl⟩ := r3.shape
 refine enter (args := [sl a code c, sl a5 more c6]) 159 Try.func3 rfl rfl rfl ?_
 refine W_forget [(0, sl a code c), (1, sl a5 more c6)] ⟨rfl, rfl, trivial⟩ fun ρ => ?_
 have X := But.refl emp w
 refine W_seq (W_region ?_)
 refine LP_ev ok 0 [(4, .bool false)] 1 rfl rfl ?_
 refine LP_end _ rfl (W_seq ?_)
 refine W_seq (W_region ?_)
 refine LP_ev ok 0 [(29, sl a code c), (30, sl a5 more c6)] 2 rfl rfl ?_
 refine LP_call 2 rfl rfl rfl cal_10 rfl (laws_big_w _ _ _ H w r ex r3 ex4) ?_
 rintro _ wx ⟨r7, H, rfl, x⟩
 refine LP_end _ rfl ?_
 refine W_cond (r7) rfl (fun hc => ?_) (fun hc => ?_)
 ·have H := H.1 hc
  refine W_seq (W_region ?_)
  refine LP_ev ok 0 [(4, .bool true)] 1 rfl rfl ?_
  refine LP_end _ rfl (W_ret ?_)
  exact ⟨_, Ret_of [.bool true] ⟨⟨rfl, rfl⟩, trivial⟩, _, H, rfl, (X.stepx x).ext⟩
 have H := H.2 hc
 refine W_skip ?_
 refine W_seq (W_region ?_)
 refine LP_ev ok 0 [(33, sl a code c)] 1 rfl rfl ?_
 refine LP_call 1 rfl rfl rfl cal_11 rfl (spec_DrawMaximalEdits_w _ _ H wx r (ex.ext x)) ?_
 rintro _ wx12 ⟨r9, r10, vx14, hx15, vx17, hx18, H, rfl, x13, HF⟩
 revert HF
 refine bb7 fun o ex16 f o19 ex20 f21 d => ?_
 obtain ⟨a22, c23, rfl⟩ := o.shape
 obtain ⟨a24, c25, rfl⟩ := o19.shape
 refine LP_ev ok 2 [(32, .tuple #[sl a22 r9 c23, sl a24 r10 c25]), (35, sl a22 r9 c23), (36, sl a24 r10 c25), (5, sl a22 r9 c23), (6, sl a24 r10 c25)] 7 rfl rfl ?_
 refine LP_end _ rfl (W_seq (W_region ?_))
 refine LP_ev ok 0 [(38, sl a22 r9 c23), (39, sl a24 r10 c25)] 2 rfl rfl ?_
 refine LP_call 2 rfl rfl rfl cal_12 rfl (impl_MaximalEdits_w _ _ _ H wx12 o.readf ex16 o19.readf ex20) ?_
 rintro _ wx28 ⟨r26, r27, vx30, hx31, H, rfl, x29, o32, ex33, f34⟩
 obtain ⟨a35, c36, rfl⟩ := o32.shape
 refine LP_ev ok 3 [(37, .tuple #[sl a35 r26 c36, .bool r27]), (41, sl a35 r26 c36), (42, .bool r27), (7, sl a35 r26 c36), (8, .bool r27)] 8 rfl rfl ?_
 refine LP_end _ rfl (W_seq (W_region ?_))
 refine LP_ev ok 0 [(44, sl a22 r9 c23), (45, sl a24 r10 c25)] 2 rfl rfl ?_
 have ex39 := (ex16.ext x29)
 have ex40 := (ex20.ext x29)
 refine LP_call 2 rfl rfl rfl cal_13 rfl (spec_MaximalEdits_w _ _ _ H wx28 o.readf ex39 o19.readf ex40) ?_
 rintro _ wx41 ⟨r37, r38, vx43, hx44, H, rfl, x42, o45, ex46, f47⟩
 obtain ⟨a48, c49, rfl⟩ := o45.shape
 refine LP_ev ok 3 [(43, .tuple #[sl a48 r37 c49, .bool r38]), (47, sl a48 r37 c49), (48, .bool r38), (9, sl a48 r37 c49), (10, .bool r38)] 8 rfl rfl ?_
 refine LP_end _ rfl ?_
 try refine W_forget [(1, sl a5 more c6), (5, sl a22 r9 c23), (6, sl a24 r10 c25), (7, sl a35 r26 c36), (8, .bool r27), (9, sl a48 r37 c49), (10, .bool r38)] ⟨rfl, rfl, rfl, rfl, rfl, rfl, rfl, trivial⟩ fun ρ => ?_
 refine W_seq ?_
 have xc := (((x.trans x13).trans x29).trans x42)
 have X50 := (X.stepx xc)
 have ex51 := (ex4.ext xc)
 have ex52 := (ex39.ext x42)
 have ex55 := (ex40.ext x42)
 obtain ⟨k, hk, H⟩ := jn_elim H
 refine W_join2 (S := Bool) (fun s ρ' w' => k s ∧ ∃ (ρ : Env), ρ' = setAll [(1, sl a5 more c6), (5, sl a22 r9 c23), (6, sl a24 r10 c25), (8, .bool r27), (9, sl a48 r37 c49), (57, .bool s)] ρ ∧ But emp w w' ∧ Sub hx2 w' ∧ Sub hx15 w' ∧ Sub hx18 w' ∧ Sub hx44 w') ?_ ?_
 ·refine W_region ?_
  refine LP_ev ok 0 [(49, .bool r27), (50, .bool r38), (51, .bool (r27 != r38)), (52, .bool (r27 != r38))] 4 rfl rfl ?_
  refine LP_split 52 (r27 != r38) rfl (fun hc69 => ?_) (fun hc69 => ?_)
  ·have H := H.1 hc69
   refine LP_ev ok 4 [(53, undef), (54, undef), (55, undef), (56, undef), (57, .bool true)] 9 rfl rfl ?_
   exact LP_end _ rfl ⟨true, H, _, env_eq ⟨rfl, rfl, rfl, rfl, rfl, rfl, trivial⟩, X50, ex51, ex52, ex55, ex46⟩
  have H := H.2 hc69
  refine LP_ev ok 4 [(53, sl a35 r26 c36), (54, sl a48 r37 c49)] 6 rfl rfl ?_
  refine LP_call 6 rfl rfl rfl cal_14 rfl (laws_pSameEdits_w _ _ _ H wx41 o32.readf (ex33.ext x42) o45.readf ex46) ?_
  rintro _ wx71 ⟨r70, H, rfl, x72⟩
  refine LP_ev ok 7 [(56, .bool (!r70)), (57, .bool (!r70))] 9 rfl rfl ?_
  exact LP_end _ rfl ⟨!r70, H, _, env_eq ⟨rfl, rfl, rfl, rfl, rfl, rfl, trivial⟩, (X50.stepx x72), (ex51.ext x72), (ex52.ext x72), (ex55.ext x72), (ex46.ext x72)⟩
 rintro x62 _ wx63 ⟨H, ρ, rfl, HF⟩
 revert HF
 refine bb5 fun X68 ex64 ex65 ex66 ex67 => ?_
 subst hk
 refine W_cond (x62) rfl (fun hc78 => ?_) (fun hc78 => ?_)
 ·have H := H.1 hc78
  refine W_seq (W_region ?_)
  refine LP_ev ok 0 [(4, .bool false)] 1 rfl rfl ?_
  refine LP_end _ rfl (W_ret ?_)
  exact ⟨_, Ret_of [.bool false] ⟨⟨rfl, rfl⟩, trivial⟩, _, H, rfl, X68.ext⟩
 have H := H.2 hc78
 refine W_skip ?_
 refine W_seq ?_
 refine W_seq (W_region ?_)
 refine LP_ev ok 0 [(58, sl a48 r37 c49), (59, I (ln r37)), (60, I 0)] 3 rfl rfl ?_
 refine LP_end _ rfl ?_
 refine W_block ?_
 obtain ⟨J, m, Hx, H⟩ := H
 refine W_loop (S := Int) (fun s ρ' w' => J s ∧ ∃ (ρ : Env), ρ' = setAll [(1, sl a5 more c6), (5, sl a22 r9 c23), (6, sl a24 r10 c25), (8, .bool r27), (9, sl a48 r37 c49), (58, sl a48 r37 c49), (59, I (ln r37)), (60, I s)] ρ ∧ But emp w w' ∧ Sub hx2 w' ∧ Sub hx15 w' ∧ Sub hx18 w' ∧ Sub hx44 w') (fun s => m s) 0 ⟨Hx, _, env_eq ⟨rfl, rfl, rfl, rfl, rfl, rfl, rfl, rfl, trivial⟩, X68, ex64, ex65, ex66, ex67⟩ ?_
 rintro x79 _ wx80 ⟨Hi, ρ, rfl, HF⟩
 revert HF
 refine bb5 fun X85 ex81 ex82 ex83 ex84 => ?_
 have H := H x79 Hi
 refine W_seq (W_region ?_)
 refine LP_ev ok 0 [(61, .bool (decide (x79 < (ln r37))))] 1 rfl rfl ?_
 refine LP_end _ rfl (W_seq ?_)
 refine W_cond (decide (x79 < (ln r37))) rfl (fun hc86 => ?_) (fun hc86 => ?_)
 ·have H := H.1 hc86
  refine W_skip ?_
  refine W_seq ?_
  refine W_block ?_
  refine W_seq (W_region ?_)
  refine LP_ev ok 0 [(62, I x79)] 1 rfl rfl ?_
  obtain ⟨x87, hi, hx88, H⟩ := H
  refine LP_index 1 rfl rfl rfl Try.underlying25 ti_33 rfl rfl o45.readf hi hx88 fun a89 cs r90 d91 => ?_
  have d92 := d91
  obtain ⟨u, rfl, r93⟩ := Edit_rd d92
  obtain ⟨a94, c95, rfl⟩ := r93.shape
  refine LP_load 2 rfl rfl rfl ti_33 ag_33 rfl r90 d91 ex84 fun vx96 r97 => ?_
  obtain ⟨u98, rfl, r99⟩ := Edit_rv r97
  obtain ⟨a100, c101, rfl⟩ := r99.shape
  refine LP_alloc 3 rfl rfl rfl ti_33 rfl fun b wx102 x103 ex104 f105 => ?_
  refine LP_ev ok 4 [(11, I x79)] 5 rfl rfl ?_
  refine LP_stbox 5 (vs := [sl a100 x87.Sets c101]) (cs' := [sl a100 x87.Sets c101]) rfl rfl rfl ti_33 rfl rfl rfl rfl rfl ex104 rfl rfl fun wx106 ex107 y => ?_
  refine LP_end _ rfl (W_seq (W_region ?_))
  refine LP_ev ok 0 [(66, sl a22 r9 c23), (67, sl a24 r10 c25)] 2 rfl rfl ?_
  refine LP_ldbox 2 (v := .agg #[sl a100 x87.Sets c101]) rfl rfl rfl ti_33 ag_33 (fun h => by cases h) rfl ex107 rfl rfl ?_
  have ex110 := ((ex82.ext x103).but y (Dj.of_fresh ex82 f105).symm)
  have ex111 := ((ex83.ext x103).but y (Dj.of_fresh ex83 f105).symm)
  have ex112 := ((ex84.ext x103).but y (Dj.of_fresh ex84 f105).symm)
  refine LP_call 3 rfl rfl rfl cal_15 rfl (impl_IsImplied_w _ _ _ _ H wx106 o.readf ex110 o19.readf ex111 r99 ex112) ?_
  rintro _ wx113 ⟨r108, r109, H, rfl, x114⟩
  refine LP_ev ok 4 [(65, .tuple #[.bool r108, .bool r109]), (70, .bool r108), (71, .bool r109), (13, .bool r108), (14, .bool r109)] 9 rfl rfl ?_
  refine LP_end _ rfl ?_
  have f115 := f105.mono X85.size
  have X116 := (((X85.stepx x103).step y (f115.dom _)).stepx x114)
  obtain ⟨k123, hk124, H⟩ := jn_elim H
  refine W_join2 (S := Bool) (fun s ρ' w' => k123 s ∧ ∃ (ρ : Env), ρ' = setAll [(1, sl a5 more c6), (5, sl a22 r9 c23), (6, sl a24 r10 c25), (8, .bool r27), (9, sl a48 r37 c49), (11, I x79), (58, sl a48 r37 c49), (59, I (ln r37)), (60, I x79), (81, .bool s)] ρ ∧ wx113 = w') ?_ ?_
  ·refine W_region ?_
   refine LP_ev ok 0 [(72, .bool r109), (73, .bool (!r109)), (74, .bool (!r109))] 3 rfl rfl ?_
   refine LP_split 74 (!r109) rfl (fun hc125 => ?_) (fun hc125 => ?_)
   ·have H := H.1 hc125
    refine LP_ev ok 3 [(75, undef), (76, undef), (77, .bool true), (78, .bool true), (79, undef), (80, undef), (81, .bool true)] 10 rfl rfl ?_
    refine LP_end _ rfl ?_
    try refine W_forget [(1, sl a5 more c6), (5, sl a22 r9 c23), (6, sl a24 r10 c25), (8, .bool r27), (9, sl a48 r37 c49), (11, I x79), (58, sl a48 r37 c49), (59, I (ln r37)), (60, I x79), (81, .bool true)] ⟨rfl, rfl, rfl, rfl, rfl, rfl, rfl, rfl, rfl, rfl, trivial⟩ fun ρ => ?_
    exact ⟨true, H, _, env_eq ⟨rfl, rfl, rfl, rfl, rfl, rfl, rfl, rfl, rfl, rfl, trivial⟩, rfl⟩
   have H := H.2 hc125
   refine LP_ev ok 3 [(75, .bool r108), (76, .bool (!r108)), (77, .bool (!r108)), (78, .bool (!r108))] 7 rfl rfl ?_
   refine LP_split 78 (!r108) rfl (fun hc126 => ?_) (fun hc126 => ?_)
   ·have H := H.1 hc126
    refine LP_ev ok 7 [(79, undef), (80, undef), (81, .bool true)] 10 rfl rfl ?_
    refine LP_end _ rfl ?_
    try refine W_forget [(1, sl a5 more c6), (5, sl a22 r9 c23), (6, sl a24 r10 c25), (8, .bool r27), (9, sl a48 r37 c49), (11, I x79), (58, sl a48 r37 c49), (59, I (ln r37)), (60, I x79), (75, .bool r108), (76, .bool (!r108)), (81, .bool true)] ⟨rfl, rfl, rfl, rfl, rfl, rfl, rfl, rfl, rfl, rfl, rfl, rfl, trivial⟩ fun ρ => ?_
    exact ⟨true, H, _, env_eq ⟨rfl, rfl, rfl, rfl, rfl, rfl, rfl, rfl, rfl, rfl, trivial⟩, rfl⟩
   have H := H.2 hc126
   refine LP_ev ok 7 [(79, I x79), (80, .bool (decide (x79 > 40))), (81, .bool (decide (x79 > 40)))] 10 rfl rfl ?_
   refine LP_end _ rfl ?_
   try refine W_forget [(1, sl a5 more c6), (5, sl a22 r9 c23), (6, sl a24 r10 c25), (8, .bool r27), (9, sl a48 r37 c49), (11, I x79), (58, sl a48 r37 c49), (59, I (ln r37)), (60, I x79), (75, .bool r108), (76, .bool (!r108)), (79, I x79), (80, .bool (decide (x79 > 40))), (81, .bool (decide (x79 > 40)))] ⟨rfl, rfl, rfl, rfl, rfl, rfl, rfl, rfl, rfl, rfl, rfl, rfl, rfl, rfl, trivial⟩ fun ρ => ?_
   exact ⟨decide (x79 > 40), H, _, env_eq ⟨rfl, rfl, rfl, rfl, rfl, rfl, rfl, rfl, rfl, rfl, trivial⟩, rfl⟩
  rintro x121 _ _ ⟨H, ρ, rfl, rfl⟩
  subst hk124
  refine W_cond (x121) rfl (fun hc127 => ?_) (fun hc127 => ?_)
  ·have H := H.1 hc127
   refine W_seq (W_region ?_)
   refine LP_ev ok 0 [(82, I x79), (83, .bool (decide (x79 > 40))), (4, .bool (decide (x79 > 40)))] 3 rfl rfl ?_
   refine LP_end _ rfl (W_ret ?_)
   exact ⟨_, Ret_of [.bool (decide (x79 > 40))] ⟨⟨rfl, rfl⟩, trivial⟩, _, H, rfl, X116.ext⟩
  have H := H.2 hc127
  refine W_skip ?_
  refine W_region ?_
  refine LP_ev ok 0 [(84, I (wr (x79 + 1))), (60, I (wr (x79 + 1)))] 2 rfl rfl ?_
  exact LP_end _ rfl ⟨wr (x79 + 1), ⟨H.1, _, env_eq ⟨rfl, rfl, rfl, rfl, rfl, rfl, rfl, rfl, trivial⟩, X116, (((ex81.ext x103).but y (Dj.of_fresh ex81 f105).symm).ext x114), (ex110.ext x114), (ex111.ext x114), (ex112.ext x114)⟩, H.2⟩
 have H := H.2 hc86
 refine W_exit ?_
 refine (if_pos rfl).mpr ?_
 obtain ⟨k131, hk132, H⟩ := jn_elim H
 refine W_join2 (S := Unit) (fun s ρ' w' => k131 ∧ ∃ (ρ : Env), ρ' = setAll [(1, sl a5 more c6)] ρ ∧ But emp w w' ∧ Sub hx2 w') ?_ ?_
 ·obtain ⟨k135, hk136, H⟩ := jn_elim H
  refine W_join2 (S := Bool) (fun s ρ' w' => k135 s ∧ ∃ (ρ : Env), ρ' = setAll [(1, sl a5 more c6), (5, sl a22 r9 c23), (6, sl a24 r10 c25), (9, sl a48 r37 c49), (90, .bool s)] ρ ∧ wx80 = w') ?_ ?_
  ·refine W_region ?_
   refine LP_ev ok 0 [(85, .bool r27), (86, .bool r27)] 2 rfl rfl ?_
   refine LP_split 86 (r27) rfl (fun hc137 => ?_) (fun hc137 => ?_)
   ·have H := H.1 hc137
    refine LP_ev ok 2 [(87, sl a48 r37 c49), (88, I (ln r37)), (89, .bool (decide ((ln r37) ≤ 40))), (90, .bool (decide ((ln r37) ≤ 40)))] 6 rfl rfl ?_
    exact LP_end _ rfl ⟨decide ((ln r37) ≤ 40), H, _, env_eq ⟨rfl, rfl, rfl, rfl, rfl, trivial⟩, rfl⟩
   have H := H.2 hc137
   refine LP_ev ok 2 [(87, undef), (88, undef), (89, undef), (90, .bool false)] 6 rfl rfl ?_
   exact LP_end _ rfl ⟨false, H, _, env_eq ⟨rfl, rfl, rfl, rfl, rfl, trivial⟩, rfl⟩
  rintro x133 _ _ ⟨H, ρ, rfl, rfl⟩
  subst hk136
  refine W_cond (x133) rfl (fun hc138 => ?_) (fun hc138 => ?_)
  ·have H := H.1 hc138
   refine W_seq (W_region ?_)
   refine LP_ev ok 0 [(91, sl a24 r10 c25), (92, I (ln r10)), (93, I 0)] 3 rfl rfl ?_
   refine LP_end _ rfl ?_
   refine W_block ?_
   obtain ⟨J146, m147, Hx148, H⟩ := H
   refine W_loop (S := Int) (fun s ρ' w' => J146 s ∧ ∃ (ρ : Env), ρ' = setAll [(1, sl a5 more c6), (5, sl a22 r9 c23), (9, sl a48 r37 c49), (91, sl a24 r10 c25), (92, I (ln r10)), (93, I s)] ρ ∧ But emp w w' ∧ Sub hx2 w' ∧ Sub hx15 w' ∧ Sub hx18 w' ∧ Sub hx44 w') (fun s => m147 s) 0 ⟨Hx148, _, env_eq ⟨rfl, rfl, rfl, rfl, rfl, rfl, trivial⟩, X85, ex81, ex82, ex83, ex84⟩ ?_
   rintro x139 _ wx140 ⟨Hi, ρ, rfl, HF⟩
   revert HF
   refine bb5 fun X145 ex141 ex142 ex143 ex144 => ?_
   have H := H x139 Hi
   refine W_seq (W_region ?_)
   refine LP_ev ok 0 [(94, .bool (decide (x139 < (ln r10))))] 1 rfl rfl ?_
   refine LP_end _ rfl (W_seq ?_)
   refine W_cond (decide (x139 < (ln r10))) rfl (fun hc150 => ?_) (fun hc150 => ?_)
   ·have H := H.1 hc150
    refine W_skip ?_
    refine W_seq ?_
    refine W_block ?_
    refine W_seq (W_region ?_)
    obtain ⟨x151, hi152, hx153, H⟩ := H
    refine LP_index 0 rfl rfl rfl Try.underlying25 ti_33 rfl rfl o19.readf hi152 hx153 fun a154 cs155 r156 d157 => ?_
    have d158 := d157
    obtain ⟨u159, rfl, r160⟩ := Edit_rd d158
    obtain ⟨a161, c162, rfl⟩ := r160.shape
    refine LP_load 1 rfl rfl rfl ti_33 ag_33 rfl r156 d157 ex143 fun vx163 r164 => ?_
    obtain ⟨u165, rfl, r166⟩ := Edit_rv r164
    obtain ⟨a167, c168, rfl⟩ := r166.shape
    refine LP_alloc 2 rfl rfl rfl ti_33 rfl fun b169 wx170 x171 ex172 f173 => ?_
    refine LP_stbox 3 (vs := [sl a167 x151.Sets c168]) (cs' := [sl a167 x151.Sets c168]) rfl rfl rfl ti_33 rfl rfl rfl rfl rfl ex172 rfl rfl fun wx174 ex175 y176 => ?_
    refine LP_end _ rfl (W_seq (W_region ?_))
    refine LP_ev ok 0 [(98, sl a22 r9 c23), (99, sl a48 r37 c49)] 2 rfl rfl ?_
    refine LP_ldbox 2 (v := .agg #[sl a167 x151.Sets c168]) rfl rfl rfl ti_33 ag_33 (fun h => by cases h) rfl ex175 rfl rfl ?_
    have ex179 := ((ex142.ext x171).but y176 (Dj.of_fresh ex142 f173).symm)
    have ex180 := ((ex144.ext x171).but y176 (Dj.of_fresh ex144 f173).symm)
    have ex181 := ((ex143.ext x171).but y176 (Dj.of_fresh ex143 f173).symm)
    refine LP_call 3 rfl rfl rfl cal_15 rfl (impl_IsImplied_w _ _ _ _ H wx174 o.readf ex179 o45.readf ex180 r166 ex181) ?_
    rintro _ wx182 ⟨r177, r178, H, rfl, x183⟩
    refine LP_ev ok 4 [(97, .tuple #[.bool r177, .bool r178]), (102, .bool r177), (103, .bool r178), (17, .bool r177), (18, .bool r178)] 9 rfl rfl ?_
    refine LP_end _ rfl ?_
    have f184 := f173.mono X145.size
    have X185 := (((X145.stepx x171).step y176 (f184.dom _)).stepx x183)
    obtain ⟨k192, hk193, H⟩ := jn_elim H
    refine W_join2 (S := Bool) (fun s ρ' w' => k192 s ∧ ∃ (ρ : Env), ρ' = setAll [(1, sl a5 more c6), (5, sl a22 r9 c23), (9, sl a48 r37 c49), (91, sl a24 r10 c25), (92, I (ln r10)), (93, I x139), (109, .bool s)] ρ ∧ wx182 = w') ?_ ?_
    ·refine W_region ?_
     refine LP_ev ok 0 [(104, .bool r178), (105, .bool (!r178)), (106, .bool (!r178))] 3 rfl rfl ?_
     refine LP_split 106 (!r178) rfl (fun hc194 => ?_) (fun hc194 => ?_)
     ·have H := H.1 hc194
      refine LP_ev ok 3 [(107, undef), (108, undef), (109, .bool true)] 6 rfl rfl ?_
      exact LP_end _ rfl ⟨true, H, _, env_eq ⟨rfl, rfl, rfl, rfl, rfl, rfl, rfl, trivial⟩, rfl⟩
     have H := H.2 hc194
     refine LP_ev ok 3 [(107, .bool r177), (108, .bool (!r177)), (109, .bool (!r177))] 6 rfl rfl ?_
     exact LP_end _ rfl ⟨!r177, H, _, env_eq ⟨rfl, rfl, rfl, rfl, rfl, rfl, rfl, trivial⟩, rfl⟩
    rintro x190 _ _ ⟨H, ρ, rfl, rfl⟩
    subst hk193
    refine W_cond (x190) rfl (fun hc195 => ?_) (fun hc195 => ?_)
    ·have H := H.1 hc195
     refine W_seq (W_region ?_)
     refine LP_ev ok 0 [(4, .bool false)] 1 rfl rfl ?_
     refine LP_end _ rfl (W_ret ?_)
     exact ⟨_, Ret_of [.bool false] ⟨⟨rfl, rfl⟩, trivial⟩, _, H, rfl, X185.ext⟩
    have H := H.2 hc195
    refine W_skip ?_
    refine W_region ?_
    refine LP_ev ok 0 [(110, I (wr (x139 + 1))), (93, I (wr (x139 + 1)))] 2 rfl rfl ?_
    exact LP_end _ rfl ⟨wr (x139 + 1), ⟨H.1, _, env_eq ⟨rfl, rfl, rfl, rfl, rfl, rfl, trivial⟩, X185, (((ex141.ext x171).but y176 (Dj.of_fresh ex141 f173).symm).ext x183), (ex179.ext x183), (ex181.ext x183), (ex180.ext x183)⟩, H.2⟩
   have H := H.2 hc150
   refine W_exit ?_
   refine (if_pos rfl).mpr ?_
   exact ⟨(), H, _, env_eq ⟨rfl, trivial⟩, X145, ex141⟩
  have H := H.2 hc138
  exact W_skip ⟨(), H, _, env_eq ⟨rfl, trivial⟩, X85, ex81⟩
 rintro ⟨⟩ _ wx128 ⟨H, ρ, rfl, X130, ex129⟩
 subst hk132
 refine W_seq (W_region ?_)
 refine LP_ev ok 0 [(112, sl a5 more c6)] 1 rfl rfl ?_
 refine LP_call 1 rfl rfl rfl cal_16 rfl (spec_DrawResolveEdits_w _ _ H wx128 r3 ex129) ?_
 rintro _ wx200 ⟨r196, r197, r198, r199, vx202, hx203, vx207, hx208, vx212, hx213, H, rfl, x201, HF⟩
 revert HF
 refine bb9 fun o204 ex205 f206 o209 ex210 f211 o214 ex215 => ?_
 refine bb4 fun f216 d217 d218 d219 => ?_
 obtain ⟨a220, c221, rfl⟩ := o204.shape
 obtain ⟨a222, c223, rfl⟩ := o209.shape
 obtain ⟨a224, c225, rfl⟩ := o214.shape
 refine LP_ev ok 2 [(111, .tuple #[sl a220 r196 c221, .agg #[sl a222 r197.Sets c223], .agg #[sl a224 r198.Sets c225], I r199]), (114, sl a220 r196 c221), (115, .agg #[sl a222 r197.Sets c223]), (116, .agg #[sl a224 r198.Sets c225]), (117, I r199)] 7 rfl rfl ?_
 refine LP_alloc 7 rfl rfl rfl ti_33 rfl fun b226 wx227 x228 ex229 f230 => ?_
 refine LP_alloc 8 rfl rfl rfl ti_33 rfl fun b231 wx232 x233 ex234 f235 => ?_
 refine LP_ev ok 9 [(19, sl a220 r196 c221)] 10 rfl rfl ?_
 refine LP_stbox 10 (vs := [sl a222 r197.Sets c223]) (cs' := [sl a222 r197.Sets c223]) rfl rfl rfl ti_33 rfl rfl rfl rfl rfl (ex229.ext x233) rfl rfl fun wx236 ex237 y238 => ?_
 refine LP_stbox 11 (vs := [sl a224 r198.Sets c225]) (cs' := [sl a224 r198.Sets c225]) rfl rfl rfl ti_33 rfl rfl rfl rfl rfl (ex234.but y238 (Dj.of_fresh ex229 f235)) rfl rfl fun wx240 ex241 y242 => ?_
 refine LP_ev ok 12 [(22, I r199)] 13 rfl rfl ?_
 refine LP_end _ rfl (W_seq (W_region ?_))
 refine LP_ev ok 0 [(119, sl a220 r196 c221)] 1 rfl rfl ?_
 have ex244 := (ex237.but y242 (Dj.box (Dj.of_fresh ex229 f235).symm.symm).symm)
 refine LP_ldbox 1 (v := .agg #[sl a222 r197.Sets c223]) rfl rfl rfl ti_33 ag_33 (fun h => by cases h) rfl ex244 rfl rfl ?_
 refine LP_ldbox 2 (v := .agg #[sl a224 r198.Sets c225]) rfl rfl rfl ti_33 ag_33 (fun h => by cases h) rfl ex241 rfl rfl ?_
 refine LP_ev ok 3 [(122, I r199)] 4 rfl rfl ?_
 have xc247 := (x228.trans x233)
 have ex249 := (((ex205.ext xc247).but y238 (Dj.of_fresh ex205 f230).symm).but y242 (Dj.of_fresh (ex205.ext x228) f235).symm)
 have ex251 := (((ex210.ext xc247).but y238 (Dj.of_fresh ex210 f230).symm).but y242 (Dj.of_fresh (ex210.ext x228) f235).symm)
 have ex253 := (((ex215.ext xc247).but y238 (Dj.of_fresh ex215 f230).symm).but y242 (Dj.of_fresh (ex215.ext x228) f235).symm)
 refine LP_call 4 rfl rfl rfl cal_17 rfl (impl_ResolveEdits_w _ _ _ _ _ H wx240 o204.readf ex249 o209.readf ex251 o214.readf ex253) ?_
 rintro _ wx254 ⟨r245, r246, vx256, hx257, H, rfl, x255, o258, ex259, f260⟩
 obtain ⟨a261, c262, rfl⟩ := o258.shape
 refine LP_ev ok 5 [(118, .tuple #[.agg #[sl a261 r245.Sets c262], .bool r246]), (124, .agg #[sl a261 r245.Sets c262]), (125, .bool r246)] 8 rfl rfl ?_
 refine LP_alloc 8 rfl rfl rfl ti_33 rfl fun b263 wx264 x265 ex266 f267 => ?_
 refine LP_stbox 9 (vs := [sl a261 r245.Sets c262]) (cs' := [sl a261 r245.Sets c262]) rfl rfl rfl ti_33 rfl rfl rfl rfl rfl ex266 rfl rfl fun wx268 ex269 y270 => ?_
 refine LP_ev ok 10 [(24, .bool r246)] 11 rfl rfl ?_
 refine LP_end _ rfl (W_seq (W_region ?_))
 refine LP_ev ok 0 [(127, sl a220 r196 c221)] 1 rfl rfl ?_
 have xc271 := (x255.trans x265)
 have ex273 := ((ex244.ext xc271).but y270 (Dj.of_fresh (ex244.ext x255) f267).symm)
 refine LP_ldbox 1 (v := .agg #[sl a222 r197.Sets c223]) rfl rfl rfl ti_33 ag_33 (fun h => by cases h) rfl ex273 rfl rfl ?_
 have ex275 := ((ex241.ext xc271).but y270 (Dj.of_fresh (ex241.ext x255) f267).symm)
 refine LP_ldbox 2 (v := .agg #[sl a224 r198.Sets c225]) rfl rfl rfl ti_33 ag_33 (fun h => by cases h) rfl ex275 rfl rfl ?_
 refine LP_ev ok 3 [(130, I r199)] 4 rfl rfl ?_
 have ex279 := ((ex249.ext xc271).but y270 (Dj.of_fresh (ex249.ext x255) f267).symm)
 have ex281 := ((ex251.ext xc271).but y270 (Dj.of_fresh (ex251.ext x255) f267).symm)
 have ex283 := ((ex253.ext xc271).but y270 (Dj.of_fresh (ex253.ext x255) f267).symm)
 refine LP_call 4 rfl rfl rfl cal_18 rfl (spec_ResolveEdits_w _ _ _ _ _ H wx268 o204.readf ex279 o209.readf ex281 o214.readf ex283) ?_
 rintro _ wx284 ⟨r276, r277, vx286, hx287, H, rfl, x285, o288, ex289, f290⟩
 obtain ⟨a291, c292, rfl⟩ := o288.shape
 refine LP_ev ok 5 [(126, .tuple #[.agg #[sl a291 r276.Sets c292], .bool r277]), (132, .agg #[sl a291 r276.Sets c292]), (133, .bool r277)] 8 rfl rfl ?_
 refine LP_alloc 8 rfl rfl rfl ti_33 rfl fun b293 wx294 x295 ex296 f297 => ?_
 refine LP_stbox 9 (vs := [sl a291 r276.Sets c292]) (cs' := [sl a291 r276.Sets c292]) rfl rfl rfl ti_33 rfl rfl rfl rfl rfl ex296 rfl rfl fun wx298 ex299 y300 => ?_
 refine LP_ev ok 10 [(26, .bool r277)] 11 rfl rfl ?_
 refine LP_end _ rfl ?_
 try refine W_forget [(19, sl a220 r196 c221), (20, pb b226), (21, pb b231), (23, pb b263), (24, .bool r246), (25, pb b293), (26, .bool r277)] ⟨rfl, rfl, rfl, rfl, rfl, rfl, rfl, trivial⟩ fun ρ => ?_
 refine W_seq ?_
 have X303 := (X130.stepx x201)
 have f302 := f230.mono X303.size
 have X305 := (X303.stepx x228)
 have f304 := f235.mono X305.size
 have X307 := ((((X305.stepx x233).step y238 (f302.dom _)).step y242 (f304.dom _)).stepx x255)
 have f306 := f267.mono X307.size
 have xc308 := (x285.trans x295)
 have f309 := f297.mono (((X307.stepx x265).step y270 (f306.dom _)).stepx x285).size
 have X311 := (((((((X130.stepx ((x201.trans x228).trans x233)).step y238 (f302.dom _)).step y242 (f304.dom _)).stepx xc271).step y270 (f306.dom _)).stepx xc308).step y300 (f309.dom _))
 have ex313 := ((ex279.ext xc308).but y300 (Dj.of_fresh (ex279.ext x285) f297).symm)
 have ex316 := ((ex281.ext xc308).but y300 (Dj.of_fresh (ex281.ext x285) f297).symm)
 have ex319 := ((ex283.ext xc308).but y300 (Dj.of_fresh (ex283.ext x285) f297).symm)
 have ex322 := ((ex273.ext xc308).but y300 (Dj.of_fresh (ex273.ext x285) f297).symm)
 have ex324 := ((ex275.ext xc308).but y300 (Dj.of_fresh (ex275.ext x285) f297).symm)
 have ex326 := ((((ex259.ext x265).but y270 (Dj.of_fresh ex259 f267).symm).ext xc308).but y300 (Dj.of_fresh (((ex259.ext x265).but y270 (Dj.of_fresh ex259 f267).symm).ext x285) f297).symm)
 have ex330 := ((ex269.ext xc308).but y300 (Dj.of_fresh (ex269.ext x285) f297).symm)
 obtain ⟨k344, hk345, H⟩ := jn_elim H
 refine W_join2 (S := Bool) (fun s ρ' w' => k344 s ∧ ∃ (ρ : Env), ρ' = setAll [(19, sl a220 r196 c221), (20, pb b226), (21, pb b231), (23, pb b263), (24, .bool r246), (144, .bool s)] ρ ∧ But emp w w' ∧ Sub hx203 w' ∧ Sub hx208 w' ∧ Sub hx213 w' ∧ Sub (bx b226 33 [sl a222 r197.Sets c223]) w' ∧ Sub (bx b231 33 [sl a224 r198.Sets c225]) w' ∧ Sub hx257 w' ∧ Sub (bx b263 33 [sl a261 r245.Sets c262]) w') ?_ ?_
 ·refine W_region ?_
  refine LP_ev ok 0 [(134, .bool r246), (135, .bool r277), (136, .bool (r246 != r277)), (137, .bool (r246 != r277))] 4 rfl rfl ?_
  refine LP_split 137 (r246 != r277) rfl (fun hc346 => ?_) (fun hc346 => ?_)
  ·have H := H.1 hc346
   refine LP_ev ok 4 [(138, undef), (139, undef), (140, undef), (141, undef), (142, undef), (143, undef), (144, .bool true)] 11 rfl rfl ?_
   exact LP_end _ rfl ⟨true, H, _, env_eq ⟨rfl, rfl, rfl, rfl, rfl, rfl, trivial⟩, X311, ex313, ex316, ex319, ex322, ex324, ex326, ex330⟩
  have H := H.2 hc346
  refine LP_ev ok 4 [(138, pb b263)] 5 rfl rfl ?_
  refine LP_ldbox 5 (v := sl a261 r245.Sets c262) rfl rfl rfl ti_31 ag_31 (fun _ => rfl) rfl ex330 rfl rfl ?_
  refine LP_ev ok 6 [(140, pb b293)] 7 rfl rfl ?_
  refine LP_ldbox 7 (v := sl a291 r276.Sets c292) rfl rfl rfl ti_31 ag_31 (fun _ => rfl) rfl ex299 rfl rfl ?_
  refine LP_call 8 rfl rfl rfl cal_19 rfl (laws_sameInts_w _ _ _ H wx298 o258.readf ex326 o288.readf ((ex289.ext x295).but y300 (Dj.of_fresh ex289 f297).symm)) ?_
  rintro _ wx348 ⟨r347, H, rfl, x349⟩
  refine LP_ev ok 9 [(143, .bool (!r347)), (144, .bool (!r347))] 11 rfl rfl ?_
  exact LP_end _ rfl ⟨!r347, H, _, env_eq ⟨rfl, rfl, rfl, rfl, rfl, rfl, trivial⟩, (X311.stepx x349), (ex313.ext x349), (ex316.ext x349), (ex319.ext x349), (ex322.ext x349), (ex324.ext x349), (ex326.ext x349), (ex330.ext x349)⟩
 rintro x334 _ wx335 ⟨H, ρ, rfl, HF⟩
 revert HF
 refine bb8 fun X343 ex336 ex337 ex338 ex339 ex340 ex341 ex342 => ?_
 subst hk345
 refine W_cond (x334) rfl (fun hc358 => ?_) (fun hc358 => ?_)
 ·have H := H.1 hc358
  refine W_seq (W_region ?_)
  refine LP_ev ok 0 [(4, .bool false)] 1 rfl rfl ?_
  refine LP_end _ rfl (W_ret ?_)
  exact ⟨_, Ret_of [.bool false] ⟨⟨rfl, rfl⟩, trivial⟩, _, H, rfl, X343.ext⟩
 have H := H.2 hc358
 refine W_skip ?_
 refine W_seq ?_
 refine W_seq (W_region ?_)
 refine LP_ev ok 0 [(145, .bool r246)] 1 rfl rfl ?_
 refine LP_end _ rfl ?_
 refine W_cond (r246) rfl (fun hc359 => ?_) (fun hc359 => ?_)
 ·have H := H.1 hc359
  refine W_seq (W_region ?_)
  refine LP_ev ok 0 [(147, sl a220 r196 c221)] 1 rfl rfl ?_
  refine LP_ldbox 1 (v := .agg #[sl a222 r197.Sets c223]) rfl rfl rfl ti_33 ag_33 (fun h => by cases h) rfl ex339 rfl rfl ?_
  refine LP_ldbox 2 (v := .agg #[sl a224 r198.Sets c225]) rfl rfl rfl ti_33 ag_33 (fun h => by cases h) rfl ex340 rfl rfl ?_
  have rv : RVO hx208 (.agg #[sl a222 r197.Sets c223]) ((Edit.mk r197.Sets) : Edit) := ⟨_, ⟨_, rfl, (OS.od o209)⟩, rfl⟩
  have rv360 : RVO hx213 (.agg #[sl a224 r198.Sets c225]) ((Edit.mk r198.Sets) : Edit) := ⟨_, ⟨_, rfl, (OS.od o214)⟩, rfl⟩
  refine LP_litD (α := Edit) 3 (vs := [.agg #[sl a222 r197.Sets c223], .agg #[sl a224 r198.Sets c225]]) (xs := [((Edit.mk r197.Sets) : Edit), ((Edit.mk r198.Sets) : Edit)]) rfl rfl rfl Try.underlying25 ti_33 rfl rfl (allO.cons rv (allO.cons rv360 allO.nil (Dj.emp_r _)) (Dj.un_r d219 (Dj.emp_r _))) (Sub.un ex337 (Sub.un ex338 (emp_sub _))) rfl rfl fun hx361 vx362 wx363 x364 o365 ex366 dm => ?_
  obtain ⟨a367, c368, rfl⟩ := o365.shape
  refine LP_ldbox 4 (v := .agg #[sl a261 r245.Sets c262]) rfl rfl rfl ti_33 ag_33 (fun h => by cases h) rfl (ex342.ext x364) rfl rfl ?_
  refine LP_call 5 rfl rfl rfl cal_15 rfl (impl_IsImplied_w _ _ _ _ H wx363 o204.readf (ex336.ext x364) o365.readf ex366 o258.readf (ex341.ext x364)) ?_
  rintro _ wx374 ⟨r370, r371, H, rfl, x375⟩
  refine LP_ev ok 6 [(146, .tuple #[.bool r370, .bool r371]), (153, .bool r370), (154, .bool r371), (27, .bool r370), (28, .bool r371)] 11 rfl rfl ?_
  refine LP_end _ rfl ?_
  obtain ⟨k380, hk381, H⟩ := jn_elim H
  refine W_join2 (S := Bool) (fun s ρ' w' => k380 s ∧ ∃ (ρ : Env), ρ' = setAll [(4, .bool s)] ρ ∧ wx374 = w') ?_ ?_
  ·refine W_region ?_
   refine LP_ev ok 0 [(155, .bool r371), (156, .bool r371)] 2 rfl rfl ?_
   refine LP_split 156 (r371) rfl (fun hc382 => ?_) (fun hc382 => ?_)
   ·have H := H.1 hc382
    refine LP_ev ok 2 [(157, .bool r370), (158, .bool r370), (4, .bool r370)] 5 rfl rfl ?_
    exact LP_end _ rfl ⟨r370, H, _, env_eq ⟨rfl, trivial⟩, rfl⟩
   have H := H.2 hc382
   refine LP_ev ok 2 [(157, undef), (158, .bool false), (4, .bool false)] 5 rfl rfl ?_
   exact LP_end _ rfl ⟨false, H, _, env_eq ⟨rfl, trivial⟩, rfl⟩
  rintro x378 _ _ ⟨H, ρ, rfl, rfl⟩
  subst hk381
  refine W_ret ?_
  exact ⟨_, Ret_of [.bool x378] ⟨⟨rfl, rfl⟩, trivial⟩, _, H, rfl, (X343.stepx (x364.trans x375)).ext⟩
 have H := H.2 hc359
 refine W_skip ?_
 refine W_seq (W_region ?_)
 refine LP_ev ok 0 [(4, .bool true)] 1 rfl rfl ?_
 refine LP_end _ rfl (W_ret ?_)
 exact ⟨_, Ret_of [.bool true] ⟨⟨rfl, rfl⟩, trivial⟩, _, H, rfl, X343.ext⟩

end Go.Proofs.Ytdaojggigfnnpaa
