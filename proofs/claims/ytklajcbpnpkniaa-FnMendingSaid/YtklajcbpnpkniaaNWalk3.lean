/- The walks, further. -/
import Derived.Test.YtklajcbpnpkniaaNWalk2
set_option linter.unusedVariables false
set_option autoImplicit false
namespace Go.Proofs.Ytklajcbpnpkniaa
open Go Go.RowKit Go.Gv

open Go.Proofs
set_option maxRecDepth 8000
set_option maxHeartbeats 4000000
theorem impl_canGrow_w (sx : List Variable) (implied : List (Int × Bool)) (ex5 : Edit) (Q : Bool → Prop) (H : impl_canGrow sx implied ex5 Q) (w : World) {vx : Value} {hx : PH} (r : RS hx vx sx) (ex : Sub hx w) {vx1 : Value} {hx2 : PH} (r3 : MO hx2 vx1 implied) (ex4 : Sub hx2 w) {vx6 : Value} {hx7 : PH} (r8 : RS hx7 vx6 ex5.Sets) (ex9 : Sub hx7 w) :
  CallsTo Try.prog 105 #[vx, vx1, .agg #[vx6]] w fun v w' => ∃ r0, Q r0 ∧ v = .bool r0 ∧ Ext w w' := by
 obtain ⟨a, c, rfl⟩ := r.shape
 obtain ⟨b, rfl⟩ := r3.shape
 obtain ⟨a10, c11, rfl⟩ := r8.shape
 refine enter (args := [sl a sx c, .map (some b), .agg #[sl a10 ex5.Sets c11]]) 59 Try.func105 rfl rfl rfl ?_
 refine W_forget [(0, sl a sx c), (1, .map (some b)), (2, .agg #[sl a10 ex5.Sets c11])] ⟨rfl, rfl, rfl, trivial⟩ fun ρ => ?_
 have X := But.refl emp w
 refine W_seq (W_region ?_)
 refine LP_box 0 (cs := [sl a10 ex5.Sets c11]) rfl rfl rfl rfl rfl fun b12 wx x ex13 f => ?_
 refine LP_ev ok 1 [(6, .bool false)] 2 rfl rfl ?_
 refine LP_end _ rfl (W_seq (W_region ?_))
 refine LP_ev ok 0 [(11, pb b12)] 1 rfl rfl ?_
 refine LP_ldbox 1 (v := sl a10 ex5.Sets c11) rfl rfl rfl ti_25 ag_25 (fun _ => rfl) rfl ex13 rfl rfl ?_
 refine LP_call 2 rfl rfl rfl cal_47 rfl (slices_Clone_int_int_w _ _ H wx r8 (ex9.ext x)) ?_
 rintro _ wx16 ⟨r14, vx18, hx19, H, rfl, x17, o, ex20, f21⟩
 obtain ⟨a22, c23, rfl⟩ := o.shape
 refine LP_ev ok 3 [(7, sl a22 r14 c23)] 4 rfl rfl ?_
 refine LP_end _ rfl (W_seq ?_)
 refine W_seq (W_region ?_)
 refine LP_ev ok 0 [(14, sl a22 r14 c23), (15, I (ln r14)), (16, I 0)] 3 rfl rfl ?_
 refine LP_end _ rfl ?_
 refine W_block ?_
 have xc := (x.trans x17)
 have f36 := f21.mono (X.stepx x).size
 obtain ⟨J, m, Hx, H⟩ := H
 refine W_loop (S := (List Int) × Int) (fun s ρ' w' => J s.1 s.2 ∧ ∃ (ρ : Env) (hx25 : PH), ρ' = setAll [(0, sl a sx c), (1, .map (some b)), (7, sl a22 r14 c23), (15, I (ln r14)), (16, I s.2)] ρ ∧ But emp w w' ∧ OS 3 hx25 emp (sl a22 r14 c23) s.1 ∧ Sub hx25 w' ∧ Fresh w.heap.size hx25 ∧ Sub hx w' ∧ Sub hx2 w' ∧ Dj hx25 hx ∧ Dj hx25 hx2) (fun s => m s.1 s.2) (r14, 0) ⟨Hx, _, hx19, env_eq ⟨rfl, rfl, rfl, rfl, rfl, trivial⟩, (X.stepx xc), o, ex20, f36, (ex.ext xc), (ex4.ext xc), (Dj.of_fresh (ex.ext x) f21).symm, (Dj.of_fresh (ex4.ext x) f21).symm⟩ ?_
 rintro ⟨sets, x29⟩ _ wx30 ⟨Hi, ρ, hx25, rfl, HF⟩
 revert HF
 refine bb8 fun X34 o26 ex27 f28 ex31 ex32 d d33 => ?_
 have H := H sets x29 Hi
 refine W_seq (W_region ?_)
 refine LP_ev ok 0 [(17, .bool (decide (x29 < (ln r14))))] 1 rfl rfl ?_
 refine LP_end _ rfl (W_seq ?_)
 refine W_cond (decide (x29 < (ln r14))) rfl (fun hc => ?_) (fun hc => ?_)
 ·have H := H.1 hc
  refine W_skip ?_
  refine W_seq ?_
  refine W_block ?_
  refine W_seq (W_region ?_)
  refine LP_ev ok 0 [(18, I x29), (8, I x29)] 2 rfl rfl ?_
  refine LP_end _ rfl (W_seq (W_region ?_))
  refine LP_ev ok 0 [(19, sl a sx c), (20, I x29)] 2 rfl rfl ?_
  obtain ⟨x42, hi, hx43, H⟩ := H
  refine LP_index 2 rfl rfl rfl Try.underlying23 ti_90 rfl rfl r hi hx43 fun a44 cs r45 d46 => ?_
  refine LP_ev ok 3 [(22, .pointer (some (Addr.add a44 1)))] 4 rfl rfl ?_
  refine LP_ldfld (x := x42) (off := 1) 4 (v := I x42.Levels) rfl rfl rfl ti_3 ag_3 (fun _ => rfl) rfl r45 d46 ex31 rfl rfl ?_
  refine LP_ev ok 5 [(24, I 0)] 6 rfl rfl ?_
  refine LP_end _ rfl ?_
  refine W_block ?_
  obtain ⟨J60, m61, Hx62, H⟩ := H
  refine W_loop (S := (List Int) × Int) (fun s ρ' w' => J60 s.1 s.2 ∧ ∃ (ρ : Env) (hx49 : PH), ρ' = setAll [(0, sl a sx c), (1, .map (some b)), (7, sl a22 r14 c23), (8, I x29), (15, I (ln r14)), (16, I x29), (23, I x42.Levels), (24, I s.2)] ρ ∧ But emp w w' ∧ OS 3 hx49 emp (sl a22 r14 c23) s.1 ∧ Sub hx49 w' ∧ Fresh w.heap.size hx49 ∧ Sub hx w' ∧ Sub hx2 w' ∧ Dj hx49 hx ∧ Dj hx49 hx2) (fun s => m61 s.1 s.2) (sets, 0) ⟨Hx62, _, hx25, env_eq ⟨rfl, rfl, rfl, rfl, rfl, rfl, rfl, rfl, trivial⟩, X34, o26, ex27, f28, ex31, ex32, d, d33⟩ ?_
  rintro ⟨sets47, x53⟩ _ wx54 ⟨Hi, ρ, hx49, rfl, HF⟩
  revert HF
  refine bb8 fun X59 o50 ex51 f52 ex55 ex56 d57 d58 => ?_
  have H := H sets47 x53 Hi
  refine W_seq (W_region ?_)
  refine LP_ev ok 0 [(25, .bool (decide (x53 < x42.Levels)))] 1 rfl rfl ?_
  refine LP_end _ rfl (W_seq ?_)
  refine W_cond (decide (x53 < x42.Levels)) rfl (fun hc64 => ?_) (fun hc64 => ?_)
  ·have H := H.1 hc64
   refine W_skip ?_
   obtain ⟨k, hk, H⟩ := jn_elim H
   refine W_join2 (S := (List Int)) (fun s ρ' w' => k s ∧ ∃ (ρ : Env) (hx67 : PH), ρ' = setAll [(0, sl a sx c), (1, .map (some b)), (7, sl a22 r14 c23), (8, I x29), (15, I (ln r14)), (16, I x29), (23, I x42.Levels), (24, I x53)] ρ ∧ But emp w w' ∧ OS 3 hx67 emp (sl a22 r14 c23) s ∧ Sub hx67 w' ∧ Fresh w.heap.size hx67 ∧ Sub hx w' ∧ Sub hx2 w' ∧ Dj hx67 hx ∧ Dj hx67 hx2) ?_ ?_
   ·refine W_block ?_
    refine W_seq (W_region ?_)
    refine LP_ev ok 0 [(26, I x53), (9, I x53)] 2 rfl rfl ?_
    refine LP_end _ rfl (W_seq ?_)
    refine W_seq (W_region ?_)
    refine LP_ev ok 0 [(27, sl a22 r14 c23), (28, I x29)] 2 rfl rfl ?_
    obtain ⟨x77, hi78, hx79, H⟩ := H
    refine LP_index 2 rfl rfl rfl Try.underlying25 ti_3 rfl rfl o50.readf hi78 hx79 fun a80 cs81 r82 d83 => ?_
    refine LP_load 3 rfl rfl rfl ti_3 ag_3 rfl r82 d83 ex51 fun vx84 r85 => ?_
    obtain rfl := r85.int
    refine LP_ev ok 4 [(31, I x53)] 5 rfl rfl ?_
    obtain ⟨hz, H⟩ := H
    refine LP_val 5 _ rfl rfl (ex_shr rfl rfl rfl hz _) ?_
    refine LP_ev ok 6 [(33, I (bits .and .i64 (shr .i64 x77 x53) 1)), (34, .bool ((bits .and .i64 (shr .i64 x77 x53) 1) == 1))] 8 rfl rfl ?_
    refine LP_end _ rfl ?_
    refine W_cond ((bits .and .i64 (shr .i64 x77 x53) 1) == 1) rfl (fun hc86 => ?_) (fun hc86 => ?_)
    ·have H := H.1 hc86
     refine W_exit ?_
     refine (if_pos rfl).mpr ?_
     exact ⟨sets47, H, _, hx49, env_eq ⟨rfl, rfl, rfl, rfl, rfl, rfl, rfl, rfl, trivial⟩, X59, o50, ex51, f52, ex55, ex56, d57, d58⟩
    have H := H.2 hc86
    refine W_skip ?_
    refine W_seq ?_
    refine W_open mix fun wx87 x88 => ?_
    refine AP_game 6 [[], [], [0, 1], [0, 1, 2], [], [4], [0, 1, 2, 3, 4, 5], [0, 1, 2, 3, 4, 5, 6], [0, 1, 2, 3, 4, 5, 6, 7]] [[(7, none)], [(8, none)], [(35, some 0), (36, some 1)], [(37, some 2)], [(9, none)], [(39, some 4)]] [(0, none), (1, none), (7, none), (8, none), (9, none), (15, none), (16, none), (23, none), (24, none), (35, some 0), (36, some 1), (38, some 3), (40, some 5)] [(0, false), (1, false), (2, false), (3, false), (4, false), (5, false)] (by kernel_rfl) (by kernel_rfl) ?_
    refine GS_ev ok [(7, sl a22 r14 c23)] (sl a22 r14 c23) rfl rfl (fun _ h => h) (fun _ => rfl) ?_
    refine GS_ev ok [(8, I x29)] (I x29) rfl rfl (fun _ h => h) (fun _ => rfl) ?_
    obtain ⟨x89, hi90, hx91, H⟩ := H
    obtain ⟨a92, cs93, hx96, r94, d95⟩ := run_indexAt Try.underlying25 ti_3 o50.readf .i64 _ x89 hi90 hx91
    refine GS_r0 [(35, sl a22 r14 c23), (36, I x29)] (.pointer (some a92)) rfl rfl (fun _ h => h) (fun _ _ => ex_index rfl rfl rfl (hx96 _)) ?_
    obtain ⟨vx97, hx99, r98⟩ := run_loadAt ti_3 ag_3 r94 d95
    obtain rfl := r98.int
    have ex100 := (ex51.ext x88)
    refine GS_r1 [(37, .pointer (some a92))] (I x89) rfl rfl (fun _ h => h) (fun _ w e => ex_load rfl rfl (hx99 w e)) ex100 ?_
    refine GS_ev ok [(9, I x53)] (I x53) rfl rfl (fun _ h => h) (fun _ => rfl) ?_
    obtain ⟨hz101, H⟩ := H
    refine GS_r0 [(39, I x53)] (I (shl .i64 1 x53)) rfl rfl (fun _ h => h) (fun _ _ => ex_shl rfl rfl rfl hz101 _) ?_
    intro wx102 x103 ρ hn
    refine AP_forget [(0, sl a sx c), (1, .map (some b)), (7, sl a22 r14 c23), (8, I x29), (9, I x53), (15, I (ln r14)), (16, I x29), (23, I x42.Levels), (24, I x53), (35, sl a22 r14 c23), (36, I x29), (38, I x89), (40, I (shl .i64 1 x53))] (by exact hn) fun ρ => ?_
    refine AP_tail 6 [[], [], [0, 1], [0, 1, 2], [], [4], [0, 1, 2, 3, 4, 5], [0, 1, 2, 3, 4, 5, 6], [0, 1, 2, 3, 4, 5, 6, 7]] (by kernel_rfl) ?_
    refine LP_ev ok 6 [(41, I (bits .or .i64 x89 (shl .i64 1 x53)))] 7 rfl rfl ?_
    obtain ⟨hi104, hl, H⟩ := H
    refine LP_indexw (v := sl a22 r14 c23) 7 rfl rfl rfl Try.underlying25 ti_3 rfl rfl o50 hi104 hl fun a105 wa => ?_
    refine LP_set 8 rfl rfl rfl rfl rfl wa (Le.refl emp) ⟨_, rfl, rfl⟩ (ex100.ext x103) fun hx106 wx107 o108 ex109 y dm => ?_
    refine LP_end _ rfl (W_seq (W_region ?_))
    refine LP_ev ok 0 [(43, .map (some b)), (44, sl a sx c), (45, sl a22 r14 c23)] 3 rfl rfl ?_
    have xc112 := (x88.trans x103)
    have ex113 := ((ex55.ext xc112).but y d57)
    refine LP_call 3 rfl rfl rfl cal_104 rfl (impl_editKey_w _ _ _ H wx107 r ex113 o108.readf ex109) ?_
    rintro _ wx114 ⟨r111, H, rfl, x115⟩
    have ex116 := (((ex56.ext xc112).but y d58).ext x115)
    refine LP_val 4 _ (v := .bool (mget implied r111 false)) rfl rfl (ex_mget (d := false) rfl Try.underlying112 Try.underlying3 ti_4 rfl rfl rfl r3 _ ex116) ?_
    refine LP_ev ok 5 [(10, .bool (mget implied r111 false))] 6 rfl rfl ?_
    refine LP_end _ rfl (W_seq ?_)
    refine W_open mix fun wx117 x118 => ?_
    refine AP_game 6 [[], [], [0, 1], [0, 1, 2], [], [4], [0, 1, 2, 3, 4, 5], [0, 1, 2, 3, 4, 5, 6], [0, 1, 2, 3, 4, 5, 6, 7]] [[(7, none)], [(8, none)], [(48, some 0), (49, some 1)], [(50, some 2)], [(9, none)], [(52, some 4)]] [(0, none), (1, none), (7, none), (8, none), (10, none), (15, none), (16, none), (23, none), (24, none), (48, some 0), (49, some 1), (51, some 3), (53, some 5)] [(0, false), (1, false), (2, false), (3, false), (4, false), (5, false)] (by kernel_rfl) (by kernel_rfl) ?_
    refine GS_ev ok [(7, sl a22 r14 c23)] (sl a22 r14 c23) rfl rfl (fun _ h => h) (fun _ => rfl) ?_
    refine GS_ev ok [(8, I x29)] (I x29) rfl rfl (fun _ h => h) (fun _ => rfl) ?_
    obtain ⟨x119, hi120, hx121, H⟩ := H
    obtain ⟨a122, cs123, hx126, r124, d125⟩ := run_indexAt Try.underlying25 ti_3 o108.readf .i64 _ x119 hi120 hx121
    refine GS_r0 [(48, sl a22 r14 c23), (49, I x29)] (.pointer (some a122)) rfl rfl (fun _ h => h) (fun _ _ => ex_index rfl rfl rfl (hx126 _)) ?_
    obtain ⟨vx127, hx129, r128⟩ := run_loadAt ti_3 ag_3 r124 d125
    obtain rfl := r128.int
    have xc130 := (x115.trans x118)
    have ex131 := (ex109.ext xc130)
    refine GS_r1 [(50, .pointer (some a122))] (I x119) rfl rfl (fun _ h => h) (fun _ w e => ex_load rfl rfl (hx129 w e)) ex131 ?_
    refine GS_ev ok [(9, I x53)] (I x53) rfl rfl (fun _ h => h) (fun _ => rfl) ?_
    obtain ⟨hz132, H⟩ := H
    refine GS_r0 [(52, I x53)] (I (shl .i64 1 x53)) rfl rfl (fun _ h => h) (fun _ _ => ex_shl rfl rfl rfl hz132 _) ?_
    intro wx133 x134 ρ hn135
    refine AP_forget [(0, sl a sx c), (1, .map (some b)), (7, sl a22 r14 c23), (8, I x29), (10, .bool (mget implied r111 false)), (15, I (ln r14)), (16, I x29), (23, I x42.Levels), (24, I x53), (48, sl a22 r14 c23), (49, I x29), (51, I x119), (53, I (shl .i64 1 x53))] (by exact hn135) fun ρ => ?_
    refine AP_tail 6 [[], [], [0, 1], [0, 1, 2], [], [4], [0, 1, 2, 3, 4, 5], [0, 1, 2, 3, 4, 5, 6], [0, 1, 2, 3, 4, 5, 6, 7]] (by kernel_rfl) ?_
    refine LP_ev ok 6 [(54, I (bits .andNot .i64 x119 (shl .i64 1 x53)))] 7 rfl rfl ?_
    obtain ⟨hi136, hl137, H⟩ := H
    refine LP_indexw (v := sl a22 r14 c23) 7 rfl rfl rfl Try.underlying25 ti_3 rfl rfl o108 hi136 hl137 fun a138 wa139 => ?_
    refine LP_set 8 rfl rfl rfl rfl rfl wa139 (Le.refl emp) ⟨_, rfl, rfl⟩ (ex131.ext x134) fun hx140 wx141 o142 ex143 y144 dm145 => ?_
    refine LP_end _ rfl (W_seq (W_region ?_))
    refine LP_ev ok 0 [(56, .bool (mget implied r111 false))] 1 rfl rfl ?_
    refine LP_end _ rfl ?_
    refine W_cond (mget implied r111 false) rfl (fun hc147 => ?_) (fun hc147 => ?_)
    ·have H := H.1 hc147
     refine W_seq (W_region ?_)
     refine LP_ev ok 0 [(6, .bool true)] 1 rfl rfl ?_
     refine LP_end _ rfl (W_ret ?_)
     have f149 := (dm _).fresh f52 (X59.stepx xc112).size
     exact ⟨_, Ret_of [.bool true] ⟨⟨rfl, rfl⟩, trivial⟩, _, H, rfl, ((((X59.stepx xc112).step y (f52.dom _)).stepx (xc130.trans x134)).step y144 (f149.dom _)).ext⟩
    have H := H.2 hc147
    refine W_skip ?_
    have xc152 := (xc130.trans x134)
    have X154 := (X59.stepx xc112)
    have f153 := (dm _).fresh f52 X154.size
    have f156 := (dm145 _).fresh f153 ((X154.step y (f52.dom _)).stepx xc152).size
    have ex158 := (ex55.ext xc112)
    have xc160 := (x118.trans x134)
    have ex161 := (ex56.ext xc112)
    exact ⟨List.set (List.set sets47 (Int.toNat x29) (bits .or .i64 x89 (shl .i64 1 x53))) (Int.toNat x29) (bits .andNot .i64 x119 (shl .i64 1 x53)), H, _, hx140, env_eq ⟨rfl, rfl, rfl, rfl, rfl, rfl, rfl, rfl, trivial⟩, ((((X59.stepx xc112).step y (f52.dom _)).stepx xc152).step y144 (f153.dom _)), o142, ex143, f156, ((ex113.ext xc152).but y144 (DomLe.dj (dm _) d57 ex158)), ((ex116.ext xc160).but y144 (DomLe.dj (dm _) d58 ex161)), (DomLe.dj (dm145 _) (DomLe.dj (dm _) d57 ex158) (ex113.ext xc152)), (DomLe.dj (dm145 _) (DomLe.dj (dm _) d58 ex161) (ex116.ext xc160))⟩
   rintro sets65 _ wx71 ⟨H, ρ, hx67, rfl, HF⟩
   revert HF
   refine bb8 fun X76 o68 ex69 f70 ex72 ex73 d74 d75 => ?_
   subst hk
   refine W_region ?_
   refine LP_ev ok 0 [(57, I (wr (x53 + 1))), (24, I (wr (x53 + 1)))] 2 rfl rfl ?_
   exact LP_end _ rfl ⟨(sets65, wr (x53 + 1)), ⟨H.1, _, hx67, env_eq ⟨rfl, rfl, rfl, rfl, rfl, rfl, rfl, rfl, trivial⟩, X76, o68, ex69, f70, ex72, ex73, d74, d75⟩, H.2⟩
  have H := H.2 hc64
  refine W_exit ?_
  refine (if_pos rfl).mpr ?_
  refine W_region ?_
  refine LP_ev ok 0 [(58, I (wr (x29 + 1))), (16, I (wr (x29 + 1)))] 2 rfl rfl ?_
  exact LP_end _ rfl ⟨(sets47, wr (x29 + 1)), ⟨H.1, _, hx49, env_eq ⟨rfl, rfl, rfl, rfl, rfl, trivial⟩, X59, o50, ex51, f52, ex55, ex56, d57, d58⟩, H.2⟩
 have H := H.2 hc
 refine W_exit ?_
 refine (if_pos rfl).mpr ?_
 refine W_seq (W_region ?_)
 refine LP_ev ok 0 [(6, .bool false)] 1 rfl rfl ?_
 refine LP_end _ rfl (W_ret ?_)
 exact ⟨_, Ret_of [.bool false] ⟨⟨rfl, rfl⟩, trivial⟩, _, H, rfl, X34.ext⟩

theorem impl_maximalEdits_w (sx : List Variable) (l : List Edit) (vx7 : Int) (Q : (List Edit) → Prop) (H : impl_maximalEdits sx l vx7 Q) (w : World) {vx : Value} {hx : PH} (r : RS hx vx sx) (ex : Sub hx w) {vx1 : Value} {hx2 : PH} (r3 : RS hx2 vx1 l) (ex4 : Sub hx2 w) :
  CallsTo Try.prog 63 #[vx, vx1, I vx7] w fun v w' => ∃ r0 u0 g0, Q r0 ∧ v = u0 ∧ Ext w w' ∧ OD g0 u0 r0 ∧ Sub g0 w' ∧ Fresh w.heap.size g0 := by
 obtain ⟨a, c, rfl⟩ := r.shape
 obtain ⟨a5, c6, rfl⟩ := r3.shape
 refine enter (args := [sl a sx c, sl a5 l c6, I vx7]) 37 Try.func63 rfl rfl rfl ?_
 refine W_forget [(0, sl a sx c), (1, sl a5 l c6), (2, I vx7)] ⟨rfl, rfl, rfl, trivial⟩ fun ρ => ?_
 have X := But.refl emp w
 refine W_seq (W_region ?_)
 refine LP_box 0 (cs := [sl a sx c]) rfl rfl rfl rfl rfl fun b wx x ex8 f => ?_
 refine LP_ev ok 1 [(6, .slice none 0 0)] 2 rfl rfl ?_
 refine LP_end _ rfl (W_seq (W_region ?_))
 refine LP_mkmap (α := Bool) 0 rfl rfl rfl fun b9 hx10 wx11 x12 o ex13 f14 => ?_
 refine LP_alloc 1 rfl rfl rfl ti_112 rfl fun b15 wx16 x17 ex18 f19 => ?_
 refine LP_stbox 2 (vs := [.map (some b9)]) (cs' := [.map (some b9)]) rfl rfl rfl ti_112 rfl rfl rfl rfl rfl ex18 rfl rfl fun wx20 ex21 y => ?_
 refine LP_end _ rfl (W_seq (W_region ?_))
 refine LP_alloc 0 rfl rfl rfl ti_24 rfl fun b22 wx23 x24 ex25 f26 => ?_
 refine LP_end _ rfl (W_seq ?_)
 refine W_open mix fun wx27 x28 => ?_
 refine AP_game 6 [[], [], [], [1, 2], [], [], [0, 1, 2, 3, 4, 5]] [[(3, none)], [(3, none)], [(1, none)], [(14, some 1), (15, some 2)], [(2, none)], [(3, none), (7, none), (8, none)]] [(3, none), (7, none), (8, none), (13, some 0), (16, some 3), (17, some 4), (18, some 5)] [(0, false), (1, false), (2, false), (4, false), (5, false), (3, true)] (by kernel_rfl) (by kernel_rfl) ?_
 have ex29 := (ex8.ext x12)
 have xc30 := (x24.trans x28)
 have ex31 := (((ex8.ext (x12.trans x17)).but y (Dj.of_fresh ex29 f19).symm).ext xc30)
 refine GS_r1 [(3, pb b)] (sl a sx c) rfl rfl (fun _ h => h) (fun _ w e => ex_ldbox rfl ti_23 ag_23 (fun _ => rfl) rfl e rfl rfl) ex31 ?_
 refine GS_r1 [(3, pb b)] (sl a sx c) rfl rfl (fun _ h => h) (fun _ w e => ex_ldbox rfl ti_23 ag_23 (fun _ => rfl) rfl e rfl rfl) ex31 ?_
 refine GS_ev ok [(1, sl a5 l c6)] (sl a5 l c6) rfl rfl (fun _ h => h) (fun _ => rfl) ?_
 refine GS_ev ok [(2, I vx7)] (I vx7) rfl rfl (fun _ h => h) (fun _ => rfl) ?_
 refine GS_ev ok [(3, pb b), (7, pb b15), (8, pb b22)] (.func (.func 103) #[] #[pb b15, pb b, pb b22]) rfl rfl (fun _ h => h) (fun _ => rfl) ?_
 refine GS_lp [(14, sl a sx c), (15, sl a5 l c6)] rfl rfl (fun _ h => h) rfl fun ρ wx32 x33 => ?_
 have xc35 := ((x.trans x12).trans x17)
 have xc36 := (x.trans x12)
 have ex37 := (ex.ext xc36)
 have xc38 := (xc30.trans x33)
 have ex39 := (((ex.ext xc35).but y (Dj.of_fresh ex37 f19).symm).ext xc38)
 refine LP_call 0 rfl rfl rfl cal_102 rfl (impl_failing_w _ _ _ H wx32 r ex39 r3 (((ex4.ext xc35).but y (Dj.of_fresh (ex4.ext xc36) f19).symm).ext xc38)) ?_
 rintro _ wx42 ⟨r34, vx44, hx45, H, rfl, x43, o46, ex47, f48⟩
 obtain ⟨a49, c50, rfl⟩ := o46.shape
 have xc51 := (x33.trans x43)
 refine LP_gs ⟨⟨.inl rfl, .inr (ex31.ext xc51), trivial⟩, ?_⟩
 intro wx53 x54 ρ hn
 refine AP_forget [(3, pb b), (7, pb b15), (8, pb b22), (13, sl a sx c), (16, sl a49 r34 c50), (17, I vx7), (18, .func (.func 103) #[] #[pb b15, pb b, pb b22])] (by exact hn) fun ρ => ?_
 refine AP_tail 6 [[], [], [], [1, 2], [], [], [0, 1, 2, 3, 4, 5]] (by kernel_rfl) ?_
 have ex55 := ((ex13.ext x17).but y (Dj.of_fresh ex13 f19).symm)
 have ex56 := (ex.ext x)
 have ex57 := (ex55.ext xc38)
 have ex58 := ((ex37.ext x17).but y (Dj.of_fresh ex37 f19).symm)
 have ex60 := (ex25.ext (x28.trans x33))
 have ex61 := ((ex29.ext x17).but y (Dj.of_fresh ex29 f19).symm)
 have xc64 := (x43.trans x54)
 have ex65 := (ex39.ext xc64)
 have xc68 := ((((x24.trans x28).trans x33).trans x43).trans x54)
 have ex69 := (ex21.ext xc68)
 have ex71 := (ex31.ext (xc51.trans x54))
 refine LP_call 6 rfl rfl rfl cal_101 rfl (impl_impliedIn_impl_maximalEdits_1_w _ _ _ _ _ _ _ _ H wx53 r ex65 o46.readf (ex47.ext x54) (OS.nil (E := 3) (g := emp)) (emp_sub _) o (ex57.ext xc64) ex69 r ex65 ex71 (OD.nil (α := Edit)) (emp_sub _) (ex60.ext xc64) (Dj.emp_l _) (Dj.emp_l _) (Dj.emp_l _) (Dj.emp_r _) (Dj.of_fresh ex55 f26) (Dj.emp_l _) (Dj.emp_l _) (Dj.emp_l _) (Dj.emp_l _) (Dj.emp_l _) (Dj.emp_l _) (Dj.of_fresh ex56 f14).symm (Dj.of_fresh ex57 f48) (Dj.box (Dj.of_fresh ex13 f19).symm).symm (Dj.of_fresh ex56 f14).symm (Dj.of_fresh ex8 f14).symm (Dj.emp_l _) (Dj.emp_l _) (Dj.emp_l _) (Dj.emp_l _) (Dj.emp_l _) (Dj.of_fresh ex58 f26).symm (Dj.of_fresh ex60 f48) (Dj.of_fresh ex21 f26).symm (Dj.of_fresh ex58 f26).symm (Dj.of_fresh ex61 f26).symm) ?_
 rintro _ wx73 ⟨r62, r63, hx75, hx78, vx86, hx82, H, rfl, x74, HF⟩
 revert HF
 refine bb9 fun o76 ex77 dm o79 ex80 dm81 o83 ex84 => ?_
 refine bb8 fun dm85 ex87 d d88 d89 d90 d91 d92 => ?_
 obtain ⟨a93, c94, rfl⟩ := o83.shape
 refine LP_end _ rfl (W_seq (W_region ?_))
 refine LP_ev ok 0 [(9, .slice none 0 0)] 1 rfl rfl ?_
 refine LP_end _ rfl (W_seq ?_)
 refine W_seq (W_region ?_)
 refine LP_ldbox 0 (v := sl a93 r63 c94) rfl rfl rfl ti_24 ag_24 (fun _ => rfl) rfl ex87 rfl rfl ?_
 refine LP_ev ok 1 [(21, I (ln r63)), (22, I 0)] 3 rfl rfl ?_
 refine LP_end _ rfl ?_
 refine W_block ?_
 have X123 := (X.stepx xc36)
 have f122 := f19.mono X123.size
 have f124 := f14.mono (X.stepx x).size
 have X127 := ((X123.stepx x17).step y (f122.dom _))
 have f126 := f26.mono X127.size
 have f129 := DomLe.fresh dm85 (Fresh.un (emp_fresh _) (Fresh.un f124 (Fresh.un (emp_fresh _) f126))) (X127.stepx xc68).size
 obtain ⟨J, m, Hx, H⟩ := H
 refine W_loop (S := (List Edit) × Int) (fun s ρ' w' => J s.1 s.2 ∧ ∃ (ρ : Env) (vx95 : Value) (hx96 : PH) (hx100 : PH), ρ' = setAll [(3, pb b), (7, pb b15), (9, vx95), (20, sl a93 r63 c94), (21, I (ln r63)), (22, I s.2)] ρ ∧ But emp w w' ∧ OD hx96 vx95 s.1 ∧ Sub hx96 w' ∧ Fresh w.heap.size hx96 ∧ DR hx100 (sl a93 r63 c94) r63 (Int.toNat s.2) ∧ Sub hx100 w' ∧ Fresh w.heap.size hx100 ∧ Sub hx w' ∧ Sub (bx b 23 [sl a sx c]) w' ∧ Sub hx78 w' ∧ Sub (bx b15 112 [.map (some b9)]) w' ∧ Dj hx96 hx ∧ Dj hx96 (bx b 23 [sl a sx c]) ∧ Dj hx96 hx78 ∧ Dj hx96 (bx b15 112 [.map (some b9)]) ∧ Dj hx100 hx ∧ Dj hx100 (bx b 23 [sl a sx c]) ∧ Dj hx100 hx78 ∧ Dj hx100 (bx b15 112 [.map (some b9)]) ∧ Dj hx100 hx96) (fun s => m s.1 s.2) ([], 0) ⟨Hx, _, .slice none 0 0, emp, hx82, env_eq ⟨rfl, rfl, rfl, rfl, rfl, rfl, trivial⟩, ((((X.stepx xc35).step y (f122.dom _)).stepx xc68).step x74 (DomLe.un (fun _ _ _ => rfl) (DomLe.un (f124.dom _) (DomLe.un (fun _ _ _ => rfl) (f126.dom _))))), OD.nil, (emp_sub _), (emp_fresh _), (OD.drain o83), ex84, f129, (ex65.but x74 (Dj.un_l (Dj.emp_l _) (Dj.un_l (Dj.of_fresh ex56 f14).symm (Dj.un_l (Dj.emp_l _) (Dj.of_fresh ex58 f26).symm)))), (ex71.but x74 (Dj.un_l (Dj.emp_l _) (Dj.un_l (Dj.of_fresh ex8 f14).symm (Dj.un_l (Dj.emp_l _) (Dj.of_fresh ex61 f26).symm)))), ex80, (ex69.but x74 (Dj.un_l (Dj.emp_l _) (Dj.un_l (Dj.box (Dj.of_fresh ex13 f19).symm).symm (Dj.un_l (Dj.emp_l _) (Dj.of_fresh ex21 f26).symm)))), (fun _ => .inl rfl), (fun _ => .inl rfl), (fun _ => .inl rfl), (fun _ => .inl rfl), (DomLe.dj dm85 (Dj.un_l (Dj.emp_l _) (Dj.un_l (Dj.of_fresh ex56 f14).symm (Dj.un_l (Dj.emp_l _) (Dj.of_fresh ex58 f26).symm))) ex65), (DomLe.dj dm85 (Dj.un_l (Dj.emp_l _) (Dj.un_l (Dj.of_fresh ex8 f14).symm (Dj.un_l (Dj.emp_l _) (Dj.of_fresh ex61 f26).symm))) ex71), d90.symm, (DomLe.dj dm85 (Dj.un_l (Dj.emp_l _) (Dj.un_l (Dj.box (Dj.of_fresh ex13 f19).symm).symm (Dj.un_l (Dj.emp_l _) (Dj.of_fresh ex21 f26).symm))) ex69), (fun _ => .inr rfl)⟩ ?_
 rintro ⟨out, x104⟩ _ wx105 ⟨Hi, ρ, vx95, hx96, hx100, rfl, HF⟩
 revert HF
 refine bb9 fun X121 o97 ex98 f99 o101 ex102 f103 ex106 => ?_
 refine bb9 fun ex107 ex108 ex109 d112 d113 d114 d115 d116 => ?_
 refine bb4 fun d117 d118 d119 d120 => ?_
 have H := H out x104 Hi
 obtain ⟨a110, c111, rfl⟩ := o97.shape
 refine W_seq (W_region ?_)
 refine LP_ev ok 0 [(23, .bool (decide (x104 < (ln r63))))] 1 rfl rfl ?_
 refine LP_end _ rfl (W_seq ?_)
 refine W_cond (decide (x104 < (ln r63))) rfl (fun hc => ?_) (fun hc => ?_)
 ·have H := H.1 hc
  refine W_skip ?_
  obtain ⟨k, hk, H⟩ := jn_elim H
  refine W_join2 (S := (List Edit)) (fun s ρ' w' => k s ∧ ∃ (ρ : Env) (vx142 : Value) (hx143 : PH) (hx147 : PH), ρ' = setAll [(3, pb b), (7, pb b15), (9, vx142), (20, sl a93 r63 c94), (21, I (ln r63)), (22, I x104)] ρ ∧ But emp w w' ∧ OD hx143 vx142 s ∧ Sub hx143 w' ∧ Fresh w.heap.size hx143 ∧ DR hx147 (sl a93 r63 c94) r63 (Int.toNat (wr (x104 + 1))) ∧ Sub hx147 w' ∧ Fresh w.heap.size hx147 ∧ Sub hx w' ∧ Sub (bx b 23 [sl a sx c]) w' ∧ Sub hx78 w' ∧ Sub (bx b15 112 [.map (some b9)]) w' ∧ Dj hx143 hx ∧ Dj hx143 (bx b 23 [sl a sx c]) ∧ Dj hx143 hx78 ∧ Dj hx143 (bx b15 112 [.map (some b9)]) ∧ Dj hx147 hx ∧ Dj hx147 (bx b 23 [sl a sx c]) ∧ Dj hx147 hx78 ∧ Dj hx147 (bx b15 112 [.map (some b9)]) ∧ Dj hx147 hx143) ?_ ?_
  ·refine W_block ?_
   refine W_seq (W_region ?_)
   obtain ⟨x168, hi, hx169, H⟩ := H
   refine LP_indexT (v := sl a93 r63 c94) 0 rfl rfl rfl Try.underlying24 ti_79 rfl rfl o101 hi hx169 fun a170 c171 hx172 hx173 r174 ow o175 d176 l177 l178 => ?_
   have ex179 := Sub.le ex102 l177
   have ex180 := Sub.le ex102 l178
   obtain ⟨u, rfl, o181⟩ := Edit_tk ow
   obtain ⟨a182, c183, rfl⟩ := o181.shape
   have o184 : OS 3 hx172 emp (sl a182 x168.Sets c183) x168.Sets := OD.flat o181
   refine LP_ldpart (off := 0) 1 (v := .agg #[sl a182 x168.Sets c183]) rfl rfl rfl ti_79 ag_79 (fun h => by cases h) rfl r174 ex180 rfl rfl ?_
   refine LP_alloc 2 rfl rfl rfl ti_79 rfl fun b185 wx186 x187 ex188 f189 => ?_
   refine LP_stbox 3 (vs := [sl a182 x168.Sets c183]) (cs' := [sl a182 x168.Sets c183]) rfl rfl rfl ti_79 rfl rfl rfl rfl rfl ex188 rfl rfl fun wx190 ex191 y192 => ?_
   refine LP_end _ rfl (W_seq (W_region ?_))
   have ex193 := ((ex107.ext x187).but y192 (Dj.of_fresh ex107 f189).symm)
   refine LP_ldbox 0 (v := sl a sx c) rfl rfl rfl ti_23 ag_23 (fun _ => rfl) rfl ex193 rfl rfl ?_
   have ex194 := ((ex109.ext x187).but y192 (Dj.of_fresh ex109 f189).symm)
   refine LP_ldbox 1 (v := .map (some b9)) rfl rfl rfl ti_112 ag_112 (fun _ => rfl) rfl ex194 rfl rfl ?_
   refine LP_ldbox 2 (v := .agg #[sl a182 x168.Sets c183]) rfl rfl rfl ti_79 ag_79 (fun h => by cases h) rfl ex191 rfl rfl ?_
   have ex196 := ((ex106.ext x187).but y192 (Dj.of_fresh ex106 f189).symm)
   have ex197 := ((ex108.ext x187).but y192 (Dj.of_fresh ex108 f189).symm)
   have ex198 := ((ex179.ext x187).but y192 (Dom.dj (Dom.of_le l177) (Dj.of_fresh ex102 f189)).symm)
   refine LP_call 3 rfl rfl rfl cal_105 rfl (impl_canGrow_w _ _ _ _ H wx190 r ex196 o79 ex197 o184.readf ex198) ?_
   rintro _ wx199 ⟨r195, H, rfl, x200⟩
   refine LP_ev ok 4 [(30, .bool (!r195))] 5 rfl rfl ?_
   refine LP_end _ rfl ?_
   refine W_cond (!r195) rfl (fun hc201 => ?_) (fun hc201 => ?_)
   ·have H := H.1 hc201
    refine W_region ?_
    refine LP_ev ok 0 [(31, sl a110 out c111)] 1 rfl rfl ?_
    refine LP_ldbox 1 (v := .agg #[sl a182 x168.Sets c183]) rfl rfl rfl ti_79 ag_79 (fun h => by cases h) rfl (ex191.ext x200) rfl rfl ?_
    have rv : RVO hx172 (.agg #[sl a182 x168.Sets c183]) ((Edit.mk x168.Sets) : Edit) := ⟨_, ⟨_, rfl, (OS.od o184)⟩, rfl⟩
    refine LP_litD (α := Edit) 2 (vs := [.agg #[sl a182 x168.Sets c183]]) (xs := [((Edit.mk x168.Sets) : Edit)]) rfl rfl rfl Try.underlying24 ti_79 rfl rfl (allO.one rv) (ex198.ext x200) rfl rfl fun hx204 vx205 wx206 x207 o208 ex209 dm210 => ?_
    obtain ⟨a211, c212, rfl⟩ := o208.shape
    have xc213 := (x200.trans x207)
    obtain ⟨hb, H⟩ := H
    refine LP_appendD (α := Edit) 3 rfl rfl rfl Try.underlying24 ti_79 rfl rfl rfl o97 (((ex98.ext x187).but y192 (Dj.of_fresh ex98 f189).symm).ext xc213) o208 ex209 (DomLe.dj dm210 (Dom.dj (Dom.of_le l177) d120) (((ex98.ext x187).but y192 (Dj.of_fresh ex98 f189).symm).ext x200)).symm (by first | omega | (simp only [ln] at *; omega)) (by first | omega | (simp only [ln] at *; omega)) fun hx216 vx217 wx218 hw o219 ex220 y221 dh dm222 => ?_
    obtain ⟨a223, c224, rfl⟩ := o219.shape
    refine LP_ev ok 4 [(9, .slice a223 (List.length (out ++ ([((Edit.mk x168.Sets) : Edit)]))) c224)] 5 rfl rfl ?_
    refine LP_end _ rfl ?_
    have f225 := f189.mono X121.size
    have f227 := Fresh.domOf f103 (Dom.of_le l177)
    have X229 := (((X121.stepx x187).step y192 (f225.dom _)).stepx x200)
    have f228 := DomLe.fresh dm210 f227 X229.size
    have f230 := DomLe.fresh dm222 (Fresh.un f99 f228) (X229.stepx x207).size
    have f233 := Fresh.domOf f103 (Dom.of_le l178)
    have ex238 := (ex196.ext x200)
    have ex240 := (ex193.ext x200)
    have ex242 := (ex197.ext x200)
    have ex244 := (ex194.ext x200)
    have ex246 := (((ex180.ext x187).but y192 (Dom.dj (Dom.of_le l178) (Dj.of_fresh ex102 f189)).symm).ext x200)
    exact ⟨out ++ ([((Edit.mk x168.Sets) : Edit)]), H, _, .slice a223 (List.length (out ++ ([((Edit.mk x168.Sets) : Edit)]))) c224, hx216, hx173, env_eq ⟨rfl, rfl, rfl, rfl, rfl, rfl, trivial⟩, ((((X121.stepx x187).step y192 (f225.dom _)).stepx xc213).step (But.dom y221 dh) (f99.dom _)), o219, ex220, f230, o175, ((((ex180.ext x187).but y192 (Dom.dj (Dom.of_le l178) (Dj.of_fresh ex102 f189)).symm).ext xc213).but (But.dom y221 dh) (Dom.dj (Dom.of_le l178) d120).symm), f233, ((ex196.ext xc213).but (But.dom y221 dh) d112), ((ex193.ext xc213).but (But.dom y221 dh) d113), ((ex197.ext xc213).but (But.dom y221 dh) d114), ((ex194.ext xc213).but (But.dom y221 dh) d115), (DomLe.dj dm222 (Dj.un_l d112 (DomLe.dj dm210 (Dom.dj (Dom.of_le l177) d116) ex238)) (ex238.ext x207)), (DomLe.dj dm222 (Dj.un_l d113 (DomLe.dj dm210 (Dom.dj (Dom.of_le l177) d117) ex240)) (ex240.ext x207)), (DomLe.dj dm222 (Dj.un_l d114 (DomLe.dj dm210 (Dom.dj (Dom.of_le l177) d118) ex242)) (ex242.ext x207)), (DomLe.dj dm222 (Dj.un_l d115 (DomLe.dj dm210 (Dom.dj (Dom.of_le l177) d119) ex244)) (ex244.ext x207)), (Dom.dj (Dom.of_le l178) d116), (Dom.dj (Dom.of_le l178) d117), (Dom.dj (Dom.of_le l178) d118), (Dom.dj (Dom.of_le l178) d119), (DomLe.dj dm222 (Dj.un_l (Dom.dj (Dom.of_le l178) d120).symm (DomLe.dj dm210 d176 ex246)) (ex246.ext x207)).symm⟩
   have H := H.2 hc201
   refine W_skip ?_
   have f248 := f189.mono X121.size
   have f252 := Fresh.domOf f103 (Dom.of_le l178)
   exact ⟨out, H, _, sl a110 out c111, hx96, hx173, env_eq ⟨rfl, rfl, rfl, rfl, rfl, rfl, trivial⟩, (((X121.stepx x187).step y192 (f248.dom _)).stepx x200), o97, (((ex98.ext x187).but y192 (Dj.of_fresh ex98 f189).symm).ext x200), f99, o175, (((ex180.ext x187).but y192 (Dom.dj (Dom.of_le l178) (Dj.of_fresh ex102 f189)).symm).ext x200), f252, (ex196.ext x200), (ex193.ext x200), (ex197.ext x200), (ex194.ext x200), d112, d113, d114, d115, (Dom.dj (Dom.of_le l178) d116), (Dom.dj (Dom.of_le l178) d117), (Dom.dj (Dom.of_le l178) d118), (Dom.dj (Dom.of_le l178) d119), (Dom.dj (Dom.of_le l178) d120)⟩
  rintro out141 _ wx151 ⟨H, ρ, vx142, hx143, hx147, rfl, HF⟩
  revert HF
  refine bb9 fun X167 o144 ex145 f146 o148 ex149 f150 ex152 => ?_
  refine bb9 fun ex153 ex154 ex155 d158 d159 d160 d161 d162 => ?_
  refine bb4 fun d163 d164 d165 d166 => ?_
  subst hk
  obtain ⟨a156, c157, rfl⟩ := o144.shape
  refine W_region ?_
  refine LP_ev ok 0 [(35, I (wr (x104 + 1))), (22, I (wr (x104 + 1)))] 2 rfl rfl ?_
  exact LP_end _ rfl ⟨(out141, wr (x104 + 1)), ⟨H.1, _, sl a156 out141 c157, hx143, hx147, env_eq ⟨rfl, rfl, rfl, rfl, rfl, rfl, trivial⟩, X167, o144, ex145, f146, o148, ex149, f150, ex152, ex153, ex154, ex155, d158, d159, d160, d161, d162, d163, d164, d165, d166⟩, H.2⟩
 have H := H.2 hc
 refine W_exit ?_
 refine (if_pos rfl).mpr ?_
 refine W_seq (W_region ?_)
 refine LP_ev ok 0 [(36, sl a110 out c111), (6, sl a110 out c111)] 2 rfl rfl ?_
 refine LP_end _ rfl (W_ret ?_)
 exact ⟨_, Ret_of [sl a110 out c111] ⟨⟨rfl, rfl⟩, trivial⟩, _, _, _, H, rfl, X121.ext, o97, ex98, f99⟩

theorem impl_involvedIn_w (sx : List Variable) (ex1 : Edit) (Q : (List Int) → Prop) (H : impl_involvedIn sx ex1 Q) (w : World) {vx : Value} {hx : PH} (r : RS hx vx sx) (ex : Sub hx w) {vx2 : Value} {hx3 : PH} (r4 : RS hx3 vx2 ex1.Sets) (ex5 : Sub hx3 w) :
  CallsTo Try.prog 64 #[vx, .agg #[vx2]] w fun v w' => ∃ r0 u0 g0, Q r0 ∧ v = u0 ∧ Ext w w' ∧ OS 3 g0 emp u0 r0 ∧ Sub g0 w' ∧ Fresh w.heap.size g0 := by
 obtain ⟨a, c, rfl⟩ := r.shape
 obtain ⟨a6, c7, rfl⟩ := r4.shape
 refine enter (args := [sl a sx c, .agg #[sl a6 ex1.Sets c7]]) 29 Try.func64 rfl rfl rfl ?_
 refine W_forget [(0, sl a sx c), (1, .agg #[sl a6 ex1.Sets c7])] ⟨rfl, rfl, trivial⟩ fun ρ => ?_
 have X := But.refl emp w
 refine W_seq (W_region ?_)
 refine LP_box 0 (cs := [sl a6 ex1.Sets c7]) rfl rfl rfl rfl rfl fun b wx x ex8 f => ?_
 refine LP_ev ok 1 [(4, .slice none 0 0)] 2 rfl rfl ?_
 refine LP_end _ rfl (W_seq (W_region ?_))
 refine LP_ev ok 0 [(5, .slice none 0 0)] 1 rfl rfl ?_
 refine LP_end _ rfl (W_seq ?_)
 refine W_seq (W_region ?_)
 refine LP_ev ok 0 [(8, pb b)] 1 rfl rfl ?_
 refine LP_ldbox 1 (v := sl a6 ex1.Sets c7) rfl rfl rfl ti_25 ag_25 (fun _ => rfl) rfl ex8 rfl rfl ?_
 refine LP_ev ok 2 [(10, I (ln ex1.Sets)), (11, I 0)] 4 rfl rfl ?_
 refine LP_end _ rfl ?_
 refine W_block ?_
 obtain ⟨J, m, Hx, H⟩ := H
 refine W_loop (S := (List Int) × Int) (fun s ρ' w' => J s.1 s.2 ∧ ∃ (ρ : Env) (vx9 : Value) (hx10 : PH), ρ' = setAll [(0, sl a sx c), (5, vx9), (9, sl a6 ex1.Sets c7), (10, I (ln ex1.Sets)), (11, I s.2)] ρ ∧ But emp w w' ∧ OS 3 hx10 emp vx9 s.1 ∧ Sub hx10 w' ∧ Fresh w.heap.size hx10 ∧ Sub hx w' ∧ Sub hx3 w' ∧ Dj hx10 hx ∧ Dj hx10 hx3) (fun s => m s.1 s.2) ([], 0) ⟨Hx, _, .slice none 0 0, emp, env_eq ⟨rfl, rfl, rfl, rfl, rfl, trivial⟩, (X.stepx x), OS.nil, (emp_sub _), (emp_fresh _), (ex.ext x), (ex5.ext x), (fun _ => .inl rfl), (fun _ => .inl rfl)⟩ ?_
 rintro ⟨vars, x13⟩ _ wx14 ⟨Hi, ρ, vx9, hx10, rfl, HF⟩
 revert HF
 refine bb8 fun X20 o ex11 f12 ex15 ex16 d d19 => ?_
 have H := H vars x13 Hi
 obtain ⟨a17, c18, rfl⟩ := o.shape
 refine W_seq (W_region ?_)
 refine LP_ev ok 0 [(12, .bool (decide (x13 < (ln ex1.Sets))))] 1 rfl rfl ?_
 refine LP_end _ rfl (W_seq ?_)
 refine W_cond (decide (x13 < (ln ex1.Sets))) rfl (fun hc => ?_) (fun hc => ?_)
 ·have H := H.1 hc
  refine W_skip ?_
  obtain ⟨k, hk, H⟩ := jn_elim H
  refine W_join2 (S := (List Int)) (fun s ρ' w' => k s ∧ ∃ (ρ : Env) (vx25 : Value) (hx26 : PH), ρ' = setAll [(0, sl a sx c), (5, vx25), (9, sl a6 ex1.Sets c7), (10, I (ln ex1.Sets)), (11, I x13)] ρ ∧ But emp w w' ∧ OS 3 hx26 emp vx25 s ∧ Sub hx26 w' ∧ Fresh w.heap.size hx26 ∧ Sub hx w' ∧ Sub hx3 w' ∧ Dj hx26 hx ∧ Dj hx26 hx3) ?_ ?_
  ·refine W_block ?_
   refine W_seq (W_region ?_)
   refine LP_ev ok 0 [(13, I x13)] 1 rfl rfl ?_
   obtain ⟨x38, hi, hx39, H⟩ := H
   refine LP_index 1 rfl rfl rfl Try.underlying25 ti_3 rfl rfl r4 hi hx39 fun a40 cs r41 d42 => ?_
   refine LP_load 2 rfl rfl rfl ti_3 ag_3 rfl r41 d42 ex16 fun vx43 r44 => ?_
   obtain rfl := r44.int
   refine LP_ev ok 3 [(6, I x13), (7, I x38)] 5 rfl rfl ?_
   refine LP_end _ rfl (W_seq (W_region ?_))
   refine LP_ev ok 0 [(16, I x38), (17, sl a sx c), (18, I x13)] 3 rfl rfl ?_
   obtain ⟨x45, hi46, hx47, H⟩ := H
   refine LP_index 3 rfl rfl rfl Try.underlying23 ti_90 rfl rfl r hi46 hx47 fun a48 cs49 r50 d51 => ?_
   refine LP_load 4 rfl rfl rfl ti_90 ag_90 rfl r50 d51 ex15 fun vx52 r53 => ?_
   obtain rfl := Variable_rv r53
   refine LP_call 5 rfl rfl rfl cal_106 rfl (impl_fullSet_w _ _ H wx14 ) ?_
   rintro _ wx55 ⟨r54, H, rfl, x56⟩
   refine LP_ev ok 6 [(22, .bool (x38 != r54))] 7 rfl rfl ?_
   refine LP_end _ rfl ?_
   refine W_cond (x38 != r54) rfl (fun hc57 => ?_) (fun hc57 => ?_)
   ·have H := H.1 hc57
    refine W_region ?_
    refine LP_ev ok 0 [(23, sl a17 vars c18), (24, I x13)] 2 rfl rfl ?_
    refine LP_lit (α := Int) (g := emp) 2 (vs := [I x13]) (xs := [x13]) rfl rfl rfl Try.underlying25 ti_3 rfl rfl ⟨⟨_, rfl, rfl⟩, trivial⟩ rfl rfl fun hx58 vx59 wx60 x61 o62 ex63 f64 => ?_
    obtain ⟨a65, c66, rfl⟩ := o62.shape
    have xc := (x56.trans x61)
    obtain ⟨hb, H⟩ := H
    refine LP_appendf (α := Int) 3 rfl rfl rfl Try.underlying25 ti_3 rfl rfl rfl o (ex11.ext xc) o62.readf ex63 (by first | omega | (simp only [ln] at *; omega)) (by first | omega | (simp only [ln] at *; omega)) fun hx68 vx69 wx70 o71 ex72 y dm => ?_
    obtain ⟨a73, c74, rfl⟩ := o71.shape
    refine LP_ev ok 4 [(5, .slice a73 (List.length (vars ++ ([x13]))) c74)] 5 rfl rfl ?_
    refine LP_end _ rfl ?_
    have f76 := dm.fresh f12 (X20.stepx xc).size
    exact ⟨vars ++ ([x13]), H, _, .slice a73 (List.length (vars ++ ([x13]))) c74, hx68, env_eq ⟨rfl, rfl, rfl, rfl, rfl, trivial⟩, ((X20.stepx xc).step y (f12.dom _)), o71, ex72, f76, ((ex15.ext xc).but y d), ((ex16.ext xc).but y d19), (DomLe.dj dm d (ex15.ext xc)), (DomLe.dj dm d19 (ex16.ext xc))⟩
   have H := H.2 hc57
   exact W_skip ⟨vars, H, _, sl a17 vars c18, hx10, env_eq ⟨rfl, rfl, rfl, rfl, rfl, trivial⟩, (X20.stepx x56), o, (ex11.ext x56), f12, (ex15.ext x56), (ex16.ext x56), d, d19⟩
  rintro vars24 _ wx30 ⟨H, ρ, vx25, hx26, rfl, HF⟩
  revert HF
  refine bb8 fun X37 o27 ex28 f29 ex31 ex32 d35 d36 => ?_
  subst hk
  obtain ⟨a33, c34, rfl⟩ := o27.shape
  refine W_region ?_
  refine LP_ev ok 0 [(27, I (wr (x13 + 1))), (11, I (wr (x13 + 1)))] 2 rfl rfl ?_
  exact LP_end _ rfl ⟨(vars24, wr (x13 + 1)), ⟨H.1, _, sl a33 vars24 c34, hx26, env_eq ⟨rfl, rfl, rfl, rfl, rfl, trivial⟩, X37, o27, ex28, f29, ex31, ex32, d35, d36⟩, H.2⟩
 have H := H.2 hc
 refine W_exit ?_
 refine (if_pos rfl).mpr ?_
 refine W_seq (W_region ?_)
 refine LP_ev ok 0 [(28, sl a17 vars c18), (4, sl a17 vars c18)] 2 rfl rfl ?_
 refine LP_end _ rfl (W_ret ?_)
 exact ⟨_, Ret_of [sl a17 vars c18] ⟨⟨rfl, rfl⟩, trivial⟩, _, _, _, H, rfl, X20.ext, o, ex11, f12⟩

theorem impl_PackingBound_w (sx : List Variable) (l : List Edit) (weights : List Int) (values : List Int) (Q : Int → (List Int) → Bool → Prop) (H : impl_PackingBound sx l weights values Q) (w : World) {vx : Value} {hx : PH} (r : RS hx vx sx) (ex : Sub hx w) {vx1 : Value} {hx2 : PH} (r3 : RS hx2 vx1 l) (ex4 : Sub hx2 w) {vx7 : Value} {hx8 : PH} (r9 : RS hx8 vx7 weights) (ex10 : Sub hx8 w) {vx13 : Value} {hx14 : PH} (r15 : RS hx14 vx13 values) (ex16 : Sub hx14 w) :
  CallsTo Try.prog 25 #[vx, vx1, vx7, vx13] w fun v w' => ∃ r0 r1 r2 u1 g1, Q r0 r1 r2 ∧ v = .tuple #[I r0, u1, .bool r2] ∧ Ext w w' ∧ OS 3 g1 emp u1 r1 ∧ Sub g1 w' ∧ Fresh w.heap.size g1 := by
 obtain ⟨a, c, rfl⟩ := r.shape
 obtain ⟨a5, c6, rfl⟩ := r3.shape
 obtain ⟨a11, c12, rfl⟩ := r9.shape
 obtain ⟨a17, c18, rfl⟩ := r15.shape
 refine enter (args := [sl a sx c, sl a5 l c6, sl a11 weights c12, sl a17 values c18]) 149 Try.func25 rfl rfl rfl ?_
 refine W_forget [(0, sl a sx c), (1, sl a5 l c6), (2, sl a11 weights c12), (3, sl a17 values c18)] ⟨rfl, rfl, rfl, rfl, trivial⟩ fun ρ => ?_
 have X := But.refl emp w
 refine W_seq (W_region ?_)
 refine LP_ev ok 0 [(8, I 0), (9, .slice none 0 0), (10, .bool false)] 3 rfl rfl ?_
 refine LP_end _ rfl (W_seq ?_)
 obtain ⟨k, hk, H⟩ := jn_elim H
 refine W_join2 (S := Bool) (fun s ρ' w' => k s ∧ ∃ (ρ : Env), ρ' = setAll [(0, sl a sx c), (1, sl a5 l c6), (2, sl a11 weights c12), (3, sl a17 values c18), (40, .bool s)] ρ ∧ But emp w w' ∧ Sub hx w' ∧ Sub hx2 w' ∧ Sub hx8 w' ∧ Sub hx14 w') ?_ ?_
 ·refine W_region ?_
  refine LP_ev ok 0 [(30, sl a sx c), (31, sl a5 l c6), (32, sl a11 weights c12)] 3 rfl rfl ?_
  refine LP_call 3 rfl rfl rfl cal_28 rfl (impl_isMendable_w _ _ _ _ H w r ex r3 ex4 r9 ex10) ?_
  rintro _ wx25 ⟨r24, H, rfl, x26⟩
  refine LP_ev ok 4 [(34, .bool (!r24)), (35, .bool (!r24))] 6 rfl rfl ?_
  refine LP_split 35 (!r24) rfl (fun hc => ?_) (fun hc => ?_)
  ·have H := H.1 hc
   refine LP_ev ok 6 [(36, undef), (37, undef), (38, undef), (39, undef), (40, .bool true)] 11 rfl rfl ?_
   exact LP_end _ rfl ⟨true, H, _, env_eq ⟨rfl, rfl, rfl, rfl, rfl, trivial⟩, (X.stepx x26), (ex.ext x26), (ex4.ext x26), (ex10.ext x26), (ex16.ext x26)⟩
  have H := H.2 hc
  refine LP_ev ok 6 [(36, sl a sx c), (37, sl a17 values c18)] 8 rfl rfl ?_
  have ex33 := (ex.ext x26)
  have ex34 := (ex16.ext x26)
  refine LP_call 8 rfl rfl rfl cal_43 rfl (impl_areValues_w _ _ _ H wx25 r ex33 r15 ex34) ?_
  rintro _ wx35 ⟨r32, H, rfl, x36⟩
  refine LP_ev ok 9 [(39, .bool (!r32)), (40, .bool (!r32))] 11 rfl rfl ?_
  refine LP_end _ rfl ?_
  have xc := (x26.trans x36)
  exact ⟨!r32, H, _, env_eq ⟨rfl, rfl, rfl, rfl, rfl, trivial⟩, (X.stepx xc), (ex33.ext x36), (ex4.ext xc), (ex10.ext xc), (ex34.ext x36)⟩
 rintro x _ wx ⟨H, ρ, rfl, HF⟩
 revert HF
 refine bb5 fun X23 ex19 ex20 ex21 ex22 => ?_
 subst hk
 refine W_cond (x) rfl (fun hc42 => ?_) (fun hc42 => ?_)
 ·have H := H.1 hc42
  refine W_seq (W_region ?_)
  refine LP_ev ok 0 [(8, I 0), (9, .slice none 0 0), (10, .bool false)] 3 rfl rfl ?_
  refine LP_end _ rfl (W_ret ?_)
  exact ⟨_, Ret_of [I 0, .slice none 0 0, .bool false] ⟨⟨rfl, rfl⟩, ⟨rfl, rfl⟩, ⟨rfl, rfl⟩, trivial⟩, _, _, _, _, emp, H, rfl, X23.ext, OS.nil, (emp_sub _), (emp_fresh _)⟩
 have H := H.2 hc42
 refine W_skip ?_
 refine W_seq (W_region ?_)
 refine LP_ev ok 0 [(11, .slice none 0 0), (12, .slice none 0 0), (13, .slice none 0 0)] 3 rfl rfl ?_
 refine LP_end _ rfl (W_seq ?_)
 refine W_seq (W_region ?_)
 refine LP_ev ok 0 [(41, sl a sx c), (42, sl a5 l c6)] 2 rfl rfl ?_
 refine LP_call 2 rfl rfl rfl cal_63 rfl (impl_maximalEdits_w _ _ _ _ H wx r ex19 r3 ex20) ?_
 rintro _ wx44 ⟨r43, vx46, hx47, H, rfl, x45, o, ex48, f⟩
 obtain ⟨a49, c50, rfl⟩ := o.shape
 refine LP_ev ok 3 [(44, I (ln r43)), (45, I 0)] 5 rfl rfl ?_
 refine LP_end _ rfl ?_
 refine W_block ?_
 obtain ⟨J, m, Hx, H⟩ := H
 refine W_loop (S := (List Int) × (List Int) × (List Int) × Int) (fun s ρ' w' => J s.1 s.2.1 s.2.2.1 s.2.2.2 ∧ ∃ (ρ : Env) (vx51 : Value) (hx52 : PH) (vx56 : Value) (hx57 : PH) (vx61 : Value) (hx62 : PH), ρ' = setAll [(0, sl a sx c), (2, sl a11 weights c12), (3, sl a17 values c18), (11, vx51), (12, vx56), (13, vx61), (43, sl a49 r43 c50), (44, I (ln r43)), (45, I s.2.2.2)] ρ ∧ But emp w w' ∧ OS 3 hx52 emp vx51 s.1 ∧ Sub hx52 w' ∧ Fresh w.heap.size hx52 ∧ OS 3 hx57 emp vx56 s.2.1 ∧ Sub hx57 w' ∧ Fresh w.heap.size hx57 ∧ OS 3 hx62 emp vx61 s.2.2.1 ∧ Sub hx62 w' ∧ Fresh w.heap.size hx62 ∧ Sub hx w' ∧ Sub hx8 w' ∧ Sub hx14 w' ∧ Sub hx47 w' ∧ Dj hx52 hx ∧ Dj hx52 hx8 ∧ Dj hx52 hx14 ∧ Dj hx52 hx47 ∧ Dj hx57 hx ∧ Dj hx57 hx8 ∧ Dj hx57 hx14 ∧ Dj hx57 hx47 ∧ Dj hx57 hx52 ∧ Dj hx62 hx ∧ Dj hx62 hx8 ∧ Dj hx62 hx14 ∧ Dj hx62 hx47 ∧ Dj hx62 hx52 ∧ Dj hx62 hx57) (fun s => m s.1 s.2.1 s.2.2.1 s.2.2.2) ([], [], [], 0) ⟨Hx, _, .slice none 0 0, emp, .slice none 0 0, emp, .slice none 0 0, emp, env_eq ⟨rfl, rfl, rfl, rfl, rfl, rfl, rfl, rfl, rfl, trivial⟩, (X23.stepx x45), OS.nil, (emp_sub _), (emp_fresh _), OS.nil, (emp_sub _), (emp_fresh _), OS.nil, (emp_sub _), (emp_fresh _), (ex19.ext x45), (ex21.ext x45), (ex22.ext x45), ex48, (fun _ => .inl rfl), (fun _ => .inl rfl), (fun _ => .inl rfl), (fun _ => .inl rfl), (fun _ => .inl rfl), (fun _ => .inl rfl), (fun _ => .inl rfl), (fun _ => .inl rfl), (fun _ => .inl rfl), (fun _ => .inl rfl), (fun _ => .inl rfl), (fun _ => .inl rfl), (fun _ => .inl rfl), (fun _ => .inl rfl), (fun _ => .inl rfl)⟩ ?_
 rintro ⟨failed, bounds, masks, x66⟩ _ wx67 ⟨Hi, ρ, vx51, hx52, vx56, hx57, vx61, hx62, rfl, HF⟩
 revert HF
 refine bb9 fun X92 o53 ex54 f55 o58 ex59 f60 o63 => ?_
 refine bb9 fun ex64 f65 ex68 ex69 ex70 ex71 d d78 => ?_
 refine bb9 fun d79 d80 d81 d82 d83 d84 d85 d86 => ?_
 refine bb5 fun d87 d88 d89 d90 d91 => ?_
 have H := H failed bounds masks x66 Hi
 obtain ⟨a72, c73, rfl⟩ := o53.shape
 obtain ⟨a74, c75, rfl⟩ := o58.shape
 obtain ⟨a76, c77, rfl⟩ := o63.shape
 refine W_seq (W_region ?_)
 refine LP_ev ok 0 [(46, .bool (decide (x66 < (ln r43))))] 1 rfl rfl ?_
 refine LP_end _ rfl (W_seq ?_)
 refine W_cond (decide (x66 < (ln r43))) rfl (fun hc97 => ?_) (fun hc97 => ?_)
 ·have H := H.1 hc97
  refine W_skip ?_
  obtain ⟨k144, hk145, H⟩ := jn_elim H
  refine W_join2 (S := (List Int) × (List Int) × (List Int)) (fun s ρ' w' => k144 s.1 s.2.1 s.2.2 ∧ ∃ (ρ : Env) (vx100 : Value) (hx101 : PH) (vx106 : Value) (hx107 : PH) (vx112 : Value) (hx113 : PH), ρ' = setAll [(0, sl a sx c), (2, sl a11 weights c12), (3, sl a17 values c18), (11, vx100), (12, vx106), (13, vx112), (43, sl a49 r43 c50), (44, I (ln r43)), (45, I x66)] ρ ∧ But emp w w' ∧ OS 3 hx101 emp vx100 s.1 ∧ Sub hx101 w' ∧ Fresh w.heap.size hx101 ∧ OS 3 hx107 emp vx106 s.2.1 ∧ Sub hx107 w' ∧ Fresh w.heap.size hx107 ∧ OS 3 hx113 emp vx112 s.2.2 ∧ Sub hx113 w' ∧ Fresh w.heap.size hx113 ∧ Sub hx w' ∧ Sub hx8 w' ∧ Sub hx14 w' ∧ Sub hx47 w' ∧ Dj hx101 hx ∧ Dj hx101 hx8 ∧ Dj hx101 hx14 ∧ Dj hx101 hx47 ∧ Dj hx107 hx ∧ Dj hx107 hx8 ∧ Dj hx107 hx14 ∧ Dj hx107 hx47 ∧ Dj hx107 hx101 ∧ Dj hx113 hx ∧ Dj hx113 hx8 ∧ Dj hx113 hx14 ∧ Dj hx113 hx47 ∧ Dj hx113 hx101 ∧ Dj hx113 hx107) ?_ ?_
  ·refine W_block ?_
   refine W_seq (W_region ?_)
   refine LP_ev ok 0 [(47, I x66)] 1 rfl rfl ?_
   obtain ⟨x146, hi, hx147, H⟩ := H
   refine LP_index 1 rfl rfl rfl Try.underlying24 ti_79 rfl rfl o.readf hi hx147 fun a148 cs r149 d150 => ?_
   have d151 := d150
   obtain ⟨u, rfl, r152⟩ := Edit_rd d151
   obtain ⟨a153, c154, rfl⟩ := r152.shape
   refine LP_load 2 rfl rfl rfl ti_79 ag_79 rfl r149 d150 ex71 fun vx155 r156 => ?_
   obtain ⟨u157, rfl, r158⟩ := Edit_rv r156
   obtain ⟨a159, c160, rfl⟩ := r158.shape
   refine LP_alloc 3 rfl rfl rfl ti_79 rfl fun b wx161 x162 ex163 f164 => ?_
   refine LP_ev ok 4 [(14, I x66)] 5 rfl rfl ?_
   refine LP_stbox 5 (vs := [sl a159 x146.Sets c160]) (cs' := [sl a159 x146.Sets c160]) rfl rfl rfl ti_79 rfl rfl rfl rfl rfl ex163 rfl rfl fun wx165 ex166 y => ?_
   refine LP_end _ rfl (W_seq ?_)
   refine W_seq (W_region ?_)
   refine LP_ldbox 0 (v := .agg #[sl a159 x146.Sets c160]) rfl rfl rfl ti_79 ag_79 (fun h => by cases h) rfl ex166 rfl rfl ?_
   refine LP_ev ok 1 [(51, sl a17 values c18)] 2 rfl rfl ?_
   have ex168 := ((ex71.ext x162).but y (Dj.of_fresh ex71 f164).symm)
   have ex169 := ((ex70.ext x162).but y (Dj.of_fresh ex70 f164).symm)
   refine LP_call 2 rfl rfl rfl cal_50 rfl (impl_fails_w _ _ _ H wx165 r158 ex168 r15 ex169) ?_
   rintro _ wx170 ⟨r167, H, rfl, x171⟩
   refine LP_ev ok 3 [(53, .bool (!r167))] 4 rfl rfl ?_
   refine LP_end _ rfl ?_
   refine W_cond (!r167) rfl (fun hc172 => ?_) (fun hc172 => ?_)
   ·have H := H.1 hc172
    refine W_exit ?_
    refine (if_pos rfl).mpr ?_
    have f173 := f164.mono X92.size
    exact ⟨(failed, bounds, masks), H, _, sl a72 failed c73, hx52, sl a74 bounds c75, hx57, sl a76 masks c77, hx62, env_eq ⟨rfl, rfl, rfl, rfl, rfl, rfl, rfl, rfl, rfl, trivial⟩, (((X92.stepx x162).step y (f173.dom _)).stepx x171), o53, (((ex54.ext x162).but y (Dj.of_fresh ex54 f164).symm).ext x171), f55, o58, (((ex59.ext x162).but y (Dj.of_fresh ex59 f164).symm).ext x171), f60, o63, (((ex64.ext x162).but y (Dj.of_fresh ex64 f164).symm).ext x171), f65, (((ex68.ext x162).but y (Dj.of_fresh ex68 f164).symm).ext x171), (((ex69.ext x162).but y (Dj.of_fresh ex69 f164).symm).ext x171), (ex169.ext x171), (ex168.ext x171), d, d78, d79, d80, d81, d82, d83, d84, d85, d86, d87, d88, d89, d90, d91⟩
   have H := H.2 hc172
   refine W_skip ?_
   refine W_seq (W_region ?_)
   refine LP_ev ok 0 [(16, I 101), (17, I 0)] 2 rfl rfl ?_
   refine LP_end _ rfl (W_seq ?_)
   refine W_seq (W_region ?_)
   refine LP_ev ok 0 [(54, sl a sx c)] 1 rfl rfl ?_
   refine LP_ldbox 1 (v := .agg #[sl a159 x146.Sets c160]) rfl rfl rfl ti_79 ag_79 (fun h => by cases h) rfl (ex166.ext x171) rfl rfl ?_
   have ex184 := (((ex68.ext x162).but y (Dj.of_fresh ex68 f164).symm).ext x171)
   have ex185 := (ex168.ext x171)
   refine LP_call 2 rfl rfl rfl cal_64 rfl (impl_involvedIn_w _ _ _ H wx170 r ex184 r158 ex185) ?_
   rintro _ wx186 ⟨r183, vx188, hx189, H, rfl, x187, o190, ex191, f192⟩
   obtain ⟨a193, c194, rfl⟩ := o190.shape
   refine LP_ev ok 3 [(57, I (ln r183)), (58, I 0)] 5 rfl rfl ?_
   refine LP_end _ rfl ?_
   refine W_block ?_
   obtain ⟨J197, m198, Hx199, H⟩ := H
   refine W_loop (S := Int × Int × Int) (fun s ρ' w' => J197 s.1 s.2.1 s.2.2 ∧ ∃ (ρ : Env), ρ' = setAll [(0, sl a sx c), (2, sl a11 weights c12), (3, sl a17 values c18), (11, sl a72 failed c73), (12, sl a74 bounds c75), (13, sl a76 masks c77), (14, I x66), (16, I s.1), (17, I s.2.1), (43, sl a49 r43 c50), (44, I (ln r43)), (45, I x66), (56, sl a193 r183 c194), (57, I (ln r183)), (58, I s.2.2)] ρ ∧ wx186 = w') (fun s => m198 s.1 s.2.1 s.2.2) (101, 0, 0) ⟨Hx199, _, env_eq ⟨rfl, rfl, rfl, rfl, rfl, rfl, rfl, rfl, rfl, rfl, rfl, rfl, rfl, rfl, rfl, trivial⟩, rfl⟩ ?_
   rintro ⟨bound, mask, x195⟩ _ _ ⟨Hi, ρ, rfl, rfl⟩
   have H := H bound mask x195 Hi
   refine W_seq (W_region ?_)
   refine LP_ev ok 0 [(59, .bool (decide (x195 < (ln r183))))] 1 rfl rfl ?_
   refine LP_end _ rfl (W_seq ?_)
   refine W_cond (decide (x195 < (ln r183))) rfl (fun hc201 => ?_) (fun hc201 => ?_)
   ·have H := H.1 hc201
    refine W_skip ?_
    refine W_seq ?_
    refine W_block ?_
    refine W_seq (W_region ?_)
    obtain ⟨x202, hi203, hx204, H⟩ := H
    refine LP_index 0 rfl rfl rfl Try.underlying25 ti_3 rfl rfl o190.readf hi203 hx204 fun a205 cs206 r207 d208 => ?_
    refine LP_load 1 rfl rfl rfl ti_3 ag_3 rfl r207 d208 ex191 fun vx209 r210 => ?_
    obtain rfl := r210.int
    refine LP_ev ok 2 [(19, I x202)] 3 rfl rfl ?_
    refine LP_end _ rfl (W_seq (W_region ?_))
    refine LP_ev ok 0 [(62, I bound), (63, sl a11 weights c12), (64, I x202)] 3 rfl rfl ?_
    obtain ⟨x211, hi212, hx213, H⟩ := H
    refine LP_index 3 rfl rfl rfl Try.underlying25 ti_3 rfl rfl r9 hi212 hx213 fun a214 cs215 r216 d217 => ?_
    refine LP_load 4 rfl rfl rfl ti_3 ag_3 rfl r216 d217 (((ex69.ext x162).but y (Dj.of_fresh ex69 f164).symm).ext (x171.trans x187)) fun vx220 r221 => ?_
    obtain rfl := r221.int
    refine LP_ev ok 5 [(67, I (mn bound x211)), (16, I (mn bound x211))] 7 rfl rfl ?_
    refine LP_end _ rfl ?_
    refine W_region ?_
    refine LP_ev ok 0 [(68, I mask), (69, I x202)] 2 rfl rfl ?_
    obtain ⟨hz, H⟩ := H
    refine LP_val 2 _ rfl rfl (ex_shl rfl rfl rfl hz _) ?_
    refine LP_ev ok 3 [(71, I (bits .or .i64 mask (shl .i64 1 x202))), (17, I (bits .or .i64 mask (shl .i64 1 x202)))] 5 rfl rfl ?_
    refine LP_end _ rfl ?_
    refine W_region ?_
    refine LP_ev ok 0 [(72, I (wr (x195 + 1))), (58, I (wr (x195 + 1)))] 2 rfl rfl ?_
    exact LP_end _ rfl ⟨(mn bound x211, bits .or .i64 mask (shl .i64 1 x202), wr (x195 + 1)), ⟨H.1, _, env_eq ⟨rfl, rfl, rfl, rfl, rfl, rfl, rfl, rfl, rfl, rfl, rfl, rfl, rfl, rfl, rfl, trivial⟩, rfl⟩, H.2⟩
   have H := H.2 hc201
   refine W_exit ?_
   refine (if_pos rfl).mpr ?_
   refine W_seq ?_
   have f222 := f164.mono X92.size
   have xc223 := (x171.trans x187)
   have X224 := (((X92.stepx x162).step y (f222.dom _)).stepx xc223)
   have ex225 := (ex184.ext x187)
   have ex226 := (((ex69.ext x162).but y (Dj.of_fresh ex69 f164).symm).ext xc223)
   have ex227 := (ex169.ext xc223)
   have ex228 := (ex185.ext x187)
   have ex230 := (((ex59.ext x162).but y (Dj.of_fresh ex59 f164).symm).ext xc223)
   have ex231 := (((ex64.ext x162).but y (Dj.of_fresh ex64 f164).symm).ext xc223)
   obtain ⟨k234, hk235, H⟩ := jn_elim H
   refine W_join2 (S := Bool) (fun s ρ' w' => k234 s ∧ ∃ (ρ : Env), ρ' = setAll [(0, sl a sx c), (2, sl a11 weights c12), (3, sl a17 values c18), (11, sl a72 failed c73), (12, sl a74 bounds c75), (13, sl a76 masks c77), (14, I x66), (16, I bound), (17, I mask), (43, sl a49 r43 c50), (44, I (ln r43)), (45, I x66), (79, .bool s)] ρ ∧ wx186 = w') ?_ ?_
   ·refine W_region ?_
    refine LP_ev ok 0 [(73, I mask), (74, .bool (mask == 0)), (75, .bool (mask == 0))] 3 rfl rfl ?_
    refine LP_split 75 (mask == 0) rfl (fun hc236 => ?_) (fun hc236 => ?_)
    ·have H := H.1 hc236
     refine LP_ev ok 3 [(76, undef), (77, undef), (78, undef), (79, .bool true)] 7 rfl rfl ?_
     exact LP_end _ rfl ⟨true, H, _, env_eq ⟨rfl, rfl, rfl, rfl, rfl, rfl, rfl, rfl, rfl, rfl, rfl, rfl, rfl, trivial⟩, rfl⟩
    have H := H.2 hc236
    refine LP_ev ok 3 [(76, sl a72 failed c73), (77, I (ln failed)), (78, .bool ((ln failed) == 12)), (79, .bool ((ln failed) == 12))] 7 rfl rfl ?_
    exact LP_end _ rfl ⟨(ln failed) == 12, H, _, env_eq ⟨rfl, rfl, rfl, rfl, rfl, rfl, rfl, rfl, rfl, rfl, rfl, rfl, rfl, trivial⟩, rfl⟩
   rintro x232 _ _ ⟨H, ρ, rfl, rfl⟩
   subst hk235
   refine W_cond (x232) rfl (fun hc237 => ?_) (fun hc237 => ?_)
   ·have H := H.1 hc237
    refine W_seq (W_region ?_)
    refine LP_ev ok 0 [(8, I 0), (9, .slice none 0 0), (10, .bool false)] 3 rfl rfl ?_
    refine LP_end _ rfl (W_ret ?_)
    exact ⟨_, Ret_of [I 0, .slice none 0 0, .bool false] ⟨⟨rfl, rfl⟩, ⟨rfl, rfl⟩, ⟨rfl, rfl⟩, trivial⟩, _, _, _, _, emp, H, rfl, X224.ext, OS.nil, (emp_sub _), (emp_fresh _)⟩
   have H := H.2 hc237
   refine W_skip ?_
   refine W_region ?_
   refine LP_ev ok 0 [(80, sl a72 failed c73), (81, I x66)] 2 rfl rfl ?_
   refine LP_lit (α := Int) (g := emp) 2 (vs := [I x66]) (xs := [x66]) rfl rfl rfl Try.underlying25 ti_3 rfl rfl ⟨⟨_, rfl, rfl⟩, trivial⟩ rfl rfl fun hx238 vx239 wx240 x241 o242 ex243 f244 => ?_
   obtain ⟨a245, c246, rfl⟩ := o242.shape
   obtain ⟨hb, H⟩ := H
   refine LP_appendf (α := Int) 3 rfl rfl rfl Try.underlying25 ti_3 rfl rfl rfl o53 ((((ex54.ext x162).but y (Dj.of_fresh ex54 f164).symm).ext xc223).ext x241) o242.readf ex243 (by first | omega | (simp only [ln] at *; omega)) (by first | omega | (simp only [ln] at *; omega)) fun hx248 vx249 wx250 o251 ex252 y253 dm => ?_
   obtain ⟨a254, c255, rfl⟩ := o251.shape
   refine LP_ev ok 4 [(84, sl a74 bounds c75), (85, I bound)] 6 rfl rfl ?_
   refine LP_lit (α := Int) (g := emp) 6 (vs := [I bound]) (xs := [bound]) rfl rfl rfl Try.underlying25 ti_3 rfl rfl ⟨⟨_, rfl, rfl⟩, trivial⟩ rfl rfl fun hx256 vx257 wx258 x259 o260 ex261 f262 => ?_
   obtain ⟨a263, c264, rfl⟩ := o260.shape
   obtain ⟨hb266, H⟩ := H
   refine LP_appendf (α := Int) 7 rfl rfl rfl Try.underlying25 ti_3 rfl rfl rfl o58 (((ex230.ext x241).but y253 d85.symm).ext x259) o260.readf ex261 (by first | omega | (simp only [ln] at *; omega)) (by first | omega | (simp only [ln] at *; omega)) fun hx267 vx268 wx269 o270 ex271 y272 dm273 => ?_
   obtain ⟨a274, c275, rfl⟩ := o270.shape
   refine LP_ev ok 8 [(88, sl a76 masks c77), (89, I mask)] 10 rfl rfl ?_
   refine LP_lit (α := Int) (g := emp) 10 (vs := [I mask]) (xs := [mask]) rfl rfl rfl Try.underlying25 ti_3 rfl rfl ⟨⟨_, rfl, rfl⟩, trivial⟩ rfl rfl fun hx276 vx277 wx278 x279 o280 ex281 f282 => ?_
   obtain ⟨a283, c284, rfl⟩ := o280.shape
   obtain ⟨hb286, H⟩ := H
   refine LP_appendf (α := Int) 11 rfl rfl rfl Try.underlying25 ti_3 rfl rfl rfl o63 (((((ex231.ext x241).but y253 d90.symm).ext x259).but y272 d91.symm).ext x279) o280.readf ex281 (by first | omega | (simp only [ln] at *; omega)) (by first | omega | (simp only [ln] at *; omega)) fun hx287 vx288 wx289 o290 ex291 y292 dm293 => ?_
   obtain ⟨a294, c295, rfl⟩ := o290.shape
   refine LP_ev ok 12 [(11, .slice a254 (List.length (failed ++ ([x66]))) c255), (12, .slice a274 (List.length (bounds ++ ([bound]))) c275), (13, .slice a294 (List.length (masks ++ ([mask]))) c295)] 15 rfl rfl ?_
   refine LP_end _ rfl ?_
   have ex297 := (ex230.ext x241)
   have ex298 := (ex231.ext x241)
   have X301 := (X224.stepx x241)
   have f300 := dm.fresh f55 X301.size
   have ex302 := ((ex298.but y253 d90.symm).ext x259)
   have X305 := ((X301.step y253 (f55.dom _)).stepx x259)
   have f304 := dm273.fresh f60 X305.size
   have f306 := dm293.fresh f65 ((X305.step y272 (f60.dom _)).stepx x279).size
   have ex312 := (ex225.ext x241)
   have ex313 := (ex226.ext x241)
   have ex314 := (ex227.ext x241)
   have ex315 := (ex228.ext x241)
   have ex316 := ((ex312.but y253 d).ext x259)
   have ex317 := ((ex313.but y253 d78).ext x259)
   have ex318 := ((ex314.but y253 d79).ext x259)
   have ex319 := ((ex315.but y253 d80).ext x259)
   have ex320 := (ex252.ext x259)
   exact ⟨(failed ++ ([x66]), bounds ++ ([bound]), masks ++ ([mask])), H, _, .slice a254 (List.length (failed ++ ([x66]))) c255, hx248, .slice a274 (List.length (bounds ++ ([bound]))) c275, hx267, .slice a294 (List.length (masks ++ ([mask]))) c295, hx287, env_eq ⟨rfl, rfl, rfl, rfl, rfl, rfl, rfl, rfl, rfl, trivial⟩, ((((((X224.stepx x241).step y253 (f55.dom _)).stepx x259).step y272 (f60.dom _)).stepx x279).step y292 (f65.dom _)), o251, ((((ex252.ext x259).but y272 (DomLe.dj dm d85.symm ex297).symm).ext x279).but y292 (DomLe.dj dm d90.symm ex298).symm), f300, o270, ((ex271.ext x279).but y292 (DomLe.dj dm273 d91.symm ex302).symm), f304, o290, ex291, f306, ((((((ex225.ext x241).but y253 d).ext x259).but y272 d81).ext x279).but y292 d86), ((((((ex226.ext x241).but y253 d78).ext x259).but y272 d82).ext x279).but y292 d87), ((((((ex227.ext x241).but y253 d79).ext x259).but y272 d83).ext x279).but y292 d88), ((((((ex228.ext x241).but y253 d80).ext x259).but y272 d84).ext x279).but y292 d89), (DomLe.dj dm d ex312), (DomLe.dj dm d78 ex313), (DomLe.dj dm d79 ex314), (DomLe.dj dm d80 ex315), (DomLe.dj dm273 d81 ex316), (DomLe.dj dm273 d82 ex317), (DomLe.dj dm273 d83 ex318), (DomLe.dj dm273 d84 ex319), (DomLe.dj dm273 (DomLe.dj dm d85.symm ex297).symm ex320), (DomLe.dj dm293 d86 ((ex316.but y272 d81).ext x279)), (DomLe.dj dm293 d87 ((ex317.but y272 d82).ext x279)), (DomLe.dj dm293 d88 ((ex318.but y272 d83).ext x279)), (DomLe.dj dm293 d89 ((ex319.but y272 d84).ext x279)), (DomLe.dj dm293 (DomLe.dj dm d90.symm ex298).symm ((ex320.but y272 (DomLe.dj dm d85.symm ex297).symm).ext x279)), (DomLe.dj dm293 (DomLe.dj dm273 d91.symm ex302).symm (ex271.ext x279))⟩
  rintro ⟨failed99, bounds105, masks111⟩ _ wx117 ⟨H, ρ, vx100, hx101, vx106, hx107, vx112, hx113, rfl, HF⟩
  revert HF
  refine bb9 fun X143 o102 ex103 f104 o108 ex109 f110 o114 => ?_
  refine bb9 fun ex115 f116 ex118 ex119 ex120 ex121 d128 d129 => ?_
  refine bb9 fun d130 d131 d132 d133 d134 d135 d136 d137 => ?_
  refine bb5 fun d138 d139 d140 d141 d142 => ?_
  subst hk145
  obtain ⟨a122, c123, rfl⟩ := o102.shape
  obtain ⟨a124, c125, rfl⟩ := o108.shape
  obtain ⟨a126, c127, rfl⟩ := o114.shape
  refine W_region ?_
  refine LP_ev ok 0 [(92, I (wr (x66 + 1))), (45, I (wr (x66 + 1)))] 2 rfl rfl ?_
  exact LP_end _ rfl ⟨(failed99, bounds105, masks111, wr (x66 + 1)), ⟨H.1, _, sl a122 failed99 c123, hx101, sl a124 bounds105 c125, hx107, sl a126 masks111 c127, hx113, env_eq ⟨rfl, rfl, rfl, rfl, rfl, rfl, rfl, rfl, rfl, trivial⟩, X143, o102, ex103, f104, o108, ex109, f110, o114, ex115, f116, ex118, ex119, ex120, ex121, d128, d129, d130, d131, d132, d133, d134, d135, d136, d137, d138, d139, d140, d141, d142⟩, H.2⟩
 have H := H.2 hc97
 refine W_exit ?_
 refine (if_pos rfl).mpr ?_
 refine W_seq (W_region ?_)
 refine LP_ev ok 0 [(20, I 0), (21, I 0)] 2 rfl rfl ?_
 refine LP_end _ rfl (W_seq ?_)
 refine W_seq (W_region ?_)
 refine LP_ev ok 0 [(22, I 1)] 1 rfl rfl ?_
 refine LP_end _ rfl ?_
 refine W_block ?_
 obtain ⟨J332, m333, Hx334, H⟩ := H
 refine W_loop (S := Int × Int × Int) (fun s ρ' w' => J332 s.1 s.2.1 s.2.2 ∧ ∃ (ρ : Env), ρ' = setAll [(11, sl a72 failed c73), (12, sl a74 bounds c75), (13, sl a76 masks c77), (20, I s.1), (21, I s.2.1), (22, I s.2.2)] ρ ∧ But emp w w' ∧ Sub hx52 w' ∧ Sub hx57 w' ∧ Sub hx62 w') (fun s => m333 s.1 s.2.1 s.2.2) (0, 0, 1) ⟨Hx334, _, env_eq ⟨rfl, rfl, rfl, rfl, rfl, rfl, trivial⟩, X92, ex54, ex59, ex64⟩ ?_
 rintro ⟨best, chosen, setx⟩ _ wx327 ⟨Hi, ρ, rfl, X331, ex328, ex329, ex330⟩
 have H := H best chosen setx Hi
 refine W_seq ?_
 refine W_seq (W_region ?_)
 refine LP_ev ok 0 [(93, I setx), (94, sl a72 failed c73), (95, I (ln failed))] 3 rfl rfl ?_
 obtain ⟨hz336, H⟩ := H
 refine LP_val 3 _ rfl rfl (ex_shl rfl rfl rfl hz336 _) ?_
 refine LP_ev ok 4 [(97, .bool (decide (setx < (shl .i64 1 (ln failed)))))] 5 rfl rfl ?_
 refine LP_end _ rfl ?_
 refine W_cond (decide (setx < (shl .i64 1 (ln failed)))) rfl (fun hc337 => ?_) (fun hc337 => ?_)
 ·have H := H.1 hc337
  refine W_skip ?_
  obtain ⟨k345, hk346, H⟩ := jn_elim H
  refine W_join2 (S := Int × Int) (fun s ρ' w' => k345 s.1 s.2 ∧ ∃ (ρ : Env), ρ' = setAll [(11, sl a72 failed c73), (12, sl a74 bounds c75), (13, sl a76 masks c77), (20, I s.1), (21, I s.2), (22, I setx)] ρ ∧ But emp w w' ∧ Sub hx52 w' ∧ Sub hx57 w' ∧ Sub hx62 w') ?_ ?_
  ·refine W_block ?_
   refine W_seq (W_region ?_)
   refine LP_ev ok 0 [(23, I 0), (24, I 0)] 2 rfl rfl ?_
   refine LP_end _ rfl ?_
   obtain ⟨k352, hk353, H⟩ := jn_elim H
   refine W_join2 (S := Int) (fun s ρ' w' => k352 s ∧ ∃ (ρ : Env), ρ' = setAll [(11, sl a72 failed c73), (12, sl a74 bounds c75), (13, sl a76 masks c77), (20, I best), (21, I chosen), (22, I setx), (23, I s)] ρ ∧ But emp w w' ∧ Sub hx52 w' ∧ Sub hx57 w' ∧ Sub hx62 w') ?_ ?_
   ·refine W_seq (W_region ?_)
    refine LP_ev ok 0 [(100, I setx)] 1 rfl rfl ?_
    refine LP_call 1 rfl rfl rfl cal_65 rfl (impl_membersOf_w _ _ H wx327 ) ?_
    rintro _ wx355 ⟨r354, vx357, hx358, H, rfl, x356, o359, ex360, f361⟩
    obtain ⟨a362, c363, rfl⟩ := o359.shape
    refine LP_ev ok 2 [(102, I (ln r354)), (103, I 0)] 4 rfl rfl ?_
    refine LP_end _ rfl ?_
    refine W_block ?_
    obtain ⟨J367, m368, Hx369, H⟩ := H
    refine W_loop (S := Int × Int × Int) (fun s ρ' w' => J367 s.1 s.2.1 s.2.2 ∧ ∃ (ρ : Env), ρ' = setAll [(11, sl a72 failed c73), (12, sl a74 bounds c75), (13, sl a76 masks c77), (20, I best), (21, I chosen), (22, I setx), (23, I s.1), (24, I s.2.1), (101, sl a362 r354 c363), (102, I (ln r354)), (103, I s.2.2)] ρ ∧ wx355 = w') (fun s => m368 s.1 s.2.1 s.2.2) (0, 0, 0) ⟨Hx369, _, env_eq ⟨rfl, rfl, rfl, rfl, rfl, rfl, rfl, rfl, rfl, rfl, rfl, trivial⟩, rfl⟩ ?_
    rintro ⟨sum364, used, x365⟩ _ _ ⟨Hi, ρ, rfl, rfl⟩
    have H := H sum364 used x365 Hi
    refine W_seq (W_region ?_)
    refine LP_ev ok 0 [(104, .bool (decide (x365 < (ln r354))))] 1 rfl rfl ?_
    refine LP_end _ rfl (W_seq ?_)
    refine W_cond (decide (x365 < (ln r354))) rfl (fun hc371 => ?_) (fun hc371 => ?_)
    ·have H := H.1 hc371
     refine W_skip ?_
     refine W_seq ?_
     refine W_block ?_
     refine W_seq (W_region ?_)
     obtain ⟨x372, hi373, hx374, H⟩ := H
     refine LP_index 0 rfl rfl rfl Try.underlying25 ti_3 rfl rfl o359.readf hi373 hx374 fun a375 cs376 r377 d378 => ?_
     refine LP_load 1 rfl rfl rfl ti_3 ag_3 rfl r377 d378 ex360 fun vx379 r380 => ?_
     obtain rfl := r380.int
     refine LP_ev ok 2 [(26, I x372)] 3 rfl rfl ?_
     refine LP_end _ rfl (W_seq ?_)
     refine W_seq (W_region ?_)
     refine LP_ev ok 0 [(107, I used), (108, sl a76 masks c77), (109, I x372)] 3 rfl rfl ?_
     obtain ⟨x381, hi382, hx383, H⟩ := H
     refine LP_index 3 rfl rfl rfl Try.underlying25 ti_3 rfl rfl o63.readf hi382 hx383 fun a384 cs385 r386 d387 => ?_
     have ex388 := (ex330.ext x356)
     refine LP_load 4 rfl rfl rfl ti_3 ag_3 rfl r386 d387 ex388 fun vx389 r390 => ?_
     obtain rfl := r390.int
     refine LP_ev ok 5 [(112, I (bits .and .i64 used x381)), (113, .bool ((bits .and .i64 used x381) != 0))] 7 rfl rfl ?_
     refine LP_end _ rfl ?_
     refine W_cond ((bits .and .i64 used x381) != 0) rfl (fun hc391 => ?_) (fun hc391 => ?_)
     ·have H := H.1 hc391
      refine W_seq (W_region ?_)
      refine LP_ev ok 0 [(23, I ((-1)))] 1 rfl rfl ?_
      refine LP_end _ rfl ?_
      refine W_exit ?_
      refine (if_neg (by decide)).mpr ?_
      refine (if_pos rfl).mpr ?_
      exact ⟨(-1), H, _, env_eq ⟨rfl, rfl, rfl, rfl, rfl, rfl, rfl, trivial⟩, (X331.stepx x356), (ex328.ext x356), (ex329.ext x356), ex388⟩
     have H := H.2 hc391
     refine W_skip ?_
     refine W_seq (W_region ?_)
     refine LP_ev ok 0 [(114, I used), (115, sl a76 masks c77), (116, I x372)] 3 rfl rfl ?_
     obtain ⟨x395, hi396, hx397, H⟩ := H
     refine LP_index 3 rfl rfl rfl Try.underlying25 ti_3 rfl rfl o63.readf hi396 hx397 fun a398 cs399 r400 d401 => ?_
     refine LP_load 4 rfl rfl rfl ti_3 ag_3 rfl r400 d401 ex388 fun vx402 r403 => ?_
     obtain rfl := r403.int
     refine LP_ev ok 5 [(119, I (bits .or .i64 used x395)), (24, I (bits .or .i64 used x395))] 7 rfl rfl ?_
     refine LP_end _ rfl ?_
     refine W_region ?_
     refine LP_ev ok 0 [(120, I sum364), (121, sl a74 bounds c75), (122, I x372)] 3 rfl rfl ?_
     obtain ⟨x404, hi405, hx406, H⟩ := H
     refine LP_index 3 rfl rfl rfl Try.underlying25 ti_3 rfl rfl o58.readf hi405 hx406 fun a407 cs408 r409 d410 => ?_
     refine LP_load 4 rfl rfl rfl ti_3 ag_3 rfl r409 d410 (ex329.ext x356) fun vx412 r413 => ?_
     obtain rfl := r413.int
     refine LP_ev ok 5 [(125, I (wr (sum364 + x404))), (23, I (wr (sum364 + x404)))] 7 rfl rfl ?_
     refine LP_end _ rfl ?_
     try refine W_forget [(11, sl a72 failed c73), (12, sl a74 bounds c75), (13, sl a76 masks c77), (20, I best), (21, I chosen), (22, I setx), (23, I (wr (sum364 + x404))), (24, I (bits .or .i64 used x395)), (101, sl a362 r354 c363), (102, I (ln r354)), (103, I x365)] ⟨rfl, rfl, rfl, rfl, rfl, rfl, rfl, rfl, rfl, rfl, rfl, trivial⟩ fun ρ => ?_
     refine W_region ?_
     refine LP_ev ok 0 [(126, I (wr (x365 + 1))), (103, I (wr (x365 + 1)))] 2 rfl rfl ?_
     exact LP_end _ rfl ⟨(wr (sum364 + x404), bits .or .i64 used x395, wr (x365 + 1)), ⟨H.1, _, env_eq ⟨rfl, rfl, rfl, rfl, rfl, rfl, rfl, rfl, rfl, rfl, rfl, trivial⟩, rfl⟩, H.2⟩
    have H := H.2 hc371
    refine W_exit ?_
    refine (if_pos rfl).mpr ?_
    exact ⟨sum364, H, _, env_eq ⟨rfl, rfl, rfl, rfl, rfl, rfl, rfl, trivial⟩, (X331.stepx x356), (ex328.ext x356), (ex329.ext x356), (ex330.ext x356)⟩
   rintro sum _ wx347 ⟨H, ρ, rfl, X351, ex348, ex349, ex350⟩
   subst hk353
   refine W_seq (W_region ?_)
   refine LP_ev ok 0 [(127, I sum), (128, I best), (129, .bool (decide (sum > best)))] 3 rfl rfl ?_
   refine LP_end _ rfl ?_
   refine W_cond (decide (sum > best)) rfl (fun hc418 => ?_) (fun hc418 => ?_)
   ·have H := H.1 hc418
    refine W_region ?_
    refine LP_ev ok 0 [(130, I sum), (131, I setx), (20, I sum), (21, I setx)] 4 rfl rfl ?_
    exact LP_end _ rfl ⟨(sum, setx), H, _, env_eq ⟨rfl, rfl, rfl, rfl, rfl, rfl, trivial⟩, X351, ex348, ex349, ex350⟩
   have H := H.2 hc418
   exact W_skip ⟨(best, chosen), H, _, env_eq ⟨rfl, rfl, rfl, rfl, rfl, rfl, trivial⟩, X351, ex348, ex349, ex350⟩
  rintro ⟨best338, chosen339⟩ _ wx340 ⟨H, ρ, rfl, X344, ex341, ex342, ex343⟩
  subst hk346
  refine W_region ?_
  refine LP_ev ok 0 [(98, I setx), (99, I (wr (setx + 1))), (22, I (wr (setx + 1)))] 3 rfl rfl ?_
  exact LP_end _ rfl ⟨(best338, chosen339, wr (setx + 1)), ⟨H.1, _, env_eq ⟨rfl, rfl, rfl, rfl, rfl, rfl, trivial⟩, X344, ex341, ex342, ex343⟩, H.2⟩
 have H := H.2 hc337
 refine W_exit ?_
 refine (if_pos rfl).mpr ?_
 refine W_seq (W_region ?_)
 refine LP_ev ok 0 [(27, .slice none 0 0)] 1 rfl rfl ?_
 refine LP_end _ rfl (W_seq ?_)
 refine W_seq (W_region ?_)
 refine LP_ev ok 0 [(132, I chosen)] 1 rfl rfl ?_
 refine LP_call 1 rfl rfl rfl cal_65 rfl (impl_membersOf_w _ _ H wx327 ) ?_
 rintro _ wx420 ⟨r419, vx422, hx423, H, rfl, x421, o424, ex425, f426⟩
 obtain ⟨a427, c428, rfl⟩ := o424.shape
 refine LP_ev ok 2 [(134, I (ln r419)), (135, I 0)] 4 rfl rfl ?_
 refine LP_end _ rfl ?_
 refine W_block ?_
 obtain ⟨J443, m444, Hx445, H⟩ := H
 refine W_loop (S := (List Int) × Int) (fun s ρ' w' => J443 s.1 s.2 ∧ ∃ (ρ : Env) (vx429 : Value) (hx430 : PH), ρ' = setAll [(11, sl a72 failed c73), (20, I best), (27, vx429), (133, sl a427 r419 c428), (134, I (ln r419)), (135, I s.2)] ρ ∧ But emp w w' ∧ OS 3 hx430 emp vx429 s.1 ∧ Sub hx430 w' ∧ Fresh w.heap.size hx430 ∧ Sub hx52 w' ∧ Sub hx423 w' ∧ Dj hx430 hx52 ∧ Dj hx430 hx423) (fun s => m444 s.1 s.2) ([], 0) ⟨Hx445, _, .slice none 0 0, emp, env_eq ⟨rfl, rfl, rfl, rfl, rfl, rfl, trivial⟩, (X331.stepx x421), OS.nil, (emp_sub _), (emp_fresh _), (ex328.ext x421), ex425, (fun _ => .inl rfl), (fun _ => .inl rfl)⟩ ?_
 rintro ⟨indices, x434⟩ _ wx435 ⟨Hi, ρ, vx429, hx430, rfl, HF⟩
 revert HF
 refine bb8 fun X442 o431 ex432 f433 ex436 ex437 d440 d441 => ?_
 have H := H indices x434 Hi
 obtain ⟨a438, c439, rfl⟩ := o431.shape
 refine W_seq (W_region ?_)
 refine LP_ev ok 0 [(136, .bool (decide (x434 < (ln r419))))] 1 rfl rfl ?_
 refine LP_end _ rfl (W_seq ?_)
 refine W_cond (decide (x434 < (ln r419))) rfl (fun hc449 => ?_) (fun hc449 => ?_)
 ·have H := H.1 hc449
  refine W_skip ?_
  refine W_seq ?_
  refine W_block ?_
  refine W_seq (W_region ?_)
  obtain ⟨x450, hi451, hx452, H⟩ := H
  refine LP_index 0 rfl rfl rfl Try.underlying25 ti_3 rfl rfl o424.readf hi451 hx452 fun a453 cs454 r455 d456 => ?_
  refine LP_load 1 rfl rfl rfl ti_3 ag_3 rfl r455 d456 ex437 fun vx457 r458 => ?_
  obtain rfl := r458.int
  refine LP_ev ok 2 [(29, I x450)] 3 rfl rfl ?_
  refine LP_end _ rfl ?_
  refine W_region ?_
  refine LP_ev ok 0 [(139, sl a438 indices c439), (140, sl a72 failed c73), (141, I x450)] 3 rfl rfl ?_
  obtain ⟨x459, hi460, hx461, H⟩ := H
  refine LP_index 3 rfl rfl rfl Try.underlying25 ti_3 rfl rfl o53.readf hi460 hx461 fun a462 cs463 r464 d465 => ?_
  refine LP_load 4 rfl rfl rfl ti_3 ag_3 rfl r464 d465 ex436 fun vx466 r467 => ?_
  obtain rfl := r467.int
  refine LP_lit (α := Int) (g := emp) 5 (vs := [I x459]) (xs := [x459]) rfl rfl rfl Try.underlying25 ti_3 rfl rfl ⟨⟨_, rfl, rfl⟩, trivial⟩ rfl rfl fun hx468 vx469 wx470 x471 o472 ex473 f474 => ?_
  obtain ⟨a475, c476, rfl⟩ := o472.shape
  obtain ⟨hb478, H⟩ := H
  refine LP_appendf (α := Int) 6 rfl rfl rfl Try.underlying25 ti_3 rfl rfl rfl o431 (ex432.ext x471) o472.readf ex473 (by first | omega | (simp only [ln] at *; omega)) (by first | omega | (simp only [ln] at *; omega)) fun hx479 vx480 wx481 o482 ex483 y484 dm485 => ?_
  obtain ⟨a486, c487, rfl⟩ := o482.shape
  refine LP_ev ok 7 [(27, .slice a486 (List.length (indices ++ ([x459]))) c487)] 8 rfl rfl ?_
  refine LP_end _ rfl ?_
  refine W_region ?_
  refine LP_ev ok 0 [(146, I (wr (x434 + 1))), (135, I (wr (x434 + 1)))] 2 rfl rfl ?_
  refine LP_end _ rfl ?_
  have f489 := dm485.fresh f433 (X442.stepx x471).size
  exact ⟨(indices ++ ([x459]), wr (x434 + 1)), ⟨H.1, _, .slice a486 (List.length (indices ++ ([x459]))) c487, hx479, env_eq ⟨rfl, rfl, rfl, rfl, rfl, rfl, trivial⟩, ((X442.stepx x471).step y484 (f433.dom _)), o482, ex483, f489, ((ex436.ext x471).but y484 d440), ((ex437.ext x471).but y484 d441), (DomLe.dj dm485 d440 (ex436.ext x471)), (DomLe.dj dm485 d441 (ex437.ext x471))⟩, H.2⟩
 have H := H.2 hc449
 refine W_exit ?_
 refine (if_pos rfl).mpr ?_
 refine W_seq (W_region ?_)
 refine LP_ev ok 0 [(147, I best), (148, sl a438 indices c439), (8, I best), (9, sl a438 indices c439), (10, .bool true)] 5 rfl rfl ?_
 refine LP_end _ rfl (W_ret ?_)
 exact ⟨_, Ret_of [I best, sl a438 indices c439, .bool true] ⟨⟨rfl, rfl⟩, ⟨rfl, rfl⟩, ⟨rfl, rfl⟩, trivial⟩, _, _, _, _, _, H, rfl, X442.ext, o431, ex432, f433⟩

theorem laws_FnMending_w (code : List B8) (more : List B8) (Q : Bool → Prop) (H : laws_FnMending code more Q) (w : World) {vx : Value} {hx : PH} (r : RS hx vx code) (ex : Sub hx w) {vx1 : Value} {hx2 : PH} (r3 : RS hx2 vx1 more) (ex4 : Sub hx2 w) :
  CallsTo Try.prog 4 #[vx, vx1] w fun v w' => ∃ r0, Q r0 ∧ v = .bool r0 ∧ Ext w w' := by
 obtain ⟨a, c, rfl⟩ := r.shape
 obtain ⟨a5, c6, rfl⟩ := r3.shape
 refine enter (args := [sl a code c, sl a5 more c6]) 186 Try.func4 rfl rfl rfl ?_
 refine W_forget [(0, sl a code c), (1, sl a5 more c6)] ⟨rfl, rfl, trivial⟩ fun ρ => ?_
 have X := But.refl emp w
 refine W_seq (W_region ?_)
 refine LP_ev ok 0 [(4, .bool false)] 1 rfl rfl ?_
 refine LP_end _ rfl (W_seq ?_)
 refine W_seq (W_region ?_)
 refine LP_ev ok 0 [(34, sl a code c), (35, I (ln code)), (36, sl a5 more c6), (37, I (ln more)), (38, I (wr ((ln code) + (ln more)))), (39, .bool (decide ((wr ((ln code) + (ln more))) > 1048576)))] 6 rfl rfl ?_
 refine LP_end _ rfl ?_
 refine W_cond (decide ((wr ((ln code) + (ln more))) > 1048576)) rfl (fun hc => ?_) (fun hc => ?_)
 ·have H := H.1 hc
  refine W_seq (W_region ?_)
  refine LP_ev ok 0 [(4, .bool true)] 1 rfl rfl ?_
  refine LP_end _ rfl (W_ret ?_)
  exact ⟨_, Ret_of [.bool true] ⟨⟨rfl, rfl⟩, trivial⟩, _, H, rfl, X.ext⟩
 have H := H.2 hc
 refine W_skip ?_
 refine W_seq (W_region ?_)
 refine LP_ev ok 0 [(41, sl a code c)] 1 rfl rfl ?_
 refine LP_call 1 rfl rfl rfl cal_16 rfl (spec_DrawCheapestChange_w _ _ H w r ex) ?_
 rintro _ wx ⟨r7, r8, r9, r10, vx11, hx12, vx14, hx15, vx19, hx20, vx24, hx25, H, rfl, x, HF⟩
 revert HF
 refine bb9 fun o ex13 f o16 ex17 f18 o21 ex22 => ?_
 refine bb9 fun f23 o26 ex27 f28 d d29 d30 d31 => ?_
 refine bb2 fun d32 d33 => ?_
 obtain ⟨a34, c35, rfl⟩ := o.shape
 obtain ⟨a36, c37, rfl⟩ := o16.shape
 obtain ⟨a38, c39, rfl⟩ := o21.shape
 obtain ⟨a40, c41, rfl⟩ := o26.shape
 refine LP_ev ok 2 [(40, .tuple #[sl a34 r7 c35, sl a36 r8 c37, sl a38 r9 c39, sl a40 r10 c41]), (43, sl a34 r7 c35), (44, sl a36 r8 c37), (45, sl a38 r9 c39), (46, sl a40 r10 c41), (5, sl a34 r7 c35), (6, sl a36 r8 c37), (7, sl a38 r9 c39), (8, sl a40 r10 c41)] 11 rfl rfl ?_
 refine LP_end _ rfl (W_seq (W_region ?_))
 refine LP_ev ok 0 [(48, sl a34 r7 c35), (49, sl a36 r8 c37), (50, sl a38 r9 c39), (51, sl a40 r10 c41)] 4 rfl rfl ?_
 refine LP_call 4 rfl rfl rfl cal_17 rfl (impl_CheapestChange_w _ _ _ _ _ H wx o.readf ex13 o16.readf ex17 o21.readf ex22 o26.readf ex27) ?_
 rintro _ wx45 ⟨r42, r43, r44, vx47, hx48, H, rfl, x46, o49, ex50, f51⟩
 obtain ⟨a52, c53, rfl⟩ := o49.shape
 refine LP_ev ok 5 [(47, .tuple #[sl a52 r42 c53, I r43, .bool r44]), (53, sl a52 r42 c53), (54, I r43), (55, .bool r44), (9, sl a52 r42 c53), (10, I r43), (11, .bool r44)] 12 rfl rfl ?_
 refine LP_end _ rfl ?_
 try refine W_forget [(1, sl a5 more c6), (5, sl a34 r7 c35), (6, sl a36 r8 c37), (7, sl a38 r9 c39), (8, sl a40 r10 c41), (9, sl a52 r42 c53), (10, I r43), (11, .bool r44)] ⟨rfl, rfl, rfl, rfl, rfl, rfl, rfl, rfl, trivial⟩ fun ρ => ?_
 refine W_seq (W_region ?_)
 refine LP_ev ok 0 [(57, sl a34 r7 c35), (58, sl a36 r8 c37), (59, sl a38 r9 c39), (60, sl a40 r10 c41)] 4 rfl rfl ?_
 have ex57 := (ex13.ext x46)
 have ex58 := (ex17.ext x46)
 have ex59 := (ex22.ext x46)
 have ex60 := (ex27.ext x46)
 refine LP_call 4 rfl rfl rfl cal_18 rfl (spec_CheapestChange_w _ _ _ _ _ H wx45 o.readf ex57 o16.readf ex58 o21.readf ex59 o26.readf ex60) ?_
 rintro _ wx61 ⟨r54, r55, r56, vx63, hx64, H, rfl, x62, o65, ex66, f67⟩
 obtain ⟨a68, c69, rfl⟩ := o65.shape
 refine LP_ev ok 5 [(56, .tuple #[sl a68 r54 c69, I r55, .bool r56]), (62, sl a68 r54 c69), (63, I r55), (64, .bool r56), (12, sl a68 r54 c69), (13, I r55), (14, .bool r56)] 12 rfl rfl ?_
 refine LP_end _ rfl (W_seq (W_region ?_))
 refine LP_ev ok 0 [(66, sl a5 more c6)] 1 rfl rfl ?_
 refine LP_call 1 rfl rfl rfl cal_19 rfl (spec_DrawIsCover_w _ _ H wx61 r3 (ex4.ext ((x.trans x46).trans x62))) ?_
 rintro _ wx75 ⟨r70, r71, r72, r73, vx77, hx78, vx82, hx83, vx87, hx88, vx92, hx93, H, rfl, x76, HF⟩
 revert HF
 refine bb9 fun o79 ex80 f81 o84 ex85 f86 o89 ex90 => ?_
 refine bb9 fun f91 o94 ex95 f96 d97 d98 d99 d100 => ?_
 refine bb2 fun d101 d102 => ?_
 obtain ⟨a103, c104, rfl⟩ := o79.shape
 obtain ⟨a105, c106, rfl⟩ := o84.shape
 obtain ⟨a107, c108, rfl⟩ := o89.shape
 obtain ⟨a109, c110, rfl⟩ := o94.shape
 refine LP_ev ok 2 [(65, .tuple #[sl a103 r70 c104, sl a105 r71 c106, sl a107 r72 c108, sl a109 r73 c110]), (68, sl a103 r70 c104), (69, sl a105 r71 c106), (70, sl a107 r72 c108), (71, sl a109 r73 c110), (15, sl a103 r70 c104), (16, sl a105 r71 c106), (17, sl a107 r72 c108), (18, sl a109 r73 c110)] 11 rfl rfl ?_
 refine LP_end _ rfl (W_seq (W_region ?_))
 refine LP_ev ok 0 [(73, sl a103 r70 c104), (74, sl a105 r71 c106), (75, sl a107 r72 c108), (76, sl a109 r73 c110)] 4 rfl rfl ?_
 refine LP_call 4 rfl rfl rfl cal_20 rfl (impl_IsCover_w _ _ _ _ _ H wx75 o79.readf ex80 o84.readf ex85 o89.readf ex90 o94.readf ex95) ?_
 rintro _ wx113 ⟨r111, r112, H, rfl, x114⟩
 refine LP_ev ok 5 [(72, .tuple #[.bool r111, .bool r112]), (78, .bool r111), (79, .bool r112), (19, .bool r111), (20, .bool r112)] 10 rfl rfl ?_
 refine LP_end _ rfl ?_
 try refine W_forget [(5, sl a34 r7 c35), (6, sl a36 r8 c37), (7, sl a38 r9 c39), (8, sl a40 r10 c41), (9, sl a52 r42 c53), (10, I r43), (11, .bool r44), (12, sl a68 r54 c69), (13, I r55), (14, .bool r56), (15, sl a103 r70 c104), (16, sl a105 r71 c106), (17, sl a107 r72 c108), (18, sl a109 r73 c110), (19, .bool r111), (20, .bool r112)] ⟨rfl, rfl, rfl, rfl, rfl, rfl, rfl, rfl, rfl, rfl, rfl, rfl, rfl, rfl, rfl, rfl, trivial⟩ fun ρ => ?_
 refine W_seq (W_region ?_)
 refine LP_ev ok 0 [(81, sl a103 r70 c104), (82, sl a105 r71 c106), (83, sl a107 r72 c108), (84, sl a109 r73 c110)] 4 rfl rfl ?_
 refine LP_call 4 rfl rfl rfl cal_21 rfl (spec_IsCover_w _ _ _ _ _ H wx113 o79.readf (ex80.ext x114) o84.readf (ex85.ext x114) o89.readf (ex90.ext x114) o94.readf (ex95.ext x114)) ?_
 rintro _ wx121 ⟨r115, r116, H, rfl, x122⟩
 refine LP_ev ok 5 [(80, .tuple #[.bool r115, .bool r116]), (86, .bool r115), (87, .bool r116), (21, .bool r115), (22, .bool r116)] 10 rfl rfl ?_
 refine LP_end _ rfl (W_seq ?_)
 have X124 := (X.stepx (((((x.trans x46).trans x62).trans x76).trans x114).trans x122))
 have xc125 := (((x62.trans x76).trans x114).trans x122)
 have ex126 := (ex57.ext xc125)
 have ex128 := (ex58.ext xc125)
 have ex130 := (ex59.ext xc125)
 have ex132 := (ex60.ext xc125)
 have ex134 := (ex50.ext xc125)
 obtain ⟨k, hk, H⟩ := jn_elim H
 refine W_join2 (S := Bool) (fun s ρ' w' => k s ∧ ∃ (ρ : Env), ρ' = setAll [(5, sl a34 r7 c35), (6, sl a36 r8 c37), (7, sl a38 r9 c39), (8, sl a40 r10 c41), (9, sl a52 r42 c53), (10, I r43), (11, .bool r44), (111, .bool s)] ρ ∧ But emp w w' ∧ Sub hx12 w' ∧ Sub hx15 w' ∧ Sub hx20 w' ∧ Sub hx25 w' ∧ Sub hx48 w') ?_ ?_
 ·refine W_region ?_
  refine LP_ev ok 0 [(88, .bool r44), (89, .bool r56), (90, .bool (r44 != r56)), (91, .bool (r44 != r56))] 4 rfl rfl ?_
  refine LP_split 91 (r44 != r56) rfl (fun hc149 => ?_) (fun hc149 => ?_)
  ·have H := H.1 hc149
   refine LP_ev ok 4 [(92, undef), (93, undef), (94, undef), (95, undef), (96, .bool true), (97, .bool true), (98, undef), (99, undef), (100, undef), (101, .bool true), (102, .bool true), (103, undef), (104, undef), (105, undef), (106, .bool true), (107, .bool true), (108, undef), (109, undef), (110, undef), (111, .bool true)] 24 rfl rfl ?_
   refine LP_end _ rfl ?_
   try refine W_forget [(5, sl a34 r7 c35), (6, sl a36 r8 c37), (7, sl a38 r9 c39), (8, sl a40 r10 c41), (9, sl a52 r42 c53), (10, I r43), (11, .bool r44), (111, .bool true)] ⟨rfl, rfl, rfl, rfl, rfl, rfl, rfl, rfl, trivial⟩ fun ρ => ?_
   exact ⟨true, H, _, env_eq ⟨rfl, rfl, rfl, rfl, rfl, rfl, rfl, rfl, trivial⟩, X124, ex126, ex128, ex130, ex132, ex134⟩
  have H := H.2 hc149
  refine LP_ev ok 4 [(92, sl a52 r42 c53), (93, sl a68 r54 c69)] 6 rfl rfl ?_
  refine LP_call 6 rfl rfl rfl cal_12 rfl (laws_qInts_w _ _ _ H wx121 o49.readf ex134 o65.readf (ex66.ext ((x76.trans x114).trans x122))) ?_
  rintro _ wx151 ⟨r150, H, rfl, x152⟩
  refine LP_ev ok 7 [(95, .bool (!r150)), (96, .bool (!r150)), (97, .bool (!r150))] 10 rfl rfl ?_
  refine LP_split 97 (!r150) rfl (fun hc153 => ?_) (fun hc153 => ?_)
  ·have H := H.1 hc153
   refine LP_ev ok 10 [(98, undef), (99, undef), (100, undef), (101, .bool true), (102, .bool true), (103, undef), (104, undef), (105, undef), (106, .bool true), (107, .bool true), (108, undef), (109, undef), (110, undef), (111, .bool true)] 24 rfl rfl ?_
   refine LP_end _ rfl ?_
   try refine W_forget [(5, sl a34 r7 c35), (6, sl a36 r8 c37), (7, sl a38 r9 c39), (8, sl a40 r10 c41), (9, sl a52 r42 c53), (10, I r43), (11, .bool r44), (111, .bool true)] ⟨rfl, rfl, rfl, rfl, rfl, rfl, rfl, rfl, trivial⟩ fun ρ => ?_
   exact ⟨true, H, _, env_eq ⟨rfl, rfl, rfl, rfl, rfl, rfl, rfl, rfl, trivial⟩, (X124.stepx x152), (ex126.ext x152), (ex128.ext x152), (ex130.ext x152), (ex132.ext x152), (ex134.ext x152)⟩
  have H := H.2 hc153
  refine LP_ev ok 10 [(98, I r43), (99, I r55), (100, .bool (r43 != r55)), (101, .bool (r43 != r55)), (102, .bool (r43 != r55))] 15 rfl rfl ?_
  refine LP_split 102 (r43 != r55) rfl (fun hc160 => ?_) (fun hc160 => ?_)
  ·have H := H.1 hc160
   refine LP_ev ok 15 [(103, undef), (104, undef), (105, undef), (106, .bool true), (107, .bool true), (108, undef), (109, undef), (110, undef), (111, .bool true)] 24 rfl rfl ?_
   refine LP_end _ rfl ?_
   try refine W_forget [(5, sl a34 r7 c35), (6, sl a36 r8 c37), (7, sl a38 r9 c39), (8, sl a40 r10 c41), (9, sl a52 r42 c53), (10, I r43), (11, .bool r44), (111, .bool true)] ⟨rfl, rfl, rfl, rfl, rfl, rfl, rfl, rfl, trivial⟩ fun ρ => ?_
   exact ⟨true, H, _, env_eq ⟨rfl, rfl, rfl, rfl, rfl, rfl, rfl, rfl, trivial⟩, (X124.stepx x152), (ex126.ext x152), (ex128.ext x152), (ex130.ext x152), (ex132.ext x152), (ex134.ext x152)⟩
  have H := H.2 hc160
  refine LP_ev ok 15 [(103, .bool r112), (104, .bool r116), (105, .bool (r112 != r116)), (106, .bool (r112 != r116)), (107, .bool (r112 != r116))] 20 rfl rfl ?_
  refine LP_split 107 (r112 != r116) rfl (fun hc167 => ?_) (fun hc167 => ?_)
  ·have H := H.1 hc167
   refine LP_ev ok 20 [(108, undef), (109, undef), (110, undef), (111, .bool true)] 24 rfl rfl ?_
   refine LP_end _ rfl ?_
   try refine W_forget [(5, sl a34 r7 c35), (6, sl a36 r8 c37), (7, sl a38 r9 c39), (8, sl a40 r10 c41), (9, sl a52 r42 c53), (10, I r43), (11, .bool r44), (111, .bool true)] ⟨rfl, rfl, rfl, rfl, rfl, rfl, rfl, rfl, trivial⟩ fun ρ => ?_
   exact ⟨true, H, _, env_eq ⟨rfl, rfl, rfl, rfl, rfl, rfl, rfl, rfl, trivial⟩, (X124.stepx x152), (ex126.ext x152), (ex128.ext x152), (ex130.ext x152), (ex132.ext x152), (ex134.ext x152)⟩
  have H := H.2 hc167
  refine LP_ev ok 20 [(108, .bool r111), (109, .bool r115), (110, .bool (r111 != r115)), (111, .bool (r111 != r115))] 24 rfl rfl ?_
  refine LP_end _ rfl ?_
  try refine W_forget [(5, sl a34 r7 c35), (6, sl a36 r8 c37), (7, sl a38 r9 c39), (8, sl a40 r10 c41), (9, sl a52 r42 c53), (10, I r43), (11, .bool r44), (111, .bool (r111 != r115))] ⟨rfl, rfl, rfl, rfl, rfl, rfl, rfl, rfl, trivial⟩ fun ρ => ?_
  exact ⟨r111 != r115, H, _, env_eq ⟨rfl, rfl, rfl, rfl, rfl, rfl, rfl, rfl, trivial⟩, (X124.stepx x152), (ex126.ext x152), (ex128.ext x152), (ex130.ext x152), (ex132.ext x152), (ex134.ext x152)⟩
 rintro x141 _ wx142 ⟨H, ρ, rfl, HF⟩
 revert HF
 refine bb6 fun X148 ex143 ex144 ex145 ex146 ex147 => ?_
 subst hk
 refine W_cond (x141) rfl (fun hc180 => ?_) (fun hc180 => ?_)
 ·have H := H.1 hc180
  refine W_seq (W_region ?_)
  refine LP_ev ok 0 [(4, .bool false)] 1 rfl rfl ?_
  refine LP_end _ rfl (W_ret ?_)
  exact ⟨_, Ret_of [.bool false] ⟨⟨rfl, rfl⟩, trivial⟩, _, H, rfl, X148.ext⟩
 have H := H.2 hc180
 refine W_skip ?_
 refine W_seq ?_
 refine W_seq (W_region ?_)
 refine LP_ev ok 0 [(112, .bool r44), (113, .bool (!r44))] 2 rfl rfl ?_
 refine LP_end _ rfl ?_
 refine W_cond (!r44) rfl (fun hc181 => ?_) (fun hc181 => ?_)
 ·have H := H.1 hc181
  refine W_seq (W_region ?_)
  refine LP_ev ok 0 [(4, .bool true)] 1 rfl rfl ?_
  refine LP_end _ rfl (W_ret ?_)
  exact ⟨_, Ret_of [.bool true] ⟨⟨rfl, rfl⟩, trivial⟩, _, H, rfl, X148.ext⟩
 have H := H.2 hc181
 refine W_skip ?_
 refine W_seq (W_region ?_)
 refine LP_ev ok 0 [(115, sl a34 r7 c35), (116, sl a36 r8 c37), (117, sl a38 r9 c39), (118, sl a40 r10 c41)] 4 rfl rfl ?_
 refine LP_call 4 rfl rfl rfl cal_22 rfl (impl_MendValues_w _ _ _ _ _ H wx142 o.readf ex143 o16.readf ex144 o21.readf ex145 o26.readf ex146) ?_
 rintro _ wx184 ⟨r182, r183, vx186, hx187, H, rfl, x185, o188, ex189, f190⟩
 obtain ⟨a191, c192, rfl⟩ := o188.shape
 refine LP_ev ok 5 [(114, .tuple #[sl a191 r182 c192, .bool r183]), (120, sl a191 r182 c192), (121, .bool r183), (23, sl a191 r182 c192), (24, .bool r183)] 10 rfl rfl ?_
 refine LP_end _ rfl (W_seq (W_region ?_))
 refine LP_ev ok 0 [(123, sl a34 r7 c35), (124, sl a36 r8 c37), (125, sl a52 r42 c53), (126, sl a40 r10 c41), (127, sl a191 r182 c192)] 5 rfl rfl ?_
 have ex195 := (ex143.ext x185)
 have ex196 := (ex144.ext x185)
 have ex197 := (ex147.ext x185)
 have ex198 := (ex146.ext x185)
 refine LP_call 5 rfl rfl rfl cal_23 rfl (impl_IsMend_w _ _ _ _ _ _ H wx184 o.readf ex195 o16.readf ex196 o49.readf ex197 o26.readf ex198 o188.readf ex189) ?_
 rintro _ wx199 ⟨r193, r194, H, rfl, x200⟩
 refine LP_ev ok 6 [(122, .tuple #[.bool r193, .bool r194]), (129, .bool r193), (130, .bool r194), (25, .bool r193), (26, .bool r194)] 11 rfl rfl ?_
 refine LP_end _ rfl (W_seq (W_region ?_))
 refine LP_ev ok 0 [(132, sl a34 r7 c35), (133, sl a38 r9 c39), (134, sl a40 r10 c41), (135, sl a191 r182 c192)] 4 rfl rfl ?_
 have ex203 := (ex195.ext x200)
 have ex205 := (ex145.ext (x185.trans x200))
 have ex206 := (ex198.ext x200)
 refine LP_call 4 rfl rfl rfl cal_24 rfl (impl_ChangeCost_w _ _ _ _ _ H wx199 o.readf ex203 o21.readf ex205 o26.readf ex206 o188.readf (ex189.ext x200)) ?_
 rintro _ wx208 ⟨r201, r202, H, rfl, x209⟩
 refine LP_ev ok 5 [(131, .tuple #[I r201, .bool r202]), (137, I r201), (138, .bool r202), (27, I r201), (28, .bool r202)] 10 rfl rfl ?_
 refine LP_end _ rfl ?_
 try refine W_forget [(5, sl a34 r7 c35), (6, sl a36 r8 c37), (7, sl a38 r9 c39), (8, sl a40 r10 c41), (9, sl a52 r42 c53), (10, I r43), (24, .bool r183), (25, .bool r193), (26, .bool r194), (27, I r201), (28, .bool r202)] ⟨rfl, rfl, rfl, rfl, rfl, rfl, rfl, rfl, rfl, rfl, rfl, trivial⟩ fun ρ => ?_
 refine W_seq (W_region ?_)
 refine LP_ev ok 0 [(140, sl a34 r7 c35), (141, sl a36 r8 c37), (142, sl a40 r10 c41), (143, sl a52 r42 c53)] 4 rfl rfl ?_
 have ex212 := (ex203.ext x209)
 have xc213 := (x200.trans x209)
 have ex214 := (ex196.ext xc213)
 have ex215 := (ex206.ext x209)
 refine LP_call 4 rfl rfl rfl cal_20 rfl (impl_IsCover_w _ _ _ _ _ H wx208 o.readf ex212 o16.readf ex214 o26.readf ex215 o49.readf (ex197.ext xc213)) ?_
 rintro _ wx217 ⟨r210, r211, H, rfl, x218⟩
 refine LP_ev ok 5 [(139, .tuple #[.bool r210, .bool r211]), (145, .bool r210), (146, .bool r211), (29, .bool r210), (30, .bool r211)] 10 rfl rfl ?_
 refine LP_end _ rfl (W_seq (W_region ?_))
 refine LP_ev ok 0 [(148, sl a34 r7 c35), (149, sl a36 r8 c37), (150, sl a38 r9 c39), (151, sl a40 r10 c41)] 4 rfl rfl ?_
 refine LP_call 4 rfl rfl rfl cal_25 rfl (impl_PackingBound_w _ _ _ _ _ H wx217 o.readf (ex212.ext x218) o16.readf (ex214.ext x218) o21.readf (ex205.ext (x209.trans x218)) o26.readf (ex215.ext x218)) ?_
 rintro _ wx227 ⟨r219, r220, r221, vx229, hx230, H, rfl, x228, o231, ex232, f233⟩
 obtain ⟨a234, c235, rfl⟩ := o231.shape
 refine LP_ev ok 5 [(147, .tuple #[I r219, sl a234 r220 c235, .bool r221]), (153, I r219), (154, sl a234 r220 c235), (155, .bool r221), (31, I r219), (32, sl a234 r220 c235), (33, .bool r221)] 12 rfl rfl ?_
 refine LP_end _ rfl ?_
 obtain ⟨k240, hk241, H⟩ := jn_elim H
 refine W_join2 (S := Bool) (fun s ρ' w' => k240 s ∧ ∃ (ρ : Env), ρ' = setAll [(4, .bool s)] ρ ∧ wx227 = w') ?_ ?_
 ·refine W_region ?_
  refine LP_ev ok 0 [(156, .bool r183), (157, .bool r183)] 2 rfl rfl ?_
  refine LP_split 157 (r183) rfl (fun hc242 => ?_) (fun hc242 => ?_)
  ·have H := H.1 hc242
   refine LP_ev ok 2 [(158, .bool r194), (159, .bool r194), (160, .bool r194)] 5 rfl rfl ?_
   refine LP_split 160 (r194) rfl (fun hc243 => ?_) (fun hc243 => ?_)
   ·have H := H.1 hc243
    refine LP_ev ok 5 [(161, .bool r202), (162, .bool r202), (163, .bool r202)] 8 rfl rfl ?_
    refine LP_split 163 (r202) rfl (fun hc244 => ?_) (fun hc244 => ?_)
    ·have H := H.1 hc244
     refine LP_ev ok 8 [(164, .bool r211), (165, .bool r211), (166, .bool r211)] 11 rfl rfl ?_
     refine LP_split 166 (r211) rfl (fun hc245 => ?_) (fun hc245 => ?_)
     ·have H := H.1 hc245
      refine LP_ev ok 11 [(167, .bool r193), (168, .bool r193), (169, .bool r193)] 14 rfl rfl ?_
      refine LP_split 169 (r193) rfl (fun hc246 => ?_) (fun hc246 => ?_)
      ·have H := H.1 hc246
       refine LP_ev ok 14 [(170, .bool r210), (171, .bool r210), (172, .bool r210)] 17 rfl rfl ?_
       refine LP_split 172 (r210) rfl (fun hc247 => ?_) (fun hc247 => ?_)
       ·have H := H.1 hc247
        refine LP_ev ok 17 [(173, I r201), (174, I r43), (175, .bool (r201 == r43)), (176, .bool (r201 == r43)), (177, .bool (r201 == r43))] 22 rfl rfl ?_
        refine LP_split 177 (r201 == r43) rfl (fun hc248 => ?_) (fun hc248 => ?_)
        ·have H := H.1 hc248
         refine LP_ev ok 22 [(178, .bool r221), (179, .bool (!r221)), (180, .bool (!r221))] 25 rfl rfl ?_
         refine LP_split 180 (!r221) rfl (fun hc249 => ?_) (fun hc249 => ?_)
         ·have H := H.1 hc249
          refine LP_ev ok 25 [(181, undef), (182, undef), (183, undef), (184, .bool true), (185, .bool true), (4, .bool true)] 31 rfl rfl ?_
          refine LP_end _ rfl ?_
          try refine W_forget [(4, .bool true)] ⟨rfl, trivial⟩ fun ρ => ?_
          exact ⟨true, H, _, env_eq ⟨rfl, trivial⟩, rfl⟩
         have H := H.2 hc249
         refine LP_ev ok 25 [(181, I r219), (182, I r43), (183, .bool (decide (r219 ≤ r43))), (184, .bool (decide (r219 ≤ r43))), (185, .bool (decide (r219 ≤ r43))), (4, .bool (decide (r219 ≤ r43)))] 31 rfl rfl ?_
         refine LP_end _ rfl ?_
         try refine W_forget [(4, .bool (decide (r219 ≤ r43)))] ⟨rfl, trivial⟩ fun ρ => ?_
         exact ⟨decide (r219 ≤ r43), H, _, env_eq ⟨rfl, trivial⟩, rfl⟩
        have H := H.2 hc248
        refine LP_ev ok 22 [(178, undef), (179, undef), (180, undef), (181, undef), (182, undef), (183, undef), (184, undef), (185, .bool false), (4, .bool false)] 31 rfl rfl ?_
        refine LP_end _ rfl ?_
        try refine W_forget [(4, .bool false)] ⟨rfl, trivial⟩ fun ρ => ?_
        exact ⟨false, H, _, env_eq ⟨rfl, trivial⟩, rfl⟩
       have H := H.2 hc247
       refine LP_ev ok 17 [(173, undef), (174, undef), (175, undef), (176, .bool false), (177, .bool false), (178, undef), (179, undef), (180, undef), (181, undef), (182, undef), (183, undef), (184, undef), (185, .bool false), (4, .bool false)] 31 rfl rfl ?_
       refine LP_end _ rfl ?_
       try refine W_forget [(4, .bool false)] ⟨rfl, trivial⟩ fun ρ => ?_
       exact ⟨false, H, _, env_eq ⟨rfl, trivial⟩, rfl⟩
      have H := H.2 hc246
      refine LP_ev ok 14 [(170, undef), (171, .bool false), (172, .bool false), (173, undef), (174, undef), (175, undef), (176, .bool false), (177, .bool false), (178, undef), (179, undef), (180, undef), (181, undef), (182, undef), (183, undef), (184, undef), (185, .bool false), (4, .bool false)] 31 rfl rfl ?_
      refine LP_end _ rfl ?_
      try refine W_forget [(4, .bool false)] ⟨rfl, trivial⟩ fun ρ => ?_
      exact ⟨false, H, _, env_eq ⟨rfl, trivial⟩, rfl⟩
     have H := H.2 hc245
     refine LP_ev ok 11 [(167, undef), (168, .bool false), (169, .bool false), (170, undef), (171, .bool false), (172, .bool false), (173, undef), (174, undef), (175, undef), (176, .bool false), (177, .bool false), (178, undef), (179, undef), (180, undef), (181, undef), (182, undef), (183, undef), (184, undef), (185, .bool false), (4, .bool false)] 31 rfl rfl ?_
     refine LP_end _ rfl ?_
     try refine W_forget [(4, .bool false)] ⟨rfl, trivial⟩ fun ρ => ?_
     exact ⟨false, H, _, env_eq ⟨rfl, trivial⟩, rfl⟩
    have H := H.2 hc244
    refine LP_ev ok 8 [(164, undef), (165, .bool false), (166, .bool false), (167, undef), (168, .bool false), (169, .bool false), (170, undef), (171, .bool false), (172, .bool false), (173, undef), (174, undef), (175, undef), (176, .bool false), (177, .bool false), (178, undef), (179, undef), (180, undef), (181, undef), (182, undef), (183, undef), (184, undef), (185, .bool false), (4, .bool false)] 31 rfl rfl ?_
    refine LP_end _ rfl ?_
    try refine W_forget [(4, .bool false)] ⟨rfl, trivial⟩ fun ρ => ?_
    exact ⟨false, H, _, env_eq ⟨rfl, trivial⟩, rfl⟩
   have H := H.2 hc243
   refine LP_ev ok 5 [(161, undef), (162, .bool false), (163, .bool false), (164, undef), (165, .bool false), (166, .bool false), (167, undef), (168, .bool false), (169, .bool false), (170, undef), (171, .bool false), (172, .bool false), (173, undef), (174, undef), (175, undef), (176, .bool false), (177, .bool false), (178, undef), (179, undef), (180, undef), (181, undef), (182, undef), (183, undef), (184, undef), (185, .bool false), (4, .bool false)] 31 rfl rfl ?_
   refine LP_end _ rfl ?_
   try refine W_forget [(4, .bool false)] ⟨rfl, trivial⟩ fun ρ => ?_
   exact ⟨false, H, _, env_eq ⟨rfl, trivial⟩, rfl⟩
  have H := H.2 hc242
  refine LP_ev ok 2 [(158, undef), (159, .bool false), (160, .bool false), (161, undef), (162, .bool false), (163, .bool false), (164, undef), (165, .bool false), (166, .bool false), (167, undef), (168, .bool false), (169, .bool false), (170, undef), (171, .bool false), (172, .bool false), (173, undef), (174, undef), (175, undef), (176, .bool false), (177, .bool false), (178, undef), (179, undef), (180, undef), (181, undef), (182, undef), (183, undef), (184, undef), (185, .bool false), (4, .bool false)] 31 rfl rfl ?_
  refine LP_end _ rfl ?_
  try refine W_forget [(4, .bool false)] ⟨rfl, trivial⟩ fun ρ => ?_
  exact ⟨false, H, _, env_eq ⟨rfl, trivial⟩, rfl⟩
 rintro x238 _ _ ⟨H, ρ, rfl, rfl⟩
 subst hk241
 refine W_ret ?_
 exact ⟨_, Ret_of [.bool x238] ⟨⟨rfl, rfl⟩, trivial⟩, _, H, rfl, (X148.stepx ((((x185.trans x200).trans x209).trans x218).trans x228)).ext⟩

end Go.Proofs.Ytklajcbpnpkniaa
