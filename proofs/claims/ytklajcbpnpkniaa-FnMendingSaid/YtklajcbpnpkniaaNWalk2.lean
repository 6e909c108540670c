/- The walks, further. -/
import Derived.Test.YtklajcbpnpkniaaNWalk
set_option linter.unusedVariables false
set_option autoImplicit false
namespace Go.Proofs.Ytklajcbpnpkniaa
open Go Go.RowKit Go.Gv

open Go.Proofs
set_option maxRecDepth 8000
set_option maxHeartbeats 4000000
theorem spec_eGood_w (sx : List Variable) (ex1 : Edit) (Q : Bool → Prop) (H : spec_eGood sx ex1 Q) (w : World) {vx : Value} {hx : PH} (r : RS hx vx sx) (ex : Sub hx w) {vx2 : Value} {hx3 : PH} (r4 : RS hx3 vx2 ex1.Sets) (ex5 : Sub hx3 w) :
  CallsTo Try.prog 118 #[vx, .agg #[vx2]] w fun v w' => ∃ r0, Q r0 ∧ v = .bool r0 ∧ Ext w w' := by
 obtain ⟨a, c, rfl⟩ := r.shape
 obtain ⟨a6, c7, rfl⟩ := r4.shape
 refine enter (args := [sl a sx c, .agg #[sl a6 ex1.Sets c7]]) 28 Try.func118 rfl rfl rfl ?_
 refine W_forget [(0, sl a sx c), (1, .agg #[sl a6 ex1.Sets c7])] ⟨rfl, rfl, trivial⟩ fun ρ => ?_
 have X := But.refl emp w
 refine W_seq (W_region ?_)
 refine LP_box 0 (cs := [sl a6 ex1.Sets c7]) rfl rfl rfl rfl rfl fun b wx x ex8 f => ?_
 refine LP_ev ok 1 [(4, .bool false)] 2 rfl rfl ?_
 refine LP_end _ rfl (W_seq ?_)
 refine W_seq (W_region ?_)
 refine LP_ev ok 0 [(7, pb b)] 1 rfl rfl ?_
 refine LP_ldbox 1 (v := sl a6 ex1.Sets c7) rfl rfl rfl ti_25 ag_25 (fun _ => rfl) rfl ex8 rfl rfl ?_
 refine LP_ev ok 2 [(9, I (ln ex1.Sets)), (10, sl a sx c), (11, I (ln sx)), (12, .bool ((ln ex1.Sets) != (ln sx)))] 6 rfl rfl ?_
 refine LP_end _ rfl ?_
 refine W_cond ((ln ex1.Sets) != (ln sx)) rfl (fun hc => ?_) (fun hc => ?_)
 ·have H := H.1 hc
  refine W_seq (W_region ?_)
  refine LP_ev ok 0 [(4, .bool false)] 1 rfl rfl ?_
  refine LP_end _ rfl (W_ret ?_)
  exact ⟨_, Ret_of [.bool false] ⟨⟨rfl, rfl⟩, trivial⟩, _, H, rfl, (X.stepx x).ext⟩
 have H := H.2 hc
 refine W_skip ?_
 refine W_seq ?_
 refine W_seq (W_region ?_)
 refine LP_ev ok 0 [(13, pb b)] 1 rfl rfl ?_
 refine LP_ldbox 1 (v := sl a6 ex1.Sets c7) rfl rfl rfl ti_25 ag_25 (fun _ => rfl) rfl ex8 rfl rfl ?_
 refine LP_ev ok 2 [(15, I (ln ex1.Sets)), (16, I 0)] 4 rfl rfl ?_
 refine LP_end _ rfl ?_
 refine W_block ?_
 obtain ⟨J, m, Hx, H⟩ := H
 refine W_loop (S := Int) (fun s ρ' w' => J s ∧ ∃ (ρ : Env), ρ' = setAll [(0, sl a sx c), (14, sl a6 ex1.Sets c7), (15, I (ln ex1.Sets)), (16, I s)] ρ ∧ But emp w w' ∧ Sub hx w' ∧ Sub hx3 w') (fun s => m s) 0 ⟨Hx, _, env_eq ⟨rfl, rfl, rfl, rfl, trivial⟩, (X.stepx x), (ex.ext x), (ex5.ext x)⟩ ?_
 rintro x10 _ wx11 ⟨Hi, ρ, rfl, X14, ex12, ex13⟩
 have H := H x10 Hi
 refine W_seq (W_region ?_)
 refine LP_ev ok 0 [(17, .bool (decide (x10 < (ln ex1.Sets))))] 1 rfl rfl ?_
 refine LP_end _ rfl (W_seq ?_)
 refine W_cond (decide (x10 < (ln ex1.Sets))) rfl (fun hc18 => ?_) (fun hc18 => ?_)
 ·have H := H.1 hc18
  refine W_skip ?_
  refine W_seq ?_
  refine W_block ?_
  refine W_seq (W_region ?_)
  refine LP_ev ok 0 [(18, I x10)] 1 rfl rfl ?_
  obtain ⟨x19, hi, hx20, H⟩ := H
  refine LP_index 1 rfl rfl rfl Try.underlying25 ti_3 rfl rfl r4 hi hx20 fun a21 cs r22 d => ?_
  refine LP_load 2 rfl rfl rfl ti_3 ag_3 rfl r22 d ex13 fun vx23 r24 => ?_
  obtain rfl := r24.int
  refine LP_ev ok 3 [(5, I x10), (6, I x19)] 5 rfl rfl ?_
  refine LP_end _ rfl (W_seq (W_region ?_))
  refine LP_ev ok 0 [(21, I x19), (22, sl a sx c), (23, I x10)] 3 rfl rfl ?_
  refine LP_call 3 rfl rfl rfl cal_100 rfl (spec_eFull_w _ _ _ H wx11 r ex12) ?_
  rintro _ wx26 ⟨r25, H, rfl, x27⟩
  refine LP_call 4 rfl rfl rfl cal_96 rfl (spec_l1In_w _ _ _ _ H wx26 ) ?_
  rintro _ wx29 ⟨r28, H, rfl, x30⟩
  refine LP_ev ok 5 [(26, .bool (!r28))] 6 rfl rfl ?_
  refine LP_end _ rfl ?_
  refine W_cond (!r28) rfl (fun hc31 => ?_) (fun hc31 => ?_)
  ·have H := H.1 hc31
   refine W_seq (W_region ?_)
   refine LP_ev ok 0 [(4, .bool false)] 1 rfl rfl ?_
   refine LP_end _ rfl (W_ret ?_)
   exact ⟨_, Ret_of [.bool false] ⟨⟨rfl, rfl⟩, trivial⟩, _, H, rfl, (X14.stepx (x27.trans x30)).ext⟩
  have H := H.2 hc31
  refine W_skip ?_
  refine W_region ?_
  refine LP_ev ok 0 [(27, I (wr (x10 + 1))), (16, I (wr (x10 + 1)))] 2 rfl rfl ?_
  refine LP_end _ rfl ?_
  have xc33 := (x27.trans x30)
  exact ⟨wr (x10 + 1), ⟨H.1, _, env_eq ⟨rfl, rfl, rfl, rfl, trivial⟩, (X14.stepx xc33), (ex12.ext xc33), (ex13.ext xc33)⟩, H.2⟩
 have H := H.2 hc18
 refine W_exit ?_
 refine (if_pos rfl).mpr ?_
 refine W_seq (W_region ?_)
 refine LP_ev ok 0 [(4, .bool true)] 1 rfl rfl ?_
 refine LP_end _ rfl (W_ret ?_)
 exact ⟨_, Ret_of [.bool true] ⟨⟨rfl, rfl⟩, trivial⟩, _, H, rfl, X14.ext⟩

theorem spec_eList_w (sx : List Variable) (l : List Edit) (Q : Bool → Prop) (H : spec_eList sx l Q) (w : World) {vx : Value} {hx : PH} (r : RS hx vx sx) (ex : Sub hx w) {vx1 : Value} {hx2 : PH} (r3 : RS hx2 vx1 l) (ex4 : Sub hx2 w) :
  CallsTo Try.prog 84 #[vx, vx1] w fun v w' => ∃ r0, Q r0 ∧ v = .bool r0 ∧ Ext w w' := by
 obtain ⟨a, c, rfl⟩ := r.shape
 obtain ⟨a5, c6, rfl⟩ := r3.shape
 refine enter (args := [sl a sx c, sl a5 l c6]) 26 Try.func84 rfl rfl rfl ?_
 refine W_forget [(0, sl a sx c), (1, sl a5 l c6)] ⟨rfl, rfl, trivial⟩ fun ρ => ?_
 have X := But.refl emp w
 refine W_seq (W_region ?_)
 refine LP_ev ok 0 [(4, .bool false)] 1 rfl rfl ?_
 refine LP_end _ rfl (W_seq ?_)
 obtain ⟨k, hk, H⟩ := jn_elim H
 refine W_join2 (S := Bool) (fun s ρ' w' => k s ∧ ∃ (ρ : Env), ρ' = setAll [(0, sl a sx c), (1, sl a5 l c6), (14, .bool s)] ρ ∧ But emp w w' ∧ Sub hx w' ∧ Sub hx2 w') ?_ ?_
 ·refine W_region ?_
  refine LP_ev ok 0 [(7, sl a sx c)] 1 rfl rfl ?_
  refine LP_call 1 rfl rfl rfl cal_109 rfl (spec_sGood_w _ _ H w r ex) ?_
  rintro _ wx11 ⟨r10, H, rfl, x12⟩
  refine LP_ev ok 2 [(9, .bool (!r10)), (10, .bool (!r10))] 4 rfl rfl ?_
  refine LP_split 10 (!r10) rfl (fun hc => ?_) (fun hc => ?_)
  ·have H := H.1 hc
   refine LP_ev ok 4 [(11, undef), (12, undef), (13, undef), (14, .bool true)] 8 rfl rfl ?_
   exact LP_end _ rfl ⟨true, H, _, env_eq ⟨rfl, rfl, rfl, trivial⟩, (X.stepx x12), (ex.ext x12), (ex4.ext x12)⟩
  have H := H.2 hc
  refine LP_ev ok 4 [(11, sl a5 l c6), (12, I (ln l)), (13, .bool (decide ((ln l) > 40))), (14, .bool (decide ((ln l) > 40)))] 8 rfl rfl ?_
  exact LP_end _ rfl ⟨decide ((ln l) > 40), H, _, env_eq ⟨rfl, rfl, rfl, trivial⟩, (X.stepx x12), (ex.ext x12), (ex4.ext x12)⟩
 rintro x _ wx ⟨H, ρ, rfl, X9, ex7, ex8⟩
 subst hk
 refine W_cond (x) rfl (fun hc19 => ?_) (fun hc19 => ?_)
 ·have H := H.1 hc19
  refine W_seq (W_region ?_)
  refine LP_ev ok 0 [(4, .bool false)] 1 rfl rfl ?_
  refine LP_end _ rfl (W_ret ?_)
  exact ⟨_, Ret_of [.bool false] ⟨⟨rfl, rfl⟩, trivial⟩, _, H, rfl, X9.ext⟩
 have H := H.2 hc19
 refine W_skip ?_
 refine W_seq ?_
 refine W_seq (W_region ?_)
 refine LP_ev ok 0 [(15, sl a5 l c6), (16, I (ln l)), (17, I 0)] 3 rfl rfl ?_
 refine LP_end _ rfl ?_
 refine W_block ?_
 obtain ⟨J, m, Hx, H⟩ := H
 refine W_loop (S := Int) (fun s ρ' w' => J s ∧ ∃ (ρ : Env), ρ' = setAll [(0, sl a sx c), (15, sl a5 l c6), (16, I (ln l)), (17, I s)] ρ ∧ But emp w w' ∧ Sub hx w' ∧ Sub hx2 w') (fun s => m s) 0 ⟨Hx, _, env_eq ⟨rfl, rfl, rfl, rfl, trivial⟩, X9, ex7, ex8⟩ ?_
 rintro x20 _ wx21 ⟨Hi, ρ, rfl, X24, ex22, ex23⟩
 have H := H x20 Hi
 refine W_seq (W_region ?_)
 refine LP_ev ok 0 [(18, .bool (decide (x20 < (ln l))))] 1 rfl rfl ?_
 refine LP_end _ rfl (W_seq ?_)
 refine W_cond (decide (x20 < (ln l))) rfl (fun hc25 => ?_) (fun hc25 => ?_)
 ·have H := H.1 hc25
  refine W_skip ?_
  refine W_seq ?_
  refine W_block ?_
  refine W_seq (W_region ?_)
  obtain ⟨x26, hi, hx27, H⟩ := H
  refine LP_index 0 rfl rfl rfl Try.underlying24 ti_79 rfl rfl r3 hi hx27 fun a28 cs r29 d => ?_
  have d30 := d
  obtain ⟨u, rfl, r31⟩ := Edit_rd d30
  obtain ⟨a32, c33, rfl⟩ := r31.shape
  refine LP_load 1 rfl rfl rfl ti_79 ag_79 rfl r29 d ex23 fun vx34 r35 => ?_
  obtain ⟨u36, rfl, r37⟩ := Edit_rv r35
  obtain ⟨a38, c39, rfl⟩ := r37.shape
  refine LP_alloc 2 rfl rfl rfl ti_79 rfl fun b wx40 x41 ex42 f => ?_
  refine LP_stbox 3 (vs := [sl a38 x26.Sets c39]) (cs' := [sl a38 x26.Sets c39]) rfl rfl rfl ti_79 rfl rfl rfl rfl rfl ex42 rfl rfl fun wx43 ex44 y => ?_
  refine LP_end _ rfl (W_seq (W_region ?_))
  refine LP_ev ok 0 [(21, sl a sx c)] 1 rfl rfl ?_
  refine LP_ldbox 1 (v := .agg #[sl a38 x26.Sets c39]) rfl rfl rfl ti_79 ag_79 (fun h => by cases h) rfl ex44 rfl rfl ?_
  have ex46 := ((ex22.ext x41).but y (Dj.of_fresh ex22 f).symm)
  have ex47 := ((ex23.ext x41).but y (Dj.of_fresh ex23 f).symm)
  refine LP_call 2 rfl rfl rfl cal_118 rfl (spec_eGood_w _ _ _ H wx43 r ex46 r37 ex47) ?_
  rintro _ wx48 ⟨r45, H, rfl, x49⟩
  refine LP_ev ok 3 [(24, .bool (!r45))] 4 rfl rfl ?_
  refine LP_end _ rfl ?_
  refine W_cond (!r45) rfl (fun hc50 => ?_) (fun hc50 => ?_)
  ·have H := H.1 hc50
   refine W_seq (W_region ?_)
   refine LP_ev ok 0 [(4, .bool false)] 1 rfl rfl ?_
   refine LP_end _ rfl (W_ret ?_)
   have f51 := f.mono X24.size
   exact ⟨_, Ret_of [.bool false] ⟨⟨rfl, rfl⟩, trivial⟩, _, H, rfl, (((X24.stepx x41).step y (f51.dom _)).stepx x49).ext⟩
  have H := H.2 hc50
  refine W_skip ?_
  refine W_region ?_
  refine LP_ev ok 0 [(25, I (wr (x20 + 1))), (17, I (wr (x20 + 1)))] 2 rfl rfl ?_
  refine LP_end _ rfl ?_
  have f53 := f.mono X24.size
  exact ⟨wr (x20 + 1), ⟨H.1, _, env_eq ⟨rfl, rfl, rfl, rfl, trivial⟩, (((X24.stepx x41).step y (f53.dom _)).stepx x49), (ex46.ext x49), (ex47.ext x49)⟩, H.2⟩
 have H := H.2 hc25
 refine W_exit ?_
 refine (if_pos rfl).mpr ?_
 refine W_seq (W_region ?_)
 refine LP_ev ok 0 [(4, .bool true)] 1 rfl rfl ?_
 refine LP_end _ rfl (W_ret ?_)
 exact ⟨_, Ret_of [.bool true] ⟨⟨rfl, rfl⟩, trivial⟩, _, H, rfl, X24.ext⟩

theorem spec_eSmall_w (sx : List Variable) (l : List Edit) (Q : Bool → Prop) (H : spec_eSmall sx l Q) (w : World) {vx : Value} {hx : PH} (r : RS hx vx sx) (ex : Sub hx w) {vx1 : Value} {hx2 : PH} (r3 : RS hx2 vx1 l) (ex4 : Sub hx2 w) :
  CallsTo Try.prog 36 #[vx, vx1] w fun v w' => ∃ r0, Q r0 ∧ v = .bool r0 ∧ Ext w w' := by
 obtain ⟨a, c, rfl⟩ := r.shape
 obtain ⟨a5, c6, rfl⟩ := r3.shape
 refine enter (args := [sl a sx c, sl a5 l c6]) 13 Try.func36 rfl rfl rfl ?_
 refine W_forget [(0, sl a sx c), (1, sl a5 l c6)] ⟨rfl, rfl, trivial⟩ fun ρ => ?_
 have X := But.refl emp w
 refine W_seq (W_region ?_)
 refine LP_ev ok 0 [(4, .bool false)] 1 rfl rfl ?_
 refine LP_end _ rfl ?_
 obtain ⟨k, hk, H⟩ := jn_elim H
 refine W_join2 (S := Bool) (fun s ρ' w' => k s ∧ ∃ (ρ : Env), ρ' = setAll [(4, .bool s)] ρ ∧ But emp w w') ?_ ?_
 ·refine W_region ?_
  refine LP_ev ok 0 [(5, sl a sx c), (6, sl a5 l c6)] 2 rfl rfl ?_
  refine LP_call 2 rfl rfl rfl cal_84 rfl (spec_eList_w _ _ _ H w r ex r3 ex4) ?_
  rintro _ wx9 ⟨r8, H, rfl, x10⟩
  refine LP_ev ok 3 [(8, .bool r8)] 4 rfl rfl ?_
  refine LP_split 8 (r8) rfl (fun hc => ?_) (fun hc => ?_)
  ·have H := H.1 hc
   refine LP_ev ok 4 [(9, sl a sx c)] 5 rfl rfl ?_
   refine LP_call 5 rfl rfl rfl cal_67 rfl (spec_sCount_w _ _ H wx9 r (ex.ext x10)) ?_
   rintro _ wx13 ⟨r11, H, rfl, x14⟩
   refine LP_ev ok 6 [(11, .bool (decide (r11 ≤ 100))), (12, .bool (decide (r11 ≤ 100))), (4, .bool (decide (r11 ≤ 100)))] 9 rfl rfl ?_
   exact LP_end _ rfl ⟨decide (r11 ≤ 100), H, _, env_eq ⟨rfl, trivial⟩, (X.stepx (x10.trans x14))⟩
  have H := H.2 hc
  refine LP_ev ok 4 [(9, undef), (10, undef), (11, undef), (12, .bool false), (4, .bool false)] 9 rfl rfl ?_
  exact LP_end _ rfl ⟨false, H, _, env_eq ⟨rfl, trivial⟩, (X.stepx x10)⟩
 rintro x _ wx ⟨H, ρ, rfl, X7⟩
 subst hk
 refine W_ret ?_
 exact ⟨_, Ret_of [.bool x] ⟨⟨rfl, rfl⟩, trivial⟩, _, H, rfl, X7.ext⟩

theorem spec_l1All_w (l : List Int) (lo : Int) (hi : Int) (Q : Bool → Prop) (H : spec_l1All l lo hi Q) (w : World) {vx : Value} {hx : PH} (r : RS hx vx l) (ex : Sub hx w) :
  CallsTo Try.prog 85 #[vx, I lo, I hi] w fun v w' => ∃ r0, Q r0 ∧ v = .bool r0 ∧ Ext w w' := by
 obtain ⟨a, c, rfl⟩ := r.shape
 refine enter (args := [sl a l c, I lo, I hi]) 21 Try.func85 rfl rfl rfl ?_
 refine W_forget [(0, sl a l c), (1, I lo), (2, I hi)] ⟨rfl, rfl, rfl, trivial⟩ fun ρ => ?_
 have X := But.refl emp w
 refine W_seq (W_region ?_)
 refine LP_ev ok 0 [(6, .bool false)] 1 rfl rfl ?_
 refine LP_end _ rfl (W_seq ?_)
 refine W_seq (W_region ?_)
 refine LP_ev ok 0 [(9, sl a l c), (10, I (ln l)), (11, I 0)] 3 rfl rfl ?_
 refine LP_end _ rfl ?_
 refine W_block ?_
 obtain ⟨J, m, Hx, H⟩ := H
 refine W_loop (S := Int) (fun s ρ' w' => J s ∧ ∃ (ρ : Env), ρ' = setAll [(1, I lo), (2, I hi), (9, sl a l c), (10, I (ln l)), (11, I s)] ρ ∧ But emp w w' ∧ Sub hx w') (fun s => m s) 0 ⟨Hx, _, env_eq ⟨rfl, rfl, rfl, rfl, rfl, trivial⟩, X, ex⟩ ?_
 rintro x _ wx ⟨Hi, ρ, rfl, X2, ex1⟩
 have H := H x Hi
 refine W_seq (W_region ?_)
 refine LP_ev ok 0 [(12, .bool (decide (x < (ln l))))] 1 rfl rfl ?_
 refine LP_end _ rfl (W_seq ?_)
 refine W_cond (decide (x < (ln l))) rfl (fun hc => ?_) (fun hc => ?_)
 ·have H := H.1 hc
  refine W_skip ?_
  refine W_seq ?_
  refine W_block ?_
  refine W_seq (W_region ?_)
  obtain ⟨x3, hi4, hx5, H⟩ := H
  refine LP_index 0 rfl rfl rfl Try.underlying25 ti_3 rfl rfl r hi4 hx5 fun a6 cs r7 d => ?_
  refine LP_load 1 rfl rfl rfl ti_3 ag_3 rfl r7 d ex1 fun vx8 r9 => ?_
  obtain rfl := r9.int
  refine LP_ev ok 2 [(8, I x3)] 3 rfl rfl ?_
  refine LP_end _ rfl (W_seq (W_region ?_))
  refine LP_ev ok 0 [(15, I x3), (16, I lo), (17, I hi)] 3 rfl rfl ?_
  refine LP_call 3 rfl rfl rfl cal_96 rfl (spec_l1In_w _ _ _ _ H wx ) ?_
  rintro _ wx11 ⟨r10, H, rfl, x12⟩
  refine LP_ev ok 4 [(19, .bool (!r10))] 5 rfl rfl ?_
  refine LP_end _ rfl ?_
  refine W_cond (!r10) rfl (fun hc13 => ?_) (fun hc13 => ?_)
  ·have H := H.1 hc13
   refine W_seq (W_region ?_)
   refine LP_ev ok 0 [(6, .bool false)] 1 rfl rfl ?_
   refine LP_end _ rfl (W_ret ?_)
   exact ⟨_, Ret_of [.bool false] ⟨⟨rfl, rfl⟩, trivial⟩, _, H, rfl, (X2.stepx x12).ext⟩
  have H := H.2 hc13
  refine W_skip ?_
  refine W_region ?_
  refine LP_ev ok 0 [(20, I (wr (x + 1))), (11, I (wr (x + 1)))] 2 rfl rfl ?_
  exact LP_end _ rfl ⟨wr (x + 1), ⟨H.1, _, env_eq ⟨rfl, rfl, rfl, rfl, rfl, trivial⟩, (X2.stepx x12), (ex1.ext x12)⟩, H.2⟩
 have H := H.2 hc
 refine W_exit ?_
 refine (if_pos rfl).mpr ?_
 refine W_seq (W_region ?_)
 refine LP_ev ok 0 [(6, .bool true)] 1 rfl rfl ?_
 refine LP_end _ rfl (W_ret ?_)
 exact ⟨_, Ret_of [.bool true] ⟨⟨rfl, rfl⟩, trivial⟩, _, H, rfl, X2.ext⟩

theorem spec_iWeights_w (sx : List Variable) (wx : List Int) (Q : Bool → Prop) (H : spec_iWeights sx wx Q) (w : World) {vx : Value} {hx : PH} (r : RS hx vx sx) (ex : Sub hx w) {vx1 : Value} {hx2 : PH} (r3 : RS hx2 vx1 wx) (ex4 : Sub hx2 w) :
  CallsTo Try.prog 37 #[vx, vx1] w fun v w' => ∃ r0, Q r0 ∧ v = .bool r0 ∧ Ext w w' := by
 obtain ⟨a, c, rfl⟩ := r.shape
 obtain ⟨a5, c6, rfl⟩ := r3.shape
 refine enter (args := [sl a sx c, sl a5 wx c6]) 14 Try.func37 rfl rfl rfl ?_
 refine W_forget [(0, sl a sx c), (1, sl a5 wx c6)] ⟨rfl, rfl, trivial⟩ fun ρ => ?_
 have X := But.refl emp w
 refine W_seq (W_region ?_)
 refine LP_ev ok 0 [(4, .bool false)] 1 rfl rfl ?_
 refine LP_end _ rfl ?_
 obtain ⟨k, hk, H⟩ := jn_elim H
 refine W_join2 (S := Bool) (fun s ρ' w' => k s ∧ ∃ (ρ : Env), ρ' = setAll [(4, .bool s)] ρ ∧ But emp w w') ?_ ?_
 ·refine W_region ?_
  refine LP_ev ok 0 [(5, sl a5 wx c6), (6, I (ln wx)), (7, sl a sx c), (8, I (ln sx)), (9, .bool ((ln wx) == (ln sx))), (10, .bool ((ln wx) == (ln sx)))] 6 rfl rfl ?_
  refine LP_split 10 ((ln wx) == (ln sx)) rfl (fun hc => ?_) (fun hc => ?_)
  ·have H := H.1 hc
   refine LP_ev ok 6 [(11, sl a5 wx c6)] 7 rfl rfl ?_
   refine LP_call 7 rfl rfl rfl cal_85 rfl (spec_l1All_w _ _ _ _ H w r3 ex4) ?_
   rintro _ wx10 ⟨r9, H, rfl, x11⟩
   refine LP_ev ok 8 [(13, .bool r9), (4, .bool r9)] 10 rfl rfl ?_
   exact LP_end _ rfl ⟨r9, H, _, env_eq ⟨rfl, trivial⟩, (X.stepx x11)⟩
  have H := H.2 hc
  refine LP_ev ok 6 [(11, undef), (12, undef), (13, .bool false), (4, .bool false)] 10 rfl rfl ?_
  exact LP_end _ rfl ⟨false, H, _, env_eq ⟨rfl, trivial⟩, X⟩
 rintro x _ wx7 ⟨H, ρ, rfl, X8⟩
 subst hk
 refine W_ret ?_
 exact ⟨_, Ret_of [.bool x] ⟨⟨rfl, rfl⟩, trivial⟩, _, H, rfl, X8.ext⟩

theorem spec_sFits_w (sx : List Variable) (values : List Int) (Q : Bool → Prop) (H : spec_sFits sx values Q) (w : World) {vx : Value} {hx : PH} (r : RS hx vx sx) (ex : Sub hx w) {vx1 : Value} {hx2 : PH} (r3 : RS hx2 vx1 values) (ex4 : Sub hx2 w) :
  CallsTo Try.prog 55 #[vx, vx1] w fun v w' => ∃ r0, Q r0 ∧ v = .bool r0 ∧ Ext w w' := by
 obtain ⟨a, c, rfl⟩ := r.shape
 obtain ⟨a5, c6, rfl⟩ := r3.shape
 refine enter (args := [sl a sx c, sl a5 values c6]) 29 Try.func55 rfl rfl rfl ?_
 refine W_forget [(0, sl a sx c), (1, sl a5 values c6)] ⟨rfl, rfl, trivial⟩ fun ρ => ?_
 have X := But.refl emp w
 refine W_seq (W_region ?_)
 refine LP_ev ok 0 [(4, .bool false)] 1 rfl rfl ?_
 refine LP_end _ rfl (W_seq ?_)
 refine W_seq (W_region ?_)
 refine LP_ev ok 0 [(7, sl a5 values c6), (8, I (ln values)), (9, sl a sx c), (10, I (ln sx)), (11, .bool ((ln values) != (ln sx)))] 5 rfl rfl ?_
 refine LP_end _ rfl ?_
 refine W_cond ((ln values) != (ln sx)) rfl (fun hc => ?_) (fun hc => ?_)
 ·have H := H.1 hc
  refine W_seq (W_region ?_)
  refine LP_ev ok 0 [(4, .bool false)] 1 rfl rfl ?_
  refine LP_end _ rfl (W_ret ?_)
  exact ⟨_, Ret_of [.bool false] ⟨⟨rfl, rfl⟩, trivial⟩, _, H, rfl, X.ext⟩
 have H := H.2 hc
 refine W_skip ?_
 refine W_seq ?_
 refine W_seq (W_region ?_)
 refine LP_ev ok 0 [(12, sl a sx c), (13, I (ln sx)), (14, I 0)] 3 rfl rfl ?_
 refine LP_end _ rfl ?_
 refine W_block ?_
 obtain ⟨J, m, Hx, H⟩ := H
 refine W_loop (S := Int) (fun s ρ' w' => J s ∧ ∃ (ρ : Env), ρ' = setAll [(1, sl a5 values c6), (12, sl a sx c), (13, I (ln sx)), (14, I s)] ρ ∧ But emp w w' ∧ Sub hx w' ∧ Sub hx2 w') (fun s => m s) 0 ⟨Hx, _, env_eq ⟨rfl, rfl, rfl, rfl, trivial⟩, X, ex, ex4⟩ ?_
 rintro x _ wx ⟨Hi, ρ, rfl, X9, ex7, ex8⟩
 have H := H x Hi
 refine W_seq (W_region ?_)
 refine LP_ev ok 0 [(15, .bool (decide (x < (ln sx))))] 1 rfl rfl ?_
 refine LP_end _ rfl (W_seq ?_)
 refine W_cond (decide (x < (ln sx))) rfl (fun hc10 => ?_) (fun hc10 => ?_)
 ·have H := H.1 hc10
  refine W_skip ?_
  refine W_seq ?_
  refine W_block ?_
  refine W_seq (W_region ?_)
  refine LP_ev ok 0 [(16, I x)] 1 rfl rfl ?_
  obtain ⟨x11, hi, hx12, H⟩ := H
  refine LP_index 1 rfl rfl rfl Try.underlying23 ti_90 rfl rfl r hi hx12 fun a13 cs r14 d => ?_
  refine LP_load 2 rfl rfl rfl ti_90 ag_90 rfl r14 d ex7 fun vx15 r16 => ?_
  obtain rfl := Variable_rv r16
  refine LP_alloc 3 rfl rfl rfl ti_90 rfl fun b wx17 x18 ex19 f => ?_
  refine LP_ev ok 4 [(5, I x)] 5 rfl rfl ?_
  refine LP_stbox 5 (vs := [.string x11.Name, I x11.Levels]) (cs' := [.string x11.Name, I x11.Levels]) rfl rfl rfl ti_90 rfl rfl rfl rfl rfl ex19 rfl rfl fun wx20 ex21 y => ?_
  refine LP_end _ rfl (W_seq ?_)
  refine W_quiet mix (by kernel_rfl) ?_
  refine QP_ev ok 0 [(19, sl a5 values c6), (20, I x)] 2 rfl rfl ?_
  obtain ⟨x22, hi23, hx24, H⟩ := H
  refine QP_index 2 rfl rfl rfl Try.underlying25 ti_3 rfl rfl r3 hi23 hx24 fun a25 cs26 r27 d28 => ?_
  have ex29 := ((ex8.ext x18).but y (Dj.of_fresh ex8 f).symm)
  refine QP_load 3 rfl rfl rfl ti_3 ag_3 rfl r27 d28 ex29 fun vx30 r31 => ?_
  obtain rfl := r31.int
  refine QP_ev ok 4 [(23, .pointer (some ⟨b, 1, none⟩))] 5 rfl rfl ?_
  refine QP_ldbox 5 (v := I x11.Levels) rfl rfl rfl ti_3 ag_3 (fun _ => rfl) rfl ex21 rfl rfl ?_
  refine QP_ev ok 6 [(25, I (wr (x11.Levels - 1)))] 7 rfl rfl ?_
  obtain ⟨r32, Hd, H⟩ := H
  refine QP_call (.bool r32) 7 rfl rfl rfl cal_96 rfl (fun wx33 x34 => (spec_l1In_w _ _ _ _ Hd wx33 ).mono ?_) ?_
  ·rintro _ _ ⟨_, rfl, rfl, x⟩; exact ⟨rfl, x⟩
  refine QP_ev ok 8 [(27, .bool (!r32))] 9 rfl rfl ?_
  refine QP_end _ rfl fun wx35 x36 => ?_
  refine W_cond (!r32) rfl (fun hc37 => ?_) (fun hc37 => ?_)
  ·have H := H.1 hc37
   refine W_seq (W_region ?_)
   refine LP_ev ok 0 [(4, .bool false)] 1 rfl rfl ?_
   refine LP_end _ rfl (W_ret ?_)
   have f38 := f.mono X9.size
   exact ⟨_, Ret_of [.bool false] ⟨⟨rfl, rfl⟩, trivial⟩, _, H, rfl, (((X9.stepx x18).step y (f38.dom _)).stepx x36).ext⟩
  have H := H.2 hc37
  refine W_skip ?_
  refine W_region ?_
  refine LP_ev ok 0 [(28, I (wr (x + 1))), (14, I (wr (x + 1)))] 2 rfl rfl ?_
  refine LP_end _ rfl ?_
  have f40 := f.mono X9.size
  exact ⟨wr (x + 1), ⟨H.1, _, env_eq ⟨rfl, rfl, rfl, rfl, trivial⟩, (((X9.stepx x18).step y (f40.dom _)).stepx x36), (((ex7.ext x18).but y (Dj.of_fresh ex7 f).symm).ext x36), (ex29.ext x36)⟩, H.2⟩
 have H := H.2 hc10
 refine W_exit ?_
 refine (if_pos rfl).mpr ?_
 refine W_seq (W_region ?_)
 refine LP_ev ok 0 [(4, .bool true)] 1 rfl rfl ?_
 refine LP_end _ rfl (W_ret ?_)
 exact ⟨_, Ret_of [.bool true] ⟨⟨rfl, rfl⟩, trivial⟩, _, H, rfl, X9.ext⟩

theorem spec_iInput_w (sx : List Variable) (l : List Edit) (wx : List Int) (values : List Int) (Q : Bool → Prop) (H : spec_iInput sx l wx values Q) (w : World) {vx : Value} {hx : PH} (r : RS hx vx sx) (ex : Sub hx w) {vx1 : Value} {hx2 : PH} (r3 : RS hx2 vx1 l) (ex4 : Sub hx2 w) {vx7 : Value} {hx8 : PH} (r9 : RS hx8 vx7 wx) (ex10 : Sub hx8 w) {vx13 : Value} {hx14 : PH} (r15 : RS hx14 vx13 values) (ex16 : Sub hx14 w) :
  CallsTo Try.prog 45 #[vx, vx1, vx7, vx13] w fun v w' => ∃ r0, Q r0 ∧ v = .bool r0 ∧ Ext w w' := by
 obtain ⟨a, c, rfl⟩ := r.shape
 obtain ⟨a5, c6, rfl⟩ := r3.shape
 obtain ⟨a11, c12, rfl⟩ := r9.shape
 obtain ⟨a17, c18, rfl⟩ := r15.shape
 refine enter (args := [sl a sx c, sl a5 l c6, sl a11 wx c12, sl a17 values c18]) 22 Try.func45 rfl rfl rfl ?_
 refine W_forget [(0, sl a sx c), (1, sl a5 l c6), (2, sl a11 wx c12), (3, sl a17 values c18)] ⟨rfl, rfl, rfl, rfl, trivial⟩ fun ρ => ?_
 have X := But.refl emp w
 refine W_seq (W_region ?_)
 refine LP_ev ok 0 [(8, .bool false)] 1 rfl rfl ?_
 refine LP_end _ rfl ?_
 obtain ⟨k, hk, H⟩ := jn_elim H
 refine W_join2 (S := Bool) (fun s ρ' w' => k s ∧ ∃ (ρ : Env), ρ' = setAll [(8, .bool s)] ρ ∧ But emp w w') ?_ ?_
 ·refine W_region ?_
  refine LP_ev ok 0 [(9, sl a sx c), (10, sl a5 l c6)] 2 rfl rfl ?_
  refine LP_call 2 rfl rfl rfl cal_36 rfl (spec_eSmall_w _ _ _ H w r ex r3 ex4) ?_
  rintro _ wx22 ⟨r21, H, rfl, x23⟩
  refine LP_ev ok 3 [(12, .bool r21)] 4 rfl rfl ?_
  refine LP_split 12 (r21) rfl (fun hc => ?_) (fun hc => ?_)
  ·have H := H.1 hc
   refine LP_ev ok 4 [(13, sl a sx c), (14, sl a11 wx c12)] 6 rfl rfl ?_
   have ex25 := (ex.ext x23)
   refine LP_call 6 rfl rfl rfl cal_37 rfl (spec_iWeights_w _ _ _ H wx22 r ex25 r9 (ex10.ext x23)) ?_
   rintro _ wx27 ⟨r24, H, rfl, x28⟩
   refine LP_ev ok 7 [(16, .bool r24), (17, .bool r24)] 9 rfl rfl ?_
   refine LP_split 17 (r24) rfl (fun hc29 => ?_) (fun hc29 => ?_)
   ·have H := H.1 hc29
    refine LP_ev ok 9 [(18, sl a sx c), (19, sl a17 values c18)] 11 rfl rfl ?_
    have xc := (x23.trans x28)
    refine LP_call 11 rfl rfl rfl cal_55 rfl (spec_sFits_w _ _ _ H wx27 r (ex25.ext x28) r15 (ex16.ext xc)) ?_
    rintro _ wx33 ⟨r30, H, rfl, x34⟩
    refine LP_ev ok 12 [(21, .bool r30), (8, .bool r30)] 14 rfl rfl ?_
    exact LP_end _ rfl ⟨r30, H, _, env_eq ⟨rfl, trivial⟩, (X.stepx (xc.trans x34))⟩
   have H := H.2 hc29
   refine LP_ev ok 9 [(18, undef), (19, undef), (20, undef), (21, .bool false), (8, .bool false)] 14 rfl rfl ?_
   exact LP_end _ rfl ⟨false, H, _, env_eq ⟨rfl, trivial⟩, (X.stepx (x23.trans x28))⟩
  have H := H.2 hc
  refine LP_ev ok 4 [(13, undef), (14, undef), (15, undef), (16, .bool false), (17, .bool false), (18, undef), (19, undef), (20, undef), (21, .bool false), (8, .bool false)] 14 rfl rfl ?_
  exact LP_end _ rfl ⟨false, H, _, env_eq ⟨rfl, trivial⟩, (X.stepx x23)⟩
 rintro x _ wx19 ⟨H, ρ, rfl, X20⟩
 subst hk
 refine W_ret ?_
 exact ⟨_, Ret_of [.bool x] ⟨⟨rfl, rfl⟩, trivial⟩, _, H, rfl, X20.ext⟩

theorem spec_iBits_w (mask : Int) (Q : (List Int) → Prop) (H : spec_iBits mask Q) (w : World)  :
  CallsTo Try.prog 93 #[I mask] w fun v w' => ∃ r0 u0 g0, Q r0 ∧ v = u0 ∧ Ext w w' ∧ OS 3 g0 emp u0 r0 ∧ Sub g0 w' ∧ Fresh w.heap.size g0 := by
 refine enter (args := [I mask]) 23 Try.func93 rfl rfl rfl ?_
 refine W_forget [(0, I mask)] ⟨rfl, trivial⟩ fun ρ => ?_
 have X := But.refl emp w
 refine W_seq (W_region ?_)
 refine LP_ev ok 0 [(2, .slice none 0 0)] 1 rfl rfl ?_
 refine LP_end _ rfl (W_seq (W_region ?_))
 refine LP_ev ok 0 [(3, .slice none 0 0)] 1 rfl rfl ?_
 refine LP_end _ rfl (W_seq ?_)
 refine W_seq (W_region ?_)
 refine LP_ev ok 0 [(4, I 0)] 1 rfl rfl ?_
 refine LP_end _ rfl ?_
 refine W_block ?_
 obtain ⟨J, m, Hx, H⟩ := H
 refine W_loop (S := (List Int) × Int) (fun s ρ' w' => J s.1 s.2 ∧ ∃ (ρ : Env) (vx : Value) (hx : PH), ρ' = setAll [(0, I mask), (3, vx), (4, I s.2)] ρ ∧ But emp w w' ∧ OS 3 hx emp vx s.1 ∧ Sub hx w' ∧ Fresh w.heap.size hx) (fun s => m s.1 s.2) ([], 0) ⟨Hx, _, .slice none 0 0, emp, env_eq ⟨rfl, rfl, rfl, trivial⟩, X, OS.nil, (emp_sub _), (emp_fresh _)⟩ ?_
 rintro ⟨out, i⟩ _ wx ⟨Hi, ρ, vx, hx, rfl, X1, o, ex, f⟩
 have H := H out i Hi
 obtain ⟨a, c, rfl⟩ := o.shape
 refine W_seq ?_
 refine W_seq (W_region ?_)
 refine LP_ev ok 0 [(5, I mask), (6, I i), (7, .int .u64 (IntKind.u64.wrap (i)))] 3 rfl rfl ?_
 obtain ⟨hz, H⟩ := H
 refine LP_val 3 _ rfl rfl (ex_shr rfl rfl rfl hz _) ?_
 refine LP_ev ok 4 [(9, .bool (decide ((shr .i64 mask (IntKind.u64.wrap (i))) > 0)))] 5 rfl rfl ?_
 refine LP_end _ rfl ?_
 refine W_cond (decide ((shr .i64 mask (IntKind.u64.wrap (i))) > 0)) rfl (fun hc => ?_) (fun hc => ?_)
 ·have H := H.1 hc
  refine W_skip ?_
  obtain ⟨k, hk, H⟩ := jn_elim H
  refine W_join2 (S := (List Int)) (fun s ρ' w' => k s ∧ ∃ (ρ : Env) (vx3 : Value) (hx4 : PH), ρ' = setAll [(0, I mask), (3, vx3), (4, I i)] ρ ∧ But emp w w' ∧ OS 3 hx4 emp vx3 s ∧ Sub hx4 w' ∧ Fresh w.heap.size hx4) ?_ ?_
  ·refine W_block ?_
   refine W_seq (W_region ?_)
   refine LP_ev ok 0 [(12, I mask), (13, I i), (14, .int .u64 (IntKind.u64.wrap (i)))] 3 rfl rfl ?_
   obtain ⟨hz12, H⟩ := H
   refine LP_val 3 _ rfl rfl (ex_shr rfl rfl rfl hz12 _) ?_
   refine LP_ev ok 4 [(16, I (bits .and .i64 (shr .i64 mask (IntKind.u64.wrap (i))) 1)), (17, .bool ((bits .and .i64 (shr .i64 mask (IntKind.u64.wrap (i))) 1) == 1))] 6 rfl rfl ?_
   refine LP_end _ rfl ?_
   refine W_cond ((bits .and .i64 (shr .i64 mask (IntKind.u64.wrap (i))) 1) == 1) rfl (fun hc13 => ?_) (fun hc13 => ?_)
   ·have H := H.1 hc13
    refine W_region ?_
    refine LP_ev ok 0 [(18, sl a out c), (19, I i)] 2 rfl rfl ?_
    refine LP_lit (α := Int) (g := emp) 2 (vs := [I i]) (xs := [i]) rfl rfl rfl Try.underlying25 ti_3 rfl rfl ⟨⟨_, rfl, rfl⟩, trivial⟩ rfl rfl fun hx14 vx15 wx16 x o17 ex18 f19 => ?_
    obtain ⟨a20, c21, rfl⟩ := o17.shape
    obtain ⟨hb, H⟩ := H
    refine LP_appendf (α := Int) 3 rfl rfl rfl Try.underlying25 ti_3 rfl rfl rfl o (ex.ext x) o17.readf ex18 (by first | omega | (simp only [ln] at *; omega)) (by first | omega | (simp only [ln] at *; omega)) fun hx23 vx24 wx25 o26 ex27 y dm => ?_
    obtain ⟨a28, c29, rfl⟩ := o26.shape
    refine LP_ev ok 4 [(3, .slice a28 (List.length (out ++ ([i]))) c29)] 5 rfl rfl ?_
    refine LP_end _ rfl ?_
    have f31 := dm.fresh f (X1.stepx x).size
    exact ⟨out ++ ([i]), H, _, .slice a28 (List.length (out ++ ([i]))) c29, hx23, env_eq ⟨rfl, rfl, rfl, trivial⟩, ((X1.stepx x).step y (f.dom _)), o26, ex27, f31⟩
   have H := H.2 hc13
   exact W_skip ⟨out, H, _, sl a out c, hx, env_eq ⟨rfl, rfl, rfl, trivial⟩, X1, o, ex, f⟩
  rintro out2 _ wx8 ⟨H, ρ, vx3, hx4, rfl, X11, o5, ex6, f7⟩
  subst hk
  obtain ⟨a9, c10, rfl⟩ := o5.shape
  refine W_region ?_
  refine LP_ev ok 0 [(10, I i), (11, I (wr (i + 1))), (4, I (wr (i + 1)))] 3 rfl rfl ?_
  exact LP_end _ rfl ⟨(out2, wr (i + 1)), ⟨H.1, _, sl a9 out2 c10, hx4, env_eq ⟨rfl, rfl, rfl, trivial⟩, X11, o5, ex6, f7⟩, H.2⟩
 have H := H.2 hc
 refine W_exit ?_
 refine (if_pos rfl).mpr ?_
 refine W_seq (W_region ?_)
 refine LP_ev ok 0 [(22, sl a out c), (2, sl a out c)] 2 rfl rfl ?_
 refine LP_end _ rfl (W_ret ?_)
 exact ⟨_, Ret_of [sl a out c] ⟨⟨rfl, rfl⟩, trivial⟩, _, _, _, H, rfl, X1.ext, o, ex, f⟩

theorem spec_iSum_w (wx : List Int) (vars : List Int) (Q : Int → Prop) (H : spec_iSum wx vars Q) (w : World) {vx : Value} {hx : PH} (r : RS hx vx wx) (ex : Sub hx w) {vx1 : Value} {hx2 : PH} (r3 : RS hx2 vx1 vars) (ex4 : Sub hx2 w) :
  CallsTo Try.prog 94 #[vx, vx1] w fun v w' => ∃ r0, Q r0 ∧ v = I r0 ∧ Ext w w' := by
 obtain ⟨a, c, rfl⟩ := r.shape
 obtain ⟨a5, c6, rfl⟩ := r3.shape
 refine enter (args := [sl a wx c, sl a5 vars c6]) 22 Try.func94 rfl rfl rfl ?_
 refine W_forget [(0, sl a wx c), (1, sl a5 vars c6)] ⟨rfl, rfl, trivial⟩ fun ρ => ?_
 have X := But.refl emp w
 refine W_seq (W_region ?_)
 refine LP_ev ok 0 [(4, I 0)] 1 rfl rfl ?_
 refine LP_end _ rfl (W_seq (W_region ?_))
 refine LP_ev ok 0 [(5, I 0)] 1 rfl rfl ?_
 refine LP_end _ rfl (W_seq ?_)
 refine W_seq (W_region ?_)
 refine LP_ev ok 0 [(8, sl a5 vars c6), (9, I (ln vars)), (10, I 0)] 3 rfl rfl ?_
 refine LP_end _ rfl ?_
 refine W_block ?_
 obtain ⟨J, m, Hx, H⟩ := H
 refine W_loop (S := Int × Int) (fun s ρ' w' => J s.1 s.2 ∧ ∃ (ρ : Env), ρ' = setAll [(0, sl a wx c), (5, I s.1), (8, sl a5 vars c6), (9, I (ln vars)), (10, I s.2)] ρ ∧ w = w') (fun s => m s.1 s.2) (0, 0) ⟨Hx, _, env_eq ⟨rfl, rfl, rfl, rfl, rfl, trivial⟩, rfl⟩ ?_
 rintro ⟨n, x⟩ _ _ ⟨Hi, ρ, rfl, rfl⟩
 have H := H n x Hi
 refine W_seq (W_region ?_)
 refine LP_ev ok 0 [(11, .bool (decide (x < (ln vars))))] 1 rfl rfl ?_
 refine LP_end _ rfl (W_seq ?_)
 refine W_cond (decide (x < (ln vars))) rfl (fun hc => ?_) (fun hc => ?_)
 ·have H := H.1 hc
  refine W_skip ?_
  refine W_seq ?_
  refine W_block ?_
  refine W_seq (W_region ?_)
  obtain ⟨x8, hi, hx9, H⟩ := H
  refine LP_index 0 rfl rfl rfl Try.underlying25 ti_3 rfl rfl r3 hi hx9 fun a10 cs r11 d => ?_
  refine LP_load 1 rfl rfl rfl ti_3 ag_3 rfl r11 d ex4 fun vx12 r13 => ?_
  obtain rfl := r13.int
  refine LP_ev ok 2 [(7, I x8)] 3 rfl rfl ?_
  refine LP_end _ rfl ?_
  refine W_region ?_
  refine LP_ev ok 0 [(14, I n), (15, sl a wx c), (16, I x8)] 3 rfl rfl ?_
  obtain ⟨x14, hi15, hx16, H⟩ := H
  refine LP_index 3 rfl rfl rfl Try.underlying25 ti_3 rfl rfl r hi15 hx16 fun a17 cs18 r19 d20 => ?_
  refine LP_load 4 rfl rfl rfl ti_3 ag_3 rfl r19 d20 ex fun vx21 r22 => ?_
  obtain rfl := r22.int
  refine LP_ev ok 5 [(19, I (wr (n + x14))), (5, I (wr (n + x14)))] 7 rfl rfl ?_
  refine LP_end _ rfl ?_
  refine W_region ?_
  refine LP_ev ok 0 [(20, I (wr (x + 1))), (10, I (wr (x + 1)))] 2 rfl rfl ?_
  exact LP_end _ rfl ⟨(wr (n + x14), wr (x + 1)), ⟨H.1, _, env_eq ⟨rfl, rfl, rfl, rfl, rfl, trivial⟩, rfl⟩, H.2⟩
 have H := H.2 hc
 refine W_exit ?_
 refine (if_pos rfl).mpr ?_
 refine W_seq (W_region ?_)
 refine LP_ev ok 0 [(21, I n), (4, I n)] 2 rfl rfl ?_
 refine LP_end _ rfl (W_ret ?_)
 exact ⟨_, Ret_of [I n] ⟨⟨rfl, rfl⟩, trivial⟩, _, H, rfl, X.ext⟩

theorem spec_l1Has_w (l : List Int) (n : Int) (Q : Bool → Prop) (H : spec_l1Has l n Q) (w : World) {vx : Value} {hx : PH} (r : RS hx vx l) (ex : Sub hx w) :
  CallsTo Try.prog 99 #[vx, I n] w fun v w' => ∃ r0, Q r0 ∧ v = .bool r0 ∧ Ext w w' := by
 obtain ⟨a, c, rfl⟩ := r.shape
 refine enter (args := [sl a l c, I n]) 17 Try.func99 rfl rfl rfl ?_
 refine W_forget [(0, sl a l c), (1, I n)] ⟨rfl, rfl, trivial⟩ fun ρ => ?_
 have X := But.refl emp w
 refine W_seq (W_region ?_)
 refine LP_ev ok 0 [(4, .bool false)] 1 rfl rfl ?_
 refine LP_end _ rfl (W_seq ?_)
 refine W_seq (W_region ?_)
 refine LP_ev ok 0 [(7, sl a l c), (8, I (ln l)), (9, I 0)] 3 rfl rfl ?_
 refine LP_end _ rfl ?_
 refine W_block ?_
 obtain ⟨J, m, Hx, H⟩ := H
 refine W_loop (S := Int) (fun s ρ' w' => J s ∧ ∃ (ρ : Env), ρ' = setAll [(1, I n), (7, sl a l c), (8, I (ln l)), (9, I s)] ρ ∧ w = w') (fun s => m s) 0 ⟨Hx, _, env_eq ⟨rfl, rfl, rfl, rfl, trivial⟩, rfl⟩ ?_
 rintro x _ _ ⟨Hi, ρ, rfl, rfl⟩
 have H := H x Hi
 refine W_seq (W_region ?_)
 refine LP_ev ok 0 [(10, .bool (decide (x < (ln l))))] 1 rfl rfl ?_
 refine LP_end _ rfl (W_seq ?_)
 refine W_cond (decide (x < (ln l))) rfl (fun hc => ?_) (fun hc => ?_)
 ·have H := H.1 hc
  refine W_skip ?_
  refine W_seq ?_
  refine W_block ?_
  refine W_seq (W_region ?_)
  obtain ⟨x1, hi, hx2, H⟩ := H
  refine LP_index 0 rfl rfl rfl Try.underlying25 ti_3 rfl rfl r hi hx2 fun a3 cs r4 d => ?_
  refine LP_load 1 rfl rfl rfl ti_3 ag_3 rfl r4 d ex fun vx5 r6 => ?_
  obtain rfl := r6.int
  refine LP_ev ok 2 [(6, I x1)] 3 rfl rfl ?_
  refine LP_end _ rfl (W_seq (W_region ?_))
  refine LP_ev ok 0 [(13, I x1), (14, I n), (15, .bool (x1 == n))] 3 rfl rfl ?_
  refine LP_end _ rfl ?_
  refine W_cond (x1 == n) rfl (fun hc7 => ?_) (fun hc7 => ?_)
  ·have H := H.1 hc7
   refine W_seq (W_region ?_)
   refine LP_ev ok 0 [(4, .bool true)] 1 rfl rfl ?_
   refine LP_end _ rfl (W_ret ?_)
   exact ⟨_, Ret_of [.bool true] ⟨⟨rfl, rfl⟩, trivial⟩, _, H, rfl, X.ext⟩
  have H := H.2 hc7
  refine W_skip ?_
  refine W_region ?_
  refine LP_ev ok 0 [(16, I (wr (x + 1))), (9, I (wr (x + 1)))] 2 rfl rfl ?_
  exact LP_end _ rfl ⟨wr (x + 1), ⟨H.1, _, env_eq ⟨rfl, rfl, rfl, rfl, trivial⟩, rfl⟩, H.2⟩
 have H := H.2 hc
 refine W_exit ?_
 refine (if_pos rfl).mpr ?_
 refine W_seq (W_region ?_)
 refine LP_ev ok 0 [(4, .bool false)] 1 rfl rfl ?_
 refine LP_end _ rfl (W_ret ?_)
 exact ⟨_, Ret_of [.bool false] ⟨⟨rfl, rfl⟩, trivial⟩, _, H, rfl, X.ext⟩

theorem spec_iOthers_w (sx : List Variable) (vars : List Int) (Q : (List Int) → Prop) (H : spec_iOthers sx vars Q) (w : World) {vx : Value} {hx : PH} (r : RS hx vx sx) (ex : Sub hx w) {vx1 : Value} {hx2 : PH} (r3 : RS hx2 vx1 vars) (ex4 : Sub hx2 w) :
  CallsTo Try.prog 89 #[vx, vx1] w fun v w' => ∃ r0 u0 g0, Q r0 ∧ v = u0 ∧ Ext w w' ∧ OS 3 g0 emp u0 r0 ∧ Sub g0 w' ∧ Fresh w.heap.size g0 := by
 obtain ⟨a, c, rfl⟩ := r.shape
 obtain ⟨a5, c6, rfl⟩ := r3.shape
 refine enter (args := [sl a sx c, sl a5 vars c6]) 22 Try.func89 rfl rfl rfl ?_
 refine W_forget [(0, sl a sx c), (1, sl a5 vars c6)] ⟨rfl, rfl, trivial⟩ fun ρ => ?_
 have X := But.refl emp w
 refine W_seq (W_region ?_)
 refine LP_ev ok 0 [(4, .slice none 0 0)] 1 rfl rfl ?_
 refine LP_end _ rfl (W_seq (W_region ?_))
 refine LP_ev ok 0 [(5, .slice none 0 0)] 1 rfl rfl ?_
 refine LP_end _ rfl (W_seq ?_)
 refine W_seq (W_region ?_)
 refine LP_ev ok 0 [(7, sl a sx c), (8, I (ln sx)), (9, I 0)] 3 rfl rfl ?_
 refine LP_end _ rfl ?_
 refine W_block ?_
 obtain ⟨J, m, Hx, H⟩ := H
 refine W_loop (S := (List Int) × Int) (fun s ρ' w' => J s.1 s.2 ∧ ∃ (ρ : Env) (vx7 : Value) (hx8 : PH), ρ' = setAll [(1, sl a5 vars c6), (5, vx7), (8, I (ln sx)), (9, I s.2)] ρ ∧ But emp w w' ∧ OS 3 hx8 emp vx7 s.1 ∧ Sub hx8 w' ∧ Fresh w.heap.size hx8 ∧ Sub hx2 w' ∧ Dj hx8 hx2) (fun s => m s.1 s.2) ([], 0) ⟨Hx, _, .slice none 0 0, emp, env_eq ⟨rfl, rfl, rfl, rfl, trivial⟩, X, OS.nil, (emp_sub _), (emp_fresh _), ex4, (fun _ => .inl rfl)⟩ ?_
 rintro ⟨out, x⟩ _ wx ⟨Hi, ρ, vx7, hx8, rfl, HF⟩
 revert HF
 refine bb6 fun X13 o ex9 f ex10 d => ?_
 have H := H out x Hi
 obtain ⟨a11, c12, rfl⟩ := o.shape
 refine W_seq (W_region ?_)
 refine LP_ev ok 0 [(10, .bool (decide (x < (ln sx))))] 1 rfl rfl ?_
 refine LP_end _ rfl (W_seq ?_)
 refine W_cond (decide (x < (ln sx))) rfl (fun hc => ?_) (fun hc => ?_)
 ·have H := H.1 hc
  refine W_skip ?_
  obtain ⟨k, hk, H⟩ := jn_elim H
  refine W_join2 (S := (List Int)) (fun s ρ' w' => k s ∧ ∃ (ρ : Env) (vx15 : Value) (hx16 : PH), ρ' = setAll [(1, sl a5 vars c6), (5, vx15), (8, I (ln sx)), (9, I x)] ρ ∧ But emp w w' ∧ OS 3 hx16 emp vx15 s ∧ Sub hx16 w' ∧ Fresh w.heap.size hx16 ∧ Sub hx2 w' ∧ Dj hx16 hx2) ?_ ?_
  ·refine W_block ?_
   refine W_seq (W_region ?_)
   refine LP_ev ok 0 [(11, I x), (6, I x)] 2 rfl rfl ?_
   refine LP_end _ rfl (W_seq (W_region ?_))
   refine LP_ev ok 0 [(12, sl a5 vars c6), (13, I x)] 2 rfl rfl ?_
   refine LP_call 2 rfl rfl rfl cal_99 rfl (spec_l1Has_w _ _ _ H wx r3 ex10) ?_
   rintro _ wx27 ⟨r26, H, rfl, x28⟩
   refine LP_ev ok 3 [(15, .bool (!r26))] 4 rfl rfl ?_
   refine LP_end _ rfl ?_
   refine W_cond (!r26) rfl (fun hc29 => ?_) (fun hc29 => ?_)
   ·have H := H.1 hc29
    refine W_region ?_
    refine LP_ev ok 0 [(16, sl a11 out c12), (17, I x)] 2 rfl rfl ?_
    refine LP_lit (α := Int) (g := emp) 2 (vs := [I x]) (xs := [x]) rfl rfl rfl Try.underlying25 ti_3 rfl rfl ⟨⟨_, rfl, rfl⟩, trivial⟩ rfl rfl fun hx30 vx31 wx32 x33 o34 ex35 f36 => ?_
    obtain ⟨a37, c38, rfl⟩ := o34.shape
    have xc := (x28.trans x33)
    obtain ⟨hb, H⟩ := H
    refine LP_appendf (α := Int) 3 rfl rfl rfl Try.underlying25 ti_3 rfl rfl rfl o (ex9.ext xc) o34.readf ex35 (by first | omega | (simp only [ln] at *; omega)) (by first | omega | (simp only [ln] at *; omega)) fun hx40 vx41 wx42 o43 ex44 y dm => ?_
    obtain ⟨a45, c46, rfl⟩ := o43.shape
    refine LP_ev ok 4 [(5, .slice a45 (List.length (out ++ ([x]))) c46)] 5 rfl rfl ?_
    refine LP_end _ rfl ?_
    have f48 := dm.fresh f (X13.stepx xc).size
    exact ⟨out ++ ([x]), H, _, .slice a45 (List.length (out ++ ([x]))) c46, hx40, env_eq ⟨rfl, rfl, rfl, rfl, trivial⟩, ((X13.stepx xc).step y (f.dom _)), o43, ex44, f48, ((ex10.ext xc).but y d), (DomLe.dj dm d (ex10.ext xc))⟩
   have H := H.2 hc29
   exact W_skip ⟨out, H, _, sl a11 out c12, hx8, env_eq ⟨rfl, rfl, rfl, rfl, trivial⟩, (X13.stepx x28), o, (ex9.ext x28), f, (ex10.ext x28), d⟩
  rintro out14 _ wx20 ⟨H, ρ, vx15, hx16, rfl, HF⟩
  revert HF
  refine bb6 fun X25 o17 ex18 f19 ex21 d24 => ?_
  subst hk
  obtain ⟨a22, c23, rfl⟩ := o17.shape
  refine W_region ?_
  refine LP_ev ok 0 [(20, I (wr (x + 1))), (9, I (wr (x + 1)))] 2 rfl rfl ?_
  exact LP_end _ rfl ⟨(out14, wr (x + 1)), ⟨H.1, _, sl a22 out14 c23, hx16, env_eq ⟨rfl, rfl, rfl, rfl, trivial⟩, X25, o17, ex18, f19, ex21, d24⟩, H.2⟩
 have H := H.2 hc
 refine W_exit ?_
 refine (if_pos rfl).mpr ?_
 refine W_seq (W_region ?_)
 refine LP_ev ok 0 [(21, sl a11 out c12), (4, sl a11 out c12)] 2 rfl rfl ?_
 refine LP_end _ rfl (W_ret ?_)
 exact ⟨_, Ret_of [sl a11 out c12] ⟨⟨rfl, rfl⟩, trivial⟩, _, _, _, H, rfl, X13.ext, o, ex9, f⟩

theorem spec_sAt_w (sx : List Variable) (i : Int) (Q : (List Int) → Prop) (H : spec_sAt sx i Q) (w : World) {vx : Value} {hx : PH} (r : RS hx vx sx) (ex : Sub hx w) :
  CallsTo Try.prog 97 #[vx, I i] w fun v w' => ∃ r0 u0 g0, Q r0 ∧ v = u0 ∧ Ext w w' ∧ OS 3 g0 emp u0 r0 ∧ Sub g0 w' ∧ Fresh w.heap.size g0 := by
 obtain ⟨a, c, rfl⟩ := r.shape
 refine enter (args := [sl a sx c, I i]) 35 Try.func97 rfl rfl rfl ?_
 refine W_forget [(0, sl a sx c), (1, I i)] ⟨rfl, rfl, trivial⟩ fun ρ => ?_
 have X := But.refl emp w
 refine W_seq (W_region ?_)
 refine LP_ev ok 0 [(4, .slice none 0 0)] 1 rfl rfl ?_
 refine LP_end _ rfl (W_seq (W_region ?_))
 refine LP_ev ok 0 [(7, sl a sx c), (8, I (ln sx))] 2 rfl rfl ?_
 obtain ⟨hn, hb, H⟩ := H
 refine LP_make (α := Int) 2 rfl rfl rfl Try.underlying25 ti_3 (x0 := (0 : Int)) rfl rfl hn (by first | omega | (simp only [ln] at *; omega)) (by first | omega | (simp only [ln] at *; omega)) fun hx1 vx2 wx x o ex3 f => ?_
 obtain ⟨a4, c5, rfl⟩ := o.shape
 refine LP_ev ok 3 [(5, .slice a4 (List.length (List.replicate (Int.toNat (ln sx)) ((0 : Int)))) c5)] 4 rfl rfl ?_
 refine LP_end _ rfl (W_seq ?_)
 refine W_seq (W_region ?_)
 refine LP_ev ok 0 [(10, sl a sx c), (11, I (ln sx)), (12, I (wr ((ln sx) - 1))), (6, I (wr ((ln sx) - 1)))] 4 rfl rfl ?_
 refine LP_end _ rfl ?_
 refine W_block ?_
 have f16 := f.mono X.size
 obtain ⟨J, m, Hx, H⟩ := H
 refine W_loop (S := Int × (List Int) × Int) (fun s ρ' w' => J s.1 s.2.1 s.2.2 ∧ ∃ (ρ : Env) (hx8 : PH), ρ' = setAll [(0, sl a sx c), (1, I s.1), (5, .slice a4 (List.length (List.replicate (Int.toNat (ln sx)) ((0 : Int)))) c5), (6, I s.2.2)] ρ ∧ But emp w w' ∧ OS 3 hx8 emp (.slice a4 (List.length (List.replicate (Int.toNat (ln sx)) ((0 : Int)))) c5) s.2.1 ∧ Sub hx8 w' ∧ Fresh w.heap.size hx8 ∧ Sub hx w' ∧ Dj hx8 hx) (fun s => m s.1 s.2.1 s.2.2) (i, List.replicate (Int.toNat (ln sx)) ((0 : Int)), wr ((ln sx) - 1)) ⟨Hx, _, hx1, env_eq ⟨rfl, rfl, rfl, rfl, trivial⟩, (X.stepx x), o, ex3, f16, (ex.ext x), (Dj.of_fresh ex f).symm⟩ ?_
 rintro ⟨i6, out, k⟩ _ wx12 ⟨Hi, ρ, hx8, rfl, HF⟩
 revert HF
 refine bb6 fun X14 o9 ex10 f11 ex13 d => ?_
 have H := H i6 out k Hi
 refine W_seq ?_
 refine W_seq (W_region ?_)
 refine LP_ev ok 0 [(13, I k), (14, .bool (decide (k ≥ 0)))] 2 rfl rfl ?_
 refine LP_end _ rfl ?_
 refine W_cond (decide (k ≥ 0)) rfl (fun hc => ?_) (fun hc => ?_)
 ·have H := H.1 hc
  refine W_skip ?_
  refine W_seq ?_
  refine W_block ?_
  refine W_seq (W_region ?_)
  refine LP_ev ok 0 [(17, .slice a4 (List.length (List.replicate (Int.toNat (ln sx)) ((0 : Int)))) c5), (18, I k), (19, I i6), (20, sl a sx c), (21, I k)] 5 rfl rfl ?_
  obtain ⟨x18, hi, hx19, H⟩ := H
  refine LP_index 5 rfl rfl rfl Try.underlying23 ti_90 rfl rfl r hi hx19 fun a20 cs r21 d22 => ?_
  refine LP_ev ok 6 [(23, .pointer (some (Addr.add a20 1)))] 7 rfl rfl ?_
  refine LP_ldfld (x := x18) (off := 1) 7 (v := I x18.Levels) rfl rfl rfl ti_3 ag_3 (fun _ => rfl) rfl r21 d22 ex13 rfl rfl ?_
  obtain ⟨hz, H⟩ := H
  refine LP_val 8 _ rfl rfl (ex_rem rfl rfl rfl hz _) ?_
  obtain ⟨hi23, hl, H⟩ := H
  refine LP_indexw (v := .slice a4 (List.length (List.replicate (Int.toNat (ln sx)) ((0 : Int)))) c5) 9 rfl rfl rfl Try.underlying25 ti_3 rfl rfl o9 hi23 hl fun a24 wa => ?_
  refine LP_set 10 rfl rfl rfl rfl rfl wa (Le.refl emp) ⟨_, rfl, rfl⟩ ex10 fun hx25 wx26 o27 ex28 y dm => ?_
  refine LP_end _ rfl ?_
  refine W_region ?_
  refine LP_ev ok 0 [(27, I i6), (28, sl a sx c), (29, I k)] 3 rfl rfl ?_
  obtain ⟨x29, hi30, hx31, H⟩ := H
  refine LP_index 3 rfl rfl rfl Try.underlying23 ti_90 rfl rfl r hi30 hx31 fun a32 cs33 r34 d35 => ?_
  refine LP_ev ok 4 [(31, .pointer (some (Addr.add a32 1)))] 5 rfl rfl ?_
  have ex36 := (ex13.but y d)
  refine LP_ldfld (x := x29) (off := 1) 5 (v := I x29.Levels) rfl rfl rfl ti_3 ag_3 (fun _ => rfl) rfl r34 d35 ex36 rfl rfl ?_
  obtain ⟨hz37, H⟩ := H
  refine LP_val 6 _ rfl rfl (ex_quo rfl rfl rfl hz37 _) ?_
  refine LP_ev ok 7 [(1, I (wr (Int.tdiv i6 x29.Levels)))] 8 rfl rfl ?_
  refine LP_end _ rfl ?_
  refine W_region ?_
  refine LP_ev ok 0 [(15, I k), (16, I (wr (k - 1))), (6, I (wr (k - 1)))] 3 rfl rfl ?_
  refine LP_end _ rfl ?_
  have f39 := (dm _).fresh f11 X14.size
  exact ⟨(wr (Int.tdiv i6 x29.Levels), List.set out (Int.toNat k) (Int.tmod i6 x18.Levels), wr (k - 1)), ⟨H.1, _, hx25, env_eq ⟨rfl, rfl, rfl, rfl, trivial⟩, (X14.step y (f11.dom _)), o27, ex28, f39, ex36, (DomLe.dj (dm _) d ex13)⟩, H.2⟩
 have H := H.2 hc
 refine W_exit ?_
 refine (if_pos rfl).mpr ?_
 refine W_seq (W_region ?_)
 refine LP_ev ok 0 [(34, .slice a4 (List.length (List.replicate (Int.toNat (ln sx)) ((0 : Int)))) c5), (4, .slice a4 (List.length (List.replicate (Int.toNat (ln sx)) ((0 : Int)))) c5)] 2 rfl rfl ?_
 refine LP_end _ rfl (W_ret ?_)
 exact ⟨_, Ret_of [.slice a4 (List.length (List.replicate (Int.toNat (ln sx)) ((0 : Int)))) c5] ⟨⟨rfl, rfl⟩, trivial⟩, _, _, _, H, rfl, X14.ext, o9, ex10, f11⟩

theorem spec_eFails_w (ex : Edit) (values : List Int) (Q : Bool → Prop) (H : spec_eFails ex values Q) (w : World) {vx : Value} {hx : PH} (r : RS hx vx ex.Sets) (ex1 : Sub hx w) {vx2 : Value} {hx3 : PH} (r4 : RS hx3 vx2 values) (ex5 : Sub hx3 w) :
  CallsTo Try.prog 58 #[.agg #[vx], vx2] w fun v w' => ∃ r0, Q r0 ∧ v = .bool r0 ∧ Ext w w' := by
 obtain ⟨a, c, rfl⟩ := r.shape
 obtain ⟨a6, c7, rfl⟩ := r4.shape
 refine enter (args := [.agg #[sl a ex.Sets c], sl a6 values c7]) 25 Try.func58 rfl rfl rfl ?_
 refine W_forget [(0, .agg #[sl a ex.Sets c]), (1, sl a6 values c7)] ⟨rfl, rfl, trivial⟩ fun ρ => ?_
 have X := But.refl emp w
 refine W_seq (W_region ?_)
 refine LP_box 0 (cs := [sl a ex.Sets c]) rfl rfl rfl rfl rfl fun b wx x ex8 f => ?_
 refine LP_ev ok 1 [(4, .bool false)] 2 rfl rfl ?_
 refine LP_end _ rfl (W_seq ?_)
 refine W_seq (W_region ?_)
 refine LP_ev ok 0 [(7, sl a6 values c7), (8, I (ln values)), (9, I 0)] 3 rfl rfl ?_
 refine LP_end _ rfl ?_
 refine W_block ?_
 obtain ⟨J, m, Hx, H⟩ := H
 refine W_loop (S := Int) (fun s ρ' w' => J s ∧ ∃ (ρ : Env), ρ' = setAll [(2, pb b), (7, sl a6 values c7), (8, I (ln values)), (9, I s)] ρ ∧ wx = w') (fun s => m s) 0 ⟨Hx, _, env_eq ⟨rfl, rfl, rfl, rfl, trivial⟩, rfl⟩ ?_
 rintro x9 _ _ ⟨Hi, ρ, rfl, rfl⟩
 have H := H x9 Hi
 refine W_seq (W_region ?_)
 refine LP_ev ok 0 [(10, .bool (decide (x9 < (ln values))))] 1 rfl rfl ?_
 refine LP_end _ rfl (W_seq ?_)
 refine W_cond (decide (x9 < (ln values))) rfl (fun hc => ?_) (fun hc => ?_)
 ·have H := H.1 hc
  refine W_skip ?_
  refine W_seq ?_
  refine W_block ?_
  refine W_seq (W_region ?_)
  refine LP_ev ok 0 [(11, I x9)] 1 rfl rfl ?_
  obtain ⟨x11, hi, hx12, H⟩ := H
  refine LP_index 1 rfl rfl rfl Try.underlying25 ti_3 rfl rfl r4 hi hx12 fun a13 cs r14 d => ?_
  refine LP_load 2 rfl rfl rfl ti_3 ag_3 rfl r14 d (ex5.ext x) fun vx16 r17 => ?_
  obtain rfl := r17.int
  refine LP_ev ok 3 [(5, I x9), (6, I x11)] 5 rfl rfl ?_
  refine LP_end _ rfl (W_seq (W_region ?_))
  refine LP_ev ok 0 [(14, pb b)] 1 rfl rfl ?_
  refine LP_ldbox 1 (v := sl a ex.Sets c) rfl rfl rfl ti_25 ag_25 (fun _ => rfl) rfl ex8 rfl rfl ?_
  refine LP_ev ok 2 [(16, I x9)] 3 rfl rfl ?_
  obtain ⟨x18, hi19, hx20, H⟩ := H
  refine LP_index 3 rfl rfl rfl Try.underlying25 ti_3 rfl rfl r hi19 hx20 fun a21 cs22 r23 d24 => ?_
  refine LP_load 4 rfl rfl rfl ti_3 ag_3 rfl r23 d24 (ex1.ext x) fun vx26 r27 => ?_
  obtain rfl := r27.int
  refine LP_ev ok 5 [(19, I x11), (20, .int .u64 (IntKind.u64.wrap (x11)))] 7 rfl rfl ?_
  obtain ⟨hz, H⟩ := H
  refine LP_val 7 _ rfl rfl (ex_shr rfl rfl rfl hz _) ?_
  refine LP_ev ok 8 [(22, I (bits .and .i64 (shr .i64 x18 (IntKind.u64.wrap (x11))) 1)), (23, .bool ((bits .and .i64 (shr .i64 x18 (IntKind.u64.wrap (x11))) 1) == 0))] 10 rfl rfl ?_
  refine LP_end _ rfl ?_
  refine W_cond ((bits .and .i64 (shr .i64 x18 (IntKind.u64.wrap (x11))) 1) == 0) rfl (fun hc28 => ?_) (fun hc28 => ?_)
  ·have H := H.1 hc28
   refine W_seq (W_region ?_)
   refine LP_ev ok 0 [(4, .bool false)] 1 rfl rfl ?_
   refine LP_end _ rfl (W_ret ?_)
   exact ⟨_, Ret_of [.bool false] ⟨⟨rfl, rfl⟩, trivial⟩, _, H, rfl, (X.stepx x).ext⟩
  have H := H.2 hc28
  refine W_skip ?_
  refine W_region ?_
  refine LP_ev ok 0 [(24, I (wr (x9 + 1))), (9, I (wr (x9 + 1)))] 2 rfl rfl ?_
  exact LP_end _ rfl ⟨wr (x9 + 1), ⟨H.1, _, env_eq ⟨rfl, rfl, rfl, rfl, trivial⟩, rfl⟩, H.2⟩
 have H := H.2 hc
 refine W_exit ?_
 refine (if_pos rfl).mpr ?_
 refine W_seq (W_region ?_)
 refine LP_ev ok 0 [(4, .bool true)] 1 rfl rfl ?_
 refine LP_end _ rfl (W_ret ?_)
 exact ⟨_, Ret_of [.bool true] ⟨⟨rfl, rfl⟩, trivial⟩, _, H, rfl, (X.stepx x).ext⟩

theorem spec_eFailed_w (l : List Edit) (values : List Int) (Q : (List Int) → Prop) (H : spec_eFailed l values Q) (w : World) {vx : Value} {hx : PH} (r : RS hx vx l) (ex : Sub hx w) {vx1 : Value} {hx2 : PH} (r3 : RS hx2 vx1 values) (ex4 : Sub hx2 w) :
  CallsTo Try.prog 40 #[vx, vx1] w fun v w' => ∃ r0 u0 g0, Q r0 ∧ v = u0 ∧ Ext w w' ∧ OS 3 g0 emp u0 r0 ∧ Sub g0 w' ∧ Fresh w.heap.size g0 := by
 obtain ⟨a, c, rfl⟩ := r.shape
 obtain ⟨a5, c6, rfl⟩ := r3.shape
 refine enter (args := [sl a l c, sl a5 values c6]) 24 Try.func40 rfl rfl rfl ?_
 refine W_forget [(0, sl a l c), (1, sl a5 values c6)] ⟨rfl, rfl, trivial⟩ fun ρ => ?_
 have X := But.refl emp w
 refine W_seq (W_region ?_)
 refine LP_ev ok 0 [(4, .slice none 0 0)] 1 rfl rfl ?_
 refine LP_end _ rfl (W_seq (W_region ?_))
 refine LP_ev ok 0 [(5, .slice none 0 0)] 1 rfl rfl ?_
 refine LP_end _ rfl (W_seq ?_)
 refine W_seq (W_region ?_)
 refine LP_ev ok 0 [(8, sl a l c), (9, I (ln l)), (10, I 0)] 3 rfl rfl ?_
 refine LP_end _ rfl ?_
 refine W_block ?_
 obtain ⟨J, m, Hx, H⟩ := H
 refine W_loop (S := (List Int) × Int) (fun s ρ' w' => J s.1 s.2 ∧ ∃ (ρ : Env) (vx7 : Value) (hx8 : PH), ρ' = setAll [(1, sl a5 values c6), (5, vx7), (8, sl a l c), (9, I (ln l)), (10, I s.2)] ρ ∧ But emp w w' ∧ OS 3 hx8 emp vx7 s.1 ∧ Sub hx8 w' ∧ Fresh w.heap.size hx8 ∧ Sub hx w' ∧ Sub hx2 w' ∧ Dj hx8 hx ∧ Dj hx8 hx2) (fun s => m s.1 s.2) ([], 0) ⟨Hx, _, .slice none 0 0, emp, env_eq ⟨rfl, rfl, rfl, rfl, rfl, trivial⟩, X, OS.nil, (emp_sub _), (emp_fresh _), ex, ex4, (fun _ => .inl rfl), (fun _ => .inl rfl)⟩ ?_
 rintro ⟨out, x⟩ _ wx ⟨Hi, ρ, vx7, hx8, rfl, HF⟩
 revert HF
 refine bb8 fun X15 o ex9 f ex10 ex11 d d14 => ?_
 have H := H out x Hi
 obtain ⟨a12, c13, rfl⟩ := o.shape
 refine W_seq (W_region ?_)
 refine LP_ev ok 0 [(11, .bool (decide (x < (ln l))))] 1 rfl rfl ?_
 refine LP_end _ rfl (W_seq ?_)
 refine W_cond (decide (x < (ln l))) rfl (fun hc => ?_) (fun hc => ?_)
 ·have H := H.1 hc
  refine W_skip ?_
  obtain ⟨k, hk, H⟩ := jn_elim H
  refine W_join2 (S := (List Int)) (fun s ρ' w' => k s ∧ ∃ (ρ : Env) (vx17 : Value) (hx18 : PH), ρ' = setAll [(1, sl a5 values c6), (5, vx17), (8, sl a l c), (9, I (ln l)), (10, I x)] ρ ∧ But emp w w' ∧ OS 3 hx18 emp vx17 s ∧ Sub hx18 w' ∧ Fresh w.heap.size hx18 ∧ Sub hx w' ∧ Sub hx2 w' ∧ Dj hx18 hx ∧ Dj hx18 hx2) ?_ ?_
  ·refine W_block ?_
   refine W_seq (W_region ?_)
   refine LP_ev ok 0 [(12, I x)] 1 rfl rfl ?_
   obtain ⟨x30, hi, hx31, H⟩ := H
   refine LP_index 1 rfl rfl rfl Try.underlying24 ti_79 rfl rfl r hi hx31 fun a32 cs r33 d34 => ?_
   have d35 := d34
   obtain ⟨u, rfl, r36⟩ := Edit_rd d35
   obtain ⟨a37, c38, rfl⟩ := r36.shape
   refine LP_load 2 rfl rfl rfl ti_79 ag_79 rfl r33 d34 ex10 fun vx39 r40 => ?_
   obtain ⟨u41, rfl, r42⟩ := Edit_rv r40
   obtain ⟨a43, c44, rfl⟩ := r42.shape
   refine LP_alloc 3 rfl rfl rfl ti_79 rfl fun b wx45 x46 ex47 f48 => ?_
   refine LP_ev ok 4 [(6, I x)] 5 rfl rfl ?_
   refine LP_stbox 5 (vs := [sl a43 x30.Sets c44]) (cs' := [sl a43 x30.Sets c44]) rfl rfl rfl ti_79 rfl rfl rfl rfl rfl ex47 rfl rfl fun wx49 ex50 y => ?_
   refine LP_end _ rfl (W_seq (W_region ?_))
   refine LP_ldbox 0 (v := .agg #[sl a43 x30.Sets c44]) rfl rfl rfl ti_79 ag_79 (fun h => by cases h) rfl ex50 rfl rfl ?_
   refine LP_ev ok 1 [(16, sl a5 values c6)] 2 rfl rfl ?_
   have ex52 := ((ex10.ext x46).but y (Dj.of_fresh ex10 f48).symm)
   have ex53 := ((ex11.ext x46).but y (Dj.of_fresh ex11 f48).symm)
   refine LP_call 2 rfl rfl rfl cal_58 rfl (spec_eFails_w _ _ _ H wx49 r42 ex52 r3 ex53) ?_
   rintro _ wx54 ⟨r51, H, rfl, x55⟩
   refine LP_end _ rfl ?_
   refine W_cond (r51) rfl (fun hc56 => ?_) (fun hc56 => ?_)
   ·have H := H.1 hc56
    refine W_region ?_
    refine LP_ev ok 0 [(18, sl a12 out c13), (19, I x)] 2 rfl rfl ?_
    refine LP_lit (α := Int) (g := emp) 2 (vs := [I x]) (xs := [x]) rfl rfl rfl Try.underlying25 ti_3 rfl rfl ⟨⟨_, rfl, rfl⟩, trivial⟩ rfl rfl fun hx57 vx58 wx59 x60 o61 ex62 f63 => ?_
    obtain ⟨a64, c65, rfl⟩ := o61.shape
    have xc := (x55.trans x60)
    obtain ⟨hb, H⟩ := H
    refine LP_appendf (α := Int) 3 rfl rfl rfl Try.underlying25 ti_3 rfl rfl rfl o (((ex9.ext x46).but y (Dj.of_fresh ex9 f48).symm).ext xc) o61.readf ex62 (by first | omega | (simp only [ln] at *; omega)) (by first | omega | (simp only [ln] at *; omega)) fun hx67 vx68 wx69 o70 ex71 y72 dm => ?_
    obtain ⟨a73, c74, rfl⟩ := o70.shape
    refine LP_ev ok 4 [(5, .slice a73 (List.length (out ++ ([x]))) c74)] 5 rfl rfl ?_
    refine LP_end _ rfl ?_
    have f75 := f48.mono X15.size
    have f77 := dm.fresh f (((X15.stepx x46).step y (f75.dom _)).stepx xc).size
    exact ⟨out ++ ([x]), H, _, .slice a73 (List.length (out ++ ([x]))) c74, hx67, env_eq ⟨rfl, rfl, rfl, rfl, rfl, trivial⟩, ((((X15.stepx x46).step y (f75.dom _)).stepx xc).step y72 (f.dom _)), o70, ex71, f77, ((ex52.ext xc).but y72 d), ((ex53.ext xc).but y72 d14), (DomLe.dj dm d (ex52.ext xc)), (DomLe.dj dm d14 (ex53.ext xc))⟩
   have H := H.2 hc56
   refine W_skip ?_
   have f83 := f48.mono X15.size
   exact ⟨out, H, _, sl a12 out c13, hx8, env_eq ⟨rfl, rfl, rfl, rfl, rfl, trivial⟩, (((X15.stepx x46).step y (f83.dom _)).stepx x55), o, (((ex9.ext x46).but y (Dj.of_fresh ex9 f48).symm).ext x55), f, (ex52.ext x55), (ex53.ext x55), d, d14⟩
  rintro out16 _ wx22 ⟨H, ρ, vx17, hx18, rfl, HF⟩
  revert HF
  refine bb8 fun X29 o19 ex20 f21 ex23 ex24 d27 d28 => ?_
  subst hk
  obtain ⟨a25, c26, rfl⟩ := o19.shape
  refine W_region ?_
  refine LP_ev ok 0 [(22, I (wr (x + 1))), (10, I (wr (x + 1)))] 2 rfl rfl ?_
  exact LP_end _ rfl ⟨(out16, wr (x + 1)), ⟨H.1, _, sl a25 out16 c26, hx18, env_eq ⟨rfl, rfl, rfl, rfl, rfl, trivial⟩, X29, o19, ex20, f21, ex23, ex24, d27, d28⟩, H.2⟩
 have H := H.2 hc
 refine W_exit ?_
 refine (if_pos rfl).mpr ?_
 refine W_seq (W_region ?_)
 refine LP_ev ok 0 [(23, sl a12 out c13), (4, sl a12 out c13)] 2 rfl rfl ?_
 refine LP_end _ rfl (W_ret ?_)
 exact ⟨_, Ret_of [sl a12 out c13] ⟨⟨rfl, rfl⟩, trivial⟩, _, _, _, H, rfl, X15.ext, o, ex9, f⟩

theorem spec_eComplete_w (sx : List Variable) (l : List Edit) (fixed : List Int) (values : List Int) (Q : (List Int) → Bool → Prop) (H : spec_eComplete sx l fixed values Q) (w : World) {vx : Value} {hx : PH} (r : RS hx vx sx) (ex : Sub hx w) {vx1 : Value} {hx2 : PH} (r3 : RS hx2 vx1 l) (ex4 : Sub hx2 w) {vx7 : Value} {hx8 : PH} (r9 : RS hx8 vx7 fixed) (ex10 : Sub hx8 w) {vx13 : Value} {hx14 : PH} (r15 : RS hx14 vx13 values) (ex16 : Sub hx14 w) :
  CallsTo Try.prog 88 #[vx, vx1, vx7, vx13] w fun v w' => ∃ r0 r1 u0 g0, Q r0 r1 ∧ v = .tuple #[u0, .bool r1] ∧ Ext w w' ∧ OS 3 g0 emp u0 r0 ∧ Sub g0 w' ∧ Fresh w.heap.size g0 := by
 obtain ⟨a, c, rfl⟩ := r.shape
 obtain ⟨a5, c6, rfl⟩ := r3.shape
 obtain ⟨a11, c12, rfl⟩ := r9.shape
 obtain ⟨a17, c18, rfl⟩ := r15.shape
 refine enter (args := [sl a sx c, sl a5 l c6, sl a11 fixed c12, sl a17 values c18]) 50 Try.func88 rfl rfl rfl ?_
 refine W_forget [(0, sl a sx c), (1, sl a5 l c6), (2, sl a11 fixed c12), (3, sl a17 values c18)] ⟨rfl, rfl, rfl, rfl, trivial⟩ fun ρ => ?_
 have X := But.refl emp w
 refine W_seq (W_region ?_)
 refine LP_ev ok 0 [(8, .slice none 0 0), (9, .bool false)] 2 rfl rfl ?_
 refine LP_end _ rfl (W_seq ?_)
 refine W_seq (W_region ?_)
 refine LP_ev ok 0 [(10, I 0)] 1 rfl rfl ?_
 refine LP_end _ rfl ?_
 refine W_block ?_
 obtain ⟨J, m, Hx, H⟩ := H
 refine W_loop (S := Int) (fun s ρ' w' => J s ∧ ∃ (ρ : Env), ρ' = setAll [(0, sl a sx c), (1, sl a5 l c6), (2, sl a11 fixed c12), (3, sl a17 values c18), (10, I s)] ρ ∧ But emp w w' ∧ Sub hx w' ∧ Sub hx2 w' ∧ Sub hx8 w' ∧ Sub hx14 w') (fun s => m s) 0 ⟨Hx, _, env_eq ⟨rfl, rfl, rfl, rfl, rfl, trivial⟩, X, ex, ex4, ex10, ex16⟩ ?_
 rintro i _ wx ⟨Hi, ρ, rfl, HF⟩
 revert HF
 refine bb5 fun X23 ex19 ex20 ex21 ex22 => ?_
 have H := H i Hi
 refine W_seq ?_
 refine W_seq (W_region ?_)
 refine LP_ev ok 0 [(15, I i), (16, sl a sx c)] 2 rfl rfl ?_
 refine LP_call 2 rfl rfl rfl cal_67 rfl (spec_sCount_w _ _ H wx r ex19) ?_
 rintro _ wx25 ⟨r24, H, rfl, x⟩
 refine LP_ev ok 3 [(18, .bool (decide (i < r24)))] 4 rfl rfl ?_
 refine LP_end _ rfl ?_
 refine W_cond (decide (i < r24)) rfl (fun hc => ?_) (fun hc => ?_)
 ·have H := H.1 hc
  refine W_skip ?_
  refine W_seq ?_
  refine W_block ?_
  refine W_seq (W_region ?_)
  refine LP_ev ok 0 [(21, sl a sx c), (22, I i)] 2 rfl rfl ?_
  have ex27 := (ex19.ext x)
  refine LP_call 2 rfl rfl rfl cal_97 rfl (spec_sAt_w _ _ _ H wx25 r ex27) ?_
  rintro _ wx28 ⟨r26, vx30, hx31, H, rfl, x29, o, ex32, f⟩
  obtain ⟨a33, c34, rfl⟩ := o.shape
  refine LP_ev ok 3 [(11, sl a33 r26 c34)] 4 rfl rfl ?_
  refine LP_end _ rfl (W_seq (W_region ?_))
  refine LP_ev ok 0 [(24, sl a5 l c6), (25, sl a33 r26 c34)] 2 rfl rfl ?_
  have xc := (x.trans x29)
  have ex36 := (ex20.ext xc)
  refine LP_call 2 rfl rfl rfl cal_40 rfl (spec_eFailed_w _ _ _ H wx28 r3 ex36 o.readf ex32) ?_
  rintro _ wx37 ⟨r35, vx39, hx40, H, rfl, x38, o41, ex42, f43⟩
  obtain ⟨a44, c45, rfl⟩ := o41.shape
  refine LP_ev ok 3 [(27, I (ln r35)), (28, .bool ((ln r35) == 0)), (12, .bool ((ln r35) == 0))] 6 rfl rfl ?_
  refine LP_end _ rfl (W_seq ?_)
  refine W_seq (W_region ?_)
  refine LP_ev ok 0 [(29, sl a11 fixed c12), (30, I (ln fixed)), (31, I 0)] 3 rfl rfl ?_
  refine LP_end _ rfl ?_
  refine W_block ?_
  have xc57 := (xc.trans x38)
  obtain ⟨J54, m55, Hx56, H⟩ := H
  refine W_loop (S := Bool × Int) (fun s ρ' w' => J54 s.1 s.2 ∧ ∃ (ρ : Env), ρ' = setAll [(0, sl a sx c), (1, sl a5 l c6), (2, sl a11 fixed c12), (3, sl a17 values c18), (10, I i), (11, sl a33 r26 c34), (12, .bool s.1), (29, sl a11 fixed c12), (30, I (ln fixed)), (31, I s.2)] ρ ∧ But emp w w' ∧ Sub hx w' ∧ Sub hx2 w' ∧ Sub hx8 w' ∧ Sub hx14 w' ∧ Sub hx31 w') (fun s => m55 s.1 s.2) ((ln r35) == 0, 0) ⟨Hx56, _, env_eq ⟨rfl, rfl, rfl, rfl, rfl, rfl, rfl, rfl, rfl, rfl, trivial⟩, (X23.stepx xc57), (ex27.ext (x29.trans x38)), (ex36.ext x38), (ex21.ext xc57), (ex22.ext xc57), (ex32.ext x38)⟩ ?_
  rintro ⟨fits, x46⟩ _ wx47 ⟨Hi, ρ, rfl, HF⟩
  revert HF
  refine bb6 fun X53 ex48 ex49 ex50 ex51 ex52 => ?_
  have H := H fits x46 Hi
  refine W_seq (W_region ?_)
  refine LP_ev ok 0 [(32, .bool (decide (x46 < (ln fixed))))] 1 rfl rfl ?_
  refine LP_end _ rfl (W_seq ?_)
  refine W_cond (decide (x46 < (ln fixed))) rfl (fun hc66 => ?_) (fun hc66 => ?_)
  ·have H := H.1 hc66
   refine W_skip ?_
   obtain ⟨k, hk, H⟩ := jn_elim H
   refine W_join2 (S := Bool) (fun s ρ' w' => k s ∧ ∃ (ρ : Env), ρ' = setAll [(0, sl a sx c), (1, sl a5 l c6), (2, sl a11 fixed c12), (3, sl a17 values c18), (10, I i), (11, sl a33 r26 c34), (12, .bool s), (29, sl a11 fixed c12), (30, I (ln fixed)), (31, I x46)] ρ ∧ But emp w w' ∧ Sub hx w' ∧ Sub hx2 w' ∧ Sub hx8 w' ∧ Sub hx14 w' ∧ Sub hx31 w') ?_ ?_
   ·refine W_block ?_
    refine W_seq (W_region ?_)
    obtain ⟨x77, hi, hx78, H⟩ := H
    refine LP_index 0 rfl rfl rfl Try.underlying25 ti_3 rfl rfl r9 hi hx78 fun a79 cs r80 d => ?_
    refine LP_load 1 rfl rfl rfl ti_3 ag_3 rfl r80 d ex50 fun vx81 r82 => ?_
    obtain rfl := r82.int
    refine LP_ev ok 2 [(14, I x77)] 3 rfl rfl ?_
    refine LP_end _ rfl ?_
    refine W_quiet mix (by kernel_rfl) ?_
    refine QP_ev ok 0 [(35, .bool fits), (36, .bool fits)] 2 rfl rfl ?_
    refine QP_split 36 (fits) rfl (fun hc83 => ?_) (fun hc83 => ?_)
    ·have H := H.1 hc83
     refine QP_ev ok 2 [(37, sl a33 r26 c34), (38, I x77)] 4 rfl rfl ?_
     obtain ⟨x84, hi85, hx86, H⟩ := H
     refine QP_index 4 rfl rfl rfl Try.underlying25 ti_3 rfl rfl o.readf hi85 hx86 fun a87 cs88 r89 d90 => ?_
     refine QP_load 5 rfl rfl rfl ti_3 ag_3 rfl r89 d90 ex52 fun vx91 r92 => ?_
     obtain rfl := r92.int
     refine QP_ev ok 6 [(41, sl a17 values c18), (42, I x77)] 8 rfl rfl ?_
     obtain ⟨x93, hi94, hx95, H⟩ := H
     refine QP_index 8 rfl rfl rfl Try.underlying25 ti_3 rfl rfl r15 hi94 hx95 fun a96 cs97 r98 d99 => ?_
     refine QP_load 9 rfl rfl rfl ti_3 ag_3 rfl r98 d99 ex51 fun vx100 r101 => ?_
     obtain rfl := r101.int
     refine QP_ev ok 10 [(45, .bool (x84 == x93)), (46, .bool (x84 == x93)), (12, .bool (x84 == x93))] 13 rfl rfl ?_
     refine QP_end _ rfl fun wx102 x103 => ?_
     exact ⟨x84 == x93, H, _, env_eq ⟨rfl, rfl, rfl, rfl, rfl, rfl, rfl, rfl, rfl, rfl, trivial⟩, (X53.stepx x103), (ex48.ext x103), (ex49.ext x103), (ex50.ext x103), (ex51.ext x103), (ex52.ext x103)⟩
    have H := H.2 hc83
    refine QP_ev ok 2 [(37, undef), (38, undef), (39, undef), (40, undef), (41, undef), (42, undef), (43, undef), (44, undef), (45, undef), (46, .bool false), (12, .bool false)] 13 rfl rfl ?_
    refine QP_end _ rfl fun wx110 x111 => ?_
    exact ⟨false, H, _, env_eq ⟨rfl, rfl, rfl, rfl, rfl, rfl, rfl, rfl, rfl, rfl, trivial⟩, (X53.stepx x111), (ex48.ext x111), (ex49.ext x111), (ex50.ext x111), (ex51.ext x111), (ex52.ext x111)⟩
   rintro fits69 _ wx70 ⟨H, ρ, rfl, HF⟩
   revert HF
   refine bb6 fun X76 ex71 ex72 ex73 ex74 ex75 => ?_
   subst hk
   refine W_region ?_
   refine LP_ev ok 0 [(47, I (wr (x46 + 1))), (31, I (wr (x46 + 1)))] 2 rfl rfl ?_
   exact LP_end _ rfl ⟨(fits69, wr (x46 + 1)), ⟨H.1, _, env_eq ⟨rfl, rfl, rfl, rfl, rfl, rfl, rfl, rfl, rfl, rfl, trivial⟩, X76, ex71, ex72, ex73, ex74, ex75⟩, H.2⟩
  have H := H.2 hc66
  refine W_exit ?_
  refine (if_pos rfl).mpr ?_
  refine W_seq (W_region ?_)
  refine LP_ev ok 0 [(48, .bool fits)] 1 rfl rfl ?_
  refine LP_end _ rfl ?_
  refine W_cond (fits) rfl (fun hc118 => ?_) (fun hc118 => ?_)
  ·have H := H.1 hc118
   refine W_seq (W_region ?_)
   refine LP_ev ok 0 [(49, sl a33 r26 c34), (8, sl a33 r26 c34), (9, .bool true)] 3 rfl rfl ?_
   refine LP_end _ rfl (W_ret ?_)
   have f119 := f.mono (X23.stepx x).size
   exact ⟨_, Ret_of [sl a33 r26 c34, .bool true] ⟨⟨rfl, rfl⟩, ⟨rfl, rfl⟩, trivial⟩, _, _, _, _, H, rfl, X53.ext, o, ex52, f119⟩
  have H := H.2 hc118
  refine W_skip ?_
  refine W_region ?_
  refine LP_ev ok 0 [(19, I i), (20, I (wr (i + 1))), (10, I (wr (i + 1)))] 3 rfl rfl ?_
  exact LP_end _ rfl ⟨wr (i + 1), ⟨H.1, _, env_eq ⟨rfl, rfl, rfl, rfl, rfl, trivial⟩, X53, ex48, ex49, ex50, ex51⟩, H.2⟩
 have H := H.2 hc
 refine W_exit ?_
 refine (if_pos rfl).mpr ?_
 refine W_seq (W_region ?_)
 refine LP_ev ok 0 [(8, .slice none 0 0), (9, .bool false)] 2 rfl rfl ?_
 refine LP_end _ rfl (W_ret ?_)
 exact ⟨_, Ret_of [.slice none 0 0, .bool false] ⟨⟨rfl, rfl⟩, ⟨rfl, rfl⟩, trivial⟩, _, _, _, emp, H, rfl, (X23.stepx x).ext, OS.nil, (emp_sub _), (emp_fresh _)⟩

theorem spec_l1Sign_w (n : Int) (Q : Int → Prop) (H : spec_l1Sign n Q) (w : World)  :
  CallsTo Try.prog 119 #[I n] w fun v w' => ∃ r0, Q r0 ∧ v = I r0 ∧ Ext w w' := by
 refine enter (args := [I n]) 9 Try.func119 rfl rfl rfl ?_
 refine W_forget [(0, I n)] ⟨rfl, trivial⟩ fun ρ => ?_
 have X := But.refl emp w
 refine W_seq (W_region ?_)
 refine LP_ev ok 0 [(2, I 0)] 1 rfl rfl ?_
 refine LP_end _ rfl (W_seq ?_)
 refine W_block ?_
 refine W_seq (W_region ?_)
 refine LP_ev ok 0 [(4, I n), (5, .bool (decide (n < 0))), (3, .bool (decide (n < 0)))] 3 rfl rfl ?_
 refine LP_end _ rfl ?_
 refine W_cond (decide (n < 0)) rfl (fun hc => ?_) (fun hc => ?_)
 ·have H := H.1 hc
  refine W_seq (W_region ?_)
  refine LP_ev ok 0 [(2, I ((-1)))] 1 rfl rfl ?_
  refine LP_end _ rfl (W_ret ?_)
  exact ⟨_, Ret_of [I ((-1))] ⟨⟨rfl, rfl⟩, trivial⟩, _, H, rfl, X.ext⟩
 have H := H.2 hc
 refine W_seq (W_region ?_)
 refine LP_ev ok 0 [(7, I n), (8, .bool (decide (n > 0))), (6, .bool (decide (n > 0)))] 3 rfl rfl ?_
 refine LP_end _ rfl ?_
 refine W_cond (decide (n > 0)) rfl (fun hc1 => ?_) (fun hc1 => ?_)
 ·have H := H.1 hc1
  refine W_seq (W_region ?_)
  refine LP_ev ok 0 [(2, I 1)] 1 rfl rfl ?_
  refine LP_end _ rfl (W_ret ?_)
  exact ⟨_, Ret_of [I 1] ⟨⟨rfl, rfl⟩, trivial⟩, _, H, rfl, X.ext⟩
 have H := H.2 hc1
 refine W_skip ?_
 refine W_seq (W_region ?_)
 refine LP_ev ok 0 [(2, I 0)] 1 rfl rfl ?_
 refine LP_end _ rfl (W_ret ?_)
 exact ⟨_, Ret_of [I 0] ⟨⟨rfl, rfl⟩, trivial⟩, _, H, rfl, X.ext⟩

theorem spec_l1Less_w (a : List Int) (b : List Int) (Q : Int → Prop) (H : spec_l1Less a b Q) (w : World) {vx : Value} {hx : PH} (r : RS hx vx a) (ex : Sub hx w) {vx2 : Value} {hx3 : PH} (r4 : RS hx3 vx2 b) (ex5 : Sub hx3 w) :
  CallsTo Try.prog 95 #[vx, vx2] w fun v w' => ∃ r0, Q r0 ∧ v = I r0 ∧ Ext w w' := by
 obtain ⟨a1, c, rfl⟩ := r.shape
 obtain ⟨a6, c7, rfl⟩ := r4.shape
 refine enter (args := [sl a1 a c, sl a6 b c7]) 42 Try.func95 rfl rfl rfl ?_
 refine W_forget [(0, sl a1 a c), (1, sl a6 b c7)] ⟨rfl, rfl, trivial⟩ fun ρ => ?_
 have X := But.refl emp w
 refine W_seq (W_region ?_)
 refine LP_ev ok 0 [(4, I 0)] 1 rfl rfl ?_
 refine LP_end _ rfl (W_seq ?_)
 refine W_seq (W_region ?_)
 refine LP_ev ok 0 [(5, I 0)] 1 rfl rfl ?_
 refine LP_end _ rfl ?_
 refine W_block ?_
 obtain ⟨J, m, Hx, H⟩ := H
 refine W_loop (S := Int) (fun s ρ' w' => J s ∧ ∃ (ρ : Env), ρ' = setAll [(0, sl a1 a c), (1, sl a6 b c7), (5, I s)] ρ ∧ But emp w w' ∧ Sub hx w' ∧ Sub hx3 w') (fun s => m s) 0 ⟨Hx, _, env_eq ⟨rfl, rfl, rfl, trivial⟩, X, ex, ex5⟩ ?_
 rintro i _ wx ⟨Hi, ρ, rfl, X10, ex8, ex9⟩
 have H := H i Hi
 refine W_seq ?_
 obtain ⟨k, hk, H⟩ := jn_elim H
 refine W_join2 (S := Bool) (fun s ρ' w' => k s ∧ ∃ (ρ : Env), ρ' = setAll [(0, sl a1 a c), (1, sl a6 b c7), (5, I i), (15, .bool s)] ρ ∧ wx = w') ?_ ?_
 ·refine W_region ?_
  refine LP_ev ok 0 [(6, I i), (7, sl a1 a c), (8, I (ln a)), (9, .bool (decide (i < (ln a)))), (10, .bool (decide (i < (ln a))))] 5 rfl rfl ?_
  refine LP_split 10 (decide (i < (ln a))) rfl (fun hc => ?_) (fun hc => ?_)
  ·have H := H.1 hc
   refine LP_ev ok 5 [(11, I i), (12, sl a6 b c7), (13, I (ln b)), (14, .bool (decide (i < (ln b)))), (15, .bool (decide (i < (ln b))))] 10 rfl rfl ?_
   exact LP_end _ rfl ⟨decide (i < (ln b)), H, _, env_eq ⟨rfl, rfl, rfl, rfl, trivial⟩, rfl⟩
  have H := H.2 hc
  refine LP_ev ok 5 [(11, undef), (12, undef), (13, undef), (14, undef), (15, .bool false)] 10 rfl rfl ?_
  exact LP_end _ rfl ⟨false, H, _, env_eq ⟨rfl, rfl, rfl, rfl, trivial⟩, rfl⟩
 rintro x _ _ ⟨H, ρ, rfl, rfl⟩
 subst hk
 refine W_cond (x) rfl (fun hc12 => ?_) (fun hc12 => ?_)
 ·have H := H.1 hc12
  refine W_skip ?_
  refine W_seq ?_
  refine W_block ?_
  refine W_seq ?_
  refine W_quiet mix (by kernel_rfl) ?_
  refine QP_ev ok 0 [(18, sl a1 a c), (19, I i)] 2 rfl rfl ?_
  obtain ⟨x13, hi, hx14, H⟩ := H
  refine QP_index 2 rfl rfl rfl Try.underlying25 ti_3 rfl rfl r hi hx14 fun a15 cs r16 d => ?_
  refine QP_load 3 rfl rfl rfl ti_3 ag_3 rfl r16 d ex8 fun vx17 r18 => ?_
  obtain rfl := r18.int
  refine QP_ev ok 4 [(22, sl a6 b c7), (23, I i)] 6 rfl rfl ?_
  obtain ⟨x19, hi20, hx21, H⟩ := H
  refine QP_index 6 rfl rfl rfl Try.underlying25 ti_3 rfl rfl r4 hi20 hx21 fun a22 cs23 r24 d25 => ?_
  refine QP_load 7 rfl rfl rfl ti_3 ag_3 rfl r24 d25 ex9 fun vx26 r27 => ?_
  obtain rfl := r27.int
  refine QP_ev ok 8 [(26, .bool (x13 != x19))] 9 rfl rfl ?_
  refine QP_end _ rfl fun wx28 x29 => ?_
  refine W_cond (x13 != x19) rfl (fun hc30 => ?_) (fun hc30 => ?_)
  ·have H := H.1 hc30
   refine W_seq ?_
   refine W_seq ?_
   refine W_quiet mix (by kernel_rfl) ?_
   refine QP_ev ok 0 [(27, sl a1 a c), (28, I i)] 2 rfl rfl ?_
   obtain ⟨x31, hi32, hx33, H⟩ := H
   refine QP_index 2 rfl rfl rfl Try.underlying25 ti_3 rfl rfl r hi32 hx33 fun a34 cs35 r36 d37 => ?_
   refine QP_load 3 rfl rfl rfl ti_3 ag_3 rfl r36 d37 (ex8.ext x29) fun vx39 r40 => ?_
   obtain rfl := r40.int
   refine QP_ev ok 4 [(31, sl a6 b c7), (32, I i)] 6 rfl rfl ?_
   obtain ⟨x41, hi42, hx43, H⟩ := H
   refine QP_index 6 rfl rfl rfl Try.underlying25 ti_3 rfl rfl r4 hi42 hx43 fun a44 cs45 r46 d47 => ?_
   refine QP_load 7 rfl rfl rfl ti_3 ag_3 rfl r46 d47 (ex9.ext x29) fun vx49 r50 => ?_
   obtain rfl := r50.int
   refine QP_ev ok 8 [(35, .bool (decide (x31 < x41)))] 9 rfl rfl ?_
   refine QP_end _ rfl fun wx51 x52 => ?_
   refine W_cond (decide (x31 < x41)) rfl (fun hc53 => ?_) (fun hc53 => ?_)
   ·have H := H.1 hc53
    refine W_seq (W_region ?_)
    refine LP_ev ok 0 [(4, I ((-1)))] 1 rfl rfl ?_
    refine LP_end _ rfl (W_ret ?_)
    exact ⟨_, Ret_of [I ((-1))] ⟨⟨rfl, rfl⟩, trivial⟩, _, H, rfl, (X10.stepx (x29.trans x52)).ext⟩
   have H := H.2 hc53
   refine W_skip ?_
   refine W_seq (W_region ?_)
   refine LP_ev ok 0 [(4, I 1)] 1 rfl rfl ?_
   refine LP_end _ rfl (W_ret ?_)
   exact ⟨_, Ret_of [I 1] ⟨⟨rfl, rfl⟩, trivial⟩, _, H, rfl, (X10.stepx (x29.trans x52)).ext⟩
  have H := H.2 hc30
  refine W_skip ?_
  refine W_region ?_
  refine LP_ev ok 0 [(16, I i), (17, I (wr (i + 1))), (5, I (wr (i + 1)))] 3 rfl rfl ?_
  exact LP_end _ rfl ⟨wr (i + 1), ⟨H.1, _, env_eq ⟨rfl, rfl, rfl, trivial⟩, (X10.stepx x29), (ex8.ext x29), (ex9.ext x29)⟩, H.2⟩
 have H := H.2 hc12
 refine W_exit ?_
 refine (if_pos rfl).mpr ?_
 refine W_seq (W_region ?_)
 refine LP_ev ok 0 [(36, sl a1 a c), (37, I (ln a)), (38, sl a6 b c7), (39, I (ln b)), (40, I (wr ((ln a) - (ln b))))] 5 rfl rfl ?_
 refine LP_call 5 rfl rfl rfl cal_119 rfl (spec_l1Sign_w _ _ H wx ) ?_
 rintro _ wx61 ⟨r60, H, rfl, x62⟩
 refine LP_ev ok 6 [(4, I r60)] 7 rfl rfl ?_
 refine LP_end _ rfl (W_ret ?_)
 exact ⟨_, Ret_of [I r60] ⟨⟨rfl, rfl⟩, trivial⟩, _, H, rfl, (X10.stepx x62).ext⟩

theorem spec_iCheapest_w (sx : List Variable) (l : List Edit) (wx : List Int) (values : List Int) (Q : (List Int) → Int → Bool → Prop) (H : spec_iCheapest sx l wx values Q) (w : World) {vx : Value} {hx : PH} (r : RS hx vx sx) (ex : Sub hx w) {vx1 : Value} {hx2 : PH} (r3 : RS hx2 vx1 l) (ex4 : Sub hx2 w) {vx7 : Value} {hx8 : PH} (r9 : RS hx8 vx7 wx) (ex10 : Sub hx8 w) {vx13 : Value} {hx14 : PH} (r15 : RS hx14 vx13 values) (ex16 : Sub hx14 w) :
  CallsTo Try.prog 52 #[vx, vx1, vx7, vx13] w fun v w' => ∃ r0 r1 r2 u0 g0, Q r0 r1 r2 ∧ v = .tuple #[u0, I r1, .bool r2] ∧ Ext w w' ∧ OS 3 g0 emp u0 r0 ∧ Sub g0 w' ∧ Fresh w.heap.size g0 := by
 obtain ⟨a, c, rfl⟩ := r.shape
 obtain ⟨a5, c6, rfl⟩ := r3.shape
 obtain ⟨a11, c12, rfl⟩ := r9.shape
 obtain ⟨a17, c18, rfl⟩ := r15.shape
 refine enter (args := [sl a sx c, sl a5 l c6, sl a11 wx c12, sl a17 values c18]) 79 Try.func52 rfl rfl rfl ?_
 refine W_forget [(0, sl a sx c), (1, sl a5 l c6), (2, sl a11 wx c12), (3, sl a17 values c18)] ⟨rfl, rfl, rfl, rfl, trivial⟩ fun ρ => ?_
 have X := But.refl emp w
 refine W_seq (W_region ?_)
 refine LP_ev ok 0 [(8, .slice none 0 0), (9, I 0), (10, .bool false)] 3 rfl rfl ?_
 refine LP_end _ rfl (W_seq (W_region ?_))
 refine LP_ev ok 0 [(11, .slice none 0 0)] 1 rfl rfl ?_
 refine LP_end _ rfl (W_seq (W_region ?_))
 refine LP_ev ok 0 [(12, I 0), (13, .bool false)] 2 rfl rfl ?_
 refine LP_end _ rfl (W_seq ?_)
 refine W_seq (W_region ?_)
 refine LP_ev ok 0 [(14, I 0)] 1 rfl rfl ?_
 refine LP_end _ rfl ?_
 refine W_block ?_
 obtain ⟨J, m, Hx, H⟩ := H
 refine W_loop (S := (List Int) × Int × Bool × Int) (fun s ρ' w' => J s.1 s.2.1 s.2.2.1 s.2.2.2 ∧ ∃ (ρ : Env) (vx19 : Value) (hx20 : PH), ρ' = setAll [(0, sl a sx c), (1, sl a5 l c6), (2, sl a11 wx c12), (3, sl a17 values c18), (11, vx19), (12, I s.2.1), (13, .bool s.2.2.1), (14, I s.2.2.2)] ρ ∧ But emp w w' ∧ OS 3 hx20 emp vx19 s.1 ∧ Sub hx20 w' ∧ Fresh w.heap.size hx20 ∧ Sub hx w' ∧ Sub hx2 w' ∧ Sub hx8 w' ∧ Sub hx14 w' ∧ Dj hx20 hx ∧ Dj hx20 hx2 ∧ Dj hx20 hx8 ∧ Dj hx20 hx14) (fun s => m s.1 s.2.1 s.2.2.1 s.2.2.2) ([], 0, false, 0) ⟨Hx, _, .slice none 0 0, emp, env_eq ⟨rfl, rfl, rfl, rfl, rfl, rfl, rfl, rfl, trivial⟩, X, OS.nil, (emp_sub _), (emp_fresh _), ex, ex4, ex10, ex16, (fun _ => .inl rfl), (fun _ => .inl rfl), (fun _ => .inl rfl), (fun _ => .inl rfl)⟩ ?_
 rintro ⟨best, cost, found, mask⟩ _ wx22 ⟨Hi, ρ, vx19, hx20, rfl, HF⟩
 revert HF
 refine bb9 fun X32 o ex21 f ex23 ex24 ex25 ex26 => ?_
 refine bb4 fun d d29 d30 d31 => ?_
 have H := H best cost found mask Hi
 obtain ⟨a27, c28, rfl⟩ := o.shape
 refine W_seq ?_
 refine W_seq (W_region ?_)
 refine LP_ev ok 0 [(19, I mask), (20, sl a sx c), (21, I (ln sx)), (22, .int .u64 (IntKind.u64.wrap (ln sx)))] 4 rfl rfl ?_
 obtain ⟨hz, H⟩ := H
 refine LP_val 4 _ rfl rfl (ex_shl rfl rfl rfl hz _) ?_
 refine LP_ev ok 5 [(24, .bool (decide (mask < (shl .i64 1 (IntKind.u64.wrap (ln sx))))))] 6 rfl rfl ?_
 refine LP_end _ rfl ?_
 refine W_cond (decide (mask < (shl .i64 1 (IntKind.u64.wrap (ln sx))))) rfl (fun hc => ?_) (fun hc => ?_)
 ·have H := H.1 hc
  refine W_skip ?_
  obtain ⟨k, hk, H⟩ := jn_elim H
  refine W_join2 (S := (List Int) × Int × Bool) (fun s ρ' w' => k s.1 s.2.1 s.2.2 ∧ ∃ (ρ : Env) (vx34 : Value) (hx35 : PH), ρ' = setAll [(0, sl a sx c), (1, sl a5 l c6), (2, sl a11 wx c12), (3, sl a17 values c18), (11, vx34), (12, I s.2.1), (13, .bool s.2.2), (14, I mask)] ρ ∧ But emp w w' ∧ OS 3 hx35 emp vx34 s.1 ∧ Sub hx35 w' ∧ Fresh w.heap.size hx35 ∧ Sub hx w' ∧ Sub hx2 w' ∧ Sub hx8 w' ∧ Sub hx14 w' ∧ Dj hx35 hx ∧ Dj hx35 hx2 ∧ Dj hx35 hx8 ∧ Dj hx35 hx14) ?_ ?_
  ·refine W_block ?_
   refine W_seq (W_region ?_)
   refine LP_ev ok 0 [(27, I mask)] 1 rfl rfl ?_
   refine LP_call 1 rfl rfl rfl cal_93 rfl (spec_iBits_w _ _ H wx22 ) ?_
   rintro _ wx54 ⟨r53, vx55, hx56, H, rfl, x, o57, ex58, f59⟩
   obtain ⟨a60, c61, rfl⟩ := o57.shape
   refine LP_ev ok 2 [(15, sl a60 r53 c61)] 3 rfl rfl ?_
   refine LP_end _ rfl (W_seq (W_region ?_))
   refine LP_ev ok 0 [(29, sl a11 wx c12), (30, sl a60 r53 c61)] 2 rfl rfl ?_
   have ex63 := (ex25.ext x)
   refine LP_call 2 rfl rfl rfl cal_94 rfl (spec_iSum_w _ _ _ H wx54 r9 ex63 o57.readf ex58) ?_
   rintro _ wx64 ⟨r62, H, rfl, x65⟩
   refine LP_ev ok 3 [(16, I r62)] 4 rfl rfl ?_
   refine LP_end _ rfl (W_seq ?_)
   have xc := (x.trans x65)
   have X66 := (X32.stepx xc)
   have ex67 := (ex23.ext xc)
   have ex68 := (ex24.ext xc)
   have ex69 := (ex63.ext x65)
   have ex70 := (ex26.ext xc)
   have ex71 := (ex21.ext xc)
   have ex72 := (ex58.ext x65)
   have f73 := f59.mono X32.size
   obtain ⟨k83, hk84, H⟩ := jn_elim H
   refine W_join2 (S := Bool) (fun s ρ' w' => k83 s ∧ ∃ (ρ : Env), ρ' = setAll [(0, sl a sx c), (1, sl a5 l c6), (2, sl a11 wx c12), (3, sl a17 values c18), (11, sl a27 best c28), (12, I cost), (13, .bool found), (14, I mask), (15, sl a60 r53 c61), (16, I r62), (62, .bool s)] ρ ∧ But emp w w' ∧ Sub hx w' ∧ Sub hx2 w' ∧ Sub hx8 w' ∧ Sub hx14 w' ∧ Sub hx20 w' ∧ Sub hx56 w') ?_ ?_
   ·refine W_region ?_
    refine LP_ev ok 0 [(32, .bool found), (33, .bool found)] 2 rfl rfl ?_
    refine LP_split 33 (found) rfl (fun hc85 => ?_) (fun hc85 => ?_)
    ·have H := H.1 hc85
     refine LP_ev ok 2 [(34, I r62), (35, I cost), (36, .bool (decide (r62 > cost))), (37, .bool (decide (r62 > cost)))] 6 rfl rfl ?_
     refine LP_split 37 (decide (r62 > cost)) rfl (fun hc86 => ?_) (fun hc86 => ?_)
     ·have H := H.1 hc86
      refine LP_ev ok 6 [(38, undef), (39, undef), (40, undef), (41, undef), (42, undef), (43, undef), (44, undef), (45, undef), (46, undef), (47, undef), (48, undef), (49, undef), (50, undef), (51, undef), (52, undef), (53, undef), (54, undef), (55, undef), (56, undef), (57, undef), (58, undef), (59, undef), (60, undef), (61, .bool true), (62, .bool true)] 31 rfl rfl ?_
      refine LP_end _ rfl ?_
      try refine W_forget [(0, sl a sx c), (1, sl a5 l c6), (2, sl a11 wx c12), (3, sl a17 values c18), (11, sl a27 best c28), (12, I cost), (13, .bool found), (14, I mask), (15, sl a60 r53 c61), (16, I r62), (34, I r62), (35, I cost), (36, .bool (decide (r62 > cost))), (37, .bool true), (61, .bool true), (62, .bool true)] ⟨rfl, rfl, rfl, rfl, rfl, rfl, rfl, rfl, rfl, rfl, rfl, rfl, rfl, rfl, rfl, rfl, trivial⟩ fun ρ => ?_
      exact ⟨true, H, _, env_eq ⟨rfl, rfl, rfl, rfl, rfl, rfl, rfl, rfl, rfl, rfl, rfl, trivial⟩, X66, ex67, ex68, ex69, ex70, ex71, ex72⟩
     have H := H.2 hc86
     refine LP_ev ok 6 [(38, I r62), (39, I cost), (40, .bool (r62 == cost)), (41, .bool (r62 == cost))] 10 rfl rfl ?_
     refine LP_split 41 (r62 == cost) rfl (fun hc87 => ?_) (fun hc87 => ?_)
     ·have H := H.1 hc87
      refine LP_ev ok 10 [(42, sl a60 r53 c61), (43, I (ln r53)), (44, sl a27 best c28), (45, I (ln best)), (46, .bool (decide ((ln r53) > (ln best)))), (47, .bool (decide ((ln r53) > (ln best))))] 16 rfl rfl ?_
      refine LP_split 47 (decide ((ln r53) > (ln best))) rfl (fun hc88 => ?_) (fun hc88 => ?_)
      ·have H := H.1 hc88
       refine LP_ev ok 16 [(48, undef), (49, undef), (50, undef), (51, undef), (52, undef), (53, undef), (54, undef), (55, undef), (56, undef), (57, undef), (58, undef), (59, .bool true), (60, .bool true), (61, .bool true), (62, .bool true)] 31 rfl rfl ?_
       refine LP_end _ rfl ?_
       try refine W_forget [(0, sl a sx c), (1, sl a5 l c6), (2, sl a11 wx c12), (3, sl a17 values c18), (11, sl a27 best c28), (12, I cost), (13, .bool found), (14, I mask), (15, sl a60 r53 c61), (16, I r62), (34, I r62), (35, I cost), (36, .bool (decide (r62 > cost))), (37, .bool false), (38, I r62), (39, I cost), (40, .bool (r62 == cost)), (41, .bool true), (42, sl a60 r53 c61), (43, I (ln r53)), (44, sl a27 best c28), (45, I (ln best)), (46, .bool (decide ((ln r53) > (ln best)))), (47, .bool true), (59, .bool true), (60, .bool true), (61, .bool true), (62, .bool true)] ⟨rfl, rfl, rfl, rfl, rfl, rfl, rfl, rfl, rfl, rfl, rfl, rfl, rfl, rfl, rfl, rfl, rfl, rfl, rfl, rfl, rfl, rfl, rfl, rfl, rfl, rfl, rfl, rfl, trivial⟩ fun ρ => ?_
       exact ⟨true, H, _, env_eq ⟨rfl, rfl, rfl, rfl, rfl, rfl, rfl, rfl, rfl, rfl, rfl, trivial⟩, X66, ex67, ex68, ex69, ex70, ex71, ex72⟩
      have H := H.2 hc88
      refine LP_ev ok 16 [(48, sl a60 r53 c61), (49, I (ln r53)), (50, sl a27 best c28), (51, I (ln best)), (52, .bool ((ln r53) == (ln best))), (53, .bool ((ln r53) == (ln best)))] 22 rfl rfl ?_
      refine LP_split 53 ((ln r53) == (ln best)) rfl (fun hc89 => ?_) (fun hc89 => ?_)
      ·have H := H.1 hc89
       refine LP_ev ok 22 [(54, sl a60 r53 c61), (55, sl a27 best c28)] 24 rfl rfl ?_
       refine LP_call 24 rfl rfl rfl cal_95 rfl (spec_l1Less_w _ _ _ H wx64 o57.readf ex72 o.readf ex71) ?_
       rintro _ wx91 ⟨r90, H, rfl, x92⟩
       refine LP_ev ok 25 [(57, .bool (decide (r90 ≥ 0))), (58, .bool (decide (r90 ≥ 0))), (59, .bool (decide (r90 ≥ 0))), (60, .bool (decide (r90 ≥ 0))), (61, .bool (decide (r90 ≥ 0))), (62, .bool (decide (r90 ≥ 0)))] 31 rfl rfl ?_
       refine LP_end _ rfl ?_
       try refine W_forget [(0, sl a sx c), (1, sl a5 l c6), (2, sl a11 wx c12), (3, sl a17 values c18), (11, sl a27 best c28), (12, I cost), (13, .bool found), (14, I mask), (15, sl a60 r53 c61), (16, I r62), (34, I r62), (35, I cost), (36, .bool (decide (r62 > cost))), (37, .bool false), (38, I r62), (39, I cost), (40, .bool (r62 == cost)), (41, .bool true), (42, sl a60 r53 c61), (43, I (ln r53)), (44, sl a27 best c28), (45, I (ln best)), (46, .bool (decide ((ln r53) > (ln best)))), (47, .bool false), (48, sl a60 r53 c61), (49, I (ln r53)), (50, sl a27 best c28), (51, I (ln best)), (52, .bool ((ln r53) == (ln best))), (53, .bool true), (54, sl a60 r53 c61), (55, sl a27 best c28), (56, I r90), (57, .bool (decide (r90 ≥ 0))), (58, .bool (decide (r90 ≥ 0))), (59, .bool (decide (r90 ≥ 0))), (60, .bool (decide (r90 ≥ 0))), (61, .bool (decide (r90 ≥ 0))), (62, .bool (decide (r90 ≥ 0)))] ⟨rfl, rfl, rfl, rfl, rfl, rfl, rfl, rfl, rfl, rfl, rfl, rfl, rfl, rfl, rfl, rfl, rfl, rfl, rfl, rfl, rfl, rfl, rfl, rfl, rfl, rfl, rfl, rfl, rfl, rfl, rfl, rfl, rfl, rfl, rfl, rfl, rfl, rfl, rfl, trivial⟩ fun ρ => ?_
       exact ⟨decide (r90 ≥ 0), H, _, env_eq ⟨rfl, rfl, rfl, rfl, rfl, rfl, rfl, rfl, rfl, rfl, rfl, trivial⟩, (X66.stepx x92), (ex67.ext x92), (ex68.ext x92), (ex69.ext x92), (ex70.ext x92), (ex71.ext x92), (ex72.ext x92)⟩
      have H := H.2 hc89
      refine LP_ev ok 22 [(54, undef), (55, undef), (56, undef), (57, undef), (58, .bool false), (59, .bool false), (60, .bool false), (61, .bool false), (62, .bool false)] 31 rfl rfl ?_
      refine LP_end _ rfl ?_
      try refine W_forget [(0, sl a sx c), (1, sl a5 l c6), (2, sl a11 wx c12), (3, sl a17 values c18), (11, sl a27 best c28), (12, I cost), (13, .bool found), (14, I mask), (15, sl a60 r53 c61), (16, I r62), (34, I r62), (35, I cost), (36, .bool (decide (r62 > cost))), (37, .bool false), (38, I r62), (39, I cost), (40, .bool (r62 == cost)), (41, .bool true), (42, sl a60 r53 c61), (43, I (ln r53)), (44, sl a27 best c28), (45, I (ln best)), (46, .bool (decide ((ln r53) > (ln best)))), (47, .bool false), (48, sl a60 r53 c61), (49, I (ln r53)), (50, sl a27 best c28), (51, I (ln best)), (52, .bool ((ln r53) == (ln best))), (53, .bool false), (58, .bool false), (59, .bool false), (60, .bool false), (61, .bool false), (62, .bool false)] ⟨rfl, rfl, rfl, rfl, rfl, rfl, rfl, rfl, rfl, rfl, rfl, rfl, rfl, rfl, rfl, rfl, rfl, rfl, rfl, rfl, rfl, rfl, rfl, rfl, rfl, rfl, rfl, rfl, rfl, rfl, rfl, rfl, rfl, rfl, rfl, trivial⟩ fun ρ => ?_
      exact ⟨false, H, _, env_eq ⟨rfl, rfl, rfl, rfl, rfl, rfl, rfl, rfl, rfl, rfl, rfl, trivial⟩, X66, ex67, ex68, ex69, ex70, ex71, ex72⟩
     have H := H.2 hc87
     refine LP_ev ok 10 [(42, undef), (43, undef), (44, undef), (45, undef), (46, undef), (47, undef), (48, undef), (49, undef), (50, undef), (51, undef), (52, undef), (53, undef), (54, undef), (55, undef), (56, undef), (57, undef), (58, undef), (59, undef), (60, .bool false), (61, .bool false), (62, .bool false)] 31 rfl rfl ?_
     refine LP_end _ rfl ?_
     try refine W_forget [(0, sl a sx c), (1, sl a5 l c6), (2, sl a11 wx c12), (3, sl a17 values c18), (11, sl a27 best c28), (12, I cost), (13, .bool found), (14, I mask), (15, sl a60 r53 c61), (16, I r62), (34, I r62), (35, I cost), (36, .bool (decide (r62 > cost))), (37, .bool false), (38, I r62), (39, I cost), (40, .bool (r62 == cost)), (41, .bool false), (60, .bool false), (61, .bool false), (62, .bool false)] ⟨rfl, rfl, rfl, rfl, rfl, rfl, rfl, rfl, rfl, rfl, rfl, rfl, rfl, rfl, rfl, rfl, rfl, rfl, rfl, rfl, rfl, trivial⟩ fun ρ => ?_
     exact ⟨false, H, _, env_eq ⟨rfl, rfl, rfl, rfl, rfl, rfl, rfl, rfl, rfl, rfl, rfl, trivial⟩, X66, ex67, ex68, ex69, ex70, ex71, ex72⟩
    have H := H.2 hc85
    refine LP_ev ok 2 [(34, undef), (35, undef), (36, undef), (37, undef), (38, undef), (39, undef), (40, undef), (41, undef), (42, undef), (43, undef), (44, undef), (45, undef), (46, undef), (47, undef), (48, undef), (49, undef), (50, undef), (51, undef), (52, undef), (53, undef), (54, undef), (55, undef), (56, undef), (57, undef), (58, undef), (59, undef), (60, undef), (61, undef), (62, .bool false)] 31 rfl rfl ?_
    refine LP_end _ rfl ?_
    try refine W_forget [(0, sl a sx c), (1, sl a5 l c6), (2, sl a11 wx c12), (3, sl a17 values c18), (11, sl a27 best c28), (12, I cost), (13, .bool found), (14, I mask), (15, sl a60 r53 c61), (16, I r62), (62, .bool false)] ⟨rfl, rfl, rfl, rfl, rfl, rfl, rfl, rfl, rfl, rfl, rfl, trivial⟩ fun ρ => ?_
    exact ⟨false, H, _, env_eq ⟨rfl, rfl, rfl, rfl, rfl, rfl, rfl, rfl, rfl, rfl, rfl, trivial⟩, X66, ex67, ex68, ex69, ex70, ex71, ex72⟩
   rintro x74 _ wx75 ⟨H, ρ, rfl, HF⟩
   revert HF
   refine bb7 fun X82 ex76 ex77 ex78 ex79 ex80 ex81 => ?_
   subst hk84
   refine W_cond (x74) rfl (fun hc100 => ?_) (fun hc100 => ?_)
   ·have H := H.1 hc100
    refine W_exit ?_
    refine (if_pos rfl).mpr ?_
    exact ⟨(best, cost, found), H, _, sl a27 best c28, hx20, env_eq ⟨rfl, rfl, rfl, rfl, rfl, rfl, rfl, rfl, trivial⟩, X82, o, ex80, f, ex76, ex77, ex78, ex79, d, d29, d30, d31⟩
   have H := H.2 hc100
   refine W_skip ?_
   refine W_seq (W_region ?_)
   refine LP_ev ok 0 [(64, sl a sx c), (65, sl a5 l c6), (66, sl a sx c), (67, sl a60 r53 c61)] 4 rfl rfl ?_
   refine LP_call 4 rfl rfl rfl cal_89 rfl (spec_iOthers_w _ _ _ H wx75 r ex76 o57.readf ex81) ?_
   rintro _ wx102 ⟨r101, vx104, hx105, H, rfl, x103, o106, ex107, f108⟩
   obtain ⟨a109, c110, rfl⟩ := o106.shape
   refine LP_ev ok 5 [(69, sl a17 values c18)] 6 rfl rfl ?_
   have ex113 := (ex76.ext x103)
   have ex114 := (ex77.ext x103)
   have ex115 := (ex79.ext x103)
   refine LP_call 6 rfl rfl rfl cal_88 rfl (spec_eComplete_w _ _ _ _ _ H wx102 r ex113 r3 ex114 o106.readf ex107 r15 ex115) ?_
   rintro _ wx116 ⟨r111, r112, vx118, hx119, H, rfl, x117, o120, ex121, f122⟩
   obtain ⟨a123, c124, rfl⟩ := o120.shape
   refine LP_ev ok 7 [(63, .tuple #[sl a123 r111 c124, .bool r112]), (71, sl a123 r111 c124), (72, .bool r112), (17, sl a123 r111 c124), (18, .bool r112)] 12 rfl rfl ?_
   refine LP_end _ rfl (W_seq (W_region ?_))
   refine LP_ev ok 0 [(73, .bool r112)] 1 rfl rfl ?_
   refine LP_end _ rfl ?_
   refine W_cond (r112) rfl (fun hc125 => ?_) (fun hc125 => ?_)
   ·have H := H.1 hc125
    refine W_seq (W_region ?_)
    refine LP_ev ok 0 [(74, sl a60 r53 c61), (11, sl a60 r53 c61)] 2 rfl rfl ?_
    refine LP_end _ rfl (W_seq (W_region ?_))
    refine LP_ev ok 0 [(75, I r62), (12, I r62)] 2 rfl rfl ?_
    refine LP_end _ rfl ?_
    refine W_region ?_
    refine LP_ev ok 0 [(13, .bool true)] 1 rfl rfl ?_
    refine LP_end _ rfl ?_
    have xc126 := (x103.trans x117)
    exact ⟨(r53, r62, true), H, _, sl a60 r53 c61, hx56, env_eq ⟨rfl, rfl, rfl, rfl, rfl, rfl, rfl, rfl, trivial⟩, (X82.stepx xc126), o57, (ex81.ext xc126), f73, (ex113.ext x117), (ex114.ext x117), (ex78.ext xc126), (ex115.ext x117), (Dj.of_fresh ex23 f59).symm, (Dj.of_fresh ex24 f59).symm, (Dj.of_fresh ex25 f59).symm, (Dj.of_fresh ex26 f59).symm⟩
   have H := H.2 hc125
   refine W_skip ?_
   have xc133 := (x103.trans x117)
   exact ⟨(best, cost, found), H, _, sl a27 best c28, hx20, env_eq ⟨rfl, rfl, rfl, rfl, rfl, rfl, rfl, rfl, trivial⟩, (X82.stepx xc133), o, (ex80.ext xc133), f, (ex113.ext x117), (ex114.ext x117), (ex78.ext xc133), (ex115.ext x117), d, d29, d30, d31⟩
  rintro ⟨best33, cost39, found40⟩ _ wx41 ⟨H, ρ, vx34, hx35, rfl, HF⟩
  revert HF
  refine bb9 fun X52 o36 ex37 f38 ex42 ex43 ex44 ex45 => ?_
  refine bb4 fun d48 d49 d50 d51 => ?_
  subst hk
  obtain ⟨a46, c47, rfl⟩ := o36.shape
  refine W_region ?_
  refine LP_ev ok 0 [(25, I mask), (26, I (wr (mask + 1))), (14, I (wr (mask + 1)))] 3 rfl rfl ?_
  exact LP_end _ rfl ⟨(best33, cost39, found40, wr (mask + 1)), ⟨H.1, _, sl a46 best33 c47, hx35, env_eq ⟨rfl, rfl, rfl, rfl, rfl, rfl, rfl, rfl, trivial⟩, X52, o36, ex37, f38, ex42, ex43, ex44, ex45, d48, d49, d50, d51⟩, H.2⟩
 have H := H.2 hc
 refine W_exit ?_
 refine (if_pos rfl).mpr ?_
 refine W_seq (W_region ?_)
 refine LP_ev ok 0 [(76, sl a27 best c28), (77, I cost), (78, .bool found), (8, sl a27 best c28), (9, I cost), (10, .bool found)] 6 rfl rfl ?_
 refine LP_end _ rfl (W_ret ?_)
 exact ⟨_, Ret_of [sl a27 best c28, I cost, .bool found] ⟨⟨rfl, rfl⟩, ⟨rfl, rfl⟩, ⟨rfl, rfl⟩, trivial⟩, _, _, _, _, _, H, rfl, X32.ext, o, ex21, f⟩

theorem spec_CheapestChange_w (sx : List Variable) (l : List Edit) (weights : List Int) (values : List Int) (Q : (List Int) → Int → Bool → Prop) (H : spec_CheapestChange sx l weights values Q) (w : World) {vx : Value} {hx : PH} (r : RS hx vx sx) (ex : Sub hx w) {vx1 : Value} {hx2 : PH} (r3 : RS hx2 vx1 l) (ex4 : Sub hx2 w) {vx7 : Value} {hx8 : PH} (r9 : RS hx8 vx7 weights) (ex10 : Sub hx8 w) {vx13 : Value} {hx14 : PH} (r15 : RS hx14 vx13 values) (ex16 : Sub hx14 w) :
  CallsTo Try.prog 18 #[vx, vx1, vx7, vx13] w fun v w' => ∃ r0 r1 r2 u0 g0, Q r0 r1 r2 ∧ v = .tuple #[u0, I r1, .bool r2] ∧ Ext w w' ∧ OS 3 g0 emp u0 r0 ∧ Sub g0 w' ∧ Fresh w.heap.size g0 := by
 obtain ⟨a, c, rfl⟩ := r.shape
 obtain ⟨a5, c6, rfl⟩ := r3.shape
 obtain ⟨a11, c12, rfl⟩ := r9.shape
 obtain ⟨a17, c18, rfl⟩ := r15.shape
 refine enter (args := [sl a sx c, sl a5 l c6, sl a11 weights c12, sl a17 values c18]) 25 Try.func18 rfl rfl rfl ?_
 refine W_forget [(0, sl a sx c), (1, sl a5 l c6), (2, sl a11 weights c12), (3, sl a17 values c18)] ⟨rfl, rfl, rfl, rfl, trivial⟩ fun ρ => ?_
 have X := But.refl emp w
 refine W_seq (W_region ?_)
 refine LP_ev ok 0 [(8, .slice none 0 0), (9, I 0), (10, .bool false)] 3 rfl rfl ?_
 refine LP_end _ rfl (W_seq ?_)
 refine W_seq (W_region ?_)
 refine LP_ev ok 0 [(11, sl a sx c), (12, sl a5 l c6), (13, sl a11 weights c12), (14, sl a17 values c18)] 4 rfl rfl ?_
 refine LP_call 4 rfl rfl rfl cal_45 rfl (spec_iInput_w _ _ _ _ _ H w r ex r3 ex4 r9 ex10 r15 ex16) ?_
 rintro _ wx ⟨r19, H, rfl, x⟩
 refine LP_ev ok 5 [(16, .bool (!r19))] 6 rfl rfl ?_
 refine LP_end _ rfl ?_
 refine W_cond (!r19) rfl (fun hc => ?_) (fun hc => ?_)
 ·have H := H.1 hc
  refine W_seq (W_region ?_)
  refine LP_ev ok 0 [(8, .slice none 0 0), (9, I 0), (10, .bool false)] 3 rfl rfl ?_
  refine LP_end _ rfl (W_ret ?_)
  exact ⟨_, Ret_of [.slice none 0 0, I 0, .bool false] ⟨⟨rfl, rfl⟩, ⟨rfl, rfl⟩, ⟨rfl, rfl⟩, trivial⟩, _, _, _, _, emp, H, rfl, (X.stepx x).ext, OS.nil, (emp_sub _), (emp_fresh _)⟩
 have H := H.2 hc
 refine W_skip ?_
 refine W_seq (W_region ?_)
 refine LP_ev ok 0 [(17, sl a sx c), (18, sl a5 l c6), (19, sl a11 weights c12), (20, sl a17 values c18)] 4 rfl rfl ?_
 refine LP_call 4 rfl rfl rfl cal_52 rfl (spec_iCheapest_w _ _ _ _ _ H wx r (ex.ext x) r3 (ex4.ext x) r9 (ex10.ext x) r15 (ex16.ext x)) ?_
 rintro _ wx28 ⟨r21, r22, r23, vx30, hx31, H, rfl, x29, o, ex32, f⟩
 obtain ⟨a33, c34, rfl⟩ := o.shape
 refine LP_ev ok 5 [(22, sl a33 r21 c34), (23, I r22), (24, .bool r23), (8, sl a33 r21 c34), (9, I r22), (10, .bool r23)] 11 rfl rfl ?_
 refine LP_end _ rfl (W_ret ?_)
 have X36 := (X.stepx x)
 have f35 := f.mono X36.size
 exact ⟨_, Ret_of [sl a33 r21 c34, I r22, .bool r23] ⟨⟨rfl, rfl⟩, ⟨rfl, rfl⟩, ⟨rfl, rfl⟩, trivial⟩, _, _, _, _, _, H, rfl, (X36.stepx x29).ext, o, ex32, f35⟩

theorem spec_l1Cur_someVars_w (c : L1Cur) (sx : List Variable) (Q : (List Int) → Int → Int → Prop) (H : spec_l1Cur_someVars c sx Q) (w : World) {vx : Value} {hx : PH} (r : RS hx vx c.Code) (ex : Sub hx w) {b : Nat} (ex2 : Sub (bx b 59 [vx, I c.At, .int .u64 c.Seed]) w) {vx3 : Value} {hx4 : PH} (r5 : RS hx4 vx3 sx) (ex6 : Sub hx4 w) (d : Dj (bx b 59 [vx, I c.At, .int .u64 c.Seed]) hx) (d9 : Dj (bx b 59 [vx, I c.At, .int .u64 c.Seed]) hx4) :
  CallsTo Try.prog 53 #[pb b, vx3] w fun v w' => ∃ r0 m1_0 m1_1 u0 g0, Q r0 m1_0 m1_1 ∧ v = u0 ∧ But (bx b 59 [vx, I c.At, .int .u64 c.Seed]) w w' ∧ OS 3 g0 emp u0 r0 ∧ Sub g0 w' ∧ Fresh w.heap.size g0 ∧ Sub (bx b 59 [vx, I m1_0, .int .u64 m1_1]) w' ∧ Dj g0 (bx b 59 [vx, I m1_0, .int .u64 m1_1]) := by
 obtain ⟨a, c1, rfl⟩ := r.shape
 obtain ⟨a7, c8, rfl⟩ := r5.shape
 refine enter (args := [pb b, sl a7 sx c8]) 28 Try.func53 rfl rfl rfl ?_
 refine W_forget [(0, pb b), (1, sl a7 sx c8)] ⟨rfl, rfl, trivial⟩ fun ρ => ?_
 have D : Dom (bx b 59 [sl a c.Code c1, I c.At, .int .u64 c.Seed]) (bx b 59 [sl a c.Code c1, I c.At, .int .u64 c.Seed]) := (Dom.refl _)
 have X := But.refl (bx b 59 [sl a c.Code c1, I c.At, .int .u64 c.Seed]) w
 refine W_seq (W_region ?_)
 refine LP_ev ok 0 [(4, .slice none 0 0)] 1 rfl rfl ?_
 refine LP_end _ rfl (W_seq (W_region ?_))
 refine LP_ev ok 0 [(5, .slice none 0 0)] 1 rfl rfl ?_
 refine LP_end _ rfl (W_seq ?_)
 refine W_seq (W_region ?_)
 refine LP_ev ok 0 [(7, sl a7 sx c8), (8, I (ln sx)), (9, I 0)] 3 rfl rfl ?_
 refine LP_end _ rfl ?_
 refine W_block ?_
 obtain ⟨J, m, Hx, H⟩ := H
 refine W_loop (S := (List Int) × Int × Int × Int) (fun s ρ' w' => J s.1 s.2.1 s.2.2.1 s.2.2.2 ∧ ∃ (ρ : Env) (vx10 : Value) (hx11 : PH), ρ' = setAll [(0, pb b), (5, vx10), (8, I (ln sx)), (9, I s.2.1)] ρ ∧ But (bx b 59 [sl a c.Code c1, I c.At, .int .u64 c.Seed]) w w' ∧ OS 3 hx11 emp vx10 s.1 ∧ Sub hx11 w' ∧ Fresh w.heap.size hx11 ∧ Sub hx w' ∧ Sub (bx b 59 [sl a c.Code c1, I s.2.2.1, .int .u64 s.2.2.2]) w' ∧ Dj hx11 hx ∧ Dj hx11 (bx b 59 [sl a c.Code c1, I s.2.2.1, .int .u64 s.2.2.2])) (fun s => m s.1 s.2.1 s.2.2.1 s.2.2.2) ([], 0, c.At, c.Seed) ⟨Hx, _, .slice none 0 0, emp, env_eq ⟨rfl, rfl, rfl, rfl, trivial⟩, X, OS.nil, (emp_sub _), (emp_fresh _), ex, ex2, (fun _ => .inl rfl), (fun _ => .inl rfl)⟩ ?_
 rintro ⟨out, x, atx, seed⟩ _ wx ⟨Hi, ρ, vx10, hx11, rfl, HF⟩
 revert HF
 refine bb8 fun X19 o ex12 f ex13 ex16 d17 d18 => ?_
 have H := H out x atx seed Hi
 obtain ⟨a14, c15, rfl⟩ := o.shape
 refine W_seq (W_region ?_)
 refine LP_ev ok 0 [(10, .bool (decide (x < (ln sx))))] 1 rfl rfl ?_
 refine LP_end _ rfl (W_seq ?_)
 refine W_cond (decide (x < (ln sx))) rfl (fun hc => ?_) (fun hc => ?_)
 ·have H := H.1 hc
  refine W_skip ?_
  obtain ⟨k, hk, H⟩ := jn_elim H
  refine W_join2 (S := (List Int) × Int × Int) (fun s ρ' w' => k s.1 s.2.1 s.2.2 ∧ ∃ (ρ : Env) (vx21 : Value) (hx22 : PH), ρ' = setAll [(0, pb b), (5, vx21), (8, I (ln sx)), (9, I x)] ρ ∧ But (bx b 59 [sl a c.Code c1, I c.At, .int .u64 c.Seed]) w w' ∧ OS 3 hx22 emp vx21 s.1 ∧ Sub hx22 w' ∧ Fresh w.heap.size hx22 ∧ Sub hx w' ∧ Sub (bx b 59 [sl a c.Code c1, I s.2.1, .int .u64 s.2.2]) w' ∧ Dj hx22 hx ∧ Dj hx22 (bx b 59 [sl a c.Code c1, I s.2.1, .int .u64 s.2.2])) ?_ ?_
  ·refine W_block ?_
   refine W_seq (W_region ?_)
   refine LP_ev ok 0 [(11, I x), (6, I x)] 2 rfl rfl ?_
   refine LP_end _ rfl (W_seq (W_region ?_))
   refine LP_ev ok 0 [(12, pb b)] 1 rfl rfl ?_
   refine LP_call 1 rfl rfl rfl cal_68 rfl (spec_l1Cur_one_w _ _ _ H wx r ex13 ex16 (Dj.box d)) ?_
   rintro _ wx39 ⟨r36, r37, r38, H, rfl, x40, ex41⟩
   refine LP_end _ rfl ?_
   refine W_cond (r36) rfl (fun hc42 => ?_) (fun hc42 => ?_)
   ·have H := H.1 hc42
    refine W_region ?_
    refine LP_ev ok 0 [(14, sl a14 out c15), (15, I x)] 2 rfl rfl ?_
    refine LP_lit (α := Int) (g := emp) 2 (vs := [I x]) (xs := [x]) rfl rfl rfl Try.underlying25 ti_3 rfl rfl ⟨⟨_, rfl, rfl⟩, trivial⟩ rfl rfl fun hx43 vx44 wx45 x46 o47 ex48 f49 => ?_
    obtain ⟨a50, c51, rfl⟩ := o47.shape
    obtain ⟨hb, H⟩ := H
    refine LP_appendf (α := Int) 3 rfl rfl rfl Try.underlying25 ti_3 rfl rfl rfl o ((ex12.but x40 d18.symm).ext x46) o47.readf ex48 (by first | omega | (simp only [ln] at *; omega)) (by first | omega | (simp only [ln] at *; omega)) fun hx53 vx54 wx55 o56 ex57 y dm => ?_
    obtain ⟨a58, c59, rfl⟩ := o56.shape
    refine LP_ev ok 4 [(5, .slice a58 (List.length (out ++ ([x]))) c59)] 5 rfl rfl ?_
    refine LP_end _ rfl ?_
    have f61 := dm.fresh f ((X19.step x40 (DomLe.dom D single_dom)).stepx x46).size
    exact ⟨(out ++ ([x]), r37, r38), H, _, .slice a58 (List.length (out ++ ([x]))) c59, hx53, env_eq ⟨rfl, rfl, rfl, rfl, trivial⟩, (((X19.step x40 (DomLe.dom D single_dom)).stepx x46).step y (f.dom _)), o56, ex57, f61, (((ex13.but x40 (Dj.box d)).ext x46).but y d17), ((ex41.ext x46).but y (Dj.box d18.symm).symm), (DomLe.dj dm d17 ((ex13.but x40 (Dj.box d)).ext x46)), (DomLe.dj dm (Dj.box d18.symm).symm (ex41.ext x46))⟩
   have H := H.2 hc42
   exact W_skip ⟨(out, r37, r38), H, _, sl a14 out c15, hx11, env_eq ⟨rfl, rfl, rfl, rfl, trivial⟩, (X19.step x40 (DomLe.dom D single_dom)), o, (ex12.but x40 d18.symm), f, (ex13.but x40 (Dj.box d)), ex41, d17, (Dj.box d18.symm).symm⟩
  rintro ⟨out20, atx26, seed27⟩ _ wx28 ⟨H, ρ, vx21, hx22, rfl, HF⟩
  revert HF
  refine bb8 fun X35 o23 ex24 f25 ex29 ex32 d33 d34 => ?_
  subst hk
  obtain ⟨a30, c31, rfl⟩ := o23.shape
  refine W_region ?_
  refine LP_ev ok 0 [(18, I (wr (x + 1))), (9, I (wr (x + 1)))] 2 rfl rfl ?_
  exact LP_end _ rfl ⟨(out20, wr (x + 1), atx26, seed27), ⟨H.1, _, sl a30 out20 c31, hx22, env_eq ⟨rfl, rfl, rfl, rfl, trivial⟩, X35, o23, ex24, f25, ex29, ex32, d33, d34⟩, H.2⟩
 have H := H.2 hc
 refine W_exit ?_
 refine (if_pos rfl).mpr ?_
 refine W_seq ?_
 refine W_seq (W_region ?_)
 refine LP_ev ok 0 [(19, pb b)] 1 rfl rfl ?_
 refine LP_call 1 rfl rfl rfl cal_68 rfl (spec_l1Cur_one_w _ _ _ H wx r ex13 ex16 (Dj.box d)) ?_
 rintro _ wx73 ⟨r70, r71, r72, H, rfl, x74, ex75⟩
 refine LP_end _ rfl ?_
 refine W_cond (r70) rfl (fun hc76 => ?_) (fun hc76 => ?_)
 ·have H := H.1 hc76
  refine W_seq (W_region ?_)
  refine LP_ev ok 0 [(21, sl a14 out c15), (22, pb b)] 2 rfl rfl ?_
  refine LP_lit (α := Int) (g := emp) 2 (vs := [I ((-1)), I 0, I 7]) (xs := [(-1), 0, 7]) rfl rfl rfl Try.underlying25 ti_3 rfl rfl ⟨⟨_, rfl, rfl⟩, ⟨_, rfl, rfl⟩, ⟨_, rfl, rfl⟩, trivial⟩ rfl rfl fun hx77 vx78 wx79 x80 o81 ex82 f83 => ?_
  obtain ⟨a84, c85, rfl⟩ := o81.shape
  refine LP_call 3 rfl rfl rfl cal_75 rfl (spec_l1Cur_among_w _ _ _ H wx79 r ((ex13.but x74 (Dj.box d)).ext x80) (ex75.ext x80) o81.readf ex82 (Dj.box d) (Dj.of_fresh ex75 f83)) ?_
  rintro _ wx91 ⟨r86, r87, r88, H, rfl, x92, ex93⟩
  refine LP_lit (α := Int) (g := emp) 4 (vs := [I r86]) (xs := [r86]) rfl rfl rfl Try.underlying25 ti_3 rfl rfl ⟨⟨_, rfl, rfl⟩, trivial⟩ rfl rfl fun hx94 vx95 wx96 x97 o98 ex99 f100 => ?_
  obtain ⟨a101, c102, rfl⟩ := o98.shape
  obtain ⟨hb104, H⟩ := H
  refine LP_appendf (α := Int) 5 rfl rfl rfl Try.underlying25 ti_3 rfl rfl rfl o ((((ex12.but x74 d18.symm).ext x80).but x92 (Dj.box d18.symm)).ext x97) o98.readf ex99 (by first | omega | (simp only [ln] at *; omega)) (by first | omega | (simp only [ln] at *; omega)) fun hx105 vx106 wx107 o108 ex109 y110 dm111 => ?_
  obtain ⟨a112, c113, rfl⟩ := o108.shape
  refine LP_ev ok 6 [(4, .slice a112 (List.length (out ++ ([r86]))) c113)] 7 rfl rfl ?_
  refine LP_end _ rfl (W_ret ?_)
  have X115 := ((((X19.step x74 (DomLe.dom D single_dom)).stepx x80).step x92 (DomLe.dom D single_dom)).stepx x97)
  have f114 := dm111.fresh f X115.size
  exact ⟨_, Ret_of [.slice a112 (List.length (out ++ ([r86]))) c113] ⟨⟨rfl, rfl⟩, trivial⟩, _, _, _, _, _, H, rfl, (X115.step y110 (f.dom _)), o108, ex109, f114, ((ex93.ext x97).but y110 (Dj.box d18.symm).symm), (DomLe.dj dm111 (Dj.box d18.symm).symm (ex93.ext x97))⟩
 have H := H.2 hc76
 refine W_skip ?_
 refine W_seq (W_region ?_)
 refine LP_ev ok 0 [(27, sl a14 out c15), (4, sl a14 out c15)] 2 rfl rfl ?_
 refine LP_end _ rfl (W_ret ?_)
 exact ⟨_, Ret_of [sl a14 out c15] ⟨⟨rfl, rfl⟩, trivial⟩, _, _, _, _, _, H, rfl, (X19.step x74 (DomLe.dom D single_dom)), o, (ex12.but x74 d18.symm), f, ex75, (Dj.box d18.symm).symm⟩

theorem spec_DrawIsCover_w (code : List B8) (Q : (List Variable) → (List Edit) → (List Int) → (List Int) → Prop) (H : spec_DrawIsCover code Q) (w : World) {vx : Value} {hx : PH} (r : RS hx vx code) (ex : Sub hx w) :
  CallsTo Try.prog 19 #[vx] w fun v w' => ∃ r0 r1 r2 r3 u0 g0 u1 g1 u2 g2 u3 g3, Q r0 r1 r2 r3 ∧ v = .tuple #[u0, u1, u2, u3] ∧ Ext w w' ∧ OS 90 g0 emp u0 r0 ∧ Sub g0 w' ∧ Fresh w.heap.size g0 ∧ OD g1 u1 r1 ∧ Sub g1 w' ∧ Fresh w.heap.size g1 ∧ OS 3 g2 emp u2 r2 ∧ Sub g2 w' ∧ Fresh w.heap.size g2 ∧ OS 3 g3 emp u3 r3 ∧ Sub g3 w' ∧ Fresh w.heap.size g3 ∧ Dj g0 g1 ∧ Dj g0 g2 ∧ Dj g0 g3 ∧ Dj g1 g2 ∧ Dj g1 g3 ∧ Dj g2 g3 := by
 obtain ⟨a, c, rfl⟩ := r.shape
 refine enter (args := [sl a code c]) 27 Try.func19 rfl rfl rfl ?_
 refine W_forget [(0, sl a code c)] ⟨rfl, trivial⟩ fun ρ => ?_
 have X := But.refl emp w
 refine W_seq (W_region ?_)
 refine LP_ev ok 0 [(2, .slice none 0 0), (3, .slice none 0 0), (4, .slice none 0 0), (5, .slice none 0 0)] 4 rfl rfl ?_
 refine LP_end _ rfl (W_seq (W_region ?_))
 refine LP_ev ok 0 [(11, sl a code c), (12, .agg #[sl a code c, I 0, .int .u64 0])] 2 rfl rfl ?_
 refine LP_box 2 (cs := [sl a code c, I 0, .int .u64 0]) rfl rfl rfl rfl rfl fun b wx x ex1 f => ?_
 refine LP_ev ok 3 [(6, pb b)] 4 rfl rfl ?_
 refine LP_end _ rfl (W_seq (W_region ?_))
 refine LP_ev ok 0 [(15, pb b)] 1 rfl rfl ?_
 have ex8 := (ex.ext x)
 refine LP_call 1 rfl rfl rfl cal_26 rfl (spec_l1Cur_mended_w _ _ H wx r ex8 ex1 (Dj.of_fresh ex f).symm) ?_
 rintro _ wx9 ⟨r2, r3, r4, r5, r6, r7, vx11, hx12, vx15, hx16, vx20, hx21, vx25, hx26, H, rfl, x10, HF⟩
 revert HF
 refine bb9 fun o ex13 f14 o17 ex18 f19 o22 ex23 => ?_
 refine bb9 fun f24 o27 ex28 f29 ex30 d d31 d32 => ?_
 refine bb7 fun d33 d34 d35 d36 d37 d38 d39 => ?_
 obtain ⟨a40, c41, rfl⟩ := o.shape
 obtain ⟨a42, c43, rfl⟩ := o17.shape
 obtain ⟨a44, c45, rfl⟩ := o22.shape
 obtain ⟨a46, c47, rfl⟩ := o27.shape
 refine LP_ev ok 2 [(14, .tuple #[sl a40 r2 c41, sl a42 r3 c43, sl a44 r4 c45, sl a46 r5 c47]), (17, sl a40 r2 c41), (18, sl a42 r3 c43), (19, sl a44 r4 c45), (20, sl a46 r5 c47), (7, sl a40 r2 c41), (8, sl a42 r3 c43), (9, sl a44 r4 c45), (10, sl a46 r5 c47)] 11 rfl rfl ?_
 refine LP_end _ rfl (W_seq (W_region ?_))
 refine LP_ev ok 0 [(21, sl a40 r2 c41), (22, sl a42 r3 c43), (23, sl a46 r5 c47), (24, pb b), (25, sl a40 r2 c41)] 5 rfl rfl ?_
 refine LP_call 5 rfl rfl rfl cal_53 rfl (spec_l1Cur_someVars_w _ _ _ H wx9 r (ex8.but x10 (Dj.of_fresh ex f).symm) ex30 o.readf ex13 (Dj.box (Dj.of_fresh ex f).symm) d33.symm) ?_
 rintro _ wx52 ⟨r48, r49, r50, vx54, hx55, H, rfl, x53, HF⟩
 revert HF
 refine bb5 fun o56 ex57 f58 ex59 d60 => ?_
 obtain ⟨a61, c62, rfl⟩ := o56.shape
 refine LP_ev ok 6 [(2, sl a40 r2 c41), (3, sl a42 r3 c43), (4, sl a46 r5 c47), (5, sl a61 r48 c62)] 10 rfl rfl ?_
 refine LP_end _ rfl ?_
 try refine W_forget [(2, sl a40 r2 c41), (3, sl a42 r3 c43), (4, sl a46 r5 c47), (5, sl a61 r48 c62)] ⟨rfl, rfl, rfl, rfl, trivial⟩ fun ρ => ?_
 refine W_ret ?_
 have X65 := (X.stepx x)
 have f64 := f14.mono X65.size
 have f67 := f19.mono X65.size
 have f69 := f29.mono X65.size
 have f71 := f.mono X.size
 have X72 := (X65.step x10 (f71.dom _))
 have f70 := f58.mono X72.size
 exact ⟨_, Ret_of [sl a40 r2 c41, sl a42 r3 c43, sl a46 r5 c47, sl a61 r48 c62] ⟨⟨rfl, rfl⟩, ⟨rfl, rfl⟩, ⟨rfl, rfl⟩, ⟨rfl, rfl⟩, trivial⟩, _, _, _, _, _, _, _, _, _, _, _, _, H, rfl, (X72.step x53 ((Fresh.box f71).dom _)).ext, o, (ex13.but x53 d33.symm), f64, o17, (ex18.but x53 d36.symm), f67, o27, (ex28.but x53 d39.symm), f69, o56, ex57, f70, d, d32, (Dj.of_fresh ex13 f58), d35, (Dj.of_fresh ex18 f58), (Dj.of_fresh ex28 f58)⟩

theorem impl_areVars_w (sx : List Variable) (vars : List Int) (Q : Bool → Prop) (H : impl_areVars sx vars Q) (w : World) {vx : Value} {hx : PH} (r : RS hx vx sx) (ex : Sub hx w) {vx1 : Value} {hx2 : PH} (r3 : RS hx2 vx1 vars) (ex4 : Sub hx2 w) :
  CallsTo Try.prog 54 #[vx, vx1] w fun v w' => ∃ r0, Q r0 ∧ v = .bool r0 ∧ Ext w w' := by
 obtain ⟨a, c, rfl⟩ := r.shape
 obtain ⟨a5, c6, rfl⟩ := r3.shape
 refine enter (args := [sl a sx c, sl a5 vars c6]) 25 Try.func54 rfl rfl rfl ?_
 refine W_forget [(0, sl a sx c), (1, sl a5 vars c6)] ⟨rfl, rfl, trivial⟩ fun ρ => ?_
 have X := But.refl emp w
 refine W_seq (W_region ?_)
 refine LP_ev ok 0 [(4, .bool false)] 1 rfl rfl ?_
 refine LP_end _ rfl (W_seq (W_region ?_))
 refine LP_ev ok 0 [(5, I ((-1)))] 1 rfl rfl ?_
 refine LP_end _ rfl (W_seq ?_)
 refine W_seq (W_region ?_)
 refine LP_ev ok 0 [(8, sl a5 vars c6), (9, I (ln vars)), (10, I 0)] 3 rfl rfl ?_
 refine LP_end _ rfl ?_
 refine W_block ?_
 obtain ⟨J, m, Hx, H⟩ := H
 refine W_loop (S := Int × Int) (fun s ρ' w' => J s.1 s.2 ∧ ∃ (ρ : Env), ρ' = setAll [(0, sl a sx c), (5, I s.1), (8, sl a5 vars c6), (9, I (ln vars)), (10, I s.2)] ρ ∧ w = w') (fun s => m s.1 s.2) ((-1), 0) ⟨Hx, _, env_eq ⟨rfl, rfl, rfl, rfl, rfl, trivial⟩, rfl⟩ ?_
 rintro ⟨last, x⟩ _ _ ⟨Hi, ρ, rfl, rfl⟩
 have H := H last x Hi
 refine W_seq (W_region ?_)
 refine LP_ev ok 0 [(11, .bool (decide (x < (ln vars))))] 1 rfl rfl ?_
 refine LP_end _ rfl (W_seq ?_)
 refine W_cond (decide (x < (ln vars))) rfl (fun hc => ?_) (fun hc => ?_)
 ·have H := H.1 hc
  refine W_skip ?_
  refine W_seq ?_
  refine W_block ?_
  refine W_seq (W_region ?_)
  obtain ⟨x7, hi, hx8, H⟩ := H
  refine LP_index 0 rfl rfl rfl Try.underlying25 ti_3 rfl rfl r3 hi hx8 fun a9 cs r10 d => ?_
  refine LP_load 1 rfl rfl rfl ti_3 ag_3 rfl r10 d ex4 fun vx11 r12 => ?_
  obtain rfl := r12.int
  refine LP_ev ok 2 [(7, I x7)] 3 rfl rfl ?_
  refine LP_end _ rfl (W_seq ?_)
  obtain ⟨k, hk, H⟩ := jn_elim H
  refine W_join2 (S := Bool) (fun s ρ' w' => k s ∧ ∃ (ρ : Env), ρ' = setAll [(0, sl a sx c), (7, I x7), (8, sl a5 vars c6), (9, I (ln vars)), (10, I x), (22, .bool s)] ρ ∧ w = w') ?_ ?_
  ·refine W_region ?_
   refine LP_ev ok 0 [(14, I x7), (15, I last), (16, .bool (decide (x7 ≤ last))), (17, .bool (decide (x7 ≤ last)))] 4 rfl rfl ?_
   refine LP_split 17 (decide (x7 ≤ last)) rfl (fun hc15 => ?_) (fun hc15 => ?_)
   ·have H := H.1 hc15
    refine LP_ev ok 4 [(18, undef), (19, undef), (20, undef), (21, undef), (22, .bool true)] 9 rfl rfl ?_
    exact LP_end _ rfl ⟨true, H, _, env_eq ⟨rfl, rfl, rfl, rfl, rfl, rfl, trivial⟩, rfl⟩
   have H := H.2 hc15
   refine LP_ev ok 4 [(18, I x7), (19, sl a sx c), (20, I (ln sx)), (21, .bool (decide (x7 ≥ (ln sx)))), (22, .bool (decide (x7 ≥ (ln sx))))] 9 rfl rfl ?_
   exact LP_end _ rfl ⟨decide (x7 ≥ (ln sx)), H, _, env_eq ⟨rfl, rfl, rfl, rfl, rfl, rfl, trivial⟩, rfl⟩
  rintro x13 _ _ ⟨H, ρ, rfl, rfl⟩
  subst hk
  refine W_cond (x13) rfl (fun hc16 => ?_) (fun hc16 => ?_)
  ·have H := H.1 hc16
   refine W_seq (W_region ?_)
   refine LP_ev ok 0 [(4, .bool false)] 1 rfl rfl ?_
   refine LP_end _ rfl (W_ret ?_)
   exact ⟨_, Ret_of [.bool false] ⟨⟨rfl, rfl⟩, trivial⟩, _, H, rfl, X.ext⟩
  have H := H.2 hc16
  refine W_skip ?_
  refine W_region ?_
  refine LP_ev ok 0 [(23, I x7), (5, I x7)] 2 rfl rfl ?_
  refine LP_end _ rfl ?_
  refine W_region ?_
  refine LP_ev ok 0 [(24, I (wr (x + 1))), (10, I (wr (x + 1)))] 2 rfl rfl ?_
  exact LP_end _ rfl ⟨(x7, wr (x + 1)), ⟨H.1, _, env_eq ⟨rfl, rfl, rfl, rfl, rfl, trivial⟩, rfl⟩, H.2⟩
 have H := H.2 hc
 refine W_exit ?_
 refine (if_pos rfl).mpr ?_
 refine W_seq (W_region ?_)
 refine LP_ev ok 0 [(4, .bool true)] 1 rfl rfl ?_
 refine LP_end _ rfl (W_ret ?_)
 exact ⟨_, Ret_of [.bool true] ⟨⟨rfl, rfl⟩, trivial⟩, _, H, rfl, X.ext⟩

theorem impl_IsCover_w (sx : List Variable) (l : List Edit) (values : List Int) (vars : List Int) (Q : Bool → Bool → Prop) (H : impl_IsCover sx l values vars Q) (w : World) {vx : Value} {hx : PH} (r : RS hx vx sx) (ex : Sub hx w) {vx1 : Value} {hx2 : PH} (r3 : RS hx2 vx1 l) (ex4 : Sub hx2 w) {vx7 : Value} {hx8 : PH} (r9 : RS hx8 vx7 values) (ex10 : Sub hx8 w) {vx13 : Value} {hx14 : PH} (r15 : RS hx14 vx13 vars) (ex16 : Sub hx14 w) :
  CallsTo Try.prog 20 #[vx, vx1, vx7, vx13] w fun v w' => ∃ r0 r1, Q r0 r1 ∧ v = .tuple #[.bool r0, .bool r1] ∧ Ext w w' := by
 obtain ⟨a, c, rfl⟩ := r.shape
 obtain ⟨a5, c6, rfl⟩ := r3.shape
 obtain ⟨a11, c12, rfl⟩ := r9.shape
 obtain ⟨a17, c18, rfl⟩ := r15.shape
 refine enter (args := [sl a sx c, sl a5 l c6, sl a11 values c12, sl a17 vars c18]) 39 Try.func20 rfl rfl rfl ?_
 refine W_forget [(0, sl a sx c), (1, sl a5 l c6), (2, sl a11 values c12), (3, sl a17 vars c18)] ⟨rfl, rfl, rfl, rfl, trivial⟩ fun ρ => ?_
 have X := But.refl emp w
 refine W_seq (W_region ?_)
 refine LP_ev ok 0 [(8, .bool false), (9, .bool false)] 2 rfl rfl ?_
 refine LP_end _ rfl (W_seq ?_)
 obtain ⟨k, hk, H⟩ := jn_elim H
 refine W_join2 (S := Bool) (fun s ρ' w' => k s ∧ ∃ (ρ : Env), ρ' = setAll [(0, sl a sx c), (1, sl a5 l c6), (2, sl a11 values c12), (3, sl a17 vars c18), (30, .bool s)] ρ ∧ But emp w w' ∧ Sub hx w' ∧ Sub hx2 w' ∧ Sub hx8 w' ∧ Sub hx14 w') ?_ ?_
 ·refine W_region ?_
  refine LP_ev ok 0 [(10, sl a sx c)] 1 rfl rfl ?_
  refine LP_call 1 rfl rfl rfl cal_51 rfl (impl_isSmall_w _ _ H w r ex) ?_
  rintro _ wx25 ⟨r24, H, rfl, x26⟩
  refine LP_ev ok 2 [(12, .bool (!r24)), (13, .bool (!r24))] 4 rfl rfl ?_
  refine LP_split 13 (!r24) rfl (fun hc => ?_) (fun hc => ?_)
  ·have H := H.1 hc
   refine LP_ev ok 4 [(14, undef), (15, undef), (16, undef), (17, undef), (18, .bool true), (19, .bool true), (20, undef), (21, undef), (22, undef), (23, undef), (24, .bool true), (25, .bool true), (26, undef), (27, undef), (28, undef), (29, undef), (30, .bool true)] 21 rfl rfl ?_
   exact LP_end _ rfl ⟨true, H, _, env_eq ⟨rfl, rfl, rfl, rfl, rfl, trivial⟩, (X.stepx x26), (ex.ext x26), (ex4.ext x26), (ex10.ext x26), (ex16.ext x26)⟩
  have H := H.2 hc
  refine LP_ev ok 4 [(14, sl a sx c), (15, sl a5 l c6)] 6 rfl rfl ?_
  have ex33 := (ex.ext x26)
  have ex34 := (ex4.ext x26)
  refine LP_call 6 rfl rfl rfl cal_49 rfl (impl_areEdits_w _ _ _ H wx25 r ex33 r3 ex34) ?_
  rintro _ wx35 ⟨r32, H, rfl, x36⟩
  refine LP_ev ok 7 [(17, .bool (!r32)), (18, .bool (!r32)), (19, .bool (!r32))] 10 rfl rfl ?_
  refine LP_split 19 (!r32) rfl (fun hc37 => ?_) (fun hc37 => ?_)
  ·have H := H.1 hc37
   refine LP_ev ok 10 [(20, undef), (21, undef), (22, undef), (23, undef), (24, .bool true), (25, .bool true), (26, undef), (27, undef), (28, undef), (29, undef), (30, .bool true)] 21 rfl rfl ?_
   refine LP_end _ rfl ?_
   have xc := (x26.trans x36)
   exact ⟨true, H, _, env_eq ⟨rfl, rfl, rfl, rfl, rfl, trivial⟩, (X.stepx xc), (ex33.ext x36), (ex34.ext x36), (ex10.ext xc), (ex16.ext xc)⟩
  have H := H.2 hc37
  refine LP_ev ok 10 [(20, sl a sx c), (21, sl a11 values c12)] 12 rfl rfl ?_
  have ex44 := (ex33.ext x36)
  have xc45 := (x26.trans x36)
  have ex46 := (ex10.ext xc45)
  refine LP_call 12 rfl rfl rfl cal_43 rfl (impl_areValues_w _ _ _ H wx35 r ex44 r9 ex46) ?_
  rintro _ wx47 ⟨r43, H, rfl, x48⟩
  refine LP_ev ok 13 [(23, .bool (!r43)), (24, .bool (!r43)), (25, .bool (!r43))] 16 rfl rfl ?_
  refine LP_split 25 (!r43) rfl (fun hc49 => ?_) (fun hc49 => ?_)
  ·have H := H.1 hc49
   refine LP_ev ok 16 [(26, undef), (27, undef), (28, undef), (29, undef), (30, .bool true)] 21 rfl rfl ?_
   refine LP_end _ rfl ?_
   have xc50 := (xc45.trans x48)
   exact ⟨true, H, _, env_eq ⟨rfl, rfl, rfl, rfl, rfl, trivial⟩, (X.stepx xc50), (ex44.ext x48), (ex34.ext (x36.trans x48)), (ex46.ext x48), (ex16.ext xc50)⟩
  have H := H.2 hc49
  refine LP_ev ok 16 [(26, sl a sx c), (27, sl a17 vars c18)] 18 rfl rfl ?_
  have ex58 := (ex44.ext x48)
  have xc59 := (xc45.trans x48)
  have ex60 := (ex16.ext xc59)
  refine LP_call 18 rfl rfl rfl cal_54 rfl (impl_areVars_w _ _ _ H wx47 r ex58 r15 ex60) ?_
  rintro _ wx61 ⟨r57, H, rfl, x62⟩
  refine LP_ev ok 19 [(29, .bool (!r57)), (30, .bool (!r57))] 21 rfl rfl ?_
  exact LP_end _ rfl ⟨!r57, H, _, env_eq ⟨rfl, rfl, rfl, rfl, rfl, trivial⟩, (X.stepx (xc59.trans x62)), (ex58.ext x62), (ex34.ext ((x36.trans x48).trans x62)), (ex46.ext (x48.trans x62)), (ex60.ext x62)⟩
 rintro x _ wx ⟨H, ρ, rfl, HF⟩
 revert HF
 refine bb5 fun X23 ex19 ex20 ex21 ex22 => ?_
 subst hk
 refine W_cond (x) rfl (fun hc71 => ?_) (fun hc71 => ?_)
 ·have H := H.1 hc71
  refine W_seq (W_region ?_)
  refine LP_ev ok 0 [(8, .bool false), (9, .bool false)] 2 rfl rfl ?_
  refine LP_end _ rfl (W_ret ?_)
  exact ⟨_, Ret_of [.bool false, .bool false] ⟨⟨rfl, rfl⟩, ⟨rfl, rfl⟩, trivial⟩, _, _, H, rfl, X23.ext⟩
 have H := H.2 hc71
 refine W_skip ?_
 refine W_seq (W_region ?_)
 refine LP_ev ok 0 [(31, sl a sx c), (32, sl a5 l c6), (33, sl a sx c), (34, sl a17 vars c18)] 4 rfl rfl ?_
 refine LP_call 4 rfl rfl rfl cal_34 rfl (impl_otherVars_w _ _ _ H wx r ex19 r15 ex22) ?_
 rintro _ wx73 ⟨r72, vx75, hx76, H, rfl, x74, o, ex77, f⟩
 obtain ⟨a78, c79, rfl⟩ := o.shape
 refine LP_ev ok 5 [(36, sl a11 values c12)] 6 rfl rfl ?_
 refine LP_call 6 rfl rfl rfl cal_33 rfl (impl_completionOf_w _ _ _ _ _ H wx73 r (ex19.ext x74) r3 (ex20.ext x74) o.readf ex77 r9 (ex21.ext x74)) ?_
 rintro _ wx84 ⟨r80, vx86, hx87, H, rfl, x85, o88, ex89, f90, cn⟩
 obtain ⟨a91, c92, rfl⟩ := o88.shape
 refine LP_val 7 _ rfl rfl (ex_nenilc rfl Try.underlying25 rfl rfl (cn _ _ _ rfl) _) ?_
 refine LP_ev ok 8 [(8, .bool (!(ln r80 == 0))), (9, .bool true)] 10 rfl rfl ?_
 refine LP_end _ rfl (W_ret ?_)
 exact ⟨_, Ret_of [.bool (!(ln r80 == 0)), .bool true] ⟨⟨rfl, rfl⟩, ⟨rfl, rfl⟩, trivial⟩, _, _, H, rfl, (X23.stepx (x74.trans x85)).ext⟩

theorem spec_l1Rising_w (l : List Int) (lo : Int) (hi : Int) (Q : Bool → Prop) (H : spec_l1Rising l lo hi Q) (w : World) {vx : Value} {hx : PH} (r : RS hx vx l) (ex : Sub hx w) :
  CallsTo Try.prog 56 #[vx, I lo, I hi] w fun v w' => ∃ r0, Q r0 ∧ v = .bool r0 ∧ Ext w w' := by
 obtain ⟨a, c, rfl⟩ := r.shape
 refine enter (args := [sl a l c, I lo, I hi]) 35 Try.func56 rfl rfl rfl ?_
 refine W_forget [(0, sl a l c), (1, I lo), (2, I hi)] ⟨rfl, rfl, rfl, trivial⟩ fun ρ => ?_
 have X := But.refl emp w
 refine W_seq (W_region ?_)
 refine LP_ev ok 0 [(6, .bool false)] 1 rfl rfl ?_
 refine LP_end _ rfl (W_seq ?_)
 refine W_seq (W_region ?_)
 refine LP_ev ok 0 [(9, sl a l c), (10, I (ln l)), (11, I 0)] 3 rfl rfl ?_
 refine LP_end _ rfl ?_
 refine W_block ?_
 obtain ⟨J, m, Hx, H⟩ := H
 refine W_loop (S := Int) (fun s ρ' w' => J s ∧ ∃ (ρ : Env), ρ' = setAll [(0, sl a l c), (1, I lo), (2, I hi), (9, sl a l c), (10, I (ln l)), (11, I s)] ρ ∧ But emp w w' ∧ Sub hx w') (fun s => m s) 0 ⟨Hx, _, env_eq ⟨rfl, rfl, rfl, rfl, rfl, rfl, trivial⟩, X, ex⟩ ?_
 rintro x _ wx ⟨Hi, ρ, rfl, X2, ex1⟩
 have H := H x Hi
 refine W_seq (W_region ?_)
 refine LP_ev ok 0 [(12, .bool (decide (x < (ln l))))] 1 rfl rfl ?_
 refine LP_end _ rfl (W_seq ?_)
 refine W_cond (decide (x < (ln l))) rfl (fun hc => ?_) (fun hc => ?_)
 ·have H := H.1 hc
  refine W_skip ?_
  refine W_seq ?_
  refine W_block ?_
  refine W_seq (W_region ?_)
  refine LP_ev ok 0 [(13, I x)] 1 rfl rfl ?_
  obtain ⟨x3, hi4, hx5, H⟩ := H
  refine LP_index 1 rfl rfl rfl Try.underlying25 ti_3 rfl rfl r hi4 hx5 fun a6 cs r7 d => ?_
  refine LP_load 2 rfl rfl rfl ti_3 ag_3 rfl r7 d ex1 fun vx8 r9 => ?_
  obtain rfl := r9.int
  refine LP_ev ok 3 [(7, I x), (8, I x3)] 5 rfl rfl ?_
  refine LP_end _ rfl ?_
  obtain ⟨k, hk, H⟩ := jn_elim H
  refine W_join2 (S := Bool) (fun s ρ' w' => k s ∧ ∃ (ρ : Env), ρ' = setAll [(0, sl a l c), (1, I lo), (2, I hi), (9, sl a l c), (10, I (ln l)), (11, I x), (33, .bool s)] ρ ∧ But emp w w' ∧ Sub hx w') ?_ ?_
  ·refine W_region ?_
   refine LP_ev ok 0 [(16, I x3), (17, I lo), (18, I hi)] 3 rfl rfl ?_
   refine LP_call 3 rfl rfl rfl cal_96 rfl (spec_l1In_w _ _ _ _ H wx ) ?_
   rintro _ wx15 ⟨r14, H, rfl, x16⟩
   refine LP_ev ok 4 [(20, .bool (!r14)), (21, .bool (!r14))] 6 rfl rfl ?_
   refine LP_split 21 (!r14) rfl (fun hc17 => ?_) (fun hc17 => ?_)
   ·have H := H.1 hc17
    refine LP_ev ok 6 [(22, undef), (23, undef), (24, undef), (25, undef), (26, undef), (27, undef), (28, undef), (29, undef), (30, undef), (31, undef), (32, undef), (33, .bool true)] 18 rfl rfl ?_
    exact LP_end _ rfl ⟨true, H, _, env_eq ⟨rfl, rfl, rfl, rfl, rfl, rfl, rfl, trivial⟩, (X2.stepx x16), (ex1.ext x16)⟩
   have H := H.2 hc17
   refine LP_ev ok 6 [(22, I x), (23, .bool (decide (x > 0))), (24, .bool (decide (x > 0)))] 9 rfl rfl ?_
   refine LP_split 24 (decide (x > 0)) rfl (fun hc20 => ?_) (fun hc20 => ?_)
   ·have H := H.1 hc20
    refine LP_ev ok 9 [(25, sl a l c), (26, I x), (27, I (wr (x - 1)))] 12 rfl rfl ?_
    obtain ⟨x21, hi22, hx23, H⟩ := H
    refine LP_index 12 rfl rfl rfl Try.underlying25 ti_3 rfl rfl r hi22 hx23 fun a24 cs25 r26 d27 => ?_
    have ex28 := (ex1.ext x16)
    refine LP_load 13 rfl rfl rfl ti_3 ag_3 rfl r26 d27 ex28 fun vx29 r30 => ?_
    obtain rfl := r30.int
    refine LP_ev ok 14 [(30, I x3), (31, .bool (decide (x21 ≥ x3))), (32, .bool (decide (x21 ≥ x3))), (33, .bool (decide (x21 ≥ x3)))] 18 rfl rfl ?_
    exact LP_end _ rfl ⟨decide (x21 ≥ x3), H, _, env_eq ⟨rfl, rfl, rfl, rfl, rfl, rfl, rfl, trivial⟩, (X2.stepx x16), ex28⟩
   have H := H.2 hc20
   refine LP_ev ok 9 [(25, undef), (26, undef), (27, undef), (28, undef), (29, undef), (30, undef), (31, undef), (32, .bool false), (33, .bool false)] 18 rfl rfl ?_
   exact LP_end _ rfl ⟨false, H, _, env_eq ⟨rfl, rfl, rfl, rfl, rfl, rfl, rfl, trivial⟩, (X2.stepx x16), (ex1.ext x16)⟩
  rintro x10 _ wx11 ⟨H, ρ, rfl, X13, ex12⟩
  subst hk
  refine W_cond (x10) rfl (fun hc34 => ?_) (fun hc34 => ?_)
  ·have H := H.1 hc34
   refine W_seq (W_region ?_)
   refine LP_ev ok 0 [(6, .bool false)] 1 rfl rfl ?_
   refine LP_end _ rfl (W_ret ?_)
   exact ⟨_, Ret_of [.bool false] ⟨⟨rfl, rfl⟩, trivial⟩, _, H, rfl, X13.ext⟩
  have H := H.2 hc34
  refine W_skip ?_
  refine W_region ?_
  refine LP_ev ok 0 [(34, I (wr (x + 1))), (11, I (wr (x + 1)))] 2 rfl rfl ?_
  exact LP_end _ rfl ⟨wr (x + 1), ⟨H.1, _, env_eq ⟨rfl, rfl, rfl, rfl, rfl, rfl, trivial⟩, X13, ex12⟩, H.2⟩
 have H := H.2 hc
 refine W_exit ?_
 refine (if_pos rfl).mpr ?_
 refine W_seq (W_region ?_)
 refine LP_ev ok 0 [(6, .bool true)] 1 rfl rfl ?_
 refine LP_end _ rfl (W_ret ?_)
 exact ⟨_, Ret_of [.bool true] ⟨⟨rfl, rfl⟩, trivial⟩, _, H, rfl, X2.ext⟩

theorem spec_eSearch_free_w (x : ESearch) (sets : List Int) (Q : Bool → Prop) (H : spec_eSearch_free x sets Q) (w : World) {vx : Value} {hx : PH} (r : RS hx vx x.S) (ex : Sub hx w) {vx1 : Value} {hx2 : PH} (r3 : RS hx2 vx1 x.Passing) (ex4 : Sub hx2 w) {vx7 : Value} {hx8 : PH} (r9 : RS hx8 vx7 x.Out) (ex10 : Sub hx8 w) {b : Nat} (ex13 : Sub (bx b 108 [vx, vx1, I x.V, vx7]) w) {vx14 : Value} {hx15 : PH} (r16 : RS hx15 vx14 sets) (ex17 : Sub hx15 w) :
  CallsTo Try.prog 120 #[pb b, vx14] w fun v w' => ∃ r0, Q r0 ∧ v = .bool r0 ∧ Ext w w' := by
 obtain ⟨a, c, rfl⟩ := r.shape
 obtain ⟨a5, c6, rfl⟩ := r3.shape
 obtain ⟨a11, c12, rfl⟩ := r9.shape
 obtain ⟨a18, c19, rfl⟩ := r16.shape
 refine enter (args := [pb b, sl a18 sets c19]) 21 Try.func120 rfl rfl rfl ?_
 refine W_forget [(0, pb b), (1, sl a18 sets c19)] ⟨rfl, rfl, trivial⟩ fun ρ => ?_
 have X := But.refl emp w
 refine W_seq (W_region ?_)
 refine LP_ev ok 0 [(4, .bool false)] 1 rfl rfl ?_
 refine LP_end _ rfl (W_seq ?_)
 refine W_seq (W_region ?_)
 refine LP_ev ok 0 [(7, pb b), (8, pb b), (9, .pointer (some ⟨b, 1, none⟩))] 3 rfl rfl ?_
 refine LP_ldbox 3 (v := sl a5 x.Passing c6) rfl rfl rfl ti_106 ag_106 (fun _ => rfl) rfl ex13 rfl rfl ?_
 refine LP_ev ok 4 [(11, I (ln x.Passing)), (12, I 0)] 6 rfl rfl ?_
 refine LP_end _ rfl ?_
 refine W_block ?_
 obtain ⟨J, m, Hx, H⟩ := H
 refine W_loop (S := Int) (fun s ρ' w' => J s ∧ ∃ (ρ : Env), ρ' = setAll [(1, sl a18 sets c19), (10, sl a5 x.Passing c6), (11, I (ln x.Passing)), (12, I s)] ρ ∧ But emp w w' ∧ Sub hx2 w' ∧ Sub hx15 w') (fun s => m s) 0 ⟨Hx, _, env_eq ⟨rfl, rfl, rfl, rfl, trivial⟩, X, ex4, ex17⟩ ?_
 rintro x20 _ wx ⟨Hi, ρ, rfl, X23, ex21, ex22⟩
 have H := H x20 Hi
 refine W_seq (W_region ?_)
 refine LP_ev ok 0 [(13, .bool (decide (x20 < (ln x.Passing))))] 1 rfl rfl ?_
 refine LP_end _ rfl (W_seq ?_)
 refine W_cond (decide (x20 < (ln x.Passing))) rfl (fun hc => ?_) (fun hc => ?_)
 ·have H := H.1 hc
  refine W_skip ?_
  refine W_seq ?_
  refine W_block ?_
  refine W_seq (W_region ?_)
  obtain ⟨x24, hi, hx25, H⟩ := H
  refine LP_index 0 rfl rfl rfl Try.underlying106 ti_25 rfl rfl r3 hi hx25 fun a26 cs r27 d => ?_
  refine LP_load 1 rfl rfl rfl ti_25 ag_25 rfl r27 d ex21 fun vx28 r29 => ?_
  have r32 := r29.slice
  obtain ⟨a30, c31, rfl⟩ := r32.shape
  refine LP_ev ok 2 [(6, sl a30 x24 c31)] 3 rfl rfl ?_
  refine LP_end _ rfl (W_seq (W_region ?_))
  refine LP_ev ok 0 [(16, sl a18 sets c19), (17, .agg #[sl a18 sets c19]), (18, sl a30 x24 c31)] 3 rfl rfl ?_
  refine LP_call 3 rfl rfl rfl cal_58 rfl (spec_eFails_w _ _ _ H wx r16 ex22 r32 ex21) ?_
  rintro _ wx34 ⟨r33, H, rfl, x35⟩
  refine LP_end _ rfl ?_
  refine W_cond (r33) rfl (fun hc36 => ?_) (fun hc36 => ?_)
  ·have H := H.1 hc36
   refine W_seq (W_region ?_)
   refine LP_ev ok 0 [(4, .bool false)] 1 rfl rfl ?_
   refine LP_end _ rfl (W_ret ?_)
   exact ⟨_, Ret_of [.bool false] ⟨⟨rfl, rfl⟩, trivial⟩, _, H, rfl, (X23.stepx x35).ext⟩
  have H := H.2 hc36
  refine W_skip ?_
  refine W_region ?_
  refine LP_ev ok 0 [(20, I (wr (x20 + 1))), (12, I (wr (x20 + 1)))] 2 rfl rfl ?_
  exact LP_end _ rfl ⟨wr (x20 + 1), ⟨H.1, _, env_eq ⟨rfl, rfl, rfl, rfl, trivial⟩, (X23.stepx x35), (ex21.ext x35), (ex22.ext x35)⟩, H.2⟩
 have H := H.2 hc
 refine W_exit ?_
 refine (if_pos rfl).mpr ?_
 refine W_seq (W_region ?_)
 refine LP_ev ok 0 [(4, .bool true)] 1 rfl rfl ?_
 refine LP_end _ rfl (W_ret ?_)
 exact ⟨_, Ret_of [.bool true] ⟨⟨rfl, rfl⟩, trivial⟩, _, H, rfl, X23.ext⟩

theorem spec_eSearch_grows_w (x : ESearch) (sets : List Int) (Q : Bool → Prop) (H : spec_eSearch_grows x sets Q) (w : World) {vx : Value} {hx : PH} (r : RS hx vx x.S) (ex : Sub hx w) {vx1 : Value} {hx2 : PH} (r3 : RS hx2 vx1 x.Passing) (ex4 : Sub hx2 w) {vx7 : Value} {hx8 : PH} (r9 : RS hx8 vx7 x.Out) (ex10 : Sub hx8 w) {b : Nat} (ex13 : Sub (bx b 108 [vx, vx1, I x.V, vx7]) w) {vx14 : Value} {hx15 : PH} (r16 : RS hx15 vx14 sets) (ex17 : Sub hx15 w) :
  CallsTo Try.prog 121 #[pb b, vx14] w fun v w' => ∃ r0, Q r0 ∧ v = .bool r0 ∧ Ext w w' := by
 obtain ⟨a, c, rfl⟩ := r.shape
 obtain ⟨a5, c6, rfl⟩ := r3.shape
 obtain ⟨a11, c12, rfl⟩ := r9.shape
 obtain ⟨a18, c19, rfl⟩ := r16.shape
 refine enter (args := [pb b, sl a18 sets c19]) 49 Try.func121 rfl rfl rfl ?_
 refine W_forget [(0, pb b), (1, sl a18 sets c19)] ⟨rfl, rfl, trivial⟩ fun ρ => ?_
 have X := But.refl emp w
 refine W_seq (W_region ?_)
 refine LP_ev ok 0 [(4, .bool false)] 1 rfl rfl ?_
 refine LP_end _ rfl (W_seq ?_)
 refine W_seq (W_region ?_)
 refine LP_ev ok 0 [(8, sl a18 sets c19), (9, I (ln sets)), (10, I 0)] 3 rfl rfl ?_
 refine LP_end _ rfl ?_
 refine W_block ?_
 obtain ⟨J, m, Hx, H⟩ := H
 refine W_loop (S := Int) (fun s ρ' w' => J s ∧ ∃ (ρ : Env), ρ' = setAll [(0, pb b), (1, sl a18 sets c19), (9, I (ln sets)), (10, I s)] ρ ∧ But emp w w' ∧ Sub hx w' ∧ Sub hx2 w' ∧ Sub hx8 w' ∧ Sub (bx b 108 [sl a x.S c, sl a5 x.Passing c6, I x.V, sl a11 x.Out c12]) w' ∧ Sub hx15 w') (fun s => m s) 0 ⟨Hx, _, env_eq ⟨rfl, rfl, rfl, rfl, trivial⟩, X, ex, ex4, ex10, ex13, ex17⟩ ?_
 rintro x20 _ wx ⟨Hi, ρ, rfl, HF⟩
 revert HF
 refine bb6 fun X26 ex21 ex22 ex23 ex24 ex25 => ?_
 have H := H x20 Hi
 refine W_seq (W_region ?_)
 refine LP_ev ok 0 [(11, .bool (decide (x20 < (ln sets))))] 1 rfl rfl ?_
 refine LP_end _ rfl (W_seq ?_)
 refine W_cond (decide (x20 < (ln sets))) rfl (fun hc => ?_) (fun hc => ?_)
 ·have H := H.1 hc
  refine W_skip ?_
  refine W_seq ?_
  refine W_block ?_
  refine W_seq (W_region ?_)
  refine LP_ev ok 0 [(12, I x20), (5, I x20)] 2 rfl rfl ?_
  refine LP_end _ rfl (W_seq (W_region ?_))
  refine LP_ev ok 0 [(6, I 0)] 1 rfl rfl ?_
  refine LP_end _ rfl ?_
  refine W_block ?_
  obtain ⟨J34, m35, Hx36, H⟩ := H
  refine W_loop (S := Int) (fun s ρ' w' => J34 s ∧ ∃ (ρ : Env), ρ' = setAll [(0, pb b), (1, sl a18 sets c19), (5, I x20), (6, I s), (9, I (ln sets)), (10, I x20)] ρ ∧ But emp w w' ∧ Sub hx w' ∧ Sub hx2 w' ∧ Sub hx8 w' ∧ Sub (bx b 108 [sl a x.S c, sl a5 x.Passing c6, I x.V, sl a11 x.Out c12]) w' ∧ Sub hx15 w') (fun s => m35 s) 0 ⟨Hx36, _, env_eq ⟨rfl, rfl, rfl, rfl, rfl, rfl, trivial⟩, X26, ex21, ex22, ex23, ex24, ex25⟩ ?_
  rintro level _ wx27 ⟨Hi, ρ, rfl, HF⟩
  revert HF
  refine bb6 fun X33 ex28 ex29 ex30 ex31 ex32 => ?_
  have H := H level Hi
  refine W_seq ?_
  refine W_seq (W_region ?_)
  refine LP_ev ok 0 [(13, I level), (14, pb b), (15, pb b), (16, pb b)] 4 rfl rfl ?_
  refine LP_ldbox 4 (v := sl a x.S c) rfl rfl rfl ti_23 ag_23 (fun _ => rfl) rfl ex31 rfl rfl ?_
  refine LP_ev ok 5 [(18, I x20)] 6 rfl rfl ?_
  obtain ⟨x38, hi, hx39, H⟩ := H
  refine LP_index 6 rfl rfl rfl Try.underlying23 ti_90 rfl rfl r hi hx39 fun a40 cs r41 d => ?_
  refine LP_ev ok 7 [(20, .pointer (some (Addr.add a40 1)))] 8 rfl rfl ?_
  refine LP_ldfld (x := x38) (off := 1) 8 (v := I x38.Levels) rfl rfl rfl ti_3 ag_3 (fun _ => rfl) rfl r41 d ex28 rfl rfl ?_
  refine LP_ev ok 9 [(22, .bool (decide (level < x38.Levels)))] 10 rfl rfl ?_
  refine LP_end _ rfl ?_
  refine W_cond (decide (level < x38.Levels)) rfl (fun hc42 => ?_) (fun hc42 => ?_)
  ·have H := H.1 hc42
   refine W_skip ?_
   obtain ⟨k, hk, H⟩ := jn_elim H
   refine W_join2 (S := Unit) (fun s ρ' w' => k ∧ ∃ (ρ : Env), ρ' = setAll [(0, pb b), (1, sl a18 sets c19), (5, I x20), (6, I level), (9, I (ln sets)), (10, I x20)] ρ ∧ But emp w w' ∧ Sub hx w' ∧ Sub hx2 w' ∧ Sub hx8 w' ∧ Sub (bx b 108 [sl a x.S c, sl a5 x.Passing c6, I x.V, sl a11 x.Out c12]) w' ∧ Sub hx15 w') ?_ ?_
   ·refine W_block ?_
    refine W_seq ?_
    refine W_seq (W_region ?_)
    refine LP_ev ok 0 [(25, sl a18 sets c19), (26, I x20)] 2 rfl rfl ?_
    obtain ⟨x50, hi51, hx52, H⟩ := H
    refine LP_index 2 rfl rfl rfl Try.underlying25 ti_3 rfl rfl r16 hi51 hx52 fun a53 cs54 r55 d56 => ?_
    refine LP_load 3 rfl rfl rfl ti_3 ag_3 rfl r55 d56 ex32 fun vx57 r58 => ?_
    obtain rfl := r58.int
    refine LP_ev ok 4 [(29, I level), (30, .int .u64 (IntKind.u64.wrap (level)))] 6 rfl rfl ?_
    obtain ⟨hz, H⟩ := H
    refine LP_val 6 _ rfl rfl (ex_shr rfl rfl rfl hz _) ?_
    refine LP_ev ok 7 [(32, I (bits .and .i64 (shr .i64 x50 (IntKind.u64.wrap (level))) 1)), (33, .bool ((bits .and .i64 (shr .i64 x50 (IntKind.u64.wrap (level))) 1) == 1))] 9 rfl rfl ?_
    refine LP_end _ rfl ?_
    refine W_cond ((bits .and .i64 (shr .i64 x50 (IntKind.u64.wrap (level))) 1) == 1) rfl (fun hc59 => ?_) (fun hc59 => ?_)
    ·have H := H.1 hc59
     refine W_exit ?_
     refine (if_pos rfl).mpr ?_
     exact ⟨(), H, _, env_eq ⟨rfl, rfl, rfl, rfl, rfl, rfl, trivial⟩, X33, ex28, ex29, ex30, ex31, ex32⟩
    have H := H.2 hc59
    refine W_skip ?_
    refine W_seq (W_region ?_)
    refine LP_ev ok 0 [(34, sl a18 sets c19)] 1 rfl rfl ?_
    refine LP_call 1 rfl rfl rfl cal_87 rfl (spec_l1Own_w _ _ H wx27 r16 ex32) ?_
    rintro _ wx61 ⟨r60, vx63, hx64, H, rfl, x62, o, ex65, f⟩
    obtain ⟨a66, c67, rfl⟩ := o.shape
    refine LP_ev ok 2 [(7, sl a66 r60 c67)] 3 rfl rfl ?_
    refine LP_end _ rfl (W_seq (W_region ?_))
    refine LP_ev ok 0 [(36, sl a66 r60 c67), (37, I x20)] 2 rfl rfl ?_
    obtain ⟨x68, hi69, hx70, H⟩ := H
    refine LP_index 2 rfl rfl rfl Try.underlying25 ti_3 rfl rfl o.readf hi69 hx70 fun a71 cs72 r73 d74 => ?_
    refine LP_load 3 rfl rfl rfl ti_3 ag_3 rfl r73 d74 ex65 fun vx75 r76 => ?_
    obtain rfl := r76.int
    refine LP_ev ok 4 [(40, I level), (41, .int .u64 (IntKind.u64.wrap (level)))] 6 rfl rfl ?_
    obtain ⟨hz77, H⟩ := H
    refine LP_val 6 _ rfl rfl (ex_shl rfl rfl rfl hz77 _) ?_
    refine LP_ev ok 7 [(43, I (bits .or .i64 x68 (shl .i64 1 (IntKind.u64.wrap (level)))))] 8 rfl rfl ?_
    obtain ⟨hi78, hl, H⟩ := H
    refine LP_indexw (v := sl a66 r60 c67) 8 rfl rfl rfl Try.underlying25 ti_3 rfl rfl o hi78 hl fun a79 wa => ?_
    refine LP_set 9 rfl rfl rfl rfl rfl wa (Le.refl emp) ⟨_, rfl, rfl⟩ ex65 fun hx80 wx81 o82 ex83 y dm => ?_
    refine LP_end _ rfl ?_
    try refine W_forget [(0, pb b), (1, sl a18 sets c19), (5, I x20), (6, I level), (7, sl a66 r60 c67), (9, I (ln sets)), (10, I x20)] ⟨rfl, rfl, rfl, rfl, rfl, rfl, rfl, trivial⟩ fun ρ => ?_
    refine W_seq (W_region ?_)
    refine LP_ev ok 0 [(45, pb b), (46, sl a66 r60 c67)] 2 rfl rfl ?_
    have ex85 := ((ex28.ext x62).but y (Dj.of_fresh ex28 f).symm)
    have ex86 := ((ex29.ext x62).but y (Dj.of_fresh ex29 f).symm)
    have ex87 := ((ex30.ext x62).but y (Dj.of_fresh ex30 f).symm)
    have ex88 := ((ex31.ext x62).but y (Dj.of_fresh ex31 f).symm)
    refine LP_call 2 rfl rfl rfl cal_120 rfl (spec_eSearch_free_w _ _ _ H wx81 r ex85 r3 ex86 r9 ex87 ex88 o82.readf ex83) ?_
    rintro _ wx89 ⟨r84, H, rfl, x90⟩
    refine LP_end _ rfl ?_
    refine W_cond (r84) rfl (fun hc91 => ?_) (fun hc91 => ?_)
    ·have H := H.1 hc91
     refine W_seq (W_region ?_)
     refine LP_ev ok 0 [(4, .bool true)] 1 rfl rfl ?_
     refine LP_end _ rfl (W_ret ?_)
     have f92 := f.mono X33.size
     exact ⟨_, Ret_of [.bool true] ⟨⟨rfl, rfl⟩, trivial⟩, _, H, rfl, (((X33.stepx x62).step y (f92.dom _)).stepx x90).ext⟩
    have H := H.2 hc91
    refine W_skip ?_
    have f94 := f.mono X33.size
    exact ⟨(), H, _, env_eq ⟨rfl, rfl, rfl, rfl, rfl, rfl, trivial⟩, (((X33.stepx x62).step y (f94.dom _)).stepx x90), (ex85.ext x90), (ex86.ext x90), (ex87.ext x90), (ex88.ext x90), (((ex32.ext x62).but y (Dj.of_fresh ex32 f).symm).ext x90)⟩
   rintro ⟨⟩ _ wx43 ⟨H, ρ, rfl, HF⟩
   revert HF
   refine bb6 fun X49 ex44 ex45 ex46 ex47 ex48 => ?_
   subst hk
   refine W_region ?_
   refine LP_ev ok 0 [(23, I level), (24, I (wr (level + 1))), (6, I (wr (level + 1)))] 3 rfl rfl ?_
   exact LP_end _ rfl ⟨wr (level + 1), ⟨H.1, _, env_eq ⟨rfl, rfl, rfl, rfl, rfl, rfl, trivial⟩, X49, ex44, ex45, ex46, ex47, ex48⟩, H.2⟩
  have H := H.2 hc42
  refine W_exit ?_
  refine (if_pos rfl).mpr ?_
  refine W_region ?_
  refine LP_ev ok 0 [(48, I (wr (x20 + 1))), (10, I (wr (x20 + 1)))] 2 rfl rfl ?_
  exact LP_end _ rfl ⟨wr (x20 + 1), ⟨H.1, _, env_eq ⟨rfl, rfl, rfl, rfl, trivial⟩, X33, ex28, ex29, ex30, ex31, ex32⟩, H.2⟩
 have H := H.2 hc
 refine W_exit ?_
 refine (if_pos rfl).mpr ?_
 refine W_seq (W_region ?_)
 refine LP_ev ok 0 [(4, .bool false)] 1 rfl rfl ?_
 refine LP_end _ rfl (W_ret ?_)
 exact ⟨_, Ret_of [.bool false] ⟨⟨rfl, rfl⟩, trivial⟩, _, H, rfl, X26.ext⟩

theorem spec_eSearch_run_w (x : ESearch) (k : Int) (sets : List Int) (Q : (List Edit) → Int → Prop) (H : spec_eSearch_run x k sets Q) (w : World) {vx : Value} {hx : PH} (r : RS hx vx x.S) (ex : Sub hx w) {vx1 : Value} {hx2 : PH} (r3 : RS hx2 vx1 x.Passing) (ex4 : Sub hx2 w) {vx7 : Value} {hx8 : PH} (r9 : OD hx8 vx7 x.Out) (ex10 : Sub hx8 w) {b : Nat} (ex13 : Sub (bx b 108 [vx, vx1, I x.V, vx7]) w) {vx14 : Value} {hx15 : PH} (r16 : RS hx15 vx14 sets) (ex17 : Sub hx15 w) (d : Dj hx8 (bx b 108 [vx, vx1, I x.V, vx7])) (d20 : Dj hx8 hx) (d21 : Dj hx8 hx2) (d22 : Dj hx8 hx15) (d23 : Dj (bx b 108 [vx, vx1, I x.V, vx7]) hx) (d24 : Dj (bx b 108 [vx, vx1, I x.V, vx7]) hx2) (d25 : Dj (bx b 108 [vx, vx1, I x.V, vx7]) hx15) :
  CallsTo Try.prog 98 #[pb b, I k, vx14] w fun v w' => ∃ m1 m2_0 v1_ k1, Q m1 m2_0 ∧ v = .tuple #[] ∧ But (un hx8 (bx b 108 [vx, vx1, I x.V, vx7])) w w' ∧ OD k1 v1_ m1 ∧ Sub k1 w' ∧ DomLe (un hx8 (bx b 108 [vx, vx1, I x.V, vx7])) w.heap.size k1 ∧ Sub (bx b 108 [vx, vx1, I m2_0, v1_]) w' ∧ Dj k1 (bx b 108 [vx, vx1, I m2_0, v1_]) := by
 obtain ⟨S, mu, H0, HS⟩ := H
 have key : ∀ (m : Nat) (x : ESearch) (k : Int) (sets : List Int) (Q : (List Edit) → Int → Prop), S x k sets Q → mu x k sets < m → ∀ (w : World) {vx : Value} {hx : PH} (r : RS hx vx x.S) (ex : Sub hx w) {vx1 : Value} {hx2 : PH} (r3 : RS hx2 vx1 x.Passing) (ex4 : Sub hx2 w) {vx7 : Value} {hx8 : PH} (r9 : OD hx8 vx7 x.Out) (ex10 : Sub hx8 w) {b : Nat} (ex13 : Sub (bx b 108 [vx, vx1, I x.V, vx7]) w) {vx14 : Value} {hx15 : PH} (r16 : RS hx15 vx14 sets) (ex17 : Sub hx15 w) (d : Dj hx8 (bx b 108 [vx, vx1, I x.V, vx7])) (d20 : Dj hx8 hx) (d21 : Dj hx8 hx2) (d22 : Dj hx8 hx15) (d23 : Dj (bx b 108 [vx, vx1, I x.V, vx7]) hx) (d24 : Dj (bx b 108 [vx, vx1, I x.V, vx7]) hx2) (d25 : Dj (bx b 108 [vx, vx1, I x.V, vx7]) hx15), CallsTo Try.prog 98 #[pb b, I k, vx14] w fun v w' => ∃ m1 m2_0 v1_ k1, Q m1 m2_0 ∧ v = .tuple #[] ∧ But (un hx8 (bx b 108 [vx, vx1, I x.V, vx7])) w w' ∧ OD k1 v1_ m1 ∧ Sub k1 w' ∧ DomLe (un hx8 (bx b 108 [vx, vx1, I x.V, vx7])) w.heap.size k1 ∧ Sub (bx b 108 [vx, vx1, I m2_0, v1_]) w' ∧ Dj k1 (bx b 108 [vx, vx1, I m2_0, v1_]) := by
  intro m
  induction m with
  | zero => intro x k sets Q _ hm; exact absurd hm (Nat.not_lt_zero _)
  | succ m ih =>
   intro x k sets Q H0 hm w vx hx r ex vx1 hx2 r3 ex4 vx7 hx8 r9 ex10 b ex13 vx14 hx15 r16 ex17 d d20 d21 d22 d23 d24 d25
   have H := HS x k sets Q H0
   obtain ⟨a, c, rfl⟩ := r.shape
   obtain ⟨a5, c6, rfl⟩ := r3.shape
   obtain ⟨a11, c12, rfl⟩ := r9.shape
   obtain ⟨a18, c19, rfl⟩ := r16.shape
   refine enter (args := [pb b, I k, sl a18 sets c19]) 68 Try.func98 rfl rfl rfl ?_
   refine W_forget [(0, pb b), (1, I k), (2, sl a18 sets c19)] ⟨rfl, rfl, rfl, trivial⟩ fun ρ => ?_
   obtain ⟨M, hM⟩ : ∃ M : PH, M = (un hx8 (bx b 108 [sl a x.S c, sl a5 x.Passing c6, I x.V, sl a11 x.Out c12])) := ⟨_, rfl⟩
   have D : Dom M hx8 := by subst hM; exact (Dom.l _ _)
   have D26 : Dom M (bx b 108 [sl a x.S c, sl a5 x.Passing c6, I x.V, sl a11 x.Out c12]) := by subst hM; exact (Dom.trans (Dom.r _ _) (Dom.refl _))
   have X := But.refl M w
   refine W_seq ?_
   refine W_seq (W_region ?_)
   refine LP_ev ok 0 [(8, I k), (9, pb b), (10, pb b), (11, pb b)] 4 rfl rfl ?_
   refine LP_ldbox 4 (v := sl a x.S c) rfl rfl rfl ti_23 ag_23 (fun _ => rfl) rfl ex13 rfl rfl ?_
   refine LP_ev ok 5 [(13, I (ln x.S)), (14, .bool (k == (ln x.S)))] 7 rfl rfl ?_
   refine LP_end _ rfl ?_
   refine W_cond (k == (ln x.S)) rfl (fun hc => ?_) (fun hc => ?_)
   ·have H := H.1 hc
    obtain ⟨k39, hk, H⟩ := jn_elim H
    refine W_join2 (S := (List Edit)) (fun s ρ' w' => k39 s ∧ ∃ (ρ : Env) (vx27 : Value) (hx28 : PH), ρ' = setAll [] ρ ∧ But M w w' ∧ OD hx28 vx27 s ∧ Sub hx28 w' ∧ DomLe M w.heap.size hx28 ∧ Sub hx w' ∧ Sub hx2 w' ∧ Sub (bx b 108 [sl a x.S c, sl a5 x.Passing c6, I x.V, vx27]) w' ∧ Dj hx28 hx ∧ Dj hx28 hx2 ∧ Dj hx28 (bx b 108 [sl a x.S c, sl a5 x.Passing c6, I x.V, vx27])) ?_ ?_
    ·obtain ⟨k48, hk49, H⟩ := jn_elim H
     refine W_join2 (S := Bool) (fun s ρ' w' => k48 s ∧ ∃ (ρ : Env), ρ' = setAll [(0, pb b), (2, sl a18 sets c19), (23, .bool s)] ρ ∧ But M w w' ∧ Sub hx w' ∧ Sub hx2 w' ∧ Sub hx8 w' ∧ Sub (bx b 108 [sl a x.S c, sl a5 x.Passing c6, I x.V, sl a11 x.Out c12]) w' ∧ Sub hx15 w') ?_ ?_
     ·refine W_region ?_
      refine LP_ev ok 0 [(15, pb b), (16, sl a18 sets c19)] 2 rfl rfl ?_
      refine LP_call 2 rfl rfl rfl cal_120 rfl (spec_eSearch_free_w _ _ _ H w r ex r3 ex4 r9.readf ex10 ex13 r16 ex17) ?_
      rintro _ wx51 ⟨r50, H, rfl, x52⟩
      refine LP_ev ok 3 [(18, .bool r50)] 4 rfl rfl ?_
      refine LP_split 18 (r50) rfl (fun hc53 => ?_) (fun hc53 => ?_)
      ·have H := H.1 hc53
       refine LP_ev ok 4 [(19, pb b), (20, sl a18 sets c19)] 6 rfl rfl ?_
       have ex55 := (ex.ext x52)
       have ex56 := (ex4.ext x52)
       have ex57 := (ex10.ext x52)
       have ex58 := (ex13.ext x52)
       have ex59 := (ex17.ext x52)
       refine LP_call 6 rfl rfl rfl cal_121 rfl (spec_eSearch_grows_w _ _ _ H wx51 r ex55 r3 ex56 r9.readf ex57 ex58 r16 ex59) ?_
       rintro _ wx60 ⟨r54, H, rfl, x61⟩
       refine LP_ev ok 7 [(22, .bool (!r54)), (23, .bool (!r54))] 9 rfl rfl ?_
       exact LP_end _ rfl ⟨!r54, H, _, env_eq ⟨rfl, rfl, rfl, trivial⟩, (X.stepx (x52.trans x61)), (ex55.ext x61), (ex56.ext x61), (ex57.ext x61), (ex58.ext x61), (ex59.ext x61)⟩
      have H := H.2 hc53
      refine LP_ev ok 4 [(19, undef), (20, undef), (21, undef), (22, undef), (23, .bool false)] 9 rfl rfl ?_
      exact LP_end _ rfl ⟨false, H, _, env_eq ⟨rfl, rfl, rfl, trivial⟩, (X.stepx x52), (ex.ext x52), (ex4.ext x52), (ex10.ext x52), (ex13.ext x52), (ex17.ext x52)⟩
     rintro x40 _ wx41 ⟨H, ρ, rfl, HF⟩
     revert HF
     refine bb6 fun X47 ex42 ex43 ex44 ex45 ex46 => ?_
     subst hk49
     refine W_cond (x40) rfl (fun hc74 => ?_) (fun hc74 => ?_)
     ·have H := H.1 hc74
      refine W_open mix fun wx75 x76 => ?_
      refine AP_game 10 [[], [], [1], [1, 2], [1, 2, 3], [], [5], [5, 6], [5, 6, 7], [1, 2, 3, 4, 5, 6, 7, 8], [0, 1, 2, 3, 4, 5, 6, 7, 8, 9], [0, 1, 2, 3, 4, 5, 6, 7, 8, 9, 10], [0, 1, 2, 3, 4, 5, 6, 7, 8, 9, 10, 11]] [[(0, none)], [(0, none)], [(25, some 1)], [(26, some 2)], [(27, some 3)], [(2, none)], [(29, some 5)], [(30, some 6)], [(31, some 7)], [(28, some 4), (32, some 8)]] [(24, some 0), (33, some 9)] [(0, false), (1, false), (2, false), (3, false), (4, false), (5, false), (6, true), (7, false), (8, true), (9, true)] (by kernel_rfl) (by kernel_rfl) ?_
      refine GS_ev ok [(0, pb b)] (pb b) rfl rfl (fun _ h => h) (fun _ => rfl) ?_
      refine GS_ev ok [(0, pb b)] (pb b) rfl rfl (fun _ h => h) (fun _ => rfl) ?_
      refine GS_ev ok [(25, pb b)] (pb b) rfl rfl (fun _ h => h) (fun _ => rfl) ?_
      refine GS_ev ok [(26, pb b)] (.pointer (some ⟨b, 3, none⟩)) rfl rfl (fun _ h => h) (fun _ => rfl) ?_
      have ex77 := (ex45.ext x76)
      refine GS_r1 [(27, .pointer (some ⟨b, 3, none⟩))] (sl a11 x.Out c12) rfl rfl (fun _ h => h) (fun _ w e => ex_ldbox rfl ti_24 ag_24 (fun _ => rfl) rfl e rfl rfl) ex77 ?_
      refine GS_ev ok [(2, sl a18 sets c19)] (sl a18 sets c19) rfl rfl (fun _ h => h) (fun _ => rfl) ?_
      refine GS_lp [(29, sl a18 sets c19)] rfl rfl (fun _ h => h) rfl fun ρ wx78 x79 => ?_
      have xc81 := (x76.trans x79)
      refine LP_call 0 rfl rfl rfl cal_87 rfl (spec_l1Own_w _ _ H wx78 r16 (ex46.ext xc81)) ?_
      rintro _ wx83 ⟨r80, vx85, hx86, H, rfl, x84, o87, ex88, f89⟩
      obtain ⟨a90, c91, rfl⟩ := o87.shape
      have ex93 := (ex77.ext (x79.trans x84))
      refine LP_gs ⟨⟨.inr ex93, trivial⟩, ?_⟩
      refine GS_ev ok [(30, sl a90 r80 c91)] (.agg #[sl a90 r80 c91]) rfl rfl (fun _ h => h) (fun _ => rfl) ?_
      refine GS_lp [(31, .agg #[sl a90 r80 c91])] rfl rfl (fun _ h => h) rfl fun ρ wx94 x95 => ?_
      have rv : RVO hx86 (.agg #[sl a90 r80 c91]) ((Edit.mk r80) : Edit) := ⟨_, ⟨_, rfl, (OS.od o87)⟩, rfl⟩
      refine LP_litD (α := Edit) 0 (vs := [.agg #[sl a90 r80 c91]]) (xs := [((Edit.mk r80) : Edit)]) rfl rfl rfl Try.underlying24 ti_79 rfl rfl (allO.one rv) (ex88.ext x95) rfl rfl fun hx97 vx98 wx99 x100 o101 ex102 dm => ?_
      obtain ⟨a103, c104, rfl⟩ := o101.shape
      refine LP_gs ⟨⟨.inr (ex93.ext (x95.trans x100)), trivial⟩, ?_⟩
      refine GS_lp [(28, sl a11 x.Out c12), (32, .slice a103 (List.length ([((Edit.mk r80) : Edit)])) c104)] rfl rfl (fun _ h => h) rfl fun ρ wx107 x108 => ?_
      have xc109 := (((((x76.trans x79).trans x84).trans x95).trans x100).trans x108)
      have ex111 := (ex44.ext xc81)
      have xc112 := (x84.trans x95)
      obtain ⟨hb, H⟩ := H
      refine LP_appendD (α := Edit) 0 rfl rfl rfl Try.underlying24 ti_79 rfl rfl rfl r9 (ex44.ext xc109) o101 (ex102.ext x108) (DomLe.dj dm (Dj.of_fresh ex111 f89).symm (ex111.ext xc112)).symm (by first | omega | (simp only [ln] at *; omega)) (by first | omega | (simp only [ln] at *; omega)) fun hx115 vx116 wx117 hw o118 ex119 y dh dm120 => ?_
      obtain ⟨a121, c122, rfl⟩ := o118.shape
      refine LP_gs ⟨⟨.inl rfl, trivial⟩, ?_⟩
      intro wx123 x124 ρ hn
      refine AP_forget [(24, pb b), (33, .slice a121 (List.length (x.Out ++ ([((Edit.mk r80) : Edit)]))) c122)] (by exact hn) fun ρ => ?_
      refine AP_tail 10 [[], [], [1], [1, 2], [1, 2, 3], [], [5], [5, 6], [5, 6, 7], [1, 2, 3, 4, 5, 6, 7, 8], [0, 1, 2, 3, 4, 5, 6, 7, 8, 9], [0, 1, 2, 3, 4, 5, 6, 7, 8, 9, 10], [0, 1, 2, 3, 4, 5, 6, 7, 8, 9, 10, 11]] (by kernel_rfl) ?_
      refine LP_ev ok 10 [(34, pb b), (35, .pointer (some ⟨b, 3, none⟩))] 12 rfl rfl ?_
      refine LP_stbox 12 (vs := [.slice a121 (List.length (x.Out ++ ([((Edit.mk r80) : Edit)]))) c122]) (cs' := [sl a x.S c, sl a5 x.Passing c6, I x.V, .slice a121 (List.length (x.Out ++ ([((Edit.mk r80) : Edit)]))) c122]) rfl rfl rfl ti_24 rfl rfl rfl rfl rfl (((ex77.ext ((((x79.trans x84).trans x95).trans x100).trans x108)).but (But.dom y dh) d).ext x124) rfl rfl fun wx125 ex126 y127 => ?_
      refine LP_end _ rfl ?_
      have ex131 := (ex77.ext x79)
      have ex132 := (ex131.ext xc112)
      have xc133 := (x100.trans x108)
      have ex134 := (ex132.ext xc133)
      have X137 := (X47.stepx xc81)
      have f136 := f89.mono X137.size
      have X139 := (X137.stepx xc112)
      have f138 := DomLe.fresh dm f136 X139.size
      have ex143 := (ex42.ext xc81)
      have ex144 := (ex143.ext xc112)
      have ex146 := (ex43.ext xc81)
      have ex147 := (ex146.ext xc112)
      exact ⟨x.Out ++ ([((Edit.mk r80) : Edit)]), H, _, .slice a121 (List.length (x.Out ++ ([((Edit.mk r80) : Edit)]))) c122, hx115, env_eq trivial, ((((X47.stepx xc109).step (But.dom y dh) (Dom.le D _)).stepx x124).step y127 (Dom.le D26 _)), o118, ((ex119.ext x124).but y127 (DomLe.dj dm120 (Dj.un_l d (DomLe.dj dm (Dj.of_fresh ex131 f89).symm ex132)) ex134).symm), (DomLe.trans (DomLe.un (Dom.le D _) (f138.dom _)) dm120 (X139.stepx xc133).size), ((((ex42.ext xc109).but (But.dom y dh) d20).ext x124).but y127 d23), ((((ex43.ext xc109).but (But.dom y dh) d21).ext x124).but y127 d24), ex126, (DomLe.dj dm120 (Dj.un_l d20 (DomLe.dj dm (Dj.of_fresh ex143 f89).symm ex144)) (ex144.ext xc133)), (DomLe.dj dm120 (Dj.un_l d21 (DomLe.dj dm (Dj.of_fresh ex146 f89).symm ex147)) (ex147.ext xc133)), (Dj.box (DomLe.dj dm120 (Dj.un_l d (DomLe.dj dm (Dj.of_fresh ex131 f89).symm ex132)) ex134).symm).symm⟩
     have H := H.2 hc74
     exact W_skip ⟨x.Out, H, _, sl a11 x.Out c12, hx8, env_eq trivial, X47, r9, ex44, (Dom.le D _), ex42, ex43, ex45, d20, d21, d⟩
    rintro out _ wx ⟨H, ρ, vx27, hx28, rfl, HF⟩
    revert HF
    refine bb9 fun X38 o ex29 f ex30 ex31 ex34 d35 => ?_
    refine bb2 fun d36 d37 => ?_
    subst hk
    obtain ⟨a32, c33, rfl⟩ := o.shape
    refine W_ret ?_
    subst hM
    exact ⟨_, Ret_of [] trivial, _, _, _, _, H, rfl, X38, o, ex29, f, ex34, d37⟩
   have H := H.2 hc
   refine W_skip ?_
   refine W_seq (W_region ?_)
   refine LP_ev ok 0 [(6, I 1)] 1 rfl rfl ?_
   refine LP_end _ rfl ?_
   obtain ⟨k156, hk157, H⟩ := jn_elim H
   refine W_join2 (S := Int) (fun s ρ' w' => k156 s ∧ ∃ (ρ : Env), ρ' = setAll [(0, pb b), (1, I k), (2, sl a18 sets c19), (6, I s)] ρ ∧ But M w w' ∧ Sub hx w' ∧ Sub hx2 w' ∧ Sub hx8 w' ∧ Sub (bx b 108 [sl a x.S c, sl a5 x.Passing c6, I x.V, sl a11 x.Out c12]) w' ∧ Sub hx15 w') ?_ ?_
   ·refine W_seq (W_region ?_)
    refine LP_ev ok 0 [(36, I k), (37, pb b), (38, pb b), (39, .pointer (some ⟨b, 2, none⟩))] 4 rfl rfl ?_
    refine LP_ldbox 4 (v := I x.V) rfl rfl rfl ti_3 ag_3 (fun _ => rfl) rfl ex13 rfl rfl ?_
    refine LP_ev ok 5 [(41, .bool (k == x.V))] 6 rfl rfl ?_
    refine LP_end _ rfl ?_
    refine W_cond (k == x.V) rfl (fun hc158 => ?_) (fun hc158 => ?_)
    ·have H := H.1 hc158
     refine W_region ?_
     refine LP_ev ok 0 [(42, pb b), (43, pb b), (44, pb b)] 3 rfl rfl ?_
     refine LP_ldbox 3 (v := sl a x.S c) rfl rfl rfl ti_23 ag_23 (fun _ => rfl) rfl ex13 rfl rfl ?_
     refine LP_ev ok 4 [(46, I k)] 5 rfl rfl ?_
     refine LP_call 5 rfl rfl rfl cal_100 rfl (spec_eFull_w _ _ _ H w r ex) ?_
     rintro _ wx160 ⟨r159, H, rfl, x161⟩
     refine LP_ev ok 6 [(6, I r159)] 7 rfl rfl ?_
     exact LP_end _ rfl ⟨r159, H, _, env_eq ⟨rfl, rfl, rfl, rfl, trivial⟩, (X.stepx x161), (ex.ext x161), (ex4.ext x161), (ex10.ext x161), (ex13.ext x161), (ex17.ext x161)⟩
    have H := H.2 hc158
    exact W_skip ⟨1, H, _, env_eq ⟨rfl, rfl, rfl, rfl, trivial⟩, X, ex, ex4, ex10, ex13, ex17⟩
   rintro first _ wx149 ⟨H, ρ, rfl, HF⟩
   revert HF
   refine bb6 fun X155 ex150 ex151 ex152 ex153 ex154 => ?_
   subst hk157
   refine W_seq (W_region ?_)
   refine LP_ev ok 0 [(48, I first), (7, I first)] 2 rfl rfl ?_
   refine LP_end _ rfl ?_
   refine W_block ?_
   obtain ⟨J, m187, Hx, H⟩ := H
   refine W_loop (S := Int × Int × (List Edit)) (fun s ρ' w' => J s.1 s.2.1 s.2.2 ∧ ∃ (ρ : Env) (vx170 : Value) (hx171 : PH), ρ' = setAll [(0, pb b), (1, I k), (2, sl a18 sets c19), (7, I s.1)] ρ ∧ But M w w' ∧ OD hx171 vx170 s.2.2 ∧ Sub hx171 w' ∧ DomLe M w.heap.size hx171 ∧ Sub hx w' ∧ Sub hx2 w' ∧ Sub hx15 w' ∧ Sub (bx b 108 [sl a x.S c, sl a5 x.Passing c6, I s.2.1, vx170]) w' ∧ Dj hx171 hx ∧ Dj hx171 hx2 ∧ Dj hx171 hx15 ∧ Dj hx171 (bx b 108 [sl a x.S c, sl a5 x.Passing c6, I s.2.1, vx170])) (fun s => m187 s.1 s.2.1 s.2.2) (first, x.V, x.Out) ⟨Hx, _, sl a11 x.Out c12, hx8, env_eq ⟨rfl, rfl, rfl, rfl, trivial⟩, X155, r9, ex152, (Dom.le D _), ex150, ex151, ex154, ex153, d20, d21, d22, d⟩ ?_
   rintro ⟨setx, vx168, out169⟩ _ wx175 ⟨Hi, ρ, vx170, hx171, rfl, HF⟩
   revert HF
   refine bb9 fun X186 o172 ex173 f174 ex176 ex177 ex178 ex181 => ?_
   refine bb4 fun d182 d183 d184 d185 => ?_
   have H := H setx vx168 out169 Hi
   obtain ⟨a179, c180, rfl⟩ := o172.shape
   refine W_seq ?_
   refine W_seq (W_region ?_)
   refine LP_ev ok 0 [(49, I setx), (50, pb b), (51, pb b), (52, pb b)] 4 rfl rfl ?_
   refine LP_ldbox 4 (v := sl a x.S c) rfl rfl rfl ti_23 ag_23 (fun _ => rfl) rfl ex181 rfl rfl ?_
   refine LP_ev ok 5 [(54, I k)] 6 rfl rfl ?_
   refine LP_call 6 rfl rfl rfl cal_100 rfl (spec_eFull_w _ _ _ H wx175 r ex176) ?_
   rintro _ wx189 ⟨r188, H, rfl, x190⟩
   refine LP_ev ok 7 [(56, .bool (decide (setx ≤ r188)))] 8 rfl rfl ?_
   refine LP_end _ rfl ?_
   refine W_cond (decide (setx ≤ r188)) rfl (fun hc191 => ?_) (fun hc191 => ?_)
   ·have H := H.1 hc191
    refine W_skip ?_
    refine W_seq ?_
    refine W_block ?_
    refine W_region ?_
    refine LP_ev ok 0 [(59, pb b), (60, I k), (61, I (wr (k + 1))), (62, sl a18 sets c19)] 4 rfl rfl ?_
    have ex193 := (ex178.ext x190)
    refine LP_call 4 rfl rfl rfl cal_87 rfl (spec_l1Own_w _ _ H wx189 r16 ex193) ?_
    rintro _ wx194 ⟨r192, vx196, hx197, H, rfl, x195, o198, ex199, f200⟩
    obtain ⟨a201, c202, rfl⟩ := o198.shape
    refine LP_ev ok 5 [(64, I setx)] 6 rfl rfl ?_
    refine LP_lit (α := Int) (g := emp) 6 (vs := [I setx]) (xs := [setx]) rfl rfl rfl Try.underlying25 ti_3 rfl rfl ⟨⟨_, rfl, rfl⟩, trivial⟩ rfl rfl fun hx203 vx204 wx205 x206 o207 ex208 f209 => ?_
    obtain ⟨a210, c211, rfl⟩ := o207.shape
    obtain ⟨hb213, H⟩ := H
    refine LP_appendf (α := Int) 7 rfl rfl rfl Try.underlying25 ti_3 rfl rfl rfl o198 (ex199.ext x206) o207.readf ex208 (by first | omega | (simp only [ln] at *; omega)) (by first | omega | (simp only [ln] at *; omega)) fun hx214 vx215 wx216 o217 ex218 y219 dm220 => ?_
    obtain ⟨a221, c222, rfl⟩ := o217.shape
    have ex223 := (ex173.ext x190)
    have xc224 := (x195.trans x206)
    have ex225 := (ex223.ext xc224)
    have ex226 := (ex181.ext x190)
    have ex227 := (ex226.ext xc224)
    have xc230 := ((x190.trans x195).trans x206)
    have ex232 := ((ex176.ext xc230).but y219 (Dj.of_fresh (ex176.ext x190) f200).symm)
    have ex234 := ((ex177.ext xc230).but y219 (Dj.of_fresh (ex177.ext x190) f200).symm)
    refine LP_call 8 rfl rfl rfl cal_98 rfl (ih _ _ _ _ H.1 (Nat.lt_of_lt_of_le H.2 (Nat.le_of_lt_succ hm)) wx216 r ex232 r3 ex234 o172 (ex225.but y219 (Dj.of_fresh ex223 f200).symm) (ex227.but y219 (Dj.of_fresh ex226 f200).symm) o217.readf ex218 d185 d182 d183 (DomLe.dj dm220 (Dj.of_fresh ex223 f200).symm ex225).symm (Dj.box d23) (Dj.box d24) (DomLe.dj dm220 (Dj.of_fresh ex226 f200).symm ex227).symm) ?_
    rintro _ wx237 ⟨r228, r229, vx243, hx239, H, rfl, x238, HF⟩
    revert HF
    refine bb5 fun o240 ex241 dm242 ex244 d245 => ?_
    obtain ⟨a246, c247, rfl⟩ := o240.shape
    refine LP_end _ rfl ?_
    refine W_region ?_
    refine LP_ev ok 0 [(57, I setx), (58, I (wr (setx + 1))), (7, I (wr (setx + 1)))] 3 rfl rfl ?_
    refine LP_end _ rfl ?_
    have X249 := (X186.stepx x190)
    have f248 := f200.mono X249.size
    exact ⟨(wr (setx + 1), r229, r228), ⟨H.1, _, sl a246 r228 c247, hx239, env_eq ⟨rfl, rfl, rfl, rfl, trivial⟩, (((X186.stepx xc230).step y219 (f248.dom _)).step x238 (DomLe.un f174 (DomLe.dom D26 single_dom))), o240, ex241, (DomLe.trans (DomLe.un f174 (DomLe.dom D26 single_dom)) dm242 ((X249.stepx xc224).step y219 (f248.dom _)).size), (ex232.but x238 (Dj.un_l d182 (Dj.box d23))), (ex234.but x238 (Dj.un_l d183 (Dj.box d24))), (((ex193.ext xc224).but y219 (Dj.of_fresh ex193 f200).symm).but x238 (Dj.un_l d184 (Dj.box d25))), ex244, (DomLe.dj dm242 (Dj.un_l d182 (Dj.box d23)) ex232), (DomLe.dj dm242 (Dj.un_l d183 (Dj.box d24)) ex234), (DomLe.dj dm242 (Dj.un_l d184 (Dj.box d25)) ((ex193.ext xc224).but y219 (Dj.of_fresh ex193 f200).symm)), d245⟩, H.2⟩
   have H := H.2 hc191
   refine W_exit ?_
   refine (if_pos rfl).mpr ?_
   subst hM
   exact ⟨_, Ret_of [] trivial, _, _, _, _, H, rfl, (X186.stepx x190), o172, (ex173.ext x190), f174, (ex181.ext x190), d185⟩
 exact key _ x k sets Q H0 (Nat.lt_succ_self _) w r ex r3 ex4 r9 ex10 ex13 r16 ex17 d d20 d21 d22 d23 d24 d25

theorem spec_eMaximal_w (sx : List Variable) (l : List Edit) (vx7 : Int) (Q : (List Edit) → Prop) (H : spec_eMaximal sx l vx7 Q) (w : World) {vx : Value} {hx : PH} (r : RS hx vx sx) (ex : Sub hx w) {vx1 : Value} {hx2 : PH} (r3 : RS hx2 vx1 l) (ex4 : Sub hx2 w) :
  CallsTo Try.prog 57 #[vx, vx1, I vx7] w fun v w' => ∃ r0 u0 g0, Q r0 ∧ v = u0 ∧ Ext w w' ∧ OD g0 u0 r0 ∧ Sub g0 w' ∧ Fresh w.heap.size g0 := by
 obtain ⟨a, c, rfl⟩ := r.shape
 obtain ⟨a5, c6, rfl⟩ := r3.shape
 refine enter (args := [sl a sx c, sl a5 l c6, I vx7]) 44 Try.func57 rfl rfl rfl ?_
 refine W_forget [(0, sl a sx c), (1, sl a5 l c6), (2, I vx7)] ⟨rfl, rfl, rfl, trivial⟩ fun ρ => ?_
 have X := But.refl emp w
 refine W_seq (W_region ?_)
 refine LP_ev ok 0 [(6, .slice none 0 0)] 1 rfl rfl ?_
 refine LP_end _ rfl (W_seq (W_region ?_))
 refine LP_ev ok 0 [(10, sl a sx c), (11, I vx7), (12, .agg #[sl a sx c, .slice none 0 0, I vx7, .slice none 0 0])] 3 rfl rfl ?_
 refine LP_box 3 (cs := [sl a sx c, .slice none 0 0, I vx7, .slice none 0 0]) rfl rfl rfl rfl rfl fun b wx x ex8 f => ?_
 refine LP_ev ok 4 [(7, pb b)] 5 rfl rfl ?_
 refine LP_end _ rfl (W_seq ?_)
 refine W_seq (W_region ?_)
 refine LP_ev ok 0 [(8, I 0)] 1 rfl rfl ?_
 refine LP_end _ rfl ?_
 refine W_block ?_
 obtain ⟨J, m, Hx, H⟩ := H
 refine W_loop (S := Int × (List (List Int))) (fun s ρ' w' => J s.1 s.2 ∧ ∃ (ρ : Env) (vx9 : Value) (hx10 : PH), ρ' = setAll [(0, sl a sx c), (1, sl a5 l c6), (7, pb b), (8, I s.1)] ρ ∧ But emp w w' ∧ OD hx10 vx9 s.2 ∧ Sub hx10 w' ∧ Fresh w.heap.size hx10 ∧ Sub hx w' ∧ Sub hx2 w' ∧ Sub (bx b 108 [sl a sx c, vx9, I vx7, .slice none 0 0]) w' ∧ Dj hx10 hx ∧ Dj hx10 hx2 ∧ Dj hx10 (bx b 108 [sl a sx c, vx9, I vx7, .slice none 0 0])) (fun s => m s.1 s.2) (0, []) ⟨Hx, _, .slice none 0 0, emp, env_eq ⟨rfl, rfl, rfl, rfl, trivial⟩, (X.stepx x), OD.nil, (emp_sub _), (emp_fresh _), (ex.ext x), (ex4.ext x), ex8, (fun _ => .inl rfl), (fun _ => .inl rfl), (fun _ => .inl rfl)⟩ ?_
 rintro ⟨i, passing⟩ _ wx13 ⟨Hi, ρ, vx9, hx10, rfl, HF⟩
 revert HF
 refine bb9 fun X21 o ex11 f12 ex14 ex15 ex18 d => ?_
 refine bb2 fun d19 d20 => ?_
 have H := H i passing Hi
 obtain ⟨a16, c17, rfl⟩ := o.shape
 refine W_seq ?_
 refine W_seq (W_region ?_)
 refine LP_ev ok 0 [(14, I i), (15, sl a sx c)] 2 rfl rfl ?_
 refine LP_call 2 rfl rfl rfl cal_67 rfl (spec_sCount_w _ _ H wx13 r ex14) ?_
 rintro _ wx26 ⟨r25, H, rfl, x27⟩
 refine LP_ev ok 3 [(17, .bool (decide (i < r25)))] 4 rfl rfl ?_
 refine LP_end _ rfl ?_
 refine W_cond (decide (i < r25)) rfl (fun hc => ?_) (fun hc => ?_)
 ·have H := H.1 hc
  refine W_skip ?_
  have X28 := (X21.stepx x27)
  have ex29 := (ex14.ext x27)
  have ex30 := (ex15.ext x27)
  have ex31 := (ex18.ext x27)
  have f32 := f.mono X.size
  have ex33 := (ex11.ext x27)
  obtain ⟨k, hk, H⟩ := jn_elim H
  refine W_join2 (S := (List (List Int))) (fun s ρ' w' => k s ∧ ∃ (ρ : Env) (vx35 : Value) (hx36 : PH), ρ' = setAll [(0, sl a sx c), (1, sl a5 l c6), (7, pb b), (8, I i)] ρ ∧ But emp w w' ∧ OD hx36 vx35 s ∧ Sub hx36 w' ∧ Fresh w.heap.size hx36 ∧ Sub hx w' ∧ Sub hx2 w' ∧ Sub (bx b 108 [sl a sx c, vx35, I vx7, .slice none 0 0]) w' ∧ Dj hx36 hx ∧ Dj hx36 hx2 ∧ Dj hx36 (bx b 108 [sl a sx c, vx35, I vx7, .slice none 0 0])) ?_ ?_
  ·refine W_block ?_
   refine W_seq (W_region ?_)
   refine LP_ev ok 0 [(20, sl a sx c), (21, I i)] 2 rfl rfl ?_
   refine LP_call 2 rfl rfl rfl cal_97 rfl (spec_sAt_w _ _ _ H wx26 r ex29) ?_
   rintro _ wx51 ⟨r50, vx53, hx54, H, rfl, x52, o55, ex56, f57⟩
   obtain ⟨a58, c59, rfl⟩ := o55.shape
   refine LP_ev ok 3 [(9, sl a58 r50 c59)] 4 rfl rfl ?_
   refine LP_end _ rfl (W_seq (W_region ?_))
   refine LP_ev ok 0 [(23, sl a5 l c6), (24, sl a58 r50 c59)] 2 rfl rfl ?_
   have ex61 := (ex30.ext x52)
   refine LP_call 2 rfl rfl rfl cal_40 rfl (spec_eFailed_w _ _ _ H wx51 r3 ex61 o55.readf ex56) ?_
   rintro _ wx62 ⟨r60, vx64, hx65, H, rfl, x63, o66, ex67, f68⟩
   obtain ⟨a69, c70, rfl⟩ := o66.shape
   refine LP_ev ok 3 [(26, I (ln r60)), (27, .bool ((ln r60) == 0))] 5 rfl rfl ?_
   refine LP_end _ rfl ?_
   refine W_cond ((ln r60) == 0) rfl (fun hc71 => ?_) (fun hc71 => ?_)
   ·have H := H.1 hc71
    refine W_region ?_
    refine LP_ev ok 0 [(28, pb b), (29, pb b), (30, pb b), (31, .pointer (some ⟨b, 1, none⟩))] 4 rfl rfl ?_
    have xc := (x52.trans x63)
    have ex72 := (ex31.ext xc)
    refine LP_ldbox 4 (v := sl a16 passing c17) rfl rfl rfl ti_106 ag_106 (fun _ => rfl) rfl ex72 rfl rfl ?_
    refine LP_ev ok 5 [(33, sl a58 r50 c59)] 6 rfl rfl ?_
    refine LP_litD (α := List Int) 6 (vs := [sl a58 r50 c59]) (xs := [r50]) rfl rfl rfl Try.underlying106 ti_25 rfl rfl (allO.one (OD.rvo (OS.od o55))) (ex56.ext x63) rfl rfl fun hx74 vx75 wx76 x77 o78 ex79 dm => ?_
    obtain ⟨a80, c81, rfl⟩ := o78.shape
    have xc82 := (xc.trans x77)
    obtain ⟨hb, H⟩ := H
    refine LP_appendD (α := List Int) 7 rfl rfl rfl Try.underlying106 ti_25 rfl rfl rfl o (ex33.ext xc82) o78 ex79 (DomLe.dj dm (Dj.of_fresh ex33 f57).symm (ex33.ext xc)).symm (by first | omega | (simp only [ln] at *; omega)) (by first | omega | (simp only [ln] at *; omega)) fun hx85 vx86 wx87 hw o88 ex89 y dh dm90 => ?_
    obtain ⟨a91, c92, rfl⟩ := o88.shape
    refine LP_ev ok 8 [(36, pb b), (37, .pointer (some ⟨b, 1, none⟩))] 10 rfl rfl ?_
    refine LP_stbox 10 (vs := [.slice a91 (List.length (passing ++ ([r50]))) c92]) (cs' := [sl a sx c, .slice a91 (List.length (passing ++ ([r50]))) c92, I vx7, .slice none 0 0]) rfl rfl rfl ti_106 rfl rfl rfl rfl rfl ((ex72.ext x77).but (But.dom y dh) d20) rfl rfl fun wx93 ex94 y95 => ?_
    refine LP_end _ rfl ?_
    have ex98 := (ex72.ext x77)
    have f100 := f57.mono X28.size
    have X102 := (X28.stepx xc)
    have f101 := DomLe.fresh dm f100 X102.size
    have f103 := DomLe.fresh dm90 (Fresh.un f12 f101) (X102.stepx x77).size
    have ex108 := (ex29.ext xc)
    have ex110 := (ex61.ext x63)
    exact ⟨passing ++ ([r50]), H, _, .slice a91 (List.length (passing ++ ([r50]))) c92, hx85, env_eq ⟨rfl, rfl, rfl, rfl, trivial⟩, (((X28.stepx xc82).step (But.dom y dh) (f12.dom _)).step y95 ((Fresh.box f32).dom _)), o88, (ex89.but y95 (DomLe.dj dm90 (Dj.un_l d20 (DomLe.dj dm (Dj.of_fresh ex31 f57).symm ex72)) ex98).symm), f103, (((ex29.ext xc82).but (But.dom y dh) d).but y95 (Dj.box (Dj.of_fresh ex f).symm)), (((ex61.ext (x63.trans x77)).but (But.dom y dh) d19).but y95 (Dj.box (Dj.of_fresh ex4 f).symm)), ex94, (DomLe.dj dm90 (Dj.un_l d (DomLe.dj dm (Dj.of_fresh ex29 f57).symm ex108)) (ex108.ext x77)), (DomLe.dj dm90 (Dj.un_l d19 (DomLe.dj dm (Dj.of_fresh ex30 f57).symm ex110)) (ex110.ext x77)), (Dj.box (DomLe.dj dm90 (Dj.un_l d20 (DomLe.dj dm (Dj.of_fresh ex31 f57).symm ex72)) ex98).symm).symm⟩
   have H := H.2 hc71
   refine W_skip ?_
   have xc112 := (x52.trans x63)
   exact ⟨passing, H, _, sl a16 passing c17, hx10, env_eq ⟨rfl, rfl, rfl, rfl, trivial⟩, (X28.stepx xc112), o, (ex33.ext xc112), f12, (ex29.ext xc112), (ex61.ext x63), (ex31.ext xc112), d, d19, d20⟩
  rintro passing34 _ wx40 ⟨H, ρ, vx35, hx36, rfl, HF⟩
  revert HF
  refine bb9 fun X49 o37 ex38 f39 ex41 ex42 ex45 d46 => ?_
  refine bb2 fun d47 d48 => ?_
  subst hk
  obtain ⟨a43, c44, rfl⟩ := o37.shape
  refine W_region ?_
  refine LP_ev ok 0 [(18, I i), (19, I (wr (i + 1))), (8, I (wr (i + 1)))] 3 rfl rfl ?_
  exact LP_end _ rfl ⟨(wr (i + 1), passing34), ⟨H.1, _, sl a43 passing34 c44, hx36, env_eq ⟨rfl, rfl, rfl, rfl, trivial⟩, X49, o37, ex38, f39, ex41, ex42, ex45, d46, d47, d48⟩, H.2⟩
 have H := H.2 hc
 refine W_exit ?_
 refine (if_pos rfl).mpr ?_
 refine W_seq (W_region ?_)
 refine LP_ev ok 0 [(38, pb b)] 1 rfl rfl ?_
 refine LP_call 1 rfl rfl rfl cal_98 rfl (spec_eSearch_run_w _ _ _ _ H wx26 r (ex14.ext x27) o.readf (ex11.ext x27) (OD.nil (α := Edit)) (emp_sub _) (ex18.ext x27) (.inl ⟨rfl, rfl⟩) (emp_sub _) (Dj.emp_l _) (Dj.emp_l _) (Dj.emp_l _) (Dj.emp_l _) (Dj.box (Dj.of_fresh ex f).symm) d20.symm (Dj.emp_r _)) ?_
 rintro _ wx123 ⟨r118, r119, vx129, hx125, H, rfl, x124, HF⟩
 revert HF
 refine bb5 fun o126 ex127 dm128 ex130 d131 => ?_
 obtain ⟨a132, c133, rfl⟩ := o126.shape
 refine LP_end _ rfl (W_seq (W_region ?_))
 refine LP_ev ok 0 [(40, pb b), (41, pb b), (42, .pointer (some ⟨b, 3, none⟩))] 3 rfl rfl ?_
 refine LP_ldbox 3 (v := sl a132 r118 c133) rfl rfl rfl ti_24 ag_24 (fun _ => rfl) rfl ex130 rfl rfl ?_
 refine LP_ev ok 4 [(6, sl a132 r118 c133)] 5 rfl rfl ?_
 refine LP_end _ rfl (W_ret ?_)
 have f134 := f.mono X.size
 have X136 := (X21.stepx x27)
 have f135 := DomLe.fresh dm128 (Fresh.un (emp_fresh _) (Fresh.box f134)) X136.size
 exact ⟨_, Ret_of [sl a132 r118 c133] ⟨⟨rfl, rfl⟩, trivial⟩, _, _, _, H, rfl, (X136.step x124 (DomLe.un (fun _ _ _ => rfl) ((Fresh.box f134).dom _))).ext, o126, ex127, f135⟩

theorem spec_eInvolved_w (sx : List Variable) (ex1 : Edit) (Q : (List Int) → Prop) (H : spec_eInvolved sx ex1 Q) (w : World) {vx : Value} {hx : PH} (r : RS hx vx sx) (ex : Sub hx w) {vx2 : Value} {hx3 : PH} (r4 : RS hx3 vx2 ex1.Sets) (ex5 : Sub hx3 w) :
  CallsTo Try.prog 60 #[vx, .agg #[vx2]] w fun v w' => ∃ r0 u0 g0, Q r0 ∧ v = u0 ∧ Ext w w' ∧ OS 3 g0 emp u0 r0 ∧ Sub g0 w' ∧ Fresh w.heap.size g0 := by
 obtain ⟨a, c, rfl⟩ := r.shape
 obtain ⟨a6, c7, rfl⟩ := r4.shape
 refine enter (args := [sl a sx c, .agg #[sl a6 ex1.Sets c7]]) 27 Try.func60 rfl rfl rfl ?_
 refine W_forget [(0, sl a sx c), (1, .agg #[sl a6 ex1.Sets c7])] ⟨rfl, rfl, trivial⟩ fun ρ => ?_
 have X := But.refl emp w
 refine W_seq (W_region ?_)
 refine LP_box 0 (cs := [sl a6 ex1.Sets c7]) rfl rfl rfl rfl rfl fun b wx x ex8 f => ?_
 refine LP_ev ok 1 [(4, .slice none 0 0)] 2 rfl rfl ?_
 refine LP_end _ rfl (W_seq (W_region ?_))
 refine LP_ev ok 0 [(5, .slice none 0 0)] 1 rfl rfl ?_
 refine LP_end _ rfl (W_seq ?_)
 refine W_seq (W_region ?_)
 refine LP_ev ok 0 [(8, pb b)] 1 rfl rfl ?_
 refine LP_ldbox 1 (v := sl a6 ex1.Sets c7) rfl rfl rfl ti_25 ag_25 (fun _ => rfl) rfl ex8 rfl rfl ?_
 refine LP_ev ok 2 [(10, I (ln ex1.Sets)), (11, I 0)] 4 rfl rfl ?_
 refine LP_end _ rfl ?_
 refine W_block ?_
 obtain ⟨J, m, Hx, H⟩ := H
 refine W_loop (S := (List Int) × Int) (fun s ρ' w' => J s.1 s.2 ∧ ∃ (ρ : Env) (vx9 : Value) (hx10 : PH), ρ' = setAll [(0, sl a sx c), (5, vx9), (9, sl a6 ex1.Sets c7), (10, I (ln ex1.Sets)), (11, I s.2)] ρ ∧ But emp w w' ∧ OS 3 hx10 emp vx9 s.1 ∧ Sub hx10 w' ∧ Fresh w.heap.size hx10 ∧ Sub hx w' ∧ Sub hx3 w' ∧ Dj hx10 hx ∧ Dj hx10 hx3) (fun s => m s.1 s.2) ([], 0) ⟨Hx, _, .slice none 0 0, emp, env_eq ⟨rfl, rfl, rfl, rfl, rfl, trivial⟩, (X.stepx x), OS.nil, (emp_sub _), (emp_fresh _), (ex.ext x), (ex5.ext x), (fun _ => .inl rfl), (fun _ => .inl rfl)⟩ ?_
 rintro ⟨out, x13⟩ _ wx14 ⟨Hi, ρ, vx9, hx10, rfl, HF⟩
 revert HF
 refine bb8 fun X20 o ex11 f12 ex15 ex16 d d19 => ?_
 have H := H out x13 Hi
 obtain ⟨a17, c18, rfl⟩ := o.shape
 refine W_seq (W_region ?_)
 refine LP_ev ok 0 [(12, .bool (decide (x13 < (ln ex1.Sets))))] 1 rfl rfl ?_
 refine LP_end _ rfl (W_seq ?_)
 refine W_cond (decide (x13 < (ln ex1.Sets))) rfl (fun hc => ?_) (fun hc => ?_)
 ·have H := H.1 hc
  refine W_skip ?_
  obtain ⟨k, hk, H⟩ := jn_elim H
  refine W_join2 (S := (List Int)) (fun s ρ' w' => k s ∧ ∃ (ρ : Env) (vx25 : Value) (hx26 : PH), ρ' = setAll [(0, sl a sx c), (5, vx25), (9, sl a6 ex1.Sets c7), (10, I (ln ex1.Sets)), (11, I x13)] ρ ∧ But emp w w' ∧ OS 3 hx26 emp vx25 s ∧ Sub hx26 w' ∧ Fresh w.heap.size hx26 ∧ Sub hx w' ∧ Sub hx3 w' ∧ Dj hx26 hx ∧ Dj hx26 hx3) ?_ ?_
  ·refine W_block ?_
   refine W_seq (W_region ?_)
   refine LP_ev ok 0 [(13, I x13)] 1 rfl rfl ?_
   obtain ⟨x38, hi, hx39, H⟩ := H
   refine LP_index 1 rfl rfl rfl Try.underlying25 ti_3 rfl rfl r4 hi hx39 fun a40 cs r41 d42 => ?_
   refine LP_load 2 rfl rfl rfl ti_3 ag_3 rfl r41 d42 ex16 fun vx43 r44 => ?_
   obtain rfl := r44.int
   refine LP_ev ok 3 [(6, I x13), (7, I x38)] 5 rfl rfl ?_
   refine LP_end _ rfl (W_seq (W_region ?_))
   refine LP_ev ok 0 [(16, I x38), (17, sl a sx c), (18, I x13)] 3 rfl rfl ?_
   refine LP_call 3 rfl rfl rfl cal_100 rfl (spec_eFull_w _ _ _ H wx14 r ex15) ?_
   rintro _ wx46 ⟨r45, H, rfl, x47⟩
   refine LP_ev ok 4 [(20, .bool (x38 != r45))] 5 rfl rfl ?_
   refine LP_end _ rfl ?_
   refine W_cond (x38 != r45) rfl (fun hc48 => ?_) (fun hc48 => ?_)
   ·have H := H.1 hc48
    refine W_region ?_
    refine LP_ev ok 0 [(21, sl a17 out c18), (22, I x13)] 2 rfl rfl ?_
    refine LP_lit (α := Int) (g := emp) 2 (vs := [I x13]) (xs := [x13]) rfl rfl rfl Try.underlying25 ti_3 rfl rfl ⟨⟨_, rfl, rfl⟩, trivial⟩ rfl rfl fun hx49 vx50 wx51 x52 o53 ex54 f55 => ?_
    obtain ⟨a56, c57, rfl⟩ := o53.shape
    have xc := (x47.trans x52)
    obtain ⟨hb, H⟩ := H
    refine LP_appendf (α := Int) 3 rfl rfl rfl Try.underlying25 ti_3 rfl rfl rfl o (ex11.ext xc) o53.readf ex54 (by first | omega | (simp only [ln] at *; omega)) (by first | omega | (simp only [ln] at *; omega)) fun hx59 vx60 wx61 o62 ex63 y dm => ?_
    obtain ⟨a64, c65, rfl⟩ := o62.shape
    refine LP_ev ok 4 [(5, .slice a64 (List.length (out ++ ([x13]))) c65)] 5 rfl rfl ?_
    refine LP_end _ rfl ?_
    have f67 := dm.fresh f12 (X20.stepx xc).size
    exact ⟨out ++ ([x13]), H, _, .slice a64 (List.length (out ++ ([x13]))) c65, hx59, env_eq ⟨rfl, rfl, rfl, rfl, rfl, trivial⟩, ((X20.stepx xc).step y (f12.dom _)), o62, ex63, f67, ((ex15.ext xc).but y d), ((ex16.ext xc).but y d19), (DomLe.dj dm d (ex15.ext xc)), (DomLe.dj dm d19 (ex16.ext xc))⟩
   have H := H.2 hc48
   exact W_skip ⟨out, H, _, sl a17 out c18, hx10, env_eq ⟨rfl, rfl, rfl, rfl, rfl, trivial⟩, (X20.stepx x47), o, (ex11.ext x47), f12, (ex15.ext x47), (ex16.ext x47), d, d19⟩
  rintro out24 _ wx30 ⟨H, ρ, vx25, hx26, rfl, HF⟩
  revert HF
  refine bb8 fun X37 o27 ex28 f29 ex31 ex32 d35 d36 => ?_
  subst hk
  obtain ⟨a33, c34, rfl⟩ := o27.shape
  refine W_region ?_
  refine LP_ev ok 0 [(25, I (wr (x13 + 1))), (11, I (wr (x13 + 1)))] 2 rfl rfl ?_
  exact LP_end _ rfl ⟨(out24, wr (x13 + 1)), ⟨H.1, _, sl a33 out24 c34, hx26, env_eq ⟨rfl, rfl, rfl, rfl, rfl, trivial⟩, X37, o27, ex28, f29, ex31, ex32, d35, d36⟩, H.2⟩
 have H := H.2 hc
 refine W_exit ?_
 refine (if_pos rfl).mpr ?_
 refine W_seq (W_region ?_)
 refine LP_ev ok 0 [(26, sl a17 out c18), (4, sl a17 out c18)] 2 rfl rfl ?_
 refine LP_end _ rfl (W_ret ?_)
 exact ⟨_, Ret_of [sl a17 out c18] ⟨⟨rfl, rfl⟩, trivial⟩, _, _, _, H, rfl, X20.ext, o, ex11, f12⟩

theorem spec_iShares_w (a : List Int) (b : List Int) (Q : Bool → Prop) (H : spec_iShares a b Q) (w : World) {vx : Value} {hx : PH} (r : RS hx vx a) (ex : Sub hx w) {vx2 : Value} {hx3 : PH} (r4 : RS hx3 vx2 b) (ex5 : Sub hx3 w) :
  CallsTo Try.prog 59 #[vx, vx2] w fun v w' => ∃ r0, Q r0 ∧ v = .bool r0 ∧ Ext w w' := by
 obtain ⟨a1, c, rfl⟩ := r.shape
 obtain ⟨a6, c7, rfl⟩ := r4.shape
 refine enter (args := [sl a1 a c, sl a6 b c7]) 17 Try.func59 rfl rfl rfl ?_
 refine W_forget [(0, sl a1 a c), (1, sl a6 b c7)] ⟨rfl, rfl, trivial⟩ fun ρ => ?_
 have X := But.refl emp w
 refine W_seq (W_region ?_)
 refine LP_ev ok 0 [(4, .bool false)] 1 rfl rfl ?_
 refine LP_end _ rfl (W_seq ?_)
 refine W_seq (W_region ?_)
 refine LP_ev ok 0 [(7, sl a1 a c), (8, I (ln a)), (9, I 0)] 3 rfl rfl ?_
 refine LP_end _ rfl ?_
 refine W_block ?_
 obtain ⟨J, m, Hx, H⟩ := H
 refine W_loop (S := Int) (fun s ρ' w' => J s ∧ ∃ (ρ : Env), ρ' = setAll [(1, sl a6 b c7), (7, sl a1 a c), (8, I (ln a)), (9, I s)] ρ ∧ But emp w w' ∧ Sub hx w' ∧ Sub hx3 w') (fun s => m s) 0 ⟨Hx, _, env_eq ⟨rfl, rfl, rfl, rfl, trivial⟩, X, ex, ex5⟩ ?_
 rintro x _ wx ⟨Hi, ρ, rfl, X10, ex8, ex9⟩
 have H := H x Hi
 refine W_seq (W_region ?_)
 refine LP_ev ok 0 [(10, .bool (decide (x < (ln a))))] 1 rfl rfl ?_
 refine LP_end _ rfl (W_seq ?_)
 refine W_cond (decide (x < (ln a))) rfl (fun hc => ?_) (fun hc => ?_)
 ·have H := H.1 hc
  refine W_skip ?_
  refine W_seq ?_
  refine W_block ?_
  refine W_seq (W_region ?_)
  obtain ⟨x11, hi, hx12, H⟩ := H
  refine LP_index 0 rfl rfl rfl Try.underlying25 ti_3 rfl rfl r hi hx12 fun a13 cs r14 d => ?_
  refine LP_load 1 rfl rfl rfl ti_3 ag_3 rfl r14 d ex8 fun vx15 r16 => ?_
  obtain rfl := r16.int
  refine LP_ev ok 2 [(6, I x11)] 3 rfl rfl ?_
  refine LP_end _ rfl (W_seq (W_region ?_))
  refine LP_ev ok 0 [(13, sl a6 b c7), (14, I x11)] 2 rfl rfl ?_
  refine LP_call 2 rfl rfl rfl cal_99 rfl (spec_l1Has_w _ _ _ H wx r4 ex9) ?_
  rintro _ wx18 ⟨r17, H, rfl, x19⟩
  refine LP_end _ rfl ?_
  refine W_cond (r17) rfl (fun hc20 => ?_) (fun hc20 => ?_)
  ·have H := H.1 hc20
   refine W_seq (W_region ?_)
   refine LP_ev ok 0 [(4, .bool true)] 1 rfl rfl ?_
   refine LP_end _ rfl (W_ret ?_)
   exact ⟨_, Ret_of [.bool true] ⟨⟨rfl, rfl⟩, trivial⟩, _, H, rfl, (X10.stepx x19).ext⟩
  have H := H.2 hc20
  refine W_skip ?_
  refine W_region ?_
  refine LP_ev ok 0 [(16, I (wr (x + 1))), (9, I (wr (x + 1)))] 2 rfl rfl ?_
  exact LP_end _ rfl ⟨wr (x + 1), ⟨H.1, _, env_eq ⟨rfl, rfl, rfl, rfl, trivial⟩, (X10.stepx x19), (ex8.ext x19), (ex9.ext x19)⟩, H.2⟩
 have H := H.2 hc
 refine W_exit ?_
 refine (if_pos rfl).mpr ?_
 refine W_seq (W_region ?_)
 refine LP_ev ok 0 [(4, .bool false)] 1 rfl rfl ?_
 refine LP_end _ rfl (W_ret ?_)
 exact ⟨_, Ret_of [.bool false] ⟨⟨rfl, rfl⟩, trivial⟩, _, H, rfl, X10.ext⟩

theorem spec_IsCover_w (sx : List Variable) (l : List Edit) (values : List Int) (vars : List Int) (Q : Bool → Bool → Prop) (H : spec_IsCover sx l values vars Q) (w : World) {vx : Value} {hx : PH} (r : RS hx vx sx) (ex : Sub hx w) {vx1 : Value} {hx2 : PH} (r3 : RS hx2 vx1 l) (ex4 : Sub hx2 w) {vx7 : Value} {hx8 : PH} (r9 : RS hx8 vx7 values) (ex10 : Sub hx8 w) {vx13 : Value} {hx14 : PH} (r15 : RS hx14 vx13 vars) (ex16 : Sub hx14 w) :
  CallsTo Try.prog 21 #[vx, vx1, vx7, vx13] w fun v w' => ∃ r0 r1, Q r0 r1 ∧ v = .tuple #[.bool r0, .bool r1] ∧ Ext w w' := by
 obtain ⟨a, c, rfl⟩ := r.shape
 obtain ⟨a5, c6, rfl⟩ := r3.shape
 obtain ⟨a11, c12, rfl⟩ := r9.shape
 obtain ⟨a17, c18, rfl⟩ := r15.shape
 refine enter (args := [sl a sx c, sl a5 l c6, sl a11 values c12, sl a17 vars c18]) 50 Try.func21 rfl rfl rfl ?_
 refine W_forget [(0, sl a sx c), (1, sl a5 l c6), (2, sl a11 values c12), (3, sl a17 vars c18)] ⟨rfl, rfl, rfl, rfl, trivial⟩ fun ρ => ?_
 have X := But.refl emp w
 refine W_seq (W_region ?_)
 refine LP_ev ok 0 [(8, .bool false), (9, .bool false)] 2 rfl rfl ?_
 refine LP_end _ rfl (W_seq ?_)
 obtain ⟨k, hk, H⟩ := jn_elim H
 refine W_join2 (S := Bool) (fun s ρ' w' => k s ∧ ∃ (ρ : Env), ρ' = setAll [(0, sl a sx c), (1, sl a5 l c6), (2, sl a11 values c12), (3, sl a17 vars c18), (29, .bool s)] ρ ∧ But emp w w' ∧ Sub hx w' ∧ Sub hx2 w' ∧ Sub hx8 w' ∧ Sub hx14 w') ?_ ?_
 ·refine W_region ?_
  refine LP_ev ok 0 [(12, sl a sx c), (13, sl a5 l c6)] 2 rfl rfl ?_
  refine LP_call 2 rfl rfl rfl cal_36 rfl (spec_eSmall_w _ _ _ H w r ex r3 ex4) ?_
  rintro _ wx25 ⟨r24, H, rfl, x26⟩
  refine LP_ev ok 3 [(15, .bool (!r24)), (16, .bool (!r24))] 5 rfl rfl ?_
  refine LP_split 16 (!r24) rfl (fun hc => ?_) (fun hc => ?_)
  ·have H := H.1 hc
   refine LP_ev ok 5 [(17, undef), (18, undef), (19, undef), (20, undef), (21, .bool true), (22, .bool true), (23, undef), (24, undef), (25, undef), (26, undef), (27, undef), (28, undef), (29, .bool true)] 18 rfl rfl ?_
   exact LP_end _ rfl ⟨true, H, _, env_eq ⟨rfl, rfl, rfl, rfl, rfl, trivial⟩, (X.stepx x26), (ex.ext x26), (ex4.ext x26), (ex10.ext x26), (ex16.ext x26)⟩
  have H := H.2 hc
  refine LP_ev ok 5 [(17, sl a sx c), (18, sl a11 values c12)] 7 rfl rfl ?_
  have ex33 := (ex.ext x26)
  have ex34 := (ex10.ext x26)
  refine LP_call 7 rfl rfl rfl cal_55 rfl (spec_sFits_w _ _ _ H wx25 r ex33 r9 ex34) ?_
  rintro _ wx35 ⟨r32, H, rfl, x36⟩
  refine LP_ev ok 8 [(20, .bool (!r32)), (21, .bool (!r32)), (22, .bool (!r32))] 11 rfl rfl ?_
  refine LP_split 22 (!r32) rfl (fun hc37 => ?_) (fun hc37 => ?_)
  ·have H := H.1 hc37
   refine LP_ev ok 11 [(23, undef), (24, undef), (25, undef), (26, undef), (27, undef), (28, undef), (29, .bool true)] 18 rfl rfl ?_
   refine LP_end _ rfl ?_
   have xc := (x26.trans x36)
   exact ⟨true, H, _, env_eq ⟨rfl, rfl, rfl, rfl, rfl, trivial⟩, (X.stepx xc), (ex33.ext x36), (ex4.ext xc), (ex34.ext x36), (ex16.ext xc)⟩
  have H := H.2 hc37
  refine LP_ev ok 11 [(23, sl a17 vars c18), (24, sl a sx c), (25, I (ln sx)), (26, I (wr ((ln sx) - 1)))] 15 rfl rfl ?_
  have xc44 := (x26.trans x36)
  have ex45 := (ex16.ext xc44)
  refine LP_call 15 rfl rfl rfl cal_56 rfl (spec_l1Rising_w _ _ _ _ H wx35 r15 ex45) ?_
  rintro _ wx46 ⟨r43, H, rfl, x47⟩
  refine LP_ev ok 16 [(28, .bool (!r43)), (29, .bool (!r43))] 18 rfl rfl ?_
  refine LP_end _ rfl ?_
  have xc48 := (xc44.trans x47)
  have xc50 := (x36.trans x47)
  exact ⟨!r43, H, _, env_eq ⟨rfl, rfl, rfl, rfl, rfl, trivial⟩, (X.stepx xc48), (ex33.ext xc50), (ex4.ext xc48), (ex34.ext xc50), (ex45.ext x47)⟩
 rintro x _ wx ⟨H, ρ, rfl, HF⟩
 revert HF
 refine bb5 fun X23 ex19 ex20 ex21 ex22 => ?_
 subst hk
 refine W_cond (x) rfl (fun hc55 => ?_) (fun hc55 => ?_)
 ·have H := H.1 hc55
  refine W_seq (W_region ?_)
  refine LP_ev ok 0 [(8, .bool false), (9, .bool false)] 2 rfl rfl ?_
  refine LP_end _ rfl (W_ret ?_)
  exact ⟨_, Ret_of [.bool false, .bool false] ⟨⟨rfl, rfl⟩, ⟨rfl, rfl⟩, trivial⟩, _, _, H, rfl, X23.ext⟩
 have H := H.2 hc55
 refine W_skip ?_
 refine W_seq ?_
 refine W_seq (W_region ?_)
 refine LP_ev ok 0 [(30, sl a sx c), (31, sl a5 l c6)] 2 rfl rfl ?_
 refine LP_call 2 rfl rfl rfl cal_57 rfl (spec_eMaximal_w _ _ _ _ H wx r ex19 r3 ex20) ?_
 rintro _ wx57 ⟨r56, vx59, hx60, H, rfl, x58, o, ex61, f⟩
 obtain ⟨a62, c63, rfl⟩ := o.shape
 refine LP_ev ok 3 [(33, I (ln r56)), (34, I 0)] 5 rfl rfl ?_
 refine LP_end _ rfl ?_
 refine W_block ?_
 obtain ⟨J, m, Hx, H⟩ := H
 refine W_loop (S := Int) (fun s ρ' w' => J s ∧ ∃ (ρ : Env), ρ' = setAll [(0, sl a sx c), (2, sl a11 values c12), (3, sl a17 vars c18), (32, sl a62 r56 c63), (33, I (ln r56)), (34, I s)] ρ ∧ But emp w w' ∧ Sub hx w' ∧ Sub hx8 w' ∧ Sub hx14 w' ∧ Sub hx60 w') (fun s => m s) 0 ⟨Hx, _, env_eq ⟨rfl, rfl, rfl, rfl, rfl, rfl, trivial⟩, (X23.stepx x58), (ex19.ext x58), (ex21.ext x58), (ex22.ext x58), ex61⟩ ?_
 rintro x64 _ wx65 ⟨Hi, ρ, rfl, HF⟩
 revert HF
 refine bb5 fun X70 ex66 ex67 ex68 ex69 => ?_
 have H := H x64 Hi
 refine W_seq (W_region ?_)
 refine LP_ev ok 0 [(35, .bool (decide (x64 < (ln r56))))] 1 rfl rfl ?_
 refine LP_end _ rfl (W_seq ?_)
 refine W_cond (decide (x64 < (ln r56))) rfl (fun hc75 => ?_) (fun hc75 => ?_)
 ·have H := H.1 hc75
  refine W_skip ?_
  refine W_seq ?_
  refine W_block ?_
  refine W_seq (W_region ?_)
  obtain ⟨x76, hi, hx77, H⟩ := H
  refine LP_index 0 rfl rfl rfl Try.underlying24 ti_79 rfl rfl o.readf hi hx77 fun a78 cs r79 d => ?_
  have d80 := d
  obtain ⟨u, rfl, r81⟩ := Edit_rd d80
  obtain ⟨a82, c83, rfl⟩ := r81.shape
  refine LP_load 1 rfl rfl rfl ti_79 ag_79 rfl r79 d ex69 fun vx84 r85 => ?_
  obtain ⟨u86, rfl, r87⟩ := Edit_rv r85
  obtain ⟨a88, c89, rfl⟩ := r87.shape
  refine LP_alloc 2 rfl rfl rfl ti_79 rfl fun b wx90 x91 ex92 f93 => ?_
  refine LP_stbox 3 (vs := [sl a88 x76.Sets c89]) (cs' := [sl a88 x76.Sets c89]) rfl rfl rfl ti_79 rfl rfl rfl rfl rfl ex92 rfl rfl fun wx94 ex95 y => ?_
  refine LP_end _ rfl ?_
  have f96 := f93.mono X70.size
  have X97 := ((X70.stepx x91).step y (f96.dom _))
  have ex98 := ((ex66.ext x91).but y (Dj.of_fresh ex66 f93).symm)
  have ex99 := ((ex67.ext x91).but y (Dj.of_fresh ex67 f93).symm)
  have ex100 := ((ex68.ext x91).but y (Dj.of_fresh ex68 f93).symm)
  have ex101 := ((ex69.ext x91).but y (Dj.of_fresh ex69 f93).symm)
  obtain ⟨k110, hk111, H⟩ := jn_elim H
  refine W_join2 (S := Bool) (fun s ρ' w' => k110 s ∧ ∃ (ρ : Env), ρ' = setAll [(0, sl a sx c), (2, sl a11 values c12), (3, sl a17 vars c18), (32, sl a62 r56 c63), (33, I (ln r56)), (34, I x64), (48, .bool s)] ρ ∧ But emp w w' ∧ Sub hx w' ∧ Sub hx8 w' ∧ Sub hx14 w' ∧ Sub hx60 w') ?_ ?_
  ·refine W_region ?_
   refine LP_ldbox 0 (v := .agg #[sl a88 x76.Sets c89]) rfl rfl rfl ti_79 ag_79 (fun h => by cases h) rfl ex95 rfl rfl ?_
   refine LP_ev ok 1 [(39, sl a11 values c12)] 2 rfl rfl ?_
   refine LP_call 2 rfl rfl rfl cal_58 rfl (spec_eFails_w _ _ _ H wx94 r87 ex101 r9 ex99) ?_
   rintro _ wx113 ⟨r112, H, rfl, x114⟩
   refine LP_ev ok 3 [(41, .bool r112)] 4 rfl rfl ?_
   refine LP_split 41 (r112) rfl (fun hc115 => ?_) (fun hc115 => ?_)
   ·have H := H.1 hc115
    refine LP_ev ok 4 [(42, sl a sx c)] 5 rfl rfl ?_
    refine LP_ldbox 5 (v := .agg #[sl a88 x76.Sets c89]) rfl rfl rfl ti_79 ag_79 (fun h => by cases h) rfl (ex95.ext x114) rfl rfl ?_
    have ex118 := (ex98.ext x114)
    have ex119 := (ex101.ext x114)
    refine LP_call 6 rfl rfl rfl cal_60 rfl (spec_eInvolved_w _ _ _ H wx113 r ex118 r87 ex119) ?_
    rintro _ wx120 ⟨r117, vx122, hx123, H, rfl, x121, o124, ex125, f126⟩
    obtain ⟨a127, c128, rfl⟩ := o124.shape
    refine LP_ev ok 7 [(45, sl a17 vars c18)] 8 rfl rfl ?_
    have xc130 := (x114.trans x121)
    have ex131 := (ex100.ext xc130)
    refine LP_call 8 rfl rfl rfl cal_59 rfl (spec_iShares_w _ _ _ H wx120 o124.readf ex125 r15 ex131) ?_
    rintro _ wx132 ⟨r129, H, rfl, x133⟩
    refine LP_ev ok 9 [(47, .bool (!r129)), (48, .bool (!r129))] 11 rfl rfl ?_
    refine LP_end _ rfl ?_
    have xc134 := (xc130.trans x133)
    have xc136 := (x121.trans x133)
    exact ⟨!r129, H, _, env_eq ⟨rfl, rfl, rfl, rfl, rfl, rfl, rfl, trivial⟩, (X97.stepx xc134), (ex118.ext xc136), (ex99.ext xc134), (ex131.ext x133), (ex119.ext xc136)⟩
   have H := H.2 hc115
   refine LP_ev ok 4 [(42, undef), (43, undef), (44, undef), (45, undef), (46, undef), (47, undef), (48, .bool false)] 11 rfl rfl ?_
   exact LP_end _ rfl ⟨false, H, _, env_eq ⟨rfl, rfl, rfl, rfl, rfl, rfl, rfl, trivial⟩, (X97.stepx x114), (ex98.ext x114), (ex99.ext x114), (ex100.ext x114), (ex101.ext x114)⟩
  rintro x103 _ wx104 ⟨H, ρ, rfl, HF⟩
  revert HF
  refine bb5 fun X109 ex105 ex106 ex107 ex108 => ?_
  subst hk111
  refine W_cond (x103) rfl (fun hc146 => ?_) (fun hc146 => ?_)
  ·have H := H.1 hc146
   refine W_seq (W_region ?_)
   refine LP_ev ok 0 [(8, .bool false), (9, .bool true)] 2 rfl rfl ?_
   refine LP_end _ rfl (W_ret ?_)
   exact ⟨_, Ret_of [.bool false, .bool true] ⟨⟨rfl, rfl⟩, ⟨rfl, rfl⟩, trivial⟩, _, _, H, rfl, X109.ext⟩
  have H := H.2 hc146
  refine W_skip ?_
  refine W_region ?_
  refine LP_ev ok 0 [(49, I (wr (x64 + 1))), (34, I (wr (x64 + 1)))] 2 rfl rfl ?_
  exact LP_end _ rfl ⟨wr (x64 + 1), ⟨H.1, _, env_eq ⟨rfl, rfl, rfl, rfl, rfl, rfl, trivial⟩, X109, ex105, ex106, ex107, ex108⟩, H.2⟩
 have H := H.2 hc75
 refine W_exit ?_
 refine (if_pos rfl).mpr ?_
 refine W_seq (W_region ?_)
 refine LP_ev ok 0 [(8, .bool true), (9, .bool true)] 2 rfl rfl ?_
 refine LP_end _ rfl (W_ret ?_)
 exact ⟨_, Ret_of [.bool true, .bool true] ⟨⟨rfl, rfl⟩, ⟨rfl, rfl⟩, trivial⟩, _, _, H, rfl, X70.ext⟩

theorem laws_qInts_w (a : List Int) (b : List Int) (Q : Bool → Prop) (H : laws_qInts a b Q) (w : World) {vx : Value} {hx : PH} (r : RS hx vx a) (ex : Sub hx w) {vx2 : Value} {hx3 : PH} (r4 : RS hx3 vx2 b) (ex5 : Sub hx3 w) :
  CallsTo Try.prog 12 #[vx, vx2] w fun v w' => ∃ r0, Q r0 ∧ v = .bool r0 ∧ Ext w w' := by
 obtain ⟨a1, c, rfl⟩ := r.shape
 obtain ⟨a6, c7, rfl⟩ := r4.shape
 refine enter (args := [sl a1 a c, sl a6 b c7]) 26 Try.func12 rfl rfl rfl ?_
 refine W_forget [(0, sl a1 a c), (1, sl a6 b c7)] ⟨rfl, rfl, trivial⟩ fun ρ => ?_
 have X := But.refl emp w
 refine W_seq (W_region ?_)
 refine LP_ev ok 0 [(4, .bool false)] 1 rfl rfl ?_
 refine LP_end _ rfl (W_seq ?_)
 refine W_seq (W_region ?_)
 refine LP_ev ok 0 [(6, sl a1 a c), (7, I (ln a)), (8, sl a6 b c7), (9, I (ln b)), (10, .bool ((ln a) != (ln b)))] 5 rfl rfl ?_
 refine LP_end _ rfl ?_
 refine W_cond ((ln a) != (ln b)) rfl (fun hc => ?_) (fun hc => ?_)
 ·have H := H.1 hc
  refine W_seq (W_region ?_)
  refine LP_ev ok 0 [(4, .bool false)] 1 rfl rfl ?_
  refine LP_end _ rfl (W_ret ?_)
  exact ⟨_, Ret_of [.bool false] ⟨⟨rfl, rfl⟩, trivial⟩, _, H, rfl, X.ext⟩
 have H := H.2 hc
 refine W_skip ?_
 refine W_seq ?_
 refine W_seq (W_region ?_)
 refine LP_ev ok 0 [(11, sl a1 a c), (12, I (ln a)), (13, I 0)] 3 rfl rfl ?_
 refine LP_end _ rfl ?_
 refine W_block ?_
 obtain ⟨J, m, Hx, H⟩ := H
 refine W_loop (S := Int) (fun s ρ' w' => J s ∧ ∃ (ρ : Env), ρ' = setAll [(0, sl a1 a c), (1, sl a6 b c7), (12, I (ln a)), (13, I s)] ρ ∧ But emp w w' ∧ Sub hx w' ∧ Sub hx3 w') (fun s => m s) 0 ⟨Hx, _, env_eq ⟨rfl, rfl, rfl, rfl, trivial⟩, X, ex, ex5⟩ ?_
 rintro x _ wx ⟨Hi, ρ, rfl, X10, ex8, ex9⟩
 have H := H x Hi
 refine W_seq (W_region ?_)
 refine LP_ev ok 0 [(14, .bool (decide (x < (ln a))))] 1 rfl rfl ?_
 refine LP_end _ rfl (W_seq ?_)
 refine W_cond (decide (x < (ln a))) rfl (fun hc11 => ?_) (fun hc11 => ?_)
 ·have H := H.1 hc11
  refine W_skip ?_
  refine W_seq ?_
  refine W_block ?_
  refine W_seq (W_region ?_)
  refine LP_ev ok 0 [(15, I x), (5, I x)] 2 rfl rfl ?_
  refine LP_end _ rfl (W_seq ?_)
  refine W_quiet mix (by kernel_rfl) ?_
  refine QP_ev ok 0 [(16, sl a1 a c), (17, I x)] 2 rfl rfl ?_
  obtain ⟨x12, hi, hx13, H⟩ := H
  refine QP_index 2 rfl rfl rfl Try.underlying25 ti_3 rfl rfl r hi hx13 fun a14 cs r15 d => ?_
  refine QP_load 3 rfl rfl rfl ti_3 ag_3 rfl r15 d ex8 fun vx16 r17 => ?_
  obtain rfl := r17.int
  refine QP_ev ok 4 [(20, sl a6 b c7), (21, I x)] 6 rfl rfl ?_
  obtain ⟨x18, hi19, hx20, H⟩ := H
  refine QP_index 6 rfl rfl rfl Try.underlying25 ti_3 rfl rfl r4 hi19 hx20 fun a21 cs22 r23 d24 => ?_
  refine QP_load 7 rfl rfl rfl ti_3 ag_3 rfl r23 d24 ex9 fun vx25 r26 => ?_
  obtain rfl := r26.int
  refine QP_ev ok 8 [(24, .bool (x12 != x18))] 9 rfl rfl ?_
  refine QP_end _ rfl fun wx27 x28 => ?_
  refine W_cond (x12 != x18) rfl (fun hc29 => ?_) (fun hc29 => ?_)
  ·have H := H.1 hc29
   refine W_seq (W_region ?_)
   refine LP_ev ok 0 [(4, .bool false)] 1 rfl rfl ?_
   refine LP_end _ rfl (W_ret ?_)
   exact ⟨_, Ret_of [.bool false] ⟨⟨rfl, rfl⟩, trivial⟩, _, H, rfl, (X10.stepx x28).ext⟩
  have H := H.2 hc29
  refine W_skip ?_
  refine W_region ?_
  refine LP_ev ok 0 [(25, I (wr (x + 1))), (13, I (wr (x + 1)))] 2 rfl rfl ?_
  exact LP_end _ rfl ⟨wr (x + 1), ⟨H.1, _, env_eq ⟨rfl, rfl, rfl, rfl, trivial⟩, (X10.stepx x28), (ex8.ext x28), (ex9.ext x28)⟩, H.2⟩
 have H := H.2 hc11
 refine W_exit ?_
 refine (if_pos rfl).mpr ?_
 refine W_seq (W_region ?_)
 refine LP_ev ok 0 [(4, .bool true)] 1 rfl rfl ?_
 refine LP_end _ rfl (W_ret ?_)
 exact ⟨_, Ret_of [.bool true] ⟨⟨rfl, rfl⟩, trivial⟩, _, H, rfl, X10.ext⟩

theorem impl_mendValues_w (sx : List Variable) (l : List Edit) (weights : List Int) (values : List Int) (Q : (List Int) → Bool → Prop) (H : impl_mendValues sx l weights values Q) (w : World) {vx : Value} {hx : PH} (r : RS hx vx sx) (ex : Sub hx w) {vx1 : Value} {hx2 : PH} (r3 : RS hx2 vx1 l) (ex4 : Sub hx2 w) {vx7 : Value} {hx8 : PH} (r9 : RS hx8 vx7 weights) (ex10 : Sub hx8 w) {vx13 : Value} {hx14 : PH} (r15 : RS hx14 vx13 values) (ex16 : Sub hx14 w) :
  CallsTo Try.prog 61 #[vx, vx1, vx7, vx13] w fun v w' => ∃ r0 r1 u0 g0, Q r0 r1 ∧ v = .tuple #[u0, .bool r1] ∧ Ext w w' ∧ OS 3 g0 emp u0 r0 ∧ Sub g0 w' ∧ Fresh w.heap.size g0 := by
 obtain ⟨a, c, rfl⟩ := r.shape
 obtain ⟨a5, c6, rfl⟩ := r3.shape
 obtain ⟨a11, c12, rfl⟩ := r9.shape
 obtain ⟨a17, c18, rfl⟩ := r15.shape
 refine enter (args := [sl a sx c, sl a5 l c6, sl a11 weights c12, sl a17 values c18]) 29 Try.func61 rfl rfl rfl ?_
 refine W_forget [(0, sl a sx c), (1, sl a5 l c6), (2, sl a11 weights c12), (3, sl a17 values c18)] ⟨rfl, rfl, rfl, rfl, trivial⟩ fun ρ => ?_
 have X := But.refl emp w
 refine W_seq (W_region ?_)
 refine LP_ev ok 0 [(8, .slice none 0 0), (9, .bool false)] 2 rfl rfl ?_
 refine LP_end _ rfl (W_seq (W_region ?_))
 refine LP_ev ok 0 [(13, sl a sx c), (14, sl a5 l c6), (15, sl a11 weights c12), (16, sl a17 values c18)] 4 rfl rfl ?_
 refine LP_call 4 rfl rfl rfl cal_32 rfl (impl_cheapestChange_w _ _ _ _ _ H w r ex r3 ex4 r9 ex10 r15 ex16) ?_
 rintro _ wx ⟨r19, r20, vx21, hx22, H, rfl, x, o, ex23, f⟩
 obtain ⟨a24, c25, rfl⟩ := o.shape
 refine LP_ev ok 5 [(12, .tuple #[sl a24 r19 c25, .bool r20]), (18, sl a24 r19 c25), (19, .bool r20), (10, sl a24 r19 c25), (11, .bool r20)] 10 rfl rfl ?_
 refine LP_end _ rfl (W_seq ?_)
 refine W_seq (W_region ?_)
 refine LP_ev ok 0 [(20, .bool r20), (21, .bool (!r20))] 2 rfl rfl ?_
 refine LP_end _ rfl ?_
 refine W_cond (!r20) rfl (fun hc => ?_) (fun hc => ?_)
 ·have H := H.1 hc
  refine W_seq (W_region ?_)
  refine LP_ev ok 0 [(8, .slice none 0 0), (9, .bool false)] 2 rfl rfl ?_
  refine LP_end _ rfl (W_ret ?_)
  exact ⟨_, Ret_of [.slice none 0 0, .bool false] ⟨⟨rfl, rfl⟩, ⟨rfl, rfl⟩, trivial⟩, _, _, _, emp, H, rfl, (X.stepx x).ext, OS.nil, (emp_sub _), (emp_fresh _)⟩
 have H := H.2 hc
 refine W_skip ?_
 refine W_seq (W_region ?_)
 refine LP_ev ok 0 [(22, sl a sx c), (23, sl a5 l c6), (24, sl a sx c), (25, sl a24 r19 c25)] 4 rfl rfl ?_
 have ex28 := (ex.ext x)
 refine LP_call 4 rfl rfl rfl cal_34 rfl (impl_otherVars_w _ _ _ H wx r ex28 o.readf ex23) ?_
 rintro _ wx29 ⟨r27, vx31, hx32, H, rfl, x30, o33, ex34, f35⟩
 obtain ⟨a36, c37, rfl⟩ := o33.shape
 refine LP_ev ok 5 [(27, sl a17 values c18)] 6 rfl rfl ?_
 have xc := (x.trans x30)
 refine LP_call 6 rfl rfl rfl cal_33 rfl (impl_completionOf_w _ _ _ _ _ H wx29 r (ex28.ext x30) r3 (ex4.ext xc) o33.readf ex34 r15 (ex16.ext xc)) ?_
 rintro _ wx42 ⟨r38, vx44, hx45, H, rfl, x43, o46, ex47, f48, cn⟩
 obtain ⟨a49, c50, rfl⟩ := o46.shape
 refine LP_ev ok 7 [(8, sl a49 r38 c50), (9, .bool true)] 9 rfl rfl ?_
 refine LP_end _ rfl (W_ret ?_)
 have X52 := (X.stepx xc)
 have f51 := f48.mono X52.size
 exact ⟨_, Ret_of [sl a49 r38 c50, .bool true] ⟨⟨rfl, rfl⟩, ⟨rfl, rfl⟩, trivial⟩, _, _, _, _, H, rfl, (X52.stepx x43).ext, o46, ex47, f51⟩

theorem impl_MendValues_w (sx : List Variable) (l : List Edit) (weights : List Int) (values : List Int) (Q : (List Int) → Bool → Prop) (H : impl_MendValues sx l weights values Q) (w : World) {vx : Value} {hx : PH} (r : RS hx vx sx) (ex : Sub hx w) {vx1 : Value} {hx2 : PH} (r3 : RS hx2 vx1 l) (ex4 : Sub hx2 w) {vx7 : Value} {hx8 : PH} (r9 : RS hx8 vx7 weights) (ex10 : Sub hx8 w) {vx13 : Value} {hx14 : PH} (r15 : RS hx14 vx13 values) (ex16 : Sub hx14 w) :
  CallsTo Try.prog 22 #[vx, vx1, vx7, vx13] w fun v w' => ∃ r0 r1 u0 g0, Q r0 r1 ∧ v = .tuple #[u0, .bool r1] ∧ Ext w w' ∧ OS 3 g0 emp u0 r0 ∧ Sub g0 w' ∧ Fresh w.heap.size g0 := by
 obtain ⟨a, c, rfl⟩ := r.shape
 obtain ⟨a5, c6, rfl⟩ := r3.shape
 obtain ⟨a11, c12, rfl⟩ := r9.shape
 obtain ⟨a17, c18, rfl⟩ := r15.shape
 refine enter (args := [sl a sx c, sl a5 l c6, sl a11 weights c12, sl a17 values c18]) 28 Try.func22 rfl rfl rfl ?_
 refine W_forget [(0, sl a sx c), (1, sl a5 l c6), (2, sl a11 weights c12), (3, sl a17 values c18)] ⟨rfl, rfl, rfl, rfl, trivial⟩ fun ρ => ?_
 have X := But.refl emp w
 refine W_seq (W_region ?_)
 refine LP_ev ok 0 [(8, .slice none 0 0), (9, .bool false)] 2 rfl rfl ?_
 refine LP_end _ rfl (W_seq ?_)
 obtain ⟨k, hk, H⟩ := jn_elim H
 refine W_join2 (S := Bool) (fun s ρ' w' => k s ∧ ∃ (ρ : Env), ρ' = setAll [(0, sl a sx c), (1, sl a5 l c6), (2, sl a11 weights c12), (3, sl a17 values c18), (20, .bool s)] ρ ∧ But emp w w' ∧ Sub hx w' ∧ Sub hx2 w' ∧ Sub hx8 w' ∧ Sub hx14 w') ?_ ?_
 ·refine W_region ?_
  refine LP_ev ok 0 [(10, sl a sx c), (11, sl a5 l c6), (12, sl a11 weights c12)] 3 rfl rfl ?_
  refine LP_call 3 rfl rfl rfl cal_28 rfl (impl_isMendable_w _ _ _ _ H w r ex r3 ex4 r9 ex10) ?_
  rintro _ wx25 ⟨r24, H, rfl, x26⟩
  refine LP_ev ok 4 [(14, .bool (!r24)), (15, .bool (!r24))] 6 rfl rfl ?_
  refine LP_split 15 (!r24) rfl (fun hc => ?_) (fun hc => ?_)
  ·have H := H.1 hc
   refine LP_ev ok 6 [(16, undef), (17, undef), (18, undef), (19, undef), (20, .bool true)] 11 rfl rfl ?_
   exact LP_end _ rfl ⟨true, H, _, env_eq ⟨rfl, rfl, rfl, rfl, rfl, trivial⟩, (X.stepx x26), (ex.ext x26), (ex4.ext x26), (ex10.ext x26), (ex16.ext x26)⟩
  have H := H.2 hc
  refine LP_ev ok 6 [(16, sl a sx c), (17, sl a17 values c18)] 8 rfl rfl ?_
  have ex33 := (ex.ext x26)
  have ex34 := (ex16.ext x26)
  refine LP_call 8 rfl rfl rfl cal_43 rfl (impl_areValues_w _ _ _ H wx25 r ex33 r15 ex34) ?_
  rintro _ wx35 ⟨r32, H, rfl, x36⟩
  refine LP_ev ok 9 [(19, .bool (!r32)), (20, .bool (!r32))] 11 rfl rfl ?_
  refine LP_end _ rfl ?_
  have xc := (x26.trans x36)
  exact ⟨!r32, H, _, env_eq ⟨rfl, rfl, rfl, rfl, rfl, trivial⟩, (X.stepx xc), (ex33.ext x36), (ex4.ext xc), (ex10.ext xc), (ex34.ext x36)⟩
 rintro x _ wx ⟨H, ρ, rfl, HF⟩
 revert HF
 refine bb5 fun X23 ex19 ex20 ex21 ex22 => ?_
 subst hk
 refine W_cond (x) rfl (fun hc42 => ?_) (fun hc42 => ?_)
 ·have H := H.1 hc42
  refine W_seq (W_region ?_)
  refine LP_ev ok 0 [(8, .slice none 0 0), (9, .bool false)] 2 rfl rfl ?_
  refine LP_end _ rfl (W_ret ?_)
  exact ⟨_, Ret_of [.slice none 0 0, .bool false] ⟨⟨rfl, rfl⟩, ⟨rfl, rfl⟩, trivial⟩, _, _, _, emp, H, rfl, X23.ext, OS.nil, (emp_sub _), (emp_fresh _)⟩
 have H := H.2 hc42
 refine W_skip ?_
 refine W_seq (W_region ?_)
 refine LP_ev ok 0 [(21, sl a sx c), (22, sl a5 l c6), (23, sl a11 weights c12), (24, sl a17 values c18)] 4 rfl rfl ?_
 refine LP_call 4 rfl rfl rfl cal_61 rfl (impl_mendValues_w _ _ _ _ _ H wx r ex19 r3 ex20 r9 ex21 r15 ex22) ?_
 rintro _ wx45 ⟨r43, r44, vx47, hx48, H, rfl, x46, o, ex49, f⟩
 obtain ⟨a50, c51, rfl⟩ := o.shape
 refine LP_ev ok 5 [(26, sl a50 r43 c51), (27, .bool r44), (8, sl a50 r43 c51), (9, .bool r44)] 9 rfl rfl ?_
 refine LP_end _ rfl (W_ret ?_)
 have f52 := f.mono X23.size
 exact ⟨_, Ret_of [sl a50 r43 c51, .bool r44] ⟨⟨rfl, rfl⟩, ⟨rfl, rfl⟩, trivial⟩, _, _, _, _, H, rfl, (X23.stepx x46).ext, o, ex49, f52⟩

theorem impl_IsMend_w (sx : List Variable) (l : List Edit) (vars : List Int) (values : List Int) (mended : List Int) (Q : Bool → Bool → Prop) (H : impl_IsMend sx l vars values mended Q) (w : World) {vx : Value} {hx : PH} (r : RS hx vx sx) (ex : Sub hx w) {vx1 : Value} {hx2 : PH} (r3 : RS hx2 vx1 l) (ex4 : Sub hx2 w) {vx7 : Value} {hx8 : PH} (r9 : RS hx8 vx7 vars) (ex10 : Sub hx8 w) {vx13 : Value} {hx14 : PH} (r15 : RS hx14 vx13 values) (ex16 : Sub hx14 w) {vx19 : Value} {hx20 : PH} (r21 : RS hx20 vx19 mended) (ex22 : Sub hx20 w) :
  CallsTo Try.prog 23 #[vx, vx1, vx7, vx13, vx19] w fun v w' => ∃ r0 r1, Q r0 r1 ∧ v = .tuple #[.bool r0, .bool r1] ∧ Ext w w' := by
 obtain ⟨a, c, rfl⟩ := r.shape
 obtain ⟨a5, c6, rfl⟩ := r3.shape
 obtain ⟨a11, c12, rfl⟩ := r9.shape
 obtain ⟨a17, c18, rfl⟩ := r15.shape
 obtain ⟨a23, c24, rfl⟩ := r21.shape
 refine enter (args := [sl a sx c, sl a5 l c6, sl a11 vars c12, sl a17 values c18, sl a23 mended c24]) 62 Try.func23 rfl rfl rfl ?_
 refine W_forget [(0, sl a sx c), (1, sl a5 l c6), (2, sl a11 vars c12), (3, sl a17 values c18), (4, sl a23 mended c24)] ⟨rfl, rfl, rfl, rfl, rfl, trivial⟩ fun ρ => ?_
 have X := But.refl emp w
 refine W_seq (W_region ?_)
 refine LP_ev ok 0 [(10, .bool false), (11, .bool false)] 2 rfl rfl ?_
 refine LP_end _ rfl (W_seq ?_)
 obtain ⟨k, hk, H⟩ := jn_elim H
 refine W_join2 (S := Bool) (fun s ρ' w' => k s ∧ ∃ (ρ : Env), ρ' = setAll [(0, sl a sx c), (1, sl a5 l c6), (2, sl a11 vars c12), (3, sl a17 values c18), (4, sl a23 mended c24), (34, .bool s)] ρ ∧ But emp w w' ∧ Sub hx w' ∧ Sub hx2 w' ∧ Sub hx8 w' ∧ Sub hx14 w' ∧ Sub hx20 w') ?_ ?_
 ·refine W_region ?_
  refine LP_ev ok 0 [(14, sl a sx c)] 1 rfl rfl ?_
  refine LP_call 1 rfl rfl rfl cal_51 rfl (impl_isSmall_w _ _ H w r ex) ?_
  rintro _ wx32 ⟨r31, H, rfl, x33⟩
  refine LP_ev ok 2 [(16, .bool (!r31)), (17, .bool (!r31))] 4 rfl rfl ?_
  refine LP_split 17 (!r31) rfl (fun hc => ?_) (fun hc => ?_)
  ·have H := H.1 hc
   refine LP_ev ok 4 [(18, undef), (19, undef), (20, undef), (21, undef), (22, .bool true), (23, .bool true), (24, undef), (25, undef), (26, undef), (27, undef), (28, .bool true), (29, .bool true), (30, undef), (31, undef), (32, undef), (33, undef), (34, .bool true)] 21 rfl rfl ?_
   exact LP_end _ rfl ⟨true, H, _, env_eq ⟨rfl, rfl, rfl, rfl, rfl, rfl, trivial⟩, (X.stepx x33), (ex.ext x33), (ex4.ext x33), (ex10.ext x33), (ex16.ext x33), (ex22.ext x33)⟩
  have H := H.2 hc
  refine LP_ev ok 4 [(18, sl a sx c), (19, sl a5 l c6)] 6 rfl rfl ?_
  have ex41 := (ex.ext x33)
  have ex42 := (ex4.ext x33)
  refine LP_call 6 rfl rfl rfl cal_49 rfl (impl_areEdits_w _ _ _ H wx32 r ex41 r3 ex42) ?_
  rintro _ wx43 ⟨r40, H, rfl, x44⟩
  refine LP_ev ok 7 [(21, .bool (!r40)), (22, .bool (!r40)), (23, .bool (!r40))] 10 rfl rfl ?_
  refine LP_split 23 (!r40) rfl (fun hc45 => ?_) (fun hc45 => ?_)
  ·have H := H.1 hc45
   refine LP_ev ok 10 [(24, undef), (25, undef), (26, undef), (27, undef), (28, .bool true), (29, .bool true), (30, undef), (31, undef), (32, undef), (33, undef), (34, .bool true)] 21 rfl rfl ?_
   refine LP_end _ rfl ?_
   have xc := (x33.trans x44)
   exact ⟨true, H, _, env_eq ⟨rfl, rfl, rfl, rfl, rfl, rfl, trivial⟩, (X.stepx xc), (ex41.ext x44), (ex42.ext x44), (ex10.ext xc), (ex16.ext xc), (ex22.ext xc)⟩
  have H := H.2 hc45
  refine LP_ev ok 10 [(24, sl a sx c), (25, sl a11 vars c12)] 12 rfl rfl ?_
  have ex53 := (ex41.ext x44)
  have xc54 := (x33.trans x44)
  have ex55 := (ex10.ext xc54)
  refine LP_call 12 rfl rfl rfl cal_54 rfl (impl_areVars_w _ _ _ H wx43 r ex53 r9 ex55) ?_
  rintro _ wx56 ⟨r52, H, rfl, x57⟩
  refine LP_ev ok 13 [(27, .bool (!r52)), (28, .bool (!r52)), (29, .bool (!r52))] 16 rfl rfl ?_
  refine LP_split 29 (!r52) rfl (fun hc58 => ?_) (fun hc58 => ?_)
  ·have H := H.1 hc58
   refine LP_ev ok 16 [(30, undef), (31, undef), (32, undef), (33, undef), (34, .bool true)] 21 rfl rfl ?_
   refine LP_end _ rfl ?_
   have xc59 := (xc54.trans x57)
   exact ⟨true, H, _, env_eq ⟨rfl, rfl, rfl, rfl, rfl, rfl, trivial⟩, (X.stepx xc59), (ex53.ext x57), (ex42.ext (x44.trans x57)), (ex55.ext x57), (ex16.ext xc59), (ex22.ext xc59)⟩
  have H := H.2 hc58
  refine LP_ev ok 16 [(30, sl a sx c), (31, sl a17 values c18)] 18 rfl rfl ?_
  have ex68 := (ex53.ext x57)
  have xc69 := (xc54.trans x57)
  have ex70 := (ex16.ext xc69)
  refine LP_call 18 rfl rfl rfl cal_43 rfl (impl_areValues_w _ _ _ H wx56 r ex68 r15 ex70) ?_
  rintro _ wx71 ⟨r67, H, rfl, x72⟩
  refine LP_ev ok 19 [(33, .bool (!r67)), (34, .bool (!r67))] 21 rfl rfl ?_
  refine LP_end _ rfl ?_
  have xc73 := (xc69.trans x72)
  exact ⟨!r67, H, _, env_eq ⟨rfl, rfl, rfl, rfl, rfl, rfl, trivial⟩, (X.stepx xc73), (ex68.ext x72), (ex42.ext ((x44.trans x57).trans x72)), (ex55.ext (x57.trans x72)), (ex70.ext x72), (ex22.ext xc73)⟩
 rintro x _ wx ⟨H, ρ, rfl, HF⟩
 revert HF
 refine bb6 fun X30 ex25 ex26 ex27 ex28 ex29 => ?_
 subst hk
 refine W_cond (x) rfl (fun hc82 => ?_) (fun hc82 => ?_)
 ·have H := H.1 hc82
  refine W_seq (W_region ?_)
  refine LP_ev ok 0 [(10, .bool false), (11, .bool false)] 2 rfl rfl ?_
  refine LP_end _ rfl (W_ret ?_)
  exact ⟨_, Ret_of [.bool false, .bool false] ⟨⟨rfl, rfl⟩, ⟨rfl, rfl⟩, trivial⟩, _, _, H, rfl, X30.ext⟩
 have H := H.2 hc82
 refine W_skip ?_
 refine W_seq ?_
 obtain ⟨k90, hk91, H⟩ := jn_elim H
 refine W_join2 (S := Bool) (fun s ρ' w' => k90 s ∧ ∃ (ρ : Env), ρ' = setAll [(0, sl a sx c), (2, sl a11 vars c12), (3, sl a17 values c18), (4, sl a23 mended c24), (43, .bool s)] ρ ∧ But emp w w' ∧ Sub hx w' ∧ Sub hx8 w' ∧ Sub hx14 w' ∧ Sub hx20 w') ?_ ?_
 ·refine W_region ?_
  refine LP_ev ok 0 [(35, sl a sx c), (36, sl a23 mended c24)] 2 rfl rfl ?_
  refine LP_call 2 rfl rfl rfl cal_43 rfl (impl_areValues_w _ _ _ H wx r ex25 r21 ex29) ?_
  rintro _ wx93 ⟨r92, H, rfl, x94⟩
  refine LP_ev ok 3 [(38, .bool (!r92)), (39, .bool (!r92))] 5 rfl rfl ?_
  refine LP_split 39 (!r92) rfl (fun hc95 => ?_) (fun hc95 => ?_)
  ·have H := H.1 hc95
   refine LP_ev ok 5 [(40, undef), (41, undef), (42, undef), (43, .bool true)] 9 rfl rfl ?_
   exact LP_end _ rfl ⟨true, H, _, env_eq ⟨rfl, rfl, rfl, rfl, rfl, trivial⟩, (X30.stepx x94), (ex25.ext x94), (ex27.ext x94), (ex28.ext x94), (ex29.ext x94)⟩
  have H := H.2 hc95
  refine LP_ev ok 5 [(40, sl a5 l c6), (41, sl a23 mended c24)] 7 rfl rfl ?_
  have ex103 := (ex29.ext x94)
  refine LP_call 7 rfl rfl rfl cal_31 rfl (impl_failsOne_w _ _ _ H wx93 r3 (ex26.ext x94) r21 ex103) ?_
  rintro _ wx104 ⟨r101, H, rfl, x105⟩
  refine LP_ev ok 8 [(43, .bool r101)] 9 rfl rfl ?_
  refine LP_end _ rfl ?_
  have xc106 := (x94.trans x105)
  exact ⟨r101, H, _, env_eq ⟨rfl, rfl, rfl, rfl, rfl, trivial⟩, (X30.stepx xc106), (ex25.ext xc106), (ex27.ext xc106), (ex28.ext xc106), (ex103.ext x105)⟩
 rintro x83 _ wx84 ⟨H, ρ, rfl, HF⟩
 revert HF
 refine bb5 fun X89 ex85 ex86 ex87 ex88 => ?_
 subst hk91
 refine W_cond (x83) rfl (fun hc112 => ?_) (fun hc112 => ?_)
 ·have H := H.1 hc112
  refine W_seq (W_region ?_)
  refine LP_ev ok 0 [(10, .bool false), (11, .bool true)] 2 rfl rfl ?_
  refine LP_end _ rfl (W_ret ?_)
  exact ⟨_, Ret_of [.bool false, .bool true] ⟨⟨rfl, rfl⟩, ⟨rfl, rfl⟩, trivial⟩, _, _, H, rfl, X89.ext⟩
 have H := H.2 hc112
 refine W_skip ?_
 refine W_seq ?_
 refine W_seq (W_region ?_)
 refine LP_ev ok 0 [(44, sl a sx c), (45, sl a11 vars c12)] 2 rfl rfl ?_
 refine LP_call 2 rfl rfl rfl cal_34 rfl (impl_otherVars_w _ _ _ H wx84 r ex85 r9 ex86) ?_
 rintro _ wx114 ⟨r113, vx116, hx117, H, rfl, x115, o, ex118, f⟩
 obtain ⟨a119, c120, rfl⟩ := o.shape
 refine LP_ev ok 3 [(47, I (ln r113)), (48, I 0)] 5 rfl rfl ?_
 refine LP_end _ rfl ?_
 refine W_block ?_
 obtain ⟨J, m, Hx, H⟩ := H
 refine W_loop (S := Int) (fun s ρ' w' => J s ∧ ∃ (ρ : Env), ρ' = setAll [(3, sl a17 values c18), (4, sl a23 mended c24), (46, sl a119 r113 c120), (47, I (ln r113)), (48, I s)] ρ ∧ But emp w w' ∧ Sub hx14 w' ∧ Sub hx20 w' ∧ Sub hx117 w') (fun s => m s) 0 ⟨Hx, _, env_eq ⟨rfl, rfl, rfl, rfl, rfl, trivial⟩, (X89.stepx x115), (ex87.ext x115), (ex88.ext x115), ex118⟩ ?_
 rintro x121 _ wx122 ⟨Hi, ρ, rfl, X126, ex123, ex124, ex125⟩
 have H := H x121 Hi
 refine W_seq (W_region ?_)
 refine LP_ev ok 0 [(49, .bool (decide (x121 < (ln r113))))] 1 rfl rfl ?_
 refine LP_end _ rfl (W_seq ?_)
 refine W_cond (decide (x121 < (ln r113))) rfl (fun hc130 => ?_) (fun hc130 => ?_)
 ·have H := H.1 hc130
  refine W_skip ?_
  refine W_seq ?_
  refine W_block ?_
  refine W_seq (W_region ?_)
  obtain ⟨x131, hi, hx132, H⟩ := H
  refine LP_index 0 rfl rfl rfl Try.underlying25 ti_3 rfl rfl o.readf hi hx132 fun a133 cs r134 d => ?_
  refine LP_load 1 rfl rfl rfl ti_3 ag_3 rfl r134 d ex125 fun vx135 r136 => ?_
  obtain rfl := r136.int
  refine LP_ev ok 2 [(13, I x131)] 3 rfl rfl ?_
  refine LP_end _ rfl (W_seq ?_)
  refine W_quiet mix (by kernel_rfl) ?_
  refine QP_ev ok 0 [(52, sl a23 mended c24), (53, I x131)] 2 rfl rfl ?_
  obtain ⟨x137, hi138, hx139, H⟩ := H
  refine QP_index 2 rfl rfl rfl Try.underlying25 ti_3 rfl rfl r21 hi138 hx139 fun a140 cs141 r142 d143 => ?_
  refine QP_load 3 rfl rfl rfl ti_3 ag_3 rfl r142 d143 ex124 fun vx144 r145 => ?_
  obtain rfl := r145.int
  refine QP_ev ok 4 [(56, sl a17 values c18), (57, I x131)] 6 rfl rfl ?_
  obtain ⟨x146, hi147, hx148, H⟩ := H
  refine QP_index 6 rfl rfl rfl Try.underlying25 ti_3 rfl rfl r15 hi147 hx148 fun a149 cs150 r151 d152 => ?_
  refine QP_load 7 rfl rfl rfl ti_3 ag_3 rfl r151 d152 ex123 fun vx153 r154 => ?_
  obtain rfl := r154.int
  refine QP_ev ok 8 [(60, .bool (x137 != x146))] 9 rfl rfl ?_
  refine QP_end _ rfl fun wx155 x156 => ?_
  refine W_cond (x137 != x146) rfl (fun hc157 => ?_) (fun hc157 => ?_)
  ·have H := H.1 hc157
   refine W_seq (W_region ?_)
   refine LP_ev ok 0 [(10, .bool false), (11, .bool true)] 2 rfl rfl ?_
   refine LP_end _ rfl (W_ret ?_)
   exact ⟨_, Ret_of [.bool false, .bool true] ⟨⟨rfl, rfl⟩, ⟨rfl, rfl⟩, trivial⟩, _, _, H, rfl, (X126.stepx x156).ext⟩
  have H := H.2 hc157
  refine W_skip ?_
  refine W_region ?_
  refine LP_ev ok 0 [(61, I (wr (x121 + 1))), (48, I (wr (x121 + 1)))] 2 rfl rfl ?_
  exact LP_end _ rfl ⟨wr (x121 + 1), ⟨H.1, _, env_eq ⟨rfl, rfl, rfl, rfl, rfl, trivial⟩, (X126.stepx x156), (ex123.ext x156), (ex124.ext x156), (ex125.ext x156)⟩, H.2⟩
 have H := H.2 hc130
 refine W_exit ?_
 refine (if_pos rfl).mpr ?_
 refine W_seq (W_region ?_)
 refine LP_ev ok 0 [(10, .bool true), (11, .bool true)] 2 rfl rfl ?_
 refine LP_end _ rfl (W_ret ?_)
 exact ⟨_, Ret_of [.bool true, .bool true] ⟨⟨rfl, rfl⟩, ⟨rfl, rfl⟩, trivial⟩, _, _, H, rfl, X126.ext⟩

theorem impl_changeCost_w (weights : List Int) (a1 : List Int) (b : List Int) (Q : Int → Prop) (H : impl_changeCost weights a1 b Q) (w : World) {vx : Value} {hx : PH} (r : RS hx vx weights) (ex : Sub hx w) {vx2 : Value} {hx3 : PH} (r4 : RS hx3 vx2 a1) (ex5 : Sub hx3 w) {vx8 : Value} {hx9 : PH} (r10 : RS hx9 vx8 b) (ex11 : Sub hx9 w) :
  CallsTo Try.prog 44 #[vx, vx2, vx8] w fun v w' => ∃ r0, Q r0 ∧ v = I r0 ∧ Ext w w' := by
 obtain ⟨a, c, rfl⟩ := r.shape
 obtain ⟨a6, c7, rfl⟩ := r4.shape
 obtain ⟨a12, c13, rfl⟩ := r10.shape
 refine enter (args := [sl a weights c, sl a6 a1 c7, sl a12 b c13]) 31 Try.func44 rfl rfl rfl ?_
 refine W_forget [(0, sl a weights c), (1, sl a6 a1 c7), (2, sl a12 b c13)] ⟨rfl, rfl, rfl, trivial⟩ fun ρ => ?_
 have X := But.refl emp w
 refine W_seq (W_region ?_)
 refine LP_ev ok 0 [(6, I 0)] 1 rfl rfl ?_
 refine LP_end _ rfl (W_seq (W_region ?_))
 refine LP_ev ok 0 [(7, I 0)] 1 rfl rfl ?_
 refine LP_end _ rfl (W_seq ?_)
 refine W_seq (W_region ?_)
 refine LP_ev ok 0 [(9, sl a6 a1 c7), (10, I (ln a1)), (11, I 0)] 3 rfl rfl ?_
 refine LP_end _ rfl ?_
 refine W_block ?_
 obtain ⟨J, m, Hx, H⟩ := H
 refine W_loop (S := Int × Int) (fun s ρ' w' => J s.1 s.2 ∧ ∃ (ρ : Env), ρ' = setAll [(0, sl a weights c), (1, sl a6 a1 c7), (2, sl a12 b c13), (7, I s.1), (10, I (ln a1)), (11, I s.2)] ρ ∧ But emp w w' ∧ Sub hx w' ∧ Sub hx3 w' ∧ Sub hx9 w') (fun s => m s.1 s.2) (0, 0) ⟨Hx, _, env_eq ⟨rfl, rfl, rfl, rfl, rfl, rfl, trivial⟩, X, ex, ex5, ex11⟩ ?_
 rintro ⟨cost, x⟩ _ wx ⟨Hi, ρ, rfl, X17, ex14, ex15, ex16⟩
 have H := H cost x Hi
 refine W_seq (W_region ?_)
 refine LP_ev ok 0 [(12, .bool (decide (x < (ln a1))))] 1 rfl rfl ?_
 refine LP_end _ rfl (W_seq ?_)
 refine W_cond (decide (x < (ln a1))) rfl (fun hc => ?_) (fun hc => ?_)
 ·have H := H.1 hc
  refine W_skip ?_
  obtain ⟨k, hk, H⟩ := jn_elim H
  refine W_join2 (S := Int) (fun s ρ' w' => k s ∧ ∃ (ρ : Env), ρ' = setAll [(0, sl a weights c), (1, sl a6 a1 c7), (2, sl a12 b c13), (7, I s), (10, I (ln a1)), (11, I x)] ρ ∧ But emp w w' ∧ Sub hx w' ∧ Sub hx3 w' ∧ Sub hx9 w') ?_ ?_
  ·refine W_block ?_
   refine W_seq (W_region ?_)
   refine LP_ev ok 0 [(13, I x), (8, I x)] 2 rfl rfl ?_
   refine LP_end _ rfl (W_seq ?_)
   refine W_quiet mix (by kernel_rfl) ?_
   refine QP_ev ok 0 [(14, sl a6 a1 c7), (15, I x)] 2 rfl rfl ?_
   obtain ⟨x24, hi, hx25, H⟩ := H
   refine QP_index 2 rfl rfl rfl Try.underlying25 ti_3 rfl rfl r4 hi hx25 fun a26 cs r27 d => ?_
   refine QP_load 3 rfl rfl rfl ti_3 ag_3 rfl r27 d ex15 fun vx28 r29 => ?_
   obtain rfl := r29.int
   refine QP_ev ok 4 [(18, sl a12 b c13), (19, I x)] 6 rfl rfl ?_
   obtain ⟨x30, hi31, hx32, H⟩ := H
   refine QP_index 6 rfl rfl rfl Try.underlying25 ti_3 rfl rfl r10 hi31 hx32 fun a33 cs34 r35 d36 => ?_
   refine QP_load 7 rfl rfl rfl ti_3 ag_3 rfl r35 d36 ex16 fun vx37 r38 => ?_
   obtain rfl := r38.int
   refine QP_ev ok 8 [(22, .bool (x24 != x30))] 9 rfl rfl ?_
   refine QP_end _ rfl fun wx39 x40 => ?_
   refine W_cond (x24 != x30) rfl (fun hc41 => ?_) (fun hc41 => ?_)
   ·have H := H.1 hc41
    refine W_region ?_
    refine LP_ev ok 0 [(23, I cost), (24, sl a weights c), (25, I x)] 3 rfl rfl ?_
    obtain ⟨x42, hi43, hx44, H⟩ := H
    refine LP_index 3 rfl rfl rfl Try.underlying25 ti_3 rfl rfl r hi43 hx44 fun a45 cs46 r47 d48 => ?_
    have ex49 := (ex14.ext x40)
    refine LP_load 4 rfl rfl rfl ti_3 ag_3 rfl r47 d48 ex49 fun vx50 r51 => ?_
    obtain rfl := r51.int
    refine LP_ev ok 5 [(28, I (wr (cost + x42))), (7, I (wr (cost + x42)))] 7 rfl rfl ?_
    exact LP_end _ rfl ⟨wr (cost + x42), H, _, env_eq ⟨rfl, rfl, rfl, rfl, rfl, rfl, trivial⟩, (X17.stepx x40), ex49, (ex15.ext x40), (ex16.ext x40)⟩
   have H := H.2 hc41
   exact W_skip ⟨cost, H, _, env_eq ⟨rfl, rfl, rfl, rfl, rfl, rfl, trivial⟩, (X17.stepx x40), (ex14.ext x40), (ex15.ext x40), (ex16.ext x40)⟩
  rintro cost18 _ wx19 ⟨H, ρ, rfl, X23, ex20, ex21, ex22⟩
  subst hk
  refine W_region ?_
  refine LP_ev ok 0 [(29, I (wr (x + 1))), (11, I (wr (x + 1)))] 2 rfl rfl ?_
  exact LP_end _ rfl ⟨(cost18, wr (x + 1)), ⟨H.1, _, env_eq ⟨rfl, rfl, rfl, rfl, rfl, rfl, trivial⟩, X23, ex20, ex21, ex22⟩, H.2⟩
 have H := H.2 hc
 refine W_exit ?_
 refine (if_pos rfl).mpr ?_
 refine W_seq (W_region ?_)
 refine LP_ev ok 0 [(30, I cost), (6, I cost)] 2 rfl rfl ?_
 refine LP_end _ rfl (W_ret ?_)
 exact ⟨_, Ret_of [I cost] ⟨⟨rfl, rfl⟩, trivial⟩, _, H, rfl, X17.ext⟩

theorem impl_ChangeCost_w (sx : List Variable) (weights : List Int) (a7 : List Int) (b : List Int) (Q : Int → Bool → Prop) (H : impl_ChangeCost sx weights a7 b Q) (w : World) {vx : Value} {hx : PH} (r : RS hx vx sx) (ex : Sub hx w) {vx1 : Value} {hx2 : PH} (r3 : RS hx2 vx1 weights) (ex4 : Sub hx2 w) {vx8 : Value} {hx9 : PH} (r10 : RS hx9 vx8 a7) (ex11 : Sub hx9 w) {vx14 : Value} {hx15 : PH} (r16 : RS hx15 vx14 b) (ex17 : Sub hx15 w) :
  CallsTo Try.prog 24 #[vx, vx1, vx8, vx14] w fun v w' => ∃ r0 r1, Q r0 r1 ∧ v = .tuple #[I r0, .bool r1] ∧ Ext w w' := by
 obtain ⟨a, c, rfl⟩ := r.shape
 obtain ⟨a5, c6, rfl⟩ := r3.shape
 obtain ⟨a12, c13, rfl⟩ := r10.shape
 obtain ⟨a18, c19, rfl⟩ := r16.shape
 refine enter (args := [sl a sx c, sl a5 weights c6, sl a12 a7 c13, sl a18 b c19]) 35 Try.func24 rfl rfl rfl ?_
 refine W_forget [(0, sl a sx c), (1, sl a5 weights c6), (2, sl a12 a7 c13), (3, sl a18 b c19)] ⟨rfl, rfl, rfl, rfl, trivial⟩ fun ρ => ?_
 have X := But.refl emp w
 refine W_seq (W_region ?_)
 refine LP_ev ok 0 [(8, I 0), (9, .bool false)] 2 rfl rfl ?_
 refine LP_end _ rfl (W_seq ?_)
 obtain ⟨k, hk, H⟩ := jn_elim H
 refine W_join2 (S := Bool) (fun s ρ' w' => k s ∧ ∃ (ρ : Env), ρ' = setAll [(1, sl a5 weights c6), (2, sl a12 a7 c13), (3, sl a18 b c19), (30, .bool s)] ρ ∧ But emp w w' ∧ Sub hx2 w' ∧ Sub hx9 w' ∧ Sub hx15 w') ?_ ?_
 ·refine W_region ?_
  refine LP_ev ok 0 [(10, sl a sx c)] 1 rfl rfl ?_
  refine LP_call 1 rfl rfl rfl cal_48 rfl (impl_IsSchema_w _ _ H w r ex) ?_
  rintro _ wx25 ⟨r24, H, rfl, x26⟩
  refine LP_ev ok 2 [(12, .bool (!r24)), (13, .bool (!r24))] 4 rfl rfl ?_
  refine LP_split 13 (!r24) rfl (fun hc => ?_) (fun hc => ?_)
  ·have H := H.1 hc
   refine LP_ev ok 4 [(14, undef), (15, undef), (16, undef), (17, undef), (18, .bool true), (19, .bool true), (20, undef), (21, undef), (22, undef), (23, undef), (24, .bool true), (25, .bool true), (26, undef), (27, undef), (28, undef), (29, undef), (30, .bool true)] 21 rfl rfl ?_
   exact LP_end _ rfl ⟨true, H, _, env_eq ⟨rfl, rfl, rfl, rfl, trivial⟩, (X.stepx x26), (ex4.ext x26), (ex11.ext x26), (ex17.ext x26)⟩
  have H := H.2 hc
  refine LP_ev ok 4 [(14, sl a sx c), (15, sl a5 weights c6)] 6 rfl rfl ?_
  have ex32 := (ex.ext x26)
  have ex33 := (ex4.ext x26)
  refine LP_call 6 rfl rfl rfl cal_62 rfl (impl_areWeights_w _ _ _ H wx25 r ex32 r3 ex33) ?_
  rintro _ wx34 ⟨r31, H, rfl, x35⟩
  refine LP_ev ok 7 [(17, .bool (!r31)), (18, .bool (!r31)), (19, .bool (!r31))] 10 rfl rfl ?_
  refine LP_split 19 (!r31) rfl (fun hc36 => ?_) (fun hc36 => ?_)
  ·have H := H.1 hc36
   refine LP_ev ok 10 [(20, undef), (21, undef), (22, undef), (23, undef), (24, .bool true), (25, .bool true), (26, undef), (27, undef), (28, undef), (29, undef), (30, .bool true)] 21 rfl rfl ?_
   refine LP_end _ rfl ?_
   have xc := (x26.trans x35)
   exact ⟨true, H, _, env_eq ⟨rfl, rfl, rfl, rfl, trivial⟩, (X.stepx xc), (ex33.ext x35), (ex11.ext xc), (ex17.ext xc)⟩
  have H := H.2 hc36
  refine LP_ev ok 10 [(20, sl a sx c), (21, sl a12 a7 c13)] 12 rfl rfl ?_
  have ex42 := (ex32.ext x35)
  have xc43 := (x26.trans x35)
  have ex44 := (ex11.ext xc43)
  refine LP_call 12 rfl rfl rfl cal_43 rfl (impl_areValues_w _ _ _ H wx34 r ex42 r10 ex44) ?_
  rintro _ wx45 ⟨r41, H, rfl, x46⟩
  refine LP_ev ok 13 [(23, .bool (!r41)), (24, .bool (!r41)), (25, .bool (!r41))] 16 rfl rfl ?_
  refine LP_split 25 (!r41) rfl (fun hc47 => ?_) (fun hc47 => ?_)
  ·have H := H.1 hc47
   refine LP_ev ok 16 [(26, undef), (27, undef), (28, undef), (29, undef), (30, .bool true)] 21 rfl rfl ?_
   refine LP_end _ rfl ?_
   have xc48 := (xc43.trans x46)
   exact ⟨true, H, _, env_eq ⟨rfl, rfl, rfl, rfl, trivial⟩, (X.stepx xc48), (ex33.ext (x35.trans x46)), (ex44.ext x46), (ex17.ext xc48)⟩
  have H := H.2 hc47
  refine LP_ev ok 16 [(26, sl a sx c), (27, sl a18 b c19)] 18 rfl rfl ?_
  have xc56 := (xc43.trans x46)
  have ex57 := (ex17.ext xc56)
  refine LP_call 18 rfl rfl rfl cal_43 rfl (impl_areValues_w _ _ _ H wx45 r (ex42.ext x46) r16 ex57) ?_
  rintro _ wx58 ⟨r54, H, rfl, x59⟩
  refine LP_ev ok 19 [(29, .bool (!r54)), (30, .bool (!r54))] 21 rfl rfl ?_
  exact LP_end _ rfl ⟨!r54, H, _, env_eq ⟨rfl, rfl, rfl, rfl, trivial⟩, (X.stepx (xc56.trans x59)), (ex33.ext ((x35.trans x46).trans x59)), (ex44.ext (x46.trans x59)), (ex57.ext x59)⟩
 rintro x _ wx ⟨H, ρ, rfl, X23, ex20, ex21, ex22⟩
 subst hk
 refine W_cond (x) rfl (fun hc67 => ?_) (fun hc67 => ?_)
 ·have H := H.1 hc67
  refine W_seq (W_region ?_)
  refine LP_ev ok 0 [(8, I 0), (9, .bool false)] 2 rfl rfl ?_
  refine LP_end _ rfl (W_ret ?_)
  exact ⟨_, Ret_of [I 0, .bool false] ⟨⟨rfl, rfl⟩, ⟨rfl, rfl⟩, trivial⟩, _, _, H, rfl, X23.ext⟩
 have H := H.2 hc67
 refine W_skip ?_
 refine W_seq (W_region ?_)
 refine LP_ev ok 0 [(31, sl a5 weights c6), (32, sl a12 a7 c13), (33, sl a18 b c19)] 3 rfl rfl ?_
 refine LP_call 3 rfl rfl rfl cal_44 rfl (impl_changeCost_w _ _ _ _ H wx r3 ex20 r10 ex21 r16 ex22) ?_
 rintro _ wx69 ⟨r68, H, rfl, x70⟩
 refine LP_ev ok 4 [(8, I r68), (9, .bool true)] 6 rfl rfl ?_
 refine LP_end _ rfl (W_ret ?_)
 exact ⟨_, Ret_of [I r68, .bool true] ⟨⟨rfl, rfl⟩, ⟨rfl, rfl⟩, trivial⟩, _, _, H, rfl, (X23.stepx x70).ext⟩

theorem impl_failing_w (sx : List Variable) (l : List Edit) (Q : (List Bool) → Prop) (H : impl_failing sx l Q) (w : World) {vx : Value} {hx : PH} (r : RS hx vx sx) (ex : Sub hx w) {vx1 : Value} {hx2 : PH} (r3 : RS hx2 vx1 l) (ex4 : Sub hx2 w) :
  CallsTo Try.prog 102 #[vx, vx1] w fun v w' => ∃ r0 u0 g0, Q r0 ∧ v = u0 ∧ Ext w w' ∧ OS 4 g0 emp u0 r0 ∧ Sub g0 w' ∧ Fresh w.heap.size g0 := by
 obtain ⟨a, c, rfl⟩ := r.shape
 obtain ⟨a5, c6, rfl⟩ := r3.shape
 refine enter (args := [sl a sx c, sl a5 l c6]) 25 Try.func102 rfl rfl rfl ?_
 refine W_forget [(0, sl a sx c), (1, sl a5 l c6)] ⟨rfl, rfl, trivial⟩ fun ρ => ?_
 have X := But.refl emp w
 refine W_seq (W_region ?_)
 refine LP_ev ok 0 [(4, .slice none 0 0)] 1 rfl rfl ?_
 refine LP_end _ rfl (W_seq (W_region ?_))
 refine LP_ev ok 0 [(7, sl a sx c)] 1 rfl rfl ?_
 refine LP_call 1 rfl rfl rfl cal_92 rfl (impl_combinations_w _ _ H w r ex) ?_
 rintro _ wx ⟨r7, H, rfl, x⟩
 obtain ⟨hn, hb, H⟩ := H
 refine LP_make (α := Bool) 2 rfl rfl rfl Try.underlying114 ti_4 (x0 := false) rfl rfl hn (by first | omega | (simp only [ln] at *; omega)) (by first | omega | (simp only [ln] at *; omega)) fun hx8 vx9 wx10 x11 o ex12 f => ?_
 obtain ⟨a13, c14, rfl⟩ := o.shape
 refine LP_ev ok 3 [(5, .slice a13 (List.length (List.replicate (Int.toNat r7) false)) c14)] 4 rfl rfl ?_
 refine LP_end _ rfl (W_seq ?_)
 refine W_seq (W_region ?_)
 refine LP_ev ok 0 [(10, .slice a13 (List.length (List.replicate (Int.toNat r7) false)) c14), (11, I (ln (List.replicate (Int.toNat r7) false))), (12, I 0)] 3 rfl rfl ?_
 refine LP_end _ rfl ?_
 refine W_block ?_
 have xc := (x.trans x11)
 have f27 := f.mono (X.stepx x).size
 obtain ⟨J, m, Hx, H⟩ := H
 refine W_loop (S := (List Bool) × Int) (fun s ρ' w' => J s.1 s.2 ∧ ∃ (ρ : Env) (hx16 : PH), ρ' = setAll [(0, sl a sx c), (1, sl a5 l c6), (5, .slice a13 (List.length (List.replicate (Int.toNat r7) false)) c14), (11, I (ln (List.replicate (Int.toNat r7) false))), (12, I s.2)] ρ ∧ But emp w w' ∧ OS 4 hx16 emp (.slice a13 (List.length (List.replicate (Int.toNat r7) false)) c14) s.1 ∧ Sub hx16 w' ∧ Fresh w.heap.size hx16 ∧ Sub hx w' ∧ Sub hx2 w' ∧ Dj hx16 hx ∧ Dj hx16 hx2) (fun s => m s.1 s.2) (List.replicate (Int.toNat r7) false, 0) ⟨Hx, _, hx8, env_eq ⟨rfl, rfl, rfl, rfl, rfl, trivial⟩, (X.stepx xc), o, ex12, f27, (ex.ext xc), (ex4.ext xc), (Dj.of_fresh (ex.ext x) f).symm, (Dj.of_fresh (ex4.ext x) f).symm⟩ ?_
 rintro ⟨out, x20⟩ _ wx21 ⟨Hi, ρ, hx16, rfl, HF⟩
 revert HF
 refine bb8 fun X25 o17 ex18 f19 ex22 ex23 d d24 => ?_
 have H := H out x20 Hi
 refine W_seq (W_region ?_)
 refine LP_ev ok 0 [(13, .bool (decide (x20 < (ln (List.replicate (Int.toNat r7) false)))))] 1 rfl rfl ?_
 refine LP_end _ rfl (W_seq ?_)
 refine W_cond (decide (x20 < (ln (List.replicate (Int.toNat r7) false)))) rfl (fun hc => ?_) (fun hc => ?_)
 ·have H := H.1 hc
  refine W_skip ?_
  refine W_seq ?_
  refine W_block ?_
  refine W_seq (W_region ?_)
  refine LP_ev ok 0 [(14, I x20), (6, I x20)] 2 rfl rfl ?_
  refine LP_end _ rfl ?_
  refine W_region ?_
  refine LP_ev ok 0 [(15, .slice a13 (List.length (List.replicate (Int.toNat r7) false)) c14), (16, I x20), (17, sl a5 l c6), (18, sl a sx c), (19, I x20)] 5 rfl rfl ?_
  refine LP_call 5 rfl rfl rfl cal_116 rfl (impl_valuesAt_w _ _ _ H wx21 r ex22) ?_
  rintro _ wx34 ⟨r33, vx36, hx37, H, rfl, x35, o38, ex39, f40⟩
  obtain ⟨a41, c42, rfl⟩ := o38.shape
  have ex44 := (ex23.ext x35)
  refine LP_call 6 rfl rfl rfl cal_31 rfl (impl_failsOne_w _ _ _ H wx34 r3 ex44 o38.readf ex39) ?_
  rintro _ wx45 ⟨r43, H, rfl, x46⟩
  obtain ⟨hi, hl, H⟩ := H
  refine LP_indexw (v := .slice a13 (List.length (List.replicate (Int.toNat r7) false)) c14) 7 rfl rfl rfl Try.underlying114 ti_4 rfl rfl o17 hi hl fun a47 wa => ?_
  have xc52 := (x35.trans x46)
  refine LP_set 8 rfl rfl rfl rfl rfl wa (Le.refl emp) ⟨_, rfl, rfl⟩ (ex18.ext xc52) fun hx48 wx49 o50 ex51 y dm => ?_
  refine LP_end _ rfl ?_
  refine W_region ?_
  refine LP_ev ok 0 [(23, I (wr (x20 + 1))), (12, I (wr (x20 + 1)))] 2 rfl rfl ?_
  refine LP_end _ rfl ?_
  have f55 := (dm _).fresh f19 (X25.stepx xc52).size
  exact ⟨(List.set out (Int.toNat x20) r43, wr (x20 + 1)), ⟨H.1, _, hx48, env_eq ⟨rfl, rfl, rfl, rfl, rfl, trivial⟩, ((X25.stepx xc52).step y (f19.dom _)), o50, ex51, f55, ((ex22.ext xc52).but y d), ((ex44.ext x46).but y d24), (DomLe.dj (dm _) d (ex22.ext xc52)), (DomLe.dj (dm _) d24 (ex44.ext x46))⟩, H.2⟩
 have H := H.2 hc
 refine W_exit ?_
 refine (if_pos rfl).mpr ?_
 refine W_seq (W_region ?_)
 refine LP_ev ok 0 [(24, .slice a13 (List.length (List.replicate (Int.toNat r7) false)) c14), (4, .slice a13 (List.length (List.replicate (Int.toNat r7) false)) c14)] 2 rfl rfl ?_
 refine LP_end _ rfl (W_ret ?_)
 exact ⟨_, Ret_of [.slice a13 (List.length (List.replicate (Int.toNat r7) false)) c14] ⟨⟨rfl, rfl⟩, trivial⟩, _, _, _, H, rfl, X25.ext, o17, ex18, f19⟩

theorem impl_editKey_w (sx : List Variable) (sets : List Int) (Q : Int → Prop) (H : impl_editKey sx sets Q) (w : World) {vx : Value} {hx : PH} (r : RS hx vx sx) (ex : Sub hx w) {vx1 : Value} {hx2 : PH} (r3 : RS hx2 vx1 sets) (ex4 : Sub hx2 w) :
  CallsTo Try.prog 104 #[vx, vx1] w fun v w' => ∃ r0, Q r0 ∧ v = I r0 ∧ Ext w w' := by
 obtain ⟨a, c, rfl⟩ := r.shape
 obtain ⟨a5, c6, rfl⟩ := r3.shape
 refine enter (args := [sl a sx c, sl a5 sets c6]) 26 Try.func104 rfl rfl rfl ?_
 refine W_forget [(0, sl a sx c), (1, sl a5 sets c6)] ⟨rfl, rfl, trivial⟩ fun ρ => ?_
 have X := But.refl emp w
 refine W_seq (W_region ?_)
 refine LP_ev ok 0 [(4, I 0)] 1 rfl rfl ?_
 refine LP_end _ rfl (W_seq (W_region ?_))
 refine LP_ev ok 0 [(5, I 0)] 1 rfl rfl ?_
 refine LP_end _ rfl (W_seq ?_)
 refine W_seq (W_region ?_)
 refine LP_ev ok 0 [(8, sl a5 sets c6), (9, I (ln sets)), (10, I 0)] 3 rfl rfl ?_
 refine LP_end _ rfl ?_
 refine W_block ?_
 obtain ⟨J, m, Hx, H⟩ := H
 refine W_loop (S := Int × Int) (fun s ρ' w' => J s.1 s.2 ∧ ∃ (ρ : Env), ρ' = setAll [(0, sl a sx c), (5, I s.1), (8, sl a5 sets c6), (9, I (ln sets)), (10, I s.2)] ρ ∧ w = w') (fun s => m s.1 s.2) (0, 0) ⟨Hx, _, env_eq ⟨rfl, rfl, rfl, rfl, rfl, trivial⟩, rfl⟩ ?_
 rintro ⟨key, x⟩ _ _ ⟨Hi, ρ, rfl, rfl⟩
 have H := H key x Hi
 refine W_seq (W_region ?_)
 refine LP_ev ok 0 [(11, .bool (decide (x < (ln sets))))] 1 rfl rfl ?_
 refine LP_end _ rfl (W_seq ?_)
 refine W_cond (decide (x < (ln sets))) rfl (fun hc => ?_) (fun hc => ?_)
 ·have H := H.1 hc
  refine W_skip ?_
  refine W_seq ?_
  refine W_block ?_
  refine W_seq (W_region ?_)
  refine LP_ev ok 0 [(12, I x)] 1 rfl rfl ?_
  obtain ⟨x7, hi, hx8, H⟩ := H
  refine LP_index 1 rfl rfl rfl Try.underlying25 ti_3 rfl rfl r3 hi hx8 fun a9 cs r10 d => ?_
  refine LP_load 2 rfl rfl rfl ti_3 ag_3 rfl r10 d ex4 fun vx11 r12 => ?_
  obtain rfl := r12.int
  refine LP_ev ok 3 [(6, I x), (7, I x7)] 5 rfl rfl ?_
  refine LP_end _ rfl ?_
  refine W_region ?_
  refine LP_ev ok 0 [(15, I key), (16, sl a sx c), (17, I x)] 3 rfl rfl ?_
  obtain ⟨x13, hi14, hx15, H⟩ := H
  refine LP_index 3 rfl rfl rfl Try.underlying23 ti_90 rfl rfl r hi14 hx15 fun a16 cs17 r18 d19 => ?_
  refine LP_ev ok 4 [(19, .pointer (some (Addr.add a16 1)))] 5 rfl rfl ?_
  refine LP_ldfld (x := x13) (off := 1) 5 (v := I x13.Levels) rfl rfl rfl ti_3 ag_3 (fun _ => rfl) rfl r18 d19 ex rfl rfl ?_
  obtain ⟨hz, H⟩ := H
  refine LP_val 6 _ rfl rfl (ex_shl rfl rfl rfl hz _) ?_
  refine LP_ev ok 7 [(22, I x7), (23, I (bits .or .i64 (shl .i64 key x13.Levels) x7)), (5, I (bits .or .i64 (shl .i64 key x13.Levels) x7))] 10 rfl rfl ?_
  refine LP_end _ rfl ?_
  refine W_region ?_
  refine LP_ev ok 0 [(24, I (wr (x + 1))), (10, I (wr (x + 1)))] 2 rfl rfl ?_
  exact LP_end _ rfl ⟨(bits .or .i64 (shl .i64 key x13.Levels) x7, wr (x + 1)), ⟨H.1, _, env_eq ⟨rfl, rfl, rfl, rfl, rfl, trivial⟩, rfl⟩, H.2⟩
 have H := H.2 hc
 refine W_exit ?_
 refine (if_pos rfl).mpr ?_
 refine W_seq (W_region ?_)
 refine LP_ev ok 0 [(25, I key), (4, I key)] 2 rfl rfl ?_
 refine LP_end _ rfl (W_ret ?_)
 exact ⟨_, Ret_of [I key] ⟨⟨rfl, rfl⟩, trivial⟩, _, H, rfl, X.ext⟩

theorem slices_Clone_int_int_w (sx : List Int) (Q : (List Int) → Prop) (H : slices_Clone_int_int sx Q) (w : World) {vx : Value} {hx : PH} (r : RS hx vx sx) (ex : Sub hx w) :
  CallsTo Try.prog 47 #[vx] w fun v w' => ∃ r0 u0 g0, Q r0 ∧ v = u0 ∧ Ext w w' ∧ OS 3 g0 emp u0 r0 ∧ Sub g0 w' ∧ Fresh w.heap.size g0 := by
 obtain ⟨a, c, rfl⟩ := r.shape
 refine enter (args := [sl a sx c]) 8 Try.func47 rfl rfl rfl ?_
 refine W_forget [(0, sl a sx c)] ⟨rfl, trivial⟩ fun ρ => ?_
 have X := But.refl emp w
 refine W_seq (W_region ?_)
 refine LP_ev ok 0 [(2, .slice none 0 0)] 1 rfl rfl ?_
 refine LP_end _ rfl (W_seq ?_)
 refine W_seq (W_region ?_)
 refine LP_ev ok 0 [(3, sl a sx c)] 1 rfl rfl ?_
 refine LP_val 1 _ rfl rfl (ex_eqnil rfl Try.underlying25 rfl rfl _) ?_
 have H := H _ (nil_of r)
 refine LP_end _ rfl ?_
 refine W_cond (Option.isNone a) rfl (fun hc => ?_) (fun hc => ?_)
 ·have H := H.1 hc
  refine W_seq (W_region ?_)
  refine LP_ev ok 0 [(2, .slice none 0 0)] 1 rfl rfl ?_
  refine LP_end _ rfl (W_ret ?_)
  exact ⟨_, Ret_of [.slice none 0 0] ⟨⟨rfl, rfl⟩, trivial⟩, _, _, emp, H, rfl, X.ext, OS.nil, (emp_sub _), (emp_fresh _)⟩
 have H := H.2 hc
 refine W_skip ?_
 refine W_seq (W_region ?_)
 refine LP_lit (α := Int) (g := emp) 0 (vs := []) (xs := []) rfl rfl rfl Try.underlying25 ti_3 rfl rfl trivial rfl rfl fun hx1 vx2 wx x o ex3 f => ?_
 obtain ⟨a4, c5, rfl⟩ := o.shape
 refine LP_ev ok 1 [(6, sl a sx c)] 2 rfl rfl ?_
 obtain ⟨hb, H⟩ := H
 refine LP_appendf (α := Int) 2 rfl rfl rfl Try.underlying25 ti_3 rfl rfl rfl o ex3 r (ex.ext x) (by first | omega | (simp only [ln] at *; omega)) (by first | omega | (simp only [ln] at *; omega)) fun hx7 vx8 wx9 o10 ex11 y dm => ?_
 obtain ⟨a12, c13, rfl⟩ := o10.shape
 refine LP_ev ok 3 [(2, .slice a12 (List.length ((([] : List Int)) ++ sx)) c13)] 4 rfl rfl ?_
 refine LP_end _ rfl (W_ret ?_)
 have f15 := f.mono X.size
 have X16 := (X.stepx x)
 have f14 := dm.fresh f15 X16.size
 exact ⟨_, Ret_of [.slice a12 (List.length ((([] : List Int)) ++ sx)) c13] ⟨⟨rfl, rfl⟩, trivial⟩, _, _, _, H, rfl, (X16.step y (f15.dom _)).ext, o10, ex11, f14⟩

theorem impl_maximalEdits_1_w (sets : List Int) (c1 : List (Int × Bool)) (c8 : List Variable) (c17 : List Edit) (Q : (List (Int × Bool)) → (List Edit) → Prop) (H : impl_maximalEdits_1 sets c1 c8 c17 Q) (w : World) {vx : Value} {hx : PH} (r : RS hx vx sets) (ex : Sub hx w) {vx2 : Value} {hx3 : PH} (r4 : MO hx3 vx2 c1) (ex5 : Sub hx3 w) {b6 : Nat} (ex7 : Sub (bx b6 112 [vx2]) w) {vx9 : Value} {hx10 : PH} (r11 : RS hx10 vx9 c8) (ex12 : Sub hx10 w) {b15 : Nat} (ex16 : Sub (bx b15 23 [vx9]) w) {vx18 : Value} {hx19 : PH} (r20 : OD hx19 vx18 c17) (ex21 : Sub hx19 w) {b24 : Nat} (ex25 : Sub (bx b24 24 [vx18]) w) (d : Dj hx3 hx19) (d26 : Dj hx3 (bx b24 24 [vx18])) (d27 : Dj hx19 (bx b24 24 [vx18])) (d28 : Dj hx3 hx) (d29 : Dj hx3 (bx b6 112 [vx2])) (d30 : Dj hx3 hx10) (d31 : Dj hx3 (bx b15 23 [vx9])) (d32 : Dj hx19 hx) (d33 : Dj hx19 (bx b6 112 [vx2])) (d34 : Dj hx19 hx10) (d35 : Dj hx19 (bx b15 23 [vx9])) (d36 : Dj (bx b24 24 [vx18]) hx) (d37 : Dj (bx b24 24 [vx18]) (bx b6 112 [vx2])) (d38 : Dj (bx b24 24 [vx18]) hx10) (d39 : Dj (bx b24 24 [vx18]) (bx b15 23 [vx9])) :
  CallsTo Try.prog 103 #[vx, pb b6, pb b15, pb b24] w fun v w' => ∃ m1 m2 k1 v2_ k2, Q m1 m2 ∧ v = .tuple #[] ∧ But (un hx3 (un hx19 (bx b24 24 [vx18]))) w w' ∧ MO k1 vx2 m1 ∧ Sub k1 w' ∧ (∀ n, DomLe hx3 n k1) ∧ OD k2 v2_ m2 ∧ Sub k2 w' ∧ DomLe (un hx3 (un hx19 (bx b24 24 [vx18]))) w.heap.size k2 ∧ Sub (bx b24 24 [v2_]) w' ∧ Dj k1 k2 ∧ Dj k1 (bx b24 24 [v2_]) ∧ Dj k2 (bx b24 24 [v2_]) := by
 obtain ⟨a, c, rfl⟩ := r.shape
 obtain ⟨b, rfl⟩ := r4.shape
 obtain ⟨a13, c14, rfl⟩ := r11.shape
 obtain ⟨a22, c23, rfl⟩ := r20.shape
 refine enter (args := [sl a sets c, pb b6, pb b15, pb b24]) 15 Try.func103 rfl rfl rfl ?_
 refine W_forget [(0, sl a sets c), (1, pb b6), (2, pb b15), (3, pb b24)] ⟨rfl, rfl, rfl, rfl, trivial⟩ fun ρ => ?_
 obtain ⟨M, hM⟩ : ∃ M : PH, M = (un hx3 (un hx19 (bx b24 24 [sl a22 c17 c23]))) := ⟨_, rfl⟩
 have D : Dom M hx3 := by subst hM; exact (Dom.l _ _)
 have D40 : Dom M hx19 := by subst hM; exact (Dom.trans (Dom.r _ _) (Dom.l _ _))
 have D41 : Dom M (bx b24 24 [sl a22 c17 c23]) := by subst hM; exact (Dom.trans (Dom.r _ _) (Dom.trans (Dom.r _ _) (Dom.refl _)))
 have X := But.refl M w
 refine W_seq ?_
 refine W_open mix fun wx x => ?_
 refine AP_game 4 [[], [], [], [1, 2], [0, 1, 2, 3]] [[(1, none)], [(2, none)], [(0, none)], [(6, some 1), (7, some 2)]] [(0, none), (3, none), (5, some 0), (8, some 3)] [(0, false), (1, false), (2, false), (3, false)] (by kernel_rfl) (by kernel_rfl) ?_
 refine GS_r1 [(1, pb b6)] (.map (some b)) rfl rfl (fun _ h => h) (fun _ w e => ex_ldbox rfl ti_112 ag_112 (fun _ => rfl) rfl e rfl rfl) (ex7.ext x) ?_
 refine GS_r1 [(2, pb b15)] (sl a13 c8 c14) rfl rfl (fun _ h => h) (fun _ w e => ex_ldbox rfl ti_23 ag_23 (fun _ => rfl) rfl e rfl rfl) (ex16.ext x) ?_
 refine GS_ev ok [(0, sl a sets c)] (sl a sets c) rfl rfl (fun _ h => h) (fun _ => rfl) ?_
 obtain ⟨r44, Hd, H⟩ := H
 have ex46 := (ex.ext x)
 refine GS_q [(6, sl a13 c8 c14), (7, sl a sets c)] (I r44) [hx10, hx] [sl a13 c8 c14, sl a sets c] rfl rfl (fun _ h => h) rfl cal_104 (fun _ => rfl) (fun w e => (impl_editKey_w _ _ _ Hd w r11 e.1 r e.2.1).mono (fun _ _ h => by obtain ⟨_, rfl, rfl, x⟩ := h; exact ⟨rfl, x⟩)) ⟨(ex12.ext x), ex46, trivial⟩ ?_
 intro wx47 x48 ρ hn
 refine AP_forget [(0, sl a sets c), (3, pb b24), (5, .map (some b)), (8, I r44)] (by exact hn) fun ρ => ?_
 refine AP_tail 4 [[], [], [], [1, 2], [0, 1, 2, 3]] (by kernel_rfl) ?_
 have xc := (x.trans x48)
 refine LP_mapset (el := true) 4 rfl rfl rfl Try.underlying112 Try.underlying3 rfl rfl rfl r4 (ex5.ext xc) fun hx49 wx50 o ex51 y dm => ?_
 refine LP_end _ rfl ?_
 refine W_open mix fun wx53 x54 => ?_
 refine AP_game 5 [[], [], [1], [1, 2], [1, 2, 3], [0, 1, 2, 3, 4], [0, 1, 2, 3, 4, 5]] [[(3, none)], [(0, none)], [(10, some 1)], [(11, some 2)], [(12, some 3)]] [(3, none), (9, some 0), (13, some 4)] [(0, false), (1, false), (2, true), (3, false), (4, true)] (by kernel_rfl) (by kernel_rfl) ?_
 have ex55 := (((ex25.ext xc).but y d26).ext x54)
 refine GS_r1 [(3, pb b24)] (sl a22 c17 c23) rfl rfl (fun _ h => h) (fun _ w e => ex_ldbox rfl ti_24 ag_24 (fun _ => rfl) rfl e rfl rfl) ex55 ?_
 refine GS_ev ok [(0, sl a sets c)] (sl a sets c) rfl rfl (fun _ h => h) (fun _ => rfl) ?_
 refine GS_lp [(10, sl a sets c)] rfl rfl (fun _ h => h) rfl fun ρ wx56 x57 => ?_
 have xc59 := (x54.trans x57)
 refine LP_call 0 rfl rfl rfl cal_47 rfl (slices_Clone_int_int_w _ _ H wx56 r (((ex46.ext x48).but y d28).ext xc59)) ?_
 rintro _ wx61 ⟨r58, vx63, hx64, H, rfl, x62, o65, ex66, f⟩
 obtain ⟨a67, c68, rfl⟩ := o65.shape
 have ex70 := (ex55.ext (x57.trans x62))
 refine LP_gs ⟨⟨.inr ex70, trivial⟩, ?_⟩
 refine GS_ev ok [(11, sl a67 r58 c68)] (.agg #[sl a67 r58 c68]) rfl rfl (fun _ h => h) (fun _ => rfl) ?_
 refine GS_lp [(12, .agg #[sl a67 r58 c68])] rfl rfl (fun _ h => h) rfl fun ρ wx71 x72 => ?_
 have rv : RVO hx64 (.agg #[sl a67 r58 c68]) ((Edit.mk r58) : Edit) := ⟨_, ⟨_, rfl, (OS.od o65)⟩, rfl⟩
 refine LP_litD (α := Edit) 0 (vs := [.agg #[sl a67 r58 c68]]) (xs := [((Edit.mk r58) : Edit)]) rfl rfl rfl Try.underlying24 ti_79 rfl rfl (allO.one rv) (ex66.ext x72) rfl rfl fun hx74 vx75 wx76 x77 o78 ex79 dm80 => ?_
 obtain ⟨a81, c82, rfl⟩ := o78.shape
 refine LP_gs ⟨⟨.inr (ex70.ext (x72.trans x77)), trivial⟩, ?_⟩
 intro wx85 x86 ρ hn87
 refine AP_forget [(3, pb b24), (9, sl a22 c17 c23), (13, .slice a81 (List.length ([((Edit.mk r58) : Edit)])) c82)] (by exact hn87) fun ρ => ?_
 refine AP_tail 5 [[], [], [1], [1, 2], [1, 2, 3], [0, 1, 2, 3, 4], [0, 1, 2, 3, 4, 5]] (by kernel_rfl) ?_
 have xc88 := (((((x54.trans x57).trans x62).trans x72).trans x77).trans x86)
 have ex90 := (((ex21.ext xc).but y d).ext xc59)
 have xc91 := (x62.trans x72)
 obtain ⟨hb, H⟩ := H
 refine LP_appendD (α := Edit) 5 rfl rfl rfl Try.underlying24 ti_79 rfl rfl rfl r20 (((ex21.ext xc).but y d).ext xc88) o78 (ex79.ext x86) (DomLe.dj dm80 (Dj.of_fresh ex90 f).symm (ex90.ext xc91)).symm (by first | omega | (simp only [ln] at *; omega)) (by first | omega | (simp only [ln] at *; omega)) fun hx94 vx95 wx96 hw o97 ex98 y99 dh dm100 => ?_
 obtain ⟨a101, c102, rfl⟩ := o97.shape
 refine LP_stbox 6 (vs := [.slice a101 (List.length (c17 ++ ([((Edit.mk r58) : Edit)]))) c102]) (cs' := [.slice a101 (List.length (c17 ++ ([((Edit.mk r58) : Edit)]))) c102]) rfl rfl rfl ti_24 rfl rfl rfl rfl rfl ((ex55.ext ((((x57.trans x62).trans x72).trans x77).trans x86)).but (But.dom y99 dh) d27) rfl rfl fun wx103 ex104 y105 => ?_
 refine LP_end _ rfl ?_
 have ex109 := (ex25.ext xc)
 have ex111 := (ex55.ext x57)
 have ex112 := (ex111.ext xc91)
 have xc113 := (x77.trans x86)
 have ex114 := (ex112.ext xc113)
 have X117 := (((X.stepx xc).step y (Dom.le D _)).stepx xc59)
 have f116 := f.mono X117.size
 have X119 := (X117.stepx xc91)
 have f118 := DomLe.fresh dm80 f116 X119.size
 have X120 := (X119.stepx xc113)
 have ex122 := (ex51.ext xc59)
 have ex123 := (ex122.ext xc91)
 subst hM
 exact ⟨_, Ret_of [] trivial, _, _, _, _, _, H, rfl, ((X120.step (But.dom y99 dh) (Dom.le D40 _)).step y105 (Dom.le D41 _)), o, (((ex51.ext xc88).but (But.dom y99 dh) (DomLe.dj (dm _) d (ex21.ext xc)).symm).but y105 (DomLe.dj (dm _) d26 ex109).symm), (fun _ => DomLe.trans (DomLe.refl _ _) ((dm _)) (Nat.le_refl _)), o97, (ex98.but y105 (DomLe.dj dm100 (Dj.un_l d27 (DomLe.dj dm80 (Dj.of_fresh ex111 f).symm ex112)) ex114).symm), (DomLe.trans (DomLe.un (Dom.le D40 _) (f118.dom _)) dm100 X120.size), ex104, (DomLe.dj dm100 (Dj.un_l (DomLe.dj (dm _) d (ex21.ext xc)).symm (DomLe.dj dm80 (Dj.of_fresh ex122 f).symm ex123)) (ex123.ext xc113)).symm, (Dj.box (DomLe.dj (dm _) d26 ex109).symm).symm, (Dj.box (DomLe.dj dm100 (Dj.un_l d27 (DomLe.dj dm80 (Dj.of_fresh ex111 f).symm ex112)) ex114).symm).symm⟩

theorem impl_impliedIn_impl_maximalEdits_1_w (sx : List Variable) (inx : List Bool) (vx7 : Int) (sets : List Int) (c14 : List (Int × Bool)) (c21 : List Variable) (c30 : List Edit) (Q : (List (Int × Bool)) → (List Edit) → Prop) (H : impl_impliedIn_impl_maximalEdits_1 sx inx vx7 sets c14 c21 c30 Q) (w : World) {vx : Value} {hx : PH} (r : RS hx vx sx) (ex : Sub hx w) {vx1 : Value} {hx2 : PH} (r3 : RS hx2 vx1 inx) (ex4 : Sub hx2 w) {vx8 : Value} {hx9 : PH} (r10 : OS 3 hx9 emp vx8 sets) (ex11 : Sub hx9 w) {vx15 : Value} {hx16 : PH} (r17 : MO hx16 vx15 c14) (ex18 : Sub hx16 w) {b19 : Nat} (ex20 : Sub (bx b19 112 [vx15]) w) {vx22 : Value} {hx23 : PH} (r24 : RS hx23 vx22 c21) (ex25 : Sub hx23 w) {b28 : Nat} (ex29 : Sub (bx b28 23 [vx22]) w) {vx31 : Value} {hx32 : PH} (r33 : OD hx32 vx31 c30) (ex34 : Sub hx32 w) {b37 : Nat} (ex38 : Sub (bx b37 24 [vx31]) w) (d : Dj hx9 hx16) (d39 : Dj hx9 hx32) (d40 : Dj hx9 (bx b37 24 [vx31])) (d41 : Dj hx16 hx32) (d42 : Dj hx16 (bx b37 24 [vx31])) (d43 : Dj hx32 (bx b37 24 [vx31])) (d44 : Dj hx9 hx) (d45 : Dj hx9 hx2) (d46 : Dj hx9 (bx b19 112 [vx15])) (d47 : Dj hx9 hx23) (d48 : Dj hx9 (bx b28 23 [vx22])) (d49 : Dj hx16 hx) (d50 : Dj hx16 hx2) (d51 : Dj hx16 (bx b19 112 [vx15])) (d52 : Dj hx16 hx23) (d53 : Dj hx16 (bx b28 23 [vx22])) (d54 : Dj hx32 hx) (d55 : Dj hx32 hx2) (d56 : Dj hx32 (bx b19 112 [vx15])) (d57 : Dj hx32 hx23) (d58 : Dj hx32 (bx b28 23 [vx22])) (d59 : Dj (bx b37 24 [vx31]) hx) (d60 : Dj (bx b37 24 [vx31]) hx2) (d61 : Dj (bx b37 24 [vx31]) (bx b19 112 [vx15])) (d62 : Dj (bx b37 24 [vx31]) hx23) (d63 : Dj (bx b37 24 [vx31]) (bx b28 23 [vx22])) :
  CallsTo Try.prog 101 #[vx, vx1, I vx7, vx8, .func (.func 103) #[] #[pb b19, pb b28, pb b37]] w fun v w' => ∃ m2 m3 k1 k2 v3_ k3, Q m2 m3 ∧ v = .tuple #[] ∧ But (un hx9 (un hx16 (un hx32 (bx b37 24 [vx31])))) w w' ∧ OS 3 k1 emp vx8 sets ∧ Sub k1 w' ∧ (∀ n, DomLe hx9 n k1) ∧ MO k2 vx15 m2 ∧ Sub k2 w' ∧ (∀ n, DomLe hx16 n k2) ∧ OD k3 v3_ m3 ∧ Sub k3 w' ∧ DomLe (un hx9 (un hx16 (un hx32 (bx b37 24 [vx31])))) w.heap.size k3 ∧ Sub (bx b37 24 [v3_]) w' ∧ Dj k1 k2 ∧ Dj k1 k3 ∧ Dj k1 (bx b37 24 [v3_]) ∧ Dj k2 k3 ∧ Dj k2 (bx b37 24 [v3_]) ∧ Dj k3 (bx b37 24 [v3_]) := by
 obtain ⟨S, mu, H0, HS⟩ := H
 have key : ∀ (m : Nat) (sx : List Variable) (inx : List Bool) (vx7 : Int) (sets : List Int) (c14 : List (Int × Bool)) (c21 : List Variable) (c30 : List Edit) (Q : (List (Int × Bool)) → (List Edit) → Prop), S sx inx vx7 sets c14 c21 c30 Q → mu sx inx vx7 sets c14 c21 c30 < m → ∀ (w : World) {vx : Value} {hx : PH} (r : RS hx vx sx) (ex : Sub hx w) {vx1 : Value} {hx2 : PH} (r3 : RS hx2 vx1 inx) (ex4 : Sub hx2 w) {vx8 : Value} {hx9 : PH} (r10 : OS 3 hx9 emp vx8 sets) (ex11 : Sub hx9 w) {vx15 : Value} {hx16 : PH} (r17 : MO hx16 vx15 c14) (ex18 : Sub hx16 w) {b19 : Nat} (ex20 : Sub (bx b19 112 [vx15]) w) {vx22 : Value} {hx23 : PH} (r24 : RS hx23 vx22 c21) (ex25 : Sub hx23 w) {b28 : Nat} (ex29 : Sub (bx b28 23 [vx22]) w) {vx31 : Value} {hx32 : PH} (r33 : OD hx32 vx31 c30) (ex34 : Sub hx32 w) {b37 : Nat} (ex38 : Sub (bx b37 24 [vx31]) w) (d : Dj hx9 hx16) (d39 : Dj hx9 hx32) (d40 : Dj hx9 (bx b37 24 [vx31])) (d41 : Dj hx16 hx32) (d42 : Dj hx16 (bx b37 24 [vx31])) (d43 : Dj hx32 (bx b37 24 [vx31])) (d44 : Dj hx9 hx) (d45 : Dj hx9 hx2) (d46 : Dj hx9 (bx b19 112 [vx15])) (d47 : Dj hx9 hx23) (d48 : Dj hx9 (bx b28 23 [vx22])) (d49 : Dj hx16 hx) (d50 : Dj hx16 hx2) (d51 : Dj hx16 (bx b19 112 [vx15])) (d52 : Dj hx16 hx23) (d53 : Dj hx16 (bx b28 23 [vx22])) (d54 : Dj hx32 hx) (d55 : Dj hx32 hx2) (d56 : Dj hx32 (bx b19 112 [vx15])) (d57 : Dj hx32 hx23) (d58 : Dj hx32 (bx b28 23 [vx22])) (d59 : Dj (bx b37 24 [vx31]) hx) (d60 : Dj (bx b37 24 [vx31]) hx2) (d61 : Dj (bx b37 24 [vx31]) (bx b19 112 [vx15])) (d62 : Dj (bx b37 24 [vx31]) hx23) (d63 : Dj (bx b37 24 [vx31]) (bx b28 23 [vx22])), CallsTo Try.prog 101 #[vx, vx1, I vx7, vx8, .func (.func 103) #[] #[pb b19, pb b28, pb b37]] w fun v w' => ∃ m2 m3 k1 k2 v3_ k3, Q m2 m3 ∧ v = .tuple #[] ∧ But (un hx9 (un hx16 (un hx32 (bx b37 24 [vx31])))) w w' ∧ OS 3 k1 emp vx8 sets ∧ Sub k1 w' ∧ (∀ n, DomLe hx9 n k1) ∧ MO k2 vx15 m2 ∧ Sub k2 w' ∧ (∀ n, DomLe hx16 n k2) ∧ OD k3 v3_ m3 ∧ Sub k3 w' ∧ DomLe (un hx9 (un hx16 (un hx32 (bx b37 24 [vx31])))) w.heap.size k3 ∧ Sub (bx b37 24 [v3_]) w' ∧ Dj k1 k2 ∧ Dj k1 k3 ∧ Dj k1 (bx b37 24 [v3_]) ∧ Dj k2 k3 ∧ Dj k2 (bx b37 24 [v3_]) ∧ Dj k3 (bx b37 24 [v3_]) := by
  intro m
  induction m with
  | zero => intro sx inx vx7 sets c14 c21 c30 Q _ hm; exact absurd hm (Nat.not_lt_zero _)
  | succ m ih =>
   intro sx inx vx7 sets c14 c21 c30 Q H0 hm w vx hx r ex vx1 hx2 r3 ex4 vx8 hx9 r10 ex11 vx15 hx16 r17 ex18 b19 ex20 vx22 hx23 r24 ex25 b28 ex29 vx31 hx32 r33 ex34 b37 ex38 d d39 d40 d41 d42 d43 d44 d45 d46 d47 d48 d49 d50 d51 d52 d53 d54 d55 d56 d57 d58 d59 d60 d61 d62 d63
   have H := HS sx inx vx7 sets c14 c21 c30 Q H0
   obtain ⟨a, c, rfl⟩ := r.shape
   obtain ⟨a5, c6, rfl⟩ := r3.shape
   obtain ⟨a12, c13, rfl⟩ := r10.shape
   obtain ⟨b, rfl⟩ := r17.shape
   obtain ⟨a26, c27, rfl⟩ := r24.shape
   obtain ⟨a35, c36, rfl⟩ := r33.shape
   refine enter (args := [sl a sx c, sl a5 inx c6, I vx7, sl a12 sets c13, .func (.func 103) #[] #[pb b19, pb b28, pb b37]]) 117 Try.func101 rfl rfl rfl ?_
   refine W_forget [(0, sl a sx c), (1, sl a5 inx c6), (2, I vx7), (3, sl a12 sets c13), (4, .func (.func 103) #[] #[pb b19, pb b28, pb b37])] ⟨rfl, rfl, rfl, rfl, rfl, trivial⟩ fun ρ => ?_
   obtain ⟨M, hM⟩ : ∃ M : PH, M = (un hx9 (un hx16 (un hx32 (bx b37 24 [sl a35 c30 c36])))) := ⟨_, rfl⟩
   have D : Dom M hx9 := by subst hM; exact (Dom.l _ _)
   have D64 : Dom M hx16 := by subst hM; exact (Dom.trans (Dom.r _ _) (Dom.l _ _))
   have D65 : Dom M hx32 := by subst hM; exact (Dom.trans (Dom.r _ _) (Dom.trans (Dom.r _ _) (Dom.l _ _)))
   have D66 : Dom M (bx b37 24 [sl a35 c30 c36]) := by subst hM; exact (Dom.trans (Dom.r _ _) (Dom.trans (Dom.r _ _) (Dom.trans (Dom.r _ _) (Dom.refl _))))
   have X := But.refl M w
   refine W_seq (W_region ?_)
   refine LP_ev ok 0 [(18, sl a12 sets c13), (19, I (ln sets)), (10, I (ln sets))] 3 rfl rfl ?_
   refine LP_end _ rfl (W_seq ?_)
   refine W_seq (W_region ?_)
   refine LP_ev ok 0 [(20, I (ln sets)), (21, sl a sx c), (22, I (ln sx)), (23, .bool ((ln sets) == (ln sx)))] 4 rfl rfl ?_
   refine LP_end _ rfl ?_
   refine W_cond ((ln sets) == (ln sx)) rfl (fun hc => ?_) (fun hc => ?_)
   ·have H := H.1 hc
    obtain ⟨k, hk, H⟩ := jn_elim H
    refine W_join2 (S := (List (Int × Bool)) × (List Edit)) (fun s ρ' w' => k s.1 s.2 ∧ ∃ (ρ : Env) (hx67 : PH) (vx69 : Value) (hx70 : PH), ρ' = setAll [] ρ ∧ But M w w' ∧ MO hx67 (.map (some b)) s.1 ∧ Sub hx67 w' ∧ (∀ n, DomLe hx16 n hx67) ∧ OD hx70 vx69 s.2 ∧ Sub hx70 w' ∧ DomLe M w.heap.size hx70 ∧ Sub hx9 w' ∧ Sub (bx b37 24 [vx69]) w' ∧ Dj hx67 hx9 ∧ Dj hx67 (bx b37 24 [vx69]) ∧ Dj hx70 hx9 ∧ Dj hx70 (bx b37 24 [vx69]) ∧ Dj hx70 hx67) ?_ ?_
    ·refine W_seq (W_region ?_)
     refine LP_ev ok 0 [(24, sl a5 inx c6)] 1 rfl rfl ?_
     obtain ⟨x84, hi, hx85, H⟩ := H
     refine LP_index 1 rfl rfl rfl Try.underlying114 ti_4 rfl rfl r3 hi hx85 fun a86 cs r87 d88 => ?_
     refine LP_load 2 rfl rfl rfl ti_4 ag_4 rfl r87 d88 ex4 fun vx89 r90 => ?_
     obtain rfl := r90.bool
     refine LP_end _ rfl ?_
     refine W_cond (x84) rfl (fun hc91 => ?_) (fun hc91 => ?_)
     ·have H := H.1 hc91
      refine W_region ?_
      refine LP_ev ok 0 [(27, .func (.func 103) #[] #[pb b19, pb b28, pb b37]), (28, sl a12 sets c13)] 2 rfl rfl ?_
      refine LP_callc 2 rfl rfl rfl rfl cal_103 rfl rfl (impl_maximalEdits_1_w _ _ _ _ _ H w r10.readf ex11 r17 ex18 ex20 r24 ex25 ex29 r33 ex34 ex38 d41 d42 d43 d.symm d51 d52 d53 d39.symm d56 d57 d58 d40.symm d61 d62 d63) ?_
      rintro _ wx94 ⟨r92, r93, hx96, vx103, hx99, H, rfl, x95, HF⟩
      revert HF
      refine bb9 fun o97 ex98 dm o100 ex101 dm102 ex104 d105 => ?_
      refine bb2 fun d106 d107 => ?_
      obtain ⟨a108, c109, rfl⟩ := o100.shape
      exact LP_end _ rfl ⟨(r92, r93), H, _, hx96, sl a108 r93 c109, hx99, env_eq trivial, (X.step x95 (DomLe.un (Dom.le D64 _) (DomLe.un (Dom.le D65 _) (Dom.le D66 _)))), o97, ex98, (fun _ => DomLe.trans (DomLe.refl _ _) ((dm _)) (Nat.le_refl _)), o100, ex101, (DomLe.trans (DomLe.un (Dom.le D64 _) (DomLe.un (Dom.le D65 _) (Dom.le D66 _))) dm102 X.size), (ex11.but x95 (Dj.un_l d.symm (Dj.un_l d39.symm d40.symm))), ex104, (DomLe.dj (dm _) d.symm ex11), d106, (DomLe.dj dm102 (Dj.un_l d.symm (Dj.un_l d39.symm d40.symm)) ex11), d107, d105.symm⟩
     have H := H.2 hc91
     exact W_skip ⟨(c14, c30), H, _, hx16, sl a35 c30 c36, hx32, env_eq trivial, X, r17, ex18, (fun _ => DomLe.refl _ _), r33, ex34, (Dom.le D65 _), ex11, ex38, d.symm, d42, d39.symm, d43, d41.symm⟩
    rintro ⟨mp, x⟩ _ wx ⟨H, ρ, hx67, vx69, hx70, rfl, HF⟩
    revert HF
    refine bb9 fun X83 o ex68 f o71 ex72 f73 ex74 => ?_
    refine bb6 fun ex77 d78 d79 d80 d81 d82 => ?_
    subst hk
    obtain ⟨a75, c76, rfl⟩ := o71.shape
    refine W_ret ?_
    subst hM
    exact ⟨_, Ret_of [] trivial, _, _, _, _, _, _, H, rfl, X83, r10, ex74, (fun _ => DomLe.refl _ _), o, ex68, (fun _ => f _), o71, ex72, f73, ex77, d78.symm, d80.symm, (Dj.box d40.symm).symm, d82.symm, d79, d81⟩
   have H := H.2 hc
   refine W_skip ?_
   refine W_seq (W_region ?_)
   refine LP_ev ok 0 [(30, sl a5 inx c6), (31, I (ln inx)), (32, sl a sx c), (33, I (ln sets))] 4 rfl rfl ?_
   obtain ⟨x112, hi113, hx114, H⟩ := H
   refine LP_index 4 rfl rfl rfl Try.underlying23 ti_90 rfl rfl r hi113 hx114 fun a115 cs116 r117 d118 => ?_
   refine LP_ev ok 5 [(35, .pointer (some (Addr.add a115 1)))] 6 rfl rfl ?_
   refine LP_ldfld (x := x112) (off := 1) 6 (v := I x112.Levels) rfl rfl rfl ti_3 ag_3 (fun _ => rfl) rfl r117 d118 ex rfl rfl ?_
   obtain ⟨hz, H⟩ := H
   refine LP_val 7 _ rfl rfl (ex_quo rfl rfl rfl hz _) ?_
   refine LP_ev ok 8 [(11, I (wr (Int.tdiv (ln inx) x112.Levels)))] 9 rfl rfl ?_
   refine LP_end _ rfl (W_seq (W_region ?_))
   refine LP_ev ok 0 [(12, I 1)] 1 rfl rfl ?_
   refine LP_end _ rfl ?_
   obtain ⟨k130, hk131, H⟩ := jn_elim H
   refine W_join2 (S := Int) (fun s ρ' w' => k130 s ∧ ∃ (ρ : Env), ρ' = setAll [(0, sl a sx c), (1, sl a5 inx c6), (2, I vx7), (3, sl a12 sets c13), (4, .func (.func 103) #[] #[pb b19, pb b28, pb b37]), (10, I (ln sets)), (11, I (wr (Int.tdiv (ln inx) x112.Levels))), (12, I s)] ρ ∧ But M w w' ∧ Sub hx w' ∧ Sub hx2 w' ∧ Sub hx9 w' ∧ Sub hx16 w' ∧ Sub (bx b19 112 [.map (some b)]) w' ∧ Sub hx23 w' ∧ Sub (bx b28 23 [sl a26 c21 c27]) w' ∧ Sub hx32 w' ∧ Sub (bx b37 24 [sl a35 c30 c36]) w') ?_ ?_
   ·refine W_seq (W_region ?_)
    refine LP_ev ok 0 [(38, I (ln sets)), (39, I vx7), (40, .bool ((ln sets) == vx7))] 3 rfl rfl ?_
    refine LP_end _ rfl ?_
    refine W_cond ((ln sets) == vx7) rfl (fun hc132 => ?_) (fun hc132 => ?_)
    ·have H := H.1 hc132
     refine W_region ?_
     refine LP_ev ok 0 [(41, sl a sx c), (42, I (ln sets))] 2 rfl rfl ?_
     obtain ⟨x133, hi134, hx135, H⟩ := H
     refine LP_index 2 rfl rfl rfl Try.underlying23 ti_90 rfl rfl r hi134 hx135 fun a136 cs137 r138 d139 => ?_
     refine LP_load 3 rfl rfl rfl ti_90 ag_90 rfl r138 d139 ex fun vx140 r141 => ?_
     obtain rfl := Variable_rv r141
     refine LP_call 4 rfl rfl rfl cal_106 rfl (impl_fullSet_w _ _ H w ) ?_
     rintro _ wx143 ⟨r142, H, rfl, x144⟩
     refine LP_ev ok 5 [(12, I r142)] 6 rfl rfl ?_
     refine LP_end _ rfl ?_
     try refine W_forget [(0, sl a sx c), (1, sl a5 inx c6), (2, I vx7), (3, sl a12 sets c13), (4, .func (.func 103) #[] #[pb b19, pb b28, pb b37]), (10, I (ln sets)), (11, I (wr (Int.tdiv (ln inx) x112.Levels))), (12, I r142)] ⟨rfl, rfl, rfl, rfl, rfl, rfl, rfl, rfl, trivial⟩ fun ρ => ?_
     exact ⟨r142, H, _, env_eq ⟨rfl, rfl, rfl, rfl, rfl, rfl, rfl, rfl, trivial⟩, (X.stepx x144), (ex.ext x144), (ex4.ext x144), (ex11.ext x144), (ex18.ext x144), (ex20.ext x144), (ex25.ext x144), (ex29.ext x144), (ex34.ext x144), (ex38.ext x144)⟩
    have H := H.2 hc132
    exact W_skip ⟨1, H, _, env_eq ⟨rfl, rfl, rfl, rfl, rfl, rfl, rfl, rfl, trivial⟩, X, ex, ex4, ex11, ex18, ex20, ex25, ex29, ex34, ex38⟩
   rintro least _ wx119 ⟨H, ρ, rfl, HF⟩
   revert HF
   refine bb9 fun X129 ex120 ex121 ex122 ex123 ex124 ex125 ex126 => ?_
   refine bb2 fun ex127 ex128 => ?_
   subst hk131
   refine W_seq (W_region ?_)
   refine LP_ev ok 0 [(46, I least), (13, I least)] 2 rfl rfl ?_
   refine LP_end _ rfl ?_
   refine W_block ?_
   obtain ⟨J, m202, Hx, H⟩ := H
   refine W_loop (S := Int × (List (Int × Bool)) × (List Edit)) (fun s ρ' w' => J s.1 s.2.1 s.2.2 ∧ ∃ (ρ : Env) (hx156 : PH) (hx161 : PH) (vx166 : Value) (hx167 : PH), ρ' = setAll [(0, sl a sx c), (1, sl a5 inx c6), (2, I vx7), (3, sl a12 sets c13), (4, .func (.func 103) #[] #[pb b19, pb b28, pb b37]), (10, I (ln sets)), (11, I (wr (Int.tdiv (ln inx) x112.Levels))), (13, I s.1)] ρ ∧ But M w w' ∧ OS 3 hx156 emp (sl a12 sets c13) sets ∧ Sub hx156 w' ∧ (∀ n, DomLe hx9 n hx156) ∧ MO hx161 (.map (some b)) s.2.1 ∧ Sub hx161 w' ∧ (∀ n, DomLe hx16 n hx161) ∧ OD hx167 vx166 s.2.2 ∧ Sub hx167 w' ∧ DomLe M w.heap.size hx167 ∧ Sub hx w' ∧ Sub hx2 w' ∧ Sub (bx b19 112 [.map (some b)]) w' ∧ Sub hx23 w' ∧ Sub (bx b28 23 [sl a26 c21 c27]) w' ∧ Sub (bx b37 24 [vx166]) w' ∧ Dj hx156 hx ∧ Dj hx156 hx2 ∧ Dj hx156 (bx b19 112 [.map (some b)]) ∧ Dj hx156 hx23 ∧ Dj hx156 (bx b28 23 [sl a26 c21 c27]) ∧ Dj hx156 (bx b37 24 [vx166]) ∧ Dj hx161 hx ∧ Dj hx161 hx2 ∧ Dj hx161 (bx b19 112 [.map (some b)]) ∧ Dj hx161 hx23 ∧ Dj hx161 (bx b28 23 [sl a26 c21 c27]) ∧ Dj hx161 (bx b37 24 [vx166]) ∧ Dj hx161 hx156 ∧ Dj hx167 hx ∧ Dj hx167 hx2 ∧ Dj hx167 (bx b19 112 [.map (some b)]) ∧ Dj hx167 hx23 ∧ Dj hx167 (bx b28 23 [sl a26 c21 c27]) ∧ Dj hx167 (bx b37 24 [vx166]) ∧ Dj hx167 hx156 ∧ Dj hx167 hx161) (fun s => m202 s.1 s.2.1 s.2.2) (least, c14, c30) ⟨Hx, _, hx9, hx16, sl a35 c30 c36, hx32, env_eq ⟨rfl, rfl, rfl, rfl, rfl, rfl, rfl, rfl, trivial⟩, X129, r10, ex122, (fun _ => DomLe.refl _ _), r17, ex123, (fun _ => DomLe.refl _ _), r33, ex127, (Dom.le D65 _), ex120, ex121, ex124, ex125, ex126, ex128, d44, d45, d46, d47, d48, d40, d49, d50, d51, d52, d53, d42, d.symm, d54, d55, d56, d57, d58, d43, d39.symm, d41.symm⟩ ?_
   rintro ⟨setx, mp160, x165⟩ _ wx171 ⟨Hi, ρ, hx156, hx161, vx166, hx167, rfl, HF⟩
   revert HF
   refine bb9 fun X201 o157 ex158 f159 o162 ex163 f164 o168 => ?_
   refine bb9 fun ex169 f170 ex172 ex173 ex174 ex175 ex176 ex179 => ?_
   refine bb9 fun d180 d181 d182 d183 d184 d185 d186 d187 => ?_
   refine bb9 fun d188 d189 d190 d191 d192 d193 d194 d195 => ?_
   refine bb5 fun d196 d197 d198 d199 d200 => ?_
   have H := H setx mp160 x165 Hi
   obtain ⟨a177, c178, rfl⟩ := o168.shape
   refine W_seq ?_
   refine W_seq (W_region ?_)
   refine LP_ev ok 0 [(47, I setx), (48, sl a sx c), (49, I (ln sets))] 3 rfl rfl ?_
   obtain ⟨x203, hi204, hx205, H⟩ := H
   refine LP_index 3 rfl rfl rfl Try.underlying23 ti_90 rfl rfl r hi204 hx205 fun a206 cs207 r208 d209 => ?_
   refine LP_load 4 rfl rfl rfl ti_90 ag_90 rfl r208 d209 ex172 fun vx210 r211 => ?_
   obtain rfl := Variable_rv r211
   refine LP_call 5 rfl rfl rfl cal_106 rfl (impl_fullSet_w _ _ H wx171 ) ?_
   rintro _ wx213 ⟨r212, H, rfl, x214⟩
   refine LP_ev ok 6 [(53, .bool (decide (setx ≤ r212)))] 7 rfl rfl ?_
   refine LP_end _ rfl ?_
   refine W_cond (decide (setx ≤ r212)) rfl (fun hc215 => ?_) (fun hc215 => ?_)
   ·have H := H.1 hc215
    refine W_skip ?_
    have X216 := (X201.stepx x214)
    have ex217 := (ex172.ext x214)
    have ex218 := (ex173.ext x214)
    have ex219 := (ex158.ext x214)
    have ex220 := (ex163.ext x214)
    have ex221 := (ex174.ext x214)
    have ex222 := (ex175.ext x214)
    have ex223 := (ex176.ext x214)
    have ex224 := (ex179.ext x214)
    have ex225 := (ex169.ext x214)
    obtain ⟨k273, hk274, H⟩ := jn_elim H
    refine W_join2 (S := (List (Int × Bool)) × (List Edit)) (fun s ρ' w' => k273 s.1 s.2 ∧ ∃ (ρ : Env) (hx227 : PH) (hx232 : PH) (vx237 : Value) (hx238 : PH), ρ' = setAll [(0, sl a sx c), (1, sl a5 inx c6), (2, I vx7), (3, sl a12 sets c13), (4, .func (.func 103) #[] #[pb b19, pb b28, pb b37]), (10, I (ln sets)), (11, I (wr (Int.tdiv (ln inx) x112.Levels))), (13, I setx)] ρ ∧ But M w w' ∧ OS 3 hx227 emp (sl a12 sets c13) sets ∧ Sub hx227 w' ∧ (∀ n, DomLe hx9 n hx227) ∧ MO hx232 (.map (some b)) s.1 ∧ Sub hx232 w' ∧ (∀ n, DomLe hx16 n hx232) ∧ OD hx238 vx237 s.2 ∧ Sub hx238 w' ∧ DomLe M w.heap.size hx238 ∧ Sub hx w' ∧ Sub hx2 w' ∧ Sub (bx b19 112 [.map (some b)]) w' ∧ Sub hx23 w' ∧ Sub (bx b28 23 [sl a26 c21 c27]) w' ∧ Sub (bx b37 24 [vx237]) w' ∧ Dj hx227 hx ∧ Dj hx227 hx2 ∧ Dj hx227 (bx b19 112 [.map (some b)]) ∧ Dj hx227 hx23 ∧ Dj hx227 (bx b28 23 [sl a26 c21 c27]) ∧ Dj hx227 (bx b37 24 [vx237]) ∧ Dj hx232 hx ∧ Dj hx232 hx2 ∧ Dj hx232 (bx b19 112 [.map (some b)]) ∧ Dj hx232 hx23 ∧ Dj hx232 (bx b28 23 [sl a26 c21 c27]) ∧ Dj hx232 (bx b37 24 [vx237]) ∧ Dj hx232 hx227 ∧ Dj hx238 hx ∧ Dj hx238 hx2 ∧ Dj hx238 (bx b19 112 [.map (some b)]) ∧ Dj hx238 hx23 ∧ Dj hx238 (bx b28 23 [sl a26 c21 c27]) ∧ Dj hx238 (bx b37 24 [vx237]) ∧ Dj hx238 hx227 ∧ Dj hx238 hx232) ?_ ?_
    ·refine W_block ?_
     refine W_seq (W_region ?_)
     refine LP_ev ok 0 [(56, I (wr (Int.tdiv (ln inx) x112.Levels)))] 1 rfl rfl ?_
     obtain ⟨hn, hb, H⟩ := H
     refine LP_make (α := Bool) 1 rfl rfl rfl Try.underlying114 ti_4 (x0 := false) rfl rfl hn (by first | omega | (simp only [ln] at *; omega)) (by first | omega | (simp only [ln] at *; omega)) fun hx275 vx276 wx277 x278 o279 ex280 f281 => ?_
     obtain ⟨a282, c283, rfl⟩ := o279.shape
     refine LP_ev ok 2 [(14, .slice a282 (List.length (List.replicate (Int.toNat (wr (Int.tdiv (ln inx) x112.Levels))) false)) c283)] 3 rfl rfl ?_
     refine LP_end _ rfl (W_seq (W_region ?_))
     refine LP_ev ok 0 [(15, .bool false)] 1 rfl rfl ?_
     refine LP_end _ rfl (W_seq ?_)
     refine W_seq (W_region ?_)
     refine LP_ev ok 0 [(58, .slice a282 (List.length (List.replicate (Int.toNat (wr (Int.tdiv (ln inx) x112.Levels))) false)) c283), (59, I (ln (List.replicate (Int.toNat (wr (Int.tdiv (ln inx) x112.Levels))) false))), (60, I 0)] 3 rfl rfl ?_
     refine LP_end _ rfl ?_
     refine W_block ?_
     have f314 := f281.mono X216.size
     obtain ⟨J310, m311, Hx312, H⟩ := H
     refine W_loop (S := (List Bool) × Bool × Int) (fun s ρ' w' => J310 s.1 s.2.1 s.2.2 ∧ ∃ (ρ : Env) (hx285 : PH), ρ' = setAll [(0, sl a sx c), (1, sl a5 inx c6), (2, I vx7), (3, sl a12 sets c13), (4, .func (.func 103) #[] #[pb b19, pb b28, pb b37]), (10, I (ln sets)), (11, I (wr (Int.tdiv (ln inx) x112.Levels))), (13, I setx), (14, .slice a282 (List.length (List.replicate (Int.toNat (wr (Int.tdiv (ln inx) x112.Levels))) false)) c283), (15, .bool s.2.1), (59, I (ln (List.replicate (Int.toNat (wr (Int.tdiv (ln inx) x112.Levels))) false))), (60, I s.2.2)] ρ ∧ But M w w' ∧ OS 4 hx285 emp (.slice a282 (List.length (List.replicate (Int.toNat (wr (Int.tdiv (ln inx) x112.Levels))) false)) c283) s.1 ∧ Sub hx285 w' ∧ Fresh w.heap.size hx285 ∧ Sub hx w' ∧ Sub hx2 w' ∧ Sub hx156 w' ∧ Sub hx161 w' ∧ Sub (bx b19 112 [.map (some b)]) w' ∧ Sub hx23 w' ∧ Sub (bx b28 23 [sl a26 c21 c27]) w' ∧ Sub (bx b37 24 [sl a177 x165 c178]) w' ∧ Sub hx167 w' ∧ Dj hx285 hx ∧ Dj hx285 hx2 ∧ Dj hx285 hx156 ∧ Dj hx285 hx161 ∧ Dj hx285 (bx b19 112 [.map (some b)]) ∧ Dj hx285 hx23 ∧ Dj hx285 (bx b28 23 [sl a26 c21 c27]) ∧ Dj hx285 (bx b37 24 [sl a177 x165 c178]) ∧ Dj hx285 hx167) (fun s => m311 s.1 s.2.1 s.2.2) (List.replicate (Int.toNat (wr (Int.tdiv (ln inx) x112.Levels))) false, false, 0) ⟨Hx312, _, hx275, env_eq ⟨rfl, rfl, rfl, rfl, rfl, rfl, rfl, rfl, rfl, rfl, rfl, rfl, trivial⟩, (X216.stepx x278), o279, ex280, f314, (ex217.ext x278), (ex218.ext x278), (ex219.ext x278), (ex220.ext x278), (ex221.ext x278), (ex222.ext x278), (ex223.ext x278), (ex224.ext x278), (ex225.ext x278), (Dj.of_fresh ex217 f281).symm, (Dj.of_fresh ex218 f281).symm, (Dj.of_fresh ex219 f281).symm, (Dj.of_fresh ex220 f281).symm, (Dj.of_fresh ex221 f281).symm, (Dj.of_fresh ex222 f281).symm, (Dj.of_fresh ex223 f281).symm, (Dj.of_fresh ex224 f281).symm, (Dj.of_fresh ex225 f281).symm⟩ ?_
     rintro ⟨rest, any, x289⟩ _ wx290 ⟨Hi, ρ, hx285, rfl, HF⟩
     revert HF
     refine bb9 fun X309 o286 ex287 f288 ex291 ex292 ex293 ex294 => ?_
     refine bb9 fun ex295 ex296 ex297 ex298 ex299 d300 d301 d302 => ?_
     refine bb6 fun d303 d304 d305 d306 d307 d308 => ?_
     have H := H rest any x289 Hi
     refine W_seq (W_region ?_)
     refine LP_ev ok 0 [(61, .bool (decide (x289 < (ln (List.replicate (Int.toNat (wr (Int.tdiv (ln inx) x112.Levels))) false)))))] 1 rfl rfl ?_
     refine LP_end _ rfl (W_seq ?_)
     refine W_cond (decide (x289 < (ln (List.replicate (Int.toNat (wr (Int.tdiv (ln inx) x112.Levels))) false)))) rfl (fun hc325 => ?_) (fun hc325 => ?_)
     ·have H := H.1 hc325
      refine W_skip ?_
      obtain ⟨k353, hk354, H⟩ := jn_elim H
      refine W_join2 (S := (List Bool) × Bool) (fun s ρ' w' => k353 s.1 s.2 ∧ ∃ (ρ : Env) (hx328 : PH), ρ' = setAll [(0, sl a sx c), (1, sl a5 inx c6), (2, I vx7), (3, sl a12 sets c13), (4, .func (.func 103) #[] #[pb b19, pb b28, pb b37]), (10, I (ln sets)), (11, I (wr (Int.tdiv (ln inx) x112.Levels))), (13, I setx), (14, .slice a282 (List.length (List.replicate (Int.toNat (wr (Int.tdiv (ln inx) x112.Levels))) false)) c283), (15, .bool s.2), (59, I (ln (List.replicate (Int.toNat (wr (Int.tdiv (ln inx) x112.Levels))) false))), (60, I x289)] ρ ∧ But M w w' ∧ OS 4 hx328 emp (.slice a282 (List.length (List.replicate (Int.toNat (wr (Int.tdiv (ln inx) x112.Levels))) false)) c283) s.1 ∧ Sub hx328 w' ∧ Fresh w.heap.size hx328 ∧ Sub hx w' ∧ Sub hx2 w' ∧ Sub hx156 w' ∧ Sub hx161 w' ∧ Sub (bx b19 112 [.map (some b)]) w' ∧ Sub hx23 w' ∧ Sub (bx b28 23 [sl a26 c21 c27]) w' ∧ Sub (bx b37 24 [sl a177 x165 c178]) w' ∧ Sub hx167 w' ∧ Dj hx328 hx ∧ Dj hx328 hx2 ∧ Dj hx328 hx156 ∧ Dj hx328 hx161 ∧ Dj hx328 (bx b19 112 [.map (some b)]) ∧ Dj hx328 hx23 ∧ Dj hx328 (bx b28 23 [sl a26 c21 c27]) ∧ Dj hx328 (bx b37 24 [sl a177 x165 c178]) ∧ Dj hx328 hx167) ?_ ?_
      ·refine W_block ?_
       refine W_seq (W_region ?_)
       refine LP_ev ok 0 [(62, I x289), (16, I x289)] 2 rfl rfl ?_
       refine LP_end _ rfl (W_seq (W_region ?_))
       refine LP_ev ok 0 [(63, .slice a282 (List.length (List.replicate (Int.toNat (wr (Int.tdiv (ln inx) x112.Levels))) false)) c283), (64, I x289)] 2 rfl rfl ?_
       obtain ⟨hi355, hl, H⟩ := H
       refine LP_indexw (v := .slice a282 (List.length (List.replicate (Int.toNat (wr (Int.tdiv (ln inx) x112.Levels))) false)) c283) 2 rfl rfl rfl Try.underlying114 ti_4 rfl rfl o286 hi355 hl fun a356 wa => ?_
       refine LP_set 3 rfl rfl rfl rfl rfl wa (Le.refl emp) ⟨_, rfl, rfl⟩ ex287 fun hx357 wx358 o359 ex360 y dm361 => ?_
       refine LP_end _ rfl (W_seq ?_)
       refine W_seq (W_region ?_)
       refine LP_ev ok 0 [(66, sl a sx c), (67, I (ln sets))] 2 rfl rfl ?_
       obtain ⟨x362, hi363, hx364, H⟩ := H
       refine LP_index 2 rfl rfl rfl Try.underlying23 ti_90 rfl rfl r hi363 hx364 fun a365 cs366 r367 d368 => ?_
       refine LP_ev ok 3 [(69, .pointer (some (Addr.add a365 1)))] 4 rfl rfl ?_
       have ex369 := (ex291.but y d300)
       refine LP_ldfld (x := x362) (off := 1) 4 (v := I x362.Levels) rfl rfl rfl ti_3 ag_3 (fun _ => rfl) rfl r367 d368 ex369 rfl rfl ?_
       refine LP_ev ok 5 [(71, I 0)] 6 rfl rfl ?_
       refine LP_end _ rfl ?_
       refine W_block ?_
       have f401 := (dm361 _).fresh f288 X309.size
       obtain ⟨J397, m398, Hx399, H⟩ := H
       refine W_loop (S := (List Bool) × Int) (fun s ρ' w' => J397 s.1 s.2 ∧ ∃ (ρ : Env) (hx372 : PH), ρ' = setAll [(0, sl a sx c), (1, sl a5 inx c6), (2, I vx7), (3, sl a12 sets c13), (4, .func (.func 103) #[] #[pb b19, pb b28, pb b37]), (10, I (ln sets)), (11, I (wr (Int.tdiv (ln inx) x112.Levels))), (13, I setx), (14, .slice a282 (List.length (List.replicate (Int.toNat (wr (Int.tdiv (ln inx) x112.Levels))) false)) c283), (15, .bool any), (16, I x289), (59, I (ln (List.replicate (Int.toNat (wr (Int.tdiv (ln inx) x112.Levels))) false))), (60, I x289), (70, I x362.Levels), (71, I s.2)] ρ ∧ But M w w' ∧ OS 4 hx372 emp (.slice a282 (List.length (List.replicate (Int.toNat (wr (Int.tdiv (ln inx) x112.Levels))) false)) c283) s.1 ∧ Sub hx372 w' ∧ Fresh w.heap.size hx372 ∧ Sub hx w' ∧ Sub hx2 w' ∧ Sub hx156 w' ∧ Sub hx161 w' ∧ Sub (bx b19 112 [.map (some b)]) w' ∧ Sub hx23 w' ∧ Sub (bx b28 23 [sl a26 c21 c27]) w' ∧ Sub (bx b37 24 [sl a177 x165 c178]) w' ∧ Sub hx167 w' ∧ Dj hx372 hx ∧ Dj hx372 hx2 ∧ Dj hx372 hx156 ∧ Dj hx372 hx161 ∧ Dj hx372 (bx b19 112 [.map (some b)]) ∧ Dj hx372 hx23 ∧ Dj hx372 (bx b28 23 [sl a26 c21 c27]) ∧ Dj hx372 (bx b37 24 [sl a177 x165 c178]) ∧ Dj hx372 hx167) (fun s => m398 s.1 s.2) (List.set rest (Int.toNat x289) true, 0) ⟨Hx399, _, hx357, env_eq ⟨rfl, rfl, rfl, rfl, rfl, rfl, rfl, rfl, rfl, rfl, rfl, rfl, rfl, rfl, rfl, trivial⟩, (X309.step y (f288.dom _)), o359, ex360, f401, ex369, (ex292.but y d301), (ex293.but y d302), (ex294.but y d303), (ex295.but y d304), (ex296.but y d305), (ex297.but y d306), (ex298.but y d307), (ex299.but y d308), (DomLe.dj (dm361 _) d300 ex291), (DomLe.dj (dm361 _) d301 ex292), (DomLe.dj (dm361 _) d302 ex293), (DomLe.dj (dm361 _) d303 ex294), (DomLe.dj (dm361 _) d304 ex295), (DomLe.dj (dm361 _) d305 ex296), (DomLe.dj (dm361 _) d306 ex297), (DomLe.dj (dm361 _) d307 ex298), (DomLe.dj (dm361 _) d308 ex299)⟩ ?_
       rintro ⟨rest370, x376⟩ _ wx377 ⟨Hi, ρ, hx372, rfl, HF⟩
       revert HF
       refine bb9 fun X396 o373 ex374 f375 ex378 ex379 ex380 ex381 => ?_
       refine bb9 fun ex382 ex383 ex384 ex385 ex386 d387 d388 d389 => ?_
       refine bb6 fun d390 d391 d392 d393 d394 d395 => ?_
       have H := H rest370 x376 Hi
       refine W_seq (W_region ?_)
       refine LP_ev ok 0 [(72, .bool (decide (x376 < x362.Levels)))] 1 rfl rfl ?_
       refine LP_end _ rfl (W_seq ?_)
       refine W_cond (decide (x376 < x362.Levels)) rfl (fun hc411 => ?_) (fun hc411 => ?_)
       ·have H := H.1 hc411
        refine W_skip ?_
        obtain ⟨k438, hk439, H⟩ := jn_elim H
        refine W_join2 (S := (List Bool)) (fun s ρ' w' => k438 s ∧ ∃ (ρ : Env) (hx414 : PH), ρ' = setAll [(0, sl a sx c), (1, sl a5 inx c6), (2, I vx7), (3, sl a12 sets c13), (4, .func (.func 103) #[] #[pb b19, pb b28, pb b37]), (10, I (ln sets)), (11, I (wr (Int.tdiv (ln inx) x112.Levels))), (13, I setx), (14, .slice a282 (List.length (List.replicate (Int.toNat (wr (Int.tdiv (ln inx) x112.Levels))) false)) c283), (15, .bool any), (16, I x289), (59, I (ln (List.replicate (Int.toNat (wr (Int.tdiv (ln inx) x112.Levels))) false))), (60, I x289), (70, I x362.Levels), (71, I x376)] ρ ∧ But M w w' ∧ OS 4 hx414 emp (.slice a282 (List.length (List.replicate (Int.toNat (wr (Int.tdiv (ln inx) x112.Levels))) false)) c283) s ∧ Sub hx414 w' ∧ Fresh w.heap.size hx414 ∧ Sub hx w' ∧ Sub hx2 w' ∧ Sub hx156 w' ∧ Sub hx161 w' ∧ Sub (bx b19 112 [.map (some b)]) w' ∧ Sub hx23 w' ∧ Sub (bx b28 23 [sl a26 c21 c27]) w' ∧ Sub (bx b37 24 [sl a177 x165 c178]) w' ∧ Sub hx167 w' ∧ Dj hx414 hx ∧ Dj hx414 hx2 ∧ Dj hx414 hx156 ∧ Dj hx414 hx161 ∧ Dj hx414 (bx b19 112 [.map (some b)]) ∧ Dj hx414 hx23 ∧ Dj hx414 (bx b28 23 [sl a26 c21 c27]) ∧ Dj hx414 (bx b37 24 [sl a177 x165 c178]) ∧ Dj hx414 hx167) ?_ ?_
        ·refine W_block ?_
         refine W_seq (W_region ?_)
         refine LP_ev ok 0 [(73, I x376), (17, I x376)] 2 rfl rfl ?_
         refine LP_end _ rfl ?_
         refine W_region ?_
         refine LP_ev ok 0 [(74, .slice a282 (List.length (List.replicate (Int.toNat (wr (Int.tdiv (ln inx) x112.Levels))) false)) c283), (75, I x289), (76, .slice a282 (List.length (List.replicate (Int.toNat (wr (Int.tdiv (ln inx) x112.Levels))) false)) c283), (77, I x289)] 4 rfl rfl ?_
         obtain ⟨x440, hi441, hx442, H⟩ := H
         refine LP_index 4 rfl rfl rfl Try.underlying114 ti_4 rfl rfl o373.readf hi441 hx442 fun a443 cs444 r445 d446 => ?_
         refine LP_load 5 rfl rfl rfl ti_4 ag_4 rfl r445 d446 ex374 fun vx447 r448 => ?_
         obtain rfl := r448.bool
         refine LP_ev ok 6 [(80, .bool x440)] 7 rfl rfl ?_
         refine LP_split 80 (x440) rfl (fun hc449 => ?_) (fun hc449 => ?_)
         ·have H := H.1 hc449
          refine LP_ev ok 7 [(81, I setx), (82, I x376)] 9 rfl rfl ?_
          obtain ⟨hz450, H⟩ := H
          refine LP_val 9 _ rfl rfl (ex_shr rfl rfl rfl hz450 _) ?_
          refine LP_ev ok 10 [(84, I (bits .and .i64 (shr .i64 setx x376) 1)), (85, .bool ((bits .and .i64 (shr .i64 setx x376) 1) == 0)), (86, .bool ((bits .and .i64 (shr .i64 setx x376) 1) == 0))] 13 rfl rfl ?_
          refine LP_split 86 ((bits .and .i64 (shr .i64 setx x376) 1) == 0) rfl (fun hc451 => ?_) (fun hc451 => ?_)
          ·have H := H.1 hc451
           refine LP_ev ok 13 [(87, undef), (88, undef), (89, undef), (90, undef), (91, undef), (92, undef), (93, undef), (94, undef), (95, .bool true), (96, .bool true)] 23 rfl rfl ?_
           obtain ⟨hi452, hl453, H⟩ := H
           refine LP_indexw (v := .slice a282 (List.length (List.replicate (Int.toNat (wr (Int.tdiv (ln inx) x112.Levels))) false)) c283) 23 rfl rfl rfl Try.underlying114 ti_4 rfl rfl o373 hi452 hl453 fun a454 wa455 => ?_
           refine LP_set 24 rfl rfl rfl rfl rfl wa455 (Le.refl emp) ⟨_, rfl, rfl⟩ ex374 fun hx456 wx457 o458 ex459 y460 dm461 => ?_
           refine LP_end _ rfl ?_
           try refine W_forget [(0, sl a sx c), (1, sl a5 inx c6), (2, I vx7), (3, sl a12 sets c13), (4, .func (.func 103) #[] #[pb b19, pb b28, pb b37]), (10, I (ln sets)), (11, I (wr (Int.tdiv (ln inx) x112.Levels))), (13, I setx), (14, .slice a282 (List.length (List.replicate (Int.toNat (wr (Int.tdiv (ln inx) x112.Levels))) false)) c283), (15, .bool any), (16, I x289), (59, I (ln (List.replicate (Int.toNat (wr (Int.tdiv (ln inx) x112.Levels))) false))), (60, I x289), (70, I x362.Levels), (71, I x376), (81, I setx), (82, I x376), (83, I (shr .i64 setx x376)), (84, I (bits .and .i64 (shr .i64 setx x376) 1)), (85, .bool ((bits .and .i64 (shr .i64 setx x376) 1) == 0)), (86, .bool true), (95, .bool true)] ⟨rfl, rfl, rfl, rfl, rfl, rfl, rfl, rfl, rfl, rfl, rfl, rfl, rfl, rfl, rfl, rfl, rfl, rfl, rfl, rfl, rfl, rfl, trivial⟩ fun ρ => ?_
           have f463 := (dm461 _).fresh f375 X396.size
           exact ⟨List.set rest370 (Int.toNat x289) true, H, _, hx456, env_eq ⟨rfl, rfl, rfl, rfl, rfl, rfl, rfl, rfl, rfl, rfl, rfl, rfl, rfl, rfl, rfl, trivial⟩, (X396.step y460 (f375.dom _)), o458, ex459, f463, (ex378.but y460 d387), (ex379.but y460 d388), (ex380.but y460 d389), (ex381.but y460 d390), (ex382.but y460 d391), (ex383.but y460 d392), (ex384.but y460 d393), (ex385.but y460 d394), (ex386.but y460 d395), (DomLe.dj (dm461 _) d387 ex378), (DomLe.dj (dm461 _) d388 ex379), (DomLe.dj (dm461 _) d389 ex380), (DomLe.dj (dm461 _) d390 ex381), (DomLe.dj (dm461 _) d391 ex382), (DomLe.dj (dm461 _) d392 ex383), (DomLe.dj (dm461 _) d393 ex384), (DomLe.dj (dm461 _) d394 ex385), (DomLe.dj (dm461 _) d395 ex386)⟩
          have H := H.2 hc451
          refine LP_ev ok 13 [(87, sl a5 inx c6), (88, I x376), (89, I (wr (Int.tdiv (ln inx) x112.Levels))), (90, I (wr (x376 * (wr (Int.tdiv (ln inx) x112.Levels))))), (91, I x289), (92, I (wr ((wr (x376 * (wr (Int.tdiv (ln inx) x112.Levels)))) + x289)))] 19 rfl rfl ?_
          obtain ⟨x473, hi474, hx475, H⟩ := H
          refine LP_index 19 rfl rfl rfl Try.underlying114 ti_4 rfl rfl r3 hi474 hx475 fun a476 cs477 r478 d479 => ?_
          refine LP_load 20 rfl rfl rfl ti_4 ag_4 rfl r478 d479 ex379 fun vx480 r481 => ?_
          obtain rfl := r481.bool
          refine LP_ev ok 21 [(95, .bool x473), (96, .bool x473)] 23 rfl rfl ?_
          obtain ⟨hi482, hl483, H⟩ := H
          refine LP_indexw (v := .slice a282 (List.length (List.replicate (Int.toNat (wr (Int.tdiv (ln inx) x112.Levels))) false)) c283) 23 rfl rfl rfl Try.underlying114 ti_4 rfl rfl o373 hi482 hl483 fun a484 wa485 => ?_
          refine LP_set 24 rfl rfl rfl rfl rfl wa485 (Le.refl emp) ⟨_, rfl, rfl⟩ ex374 fun hx486 wx487 o488 ex489 y490 dm491 => ?_
          refine LP_end _ rfl ?_
          try refine W_forget [(0, sl a sx c), (1, sl a5 inx c6), (2, I vx7), (3, sl a12 sets c13), (4, .func (.func 103) #[] #[pb b19, pb b28, pb b37]), (10, I (ln sets)), (11, I (wr (Int.tdiv (ln inx) x112.Levels))), (13, I setx), (14, .slice a282 (List.length (List.replicate (Int.toNat (wr (Int.tdiv (ln inx) x112.Levels))) false)) c283), (15, .bool any), (16, I x289), (59, I (ln (List.replicate (Int.toNat (wr (Int.tdiv (ln inx) x112.Levels))) false))), (60, I x289), (70, I x362.Levels), (71, I x376), (81, I setx), (82, I x376), (83, I (shr .i64 setx x376)), (84, I (bits .and .i64 (shr .i64 setx x376) 1)), (85, .bool ((bits .and .i64 (shr .i64 setx x376) 1) == 0)), (86, .bool false), (87, sl a5 inx c6), (88, I x376), (89, I (wr (Int.tdiv (ln inx) x112.Levels))), (90, I (wr (x376 * (wr (Int.tdiv (ln inx) x112.Levels))))), (91, I x289), (92, I (wr ((wr (x376 * (wr (Int.tdiv (ln inx) x112.Levels)))) + x289))), (93, .pointer (some a476)), (94, .bool x473), (95, .bool x473)] ⟨rfl, rfl, rfl, rfl, rfl, rfl, rfl, rfl, rfl, rfl, rfl, rfl, rfl, rfl, rfl, rfl, rfl, rfl, rfl, rfl, rfl, rfl, rfl, rfl, rfl, rfl, rfl, rfl, rfl, rfl, trivial⟩ fun ρ => ?_
          have f493 := (dm491 _).fresh f375 X396.size
          exact ⟨List.set rest370 (Int.toNat x289) x473, H, _, hx486, env_eq ⟨rfl, rfl, rfl, rfl, rfl, rfl, rfl, rfl, rfl, rfl, rfl, rfl, rfl, rfl, rfl, trivial⟩, (X396.step y490 (f375.dom _)), o488, ex489, f493, (ex378.but y490 d387), (ex379.but y490 d388), (ex380.but y490 d389), (ex381.but y490 d390), (ex382.but y490 d391), (ex383.but y490 d392), (ex384.but y490 d393), (ex385.but y490 d394), (ex386.but y490 d395), (DomLe.dj (dm491 _) d387 ex378), (DomLe.dj (dm491 _) d388 ex379), (DomLe.dj (dm491 _) d389 ex380), (DomLe.dj (dm491 _) d390 ex381), (DomLe.dj (dm491 _) d391 ex382), (DomLe.dj (dm491 _) d392 ex383), (DomLe.dj (dm491 _) d393 ex384), (DomLe.dj (dm491 _) d394 ex385), (DomLe.dj (dm491 _) d395 ex386)⟩
         have H := H.2 hc449
         refine LP_ev ok 7 [(81, undef), (82, undef), (83, undef), (84, undef), (85, undef), (86, undef), (87, undef), (88, undef), (89, undef), (90, undef), (91, undef), (92, undef), (93, undef), (94, undef), (95, undef), (96, .bool false)] 23 rfl rfl ?_
         obtain ⟨hi503, hl504, H⟩ := H
         refine LP_indexw (v := .slice a282 (List.length (List.replicate (Int.toNat (wr (Int.tdiv (ln inx) x112.Levels))) false)) c283) 23 rfl rfl rfl Try.underlying114 ti_4 rfl rfl o373 hi503 hl504 fun a505 wa506 => ?_
         refine LP_set 24 rfl rfl rfl rfl rfl wa506 (Le.refl emp) ⟨_, rfl, rfl⟩ ex374 fun hx507 wx508 o509 ex510 y511 dm512 => ?_
         refine LP_end _ rfl ?_
         try refine W_forget [(0, sl a sx c), (1, sl a5 inx c6), (2, I vx7), (3, sl a12 sets c13), (4, .func (.func 103) #[] #[pb b19, pb b28, pb b37]), (10, I (ln sets)), (11, I (wr (Int.tdiv (ln inx) x112.Levels))), (13, I setx), (14, .slice a282 (List.length (List.replicate (Int.toNat (wr (Int.tdiv (ln inx) x112.Levels))) false)) c283), (15, .bool any), (16, I x289), (59, I (ln (List.replicate (Int.toNat (wr (Int.tdiv (ln inx) x112.Levels))) false))), (60, I x289), (70, I x362.Levels), (71, I x376)] ⟨rfl, rfl, rfl, rfl, rfl, rfl, rfl, rfl, rfl, rfl, rfl, rfl, rfl, rfl, rfl, trivial⟩ fun ρ => ?_
         have f514 := (dm512 _).fresh f375 X396.size
         exact ⟨List.set rest370 (Int.toNat x289) false, H, _, hx507, env_eq ⟨rfl, rfl, rfl, rfl, rfl, rfl, rfl, rfl, rfl, rfl, rfl, rfl, rfl, rfl, rfl, trivial⟩, (X396.step y511 (f375.dom _)), o509, ex510, f514, (ex378.but y511 d387), (ex379.but y511 d388), (ex380.but y511 d389), (ex381.but y511 d390), (ex382.but y511 d391), (ex383.but y511 d392), (ex384.but y511 d393), (ex385.but y511 d394), (ex386.but y511 d395), (DomLe.dj (dm512 _) d387 ex378), (DomLe.dj (dm512 _) d388 ex379), (DomLe.dj (dm512 _) d389 ex380), (DomLe.dj (dm512 _) d390 ex381), (DomLe.dj (dm512 _) d391 ex382), (DomLe.dj (dm512 _) d392 ex383), (DomLe.dj (dm512 _) d393 ex384), (DomLe.dj (dm512 _) d394 ex385), (DomLe.dj (dm512 _) d395 ex386)⟩
        rintro rest412 _ wx418 ⟨H, ρ, hx414, rfl, HF⟩
        revert HF
        refine bb9 fun X437 o415 ex416 f417 ex419 ex420 ex421 ex422 => ?_
        refine bb9 fun ex423 ex424 ex425 ex426 ex427 d428 d429 d430 => ?_
        refine bb6 fun d431 d432 d433 d434 d435 d436 => ?_
        subst hk439
        refine W_region ?_
        refine LP_ev ok 0 [(98, I (wr (x376 + 1))), (71, I (wr (x376 + 1)))] 2 rfl rfl ?_
        exact LP_end _ rfl ⟨(rest412, wr (x376 + 1)), ⟨H.1, _, hx414, env_eq ⟨rfl, rfl, rfl, rfl, rfl, rfl, rfl, rfl, rfl, rfl, rfl, rfl, rfl, rfl, rfl, trivial⟩, X437, o415, ex416, f417, ex419, ex420, ex421, ex422, ex423, ex424, ex425, ex426, ex427, d428, d429, d430, d431, d432, d433, d434, d435, d436⟩, H.2⟩
       have H := H.2 hc411
       refine W_exit ?_
       refine (if_pos rfl).mpr ?_
       refine W_region ?_
       refine LP_ev ok 0 [(99, .bool any), (100, .bool any)] 2 rfl rfl ?_
       refine LP_split 100 (any) rfl (fun hc524 => ?_) (fun hc524 => ?_)
       ·have H := H.1 hc524
        refine LP_ev ok 2 [(101, undef), (102, undef), (103, undef), (104, undef), (105, .bool true), (15, .bool true)] 8 rfl rfl ?_
        exact LP_end _ rfl ⟨(rest370, true), H, _, hx372, env_eq ⟨rfl, rfl, rfl, rfl, rfl, rfl, rfl, rfl, rfl, rfl, rfl, rfl, trivial⟩, X396, o373, ex374, f375, ex378, ex379, ex380, ex381, ex382, ex383, ex384, ex385, ex386, d387, d388, d389, d390, d391, d392, d393, d394, d395⟩
       have H := H.2 hc524
       refine LP_ev ok 2 [(101, .slice a282 (List.length (List.replicate (Int.toNat (wr (Int.tdiv (ln inx) x112.Levels))) false)) c283), (102, I x289)] 4 rfl rfl ?_
       obtain ⟨x525, hi526, hx527, H⟩ := H
       refine LP_index 4 rfl rfl rfl Try.underlying114 ti_4 rfl rfl o373.readf hi526 hx527 fun a528 cs529 r530 d531 => ?_
       refine LP_load 5 rfl rfl rfl ti_4 ag_4 rfl r530 d531 ex374 fun vx532 r533 => ?_
       obtain rfl := r533.bool
       refine LP_ev ok 6 [(105, .bool x525), (15, .bool x525)] 8 rfl rfl ?_
       exact LP_end _ rfl ⟨(rest370, x525), H, _, hx372, env_eq ⟨rfl, rfl, rfl, rfl, rfl, rfl, rfl, rfl, rfl, rfl, rfl, rfl, trivial⟩, X396, o373, ex374, f375, ex378, ex379, ex380, ex381, ex382, ex383, ex384, ex385, ex386, d387, d388, d389, d390, d391, d392, d393, d394, d395⟩
      rintro ⟨rest326, any332⟩ _ wx333 ⟨H, ρ, hx328, rfl, HF⟩
      revert HF
      refine bb9 fun X352 o329 ex330 f331 ex334 ex335 ex336 ex337 => ?_
      refine bb9 fun ex338 ex339 ex340 ex341 ex342 d343 d344 d345 => ?_
      refine bb6 fun d346 d347 d348 d349 d350 d351 => ?_
      subst hk354
      refine W_region ?_
      refine LP_ev ok 0 [(106, I (wr (x289 + 1))), (60, I (wr (x289 + 1)))] 2 rfl rfl ?_
      exact LP_end _ rfl ⟨(rest326, any332, wr (x289 + 1)), ⟨H.1, _, hx328, env_eq ⟨rfl, rfl, rfl, rfl, rfl, rfl, rfl, rfl, rfl, rfl, rfl, rfl, trivial⟩, X352, o329, ex330, f331, ex334, ex335, ex336, ex337, ex338, ex339, ex340, ex341, ex342, d343, d344, d345, d346, d347, d348, d349, d350, d351⟩, H.2⟩
     have H := H.2 hc325
     refine W_exit ?_
     refine (if_pos rfl).mpr ?_
     refine W_seq (W_region ?_)
     refine LP_ev ok 0 [(107, .bool any)] 1 rfl rfl ?_
     refine LP_end _ rfl ?_
     refine W_cond (any) rfl (fun hc534 => ?_) (fun hc534 => ?_)
     ·have H := H.1 hc534
      refine W_region ?_
      refine LP_ev ok 0 [(108, sl a sx c), (109, .slice a282 (List.length (List.replicate (Int.toNat (wr (Int.tdiv (ln inx) x112.Levels))) false)) c283), (110, I vx7), (111, sl a12 sets c13), (112, I setx)] 5 rfl rfl ?_
      refine LP_lit (α := Int) (g := emp) 5 (vs := [I setx]) (xs := [setx]) rfl rfl rfl Try.underlying25 ti_3 rfl rfl ⟨⟨_, rfl, rfl⟩, trivial⟩ rfl rfl fun hx535 vx536 wx537 x538 o539 ex540 f541 => ?_
      obtain ⟨a542, c543, rfl⟩ := o539.shape
      obtain ⟨hb545, H⟩ := H
      refine LP_appendS (α := Int) 6 rfl rfl rfl Try.underlying25 ti_3 rfl rfl rfl o157 (ex293.ext x538) o539.readf ex540 (by first | omega | (simp only [ln] at *; omega)) (by first | omega | (simp only [ln] at *; omega)) fun hx546 vx547 wx548 r553 o549 ex550 y551 dm552 d554 dr ex555 wd => ?_
      obtain ⟨a556, c557, rfl⟩ := o549.shape
      refine LP_ev ok 7 [(115, .func (.func 103) #[] #[pb b19, pb b28, pb b37])] 8 rfl rfl ?_
      have ex558 := (ex294.ext x538)
      have ex559 := (ex299.ext x538)
      have ex560 := (ex298.ext x538)
      have ex561 := (ex291.ext x538)
      have ex562 := (ex287.ext x538)
      have ex563 := (ex295.ext x538)
      have ex564 := (ex296.ext x538)
      have ex565 := (ex297.ext x538)
      have ex568 := (ex561.but y551 d180)
      have ex571 := (ex563.but y551 d182)
      have ex572 := (ex564.but y551 d183)
      have ex573 := (ex565.but y551 d184)
      refine LP_call 8 rfl rfl rfl cal_101 rfl (ih _ _ _ _ _ _ _ _ H.1 (Nat.lt_of_lt_of_le H.2 (Nat.le_of_lt_succ hm)) wx548 r ex568 o286.readf (ex562.but y551 d302.symm) o549 ex550 o162 (ex558.but y551 d192.symm) ex571 r24 ex572 ex573 o168 (ex559.but y551 d199.symm) (ex560.but y551 d185) (DomLe.dj dm552 d192.symm ex558) (DomLe.dj dm552 d199.symm ex559) (DomLe.dj dm552 d185 ex560) d200.symm d191 d198 (DomLe.dj dm552 d180 ex561) (DomLe.dj dm552 d302.symm ex562) (DomLe.dj dm552 d182 ex563) (DomLe.dj dm552 d183 ex564) (DomLe.dj dm552 d184 ex565) d186 d303.symm d188 d189 d190 d193 d308.symm d195 d196 d197 (Dj.box d59) d307.symm (Dj.box d61) (Dj.box d62) (Dj.box d63)) ?_
      rintro _ wx576 ⟨r566, r567, hx578, hx582, vx590, hx586, H, rfl, x577, HF⟩
      revert HF
      refine bb9 fun o579 ex580 dm581 o583 ex584 dm585 o587 ex588 => ?_
      refine bb8 fun dm589 ex591 d592 d593 d594 d595 d596 d597 => ?_
      obtain ⟨a598, c599, rfl⟩ := o587.shape
      obtain ⟨hx600, o601, l, d602⟩ := wd _ o579 (Dom.of dm581)
      have ex603 := Sub.le (Sub.un (ex555.but x577 (Dj.un_l d554.symm (Dj.un_l (Dom.dj dr d192.symm).symm (Dj.un_l (Dom.dj dr d199.symm).symm (Dom.dj dr d185).symm)))) ex580) l
      refine LP_end _ rfl ?_
      have X605 := (X309.stepx x538)
      have ex609 := (ex292.ext x538)
      have ex614 := (ex609.but y551 d181)
      exact ⟨(r566, r567), H, _, hx600, hx582, sl a598 r567 c599, hx586, env_eq ⟨rfl, rfl, rfl, rfl, rfl, rfl, rfl, rfl, trivial⟩, (((X309.stepx x538).step y551 (DomLe.dom D (f159 _))).step x577 (DomLe.un (DomLe.trans (DomLe.dom D (f159 _)) dm552 X605.size) (DomLe.un (DomLe.dom D64 (f164 _)) (DomLe.un f170 (DomLe.dom D66 single_dom))))), o601, ex603, (fun _ => DomLe.trans (f159 _) ((Dom.le d602 _)) (Nat.le_refl _)), o583, ex584, (fun _ => DomLe.trans (f164 _) ((dm585 _)) (Nat.le_refl _)), o587, ex588, (DomLe.trans (DomLe.un (DomLe.trans (DomLe.dom D (f159 _)) dm552 X605.size) (DomLe.un (DomLe.dom D64 (f164 _)) (DomLe.un f170 (DomLe.dom D66 single_dom)))) dm589 (X605.step y551 (DomLe.dom D (f159 _))).size), (ex568.but x577 (Dj.un_l (DomLe.dj dm552 d180 ex561) (Dj.un_l d186 (Dj.un_l d193 (Dj.box d59))))), (((ex292.ext x538).but y551 d181).but x577 (Dj.un_l (DomLe.dj dm552 d181 ex609) (Dj.un_l d187 (Dj.un_l d194 (Dj.box d60))))), (ex571.but x577 (Dj.un_l (DomLe.dj dm552 d182 ex563) (Dj.un_l d188 (Dj.un_l d195 (Dj.box d61))))), (ex572.but x577 (Dj.un_l (DomLe.dj dm552 d183 ex564) (Dj.un_l d189 (Dj.un_l d196 (Dj.box d62))))), (ex573.but x577 (Dj.un_l (DomLe.dj dm552 d184 ex565) (Dj.un_l d190 (Dj.un_l d197 (Dj.box d63))))), ex591, (Dom.dj (Dom.of_le l) (Dj.un_l (Dom.dj dr d180) (DomLe.dj (dm581 _) (DomLe.dj dm552 d180 ex561) ex568))), (Dom.dj (Dom.of_le l) (Dj.un_l (Dom.dj dr d181) (DomLe.dj (dm581 _) (DomLe.dj dm552 d181 ex609) ex614))), (Dom.dj (Dom.of_le l) (Dj.un_l (Dom.dj dr d182) (DomLe.dj (dm581 _) (DomLe.dj dm552 d182 ex563) ex571))), (Dom.dj (Dom.of_le l) (Dj.un_l (Dom.dj dr d183) (DomLe.dj (dm581 _) (DomLe.dj dm552 d183 ex564) ex572))), (Dom.dj (Dom.of_le l) (Dj.un_l (Dom.dj dr d184) (DomLe.dj (dm581 _) (DomLe.dj dm552 d184 ex565) ex573))), (Dom.dj (Dom.of_le l) (Dj.un_l (Dom.dj dr (Dj.box d185.symm).symm) d594)), (DomLe.dj (dm585 _) d186 ex568), (DomLe.dj (dm585 _) d187 ex614), (DomLe.dj (dm585 _) d188 ex571), (DomLe.dj (dm585 _) d189 ex572), (DomLe.dj (dm585 _) d190 ex573), d596, (Dom.dj (Dom.of_le l) (Dj.un_l (DomLe.dj (dm585 _) (Dom.dj dr d192.symm).symm ex555).symm d592)).symm, (DomLe.dj dm589 (Dj.un_l (DomLe.dj dm552 d180 ex561) (Dj.un_l d186 (Dj.un_l d193 (Dj.box d59)))) ex568), (DomLe.dj dm589 (Dj.un_l (DomLe.dj dm552 d181 ex609) (Dj.un_l d187 (Dj.un_l d194 (Dj.box d60)))) ex614), (DomLe.dj dm589 (Dj.un_l (DomLe.dj dm552 d182 ex563) (Dj.un_l d188 (Dj.un_l d195 (Dj.box d61)))) ex571), (DomLe.dj dm589 (Dj.un_l (DomLe.dj dm552 d183 ex564) (Dj.un_l d189 (Dj.un_l d196 (Dj.box d62)))) ex572), (DomLe.dj dm589 (Dj.un_l (DomLe.dj dm552 d184 ex565) (Dj.un_l d190 (Dj.un_l d197 (Dj.box d63)))) ex573), d597, (Dom.dj (Dom.of_le l) (Dj.un_l (DomLe.dj dm589 (Dj.un_l d554.symm (Dj.un_l (Dom.dj dr d192.symm).symm (Dj.un_l (Dom.dj dr d199.symm).symm (Dom.dj dr d185).symm))) ex555).symm d593)).symm, d595.symm⟩
     have H := H.2 hc534
     exact W_skip ⟨(mp160, x165), H, _, hx156, hx161, sl a177 x165 c178, hx167, env_eq ⟨rfl, rfl, rfl, rfl, rfl, rfl, rfl, rfl, trivial⟩, X309, o157, ex293, (fun _ => f159 _), o162, ex294, (fun _ => f164 _), o168, ex299, f170, ex291, ex292, ex295, ex296, ex297, ex298, d180, d181, d182, d183, d184, d185, d186, d187, d188, d189, d190, d191, d192, d193, d194, d195, d196, d197, d198, d199, d200⟩
    rintro ⟨mp231, x236⟩ _ wx242 ⟨H, ρ, hx227, hx232, vx237, hx238, rfl, HF⟩
    revert HF
    refine bb9 fun X272 o228 ex229 f230 o233 ex234 f235 o239 => ?_
    refine bb9 fun ex240 f241 ex243 ex244 ex245 ex246 ex247 ex250 => ?_
    refine bb9 fun d251 d252 d253 d254 d255 d256 d257 d258 => ?_
    refine bb9 fun d259 d260 d261 d262 d263 d264 d265 d266 => ?_
    refine bb5 fun d267 d268 d269 d270 d271 => ?_
    subst hk274
    obtain ⟨a248, c249, rfl⟩ := o239.shape
    refine W_region ?_
    refine LP_ev ok 0 [(54, I setx), (55, I (wr (setx + 1))), (13, I (wr (setx + 1)))] 3 rfl rfl ?_
    exact LP_end _ rfl ⟨(wr (setx + 1), mp231, x236), ⟨H.1, _, hx227, hx232, sl a248 x236 c249, hx238, env_eq ⟨rfl, rfl, rfl, rfl, rfl, rfl, rfl, rfl, trivial⟩, X272, o228, ex229, (fun _ => f230 _), o233, ex234, (fun _ => f235 _), o239, ex240, f241, ex243, ex244, ex245, ex246, ex247, ex250, d251, d252, d253, d254, d255, d256, d257, d258, d259, d260, d261, d262, d263, d264, d265, d266, d267, d268, d269, d270, d271⟩, H.2⟩
   have H := H.2 hc215
   refine W_exit ?_
   refine (if_pos rfl).mpr ?_
   subst hM
   exact ⟨_, Ret_of [] trivial, _, _, _, _, _, _, H, rfl, (X201.stepx x214), o157, (ex158.ext x214), (fun _ => f159 _), o162, (ex163.ext x214), (fun _ => f164 _), o168, (ex169.ext x214), f170, (ex179.ext x214), d192.symm, d199.symm, d185, d200.symm, d191, d198⟩
 exact key _ sx inx vx7 sets c14 c21 c30 Q H0 (Nat.lt_succ_self _) w r ex r3 ex4 r10 ex11 r17 ex18 ex20 r24 ex25 ex29 r33 ex34 ex38 d d39 d40 d41 d42 d43 d44 d45 d46 d47 d48 d49 d50 d51 d52 d53 d54 d55 d56 d57 d58 d59 d60 d61 d62 d63

end Go.Proofs.Ytklajcbpnpkniaa
