/- The walks, further. -/
import Derived.Test.YtnladfcokocfnaaTWalk
set_option linter.unusedVariables false
set_option autoImplicit false
namespace Go.Proofs.Ytnladfcokocfnaa
open Go Go.RowKit Go.Gv

open Go.Proofs
set_option maxRecDepth 8000
set_option maxHeartbeats 4000000
theorem impl_isTable_w (g : Geo) (sx : List Variable) (t : Table) (Q : Bool → Prop) (H : impl_isTable g sx t Q) (w : World) {vx : Value} {hx : PH} (r : RS hx vx g.Parents) (ex : Sub hx w) {vx1 : Value} {hx2 : PH} (r3 : RS hx2 vx1 sx) (ex4 : Sub hx2 w) {vx7 : Value} {hx8 : PH} (r9 : RS hx8 vx7 t.Vars) (ex10 : Sub hx8 w) {vx13 : Value} {hx14 : PH} (r15 : RS hx14 vx13 t.Where) (ex16 : Sub hx14 w) :
  CallsTo Try.prog 69 #[.agg #[vx], vx1, .agg #[I t.Level, vx7, vx13, I t.Sum]] w fun v w' => ∃ r0, Q r0 ∧ v = .bool r0 ∧ Ext w w' := by
 obtain ⟨a, c, rfl⟩ := r.shape
 obtain ⟨a5, c6, rfl⟩ := r3.shape
 obtain ⟨a11, c12, rfl⟩ := r9.shape
 obtain ⟨a17, c18, rfl⟩ := r15.shape
 refine enter (args := [.agg #[sl a g.Parents c], sl a5 sx c6, .agg #[I t.Level, sl a11 t.Vars c12, sl a17 t.Where c18, I t.Sum]]) 42 Try.func69 rfl rfl rfl ?_
 refine W_forget [(0, .agg #[sl a g.Parents c]), (1, sl a5 sx c6), (2, .agg #[I t.Level, sl a11 t.Vars c12, sl a17 t.Where c18, I t.Sum])] ⟨rfl, rfl, rfl, trivial⟩ fun ρ => ?_
 have X := But.refl emp w
 refine W_seq (W_region ?_)
 refine LP_box 0 (cs := [sl a g.Parents c]) rfl rfl rfl rfl rfl fun b wx x ex19 f => ?_
 refine LP_box 1 (cs := [I t.Level, sl a11 t.Vars c12, sl a17 t.Where c18, I t.Sum]) rfl rfl rfl rfl rfl fun b20 wx21 x22 ex23 f24 => ?_
 refine LP_ev ok 2 [(6, .bool false)] 3 rfl rfl ?_
 refine LP_end _ rfl (W_seq ?_)
 obtain ⟨k, hk, H⟩ := jn_elim H
 refine W_join2 (S := Bool) (fun s ρ' w' => k s ∧ ∃ (ρ : Env), ρ' = setAll [(1, sl a5 sx c6), (3, pb b), (5, pb b20), (31, .bool s)] ρ ∧ But emp w w' ∧ Sub hx w' ∧ Sub hx2 w' ∧ Sub hx8 w' ∧ Sub hx14 w' ∧ Sub (bx b 36 [sl a g.Parents c]) w' ∧ Sub (bx b20 40 [I t.Level, sl a11 t.Vars c12, sl a17 t.Where c18, I t.Sum]) w') ?_ ?_
 ·refine W_region ?_
  refine LP_ev ok 0 [(8, sl a5 sx c6), (9, .pointer (some ⟨b20, 1, none⟩))] 2 rfl rfl ?_
  refine LP_ldbox 2 (v := sl a11 t.Vars c12) rfl rfl rfl ti_22 ag_22 (fun _ => rfl) rfl ex23 rfl rfl ?_
  have xc := (x.trans x22)
  have ex35 := (ex4.ext xc)
  have ex36 := (ex10.ext xc)
  refine LP_call 3 rfl rfl rfl cal_81 rfl (impl_areVars_w _ _ _ H wx21 r3 ex35 r9 ex36) ?_
  rintro _ wx37 ⟨r34, H, rfl, x38⟩
  refine LP_ev ok 4 [(12, .bool (!r34)), (13, .bool (!r34))] 6 rfl rfl ?_
  refine LP_split 13 (!r34) rfl (fun hc => ?_) (fun hc => ?_)
  ·have H := H.1 hc
   refine LP_ev ok 6 [(14, undef), (15, undef), (16, undef), (17, undef), (18, undef), (19, .bool true), (20, .bool true), (21, undef), (22, undef), (23, undef), (24, .bool true), (25, .bool true), (26, undef), (27, undef), (28, undef), (29, undef), (30, undef), (31, .bool true)] 24 rfl rfl ?_
   refine LP_end _ rfl ?_
   try refine W_forget [(1, sl a5 sx c6), (3, pb b), (5, pb b20), (31, .bool true)] ⟨rfl, rfl, rfl, rfl, trivial⟩ fun ρ => ?_
   have xc39 := (xc.trans x38)
   exact ⟨true, H, _, env_eq ⟨rfl, rfl, rfl, rfl, trivial⟩, (X.stepx xc39), (ex.ext xc39), (ex35.ext x38), (ex36.ext x38), (ex16.ext xc39), (ex19.ext (x22.trans x38)), (ex23.ext x38)⟩
  have H := H.2 hc
  refine LP_ev ok 6 [(14, sl a5 sx c6), (15, .pointer (some ⟨b20, 2, none⟩))] 8 rfl rfl ?_
  have ex48 := (ex23.ext x38)
  refine LP_ldbox 8 (v := sl a17 t.Where c18) rfl rfl rfl ti_22 ag_22 (fun _ => rfl) rfl ex48 rfl rfl ?_
  have ex50 := (ex35.ext x38)
  have xc51 := (xc.trans x38)
  have ex52 := (ex16.ext xc51)
  refine LP_call 9 rfl rfl rfl cal_82 rfl (impl_isWhere_w _ _ _ H wx37 r3 ex50 r15 ex52) ?_
  rintro _ wx53 ⟨r49, H, rfl, x54⟩
  refine LP_ev ok 10 [(18, .bool (!r49)), (19, .bool (!r49)), (20, .bool (!r49))] 13 rfl rfl ?_
  refine LP_split 20 (!r49) rfl (fun hc55 => ?_) (fun hc55 => ?_)
  ·have H := H.1 hc55
   refine LP_ev ok 13 [(21, undef), (22, undef), (23, undef), (24, .bool true), (25, .bool true), (26, undef), (27, undef), (28, undef), (29, undef), (30, undef), (31, .bool true)] 24 rfl rfl ?_
   refine LP_end _ rfl ?_
   try refine W_forget [(1, sl a5 sx c6), (3, pb b), (5, pb b20), (31, .bool true)] ⟨rfl, rfl, rfl, rfl, trivial⟩ fun ρ => ?_
   have xc56 := (xc51.trans x54)
   exact ⟨true, H, _, env_eq ⟨rfl, rfl, rfl, rfl, trivial⟩, (X.stepx xc56), (ex.ext xc56), (ex50.ext x54), (ex36.ext (x38.trans x54)), (ex52.ext x54), (ex19.ext ((x22.trans x38).trans x54)), (ex48.ext x54)⟩
  have H := H.2 hc55
  refine LP_ev ok 13 [(21, .pointer (some ⟨b20, 3, none⟩))] 14 rfl rfl ?_
  have ex66 := (ex48.ext x54)
  refine LP_ldbox 14 (v := I t.Sum) rfl rfl rfl ti_3 ag_3 (fun _ => rfl) rfl ex66 rfl rfl ?_
  refine LP_ev ok 15 [(23, .bool (decide (t.Sum < ((-1))))), (24, .bool (decide (t.Sum < ((-1))))), (25, .bool (decide (t.Sum < ((-1)))))] 18 rfl rfl ?_
  refine LP_split 25 (decide (t.Sum < ((-1)))) rfl (fun hc67 => ?_) (fun hc67 => ?_)
  ·have H := H.1 hc67
   refine LP_ev ok 18 [(26, undef), (27, undef), (28, undef), (29, undef), (30, undef), (31, .bool true)] 24 rfl rfl ?_
   refine LP_end _ rfl ?_
   try refine W_forget [(1, sl a5 sx c6), (3, pb b), (5, pb b20), (31, .bool true)] ⟨rfl, rfl, rfl, rfl, trivial⟩ fun ρ => ?_
   have xc68 := (xc51.trans x54)
   exact ⟨true, H, _, env_eq ⟨rfl, rfl, rfl, rfl, trivial⟩, (X.stepx xc68), (ex.ext xc68), (ex50.ext x54), (ex36.ext (x38.trans x54)), (ex52.ext x54), (ex19.ext ((x22.trans x38).trans x54)), ex66⟩
  have H := H.2 hc67
  refine LP_ev ok 18 [(26, .pointer (some ⟨b20, 3, none⟩))] 19 rfl rfl ?_
  refine LP_ldbox 19 (v := I t.Sum) rfl rfl rfl ti_3 ag_3 (fun _ => rfl) rfl ex66 rfl rfl ?_
  refine LP_ev ok 20 [(28, sl a5 sx c6), (29, I (ln sx)), (30, .bool (decide (t.Sum ≥ (ln sx)))), (31, .bool (decide (t.Sum ≥ (ln sx))))] 24 rfl rfl ?_
  refine LP_end _ rfl ?_
  try refine W_forget [(1, sl a5 sx c6), (3, pb b), (5, pb b20), (31, .bool (decide (t.Sum ≥ (ln sx))))] ⟨rfl, rfl, rfl, rfl, trivial⟩ fun ρ => ?_
  have xc77 := (xc51.trans x54)
  exact ⟨decide (t.Sum ≥ (ln sx)), H, _, env_eq ⟨rfl, rfl, rfl, rfl, trivial⟩, (X.stepx xc77), (ex.ext xc77), (ex50.ext x54), (ex36.ext (x38.trans x54)), (ex52.ext x54), (ex19.ext ((x22.trans x38).trans x54)), ex66⟩
 rintro x25 _ wx26 ⟨H, ρ, rfl, HF⟩
 revert HF
 refine bb7 fun X33 ex27 ex28 ex29 ex30 ex31 ex32 => ?_
 subst hk
 refine W_cond (x25) rfl (fun hc86 => ?_) (fun hc86 => ?_)
 ·have H := H.1 hc86
  refine W_seq (W_region ?_)
  refine LP_ev ok 0 [(6, .bool false)] 1 rfl rfl ?_
  refine LP_end _ rfl (W_ret ?_)
  exact ⟨_, Ret_of [.bool false] ⟨⟨rfl, rfl⟩, trivial⟩, _, H, rfl, X33.ext⟩
 have H := H.2 hc86
 refine W_skip ?_
 refine W_seq (W_region ?_)
 refine LP_ldbox 0 (v := .agg #[sl a g.Parents c]) rfl rfl rfl ti_36 ag_36 (fun h => by cases h) rfl ex31 rfl rfl ?_
 refine LP_ev ok 1 [(33, sl a5 sx c6)] 2 rfl rfl ?_
 refine LP_ldbox 2 (v := .agg #[I t.Level, sl a11 t.Vars c12, sl a17 t.Where c18, I t.Sum]) rfl rfl rfl ti_40 ag_40 (fun h => by cases h) rfl ex32 rfl rfl ?_
 refine LP_call 3 rfl rfl rfl cal_73 rfl (impl_cellCount_w _ _ _ _ H wx26 r ex27 r3 ex28 r9 ex29 r15 ex30) ?_
 rintro _ wx88 ⟨r87, H, rfl, x89⟩
 refine LP_ev ok 4 [(7, I r87)] 5 rfl rfl ?_
 refine LP_end _ rfl ?_
 obtain ⟨k92, hk93, H⟩ := jn_elim H
 refine W_join2 (S := Bool) (fun s ρ' w' => k92 s ∧ ∃ (ρ : Env), ρ' = setAll [(6, .bool s)] ρ ∧ wx88 = w') ?_ ?_
 ·refine W_region ?_
  refine LP_ev ok 0 [(36, I r87), (37, .bool (decide (r87 > 0))), (38, .bool (decide (r87 > 0)))] 3 rfl rfl ?_
  refine LP_split 38 (decide (r87 > 0)) rfl (fun hc94 => ?_) (fun hc94 => ?_)
  ·have H := H.1 hc94
   refine LP_ev ok 3 [(39, I r87), (40, .bool (decide (r87 ≤ 600))), (41, .bool (decide (r87 ≤ 600))), (6, .bool (decide (r87 ≤ 600)))] 7 rfl rfl ?_
   exact LP_end _ rfl ⟨decide (r87 ≤ 600), H, _, env_eq ⟨rfl, trivial⟩, rfl⟩
  have H := H.2 hc94
  refine LP_ev ok 3 [(39, undef), (40, undef), (41, .bool false), (6, .bool false)] 7 rfl rfl ?_
  exact LP_end _ rfl ⟨false, H, _, env_eq ⟨rfl, trivial⟩, rfl⟩
 rintro x90 _ _ ⟨H, ρ, rfl, rfl⟩
 subst hk93
 refine W_ret ?_
 exact ⟨_, Ret_of [.bool x90] ⟨⟨rfl, rfl⟩, trivial⟩, _, H, rfl, (X33.stepx x89).ext⟩

theorem impl_areTabled_w (g : Geo) (sx : List Variable) (t : Table) (Q : Bool → Prop) (H : impl_areTabled g sx t Q) (w : World) {vx : Value} {hx : PH} (r : RS hx vx g.Parents) (ex : Sub hx w) {vx1 : Value} {hx2 : PH} (r3 : RS hx2 vx1 sx) (ex4 : Sub hx2 w) {vx7 : Value} {hx8 : PH} (r9 : RS hx8 vx7 t.Vars) (ex10 : Sub hx8 w) {vx13 : Value} {hx14 : PH} (r15 : RS hx14 vx13 t.Where) (ex16 : Sub hx14 w) :
  CallsTo Try.prog 48 #[.agg #[vx], vx1, .agg #[I t.Level, vx7, vx13, I t.Sum]] w fun v w' => ∃ r0, Q r0 ∧ v = .bool r0 ∧ Ext w w' := by
 obtain ⟨a, c, rfl⟩ := r.shape
 obtain ⟨a5, c6, rfl⟩ := r3.shape
 obtain ⟨a11, c12, rfl⟩ := r9.shape
 obtain ⟨a17, c18, rfl⟩ := r15.shape
 refine enter (args := [.agg #[sl a g.Parents c], sl a5 sx c6, .agg #[I t.Level, sl a11 t.Vars c12, sl a17 t.Where c18, I t.Sum]]) 19 Try.func48 rfl rfl rfl ?_
 refine W_forget [(0, .agg #[sl a g.Parents c]), (1, sl a5 sx c6), (2, .agg #[I t.Level, sl a11 t.Vars c12, sl a17 t.Where c18, I t.Sum])] ⟨rfl, rfl, rfl, trivial⟩ fun ρ => ?_
 have X := But.refl emp w
 refine W_seq (W_region ?_)
 refine LP_box 0 (cs := [sl a g.Parents c]) rfl rfl rfl rfl rfl fun b wx x ex19 f => ?_
 refine LP_box 1 (cs := [I t.Level, sl a11 t.Vars c12, sl a17 t.Where c18, I t.Sum]) rfl rfl rfl rfl rfl fun b20 wx21 x22 ex23 f24 => ?_
 refine LP_ev ok 2 [(6, .bool false)] 3 rfl rfl ?_
 refine LP_end _ rfl ?_
 obtain ⟨k, hk, H⟩ := jn_elim H
 refine W_join2 (S := Bool) (fun s ρ' w' => k s ∧ ∃ (ρ : Env), ρ' = setAll [(6, .bool s)] ρ ∧ But emp w w') ?_ ?_
 ·refine W_region ?_
  have ex28 := (ex19.ext x22)
  refine LP_ldbox 0 (v := .agg #[sl a g.Parents c]) rfl rfl rfl ti_36 ag_36 (fun h => by cases h) rfl ex28 rfl rfl ?_
  have xc := (x.trans x22)
  have ex30 := (ex.ext xc)
  refine LP_call 1 rfl rfl rfl cal_67 rfl (impl_IsGeo_w _ _ H wx21 r ex30) ?_
  rintro _ wx31 ⟨r29, H, rfl, x32⟩
  refine LP_ev ok 2 [(9, .bool r29)] 3 rfl rfl ?_
  refine LP_split 9 (r29) rfl (fun hc => ?_) (fun hc => ?_)
  ·have H := H.1 hc
   refine LP_ev ok 3 [(10, sl a5 sx c6)] 4 rfl rfl ?_
   have xc34 := (xc.trans x32)
   have ex35 := (ex4.ext xc34)
   refine LP_call 4 rfl rfl rfl cal_68 rfl (impl_IsSchema_w _ _ H wx31 r3 ex35) ?_
   rintro _ wx36 ⟨r33, H, rfl, x37⟩
   refine LP_ev ok 5 [(12, .bool r33), (13, .bool r33)] 7 rfl rfl ?_
   refine LP_split 13 (r33) rfl (fun hc38 => ?_) (fun hc38 => ?_)
   ·have H := H.1 hc38
    have xc39 := (x32.trans x37)
    refine LP_ldbox 7 (v := .agg #[sl a g.Parents c]) rfl rfl rfl ti_36 ag_36 (fun h => by cases h) rfl (ex28.ext xc39) rfl rfl ?_
    refine LP_ev ok 8 [(15, sl a5 sx c6)] 9 rfl rfl ?_
    refine LP_ldbox 9 (v := .agg #[I t.Level, sl a11 t.Vars c12, sl a17 t.Where c18, I t.Sum]) rfl rfl rfl ti_40 ag_40 (fun h => by cases h) rfl (ex23.ext xc39) rfl rfl ?_
    have xc45 := (xc34.trans x37)
    refine LP_call 10 rfl rfl rfl cal_69 rfl (impl_isTable_w _ _ _ _ H wx36 r (ex30.ext xc39) r3 (ex35.ext x37) r9 (ex10.ext xc45) r15 (ex16.ext xc45)) ?_
    rintro _ wx48 ⟨r42, H, rfl, x49⟩
    refine LP_ev ok 11 [(18, .bool r42), (6, .bool r42)] 13 rfl rfl ?_
    exact LP_end _ rfl ⟨r42, H, _, env_eq ⟨rfl, trivial⟩, (X.stepx (xc45.trans x49))⟩
   have H := H.2 hc38
   refine LP_ev ok 7 [(14, undef), (15, undef), (16, undef), (17, undef), (18, .bool false), (6, .bool false)] 13 rfl rfl ?_
   exact LP_end _ rfl ⟨false, H, _, env_eq ⟨rfl, trivial⟩, (X.stepx (xc34.trans x37))⟩
  have H := H.2 hc
  refine LP_ev ok 3 [(10, undef), (11, undef), (12, .bool false), (13, .bool false), (14, undef), (15, undef), (16, undef), (17, undef), (18, .bool false), (6, .bool false)] 13 rfl rfl ?_
  exact LP_end _ rfl ⟨false, H, _, env_eq ⟨rfl, trivial⟩, (X.stepx (xc.trans x32))⟩
 rintro x25 _ wx26 ⟨H, ρ, rfl, X27⟩
 subst hk
 refine W_ret ?_
 exact ⟨_, Ret_of [.bool x25] ⟨⟨rfl, rfl⟩, trivial⟩, _, H, rfl, X27.ext⟩

theorem impl_areValues_w (sx : List Variable) (values : List Int) (Q : Bool → Prop) (H : impl_areValues sx values Q) (w : World) {vx : Value} {hx : PH} (r : RS hx vx sx) (ex : Sub hx w) {vx1 : Value} {hx2 : PH} (r3 : RS hx2 vx1 values) (ex4 : Sub hx2 w) :
  CallsTo Try.prog 93 #[vx, vx1] w fun v w' => ∃ r0, Q r0 ∧ v = .bool r0 ∧ Ext w w' := by
 obtain ⟨a, c, rfl⟩ := r.shape
 obtain ⟨a5, c6, rfl⟩ := r3.shape
 refine enter (args := [sl a sx c, sl a5 values c6]) 31 Try.func93 rfl rfl rfl ?_
 refine W_forget [(0, sl a sx c), (1, sl a5 values c6)] ⟨rfl, rfl, trivial⟩ fun ρ => ?_
 have X := But.refl emp w
 refine W_seq (W_region ?_)
 refine LP_ev ok 0 [(4, .bool false)] 1 rfl rfl ?_
 refine LP_end _ rfl (W_seq ?_)
 refine W_seq (W_region ?_)
 refine LP_ev ok 0 [(7, sl a5 values c6), (8, I (ln values)), (9, sl a sx c), (10, I (ln sx)), (11, .bool ((ln values) != (ln sx)))] 5 rfl rfl ?_
 refine LP_end _ rfl ?_
 refine W_cond ((ln values) != (ln sx)) rfl (fun hc => ?_) (fun hc => ?_)
 ·have H := H.1 hc
  refine W_seq (W_region ?_)
  refine LP_ev ok 0 [(4, .bool false)] 1 rfl rfl ?_
  refine LP_end _ rfl (W_ret ?_)
  exact ⟨_, Ret_of [.bool false] ⟨⟨rfl, rfl⟩, trivial⟩, _, H, rfl, X.ext⟩
 have H := H.2 hc
 refine W_skip ?_
 refine W_seq ?_
 refine W_seq (W_region ?_)
 refine LP_ev ok 0 [(12, sl a5 values c6), (13, I (ln values)), (14, I 0)] 3 rfl rfl ?_
 refine LP_end _ rfl ?_
 refine W_block ?_
 obtain ⟨J, m, Hx, H⟩ := H
 refine W_loop (S := Int) (fun s ρ' w' => J s ∧ ∃ (ρ : Env), ρ' = setAll [(0, sl a sx c), (12, sl a5 values c6), (13, I (ln values)), (14, I s)] ρ ∧ w = w') (fun s => m s) 0 ⟨Hx, _, env_eq ⟨rfl, rfl, rfl, rfl, trivial⟩, rfl⟩ ?_
 rintro x _ _ ⟨Hi, ρ, rfl, rfl⟩
 have H := H x Hi
 refine W_seq (W_region ?_)
 refine LP_ev ok 0 [(15, .bool (decide (x < (ln values))))] 1 rfl rfl ?_
 refine LP_end _ rfl (W_seq ?_)
 refine W_cond (decide (x < (ln values))) rfl (fun hc7 => ?_) (fun hc7 => ?_)
 ·have H := H.1 hc7
  refine W_skip ?_
  refine W_seq ?_
  refine W_block ?_
  refine W_seq (W_region ?_)
  refine LP_ev ok 0 [(16, I x)] 1 rfl rfl ?_
  obtain ⟨x8, hi, hx9, H⟩ := H
  refine LP_index 1 rfl rfl rfl Try.underlying22 ti_3 rfl rfl r3 hi hx9 fun a10 cs r11 d => ?_
  refine LP_load 2 rfl rfl rfl ti_3 ag_3 rfl r11 d ex4 fun vx12 r13 => ?_
  obtain rfl := r13.int
  refine LP_ev ok 3 [(5, I x), (6, I x8)] 5 rfl rfl ?_
  refine LP_end _ rfl ?_
  obtain ⟨k, hk, H⟩ := jn_elim H
  refine W_join2 (S := Bool) (fun s ρ' w' => k s ∧ ∃ (ρ : Env), ρ' = setAll [(0, sl a sx c), (12, sl a5 values c6), (13, I (ln values)), (14, I x), (29, .bool s)] ρ ∧ w = w') ?_ ?_
  ·refine W_region ?_
   refine LP_ev ok 0 [(19, I x8), (20, .bool (decide (x8 < 0))), (21, .bool (decide (x8 < 0)))] 3 rfl rfl ?_
   refine LP_split 21 (decide (x8 < 0)) rfl (fun hc16 => ?_) (fun hc16 => ?_)
   ·have H := H.1 hc16
    refine LP_ev ok 3 [(22, undef), (23, undef), (24, undef), (25, undef), (26, undef), (27, undef), (28, undef), (29, .bool true)] 11 rfl rfl ?_
    exact LP_end _ rfl ⟨true, H, _, env_eq ⟨rfl, rfl, rfl, rfl, rfl, trivial⟩, rfl⟩
   have H := H.2 hc16
   refine LP_ev ok 3 [(22, I x8), (23, sl a sx c), (24, I x)] 6 rfl rfl ?_
   obtain ⟨x17, hi18, hx19, H⟩ := H
   refine LP_index 6 rfl rfl rfl Try.underlying38 ti_65 rfl rfl r hi18 hx19 fun a20 cs21 r22 d23 => ?_
   refine LP_ev ok 7 [(26, .pointer (some (Addr.add a20 1)))] 8 rfl rfl ?_
   refine LP_ldfld (x := x17) (off := 1) 8 (v := I x17.Levels) rfl rfl rfl ti_3 ag_3 (fun _ => rfl) rfl r22 d23 ex rfl rfl ?_
   refine LP_ev ok 9 [(28, .bool (decide (x8 ≥ x17.Levels))), (29, .bool (decide (x8 ≥ x17.Levels)))] 11 rfl rfl ?_
   exact LP_end _ rfl ⟨decide (x8 ≥ x17.Levels), H, _, env_eq ⟨rfl, rfl, rfl, rfl, rfl, trivial⟩, rfl⟩
  rintro x14 _ _ ⟨H, ρ, rfl, rfl⟩
  subst hk
  refine W_cond (x14) rfl (fun hc24 => ?_) (fun hc24 => ?_)
  ·have H := H.1 hc24
   refine W_seq (W_region ?_)
   refine LP_ev ok 0 [(4, .bool false)] 1 rfl rfl ?_
   refine LP_end _ rfl (W_ret ?_)
   exact ⟨_, Ret_of [.bool false] ⟨⟨rfl, rfl⟩, trivial⟩, _, H, rfl, X.ext⟩
  have H := H.2 hc24
  refine W_skip ?_
  refine W_region ?_
  refine LP_ev ok 0 [(30, I (wr (x + 1))), (14, I (wr (x + 1)))] 2 rfl rfl ?_
  exact LP_end _ rfl ⟨wr (x + 1), ⟨H.1, _, env_eq ⟨rfl, rfl, rfl, rfl, trivial⟩, rfl⟩, H.2⟩
 have H := H.2 hc7
 refine W_exit ?_
 refine (if_pos rfl).mpr ?_
 refine W_seq (W_region ?_)
 refine LP_ev ok 0 [(4, .bool true)] 1 rfl rfl ?_
 refine LP_end _ rfl (W_ret ?_)
 exact ⟨_, Ret_of [.bool true] ⟨⟨rfl, rfl⟩, trivial⟩, _, H, rfl, X.ext⟩

theorem impl_isRecord_w (sx : List Variable) (r1 : Record) (Q : Bool → Prop) (H : impl_isRecord sx r1 Q) (w : World) {vx : Value} {hx : PH} (r : RS hx vx sx) (ex : Sub hx w) {vx2 : Value} {hx3 : PH} (r4 : RS hx3 vx2 r1.Values) (ex5 : Sub hx3 w) :
  CallsTo Try.prog 83 #[vx, .agg #[I r1.Area, I r1.House, vx2]] w fun v w' => ∃ r0, Q r0 ∧ v = .bool r0 ∧ Ext w w' := by
 obtain ⟨a, c, rfl⟩ := r.shape
 obtain ⟨a6, c7, rfl⟩ := r4.shape
 refine enter (args := [sl a sx c, .agg #[I r1.Area, I r1.House, sl a6 r1.Values c7]]) 29 Try.func83 rfl rfl rfl ?_
 refine W_forget [(0, sl a sx c), (1, .agg #[I r1.Area, I r1.House, sl a6 r1.Values c7])] ⟨rfl, rfl, trivial⟩ fun ρ => ?_
 have X := But.refl emp w
 refine W_seq (W_region ?_)
 refine LP_box 0 (cs := [I r1.Area, I r1.House, sl a6 r1.Values c7]) rfl rfl rfl rfl rfl fun b wx x ex8 f => ?_
 refine LP_ev ok 1 [(4, .bool false)] 2 rfl rfl ?_
 refine LP_end _ rfl ?_
 obtain ⟨k, hk, H⟩ := jn_elim H
 refine W_join2 (S := Bool) (fun s ρ' w' => k s ∧ ∃ (ρ : Env), ρ' = setAll [(4, .bool s)] ρ ∧ But emp w w') ?_ ?_
 ·refine W_region ?_
  refine LP_ev ok 0 [(5, pb b)] 1 rfl rfl ?_
  refine LP_ldbox 1 (v := I r1.Area) rfl rfl rfl ti_3 ag_3 (fun _ => rfl) rfl ex8 rfl rfl ?_
  refine LP_ev ok 2 [(7, .bool (decide (r1.Area ≥ 0))), (8, .bool (decide (r1.Area ≥ 0)))] 4 rfl rfl ?_
  refine LP_split 8 (decide (r1.Area ≥ 0)) rfl (fun hc => ?_) (fun hc => ?_)
  ·have H := H.1 hc
   refine LP_ev ok 4 [(9, pb b)] 5 rfl rfl ?_
   refine LP_ldbox 5 (v := I r1.Area) rfl rfl rfl ti_3 ag_3 (fun _ => rfl) rfl ex8 rfl rfl ?_
   refine LP_ev ok 6 [(11, .bool (decide (r1.Area ≤ 29))), (12, .bool (decide (r1.Area ≤ 29))), (13, .bool (decide (r1.Area ≤ 29)))] 9 rfl rfl ?_
   refine LP_split 13 (decide (r1.Area ≤ 29)) rfl (fun hc12 => ?_) (fun hc12 => ?_)
   ·have H := H.1 hc12
    refine LP_ev ok 9 [(14, .pointer (some ⟨b, 1, none⟩))] 10 rfl rfl ?_
    refine LP_ldbox 10 (v := I r1.House) rfl rfl rfl ti_3 ag_3 (fun _ => rfl) rfl ex8 rfl rfl ?_
    refine LP_ev ok 11 [(16, .bool (decide (r1.House ≥ 0))), (17, .bool (decide (r1.House ≥ 0))), (18, .bool (decide (r1.House ≥ 0)))] 14 rfl rfl ?_
    refine LP_split 18 (decide (r1.House ≥ 0)) rfl (fun hc13 => ?_) (fun hc13 => ?_)
    ·have H := H.1 hc13
     refine LP_ev ok 14 [(19, .pointer (some ⟨b, 1, none⟩))] 15 rfl rfl ?_
     refine LP_ldbox 15 (v := I r1.House) rfl rfl rfl ti_3 ag_3 (fun _ => rfl) rfl ex8 rfl rfl ?_
     refine LP_ev ok 16 [(21, .bool (decide (r1.House ≤ 999))), (22, .bool (decide (r1.House ≤ 999))), (23, .bool (decide (r1.House ≤ 999)))] 19 rfl rfl ?_
     refine LP_split 23 (decide (r1.House ≤ 999)) rfl (fun hc14 => ?_) (fun hc14 => ?_)
     ·have H := H.1 hc14
      refine LP_ev ok 19 [(24, sl a sx c), (25, .pointer (some ⟨b, 2, none⟩))] 21 rfl rfl ?_
      refine LP_ldbox 21 (v := sl a6 r1.Values c7) rfl rfl rfl ti_22 ag_22 (fun _ => rfl) rfl ex8 rfl rfl ?_
      refine LP_call 22 rfl rfl rfl cal_93 rfl (impl_areValues_w _ _ _ H wx r (ex.ext x) r4 (ex5.ext x)) ?_
      rintro _ wx18 ⟨r15, H, rfl, x19⟩
      refine LP_ev ok 23 [(28, .bool r15), (4, .bool r15)] 25 rfl rfl ?_
      refine LP_end _ rfl ?_
      try refine W_forget [(4, .bool r15)] ⟨rfl, trivial⟩ fun ρ => ?_
      exact ⟨r15, H, _, env_eq ⟨rfl, trivial⟩, (X.stepx (x.trans x19))⟩
     have H := H.2 hc14
     refine LP_ev ok 19 [(24, undef), (25, undef), (26, undef), (27, undef), (28, .bool false), (4, .bool false)] 25 rfl rfl ?_
     refine LP_end _ rfl ?_
     try refine W_forget [(4, .bool false)] ⟨rfl, trivial⟩ fun ρ => ?_
     exact ⟨false, H, _, env_eq ⟨rfl, trivial⟩, (X.stepx x)⟩
    have H := H.2 hc13
    refine LP_ev ok 14 [(19, undef), (20, undef), (21, undef), (22, .bool false), (23, .bool false), (24, undef), (25, undef), (26, undef), (27, undef), (28, .bool false), (4, .bool false)] 25 rfl rfl ?_
    refine LP_end _ rfl ?_
    try refine W_forget [(4, .bool false)] ⟨rfl, trivial⟩ fun ρ => ?_
    exact ⟨false, H, _, env_eq ⟨rfl, trivial⟩, (X.stepx x)⟩
   have H := H.2 hc12
   refine LP_ev ok 9 [(14, undef), (15, undef), (16, undef), (17, .bool false), (18, .bool false), (19, undef), (20, undef), (21, undef), (22, .bool false), (23, .bool false), (24, undef), (25, undef), (26, undef), (27, undef), (28, .bool false), (4, .bool false)] 25 rfl rfl ?_
   refine LP_end _ rfl ?_
   try refine W_forget [(4, .bool false)] ⟨rfl, trivial⟩ fun ρ => ?_
   exact ⟨false, H, _, env_eq ⟨rfl, trivial⟩, (X.stepx x)⟩
  have H := H.2 hc
  refine LP_ev ok 4 [(9, undef), (10, undef), (11, undef), (12, .bool false), (13, .bool false), (14, undef), (15, undef), (16, undef), (17, .bool false), (18, .bool false), (19, undef), (20, undef), (21, undef), (22, .bool false), (23, .bool false), (24, undef), (25, undef), (26, undef), (27, undef), (28, .bool false), (4, .bool false)] 25 rfl rfl ?_
  refine LP_end _ rfl ?_
  try refine W_forget [(4, .bool false)] ⟨rfl, trivial⟩ fun ρ => ?_
  exact ⟨false, H, _, env_eq ⟨rfl, trivial⟩, (X.stepx x)⟩
 rintro x9 _ wx10 ⟨H, ρ, rfl, X11⟩
 subst hk
 refine W_ret ?_
 exact ⟨_, Ret_of [.bool x9] ⟨⟨rfl, rfl⟩, trivial⟩, _, H, rfl, X11.ext⟩

theorem impl_isData_w (sx : List Variable) (l : List Record) (Q : Bool → Prop) (H : impl_isData sx l Q) (w : World) {vx : Value} {hx : PH} (r : RS hx vx sx) (ex : Sub hx w) {vx1 : Value} {hx2 : PH} (r3 : RS hx2 vx1 l) (ex4 : Sub hx2 w) :
  CallsTo Try.prog 70 #[vx, vx1] w fun v w' => ∃ r0, Q r0 ∧ v = .bool r0 ∧ Ext w w' := by
 obtain ⟨a, c, rfl⟩ := r.shape
 obtain ⟨a5, c6, rfl⟩ := r3.shape
 refine enter (args := [sl a sx c, sl a5 l c6]) 21 Try.func70 rfl rfl rfl ?_
 refine W_forget [(0, sl a sx c), (1, sl a5 l c6)] ⟨rfl, rfl, trivial⟩ fun ρ => ?_
 have X := But.refl emp w
 refine W_seq (W_region ?_)
 refine LP_ev ok 0 [(4, .bool false)] 1 rfl rfl ?_
 refine LP_end _ rfl (W_seq ?_)
 refine W_seq (W_region ?_)
 refine LP_ev ok 0 [(7, sl a5 l c6), (8, I (ln l)), (9, .bool (decide ((ln l) > 40)))] 3 rfl rfl ?_
 refine LP_end _ rfl ?_
 refine W_cond (decide ((ln l) > 40)) rfl (fun hc => ?_) (fun hc => ?_)
 ·have H := H.1 hc
  refine W_seq (W_region ?_)
  refine LP_ev ok 0 [(4, .bool false)] 1 rfl rfl ?_
  refine LP_end _ rfl (W_ret ?_)
  exact ⟨_, Ret_of [.bool false] ⟨⟨rfl, rfl⟩, trivial⟩, _, H, rfl, X.ext⟩
 have H := H.2 hc
 refine W_skip ?_
 refine W_seq ?_
 refine W_seq (W_region ?_)
 refine LP_ev ok 0 [(10, sl a5 l c6), (11, I (ln l)), (12, I 0)] 3 rfl rfl ?_
 refine LP_end _ rfl ?_
 refine W_block ?_
 obtain ⟨J, m, Hx, H⟩ := H
 refine W_loop (S := Int) (fun s ρ' w' => J s ∧ ∃ (ρ : Env), ρ' = setAll [(0, sl a sx c), (10, sl a5 l c6), (11, I (ln l)), (12, I s)] ρ ∧ But emp w w' ∧ Sub hx w' ∧ Sub hx2 w') (fun s => m s) 0 ⟨Hx, _, env_eq ⟨rfl, rfl, rfl, rfl, trivial⟩, X, ex, ex4⟩ ?_
 rintro x _ wx ⟨Hi, ρ, rfl, X9, ex7, ex8⟩
 have H := H x Hi
 refine W_seq (W_region ?_)
 refine LP_ev ok 0 [(13, .bool (decide (x < (ln l))))] 1 rfl rfl ?_
 refine LP_end _ rfl (W_seq ?_)
 refine W_cond (decide (x < (ln l))) rfl (fun hc10 => ?_) (fun hc10 => ?_)
 ·have H := H.1 hc10
  refine W_skip ?_
  refine W_seq ?_
  refine W_block ?_
  refine W_seq (W_region ?_)
  obtain ⟨x11, hi, hx12, H⟩ := H
  refine LP_index 0 rfl rfl rfl Try.underlying62 ti_80 rfl rfl r3 hi hx12 fun a13 cs r14 d => ?_
  have d15 := d
  obtain ⟨u, rfl, r16⟩ := Record_rd d15
  obtain ⟨a17, c18, rfl⟩ := r16.shape
  refine LP_load 1 rfl rfl rfl ti_80 ag_80 rfl r14 d ex8 fun vx19 r20 => ?_
  obtain ⟨u21, rfl, r22⟩ := Record_rv r20
  obtain ⟨a23, c24, rfl⟩ := r22.shape
  refine LP_alloc 2 rfl rfl rfl ti_80 rfl fun b wx25 x26 ex27 f => ?_
  refine LP_stbox 3 (vs := [I x11.Area, I x11.House, sl a23 x11.Values c24]) (cs' := [I x11.Area, I x11.House, sl a23 x11.Values c24]) rfl rfl rfl ti_80 rfl rfl rfl rfl rfl ex27 rfl rfl fun wx28 ex29 y => ?_
  refine LP_end _ rfl (W_seq (W_region ?_))
  refine LP_ev ok 0 [(16, sl a sx c)] 1 rfl rfl ?_
  refine LP_ldbox 1 (v := .agg #[I x11.Area, I x11.House, sl a23 x11.Values c24]) rfl rfl rfl ti_80 ag_80 (fun h => by cases h) rfl ex29 rfl rfl ?_
  have ex31 := ((ex7.ext x26).but y (Dj.of_fresh ex7 f).symm)
  have ex32 := ((ex8.ext x26).but y (Dj.of_fresh ex8 f).symm)
  refine LP_call 2 rfl rfl rfl cal_83 rfl (impl_isRecord_w _ _ _ H wx28 r ex31 r22 ex32) ?_
  rintro _ wx33 ⟨r30, H, rfl, x34⟩
  refine LP_ev ok 3 [(19, .bool (!r30))] 4 rfl rfl ?_
  refine LP_end _ rfl ?_
  refine W_cond (!r30) rfl (fun hc35 => ?_) (fun hc35 => ?_)
  ·have H := H.1 hc35
   refine W_seq (W_region ?_)
   refine LP_ev ok 0 [(4, .bool false)] 1 rfl rfl ?_
   refine LP_end _ rfl (W_ret ?_)
   have f36 := f.mono X9.size
   exact ⟨_, Ret_of [.bool false] ⟨⟨rfl, rfl⟩, trivial⟩, _, H, rfl, (((X9.stepx x26).step y (f36.dom _)).stepx x34).ext⟩
  have H := H.2 hc35
  refine W_skip ?_
  refine W_region ?_
  refine LP_ev ok 0 [(20, I (wr (x + 1))), (12, I (wr (x + 1)))] 2 rfl rfl ?_
  refine LP_end _ rfl ?_
  have f38 := f.mono X9.size
  exact ⟨wr (x + 1), ⟨H.1, _, env_eq ⟨rfl, rfl, rfl, rfl, trivial⟩, (((X9.stepx x26).step y (f38.dom _)).stepx x34), (ex31.ext x34), (ex32.ext x34)⟩, H.2⟩
 have H := H.2 hc10
 refine W_exit ?_
 refine (if_pos rfl).mpr ?_
 refine W_seq (W_region ?_)
 refine LP_ev ok 0 [(4, .bool true)] 1 rfl rfl ?_
 refine LP_end _ rfl (W_ret ?_)
 exact ⟨_, Ret_of [.bool true] ⟨⟨rfl, rfl⟩, trivial⟩, _, H, rfl, X9.ext⟩

theorem impl_isArea_w (g : Geo) (i : Int) (Q : Bool → Prop) (H : impl_isArea g i Q) (w : World) {vx : Value} {hx : PH} (r : RS hx vx g.Parents) (ex : Sub hx w) :
  CallsTo Try.prog 71 #[.agg #[vx], I i] w fun v w' => ∃ r0, Q r0 ∧ v = .bool r0 ∧ Ext w w' := by
 obtain ⟨a, c, rfl⟩ := r.shape
 refine enter (args := [.agg #[sl a g.Parents c], I i]) 14 Try.func71 rfl rfl rfl ?_
 refine W_forget [(0, .agg #[sl a g.Parents c]), (1, I i)] ⟨rfl, rfl, trivial⟩ fun ρ => ?_
 have X := But.refl emp w
 refine W_seq (W_region ?_)
 refine LP_box 0 (cs := [sl a g.Parents c]) rfl rfl rfl rfl rfl fun b wx x ex1 f => ?_
 refine LP_ev ok 1 [(4, .bool false)] 2 rfl rfl ?_
 refine LP_end _ rfl ?_
 obtain ⟨k, hk, H⟩ := jn_elim H
 refine W_join2 (S := Bool) (fun s ρ' w' => k s ∧ ∃ (ρ : Env), ρ' = setAll [(4, .bool s)] ρ ∧ wx = w') ?_ ?_
 ·refine W_region ?_
  refine LP_ev ok 0 [(5, I i), (6, .bool (decide (i ≥ 0))), (7, .bool (decide (i ≥ 0)))] 3 rfl rfl ?_
  refine LP_split 7 (decide (i ≥ 0)) rfl (fun hc => ?_) (fun hc => ?_)
  ·have H := H.1 hc
   refine LP_ev ok 3 [(8, I i), (9, pb b)] 5 rfl rfl ?_
   refine LP_ldbox 5 (v := sl a g.Parents c) rfl rfl rfl ti_22 ag_22 (fun _ => rfl) rfl ex1 rfl rfl ?_
   refine LP_ev ok 6 [(11, I (ln g.Parents)), (12, .bool (decide (i < (ln g.Parents)))), (13, .bool (decide (i < (ln g.Parents)))), (4, .bool (decide (i < (ln g.Parents))))] 10 rfl rfl ?_
   exact LP_end _ rfl ⟨decide (i < (ln g.Parents)), H, _, env_eq ⟨rfl, trivial⟩, rfl⟩
  have H := H.2 hc
  refine LP_ev ok 3 [(8, undef), (9, undef), (10, undef), (11, undef), (12, undef), (13, .bool false), (4, .bool false)] 10 rfl rfl ?_
  exact LP_end _ rfl ⟨false, H, _, env_eq ⟨rfl, trivial⟩, rfl⟩
 rintro x2 _ _ ⟨H, ρ, rfl, rfl⟩
 subst hk
 refine W_ret ?_
 exact ⟨_, Ret_of [.bool x2] ⟨⟨rfl, rfl⟩, trivial⟩, _, H, rfl, (X.stepx x).ext⟩

theorem slices_Index_int_int_w (sx : List Int) (vx1 : Int) (Q : Int → Prop) (H : slices_Index_int_int sx vx1 Q) (w : World) {vx : Value} {hx : PH} (r : RS hx vx sx) (ex : Sub hx w) :
  CallsTo Try.prog 94 #[vx, I vx1] w fun v w' => ∃ r0, Q r0 ∧ v = I r0 ∧ Ext w w' := by
 obtain ⟨a, c, rfl⟩ := r.shape
 refine enter (args := [sl a sx c, I vx1]) 19 Try.func94 rfl rfl rfl ?_
 refine W_forget [(0, sl a sx c), (1, I vx1)] ⟨rfl, rfl, trivial⟩ fun ρ => ?_
 have X := But.refl emp w
 refine W_seq (W_region ?_)
 refine LP_ev ok 0 [(4, I 0)] 1 rfl rfl ?_
 refine LP_end _ rfl (W_seq ?_)
 refine W_seq (W_region ?_)
 refine LP_ev ok 0 [(6, sl a sx c), (7, I (ln sx)), (8, I 0)] 3 rfl rfl ?_
 refine LP_end _ rfl ?_
 refine W_block ?_
 obtain ⟨J, m, Hx, H⟩ := H
 refine W_loop (S := Int) (fun s ρ' w' => J s ∧ ∃ (ρ : Env), ρ' = setAll [(0, sl a sx c), (1, I vx1), (7, I (ln sx)), (8, I s)] ρ ∧ w = w') (fun s => m s) 0 ⟨Hx, _, env_eq ⟨rfl, rfl, rfl, rfl, trivial⟩, rfl⟩ ?_
 rintro x _ _ ⟨Hi, ρ, rfl, rfl⟩
 have H := H x Hi
 refine W_seq (W_region ?_)
 refine LP_ev ok 0 [(9, .bool (decide (x < (ln sx))))] 1 rfl rfl ?_
 refine LP_end _ rfl (W_seq ?_)
 refine W_cond (decide (x < (ln sx))) rfl (fun hc => ?_) (fun hc => ?_)
 ·have H := H.1 hc
  refine W_skip ?_
  refine W_seq ?_
  refine W_block ?_
  refine W_seq (W_region ?_)
  refine LP_ev ok 0 [(10, I x), (5, I x)] 2 rfl rfl ?_
  refine LP_end _ rfl (W_seq (W_region ?_))
  refine LP_ev ok 0 [(11, I vx1), (12, sl a sx c), (13, I x)] 3 rfl rfl ?_
  obtain ⟨x2, hi, hx3, H⟩ := H
  refine LP_index 3 rfl rfl rfl Try.underlying22 ti_3 rfl rfl r hi hx3 fun a4 cs r5 d => ?_
  refine LP_load 4 rfl rfl rfl ti_3 ag_3 rfl r5 d ex fun vx6 r7 => ?_
  obtain rfl := r7.int
  refine LP_ev ok 5 [(16, .bool (vx1 == x2))] 6 rfl rfl ?_
  refine LP_end _ rfl ?_
  refine W_cond (vx1 == x2) rfl (fun hc8 => ?_) (fun hc8 => ?_)
  ·have H := H.1 hc8
   refine W_seq (W_region ?_)
   refine LP_ev ok 0 [(17, I x), (4, I x)] 2 rfl rfl ?_
   refine LP_end _ rfl (W_ret ?_)
   exact ⟨_, Ret_of [I x] ⟨⟨rfl, rfl⟩, trivial⟩, _, H, rfl, X.ext⟩
  have H := H.2 hc8
  refine W_skip ?_
  refine W_region ?_
  refine LP_ev ok 0 [(18, I (wr (x + 1))), (8, I (wr (x + 1)))] 2 rfl rfl ?_
  exact LP_end _ rfl ⟨wr (x + 1), ⟨H.1, _, env_eq ⟨rfl, rfl, rfl, rfl, trivial⟩, rfl⟩, H.2⟩
 have H := H.2 hc
 refine W_exit ?_
 refine (if_pos rfl).mpr ?_
 refine W_seq (W_region ?_)
 refine LP_ev ok 0 [(4, I ((-1)))] 1 rfl rfl ?_
 refine LP_end _ rfl (W_ret ?_)
 exact ⟨_, Ret_of [I ((-1))] ⟨⟨rfl, rfl⟩, trivial⟩, _, H, rfl, X.ext⟩

theorem slices_Contains_int_int_w (sx : List Int) (vx1 : Int) (Q : Bool → Prop) (H : slices_Contains_int_int sx vx1 Q) (w : World) {vx : Value} {hx : PH} (r : RS hx vx sx) (ex : Sub hx w) :
  CallsTo Try.prog 84 #[vx, I vx1] w fun v w' => ∃ r0, Q r0 ∧ v = .bool r0 ∧ Ext w w' := by
 obtain ⟨a, c, rfl⟩ := r.shape
 refine enter (args := [sl a sx c, I vx1]) 9 Try.func84 rfl rfl rfl ?_
 refine W_forget [(0, sl a sx c), (1, I vx1)] ⟨rfl, rfl, trivial⟩ fun ρ => ?_
 have X := But.refl emp w
 refine W_seq (W_region ?_)
 refine LP_ev ok 0 [(4, .bool false)] 1 rfl rfl ?_
 refine LP_end _ rfl (W_seq (W_region ?_))
 refine LP_ev ok 0 [(5, sl a sx c), (6, I vx1)] 2 rfl rfl ?_
 refine LP_call 2 rfl rfl rfl cal_94 rfl (slices_Index_int_int_w _ _ _ H w r ex) ?_
 rintro _ wx ⟨r2, H, rfl, x⟩
 refine LP_ev ok 3 [(8, .bool (decide (r2 ≥ 0))), (4, .bool (decide (r2 ≥ 0)))] 5 rfl rfl ?_
 refine LP_end _ rfl (W_ret ?_)
 exact ⟨_, Ret_of [.bool (decide (r2 ≥ 0))] ⟨⟨rfl, rfl⟩, trivial⟩, _, H, rfl, (X.stepx x).ext⟩

theorem impl_isLeaf_w (g : Geo) (i : Int) (Q : Bool → Prop) (H : impl_isLeaf g i Q) (w : World) {vx : Value} {hx : PH} (r : RS hx vx g.Parents) (ex : Sub hx w) :
  CallsTo Try.prog 72 #[.agg #[vx], I i] w fun v w' => ∃ r0, Q r0 ∧ v = .bool r0 ∧ Ext w w' := by
 obtain ⟨a, c, rfl⟩ := r.shape
 refine enter (args := [.agg #[sl a g.Parents c], I i]) 10 Try.func72 rfl rfl rfl ?_
 refine W_forget [(0, .agg #[sl a g.Parents c]), (1, I i)] ⟨rfl, rfl, trivial⟩ fun ρ => ?_
 have X := But.refl emp w
 refine W_seq (W_region ?_)
 refine LP_box 0 (cs := [sl a g.Parents c]) rfl rfl rfl rfl rfl fun b wx x ex1 f => ?_
 refine LP_ev ok 1 [(4, .bool false)] 2 rfl rfl ?_
 refine LP_end _ rfl (W_seq (W_region ?_))
 refine LP_ev ok 0 [(5, pb b)] 1 rfl rfl ?_
 refine LP_ldbox 1 (v := sl a g.Parents c) rfl rfl rfl ti_22 ag_22 (fun _ => rfl) rfl ex1 rfl rfl ?_
 refine LP_ev ok 2 [(7, I i)] 3 rfl rfl ?_
 refine LP_call 3 rfl rfl rfl cal_84 rfl (slices_Contains_int_int_w _ _ _ H wx r (ex.ext x)) ?_
 rintro _ wx4 ⟨r2, H, rfl, x5⟩
 refine LP_ev ok 4 [(9, .bool (!r2)), (4, .bool (!r2))] 6 rfl rfl ?_
 refine LP_end _ rfl (W_ret ?_)
 exact ⟨_, Ret_of [.bool (!r2)] ⟨⟨rfl, rfl⟩, trivial⟩, _, H, rfl, (X.stepx (x.trans x5)).ext⟩

theorem impl_isSurvey_w (g : Geo) (sx : List Variable) (l : List Record) (Q : Bool → Prop) (H : impl_isSurvey g sx l Q) (w : World) {vx : Value} {hx : PH} (r : RS hx vx g.Parents) (ex : Sub hx w) {vx1 : Value} {hx2 : PH} (r3 : RS hx2 vx1 sx) (ex4 : Sub hx2 w) {vx7 : Value} {hx8 : PH} (r9 : RS hx8 vx7 l) (ex10 : Sub hx8 w) :
  CallsTo Try.prog 49 #[.agg #[vx], vx1, vx7] w fun v w' => ∃ r0, Q r0 ∧ v = .bool r0 ∧ Ext w w' := by
 obtain ⟨a, c, rfl⟩ := r.shape
 obtain ⟨a5, c6, rfl⟩ := r3.shape
 obtain ⟨a11, c12, rfl⟩ := r9.shape
 refine enter (args := [.agg #[sl a g.Parents c], sl a5 sx c6, sl a11 l c12]) 32 Try.func49 rfl rfl rfl ?_
 refine W_forget [(0, .agg #[sl a g.Parents c]), (1, sl a5 sx c6), (2, sl a11 l c12)] ⟨rfl, rfl, rfl, trivial⟩ fun ρ => ?_
 have X := But.refl emp w
 refine W_seq (W_region ?_)
 refine LP_box 0 (cs := [sl a g.Parents c]) rfl rfl rfl rfl rfl fun b wx x ex13 f => ?_
 refine LP_ev ok 1 [(6, .bool false)] 2 rfl rfl ?_
 refine LP_end _ rfl (W_seq ?_)
 refine W_seq (W_region ?_)
 refine LP_ev ok 0 [(9, sl a5 sx c6), (10, sl a11 l c12)] 2 rfl rfl ?_
 have ex16 := (ex10.ext x)
 refine LP_call 2 rfl rfl rfl cal_70 rfl (impl_isData_w _ _ _ H wx r3 (ex4.ext x) r9 ex16) ?_
 rintro _ wx17 ⟨r14, H, rfl, x18⟩
 refine LP_ev ok 3 [(12, .bool (!r14))] 4 rfl rfl ?_
 refine LP_end _ rfl ?_
 refine W_cond (!r14) rfl (fun hc => ?_) (fun hc => ?_)
 ·have H := H.1 hc
  refine W_seq (W_region ?_)
  refine LP_ev ok 0 [(6, .bool false)] 1 rfl rfl ?_
  refine LP_end _ rfl (W_ret ?_)
  exact ⟨_, Ret_of [.bool false] ⟨⟨rfl, rfl⟩, trivial⟩, _, H, rfl, (X.stepx (x.trans x18)).ext⟩
 have H := H.2 hc
 refine W_skip ?_
 refine W_seq ?_
 refine W_seq (W_region ?_)
 refine LP_ev ok 0 [(13, sl a11 l c12), (14, I (ln l)), (15, I 0)] 3 rfl rfl ?_
 refine LP_end _ rfl ?_
 refine W_block ?_
 have xc26 := (x.trans x18)
 obtain ⟨J, m, Hx, H⟩ := H
 refine W_loop (S := Int) (fun s ρ' w' => J s ∧ ∃ (ρ : Env), ρ' = setAll [(3, pb b), (13, sl a11 l c12), (14, I (ln l)), (15, I s)] ρ ∧ But emp w w' ∧ Sub hx w' ∧ Sub hx8 w' ∧ Sub (bx b 36 [sl a g.Parents c]) w') (fun s => m s) 0 ⟨Hx, _, env_eq ⟨rfl, rfl, rfl, rfl, trivial⟩, (X.stepx xc26), (ex.ext xc26), (ex16.ext x18), (ex13.ext x18)⟩ ?_
 rintro x20 _ wx21 ⟨Hi, ρ, rfl, X25, ex22, ex23, ex24⟩
 have H := H x20 Hi
 refine W_seq (W_region ?_)
 refine LP_ev ok 0 [(16, .bool (decide (x20 < (ln l))))] 1 rfl rfl ?_
 refine LP_end _ rfl (W_seq ?_)
 refine W_cond (decide (x20 < (ln l))) rfl (fun hc31 => ?_) (fun hc31 => ?_)
 ·have H := H.1 hc31
  refine W_skip ?_
  refine W_seq ?_
  refine W_block ?_
  refine W_seq (W_region ?_)
  obtain ⟨x32, hi, hx33, H⟩ := H
  refine LP_index 0 rfl rfl rfl Try.underlying62 ti_80 rfl rfl r9 hi hx33 fun a34 cs r35 d => ?_
  have d36 := d
  obtain ⟨u, rfl, r37⟩ := Record_rd d36
  obtain ⟨a38, c39, rfl⟩ := r37.shape
  refine LP_load 1 rfl rfl rfl ti_80 ag_80 rfl r35 d ex23 fun vx40 r41 => ?_
  obtain ⟨u42, rfl, r43⟩ := Record_rv r41
  obtain ⟨a44, c45, rfl⟩ := r43.shape
  refine LP_alloc 2 rfl rfl rfl ti_80 rfl fun b46 wx47 x48 ex49 f50 => ?_
  refine LP_stbox 3 (vs := [I x32.Area, I x32.House, sl a44 x32.Values c45]) (cs' := [I x32.Area, I x32.House, sl a44 x32.Values c45]) rfl rfl rfl ti_80 rfl rfl rfl rfl rfl ex49 rfl rfl fun wx51 ex52 y => ?_
  refine LP_end _ rfl ?_
  obtain ⟨k, hk, H⟩ := jn_elim H
  refine W_join2 (S := Bool) (fun s ρ' w' => k s ∧ ∃ (ρ : Env), ρ' = setAll [(3, pb b), (13, sl a11 l c12), (14, I (ln l)), (15, I x20), (30, .bool s)] ρ ∧ But emp w w' ∧ Sub hx w' ∧ Sub hx8 w' ∧ Sub (bx b 36 [sl a g.Parents c]) w') ?_ ?_
  ·refine W_region ?_
   have ex59 := ((ex24.ext x48).but y (Dj.of_fresh ex24 f50).symm)
   refine LP_ldbox 0 (v := .agg #[sl a g.Parents c]) rfl rfl rfl ti_36 ag_36 (fun h => by cases h) rfl ex59 rfl rfl ?_
   refine LP_ev ok 1 [(20, pb b46)] 2 rfl rfl ?_
   refine LP_ldbox 2 (v := I x32.Area) rfl rfl rfl ti_3 ag_3 (fun _ => rfl) rfl ex52 rfl rfl ?_
   have ex61 := ((ex22.ext x48).but y (Dj.of_fresh ex22 f50).symm)
   refine LP_call 3 rfl rfl rfl cal_71 rfl (impl_isArea_w _ _ _ H wx51 r ex61) ?_
   rintro _ wx62 ⟨r60, H, rfl, x63⟩
   refine LP_ev ok 4 [(23, .bool (!r60)), (24, .bool (!r60))] 6 rfl rfl ?_
   refine LP_split 24 (!r60) rfl (fun hc64 => ?_) (fun hc64 => ?_)
   ·have H := H.1 hc64
    refine LP_ev ok 6 [(25, undef), (26, undef), (27, undef), (28, undef), (29, undef), (30, .bool true)] 12 rfl rfl ?_
    refine LP_end _ rfl ?_
    have f65 := f50.mono X25.size
    exact ⟨true, H, _, env_eq ⟨rfl, rfl, rfl, rfl, rfl, trivial⟩, (((X25.stepx x48).step y (f65.dom _)).stepx x63), (ex61.ext x63), (((ex23.ext x48).but y (Dj.of_fresh ex23 f50).symm).ext x63), (ex59.ext x63)⟩
   have H := H.2 hc64
   have ex70 := (ex59.ext x63)
   refine LP_ldbox 6 (v := .agg #[sl a g.Parents c]) rfl rfl rfl ti_36 ag_36 (fun h => by cases h) rfl ex70 rfl rfl ?_
   refine LP_ev ok 7 [(26, pb b46)] 8 rfl rfl ?_
   refine LP_ldbox 8 (v := I x32.Area) rfl rfl rfl ti_3 ag_3 (fun _ => rfl) rfl (ex52.ext x63) rfl rfl ?_
   have ex73 := (ex61.ext x63)
   refine LP_call 9 rfl rfl rfl cal_72 rfl (impl_isLeaf_w _ _ _ H wx62 r ex73) ?_
   rintro _ wx74 ⟨r72, H, rfl, x75⟩
   refine LP_ev ok 10 [(29, .bool (!r72)), (30, .bool (!r72))] 12 rfl rfl ?_
   refine LP_end _ rfl ?_
   have f76 := f50.mono X25.size
   have xc77 := (x63.trans x75)
   exact ⟨!r72, H, _, env_eq ⟨rfl, rfl, rfl, rfl, rfl, trivial⟩, (((X25.stepx x48).step y (f76.dom _)).stepx xc77), (ex73.ext x75), (((ex23.ext x48).but y (Dj.of_fresh ex23 f50).symm).ext xc77), (ex70.ext x75)⟩
  rintro x53 _ wx54 ⟨H, ρ, rfl, X58, ex55, ex56, ex57⟩
  subst hk
  refine W_cond (x53) rfl (fun hc82 => ?_) (fun hc82 => ?_)
  ·have H := H.1 hc82
   refine W_seq (W_region ?_)
   refine LP_ev ok 0 [(6, .bool false)] 1 rfl rfl ?_
   refine LP_end _ rfl (W_ret ?_)
   exact ⟨_, Ret_of [.bool false] ⟨⟨rfl, rfl⟩, trivial⟩, _, H, rfl, X58.ext⟩
  have H := H.2 hc82
  refine W_skip ?_
  refine W_region ?_
  refine LP_ev ok 0 [(31, I (wr (x20 + 1))), (15, I (wr (x20 + 1)))] 2 rfl rfl ?_
  exact LP_end _ rfl ⟨wr (x20 + 1), ⟨H.1, _, env_eq ⟨rfl, rfl, rfl, rfl, trivial⟩, X58, ex55, ex56, ex57⟩, H.2⟩
 have H := H.2 hc31
 refine W_exit ?_
 refine (if_pos rfl).mpr ?_
 refine W_seq (W_region ?_)
 refine LP_ev ok 0 [(6, .bool true)] 1 rfl rfl ?_
 refine LP_end _ rfl (W_ret ?_)
 exact ⟨_, Ret_of [.bool true] ⟨⟨rfl, rfl⟩, trivial⟩, _, H, rfl, X25.ext⟩

theorem impl_ancestorAt_w (g : Geo) (i : Int) (level : Int) (Q : Int → Prop) (H : impl_ancestorAt g i level Q) (w : World) {vx : Value} {hx : PH} (r : RS hx vx g.Parents) (ex : Sub hx w) :
  CallsTo Try.prog 88 #[.agg #[vx], I i, I level] w fun v w' => ∃ r0, Q r0 ∧ v = I r0 ∧ Ext w w' := by
 obtain ⟨a, c, rfl⟩ := r.shape
 refine enter (args := [.agg #[sl a g.Parents c], I i, I level]) 29 Try.func88 rfl rfl rfl ?_
 refine W_forget [(0, .agg #[sl a g.Parents c]), (1, I i), (2, I level)] ⟨rfl, rfl, rfl, trivial⟩ fun ρ => ?_
 have X := But.refl emp w
 refine W_seq (W_region ?_)
 refine LP_box 0 (cs := [sl a g.Parents c]) rfl rfl rfl rfl rfl fun b wx x ex1 f => ?_
 refine LP_ev ok 1 [(6, I 0)] 2 rfl rfl ?_
 refine LP_end _ rfl (W_seq (W_region ?_))
 refine LP_ldbox 0 (v := .agg #[sl a g.Parents c]) rfl rfl rfl ti_36 ag_36 (fun h => by cases h) rfl ex1 rfl rfl ?_
 refine LP_ev ok 1 [(9, I i)] 2 rfl rfl ?_
 have ex3 := (ex.ext x)
 refine LP_call 2 rfl rfl rfl cal_95 rfl (impl_depthOf_w _ _ _ H wx r ex3) ?_
 rintro _ wx4 ⟨r2, H, rfl, x5⟩
 refine LP_ev ok 3 [(7, I r2)] 4 rfl rfl ?_
 refine LP_end _ rfl (W_seq ?_)
 obtain ⟨k, hk, H⟩ := jn_elim H
 refine W_join2 (S := Bool) (fun s ρ' w' => k s ∧ ∃ (ρ : Env), ρ' = setAll [(1, I i), (2, I level), (3, pb b), (7, I r2), (17, .bool s)] ρ ∧ wx4 = w') ?_ ?_
 ·refine W_region ?_
  refine LP_ev ok 0 [(11, I level), (12, .bool (decide (level < 0))), (13, .bool (decide (level < 0)))] 3 rfl rfl ?_
  refine LP_split 13 (decide (level < 0)) rfl (fun hc => ?_) (fun hc => ?_)
  ·have H := H.1 hc
   refine LP_ev ok 3 [(14, undef), (15, undef), (16, undef), (17, .bool true)] 7 rfl rfl ?_
   exact LP_end _ rfl ⟨true, H, _, env_eq ⟨rfl, rfl, rfl, rfl, rfl, trivial⟩, rfl⟩
  have H := H.2 hc
  refine LP_ev ok 3 [(14, I r2), (15, I level), (16, .bool (decide (r2 < level))), (17, .bool (decide (r2 < level)))] 7 rfl rfl ?_
  exact LP_end _ rfl ⟨decide (r2 < level), H, _, env_eq ⟨rfl, rfl, rfl, rfl, rfl, trivial⟩, rfl⟩
 rintro x6 _ _ ⟨H, ρ, rfl, rfl⟩
 subst hk
 refine W_cond (x6) rfl (fun hc8 => ?_) (fun hc8 => ?_)
 ·have H := H.1 hc8
  refine W_seq (W_region ?_)
  refine LP_ev ok 0 [(6, I ((-1)))] 1 rfl rfl ?_
  refine LP_end _ rfl (W_ret ?_)
  exact ⟨_, Ret_of [I ((-1))] ⟨⟨rfl, rfl⟩, trivial⟩, _, H, rfl, (X.stepx (x.trans x5)).ext⟩
 have H := H.2 hc8
 refine W_skip ?_
 refine W_seq ?_
 refine W_block ?_
 obtain ⟨J, m, Hx, H⟩ := H
 refine W_loop (S := Int × Int) (fun s ρ' w' => J s.1 s.2 ∧ ∃ (ρ : Env), ρ' = setAll [(1, I s.1), (2, I level), (3, pb b), (7, I s.2)] ρ ∧ wx4 = w') (fun s => m s.1 s.2) (i, r2) ⟨Hx, _, env_eq ⟨rfl, rfl, rfl, rfl, trivial⟩, rfl⟩ ?_
 rintro ⟨i10, d⟩ _ _ ⟨Hi, ρ, rfl, rfl⟩
 have H := H i10 d Hi
 refine W_seq ?_
 refine W_seq (W_region ?_)
 refine LP_ev ok 0 [(18, I d), (19, I level), (20, .bool (decide (d > level)))] 3 rfl rfl ?_
 refine LP_end _ rfl ?_
 refine W_cond (decide (d > level)) rfl (fun hc12 => ?_) (fun hc12 => ?_)
 ·have H := H.1 hc12
  refine W_skip ?_
  refine W_seq ?_
  refine W_block ?_
  refine W_region ?_
  refine LP_ev ok 0 [(23, pb b)] 1 rfl rfl ?_
  refine LP_ldbox 1 (v := sl a g.Parents c) rfl rfl rfl ti_22 ag_22 (fun _ => rfl) rfl (ex1.ext x5) rfl rfl ?_
  refine LP_ev ok 2 [(25, I i10)] 3 rfl rfl ?_
  obtain ⟨x14, hi, hx15, H⟩ := H
  refine LP_index 3 rfl rfl rfl Try.underlying22 ti_3 rfl rfl r hi hx15 fun a16 cs r17 d18 => ?_
  refine LP_load 4 rfl rfl rfl ti_3 ag_3 rfl r17 d18 (ex3.ext x5) fun vx20 r21 => ?_
  obtain rfl := r21.int
  refine LP_ev ok 5 [(1, I x14)] 6 rfl rfl ?_
  refine LP_end _ rfl ?_
  refine W_region ?_
  refine LP_ev ok 0 [(21, I d), (22, I (wr (d - 1))), (7, I (wr (d - 1)))] 3 rfl rfl ?_
  exact LP_end _ rfl ⟨(x14, wr (d - 1)), ⟨H.1, _, env_eq ⟨rfl, rfl, rfl, rfl, trivial⟩, rfl⟩, H.2⟩
 have H := H.2 hc12
 refine W_exit ?_
 refine (if_pos rfl).mpr ?_
 refine W_seq (W_region ?_)
 refine LP_ev ok 0 [(28, I i10), (6, I i10)] 2 rfl rfl ?_
 refine LP_end _ rfl (W_ret ?_)
 exact ⟨_, Ret_of [I i10] ⟨⟨rfl, rfl⟩, trivial⟩, _, H, rfl, (X.stepx (x.trans x5)).ext⟩

theorem impl_meetsWhere_w (t : Table) (r7 : Record) (Q : Bool → Prop) (H : impl_meetsWhere t r7 Q) (w : World) {vx : Value} {hx : PH} (r : RS hx vx t.Vars) (ex : Sub hx w) {vx1 : Value} {hx2 : PH} (r3 : RS hx2 vx1 t.Where) (ex4 : Sub hx2 w) {vx8 : Value} {hx9 : PH} (r10 : RS hx9 vx8 r7.Values) (ex11 : Sub hx9 w) :
  CallsTo Try.prog 89 #[.agg #[I t.Level, vx, vx1, I t.Sum], .agg #[I r7.Area, I r7.House, vx8]] w fun v w' => ∃ r0, Q r0 ∧ v = .bool r0 ∧ Ext w w' := by
 obtain ⟨a, c, rfl⟩ := r.shape
 obtain ⟨a5, c6, rfl⟩ := r3.shape
 obtain ⟨a12, c13, rfl⟩ := r10.shape
 refine enter (args := [.agg #[I t.Level, sl a t.Vars c, sl a5 t.Where c6, I t.Sum], .agg #[I r7.Area, I r7.House, sl a12 r7.Values c13]]) 29 Try.func89 rfl rfl rfl ?_
 refine W_forget [(0, .agg #[I t.Level, sl a t.Vars c, sl a5 t.Where c6, I t.Sum]), (1, .agg #[I r7.Area, I r7.House, sl a12 r7.Values c13])] ⟨rfl, rfl, trivial⟩ fun ρ => ?_
 have X := But.refl emp w
 refine W_seq (W_region ?_)
 refine LP_box 0 (cs := [I t.Level, sl a t.Vars c, sl a5 t.Where c6, I t.Sum]) rfl rfl rfl rfl rfl fun b wx x ex14 f => ?_
 refine LP_box 1 (cs := [I r7.Area, I r7.House, sl a12 r7.Values c13]) rfl rfl rfl rfl rfl fun b15 wx16 x17 ex18 f19 => ?_
 refine LP_ev ok 2 [(4, .bool false)] 3 rfl rfl ?_
 refine LP_end _ rfl (W_seq ?_)
 refine W_seq (W_region ?_)
 refine LP_ev ok 0 [(7, .pointer (some ⟨b, 2, none⟩))] 1 rfl rfl ?_
 refine LP_ldbox 1 (v := sl a5 t.Where c6) rfl rfl rfl ti_22 ag_22 (fun _ => rfl) rfl (ex14.ext x17) rfl rfl ?_
 refine LP_ev ok 2 [(9, I (ln t.Where)), (10, I 0)] 4 rfl rfl ?_
 refine LP_end _ rfl ?_
 refine W_block ?_
 obtain ⟨J, m, Hx, H⟩ := H
 refine W_loop (S := Int) (fun s ρ' w' => J s ∧ ∃ (ρ : Env), ρ' = setAll [(3, pb b15), (8, sl a5 t.Where c6), (9, I (ln t.Where)), (10, I s)] ρ ∧ wx16 = w') (fun s => m s) 0 ⟨Hx, _, env_eq ⟨rfl, rfl, rfl, rfl, trivial⟩, rfl⟩ ?_
 rintro x21 _ _ ⟨Hi, ρ, rfl, rfl⟩
 have H := H x21 Hi
 refine W_seq (W_region ?_)
 refine LP_ev ok 0 [(11, .bool (decide (x21 < (ln t.Where))))] 1 rfl rfl ?_
 refine LP_end _ rfl (W_seq ?_)
 refine W_cond (decide (x21 < (ln t.Where))) rfl (fun hc => ?_) (fun hc => ?_)
 ·have H := H.1 hc
  refine W_skip ?_
  refine W_seq ?_
  refine W_block ?_
  refine W_seq (W_region ?_)
  refine LP_ev ok 0 [(12, I x21)] 1 rfl rfl ?_
  obtain ⟨x23, hi, hx24, H⟩ := H
  refine LP_index 1 rfl rfl rfl Try.underlying22 ti_3 rfl rfl r3 hi hx24 fun a25 cs r26 d => ?_
  have xc := (x.trans x17)
  refine LP_load 2 rfl rfl rfl ti_3 ag_3 rfl r26 d (ex4.ext xc) fun vx28 r29 => ?_
  obtain rfl := r29.int
  refine LP_ev ok 3 [(5, I x21), (6, I x23)] 5 rfl rfl ?_
  refine LP_end _ rfl ?_
  obtain ⟨k, hk, H⟩ := jn_elim H
  refine W_join2 (S := Bool) (fun s ρ' w' => k s ∧ ∃ (ρ : Env), ρ' = setAll [(3, pb b15), (8, sl a5 t.Where c6), (9, I (ln t.Where)), (10, I x21), (27, .bool s)] ρ ∧ wx16 = w') ?_ ?_
  ·refine W_region ?_
   refine LP_ev ok 0 [(15, I x23), (16, .bool (x23 != 0)), (17, .bool (x23 != 0))] 3 rfl rfl ?_
   refine LP_split 17 (x23 != 0) rfl (fun hc32 => ?_) (fun hc32 => ?_)
   ·have H := H.1 hc32
    refine LP_ev ok 3 [(18, I x23), (19, .pointer (some ⟨b15, 2, none⟩))] 5 rfl rfl ?_
    refine LP_ldbox 5 (v := sl a12 r7.Values c13) rfl rfl rfl ti_22 ag_22 (fun _ => rfl) rfl ex18 rfl rfl ?_
    refine LP_ev ok 6 [(21, I x21)] 7 rfl rfl ?_
    obtain ⟨x33, hi34, hx35, H⟩ := H
    refine LP_index 7 rfl rfl rfl Try.underlying22 ti_3 rfl rfl r10 hi34 hx35 fun a36 cs37 r38 d39 => ?_
    refine LP_load 8 rfl rfl rfl ti_3 ag_3 rfl r38 d39 (ex11.ext xc) fun vx41 r42 => ?_
    obtain rfl := r42.int
    obtain ⟨hz, H⟩ := H
    refine LP_val 9 _ rfl rfl (ex_shr rfl rfl rfl hz _) ?_
    refine LP_ev ok 10 [(25, I (bits .and .i64 (shr .i64 x23 x33) 1)), (26, .bool ((bits .and .i64 (shr .i64 x23 x33) 1) == 0)), (27, .bool ((bits .and .i64 (shr .i64 x23 x33) 1) == 0))] 13 rfl rfl ?_
    exact LP_end _ rfl ⟨(bits .and .i64 (shr .i64 x23 x33) 1) == 0, H, _, env_eq ⟨rfl, rfl, rfl, rfl, rfl, trivial⟩, rfl⟩
   have H := H.2 hc32
   refine LP_ev ok 3 [(18, undef), (19, undef), (20, undef), (21, undef), (22, undef), (23, undef), (24, undef), (25, undef), (26, undef), (27, .bool false)] 13 rfl rfl ?_
   exact LP_end _ rfl ⟨false, H, _, env_eq ⟨rfl, rfl, rfl, rfl, rfl, trivial⟩, rfl⟩
  rintro x30 _ _ ⟨H, ρ, rfl, rfl⟩
  subst hk
  refine W_cond (x30) rfl (fun hc43 => ?_) (fun hc43 => ?_)
  ·have H := H.1 hc43
   refine W_seq (W_region ?_)
   refine LP_ev ok 0 [(4, .bool false)] 1 rfl rfl ?_
   refine LP_end _ rfl (W_ret ?_)
   exact ⟨_, Ret_of [.bool false] ⟨⟨rfl, rfl⟩, trivial⟩, _, H, rfl, (X.stepx xc).ext⟩
  have H := H.2 hc43
  refine W_skip ?_
  refine W_region ?_
  refine LP_ev ok 0 [(28, I (wr (x21 + 1))), (10, I (wr (x21 + 1)))] 2 rfl rfl ?_
  exact LP_end _ rfl ⟨wr (x21 + 1), ⟨H.1, _, env_eq ⟨rfl, rfl, rfl, rfl, trivial⟩, rfl⟩, H.2⟩
 have H := H.2 hc
 refine W_exit ?_
 refine (if_pos rfl).mpr ?_
 refine W_seq (W_region ?_)
 refine LP_ev ok 0 [(4, .bool true)] 1 rfl rfl ?_
 refine LP_end _ rfl (W_ret ?_)
 exact ⟨_, Ret_of [.bool true] ⟨⟨rfl, rfl⟩, trivial⟩, _, H, rfl, (X.stepx (x.trans x17)).ext⟩

theorem cmp_isNaN_int_w (x : Int) (Q : Bool → Prop) (H : cmp_isNaN_int x Q) (w : World)  :
  CallsTo Try.prog 101 #[I x] w fun v w' => ∃ r0, Q r0 ∧ v = .bool r0 ∧ Ext w w' := by
 refine enter (args := [I x]) 6 Try.func101 rfl rfl rfl ?_
 refine W_forget [(0, I x)] ⟨rfl, trivial⟩ fun ρ => ?_
 have X := But.refl emp w
 refine W_seq (W_region ?_)
 refine LP_ev ok 0 [(2, .bool false)] 1 rfl rfl ?_
 refine LP_end _ rfl (W_seq (W_region ?_))
 refine LP_ev ok 0 [(3, I x), (4, I x), (5, .bool (x != x)), (2, .bool (x != x))] 4 rfl rfl ?_
 refine LP_end _ rfl (W_ret ?_)
 exact ⟨_, Ret_of [.bool (x != x)] ⟨⟨rfl, rfl⟩, trivial⟩, _, H, rfl, X.ext⟩

theorem cmp_Less_int_w (x : Int) (y : Int) (Q : Bool → Prop) (H : cmp_Less_int x y Q) (w : World)  :
  CallsTo Try.prog 99 #[I x, I y] w fun v w' => ∃ r0, Q r0 ∧ v = .bool r0 ∧ Ext w w' := by
 refine enter (args := [I x, I y]) 17 Try.func99 rfl rfl rfl ?_
 refine W_forget [(0, I x), (1, I y)] ⟨rfl, rfl, trivial⟩ fun ρ => ?_
 have X := But.refl emp w
 refine W_seq (W_region ?_)
 refine LP_ev ok 0 [(4, .bool false)] 1 rfl rfl ?_
 refine LP_end _ rfl ?_
 obtain ⟨k, hk, H⟩ := jn_elim H
 refine W_join2 (S := Bool) (fun s ρ' w' => k s ∧ ∃ (ρ : Env), ρ' = setAll [(4, .bool s)] ρ ∧ But emp w w') ?_ ?_
 ·refine W_region ?_
  refine LP_ev ok 0 [(5, I x)] 1 rfl rfl ?_
  refine LP_call 1 rfl rfl rfl cal_101 rfl (cmp_isNaN_int_w _ _ H w ) ?_
  rintro _ wx3 ⟨r, H, rfl, x4⟩
  refine LP_ev ok 2 [(7, .bool r)] 3 rfl rfl ?_
  refine LP_split 7 (r) rfl (fun hc => ?_) (fun hc => ?_)
  ·have H := H.1 hc
   refine LP_ev ok 3 [(8, I y)] 4 rfl rfl ?_
   refine LP_call 4 rfl rfl rfl cal_101 rfl (cmp_isNaN_int_w _ _ H wx3 ) ?_
   rintro _ wx6 ⟨r5, H, rfl, x7⟩
   refine LP_ev ok 5 [(10, .bool (!r5)), (11, .bool (!r5)), (12, .bool (!r5))] 8 rfl rfl ?_
   refine LP_split 12 (!r5) rfl (fun hc8 => ?_) (fun hc8 => ?_)
   ·have H := H.1 hc8
    refine LP_ev ok 8 [(13, undef), (14, undef), (15, undef), (16, .bool true), (4, .bool true)] 13 rfl rfl ?_
    exact LP_end _ rfl ⟨true, H, _, env_eq ⟨rfl, trivial⟩, (X.stepx (x4.trans x7))⟩
   have H := H.2 hc8
   refine LP_ev ok 8 [(13, I x), (14, I y), (15, .bool (decide (x < y))), (16, .bool (decide (x < y))), (4, .bool (decide (x < y)))] 13 rfl rfl ?_
   exact LP_end _ rfl ⟨decide (x < y), H, _, env_eq ⟨rfl, trivial⟩, (X.stepx (x4.trans x7))⟩
  have H := H.2 hc
  refine LP_ev ok 3 [(8, undef), (9, undef), (10, undef), (11, .bool false), (12, .bool false), (13, I x), (14, I y), (15, .bool (decide (x < y))), (16, .bool (decide (x < y))), (4, .bool (decide (x < y)))] 13 rfl rfl ?_
  exact LP_end _ rfl ⟨decide (x < y), H, _, env_eq ⟨rfl, trivial⟩, (X.stepx x4)⟩
 rintro x1 _ wx ⟨H, ρ, rfl, X2⟩
 subst hk
 refine W_ret ?_
 exact ⟨_, Ret_of [.bool x1] ⟨⟨rfl, rfl⟩, trivial⟩, _, H, rfl, X2.ext⟩

theorem slices_isNaN_int_w (x : Int) (Q : Bool → Prop) (H : slices_isNaN_int x Q) (w : World)  :
  CallsTo Try.prog 100 #[I x] w fun v w' => ∃ r0, Q r0 ∧ v = .bool r0 ∧ Ext w w' := by
 refine enter (args := [I x]) 6 Try.func100 rfl rfl rfl ?_
 refine W_forget [(0, I x)] ⟨rfl, trivial⟩ fun ρ => ?_
 have X := But.refl emp w
 refine W_seq (W_region ?_)
 refine LP_ev ok 0 [(2, .bool false)] 1 rfl rfl ?_
 refine LP_end _ rfl (W_seq (W_region ?_))
 refine LP_ev ok 0 [(3, I x), (4, I x), (5, .bool (x != x)), (2, .bool (x != x))] 4 rfl rfl ?_
 refine LP_end _ rfl (W_ret ?_)
 exact ⟨_, Ret_of [.bool (x != x)] ⟨⟨rfl, rfl⟩, trivial⟩, _, H, rfl, X.ext⟩

theorem slices_BinarySearch_int_int_w (x : List Int) (target : Int) (Q : Int → Bool → Prop) (H : slices_BinarySearch_int_int x target Q) (w : World) {vx : Value} {hx : PH} (r : RS hx vx x) (ex : Sub hx w) :
  CallsTo Try.prog 96 #[vx, I target] w fun v w' => ∃ r0 r1, Q r0 r1 ∧ v = .tuple #[I r0, .bool r1] ∧ Ext w w' := by
 obtain ⟨a, c, rfl⟩ := r.shape
 refine enter (args := [sl a x c, I target]) 54 Try.func96 rfl rfl rfl ?_
 refine W_forget [(0, sl a x c), (1, I target)] ⟨rfl, rfl, trivial⟩ fun ρ => ?_
 have X := But.refl emp w
 refine W_seq (W_region ?_)
 refine LP_ev ok 0 [(4, I 0), (5, .bool false)] 2 rfl rfl ?_
 refine LP_end _ rfl (W_seq (W_region ?_))
 refine LP_ev ok 0 [(10, sl a x c), (11, I (ln x)), (6, I (ln x))] 3 rfl rfl ?_
 refine LP_end _ rfl (W_seq (W_region ?_))
 refine LP_ev ok 0 [(12, I (ln x)), (7, I 0), (8, I (ln x))] 3 rfl rfl ?_
 refine LP_end _ rfl (W_seq ?_)
 refine W_block ?_
 obtain ⟨J, m, Hx, H⟩ := H
 refine W_loop (S := Int × Int) (fun s ρ' w' => J s.1 s.2 ∧ ∃ (ρ : Env), ρ' = setAll [(0, sl a x c), (1, I target), (6, I (ln x)), (7, I s.1), (8, I s.2)] ρ ∧ But emp w w' ∧ Sub hx w') (fun s => m s.1 s.2) (0, ln x) ⟨Hx, _, env_eq ⟨rfl, rfl, rfl, rfl, rfl, trivial⟩, X, ex⟩ ?_
 rintro ⟨i, j⟩ _ wx ⟨Hi, ρ, rfl, X2, ex1⟩
 have H := H i j Hi
 refine W_seq ?_
 refine W_seq (W_region ?_)
 refine LP_ev ok 0 [(13, I i), (14, I j), (15, .bool (decide (i < j)))] 3 rfl rfl ?_
 refine LP_end _ rfl ?_
 refine W_cond (decide (i < j)) rfl (fun hc => ?_) (fun hc => ?_)
 ·have H := H.1 hc
  refine W_skip ?_
  refine W_block ?_
  refine W_seq (W_region ?_)
  refine LP_ev ok 0 [(16, I i), (17, I j), (18, I (wr (i + j))), (19, .int .u64 (IntKind.u64.wrap (wr (i + j)))), (20, .int .u64 (Int.fdiv (IntKind.u64.wrap (wr (i + j))) (2 ^ 1))), (21, I (wr (Int.fdiv (IntKind.u64.wrap (wr (i + j))) (2 ^ 1)))), (9, I (wr (Int.fdiv (IntKind.u64.wrap (wr (i + j))) (2 ^ 1))))] 7 rfl rfl ?_
  refine LP_end _ rfl (W_seq (W_region ?_))
  refine LP_ev ok 0 [(22, sl a x c), (23, I (wr (Int.fdiv (IntKind.u64.wrap (wr (i + j))) (2 ^ 1))))] 2 rfl rfl ?_
  obtain ⟨x3, hi, hx4, H⟩ := H
  refine LP_index 2 rfl rfl rfl Try.underlying22 ti_3 rfl rfl r hi hx4 fun a5 cs r6 d => ?_
  refine LP_load 3 rfl rfl rfl ti_3 ag_3 rfl r6 d ex1 fun vx7 r8 => ?_
  obtain rfl := r8.int
  refine LP_ev ok 4 [(26, I target)] 5 rfl rfl ?_
  refine LP_call 5 rfl rfl rfl cal_99 rfl (cmp_Less_int_w _ _ _ H wx ) ?_
  rintro _ wx10 ⟨r9, H, rfl, x11⟩
  refine LP_end _ rfl ?_
  refine W_cond (r9) rfl (fun hc12 => ?_) (fun hc12 => ?_)
  ·have H := H.1 hc12
   refine W_region ?_
   refine LP_ev ok 0 [(28, I (wr (Int.fdiv (IntKind.u64.wrap (wr (i + j))) (2 ^ 1)))), (29, I (wr ((wr (Int.fdiv (IntKind.u64.wrap (wr (i + j))) (2 ^ 1))) + 1))), (7, I (wr ((wr (Int.fdiv (IntKind.u64.wrap (wr (i + j))) (2 ^ 1))) + 1)))] 3 rfl rfl ?_
   exact LP_end _ rfl ⟨(wr ((wr (Int.fdiv (IntKind.u64.wrap (wr (i + j))) (2 ^ 1))) + 1), j), ⟨H.1, _, env_eq ⟨rfl, rfl, rfl, rfl, rfl, trivial⟩, (X2.stepx x11), (ex1.ext x11)⟩, H.2⟩
  have H := H.2 hc12
  refine W_region ?_
  refine LP_ev ok 0 [(30, I (wr (Int.fdiv (IntKind.u64.wrap (wr (i + j))) (2 ^ 1)))), (8, I (wr (Int.fdiv (IntKind.u64.wrap (wr (i + j))) (2 ^ 1))))] 2 rfl rfl ?_
  exact LP_end _ rfl ⟨(i, wr (Int.fdiv (IntKind.u64.wrap (wr (i + j))) (2 ^ 1))), ⟨H.1, _, env_eq ⟨rfl, rfl, rfl, rfl, rfl, trivial⟩, (X2.stepx x11), (ex1.ext x11)⟩, H.2⟩
 have H := H.2 hc
 refine W_exit ?_
 refine (if_pos rfl).mpr ?_
 obtain ⟨k, hk, H⟩ := jn_elim H
 refine W_join2 (S := Int × Bool) (fun s ρ' w' => k s.1 s.2 ∧ ∃ (ρ : Env), ρ' = setAll [(4, I s.1), (5, .bool s.2)] ρ ∧ But emp w w') ?_ ?_
 ·refine W_region ?_
  refine LP_ev ok 0 [(31, I i), (32, I i), (33, I (ln x)), (34, .bool (decide (i < (ln x)))), (35, .bool (decide (i < (ln x))))] 5 rfl rfl ?_
  refine LP_split 35 (decide (i < (ln x))) rfl (fun hc21 => ?_) (fun hc21 => ?_)
  ·have H := H.1 hc21
   refine LP_ev ok 5 [(36, sl a x c), (37, I i)] 7 rfl rfl ?_
   obtain ⟨x22, hi23, hx24, H⟩ := H
   refine LP_index 7 rfl rfl rfl Try.underlying22 ti_3 rfl rfl r hi23 hx24 fun a25 cs26 r27 d28 => ?_
   refine LP_load 8 rfl rfl rfl ti_3 ag_3 rfl r27 d28 ex1 fun vx29 r30 => ?_
   obtain rfl := r30.int
   refine LP_ev ok 9 [(40, I target), (41, .bool (x22 == target)), (42, .bool (x22 == target))] 12 rfl rfl ?_
   refine LP_split 42 (x22 == target) rfl (fun hc31 => ?_) (fun hc31 => ?_)
   ·have H := H.1 hc31
    refine LP_ev ok 12 [(43, undef), (44, undef), (45, undef), (46, undef), (47, undef), (48, undef), (49, undef), (50, undef), (51, undef), (52, .bool true), (53, .bool true), (4, I i), (5, .bool true)] 25 rfl rfl ?_
    refine LP_end _ rfl ?_
    try refine W_forget [(4, I i), (5, .bool true)] ⟨rfl, rfl, trivial⟩ fun ρ => ?_
    exact ⟨(i, true), H, _, env_eq ⟨rfl, rfl, trivial⟩, X2⟩
   have H := H.2 hc31
   refine LP_ev ok 12 [(43, sl a x c), (44, I i)] 14 rfl rfl ?_
   obtain ⟨x32, hi33, hx34, H⟩ := H
   refine LP_index 14 rfl rfl rfl Try.underlying22 ti_3 rfl rfl r hi33 hx34 fun a35 cs36 r37 d38 => ?_
   refine LP_load 15 rfl rfl rfl ti_3 ag_3 rfl r37 d38 ex1 fun vx39 r40 => ?_
   obtain rfl := r40.int
   refine LP_call 16 rfl rfl rfl cal_100 rfl (slices_isNaN_int_w _ _ H wx ) ?_
   rintro _ wx42 ⟨r41, H, rfl, x43⟩
   refine LP_ev ok 17 [(48, .bool r41)] 18 rfl rfl ?_
   refine LP_split 48 (r41) rfl (fun hc44 => ?_) (fun hc44 => ?_)
   ·have H := H.1 hc44
    refine LP_ev ok 18 [(49, I target)] 19 rfl rfl ?_
    refine LP_call 19 rfl rfl rfl cal_100 rfl (slices_isNaN_int_w _ _ H wx42 ) ?_
    rintro _ wx46 ⟨r45, H, rfl, x47⟩
    refine LP_ev ok 20 [(51, .bool r45), (52, .bool r45), (53, .bool r45), (4, I i), (5, .bool r45)] 25 rfl rfl ?_
    refine LP_end _ rfl ?_
    try refine W_forget [(4, I i), (5, .bool r45)] ⟨rfl, rfl, trivial⟩ fun ρ => ?_
    exact ⟨(i, r45), H, _, env_eq ⟨rfl, rfl, trivial⟩, (X2.stepx (x43.trans x47))⟩
   have H := H.2 hc44
   refine LP_ev ok 18 [(49, undef), (50, undef), (51, .bool false), (52, .bool false), (53, .bool false), (4, I i), (5, .bool false)] 25 rfl rfl ?_
   refine LP_end _ rfl ?_
   try refine W_forget [(4, I i), (5, .bool false)] ⟨rfl, rfl, trivial⟩ fun ρ => ?_
   exact ⟨(i, false), H, _, env_eq ⟨rfl, rfl, trivial⟩, (X2.stepx x43)⟩
  have H := H.2 hc21
  refine LP_ev ok 5 [(36, undef), (37, undef), (38, undef), (39, undef), (40, undef), (41, undef), (42, undef), (43, undef), (44, undef), (45, undef), (46, undef), (47, undef), (48, undef), (49, undef), (50, undef), (51, undef), (52, undef), (53, .bool false), (4, I i), (5, .bool false)] 25 rfl rfl ?_
  refine LP_end _ rfl ?_
  try refine W_forget [(4, I i), (5, .bool false)] ⟨rfl, rfl, trivial⟩ fun ρ => ?_
  exact ⟨(i, false), H, _, env_eq ⟨rfl, rfl, trivial⟩, X2⟩
 rintro ⟨x17, x18⟩ _ wx19 ⟨H, ρ, rfl, X20⟩
 subst hk
 refine W_ret ?_
 exact ⟨_, Ret_of [I x17, .bool x18] ⟨⟨rfl, rfl⟩, ⟨rfl, rfl⟩, trivial⟩, _, _, H, rfl, X20.ext⟩

theorem impl_indexOfValues_w (sx : List Variable) (values : List Int) (Q : Int → Prop) (H : impl_indexOfValues sx values Q) (w : World) {vx : Value} {hx : PH} (r : RS hx vx sx) (ex : Sub hx w) {vx1 : Value} {hx2 : PH} (r3 : RS hx2 vx1 values) (ex4 : Sub hx2 w) :
  CallsTo Try.prog 97 #[vx, vx1] w fun v w' => ∃ r0, Q r0 ∧ v = I r0 ∧ Ext w w' := by
 obtain ⟨a, c, rfl⟩ := r.shape
 obtain ⟨a5, c6, rfl⟩ := r3.shape
 refine enter (args := [sl a sx c, sl a5 values c6]) 26 Try.func97 rfl rfl rfl ?_
 refine W_forget [(0, sl a sx c), (1, sl a5 values c6)] ⟨rfl, rfl, trivial⟩ fun ρ => ?_
 have X := But.refl emp w
 refine W_seq (W_region ?_)
 refine LP_ev ok 0 [(4, I 0)] 1 rfl rfl ?_
 refine LP_end _ rfl (W_seq (W_region ?_))
 refine LP_ev ok 0 [(5, I 0)] 1 rfl rfl ?_
 refine LP_end _ rfl (W_seq ?_)
 refine W_seq (W_region ?_)
 refine LP_ev ok 0 [(8, sl a5 values c6), (9, I (ln values)), (10, I 0)] 3 rfl rfl ?_
 refine LP_end _ rfl ?_
 refine W_block ?_
 obtain ⟨J, m, Hx, H⟩ := H
 refine W_loop (S := Int × Int) (fun s ρ' w' => J s.1 s.2 ∧ ∃ (ρ : Env), ρ' = setAll [(0, sl a sx c), (5, I s.1), (8, sl a5 values c6), (9, I (ln values)), (10, I s.2)] ρ ∧ w = w') (fun s => m s.1 s.2) (0, 0) ⟨Hx, _, env_eq ⟨rfl, rfl, rfl, rfl, rfl, trivial⟩, rfl⟩ ?_
 rintro ⟨i, x⟩ _ _ ⟨Hi, ρ, rfl, rfl⟩
 have H := H i x Hi
 refine W_seq (W_region ?_)
 refine LP_ev ok 0 [(11, .bool (decide (x < (ln values))))] 1 rfl rfl ?_
 refine LP_end _ rfl (W_seq ?_)
 refine W_cond (decide (x < (ln values))) rfl (fun hc => ?_) (fun hc => ?_)
 ·have H := H.1 hc
  refine W_skip ?_
  refine W_seq ?_
  refine W_block ?_
  refine W_seq (W_region ?_)
  refine LP_ev ok 0 [(12, I x)] 1 rfl rfl ?_
  obtain ⟨x7, hi, hx8, H⟩ := H
  refine LP_index 1 rfl rfl rfl Try.underlying22 ti_3 rfl rfl r3 hi hx8 fun a9 cs r10 d => ?_
  refine LP_load 2 rfl rfl rfl ti_3 ag_3 rfl r10 d ex4 fun vx11 r12 => ?_
  obtain rfl := r12.int
  refine LP_ev ok 3 [(6, I x), (7, I x7)] 5 rfl rfl ?_
  refine LP_end _ rfl ?_
  refine W_region ?_
  refine LP_ev ok 0 [(15, I i), (16, sl a sx c), (17, I x)] 3 rfl rfl ?_
  obtain ⟨x13, hi14, hx15, H⟩ := H
  refine LP_index 3 rfl rfl rfl Try.underlying38 ti_65 rfl rfl r hi14 hx15 fun a16 cs17 r18 d19 => ?_
  refine LP_ev ok 4 [(19, .pointer (some (Addr.add a16 1)))] 5 rfl rfl ?_
  refine LP_ldfld (x := x13) (off := 1) 5 (v := I x13.Levels) rfl rfl rfl ti_3 ag_3 (fun _ => rfl) rfl r18 d19 ex rfl rfl ?_
  refine LP_ev ok 6 [(21, I (wr (i * x13.Levels))), (22, I x7), (23, I (wr ((wr (i * x13.Levels)) + x7))), (5, I (wr ((wr (i * x13.Levels)) + x7)))] 10 rfl rfl ?_
  refine LP_end _ rfl ?_
  refine W_region ?_
  refine LP_ev ok 0 [(24, I (wr (x + 1))), (10, I (wr (x + 1)))] 2 rfl rfl ?_
  exact LP_end _ rfl ⟨(wr ((wr (i * x13.Levels)) + x7), wr (x + 1)), ⟨H.1, _, env_eq ⟨rfl, rfl, rfl, rfl, rfl, trivial⟩, rfl⟩, H.2⟩
 have H := H.2 hc
 refine W_exit ?_
 refine (if_pos rfl).mpr ?_
 refine W_seq (W_region ?_)
 refine LP_ev ok 0 [(25, I i), (4, I i)] 2 rfl rfl ?_
 refine LP_end _ rfl (W_ret ?_)
 exact ⟨_, Ret_of [I i] ⟨⟨rfl, rfl⟩, trivial⟩, _, H, rfl, X.ext⟩

theorem impl_cellIndex_w (g : Geo) (sx : List Variable) (t : Table) (area : Int) (values : List Int) (Q : Int → Prop) (H : impl_cellIndex g sx t area values Q) (w : World) {vx : Value} {hx : PH} (r : RS hx vx g.Parents) (ex : Sub hx w) {vx1 : Value} {hx2 : PH} (r3 : RS hx2 vx1 sx) (ex4 : Sub hx2 w) {vx7 : Value} {hx8 : PH} (r9 : RS hx8 vx7 t.Vars) (ex10 : Sub hx8 w) {vx13 : Value} {hx14 : PH} (r15 : RS hx14 vx13 t.Where) (ex16 : Sub hx14 w) {vx19 : Value} {hx20 : PH} (r21 : RS hx20 vx19 values) (ex22 : Sub hx20 w) :
  CallsTo Try.prog 90 #[.agg #[vx], vx1, .agg #[I t.Level, vx7, vx13, I t.Sum], I area, vx19] w fun v w' => ∃ r0, Q r0 ∧ v = I r0 ∧ Ext w w' := by
 obtain ⟨a, c, rfl⟩ := r.shape
 obtain ⟨a5, c6, rfl⟩ := r3.shape
 obtain ⟨a11, c12, rfl⟩ := r9.shape
 obtain ⟨a17, c18, rfl⟩ := r15.shape
 obtain ⟨a23, c24, rfl⟩ := r21.shape
 refine enter (args := [.agg #[sl a g.Parents c], sl a5 sx c6, .agg #[I t.Level, sl a11 t.Vars c12, sl a17 t.Where c18, I t.Sum], I area, sl a23 values c24]) 36 Try.func90 rfl rfl rfl ?_
 refine W_forget [(0, .agg #[sl a g.Parents c]), (1, sl a5 sx c6), (2, .agg #[I t.Level, sl a11 t.Vars c12, sl a17 t.Where c18, I t.Sum]), (3, I area), (4, sl a23 values c24)] ⟨rfl, rfl, rfl, rfl, rfl, trivial⟩ fun ρ => ?_
 have X := But.refl emp w
 refine W_seq (W_region ?_)
 refine LP_box 0 (cs := [sl a g.Parents c]) rfl rfl rfl rfl rfl fun b wx x ex25 f => ?_
 refine LP_box 1 (cs := [I t.Level, sl a11 t.Vars c12, sl a17 t.Where c18, I t.Sum]) rfl rfl rfl rfl rfl fun b26 wx27 x28 ex29 f30 => ?_
 refine LP_ev ok 2 [(10, I 0)] 3 rfl rfl ?_
 refine LP_end _ rfl (W_seq (W_region ?_))
 refine LP_ldbox 0 (v := .agg #[sl a g.Parents c]) rfl rfl rfl ti_36 ag_36 (fun h => by cases h) rfl (ex25.ext x28) rfl rfl ?_
 refine LP_ev ok 1 [(16, pb b26)] 2 rfl rfl ?_
 refine LP_ldbox 2 (v := I t.Level) rfl rfl rfl ti_3 ag_3 (fun _ => rfl) rfl ex29 rfl rfl ?_
 refine LP_call 3 rfl rfl rfl cal_85 rfl (impl_areasAt_w _ _ _ H wx27 r (ex.ext (x.trans x28))) ?_
 rintro _ wx34 ⟨r32, vx36, hx37, H, rfl, x35, o, ex38, f39⟩
 obtain ⟨a40, c41, rfl⟩ := o.shape
 refine LP_ev ok 4 [(19, I area)] 5 rfl rfl ?_
 refine LP_call 5 rfl rfl rfl cal_96 rfl (slices_BinarySearch_int_int_w _ _ _ H wx34 o.readf ex38) ?_
 rintro _ wx44 ⟨r42, r43, H, rfl, x45⟩
 refine LP_ev ok 6 [(14, .tuple #[I r42, .bool r43]), (21, I r42), (22, .bool r43), (11, I r42), (12, .bool r43)] 11 rfl rfl ?_
 refine LP_end _ rfl (W_seq ?_)
 refine W_seq (W_region ?_)
 refine LP_ev ok 0 [(23, .bool r43), (24, .bool (!r43))] 2 rfl rfl ?_
 refine LP_end _ rfl ?_
 refine W_cond (!r43) rfl (fun hc => ?_) (fun hc => ?_)
 ·have H := H.1 hc
  refine W_seq (W_region ?_)
  refine LP_ev ok 0 [(10, I ((-1)))] 1 rfl rfl ?_
  refine LP_end _ rfl (W_ret ?_)
  exact ⟨_, Ret_of [I ((-1))] ⟨⟨rfl, rfl⟩, trivial⟩, _, H, rfl, (X.stepx (((x.trans x28).trans x35).trans x45)).ext⟩
 have H := H.2 hc
 refine W_skip ?_
 refine W_seq (W_region ?_)
 refine LP_ev ok 0 [(25, sl a5 sx c6)] 1 rfl rfl ?_
 refine LP_ldbox 1 (v := .agg #[I t.Level, sl a11 t.Vars c12, sl a17 t.Where c18, I t.Sum]) rfl rfl rfl ti_40 ag_40 (fun h => by cases h) rfl (ex29.ext (x35.trans x45)) rfl rfl ?_
 have xc51 := (((x.trans x28).trans x35).trans x45)
 refine LP_call 2 rfl rfl rfl cal_87 rfl (impl_crossed_w _ _ _ H wx44 r3 (ex4.ext xc51) r9 (ex10.ext xc51) r15 (ex16.ext xc51)) ?_
 rintro _ wx55 ⟨r50, vx57, hx58, H, rfl, x56, o59, ex60, f61⟩
 obtain ⟨a62, c63, rfl⟩ := o59.shape
 refine LP_ev ok 3 [(13, sl a62 r50 c63)] 4 rfl rfl ?_
 refine LP_end _ rfl (W_seq (W_region ?_))
 refine LP_ev ok 0 [(28, I r42), (29, sl a62 r50 c63)] 2 rfl rfl ?_
 refine LP_call 2 rfl rfl rfl cal_86 rfl (impl_combinations_w _ _ H wx55 o59.readf ex60) ?_
 rintro _ wx65 ⟨r64, H, rfl, x66⟩
 refine LP_ev ok 3 [(31, I (wr (r42 * r64))), (32, sl a62 r50 c63), (33, sl a23 values c24)] 6 rfl rfl ?_
 have xc69 := (((((x.trans x28).trans x35).trans x45).trans x56).trans x66)
 refine LP_call 6 rfl rfl rfl cal_97 rfl (impl_indexOfValues_w _ _ _ H wx65 o59.readf (ex60.ext x66) r21 (ex22.ext xc69)) ?_
 rintro _ wx71 ⟨r67, H, rfl, x72⟩
 refine LP_ev ok 7 [(35, I (wr ((wr (r42 * r64)) + r67))), (10, I (wr ((wr (r42 * r64)) + r67)))] 9 rfl rfl ?_
 refine LP_end _ rfl ?_
 try refine W_forget [(10, I (wr ((wr (r42 * r64)) + r67)))] ⟨rfl, trivial⟩ fun ρ => ?_
 refine W_ret ?_
 exact ⟨_, Ret_of [I (wr ((wr (r42 * r64)) + r67))] ⟨⟨rfl, rfl⟩, trivial⟩, _, H, rfl, (X.stepx (xc69.trans x72)).ext⟩

theorem impl_contribution_w (g : Geo) (sx : List Variable) (t : Table) (r19 : Record) (Q : Int → Int → Prop) (H : impl_contribution g sx t r19 Q) (w : World) {vx : Value} {hx : PH} (r : RS hx vx g.Parents) (ex : Sub hx w) {vx1 : Value} {hx2 : PH} (r3 : RS hx2 vx1 sx) (ex4 : Sub hx2 w) {vx7 : Value} {hx8 : PH} (r9 : RS hx8 vx7 t.Vars) (ex10 : Sub hx8 w) {vx13 : Value} {hx14 : PH} (r15 : RS hx14 vx13 t.Where) (ex16 : Sub hx14 w) {vx20 : Value} {hx21 : PH} (r22 : RS hx21 vx20 r19.Values) (ex23 : Sub hx21 w) :
  CallsTo Try.prog 74 #[.agg #[vx], vx1, .agg #[I t.Level, vx7, vx13, I t.Sum], .agg #[I r19.Area, I r19.House, vx20]] w fun v w' => ∃ r0 r1, Q r0 r1 ∧ v = .tuple #[I r0, I r1] ∧ Ext w w' := by
 obtain ⟨a, c, rfl⟩ := r.shape
 obtain ⟨a5, c6, rfl⟩ := r3.shape
 obtain ⟨a11, c12, rfl⟩ := r9.shape
 obtain ⟨a17, c18, rfl⟩ := r15.shape
 obtain ⟨a24, c25, rfl⟩ := r22.shape
 refine enter (args := [.agg #[sl a g.Parents c], sl a5 sx c6, .agg #[I t.Level, sl a11 t.Vars c12, sl a17 t.Where c18, I t.Sum], .agg #[I r19.Area, I r19.House, sl a24 r19.Values c25]]) 66 Try.func74 rfl rfl rfl ?_
 refine W_forget [(0, .agg #[sl a g.Parents c]), (1, sl a5 sx c6), (2, .agg #[I t.Level, sl a11 t.Vars c12, sl a17 t.Where c18, I t.Sum]), (3, .agg #[I r19.Area, I r19.House, sl a24 r19.Values c25])] ⟨rfl, rfl, rfl, rfl, trivial⟩ fun ρ => ?_
 have X := But.refl emp w
 refine W_seq (W_region ?_)
 refine LP_box 0 (cs := [sl a g.Parents c]) rfl rfl rfl rfl rfl fun b wx x ex26 f => ?_
 refine LP_box 1 (cs := [I t.Level, sl a11 t.Vars c12, sl a17 t.Where c18, I t.Sum]) rfl rfl rfl rfl rfl fun b27 wx28 x29 ex30 f31 => ?_
 refine LP_box 2 (cs := [I r19.Area, I r19.House, sl a24 r19.Values c25]) rfl rfl rfl rfl rfl fun b32 wx33 x34 ex35 f36 => ?_
 refine LP_ev ok 3 [(8, I 0), (9, I 0)] 5 rfl rfl ?_
 refine LP_end _ rfl (W_seq (W_region ?_))
 have ex37 := (ex26.ext (x29.trans x34))
 refine LP_ldbox 0 (v := .agg #[sl a g.Parents c]) rfl rfl rfl ti_36 ag_36 (fun h => by cases h) rfl ex37 rfl rfl ?_
 refine LP_ev ok 1 [(16, pb b32)] 2 rfl rfl ?_
 refine LP_ldbox 2 (v := I r19.Area) rfl rfl rfl ti_3 ag_3 (fun _ => rfl) rfl ex35 rfl rfl ?_
 refine LP_ev ok 3 [(18, pb b27)] 4 rfl rfl ?_
 have ex38 := (ex30.ext x34)
 refine LP_ldbox 4 (v := I t.Level) rfl rfl rfl ti_3 ag_3 (fun _ => rfl) rfl ex38 rfl rfl ?_
 have xc40 := ((x.trans x29).trans x34)
 have ex41 := (ex.ext xc40)
 refine LP_call 5 rfl rfl rfl cal_88 rfl (impl_ancestorAt_w _ _ _ _ H wx33 r ex41) ?_
 rintro _ wx42 ⟨r39, H, rfl, x43⟩
 refine LP_ev ok 6 [(10, I r39)] 7 rfl rfl ?_
 refine LP_end _ rfl (W_seq ?_)
 obtain ⟨k, hk, H⟩ := jn_elim H
 refine W_join2 (S := Bool) (fun s ρ' w' => k s ∧ ∃ (ρ : Env), ρ' = setAll [(1, sl a5 sx c6), (4, pb b), (6, pb b27), (7, pb b32), (10, I r39), (28, .bool s)] ρ ∧ But emp w w' ∧ Sub hx w' ∧ Sub hx2 w' ∧ Sub hx8 w' ∧ Sub hx14 w' ∧ Sub hx21 w' ∧ Sub (bx b 36 [sl a g.Parents c]) w' ∧ Sub (bx b27 40 [I t.Level, sl a11 t.Vars c12, sl a17 t.Where c18, I t.Sum]) w' ∧ Sub (bx b32 80 [I r19.Area, I r19.House, sl a24 r19.Values c25]) w') ?_ ?_
 ·refine W_region ?_
  refine LP_ev ok 0 [(21, I r39), (22, .bool (decide (r39 < 0))), (23, .bool (decide (r39 < 0)))] 3 rfl rfl ?_
  refine LP_split 23 (decide (r39 < 0)) rfl (fun hc => ?_) (fun hc => ?_)
  ·have H := H.1 hc
   refine LP_ev ok 3 [(24, undef), (25, undef), (26, undef), (27, undef), (28, .bool true)] 8 rfl rfl ?_
   refine LP_end _ rfl ?_
   have xc55 := (xc40.trans x43)
   exact ⟨true, H, _, env_eq ⟨rfl, rfl, rfl, rfl, rfl, rfl, trivial⟩, (X.stepx xc55), (ex41.ext x43), (ex4.ext xc55), (ex10.ext xc55), (ex16.ext xc55), (ex23.ext xc55), (ex37.ext x43), (ex38.ext x43), (ex35.ext x43)⟩
  have H := H.2 hc
  have ex65 := (ex38.ext x43)
  refine LP_ldbox 3 (v := .agg #[I t.Level, sl a11 t.Vars c12, sl a17 t.Where c18, I t.Sum]) rfl rfl rfl ti_40 ag_40 (fun h => by cases h) rfl ex65 rfl rfl ?_
  have ex66 := (ex35.ext x43)
  refine LP_ldbox 4 (v := .agg #[I r19.Area, I r19.House, sl a24 r19.Values c25]) rfl rfl rfl ti_80 ag_80 (fun h => by cases h) rfl ex66 rfl rfl ?_
  have xc68 := (xc40.trans x43)
  have ex69 := (ex10.ext xc68)
  have ex70 := (ex16.ext xc68)
  have ex71 := (ex23.ext xc68)
  refine LP_call 5 rfl rfl rfl cal_89 rfl (impl_meetsWhere_w _ _ _ H wx42 r9 ex69 r15 ex70 r22 ex71) ?_
  rintro _ wx72 ⟨r67, H, rfl, x73⟩
  refine LP_ev ok 6 [(27, .bool (!r67)), (28, .bool (!r67))] 8 rfl rfl ?_
  refine LP_end _ rfl ?_
  have xc74 := (xc68.trans x73)
  have xc76 := (x43.trans x73)
  exact ⟨!r67, H, _, env_eq ⟨rfl, rfl, rfl, rfl, rfl, rfl, trivial⟩, (X.stepx xc74), (ex41.ext xc76), (ex4.ext xc74), (ex69.ext x73), (ex70.ext x73), (ex71.ext x73), (ex37.ext xc76), (ex65.ext x73), (ex66.ext x73)⟩
 rintro x44 _ wx45 ⟨H, ρ, rfl, HF⟩
 revert HF
 refine bb9 fun X54 ex46 ex47 ex48 ex49 ex50 ex51 ex52 ex53 => ?_
 subst hk
 refine W_cond (x44) rfl (fun hc85 => ?_) (fun hc85 => ?_)
 ·have H := H.1 hc85
  refine W_seq (W_region ?_)
  refine LP_ev ok 0 [(8, I ((-1))), (9, I 0)] 2 rfl rfl ?_
  refine LP_end _ rfl (W_ret ?_)
  exact ⟨_, Ret_of [I ((-1)), I 0] ⟨⟨rfl, rfl⟩, ⟨rfl, rfl⟩, trivial⟩, _, _, H, rfl, X54.ext⟩
 have H := H.2 hc85
 refine W_skip ?_
 refine W_seq (W_region ?_)
 refine LP_ev ok 0 [(29, .pointer (some ⟨b27, 1, none⟩))] 1 rfl rfl ?_
 refine LP_ldbox 1 (v := sl a11 t.Vars c12) rfl rfl rfl ti_22 ag_22 (fun _ => rfl) rfl ex52 rfl rfl ?_
 refine LP_ev ok 2 [(31, I (ln t.Vars))] 3 rfl rfl ?_
 obtain ⟨hn, hb, H⟩ := H
 refine LP_make (α := Int) 3 rfl rfl rfl Try.underlying22 ti_3 (x0 := (0 : Int)) rfl rfl hn (by first | omega | (simp only [ln] at *; omega)) (by first | omega | (simp only [ln] at *; omega)) fun hx86 vx87 wx88 x89 o ex90 f91 => ?_
 obtain ⟨a92, c93, rfl⟩ := o.shape
 refine LP_ev ok 4 [(11, .slice a92 (List.length (List.replicate (Int.toNat (ln t.Vars)) ((0 : Int)))) c93)] 5 rfl rfl ?_
 refine LP_end _ rfl (W_seq ?_)
 refine W_seq (W_region ?_)
 refine LP_ev ok 0 [(33, .pointer (some ⟨b27, 1, none⟩))] 1 rfl rfl ?_
 have ex94 := (ex52.ext x89)
 refine LP_ldbox 1 (v := sl a11 t.Vars c12) rfl rfl rfl ti_22 ag_22 (fun _ => rfl) rfl ex94 rfl rfl ?_
 refine LP_ev ok 2 [(35, I (ln t.Vars)), (36, I 0)] 4 rfl rfl ?_
 refine LP_end _ rfl ?_
 refine W_block ?_
 have f119 := f91.mono X54.size
 obtain ⟨J, m, Hx, H⟩ := H
 refine W_loop (S := (List Int) × Int) (fun s ρ' w' => J s.1 s.2 ∧ ∃ (ρ : Env) (hx96 : PH), ρ' = setAll [(1, sl a5 sx c6), (4, pb b), (6, pb b27), (7, pb b32), (10, I r39), (11, .slice a92 (List.length (List.replicate (Int.toNat (ln t.Vars)) ((0 : Int)))) c93), (34, sl a11 t.Vars c12), (35, I (ln t.Vars)), (36, I s.2)] ρ ∧ But emp w w' ∧ OS 3 hx96 emp (.slice a92 (List.length (List.replicate (Int.toNat (ln t.Vars)) ((0 : Int)))) c93) s.1 ∧ Sub hx96 w' ∧ Fresh w.heap.size hx96 ∧ Sub hx w' ∧ Sub hx2 w' ∧ Sub hx8 w' ∧ Sub hx14 w' ∧ Sub hx21 w' ∧ Sub (bx b 36 [sl a g.Parents c]) w' ∧ Sub (bx b27 40 [I t.Level, sl a11 t.Vars c12, sl a17 t.Where c18, I t.Sum]) w' ∧ Sub (bx b32 80 [I r19.Area, I r19.House, sl a24 r19.Values c25]) w' ∧ Dj hx96 hx ∧ Dj hx96 hx2 ∧ Dj hx96 hx8 ∧ Dj hx96 hx14 ∧ Dj hx96 hx21 ∧ Dj hx96 (bx b 36 [sl a g.Parents c]) ∧ Dj hx96 (bx b27 40 [I t.Level, sl a11 t.Vars c12, sl a17 t.Where c18, I t.Sum]) ∧ Dj hx96 (bx b32 80 [I r19.Area, I r19.House, sl a24 r19.Values c25])) (fun s => m s.1 s.2) (List.replicate (Int.toNat (ln t.Vars)) ((0 : Int)), 0) ⟨Hx, _, hx86, env_eq ⟨rfl, rfl, rfl, rfl, rfl, rfl, rfl, rfl, rfl, trivial⟩, (X54.stepx x89), o, ex90, f119, (ex46.ext x89), (ex47.ext x89), (ex48.ext x89), (ex49.ext x89), (ex50.ext x89), (ex51.ext x89), ex94, (ex53.ext x89), (Dj.of_fresh ex46 f91).symm, (Dj.of_fresh ex47 f91).symm, (Dj.of_fresh ex48 f91).symm, (Dj.of_fresh ex49 f91).symm, (Dj.of_fresh ex50 f91).symm, (Dj.of_fresh ex51 f91).symm, (Dj.of_fresh ex52 f91).symm, (Dj.of_fresh ex53 f91).symm⟩ ?_
 rintro ⟨values, x100⟩ _ wx101 ⟨Hi, ρ, hx96, rfl, HF⟩
 revert HF
 refine bb9 fun X117 o97 ex98 f99 ex102 ex103 ex104 ex105 => ?_
 refine bb9 fun ex106 ex107 ex108 ex109 d d110 d111 d112 => ?_
 refine bb4 fun d113 d114 d115 d116 => ?_
 have H := H values x100 Hi
 refine W_seq (W_region ?_)
 refine LP_ev ok 0 [(37, .bool (decide (x100 < (ln t.Vars))))] 1 rfl rfl ?_
 refine LP_end _ rfl (W_seq ?_)
 refine W_cond (decide (x100 < (ln t.Vars))) rfl (fun hc127 => ?_) (fun hc127 => ?_)
 ·have H := H.1 hc127
  refine W_skip ?_
  refine W_seq ?_
  refine W_block ?_
  refine W_seq (W_region ?_)
  refine LP_ev ok 0 [(38, I x100)] 1 rfl rfl ?_
  obtain ⟨x128, hi, hx129, H⟩ := H
  refine LP_index 1 rfl rfl rfl Try.underlying22 ti_3 rfl rfl r9 hi hx129 fun a130 cs r131 d132 => ?_
  refine LP_load 2 rfl rfl rfl ti_3 ag_3 rfl r131 d132 ex104 fun vx133 r134 => ?_
  obtain rfl := r134.int
  refine LP_ev ok 3 [(12, I x100), (13, I x128)] 5 rfl rfl ?_
  refine LP_end _ rfl ?_
  refine W_region ?_
  refine LP_ev ok 0 [(41, .slice a92 (List.length (List.replicate (Int.toNat (ln t.Vars)) ((0 : Int)))) c93), (42, I x100), (43, .pointer (some ⟨b32, 2, none⟩))] 3 rfl rfl ?_
  refine LP_ldbox 3 (v := sl a24 r19.Values c25) rfl rfl rfl ti_22 ag_22 (fun _ => rfl) rfl ex109 rfl rfl ?_
  refine LP_ev ok 4 [(45, I x128)] 5 rfl rfl ?_
  obtain ⟨x135, hi136, hx137, H⟩ := H
  refine LP_index 5 rfl rfl rfl Try.underlying22 ti_3 rfl rfl r22 hi136 hx137 fun a138 cs139 r140 d141 => ?_
  refine LP_load 6 rfl rfl rfl ti_3 ag_3 rfl r140 d141 ex106 fun vx142 r143 => ?_
  obtain rfl := r143.int
  obtain ⟨hi144, hl, H⟩ := H
  refine LP_indexw (v := .slice a92 (List.length (List.replicate (Int.toNat (ln t.Vars)) ((0 : Int)))) c93) 7 rfl rfl rfl Try.underlying22 ti_3 rfl rfl o97 hi144 hl fun a145 wa => ?_
  refine LP_set 8 rfl rfl rfl rfl rfl wa (Le.refl emp) ⟨_, rfl, rfl⟩ ex98 fun hx146 wx147 o148 ex149 y dm => ?_
  refine LP_end _ rfl ?_
  refine W_region ?_
  refine LP_ev ok 0 [(49, I (wr (x100 + 1))), (36, I (wr (x100 + 1)))] 2 rfl rfl ?_
  refine LP_end _ rfl ?_
  have f151 := (dm _).fresh f99 X117.size
  exact ⟨(List.set values (Int.toNat x100) x135, wr (x100 + 1)), ⟨H.1, _, hx146, env_eq ⟨rfl, rfl, rfl, rfl, rfl, rfl, rfl, rfl, rfl, trivial⟩, (X117.step y (f99.dom _)), o148, ex149, f151, (ex102.but y d), (ex103.but y d110), (ex104.but y d111), (ex105.but y d112), (ex106.but y d113), (ex107.but y d114), (ex108.but y d115), (ex109.but y d116), (DomLe.dj (dm _) d ex102), (DomLe.dj (dm _) d110 ex103), (DomLe.dj (dm _) d111 ex104), (DomLe.dj (dm _) d112 ex105), (DomLe.dj (dm _) d113 ex106), (DomLe.dj (dm _) d114 ex107), (DomLe.dj (dm _) d115 ex108), (DomLe.dj (dm _) d116 ex109)⟩, H.2⟩
 have H := H.2 hc127
 refine W_exit ?_
 refine (if_pos rfl).mpr ?_
 refine W_seq (W_region ?_)
 refine LP_ev ok 0 [(14, I 1)] 1 rfl rfl ?_
 refine LP_end _ rfl ?_
 obtain ⟨k161, hk162, H⟩ := jn_elim H
 refine W_join2 (S := Int) (fun s ρ' w' => k161 s ∧ ∃ (ρ : Env), ρ' = setAll [(1, sl a5 sx c6), (4, pb b), (6, pb b27), (10, I r39), (11, .slice a92 (List.length (List.replicate (Int.toNat (ln t.Vars)) ((0 : Int)))) c93), (14, I s)] ρ ∧ wx101 = w') ?_ ?_
 ·refine W_seq (W_region ?_)
  refine LP_ev ok 0 [(50, .pointer (some ⟨b27, 3, none⟩))] 1 rfl rfl ?_
  refine LP_ldbox 1 (v := I t.Sum) rfl rfl rfl ti_3 ag_3 (fun _ => rfl) rfl ex108 rfl rfl ?_
  refine LP_ev ok 2 [(52, .bool (decide (t.Sum ≥ 0)))] 3 rfl rfl ?_
  refine LP_end _ rfl ?_
  refine W_cond (decide (t.Sum ≥ 0)) rfl (fun hc163 => ?_) (fun hc163 => ?_)
  ·have H := H.1 hc163
   refine W_region ?_
   refine LP_ev ok 0 [(53, .pointer (some ⟨b32, 2, none⟩))] 1 rfl rfl ?_
   refine LP_ldbox 1 (v := sl a24 r19.Values c25) rfl rfl rfl ti_22 ag_22 (fun _ => rfl) rfl ex109 rfl rfl ?_
   refine LP_ev ok 2 [(55, .pointer (some ⟨b27, 3, none⟩))] 3 rfl rfl ?_
   refine LP_ldbox 3 (v := I t.Sum) rfl rfl rfl ti_3 ag_3 (fun _ => rfl) rfl ex108 rfl rfl ?_
   obtain ⟨x164, hi165, hx166, H⟩ := H
   refine LP_index 4 rfl rfl rfl Try.underlying22 ti_3 rfl rfl r22 hi165 hx166 fun a167 cs168 r169 d170 => ?_
   refine LP_load 5 rfl rfl rfl ti_3 ag_3 rfl r169 d170 ex106 fun vx171 r172 => ?_
   obtain rfl := r172.int
   refine LP_ev ok 6 [(14, I x164)] 7 rfl rfl ?_
   exact LP_end _ rfl ⟨x164, H, _, env_eq ⟨rfl, rfl, rfl, rfl, rfl, rfl, trivial⟩, rfl⟩
  have H := H.2 hc163
  exact W_skip ⟨1, H, _, env_eq ⟨rfl, rfl, rfl, rfl, rfl, rfl, trivial⟩, rfl⟩
 rintro amount _ _ ⟨H, ρ, rfl, rfl⟩
 subst hk162
 refine W_seq (W_region ?_)
 refine LP_ldbox 0 (v := .agg #[sl a g.Parents c]) rfl rfl rfl ti_36 ag_36 (fun h => by cases h) rfl ex107 rfl rfl ?_
 refine LP_ev ok 1 [(60, sl a5 sx c6)] 2 rfl rfl ?_
 refine LP_ldbox 2 (v := .agg #[I t.Level, sl a11 t.Vars c12, sl a17 t.Where c18, I t.Sum]) rfl rfl rfl ti_40 ag_40 (fun h => by cases h) rfl ex108 rfl rfl ?_
 refine LP_ev ok 3 [(62, I r39), (63, .slice a92 (List.length (List.replicate (Int.toNat (ln t.Vars)) ((0 : Int)))) c93)] 5 rfl rfl ?_
 refine LP_call 5 rfl rfl rfl cal_90 rfl (impl_cellIndex_w _ _ _ _ _ _ H wx101 r ex102 r3 ex103 r9 ex104 r15 ex105 o97.readf ex98) ?_
 rintro _ wx174 ⟨r173, H, rfl, x175⟩
 refine LP_ev ok 6 [(65, I amount), (8, I r173), (9, I amount)] 9 rfl rfl ?_
 refine LP_end _ rfl (W_ret ?_)
 exact ⟨_, Ret_of [I r173, I amount] ⟨⟨rfl, rfl⟩, ⟨rfl, rfl⟩, trivial⟩, _, _, H, rfl, (X117.stepx x175).ext⟩

theorem impl_tableOf_w (g : Geo) (sx : List Variable) (t : Table) (l : List Record) (Q : (List Int) → Prop) (H : impl_tableOf g sx t l Q) (w : World) {vx : Value} {hx : PH} (r : RS hx vx g.Parents) (ex : Sub hx w) {vx1 : Value} {hx2 : PH} (r3 : RS hx2 vx1 sx) (ex4 : Sub hx2 w) {vx7 : Value} {hx8 : PH} (r9 : RS hx8 vx7 t.Vars) (ex10 : Sub hx8 w) {vx13 : Value} {hx14 : PH} (r15 : RS hx14 vx13 t.Where) (ex16 : Sub hx14 w) {vx19 : Value} {hx20 : PH} (r21 : RS hx20 vx19 l) (ex22 : Sub hx20 w) :
  CallsTo Try.prog 50 #[.agg #[vx], vx1, .agg #[I t.Level, vx7, vx13, I t.Sum], vx19] w fun v w' => ∃ r0 u0 g0, Q r0 ∧ v = u0 ∧ Ext w w' ∧ OS 3 g0 emp u0 r0 ∧ Sub g0 w' ∧ Fresh w.heap.size g0 := by
 obtain ⟨a, c, rfl⟩ := r.shape
 obtain ⟨a5, c6, rfl⟩ := r3.shape
 obtain ⟨a11, c12, rfl⟩ := r9.shape
 obtain ⟨a17, c18, rfl⟩ := r15.shape
 obtain ⟨a23, c24, rfl⟩ := r21.shape
 refine enter (args := [.agg #[sl a g.Parents c], sl a5 sx c6, .agg #[I t.Level, sl a11 t.Vars c12, sl a17 t.Where c18, I t.Sum], sl a23 l c24]) 44 Try.func50 rfl rfl rfl ?_
 refine W_forget [(0, .agg #[sl a g.Parents c]), (1, sl a5 sx c6), (2, .agg #[I t.Level, sl a11 t.Vars c12, sl a17 t.Where c18, I t.Sum]), (3, sl a23 l c24)] ⟨rfl, rfl, rfl, rfl, trivial⟩ fun ρ => ?_
 have X := But.refl emp w
 refine W_seq (W_region ?_)
 refine LP_box 0 (cs := [sl a g.Parents c]) rfl rfl rfl rfl rfl fun b wx x ex25 f => ?_
 refine LP_box 1 (cs := [I t.Level, sl a11 t.Vars c12, sl a17 t.Where c18, I t.Sum]) rfl rfl rfl rfl rfl fun b26 wx27 x28 ex29 f30 => ?_
 refine LP_ev ok 2 [(8, .slice none 0 0)] 3 rfl rfl ?_
 refine LP_end _ rfl (W_seq (W_region ?_))
 have ex31 := (ex25.ext x28)
 refine LP_ldbox 0 (v := .agg #[sl a g.Parents c]) rfl rfl rfl ti_36 ag_36 (fun h => by cases h) rfl ex31 rfl rfl ?_
 refine LP_ev ok 1 [(15, sl a5 sx c6)] 2 rfl rfl ?_
 refine LP_ldbox 2 (v := .agg #[I t.Level, sl a11 t.Vars c12, sl a17 t.Where c18, I t.Sum]) rfl rfl rfl ti_40 ag_40 (fun h => by cases h) rfl ex29 rfl rfl ?_
 have xc := (x.trans x28)
 have ex33 := (ex.ext xc)
 have ex34 := (ex4.ext xc)
 have ex35 := (ex10.ext xc)
 have ex36 := (ex16.ext xc)
 refine LP_call 3 rfl rfl rfl cal_73 rfl (impl_cellCount_w _ _ _ _ H wx27 r ex33 r3 ex34 r9 ex35 r15 ex36) ?_
 rintro _ wx37 ⟨r32, H, rfl, x38⟩
 obtain ⟨hn, hb, H⟩ := H
 refine LP_make (α := Int) 4 rfl rfl rfl Try.underlying22 ti_3 (x0 := (0 : Int)) rfl rfl hn (by first | omega | (simp only [ln] at *; omega)) (by first | omega | (simp only [ln] at *; omega)) fun hx39 vx40 wx41 x42 o ex43 f44 => ?_
 obtain ⟨a45, c46, rfl⟩ := o.shape
 refine LP_ev ok 5 [(9, .slice a45 (List.length (List.replicate (Int.toNat r32) ((0 : Int)))) c46)] 6 rfl rfl ?_
 refine LP_end _ rfl (W_seq ?_)
 refine W_seq (W_region ?_)
 refine LP_ev ok 0 [(19, sl a23 l c24), (20, I (ln l)), (21, I 0)] 3 rfl rfl ?_
 refine LP_end _ rfl ?_
 refine W_block ?_
 have xc68 := (((x.trans x28).trans x38).trans x42)
 have xc71 := (xc.trans x38)
 have f70 := f44.mono (X.stepx xc71).size
 have xc73 := (x38.trans x42)
 obtain ⟨J, m, Hx, H⟩ := H
 refine W_loop (S := (List Int) × Int) (fun s ρ' w' => J s.1 s.2 ∧ ∃ (ρ : Env) (hx48 : PH), ρ' = setAll [(1, sl a5 sx c6), (4, pb b), (6, pb b26), (9, .slice a45 (List.length (List.replicate (Int.toNat r32) ((0 : Int)))) c46), (19, sl a23 l c24), (20, I (ln l)), (21, I s.2)] ρ ∧ But emp w w' ∧ OS 3 hx48 emp (.slice a45 (List.length (List.replicate (Int.toNat r32) ((0 : Int)))) c46) s.1 ∧ Sub hx48 w' ∧ Fresh w.heap.size hx48 ∧ Sub hx w' ∧ Sub hx2 w' ∧ Sub hx8 w' ∧ Sub hx14 w' ∧ Sub hx20 w' ∧ Sub (bx b 36 [sl a g.Parents c]) w' ∧ Sub (bx b26 40 [I t.Level, sl a11 t.Vars c12, sl a17 t.Where c18, I t.Sum]) w' ∧ Dj hx48 hx ∧ Dj hx48 hx2 ∧ Dj hx48 hx8 ∧ Dj hx48 hx14 ∧ Dj hx48 hx20 ∧ Dj hx48 (bx b 36 [sl a g.Parents c]) ∧ Dj hx48 (bx b26 40 [I t.Level, sl a11 t.Vars c12, sl a17 t.Where c18, I t.Sum])) (fun s => m s.1 s.2) (List.replicate (Int.toNat r32) ((0 : Int)), 0) ⟨Hx, _, hx39, env_eq ⟨rfl, rfl, rfl, rfl, rfl, rfl, rfl, trivial⟩, (X.stepx xc68), o, ex43, f70, (ex33.ext xc73), (ex34.ext xc73), (ex35.ext xc73), (ex36.ext xc73), (ex22.ext xc68), (ex31.ext xc73), (ex29.ext xc73), (Dj.of_fresh (ex33.ext x38) f44).symm, (Dj.of_fresh (ex34.ext x38) f44).symm, (Dj.of_fresh (ex35.ext x38) f44).symm, (Dj.of_fresh (ex36.ext x38) f44).symm, (Dj.of_fresh (ex22.ext xc71) f44).symm, (Dj.of_fresh (ex31.ext x38) f44).symm, (Dj.of_fresh (ex29.ext x38) f44).symm⟩ ?_
 rintro ⟨cells, x52⟩ _ wx53 ⟨Hi, ρ, hx48, rfl, HF⟩
 revert HF
 refine bb9 fun X67 o49 ex50 f51 ex54 ex55 ex56 ex57 => ?_
 refine bb9 fun ex58 ex59 ex60 d d61 d62 d63 d64 => ?_
 refine bb2 fun d65 d66 => ?_
 have H := H cells x52 Hi
 refine W_seq (W_region ?_)
 refine LP_ev ok 0 [(22, .bool (decide (x52 < (ln l))))] 1 rfl rfl ?_
 refine LP_end _ rfl (W_seq ?_)
 refine W_cond (decide (x52 < (ln l))) rfl (fun hc => ?_) (fun hc => ?_)
 ·have H := H.1 hc
  refine W_skip ?_
  obtain ⟨k, hk, H⟩ := jn_elim H
  refine W_join2 (S := (List Int)) (fun s ρ' w' => k s ∧ ∃ (ρ : Env) (hx90 : PH), ρ' = setAll [(1, sl a5 sx c6), (4, pb b), (6, pb b26), (9, .slice a45 (List.length (List.replicate (Int.toNat r32) ((0 : Int)))) c46), (19, sl a23 l c24), (20, I (ln l)), (21, I x52)] ρ ∧ But emp w w' ∧ OS 3 hx90 emp (.slice a45 (List.length (List.replicate (Int.toNat r32) ((0 : Int)))) c46) s ∧ Sub hx90 w' ∧ Fresh w.heap.size hx90 ∧ Sub hx w' ∧ Sub hx2 w' ∧ Sub hx8 w' ∧ Sub hx14 w' ∧ Sub hx20 w' ∧ Sub (bx b 36 [sl a g.Parents c]) w' ∧ Sub (bx b26 40 [I t.Level, sl a11 t.Vars c12, sl a17 t.Where c18, I t.Sum]) w' ∧ Dj hx90 hx ∧ Dj hx90 hx2 ∧ Dj hx90 hx8 ∧ Dj hx90 hx14 ∧ Dj hx90 hx20 ∧ Dj hx90 (bx b 36 [sl a g.Parents c]) ∧ Dj hx90 (bx b26 40 [I t.Level, sl a11 t.Vars c12, sl a17 t.Where c18, I t.Sum])) ?_ ?_
  ·refine W_block ?_
   refine W_seq (W_region ?_)
   obtain ⟨x110, hi, hx111, H⟩ := H
   refine LP_index 0 rfl rfl rfl Try.underlying62 ti_80 rfl rfl r21 hi hx111 fun a112 cs r113 d114 => ?_
   have d115 := d114
   obtain ⟨u, rfl, r116⟩ := Record_rd d115
   obtain ⟨a117, c118, rfl⟩ := r116.shape
   refine LP_load 1 rfl rfl rfl ti_80 ag_80 rfl r113 d114 ex58 fun vx119 r120 => ?_
   obtain ⟨u121, rfl, r122⟩ := Record_rv r120
   obtain ⟨a123, c124, rfl⟩ := r122.shape
   refine LP_alloc 2 rfl rfl rfl ti_80 rfl fun b125 wx126 x127 ex128 f129 => ?_
   refine LP_stbox 3 (vs := [I x110.Area, I x110.House, sl a123 x110.Values c124]) (cs' := [I x110.Area, I x110.House, sl a123 x110.Values c124]) rfl rfl rfl ti_80 rfl rfl rfl rfl rfl ex128 rfl rfl fun wx130 ex131 y => ?_
   refine LP_end _ rfl (W_seq (W_region ?_))
   have ex132 := ((ex59.ext x127).but y (Dj.of_fresh ex59 f129).symm)
   refine LP_ldbox 0 (v := .agg #[sl a g.Parents c]) rfl rfl rfl ti_36 ag_36 (fun h => by cases h) rfl ex132 rfl rfl ?_
   refine LP_ev ok 1 [(27, sl a5 sx c6)] 2 rfl rfl ?_
   have ex133 := ((ex60.ext x127).but y (Dj.of_fresh ex60 f129).symm)
   refine LP_ldbox 2 (v := .agg #[I t.Level, sl a11 t.Vars c12, sl a17 t.Where c18, I t.Sum]) rfl rfl rfl ti_40 ag_40 (fun h => by cases h) rfl ex133 rfl rfl ?_
   refine LP_ldbox 3 (v := .agg #[I x110.Area, I x110.House, sl a123 x110.Values c124]) rfl rfl rfl ti_80 ag_80 (fun h => by cases h) rfl ex131 rfl rfl ?_
   have ex136 := ((ex54.ext x127).but y (Dj.of_fresh ex54 f129).symm)
   have ex137 := ((ex55.ext x127).but y (Dj.of_fresh ex55 f129).symm)
   have ex138 := ((ex56.ext x127).but y (Dj.of_fresh ex56 f129).symm)
   have ex139 := ((ex57.ext x127).but y (Dj.of_fresh ex57 f129).symm)
   have ex140 := ((ex58.ext x127).but y (Dj.of_fresh ex58 f129).symm)
   refine LP_call 4 rfl rfl rfl cal_74 rfl (impl_contribution_w _ _ _ _ _ H wx130 r ex136 r3 ex137 r9 ex138 r15 ex139 r122 ex140) ?_
   rintro _ wx141 ⟨r134, r135, H, rfl, x142⟩
   refine LP_ev ok 5 [(25, .tuple #[I r134, I r135]), (31, I r134), (32, I r135), (12, I r134), (13, I r135)] 10 rfl rfl ?_
   refine LP_end _ rfl (W_seq (W_region ?_))
   refine LP_ev ok 0 [(33, I r134), (34, .bool (decide (r134 ≥ 0)))] 2 rfl rfl ?_
   refine LP_end _ rfl ?_
   refine W_cond (decide (r134 ≥ 0)) rfl (fun hc143 => ?_) (fun hc143 => ?_)
   ·have H := H.1 hc143
    refine W_region ?_
    refine LP_ev ok 0 [(35, .slice a45 (List.length (List.replicate (Int.toNat r32) ((0 : Int)))) c46), (36, I r134)] 2 rfl rfl ?_
    obtain ⟨x144, hi145, hx146, H⟩ := H
    refine LP_index 2 rfl rfl rfl Try.underlying22 ti_3 rfl rfl o49.readf hi145 hx146 fun a147 cs148 r149 d150 => ?_
    have ex151 := (((ex50.ext x127).but y (Dj.of_fresh ex50 f129).symm).ext x142)
    refine LP_load 3 rfl rfl rfl ti_3 ag_3 rfl r149 d150 ex151 fun vx152 r153 => ?_
    obtain rfl := r153.int
    refine LP_ev ok 4 [(39, I r135), (40, I (wr (x144 + r135)))] 6 rfl rfl ?_
    obtain ⟨hi154, hl, H⟩ := H
    refine LP_indexw (v := .slice a45 (List.length (List.replicate (Int.toNat r32) ((0 : Int)))) c46) 6 rfl rfl rfl Try.underlying22 ti_3 rfl rfl o49 hi154 hl fun a155 wa => ?_
    refine LP_set 7 rfl rfl rfl rfl rfl wa (Le.refl emp) ⟨_, rfl, rfl⟩ ex151 fun hx156 wx157 o158 ex159 y160 dm => ?_
    refine LP_end _ rfl ?_
    try refine W_forget [(1, sl a5 sx c6), (4, pb b), (6, pb b26), (9, .slice a45 (List.length (List.replicate (Int.toNat r32) ((0 : Int)))) c46), (19, sl a23 l c24), (20, I (ln l)), (21, I x52)] ⟨rfl, rfl, rfl, rfl, rfl, rfl, rfl, trivial⟩ fun ρ => ?_
    have f161 := f129.mono X67.size
    have f163 := (dm _).fresh f51 (((X67.stepx x127).step y (f161.dom _)).stepx x142).size
    exact ⟨List.set cells (Int.toNat r134) (wr (x144 + r135)), H, _, hx156, env_eq ⟨rfl, rfl, rfl, rfl, rfl, rfl, rfl, trivial⟩, ((((X67.stepx x127).step y (f161.dom _)).stepx x142).step y160 (f51.dom _)), o158, ex159, f163, ((ex136.ext x142).but y160 d), ((ex137.ext x142).but y160 d61), ((ex138.ext x142).but y160 d62), ((ex139.ext x142).but y160 d63), ((ex140.ext x142).but y160 d64), ((ex132.ext x142).but y160 d65), ((ex133.ext x142).but y160 d66), (DomLe.dj (dm _) d (ex136.ext x142)), (DomLe.dj (dm _) d61 (ex137.ext x142)), (DomLe.dj (dm _) d62 (ex138.ext x142)), (DomLe.dj (dm _) d63 (ex139.ext x142)), (DomLe.dj (dm _) d64 (ex140.ext x142)), (DomLe.dj (dm _) d65 (ex132.ext x142)), (DomLe.dj (dm _) d66 (ex133.ext x142))⟩
   have H := H.2 hc143
   refine W_skip ?_
   have f179 := f129.mono X67.size
   exact ⟨cells, H, _, hx48, env_eq ⟨rfl, rfl, rfl, rfl, rfl, rfl, rfl, trivial⟩, (((X67.stepx x127).step y (f179.dom _)).stepx x142), o49, (((ex50.ext x127).but y (Dj.of_fresh ex50 f129).symm).ext x142), f51, (ex136.ext x142), (ex137.ext x142), (ex138.ext x142), (ex139.ext x142), (ex140.ext x142), (ex132.ext x142), (ex133.ext x142), d, d61, d62, d63, d64, d65, d66⟩
  rintro cells88 _ wx94 ⟨H, ρ, hx90, rfl, HF⟩
  revert HF
  refine bb9 fun X109 o91 ex92 f93 ex95 ex96 ex97 ex98 => ?_
  refine bb9 fun ex99 ex100 ex101 d102 d103 d104 d105 d106 => ?_
  refine bb2 fun d107 d108 => ?_
  subst hk
  refine W_region ?_
  refine LP_ev ok 0 [(42, I (wr (x52 + 1))), (21, I (wr (x52 + 1)))] 2 rfl rfl ?_
  exact LP_end _ rfl ⟨(cells88, wr (x52 + 1)), ⟨H.1, _, hx90, env_eq ⟨rfl, rfl, rfl, rfl, rfl, rfl, rfl, trivial⟩, X109, o91, ex92, f93, ex95, ex96, ex97, ex98, ex99, ex100, ex101, d102, d103, d104, d105, d106, d107, d108⟩, H.2⟩
 have H := H.2 hc
 refine W_exit ?_
 refine (if_pos rfl).mpr ?_
 refine W_seq (W_region ?_)
 refine LP_ev ok 0 [(43, .slice a45 (List.length (List.replicate (Int.toNat r32) ((0 : Int)))) c46), (8, .slice a45 (List.length (List.replicate (Int.toNat r32) ((0 : Int)))) c46)] 2 rfl rfl ?_
 refine LP_end _ rfl (W_ret ?_)
 exact ⟨_, Ret_of [.slice a45 (List.length (List.replicate (Int.toNat r32) ((0 : Int)))) c46] ⟨⟨rfl, rfl⟩, trivial⟩, _, _, _, H, rfl, X67.ext, o49, ex50, f51⟩

theorem impl_siteCells_w (g : Geo) (sx : List Variable) (t : Table) (sites : List (List Record)) (Q : (List (List Int)) → Bool → Prop) (H : impl_siteCells g sx t sites Q) (w : World) {vx : Value} {hx : PH} (r : RS hx vx g.Parents) (ex : Sub hx w) {vx1 : Value} {hx2 : PH} (r3 : RS hx2 vx1 sx) (ex4 : Sub hx2 w) {vx7 : Value} {hx8 : PH} (r9 : RS hx8 vx7 t.Vars) (ex10 : Sub hx8 w) {vx13 : Value} {hx14 : PH} (r15 : RS hx14 vx13 t.Where) (ex16 : Sub hx14 w) {vx19 : Value} {hx20 : PH} (r21 : RS hx20 vx19 sites) (ex22 : Sub hx20 w) :
  CallsTo Try.prog 33 #[.agg #[vx], vx1, .agg #[I t.Level, vx7, vx13, I t.Sum], vx19] w fun v w' => ∃ r0 r1 u0 g0, Q r0 r1 ∧ v = .tuple #[u0, .bool r1] ∧ Ext w w' ∧ OD g0 u0 r0 ∧ Sub g0 w' ∧ Fresh w.heap.size g0 := by
 obtain ⟨a, c, rfl⟩ := r.shape
 obtain ⟨a5, c6, rfl⟩ := r3.shape
 obtain ⟨a11, c12, rfl⟩ := r9.shape
 obtain ⟨a17, c18, rfl⟩ := r15.shape
 obtain ⟨a23, c24, rfl⟩ := r21.shape
 refine enter (args := [.agg #[sl a g.Parents c], sl a5 sx c6, .agg #[I t.Level, sl a11 t.Vars c12, sl a17 t.Where c18, I t.Sum], sl a23 sites c24]) 53 Try.func33 rfl rfl rfl ?_
 refine W_forget [(0, .agg #[sl a g.Parents c]), (1, sl a5 sx c6), (2, .agg #[I t.Level, sl a11 t.Vars c12, sl a17 t.Where c18, I t.Sum]), (3, sl a23 sites c24)] ⟨rfl, rfl, rfl, rfl, trivial⟩ fun ρ => ?_
 have X := But.refl emp w
 refine W_seq (W_region ?_)
 refine LP_box 0 (cs := [sl a g.Parents c]) rfl rfl rfl rfl rfl fun b wx x ex25 f => ?_
 refine LP_box 1 (cs := [I t.Level, sl a11 t.Vars c12, sl a17 t.Where c18, I t.Sum]) rfl rfl rfl rfl rfl fun b26 wx27 x28 ex29 f30 => ?_
 refine LP_ev ok 2 [(8, .slice none 0 0), (9, .bool false)] 4 rfl rfl ?_
 refine LP_end _ rfl (W_seq ?_)
 obtain ⟨k, hk, H⟩ := jn_elim H
 refine W_join2 (S := Bool) (fun s ρ' w' => k s ∧ ∃ (ρ : Env), ρ' = setAll [(1, sl a5 sx c6), (3, sl a23 sites c24), (4, pb b), (6, pb b26), (27, .bool s)] ρ ∧ But emp w w' ∧ Sub hx w' ∧ Sub hx2 w' ∧ Sub hx8 w' ∧ Sub hx14 w' ∧ Sub hx20 w' ∧ Sub (bx b 36 [sl a g.Parents c]) w' ∧ Sub (bx b26 40 [I t.Level, sl a11 t.Vars c12, sl a17 t.Where c18, I t.Sum]) w') ?_ ?_
 ·refine W_region ?_
  have ex41 := (ex25.ext x28)
  refine LP_ldbox 0 (v := .agg #[sl a g.Parents c]) rfl rfl rfl ti_36 ag_36 (fun h => by cases h) rfl ex41 rfl rfl ?_
  refine LP_ev ok 1 [(14, sl a5 sx c6)] 2 rfl rfl ?_
  refine LP_ldbox 2 (v := .agg #[I t.Level, sl a11 t.Vars c12, sl a17 t.Where c18, I t.Sum]) rfl rfl rfl ti_40 ag_40 (fun h => by cases h) rfl ex29 rfl rfl ?_
  have xc := (x.trans x28)
  have ex43 := (ex.ext xc)
  have ex44 := (ex4.ext xc)
  have ex45 := (ex10.ext xc)
  have ex46 := (ex16.ext xc)
  refine LP_call 3 rfl rfl rfl cal_48 rfl (impl_areTabled_w _ _ _ _ H wx27 r ex43 r3 ex44 r9 ex45 r15 ex46) ?_
  rintro _ wx47 ⟨r42, H, rfl, x48⟩
  refine LP_ev ok 4 [(17, .bool (!r42)), (18, .bool (!r42))] 6 rfl rfl ?_
  refine LP_split 18 (!r42) rfl (fun hc => ?_) (fun hc => ?_)
  ·have H := H.1 hc
   refine LP_ev ok 6 [(19, undef), (20, undef), (21, undef), (22, .bool true), (23, .bool true), (24, undef), (25, undef), (26, undef), (27, .bool true)] 15 rfl rfl ?_
   refine LP_end _ rfl ?_
   have xc49 := (xc.trans x48)
   exact ⟨true, H, _, env_eq ⟨rfl, rfl, rfl, rfl, rfl, trivial⟩, (X.stepx xc49), (ex43.ext x48), (ex44.ext x48), (ex45.ext x48), (ex46.ext x48), (ex22.ext xc49), (ex41.ext x48), (ex29.ext x48)⟩
  have H := H.2 hc
  refine LP_ev ok 6 [(19, sl a23 sites c24), (20, I (ln sites)), (21, .bool (decide ((ln sites) < 2))), (22, .bool (decide ((ln sites) < 2))), (23, .bool (decide ((ln sites) < 2)))] 11 rfl rfl ?_
  refine LP_split 23 (decide ((ln sites) < 2)) rfl (fun hc58 => ?_) (fun hc58 => ?_)
  ·have H := H.1 hc58
   refine LP_ev ok 11 [(24, undef), (25, undef), (26, undef), (27, .bool true)] 15 rfl rfl ?_
   refine LP_end _ rfl ?_
   have xc59 := (xc.trans x48)
   exact ⟨true, H, _, env_eq ⟨rfl, rfl, rfl, rfl, rfl, trivial⟩, (X.stepx xc59), (ex43.ext x48), (ex44.ext x48), (ex45.ext x48), (ex46.ext x48), (ex22.ext xc59), (ex41.ext x48), (ex29.ext x48)⟩
  have H := H.2 hc58
  refine LP_ev ok 11 [(24, sl a23 sites c24), (25, I (ln sites)), (26, .bool (decide ((ln sites) > 8))), (27, .bool (decide ((ln sites) > 8)))] 15 rfl rfl ?_
  refine LP_end _ rfl ?_
  have xc68 := (xc.trans x48)
  exact ⟨decide ((ln sites) > 8), H, _, env_eq ⟨rfl, rfl, rfl, rfl, rfl, trivial⟩, (X.stepx xc68), (ex43.ext x48), (ex44.ext x48), (ex45.ext x48), (ex46.ext x48), (ex22.ext xc68), (ex41.ext x48), (ex29.ext x48)⟩
 rintro x31 _ wx32 ⟨H, ρ, rfl, HF⟩
 revert HF
 refine bb8 fun X40 ex33 ex34 ex35 ex36 ex37 ex38 ex39 => ?_
 subst hk
 refine W_cond (x31) rfl (fun hc77 => ?_) (fun hc77 => ?_)
 ·have H := H.1 hc77
  refine W_seq (W_region ?_)
  refine LP_ev ok 0 [(8, .slice none 0 0), (9, .bool false)] 2 rfl rfl ?_
  refine LP_end _ rfl (W_ret ?_)
  exact ⟨_, Ret_of [.slice none 0 0, .bool false] ⟨⟨rfl, rfl⟩, ⟨rfl, rfl⟩, trivial⟩, _, _, _, emp, H, rfl, X40.ext, OD.nil, (emp_sub _), (emp_fresh _)⟩
 have H := H.2 hc77
 refine W_skip ?_
 refine W_seq (W_region ?_)
 refine LP_ev ok 0 [(28, sl a23 sites c24), (29, I (ln sites))] 2 rfl rfl ?_
 obtain ⟨hn, hb, H⟩ := H
 refine LP_maked (β := Int) 2 rfl rfl rfl Try.underlying33 ti_22 rfl hn (by first | omega | (simp only [ln] at *; omega)) (by first | omega | (simp only [ln] at *; omega)) fun hx78 vx79 wx80 x81 o ex82 f83 => ?_
 obtain ⟨a84, c85, rfl⟩ := o.shape
 refine LP_ev ok 3 [(10, .slice a84 (List.length (List.replicate (Int.toNat (ln sites)) (([] : List Int)))) c85)] 4 rfl rfl ?_
 refine LP_end _ rfl (W_seq ?_)
 refine W_seq (W_region ?_)
 refine LP_ev ok 0 [(31, sl a23 sites c24), (32, I (ln sites)), (33, I 0)] 3 rfl rfl ?_
 refine LP_end _ rfl ?_
 refine W_block ?_
 have f108 := f83.mono X40.size
 obtain ⟨J, m, Hx, H⟩ := H
 refine W_loop (S := (List (List Int)) × Int) (fun s ρ' w' => J s.1 s.2 ∧ ∃ (ρ : Env) (hx87 : PH), ρ' = setAll [(1, sl a5 sx c6), (4, pb b), (6, pb b26), (10, .slice a84 (List.length (List.replicate (Int.toNat (ln sites)) (([] : List Int)))) c85), (31, sl a23 sites c24), (32, I (ln sites)), (33, I s.2)] ρ ∧ But emp w w' ∧ OD hx87 (.slice a84 (List.length (List.replicate (Int.toNat (ln sites)) (([] : List Int)))) c85) s.1 ∧ Sub hx87 w' ∧ Fresh w.heap.size hx87 ∧ Sub hx w' ∧ Sub hx2 w' ∧ Sub hx8 w' ∧ Sub hx14 w' ∧ Sub hx20 w' ∧ Sub (bx b 36 [sl a g.Parents c]) w' ∧ Sub (bx b26 40 [I t.Level, sl a11 t.Vars c12, sl a17 t.Where c18, I t.Sum]) w' ∧ Dj hx87 hx ∧ Dj hx87 hx2 ∧ Dj hx87 hx8 ∧ Dj hx87 hx14 ∧ Dj hx87 hx20 ∧ Dj hx87 (bx b 36 [sl a g.Parents c]) ∧ Dj hx87 (bx b26 40 [I t.Level, sl a11 t.Vars c12, sl a17 t.Where c18, I t.Sum])) (fun s => m s.1 s.2) (List.replicate (Int.toNat (ln sites)) (([] : List Int)), 0) ⟨Hx, _, hx78, env_eq ⟨rfl, rfl, rfl, rfl, rfl, rfl, rfl, trivial⟩, (X40.stepx x81), o, ex82, f108, (ex33.ext x81), (ex34.ext x81), (ex35.ext x81), (ex36.ext x81), (ex37.ext x81), (ex38.ext x81), (ex39.ext x81), (Dj.of_fresh ex33 f83).symm, (Dj.of_fresh ex34 f83).symm, (Dj.of_fresh ex35 f83).symm, (Dj.of_fresh ex36 f83).symm, (Dj.of_fresh ex37 f83).symm, (Dj.of_fresh ex38 f83).symm, (Dj.of_fresh ex39 f83).symm⟩ ?_
 rintro ⟨out, x91⟩ _ wx92 ⟨Hi, ρ, hx87, rfl, HF⟩
 revert HF
 refine bb9 fun X106 o88 ex89 f90 ex93 ex94 ex95 ex96 => ?_
 refine bb9 fun ex97 ex98 ex99 d d100 d101 d102 d103 => ?_
 refine bb2 fun d104 d105 => ?_
 have H := H out x91 Hi
 refine W_seq (W_region ?_)
 refine LP_ev ok 0 [(34, .bool (decide (x91 < (ln sites))))] 1 rfl rfl ?_
 refine LP_end _ rfl (W_seq ?_)
 refine W_cond (decide (x91 < (ln sites))) rfl (fun hc116 => ?_) (fun hc116 => ?_)
 ·have H := H.1 hc116
  refine W_skip ?_
  refine W_seq ?_
  refine W_block ?_
  refine W_seq (W_region ?_)
  refine LP_ev ok 0 [(35, I x91)] 1 rfl rfl ?_
  obtain ⟨x117, hi, hx118, H⟩ := H
  refine LP_index 1 rfl rfl rfl Try.underlying42 ti_62 rfl rfl r21 hi hx118 fun a119 cs r120 d121 => ?_
  refine LP_load 2 rfl rfl rfl ti_62 ag_62 rfl r120 d121 ex97 fun vx122 r123 => ?_
  have r126 := r123.slice
  obtain ⟨a124, c125, rfl⟩ := r126.shape
  refine LP_ev ok 3 [(11, I x91), (12, sl a124 x117 c125)] 5 rfl rfl ?_
  refine LP_end _ rfl (W_seq ?_)
  refine W_seq (W_region ?_)
  refine LP_ldbox 0 (v := .agg #[sl a g.Parents c]) rfl rfl rfl ti_36 ag_36 (fun h => by cases h) rfl ex98 rfl rfl ?_
  refine LP_ev ok 1 [(39, sl a5 sx c6), (40, sl a124 x117 c125)] 3 rfl rfl ?_
  refine LP_call 3 rfl rfl rfl cal_49 rfl (impl_isSurvey_w _ _ _ _ H wx92 r ex93 r3 ex94 r126 ex97) ?_
  rintro _ wx128 ⟨r127, H, rfl, x129⟩
  refine LP_ev ok 4 [(42, .bool (!r127))] 5 rfl rfl ?_
  refine LP_end _ rfl ?_
  refine W_cond (!r127) rfl (fun hc130 => ?_) (fun hc130 => ?_)
  ·have H := H.1 hc130
   refine W_seq (W_region ?_)
   refine LP_ev ok 0 [(8, .slice none 0 0), (9, .bool false)] 2 rfl rfl ?_
   refine LP_end _ rfl (W_ret ?_)
   exact ⟨_, Ret_of [.slice none 0 0, .bool false] ⟨⟨rfl, rfl⟩, ⟨rfl, rfl⟩, trivial⟩, _, _, _, emp, H, rfl, (X106.stepx x129).ext, OD.nil, (emp_sub _), (emp_fresh _)⟩
  have H := H.2 hc130
  refine W_skip ?_
  refine W_region ?_
  refine LP_ev ok 0 [(43, .slice a84 (List.length (List.replicate (Int.toNat (ln sites)) (([] : List Int)))) c85), (44, I x91)] 2 rfl rfl ?_
  have ex132 := (ex98.ext x129)
  refine LP_ldbox 2 (v := .agg #[sl a g.Parents c]) rfl rfl rfl ti_36 ag_36 (fun h => by cases h) rfl ex132 rfl rfl ?_
  refine LP_ev ok 3 [(46, sl a5 sx c6)] 4 rfl rfl ?_
  have ex133 := (ex99.ext x129)
  refine LP_ldbox 4 (v := .agg #[I t.Level, sl a11 t.Vars c12, sl a17 t.Where c18, I t.Sum]) rfl rfl rfl ti_40 ag_40 (fun h => by cases h) rfl ex133 rfl rfl ?_
  refine LP_ev ok 5 [(48, sl a124 x117 c125)] 6 rfl rfl ?_
  have ex135 := (ex93.ext x129)
  have ex136 := (ex94.ext x129)
  have ex137 := (ex95.ext x129)
  have ex138 := (ex96.ext x129)
  have ex139 := (ex97.ext x129)
  refine LP_call 6 rfl rfl rfl cal_50 rfl (impl_tableOf_w _ _ _ _ _ H wx128 r ex135 r3 ex136 r9 ex137 r15 ex138 r126 ex139) ?_
  rintro _ wx140 ⟨r134, vx142, hx143, H, rfl, x141, o144, ex145, f146⟩
  obtain ⟨a147, c148, rfl⟩ := o144.shape
  obtain ⟨hi149, hl, H⟩ := H
  refine LP_indexd (v := .slice a84 (List.length (List.replicate (Int.toNat (ln sites)) (([] : List Int)))) c85) 7 rfl rfl rfl Try.underlying33 ti_22 rfl rfl o88 hi149 hl fun a150 wa => ?_
  have xc156 := (x129.trans x141)
  refine LP_setD (y := r134) 8 rfl rfl rfl rfl rfl wa (OD.rvo (OS.od o144)) (ex89.ext xc156) ex145 (Dj.of_fresh (ex89.ext x129) f146) fun hx151 hw wx152 o153 ex154 y dh dq ex155 => ?_
  refine LP_end _ rfl ?_
  refine W_region ?_
  refine LP_ev ok 0 [(51, I (wr (x91 + 1))), (33, I (wr (x91 + 1)))] 2 rfl rfl ?_
  refine LP_end _ rfl ?_
  have f160 := f146.mono (X106.stepx x129).size
  have f162 := Fresh.domOf (Fresh.un f90 f160) dq
  exact ⟨(List.set out (Int.toNat x91) r134, wr (x91 + 1)), ⟨H.1, _, hx151, env_eq ⟨rfl, rfl, rfl, rfl, rfl, rfl, rfl, trivial⟩, ((X106.stepx xc156).step (But.dom y dh) (f90.dom _)), o153, ex154, f162, ((ex135.ext x141).but (But.dom y dh) d), ((ex136.ext x141).but (But.dom y dh) d100), ((ex137.ext x141).but (But.dom y dh) d101), ((ex138.ext x141).but (But.dom y dh) d102), ((ex139.ext x141).but (But.dom y dh) d103), ((ex132.ext x141).but (But.dom y dh) d104), ((ex133.ext x141).but (But.dom y dh) d105), (Dom.dj dq (Dj.un_l d (Dj.of_fresh ex135 f146).symm)), (Dom.dj dq (Dj.un_l d100 (Dj.of_fresh ex136 f146).symm)), (Dom.dj dq (Dj.un_l d101 (Dj.of_fresh ex137 f146).symm)), (Dom.dj dq (Dj.un_l d102 (Dj.of_fresh ex138 f146).symm)), (Dom.dj dq (Dj.un_l d103 (Dj.of_fresh ex139 f146).symm)), (Dom.dj dq (Dj.un_l d104 (Dj.of_fresh ex132 f146).symm)), (Dom.dj dq (Dj.un_l d105 (Dj.of_fresh ex133 f146).symm))⟩, H.2⟩
 have H := H.2 hc116
 refine W_exit ?_
 refine (if_pos rfl).mpr ?_
 refine W_seq (W_region ?_)
 refine LP_ev ok 0 [(52, .slice a84 (List.length (List.replicate (Int.toNat (ln sites)) (([] : List Int)))) c85), (8, .slice a84 (List.length (List.replicate (Int.toNat (ln sites)) (([] : List Int)))) c85), (9, .bool true)] 3 rfl rfl ?_
 refine LP_end _ rfl (W_ret ?_)
 exact ⟨_, Ret_of [.slice a84 (List.length (List.replicate (Int.toNat (ln sites)) (([] : List Int)))) c85, .bool true] ⟨⟨rfl, rfl⟩, ⟨rfl, rfl⟩, trivial⟩, _, _, _, _, H, rfl, X106.ext, o88, ex89, f90⟩

theorem impl_SiteCells_w (g : Geo) (sx : List Variable) (t : Table) (sites : List (List Record)) (Q : (List (List Int)) → Bool → Prop) (H : impl_SiteCells g sx t sites Q) (w : World) {vx : Value} {hx : PH} (r : RS hx vx g.Parents) (ex : Sub hx w) {vx1 : Value} {hx2 : PH} (r3 : RS hx2 vx1 sx) (ex4 : Sub hx2 w) {vx7 : Value} {hx8 : PH} (r9 : RS hx8 vx7 t.Vars) (ex10 : Sub hx8 w) {vx13 : Value} {hx14 : PH} (r15 : RS hx14 vx13 t.Where) (ex16 : Sub hx14 w) {vx19 : Value} {hx20 : PH} (r21 : RS hx20 vx19 sites) (ex22 : Sub hx20 w) :
  CallsTo Try.prog 13 #[.agg #[vx], vx1, .agg #[I t.Level, vx7, vx13, I t.Sum], vx19] w fun v w' => ∃ r0 r1 u0 g0, Q r0 r1 ∧ v = .tuple #[u0, .bool r1] ∧ Ext w w' ∧ OD g0 u0 r0 ∧ Sub g0 w' ∧ Fresh w.heap.size g0 := by
 obtain ⟨a, c, rfl⟩ := r.shape
 obtain ⟨a5, c6, rfl⟩ := r3.shape
 obtain ⟨a11, c12, rfl⟩ := r9.shape
 obtain ⟨a17, c18, rfl⟩ := r15.shape
 obtain ⟨a23, c24, rfl⟩ := r21.shape
 refine enter (args := [.agg #[sl a g.Parents c], sl a5 sx c6, .agg #[I t.Level, sl a11 t.Vars c12, sl a17 t.Where c18, I t.Sum], sl a23 sites c24]) 17 Try.func13 rfl rfl rfl ?_
 refine W_forget [(0, .agg #[sl a g.Parents c]), (1, sl a5 sx c6), (2, .agg #[I t.Level, sl a11 t.Vars c12, sl a17 t.Where c18, I t.Sum]), (3, sl a23 sites c24)] ⟨rfl, rfl, rfl, rfl, trivial⟩ fun ρ => ?_
 have X := But.refl emp w
 refine W_seq (W_region ?_)
 refine LP_box 0 (cs := [sl a g.Parents c]) rfl rfl rfl rfl rfl fun b wx x ex25 f => ?_
 refine LP_box 1 (cs := [I t.Level, sl a11 t.Vars c12, sl a17 t.Where c18, I t.Sum]) rfl rfl rfl rfl rfl fun b26 wx27 x28 ex29 f30 => ?_
 refine LP_ev ok 2 [(8, .slice none 0 0), (9, .bool false)] 4 rfl rfl ?_
 refine LP_end _ rfl (W_seq (W_region ?_))
 refine LP_ldbox 0 (v := .agg #[sl a g.Parents c]) rfl rfl rfl ti_36 ag_36 (fun h => by cases h) rfl (ex25.ext x28) rfl rfl ?_
 refine LP_ev ok 1 [(11, sl a5 sx c6)] 2 rfl rfl ?_
 refine LP_ldbox 2 (v := .agg #[I t.Level, sl a11 t.Vars c12, sl a17 t.Where c18, I t.Sum]) rfl rfl rfl ti_40 ag_40 (fun h => by cases h) rfl ex29 rfl rfl ?_
 refine LP_ev ok 3 [(13, sl a23 sites c24)] 4 rfl rfl ?_
 have xc := (x.trans x28)
 refine LP_call 4 rfl rfl rfl cal_33 rfl (impl_siteCells_w _ _ _ _ _ H wx27 r (ex.ext xc) r3 (ex4.ext xc) r9 (ex10.ext xc) r15 (ex16.ext xc) r21 (ex22.ext xc)) ?_
 rintro _ wx39 ⟨r32, r33, vx41, hx42, H, rfl, x40, o, ex43, f44⟩
 obtain ⟨a45, c46, rfl⟩ := o.shape
 refine LP_ev ok 5 [(15, sl a45 r32 c46), (16, .bool r33), (8, sl a45 r32 c46), (9, .bool r33)] 9 rfl rfl ?_
 refine LP_end _ rfl (W_ret ?_)
 have X48 := (X.stepx xc)
 have f47 := f44.mono X48.size
 exact ⟨_, Ret_of [sl a45 r32 c46, .bool r33] ⟨⟨rfl, rfl⟩, ⟨rfl, rfl⟩, trivial⟩, _, _, _, _, H, rfl, (X48.stepx x40).ext, o, ex43, f47⟩

theorem laws_eqIntS_w (a : List Int) (b : List Int) (Q : Bool → Prop) (H : laws_eqIntS a b Q) (w : World) {vx : Value} {hx : PH} (r : RS hx vx a) (ex : Sub hx w) {vx2 : Value} {hx3 : PH} (r4 : RS hx3 vx2 b) (ex5 : Sub hx3 w) :
  CallsTo Try.prog 34 #[vx, vx2] w fun v w' => ∃ r0, Q r0 ∧ v = .bool r0 ∧ Ext w w' := by
 obtain ⟨a1, c, rfl⟩ := r.shape
 obtain ⟨a6, c7, rfl⟩ := r4.shape
 refine enter (args := [sl a1 a c, sl a6 b c7]) 26 Try.func34 rfl rfl rfl ?_
 refine W_forget [(0, sl a1 a c), (1, sl a6 b c7)] ⟨rfl, rfl, trivial⟩ fun ρ => ?_
 have X := But.refl emp w
 refine W_seq (W_region ?_)
 refine LP_ev ok 0 [(4, .bool false)] 1 rfl rfl ?_
 refine LP_end _ rfl (W_seq ?_)
 refine W_seq (W_region ?_)
 refine LP_ev ok 0 [(6, sl a1 a c), (7, I (ln a)), (8, sl a6 b c7), (9, I (ln b)), (10, .bool ((ln a) != (ln b)))] 5 rfl rfl ?_
 refine LP_end _ rfl ?_
 refine W_cond ((ln a) != (ln b)) rfl (fun hc => ?_) (fun hc => ?_)
 ·have H := H.1 hc
  refine W_seq (W_region ?_)
  refine LP_ev ok 0 [(4, .bool false)] 1 rfl rfl ?_
  refine LP_end _ rfl (W_ret ?_)
  exact ⟨_, Ret_of [.bool false] ⟨⟨rfl, rfl⟩, trivial⟩, _, H, rfl, X.ext⟩
 have H := H.2 hc
 refine W_skip ?_
 refine W_seq ?_
 refine W_seq (W_region ?_)
 refine LP_ev ok 0 [(5, I 0)] 1 rfl rfl ?_
 refine LP_end _ rfl ?_
 refine W_block ?_
 obtain ⟨J, m, Hx, H⟩ := H
 refine W_loop (S := Int) (fun s ρ' w' => J s ∧ ∃ (ρ : Env), ρ' = setAll [(0, sl a1 a c), (1, sl a6 b c7), (5, I s)] ρ ∧ But emp w w' ∧ Sub hx w' ∧ Sub hx3 w') (fun s => m s) 0 ⟨Hx, _, env_eq ⟨rfl, rfl, rfl, trivial⟩, X, ex, ex5⟩ ?_
 rintro i _ wx ⟨Hi, ρ, rfl, X10, ex8, ex9⟩
 have H := H i Hi
 refine W_seq ?_
 refine W_seq (W_region ?_)
 refine LP_ev ok 0 [(11, I i), (12, sl a1 a c), (13, I (ln a)), (14, .bool (decide (i < (ln a))))] 4 rfl rfl ?_
 refine LP_end _ rfl ?_
 refine W_cond (decide (i < (ln a))) rfl (fun hc11 => ?_) (fun hc11 => ?_)
 ·have H := H.1 hc11
  refine W_skip ?_
  refine W_seq ?_
  refine W_block ?_
  refine W_seq ?_
  refine W_quiet mix (by kernel_rfl) ?_
  refine QP_ev ok 0 [(17, sl a1 a c), (18, I i)] 2 rfl rfl ?_
  obtain ⟨x, hi, hx12, H⟩ := H
  refine QP_index 2 rfl rfl rfl Try.underlying22 ti_3 rfl rfl r hi hx12 fun a13 cs r14 d => ?_
  refine QP_load 3 rfl rfl rfl ti_3 ag_3 rfl r14 d ex8 fun vx15 r16 => ?_
  obtain rfl := r16.int
  refine QP_ev ok 4 [(21, sl a6 b c7), (22, I i)] 6 rfl rfl ?_
  obtain ⟨x17, hi18, hx19, H⟩ := H
  refine QP_index 6 rfl rfl rfl Try.underlying22 ti_3 rfl rfl r4 hi18 hx19 fun a20 cs21 r22 d23 => ?_
  refine QP_load 7 rfl rfl rfl ti_3 ag_3 rfl r22 d23 ex9 fun vx24 r25 => ?_
  obtain rfl := r25.int
  refine QP_ev ok 8 [(25, .bool (x != x17))] 9 rfl rfl ?_
  refine QP_end _ rfl fun wx26 x27 => ?_
  refine W_cond (x != x17) rfl (fun hc28 => ?_) (fun hc28 => ?_)
  ·have H := H.1 hc28
   refine W_seq (W_region ?_)
   refine LP_ev ok 0 [(4, .bool false)] 1 rfl rfl ?_
   refine LP_end _ rfl (W_ret ?_)
   exact ⟨_, Ret_of [.bool false] ⟨⟨rfl, rfl⟩, trivial⟩, _, H, rfl, (X10.stepx x27).ext⟩
  have H := H.2 hc28
  refine W_skip ?_
  refine W_region ?_
  refine LP_ev ok 0 [(15, I i), (16, I (wr (i + 1))), (5, I (wr (i + 1)))] 3 rfl rfl ?_
  exact LP_end _ rfl ⟨wr (i + 1), ⟨H.1, _, env_eq ⟨rfl, rfl, rfl, trivial⟩, (X10.stepx x27), (ex8.ext x27), (ex9.ext x27)⟩, H.2⟩
 have H := H.2 hc11
 refine W_exit ?_
 refine (if_pos rfl).mpr ?_
 refine W_seq (W_region ?_)
 refine LP_ev ok 0 [(4, .bool true)] 1 rfl rfl ?_
 refine LP_end _ rfl (W_ret ?_)
 exact ⟨_, Ret_of [.bool true] ⟨⟨rfl, rfl⟩, trivial⟩, _, H, rfl, X10.ext⟩

theorem laws_eqIntSS_w (a : List (List Int)) (b : List (List Int)) (Q : Bool → Prop) (H : laws_eqIntSS a b Q) (w : World) {vx : Value} {hx : PH} (r : RS hx vx a) (ex : Sub hx w) {vx2 : Value} {hx3 : PH} (r4 : RS hx3 vx2 b) (ex5 : Sub hx3 w) :
  CallsTo Try.prog 14 #[vx, vx2] w fun v w' => ∃ r0, Q r0 ∧ v = .bool r0 ∧ Ext w w' := by
 obtain ⟨a1, c, rfl⟩ := r.shape
 obtain ⟨a6, c7, rfl⟩ := r4.shape
 refine enter (args := [sl a1 a c, sl a6 b c7]) 27 Try.func14 rfl rfl rfl ?_
 refine W_forget [(0, sl a1 a c), (1, sl a6 b c7)] ⟨rfl, rfl, trivial⟩ fun ρ => ?_
 have X := But.refl emp w
 refine W_seq (W_region ?_)
 refine LP_ev ok 0 [(4, .bool false)] 1 rfl rfl ?_
 refine LP_end _ rfl (W_seq ?_)
 refine W_seq (W_region ?_)
 refine LP_ev ok 0 [(6, sl a1 a c), (7, I (ln a)), (8, sl a6 b c7), (9, I (ln b)), (10, .bool ((ln a) != (ln b)))] 5 rfl rfl ?_
 refine LP_end _ rfl ?_
 refine W_cond ((ln a) != (ln b)) rfl (fun hc => ?_) (fun hc => ?_)
 ·have H := H.1 hc
  refine W_seq (W_region ?_)
  refine LP_ev ok 0 [(4, .bool false)] 1 rfl rfl ?_
  refine LP_end _ rfl (W_ret ?_)
  exact ⟨_, Ret_of [.bool false] ⟨⟨rfl, rfl⟩, trivial⟩, _, H, rfl, X.ext⟩
 have H := H.2 hc
 refine W_skip ?_
 refine W_seq ?_
 refine W_seq (W_region ?_)
 refine LP_ev ok 0 [(5, I 0)] 1 rfl rfl ?_
 refine LP_end _ rfl ?_
 refine W_block ?_
 obtain ⟨J, m, Hx, H⟩ := H
 refine W_loop (S := Int) (fun s ρ' w' => J s ∧ ∃ (ρ : Env), ρ' = setAll [(0, sl a1 a c), (1, sl a6 b c7), (5, I s)] ρ ∧ But emp w w' ∧ Sub hx w' ∧ Sub hx3 w') (fun s => m s) 0 ⟨Hx, _, env_eq ⟨rfl, rfl, rfl, trivial⟩, X, ex, ex5⟩ ?_
 rintro i _ wx ⟨Hi, ρ, rfl, X10, ex8, ex9⟩
 have H := H i Hi
 refine W_seq ?_
 refine W_seq (W_region ?_)
 refine LP_ev ok 0 [(11, I i), (12, sl a1 a c), (13, I (ln a)), (14, .bool (decide (i < (ln a))))] 4 rfl rfl ?_
 refine LP_end _ rfl ?_
 refine W_cond (decide (i < (ln a))) rfl (fun hc11 => ?_) (fun hc11 => ?_)
 ·have H := H.1 hc11
  refine W_skip ?_
  refine W_seq ?_
  refine W_block ?_
  refine W_seq ?_
  refine W_quiet mix (by kernel_rfl) ?_
  refine QP_ev ok 0 [(17, sl a1 a c), (18, I i)] 2 rfl rfl ?_
  obtain ⟨x, hi, hx12, H⟩ := H
  refine QP_index 2 rfl rfl rfl Try.underlying33 ti_22 rfl rfl r hi hx12 fun a13 cs r14 d => ?_
  refine QP_load 3 rfl rfl rfl ti_22 ag_22 rfl r14 d ex8 fun vx15 r16 => ?_
  have r19 := r16.slice
  obtain ⟨a17, c18, rfl⟩ := r19.shape
  refine QP_ev ok 4 [(21, sl a6 b c7), (22, I i)] 6 rfl rfl ?_
  obtain ⟨x20, hi21, hx22, H⟩ := H
  refine QP_index 6 rfl rfl rfl Try.underlying33 ti_22 rfl rfl r4 hi21 hx22 fun a23 cs24 r25 d26 => ?_
  refine QP_load 7 rfl rfl rfl ti_22 ag_22 rfl r25 d26 ex9 fun vx27 r28 => ?_
  have r31 := r28.slice
  obtain ⟨a29, c30, rfl⟩ := r31.shape
  obtain ⟨r32, Hd, H⟩ := H
  refine QP_call (.bool r32) 8 rfl rfl rfl cal_34 rfl (fun wx33 x34 => (laws_eqIntS_w _ _ _ Hd wx33 r19 (ex8.ext x34) r31 (ex9.ext x34)).mono ?_) ?_
  ·rintro _ _ ⟨_, rfl, rfl, x⟩; exact ⟨rfl, x⟩
  refine QP_ev ok 9 [(26, .bool (!r32))] 10 rfl rfl ?_
  refine QP_end _ rfl fun wx35 x36 => ?_
  refine W_cond (!r32) rfl (fun hc37 => ?_) (fun hc37 => ?_)
  ·have H := H.1 hc37
   refine W_seq (W_region ?_)
   refine LP_ev ok 0 [(4, .bool false)] 1 rfl rfl ?_
   refine LP_end _ rfl (W_ret ?_)
   exact ⟨_, Ret_of [.bool false] ⟨⟨rfl, rfl⟩, trivial⟩, _, H, rfl, (X10.stepx x36).ext⟩
  have H := H.2 hc37
  refine W_skip ?_
  refine W_region ?_
  refine LP_ev ok 0 [(15, I i), (16, I (wr (i + 1))), (5, I (wr (i + 1)))] 3 rfl rfl ?_
  exact LP_end _ rfl ⟨wr (i + 1), ⟨H.1, _, env_eq ⟨rfl, rfl, rfl, trivial⟩, (X10.stepx x36), (ex8.ext x36), (ex9.ext x36)⟩, H.2⟩
 have H := H.2 hc11
 refine W_exit ?_
 refine (if_pos rfl).mpr ?_
 refine W_seq (W_region ?_)
 refine LP_ev ok 0 [(4, .bool true)] 1 rfl rfl ?_
 refine LP_end _ rfl (W_ret ?_)
 exact ⟨_, Ret_of [.bool true] ⟨⟨rfl, rfl⟩, trivial⟩, _, H, rfl, X10.ext⟩

theorem laws_eqGeo_w (a : Geo) (b : Geo) (Q : Bool → Prop) (H : laws_eqGeo a b Q) (w : World) {vx : Value} {hx : PH} (r : RS hx vx a.Parents) (ex : Sub hx w) {vx2 : Value} {hx3 : PH} (r4 : RS hx3 vx2 b.Parents) (ex5 : Sub hx3 w) :
  CallsTo Try.prog 15 #[.agg #[vx], .agg #[vx2]] w fun v w' => ∃ r0, Q r0 ∧ v = .bool r0 ∧ Ext w w' := by
 obtain ⟨a1, c, rfl⟩ := r.shape
 obtain ⟨a6, c7, rfl⟩ := r4.shape
 refine enter (args := [.agg #[sl a1 a.Parents c], .agg #[sl a6 b.Parents c7]]) 11 Try.func15 rfl rfl rfl ?_
 refine W_forget [(0, .agg #[sl a1 a.Parents c]), (1, .agg #[sl a6 b.Parents c7])] ⟨rfl, rfl, trivial⟩ fun ρ => ?_
 have X := But.refl emp w
 refine W_seq (W_region ?_)
 refine LP_box 0 (cs := [sl a1 a.Parents c]) rfl rfl rfl rfl rfl fun b8 wx x ex9 f => ?_
 refine LP_box 1 (cs := [sl a6 b.Parents c7]) rfl rfl rfl rfl rfl fun b10 wx11 x12 ex13 f14 => ?_
 refine LP_ev ok 2 [(4, .bool false)] 3 rfl rfl ?_
 refine LP_end _ rfl (W_seq ?_)
 refine W_seq (W_region ?_)
 refine LP_ev ok 0 [(5, pb b8)] 1 rfl rfl ?_
 refine LP_ldbox 1 (v := sl a1 a.Parents c) rfl rfl rfl ti_22 ag_22 (fun _ => rfl) rfl (ex9.ext x12) rfl rfl ?_
 refine LP_ev ok 2 [(7, pb b10)] 3 rfl rfl ?_
 refine LP_ldbox 3 (v := sl a6 b.Parents c7) rfl rfl rfl ti_22 ag_22 (fun _ => rfl) rfl ex13 rfl rfl ?_
 have xc := (x.trans x12)
 refine LP_call 4 rfl rfl rfl cal_34 rfl (laws_eqIntS_w _ _ _ H wx11 r (ex.ext xc) r4 (ex5.ext xc)) ?_
 rintro _ wx19 ⟨r16, H, rfl, x20⟩
 refine LP_ev ok 5 [(10, .bool (!r16))] 6 rfl rfl ?_
 refine LP_end _ rfl ?_
 refine W_cond (!r16) rfl (fun hc => ?_) (fun hc => ?_)
 ·have H := H.1 hc
  refine W_seq (W_region ?_)
  refine LP_ev ok 0 [(4, .bool false)] 1 rfl rfl ?_
  refine LP_end _ rfl (W_ret ?_)
  exact ⟨_, Ret_of [.bool false] ⟨⟨rfl, rfl⟩, trivial⟩, _, H, rfl, (X.stepx (xc.trans x20)).ext⟩
 have H := H.2 hc
 refine W_skip ?_
 refine W_seq (W_region ?_)
 refine LP_ev ok 0 [(4, .bool true)] 1 rfl rfl ?_
 refine LP_end _ rfl (W_ret ?_)
 exact ⟨_, Ret_of [.bool true] ⟨⟨rfl, rfl⟩, trivial⟩, _, H, rfl, (X.stepx (xc.trans x20)).ext⟩

theorem laws_eqVariable_w (a : Variable) (b : Variable) (Q : Bool → Prop) (H : laws_eqVariable a b Q) (w : World)  :
  CallsTo Try.prog 35 #[.agg #[.string a.Name, I a.Levels], .agg #[.string b.Name, I b.Levels]] w fun v w' => ∃ r0, Q r0 ∧ v = .bool r0 ∧ Ext w w' := by
 refine enter (args := [.agg #[.string a.Name, I a.Levels], .agg #[.string b.Name, I b.Levels]]) 15 Try.func35 rfl rfl rfl ?_
 refine W_forget [(0, .agg #[.string a.Name, I a.Levels]), (1, .agg #[.string b.Name, I b.Levels])] ⟨rfl, rfl, trivial⟩ fun ρ => ?_
 have X := But.refl emp w
 refine W_seq (W_region ?_)
 refine LP_box 0 (cs := [.string a.Name, I a.Levels]) rfl rfl rfl rfl rfl fun b1 wx x ex f => ?_
 refine LP_box 1 (cs := [.string b.Name, I b.Levels]) rfl rfl rfl rfl rfl fun b2 wx3 x4 ex5 f6 => ?_
 refine LP_ev ok 2 [(4, .bool false)] 3 rfl rfl ?_
 refine LP_end _ rfl (W_seq ?_)
 refine W_seq (W_region ?_)
 refine LP_ev ok 0 [(5, pb b1)] 1 rfl rfl ?_
 have ex7 := (ex.ext x4)
 refine LP_ldbox 1 (v := .string a.Name) rfl rfl rfl ti_9 ag_9 (fun _ => rfl) rfl ex7 rfl rfl ?_
 refine LP_ev ok 2 [(7, pb b2)] 3 rfl rfl ?_
 refine LP_ldbox 3 (v := .string b.Name) rfl rfl rfl ti_9 ag_9 (fun _ => rfl) rfl ex5 rfl rfl ?_
 refine LP_ev ok 4 [(9, .bool (!streq a.Name b.Name))] 5 rfl rfl ?_
 refine LP_end _ rfl ?_
 refine W_cond (!streq a.Name b.Name) rfl (fun hc => ?_) (fun hc => ?_)
 ·have H := H.1 hc
  refine W_seq (W_region ?_)
  refine LP_ev ok 0 [(4, .bool false)] 1 rfl rfl ?_
  refine LP_end _ rfl (W_ret ?_)
  exact ⟨_, Ret_of [.bool false] ⟨⟨rfl, rfl⟩, trivial⟩, _, H, rfl, (X.stepx (x.trans x4)).ext⟩
 have H := H.2 hc
 refine W_skip ?_
 refine W_seq ?_
 refine W_seq (W_region ?_)
 refine LP_ev ok 0 [(10, .pointer (some ⟨b1, 1, none⟩))] 1 rfl rfl ?_
 refine LP_ldbox 1 (v := I a.Levels) rfl rfl rfl ti_3 ag_3 (fun _ => rfl) rfl ex7 rfl rfl ?_
 refine LP_ev ok 2 [(12, .pointer (some ⟨b2, 1, none⟩))] 3 rfl rfl ?_
 refine LP_ldbox 3 (v := I b.Levels) rfl rfl rfl ti_3 ag_3 (fun _ => rfl) rfl ex5 rfl rfl ?_
 refine LP_ev ok 4 [(14, .bool (a.Levels != b.Levels))] 5 rfl rfl ?_
 refine LP_end _ rfl ?_
 refine W_cond (a.Levels != b.Levels) rfl (fun hc9 => ?_) (fun hc9 => ?_)
 ·have H := H.1 hc9
  refine W_seq (W_region ?_)
  refine LP_ev ok 0 [(4, .bool false)] 1 rfl rfl ?_
  refine LP_end _ rfl (W_ret ?_)
  exact ⟨_, Ret_of [.bool false] ⟨⟨rfl, rfl⟩, trivial⟩, _, H, rfl, (X.stepx (x.trans x4)).ext⟩
 have H := H.2 hc9
 refine W_skip ?_
 refine W_seq (W_region ?_)
 refine LP_ev ok 0 [(4, .bool true)] 1 rfl rfl ?_
 refine LP_end _ rfl (W_ret ?_)
 exact ⟨_, Ret_of [.bool true] ⟨⟨rfl, rfl⟩, trivial⟩, _, H, rfl, (X.stepx (x.trans x4)).ext⟩

theorem laws_eqVariableS_w (a : List Variable) (b : List Variable) (Q : Bool → Prop) (H : laws_eqVariableS a b Q) (w : World) {vx : Value} {hx : PH} (r : RS hx vx a) (ex : Sub hx w) {vx2 : Value} {hx3 : PH} (r4 : RS hx3 vx2 b) (ex5 : Sub hx3 w) :
  CallsTo Try.prog 16 #[vx, vx2] w fun v w' => ∃ r0, Q r0 ∧ v = .bool r0 ∧ Ext w w' := by
 obtain ⟨a1, c, rfl⟩ := r.shape
 obtain ⟨a6, c7, rfl⟩ := r4.shape
 refine enter (args := [sl a1 a c, sl a6 b c7]) 27 Try.func16 rfl rfl rfl ?_
 refine W_forget [(0, sl a1 a c), (1, sl a6 b c7)] ⟨rfl, rfl, trivial⟩ fun ρ => ?_
 have X := But.refl emp w
 refine W_seq (W_region ?_)
 refine LP_ev ok 0 [(4, .bool false)] 1 rfl rfl ?_
 refine LP_end _ rfl (W_seq ?_)
 refine W_seq (W_region ?_)
 refine LP_ev ok 0 [(6, sl a1 a c), (7, I (ln a)), (8, sl a6 b c7), (9, I (ln b)), (10, .bool ((ln a) != (ln b)))] 5 rfl rfl ?_
 refine LP_end _ rfl ?_
 refine W_cond ((ln a) != (ln b)) rfl (fun hc => ?_) (fun hc => ?_)
 ·have H := H.1 hc
  refine W_seq (W_region ?_)
  refine LP_ev ok 0 [(4, .bool false)] 1 rfl rfl ?_
  refine LP_end _ rfl (W_ret ?_)
  exact ⟨_, Ret_of [.bool false] ⟨⟨rfl, rfl⟩, trivial⟩, _, H, rfl, X.ext⟩
 have H := H.2 hc
 refine W_skip ?_
 refine W_seq ?_
 refine W_seq (W_region ?_)
 refine LP_ev ok 0 [(5, I 0)] 1 rfl rfl ?_
 refine LP_end _ rfl ?_
 refine W_block ?_
 obtain ⟨J, m, Hx, H⟩ := H
 refine W_loop (S := Int) (fun s ρ' w' => J s ∧ ∃ (ρ : Env), ρ' = setAll [(0, sl a1 a c), (1, sl a6 b c7), (5, I s)] ρ ∧ But emp w w' ∧ Sub hx w' ∧ Sub hx3 w') (fun s => m s) 0 ⟨Hx, _, env_eq ⟨rfl, rfl, rfl, trivial⟩, X, ex, ex5⟩ ?_
 rintro i _ wx ⟨Hi, ρ, rfl, X10, ex8, ex9⟩
 have H := H i Hi
 refine W_seq ?_
 refine W_seq (W_region ?_)
 refine LP_ev ok 0 [(11, I i), (12, sl a1 a c), (13, I (ln a)), (14, .bool (decide (i < (ln a))))] 4 rfl rfl ?_
 refine LP_end _ rfl ?_
 refine W_cond (decide (i < (ln a))) rfl (fun hc11 => ?_) (fun hc11 => ?_)
 ·have H := H.1 hc11
  refine W_skip ?_
  refine W_seq ?_
  refine W_block ?_
  refine W_seq ?_
  refine W_quiet mix (by kernel_rfl) ?_
  refine QP_ev ok 0 [(17, sl a1 a c), (18, I i)] 2 rfl rfl ?_
  obtain ⟨x, hi, hx12, H⟩ := H
  refine QP_index 2 rfl rfl rfl Try.underlying38 ti_65 rfl rfl r hi hx12 fun a13 cs r14 d => ?_
  refine QP_load 3 rfl rfl rfl ti_65 ag_65 rfl r14 d ex8 fun vx15 r16 => ?_
  obtain rfl := Variable_rv r16
  refine QP_ev ok 4 [(21, sl a6 b c7), (22, I i)] 6 rfl rfl ?_
  obtain ⟨x17, hi18, hx19, H⟩ := H
  refine QP_index 6 rfl rfl rfl Try.underlying38 ti_65 rfl rfl r4 hi18 hx19 fun a20 cs21 r22 d23 => ?_
  refine QP_load 7 rfl rfl rfl ti_65 ag_65 rfl r22 d23 ex9 fun vx24 r25 => ?_
  obtain rfl := Variable_rv r25
  obtain ⟨r26, Hd, H⟩ := H
  refine QP_call (.bool r26) 8 rfl rfl rfl cal_35 rfl (fun wx27 x28 => (laws_eqVariable_w _ _ _ Hd wx27 ).mono ?_) ?_
  ·rintro _ _ ⟨_, rfl, rfl, x⟩; exact ⟨rfl, x⟩
  refine QP_ev ok 9 [(26, .bool (!r26))] 10 rfl rfl ?_
  refine QP_end _ rfl fun wx29 x30 => ?_
  refine W_cond (!r26) rfl (fun hc31 => ?_) (fun hc31 => ?_)
  ·have H := H.1 hc31
   refine W_seq (W_region ?_)
   refine LP_ev ok 0 [(4, .bool false)] 1 rfl rfl ?_
   refine LP_end _ rfl (W_ret ?_)
   exact ⟨_, Ret_of [.bool false] ⟨⟨rfl, rfl⟩, trivial⟩, _, H, rfl, (X10.stepx x30).ext⟩
  have H := H.2 hc31
  refine W_skip ?_
  refine W_region ?_
  refine LP_ev ok 0 [(15, I i), (16, I (wr (i + 1))), (5, I (wr (i + 1)))] 3 rfl rfl ?_
  exact LP_end _ rfl ⟨wr (i + 1), ⟨H.1, _, env_eq ⟨rfl, rfl, rfl, trivial⟩, (X10.stepx x30), (ex8.ext x30), (ex9.ext x30)⟩, H.2⟩
 have H := H.2 hc11
 refine W_exit ?_
 refine (if_pos rfl).mpr ?_
 refine W_seq (W_region ?_)
 refine LP_ev ok 0 [(4, .bool true)] 1 rfl rfl ?_
 refine LP_end _ rfl (W_ret ?_)
 exact ⟨_, Ret_of [.bool true] ⟨⟨rfl, rfl⟩, trivial⟩, _, H, rfl, X10.ext⟩

theorem laws_eqTable_w (a : Table) (b : Table) (Q : Bool → Prop) (H : laws_eqTable a b Q) (w : World) {vx : Value} {hx : PH} (r : RS hx vx a.Vars) (ex : Sub hx w) {vx2 : Value} {hx3 : PH} (r4 : RS hx3 vx2 a.Where) (ex5 : Sub hx3 w) {vx8 : Value} {hx9 : PH} (r10 : RS hx9 vx8 b.Vars) (ex11 : Sub hx9 w) {vx14 : Value} {hx15 : PH} (r16 : RS hx15 vx14 b.Where) (ex17 : Sub hx15 w) :
  CallsTo Try.prog 17 #[.agg #[I a.Level, vx, vx2, I a.Sum], .agg #[I b.Level, vx8, vx14, I b.Sum]] w fun v w' => ∃ r0, Q r0 ∧ v = .bool r0 ∧ Ext w w' := by
 obtain ⟨a1, c, rfl⟩ := r.shape
 obtain ⟨a6, c7, rfl⟩ := r4.shape
 obtain ⟨a12, c13, rfl⟩ := r10.shape
 obtain ⟨a18, c19, rfl⟩ := r16.shape
 refine enter (args := [.agg #[I a.Level, sl a1 a.Vars c, sl a6 a.Where c7, I a.Sum], .agg #[I b.Level, sl a12 b.Vars c13, sl a18 b.Where c19, I b.Sum]]) 27 Try.func17 rfl rfl rfl ?_
 refine W_forget [(0, .agg #[I a.Level, sl a1 a.Vars c, sl a6 a.Where c7, I a.Sum]), (1, .agg #[I b.Level, sl a12 b.Vars c13, sl a18 b.Where c19, I b.Sum])] ⟨rfl, rfl, trivial⟩ fun ρ => ?_
 have X := But.refl emp w
 refine W_seq (W_region ?_)
 refine LP_box 0 (cs := [I a.Level, sl a1 a.Vars c, sl a6 a.Where c7, I a.Sum]) rfl rfl rfl rfl rfl fun b20 wx x ex21 f => ?_
 refine LP_box 1 (cs := [I b.Level, sl a12 b.Vars c13, sl a18 b.Where c19, I b.Sum]) rfl rfl rfl rfl rfl fun b22 wx23 x24 ex25 f26 => ?_
 refine LP_ev ok 2 [(4, .bool false)] 3 rfl rfl ?_
 refine LP_end _ rfl (W_seq ?_)
 refine W_seq (W_region ?_)
 refine LP_ev ok 0 [(5, pb b20)] 1 rfl rfl ?_
 have ex27 := (ex21.ext x24)
 refine LP_ldbox 1 (v := I a.Level) rfl rfl rfl ti_3 ag_3 (fun _ => rfl) rfl ex27 rfl rfl ?_
 refine LP_ev ok 2 [(7, pb b22)] 3 rfl rfl ?_
 refine LP_ldbox 3 (v := I b.Level) rfl rfl rfl ti_3 ag_3 (fun _ => rfl) rfl ex25 rfl rfl ?_
 refine LP_ev ok 4 [(9, .bool (a.Level != b.Level))] 5 rfl rfl ?_
 refine LP_end _ rfl ?_
 refine W_cond (a.Level != b.Level) rfl (fun hc => ?_) (fun hc => ?_)
 ·have H := H.1 hc
  refine W_seq (W_region ?_)
  refine LP_ev ok 0 [(4, .bool false)] 1 rfl rfl ?_
  refine LP_end _ rfl (W_ret ?_)
  exact ⟨_, Ret_of [.bool false] ⟨⟨rfl, rfl⟩, trivial⟩, _, H, rfl, (X.stepx (x.trans x24)).ext⟩
 have H := H.2 hc
 refine W_skip ?_
 refine W_seq ?_
 refine W_seq (W_region ?_)
 refine LP_ev ok 0 [(10, .pointer (some ⟨b20, 1, none⟩))] 1 rfl rfl ?_
 refine LP_ldbox 1 (v := sl a1 a.Vars c) rfl rfl rfl ti_22 ag_22 (fun _ => rfl) rfl ex27 rfl rfl ?_
 refine LP_ev ok 2 [(12, .pointer (some ⟨b22, 1, none⟩))] 3 rfl rfl ?_
 refine LP_ldbox 3 (v := sl a12 b.Vars c13) rfl rfl rfl ti_22 ag_22 (fun _ => rfl) rfl ex25 rfl rfl ?_
 have xc30 := (x.trans x24)
 refine LP_call 4 rfl rfl rfl cal_34 rfl (laws_eqIntS_w _ _ _ H wx23 r (ex.ext xc30) r10 (ex11.ext xc30)) ?_
 rintro _ wx33 ⟨r29, H, rfl, x34⟩
 refine LP_ev ok 5 [(15, .bool (!r29))] 6 rfl rfl ?_
 refine LP_end _ rfl ?_
 refine W_cond (!r29) rfl (fun hc35 => ?_) (fun hc35 => ?_)
 ·have H := H.1 hc35
  refine W_seq (W_region ?_)
  refine LP_ev ok 0 [(4, .bool false)] 1 rfl rfl ?_
  refine LP_end _ rfl (W_ret ?_)
  exact ⟨_, Ret_of [.bool false] ⟨⟨rfl, rfl⟩, trivial⟩, _, H, rfl, (X.stepx (xc30.trans x34)).ext⟩
 have H := H.2 hc35
 refine W_skip ?_
 refine W_seq ?_
 refine W_seq (W_region ?_)
 refine LP_ev ok 0 [(16, .pointer (some ⟨b20, 2, none⟩))] 1 rfl rfl ?_
 have ex38 := (ex27.ext x34)
 refine LP_ldbox 1 (v := sl a6 a.Where c7) rfl rfl rfl ti_22 ag_22 (fun _ => rfl) rfl ex38 rfl rfl ?_
 refine LP_ev ok 2 [(18, .pointer (some ⟨b22, 2, none⟩))] 3 rfl rfl ?_
 have ex39 := (ex25.ext x34)
 refine LP_ldbox 3 (v := sl a18 b.Where c19) rfl rfl rfl ti_22 ag_22 (fun _ => rfl) rfl ex39 rfl rfl ?_
 have xc41 := (xc30.trans x34)
 refine LP_call 4 rfl rfl rfl cal_34 rfl (laws_eqIntS_w _ _ _ H wx33 r4 (ex5.ext xc41) r16 (ex17.ext xc41)) ?_
 rintro _ wx44 ⟨r40, H, rfl, x45⟩
 refine LP_ev ok 5 [(21, .bool (!r40))] 6 rfl rfl ?_
 refine LP_end _ rfl ?_
 refine W_cond (!r40) rfl (fun hc46 => ?_) (fun hc46 => ?_)
 ·have H := H.1 hc46
  refine W_seq (W_region ?_)
  refine LP_ev ok 0 [(4, .bool false)] 1 rfl rfl ?_
  refine LP_end _ rfl (W_ret ?_)
  exact ⟨_, Ret_of [.bool false] ⟨⟨rfl, rfl⟩, trivial⟩, _, H, rfl, (X.stepx (xc41.trans x45)).ext⟩
 have H := H.2 hc46
 refine W_skip ?_
 refine W_seq ?_
 refine W_seq (W_region ?_)
 refine LP_ev ok 0 [(22, .pointer (some ⟨b20, 3, none⟩))] 1 rfl rfl ?_
 refine LP_ldbox 1 (v := I a.Sum) rfl rfl rfl ti_3 ag_3 (fun _ => rfl) rfl (ex38.ext x45) rfl rfl ?_
 refine LP_ev ok 2 [(24, .pointer (some ⟨b22, 3, none⟩))] 3 rfl rfl ?_
 refine LP_ldbox 3 (v := I b.Sum) rfl rfl rfl ti_3 ag_3 (fun _ => rfl) rfl (ex39.ext x45) rfl rfl ?_
 refine LP_ev ok 4 [(26, .bool (a.Sum != b.Sum))] 5 rfl rfl ?_
 refine LP_end _ rfl ?_
 try refine W_forget [(26, .bool (a.Sum != b.Sum))] ⟨rfl, trivial⟩ fun ρ => ?_
 refine W_cond (a.Sum != b.Sum) rfl (fun hc51 => ?_) (fun hc51 => ?_)
 ·have H := H.1 hc51
  refine W_seq (W_region ?_)
  refine LP_ev ok 0 [(4, .bool false)] 1 rfl rfl ?_
  refine LP_end _ rfl (W_ret ?_)
  exact ⟨_, Ret_of [.bool false] ⟨⟨rfl, rfl⟩, trivial⟩, _, H, rfl, (X.stepx (xc41.trans x45)).ext⟩
 have H := H.2 hc51
 refine W_skip ?_
 refine W_seq (W_region ?_)
 refine LP_ev ok 0 [(4, .bool true)] 1 rfl rfl ?_
 refine LP_end _ rfl (W_ret ?_)
 exact ⟨_, Ret_of [.bool true] ⟨⟨rfl, rfl⟩, trivial⟩, _, H, rfl, (X.stepx (xc41.trans x45)).ext⟩

theorem laws_eqRecord_w (a : Record) (b : Record) (Q : Bool → Prop) (H : laws_eqRecord a b Q) (w : World) {vx : Value} {hx : PH} (r : RS hx vx a.Values) (ex : Sub hx w) {vx2 : Value} {hx3 : PH} (r4 : RS hx3 vx2 b.Values) (ex5 : Sub hx3 w) :
  CallsTo Try.prog 51 #[.agg #[I a.Area, I a.House, vx], .agg #[I b.Area, I b.House, vx2]] w fun v w' => ∃ r0, Q r0 ∧ v = .bool r0 ∧ Ext w w' := by
 obtain ⟨a1, c, rfl⟩ := r.shape
 obtain ⟨a6, c7, rfl⟩ := r4.shape
 refine enter (args := [.agg #[I a.Area, I a.House, sl a1 a.Values c], .agg #[I b.Area, I b.House, sl a6 b.Values c7]]) 21 Try.func51 rfl rfl rfl ?_
 refine W_forget [(0, .agg #[I a.Area, I a.House, sl a1 a.Values c]), (1, .agg #[I b.Area, I b.House, sl a6 b.Values c7])] ⟨rfl, rfl, trivial⟩ fun ρ => ?_
 have X := But.refl emp w
 refine W_seq (W_region ?_)
 refine LP_box 0 (cs := [I a.Area, I a.House, sl a1 a.Values c]) rfl rfl rfl rfl rfl fun b8 wx x ex9 f => ?_
 refine LP_box 1 (cs := [I b.Area, I b.House, sl a6 b.Values c7]) rfl rfl rfl rfl rfl fun b10 wx11 x12 ex13 f14 => ?_
 refine LP_ev ok 2 [(4, .bool false)] 3 rfl rfl ?_
 refine LP_end _ rfl (W_seq ?_)
 refine W_seq (W_region ?_)
 refine LP_ev ok 0 [(5, pb b8)] 1 rfl rfl ?_
 have ex15 := (ex9.ext x12)
 refine LP_ldbox 1 (v := I a.Area) rfl rfl rfl ti_3 ag_3 (fun _ => rfl) rfl ex15 rfl rfl ?_
 refine LP_ev ok 2 [(7, pb b10)] 3 rfl rfl ?_
 refine LP_ldbox 3 (v := I b.Area) rfl rfl rfl ti_3 ag_3 (fun _ => rfl) rfl ex13 rfl rfl ?_
 refine LP_ev ok 4 [(9, .bool (a.Area != b.Area))] 5 rfl rfl ?_
 refine LP_end _ rfl ?_
 refine W_cond (a.Area != b.Area) rfl (fun hc => ?_) (fun hc => ?_)
 ·have H := H.1 hc
  refine W_seq (W_region ?_)
  refine LP_ev ok 0 [(4, .bool false)] 1 rfl rfl ?_
  refine LP_end _ rfl (W_ret ?_)
  exact ⟨_, Ret_of [.bool false] ⟨⟨rfl, rfl⟩, trivial⟩, _, H, rfl, (X.stepx (x.trans x12)).ext⟩
 have H := H.2 hc
 refine W_skip ?_
 refine W_seq ?_
 refine W_seq (W_region ?_)
 refine LP_ev ok 0 [(10, .pointer (some ⟨b8, 1, none⟩))] 1 rfl rfl ?_
 refine LP_ldbox 1 (v := I a.House) rfl rfl rfl ti_3 ag_3 (fun _ => rfl) rfl ex15 rfl rfl ?_
 refine LP_ev ok 2 [(12, .pointer (some ⟨b10, 1, none⟩))] 3 rfl rfl ?_
 refine LP_ldbox 3 (v := I b.House) rfl rfl rfl ti_3 ag_3 (fun _ => rfl) rfl ex13 rfl rfl ?_
 refine LP_ev ok 4 [(14, .bool (a.House != b.House))] 5 rfl rfl ?_
 refine LP_end _ rfl ?_
 refine W_cond (a.House != b.House) rfl (fun hc17 => ?_) (fun hc17 => ?_)
 ·have H := H.1 hc17
  refine W_seq (W_region ?_)
  refine LP_ev ok 0 [(4, .bool false)] 1 rfl rfl ?_
  refine LP_end _ rfl (W_ret ?_)
  exact ⟨_, Ret_of [.bool false] ⟨⟨rfl, rfl⟩, trivial⟩, _, H, rfl, (X.stepx (x.trans x12)).ext⟩
 have H := H.2 hc17
 refine W_skip ?_
 refine W_seq ?_
 refine W_seq (W_region ?_)
 refine LP_ev ok 0 [(15, .pointer (some ⟨b8, 2, none⟩))] 1 rfl rfl ?_
 refine LP_ldbox 1 (v := sl a1 a.Values c) rfl rfl rfl ti_22 ag_22 (fun _ => rfl) rfl ex15 rfl rfl ?_
 refine LP_ev ok 2 [(17, .pointer (some ⟨b10, 2, none⟩))] 3 rfl rfl ?_
 refine LP_ldbox 3 (v := sl a6 b.Values c7) rfl rfl rfl ti_22 ag_22 (fun _ => rfl) rfl ex13 rfl rfl ?_
 have xc21 := (x.trans x12)
 refine LP_call 4 rfl rfl rfl cal_34 rfl (laws_eqIntS_w _ _ _ H wx11 r (ex.ext xc21) r4 (ex5.ext xc21)) ?_
 rintro _ wx24 ⟨r20, H, rfl, x25⟩
 refine LP_ev ok 5 [(20, .bool (!r20))] 6 rfl rfl ?_
 refine LP_end _ rfl ?_
 refine W_cond (!r20) rfl (fun hc26 => ?_) (fun hc26 => ?_)
 ·have H := H.1 hc26
  refine W_seq (W_region ?_)
  refine LP_ev ok 0 [(4, .bool false)] 1 rfl rfl ?_
  refine LP_end _ rfl (W_ret ?_)
  exact ⟨_, Ret_of [.bool false] ⟨⟨rfl, rfl⟩, trivial⟩, _, H, rfl, (X.stepx (xc21.trans x25)).ext⟩
 have H := H.2 hc26
 refine W_skip ?_
 refine W_seq (W_region ?_)
 refine LP_ev ok 0 [(4, .bool true)] 1 rfl rfl ?_
 refine LP_end _ rfl (W_ret ?_)
 exact ⟨_, Ret_of [.bool true] ⟨⟨rfl, rfl⟩, trivial⟩, _, H, rfl, (X.stepx (xc21.trans x25)).ext⟩

theorem laws_eqRecordS_w (a : List Record) (b : List Record) (Q : Bool → Prop) (H : laws_eqRecordS a b Q) (w : World) {vx : Value} {hx : PH} (r : RS hx vx a) (ex : Sub hx w) {vx2 : Value} {hx3 : PH} (r4 : RS hx3 vx2 b) (ex5 : Sub hx3 w) :
  CallsTo Try.prog 36 #[vx, vx2] w fun v w' => ∃ r0, Q r0 ∧ v = .bool r0 ∧ Ext w w' := by
 obtain ⟨a1, c, rfl⟩ := r.shape
 obtain ⟨a6, c7, rfl⟩ := r4.shape
 refine enter (args := [sl a1 a c, sl a6 b c7]) 27 Try.func36 rfl rfl rfl ?_
 refine W_forget [(0, sl a1 a c), (1, sl a6 b c7)] ⟨rfl, rfl, trivial⟩ fun ρ => ?_
 have X := But.refl emp w
 refine W_seq (W_region ?_)
 refine LP_ev ok 0 [(4, .bool false)] 1 rfl rfl ?_
 refine LP_end _ rfl (W_seq ?_)
 refine W_seq (W_region ?_)
 refine LP_ev ok 0 [(6, sl a1 a c), (7, I (ln a)), (8, sl a6 b c7), (9, I (ln b)), (10, .bool ((ln a) != (ln b)))] 5 rfl rfl ?_
 refine LP_end _ rfl ?_
 refine W_cond ((ln a) != (ln b)) rfl (fun hc => ?_) (fun hc => ?_)
 ·have H := H.1 hc
  refine W_seq (W_region ?_)
  refine LP_ev ok 0 [(4, .bool false)] 1 rfl rfl ?_
  refine LP_end _ rfl (W_ret ?_)
  exact ⟨_, Ret_of [.bool false] ⟨⟨rfl, rfl⟩, trivial⟩, _, H, rfl, X.ext⟩
 have H := H.2 hc
 refine W_skip ?_
 refine W_seq ?_
 refine W_seq (W_region ?_)
 refine LP_ev ok 0 [(5, I 0)] 1 rfl rfl ?_
 refine LP_end _ rfl ?_
 refine W_block ?_
 obtain ⟨J, m, Hx, H⟩ := H
 refine W_loop (S := Int) (fun s ρ' w' => J s ∧ ∃ (ρ : Env), ρ' = setAll [(0, sl a1 a c), (1, sl a6 b c7), (5, I s)] ρ ∧ But emp w w' ∧ Sub hx w' ∧ Sub hx3 w') (fun s => m s) 0 ⟨Hx, _, env_eq ⟨rfl, rfl, rfl, trivial⟩, X, ex, ex5⟩ ?_
 rintro i _ wx ⟨Hi, ρ, rfl, X10, ex8, ex9⟩
 have H := H i Hi
 refine W_seq ?_
 refine W_seq (W_region ?_)
 refine LP_ev ok 0 [(11, I i), (12, sl a1 a c), (13, I (ln a)), (14, .bool (decide (i < (ln a))))] 4 rfl rfl ?_
 refine LP_end _ rfl ?_
 refine W_cond (decide (i < (ln a))) rfl (fun hc11 => ?_) (fun hc11 => ?_)
 ·have H := H.1 hc11
  refine W_skip ?_
  refine W_seq ?_
  refine W_block ?_
  refine W_seq ?_
  refine W_quiet mix (by kernel_rfl) ?_
  refine QP_ev ok 0 [(17, sl a1 a c), (18, I i)] 2 rfl rfl ?_
  obtain ⟨x, hi, hx12, H⟩ := H
  refine QP_index 2 rfl rfl rfl Try.underlying62 ti_80 rfl rfl r hi hx12 fun a13 cs r14 d => ?_
  have d15 := d
  obtain ⟨u, rfl, r16⟩ := Record_rd d15
  obtain ⟨a17, c18, rfl⟩ := r16.shape
  refine QP_load 3 rfl rfl rfl ti_80 ag_80 rfl r14 d ex8 fun vx19 r20 => ?_
  obtain ⟨u21, rfl, r22⟩ := Record_rv r20
  obtain ⟨a23, c24, rfl⟩ := r22.shape
  refine QP_ev ok 4 [(21, sl a6 b c7), (22, I i)] 6 rfl rfl ?_
  obtain ⟨x25, hi26, hx27, H⟩ := H
  refine QP_index 6 rfl rfl rfl Try.underlying62 ti_80 rfl rfl r4 hi26 hx27 fun a28 cs29 r30 d31 => ?_
  have d32 := d31
  obtain ⟨u33, rfl, r34⟩ := Record_rd d32
  obtain ⟨a35, c36, rfl⟩ := r34.shape
  refine QP_load 7 rfl rfl rfl ti_80 ag_80 rfl r30 d31 ex9 fun vx37 r38 => ?_
  obtain ⟨u39, rfl, r40⟩ := Record_rv r38
  obtain ⟨a41, c42, rfl⟩ := r40.shape
  obtain ⟨r43, Hd, H⟩ := H
  refine QP_call (.bool r43) 8 rfl rfl rfl cal_51 rfl (fun wx44 x45 => (laws_eqRecord_w _ _ _ Hd wx44 r22 (ex8.ext x45) r40 (ex9.ext x45)).mono ?_) ?_
  ·rintro _ _ ⟨_, rfl, rfl, x⟩; exact ⟨rfl, x⟩
  refine QP_ev ok 9 [(26, .bool (!r43))] 10 rfl rfl ?_
  refine QP_end _ rfl fun wx46 x47 => ?_
  refine W_cond (!r43) rfl (fun hc48 => ?_) (fun hc48 => ?_)
  ·have H := H.1 hc48
   refine W_seq (W_region ?_)
   refine LP_ev ok 0 [(4, .bool false)] 1 rfl rfl ?_
   refine LP_end _ rfl (W_ret ?_)
   exact ⟨_, Ret_of [.bool false] ⟨⟨rfl, rfl⟩, trivial⟩, _, H, rfl, (X10.stepx x47).ext⟩
  have H := H.2 hc48
  refine W_skip ?_
  refine W_region ?_
  refine LP_ev ok 0 [(15, I i), (16, I (wr (i + 1))), (5, I (wr (i + 1)))] 3 rfl rfl ?_
  exact LP_end _ rfl ⟨wr (i + 1), ⟨H.1, _, env_eq ⟨rfl, rfl, rfl, trivial⟩, (X10.stepx x47), (ex8.ext x47), (ex9.ext x47)⟩, H.2⟩
 have H := H.2 hc11
 refine W_exit ?_
 refine (if_pos rfl).mpr ?_
 refine W_seq (W_region ?_)
 refine LP_ev ok 0 [(4, .bool true)] 1 rfl rfl ?_
 refine LP_end _ rfl (W_ret ?_)
 exact ⟨_, Ret_of [.bool true] ⟨⟨rfl, rfl⟩, trivial⟩, _, H, rfl, X10.ext⟩

theorem laws_eqRecordSS_w (a : List (List Record)) (b : List (List Record)) (Q : Bool → Prop) (H : laws_eqRecordSS a b Q) (w : World) {vx : Value} {hx : PH} (r : RS hx vx a) (ex : Sub hx w) {vx2 : Value} {hx3 : PH} (r4 : RS hx3 vx2 b) (ex5 : Sub hx3 w) :
  CallsTo Try.prog 18 #[vx, vx2] w fun v w' => ∃ r0, Q r0 ∧ v = .bool r0 ∧ Ext w w' := by
 obtain ⟨a1, c, rfl⟩ := r.shape
 obtain ⟨a6, c7, rfl⟩ := r4.shape
 refine enter (args := [sl a1 a c, sl a6 b c7]) 27 Try.func18 rfl rfl rfl ?_
 refine W_forget [(0, sl a1 a c), (1, sl a6 b c7)] ⟨rfl, rfl, trivial⟩ fun ρ => ?_
 have X := But.refl emp w
 refine W_seq (W_region ?_)
 refine LP_ev ok 0 [(4, .bool false)] 1 rfl rfl ?_
 refine LP_end _ rfl (W_seq ?_)
 refine W_seq (W_region ?_)
 refine LP_ev ok 0 [(6, sl a1 a c), (7, I (ln a)), (8, sl a6 b c7), (9, I (ln b)), (10, .bool ((ln a) != (ln b)))] 5 rfl rfl ?_
 refine LP_end _ rfl ?_
 refine W_cond ((ln a) != (ln b)) rfl (fun hc => ?_) (fun hc => ?_)
 ·have H := H.1 hc
  refine W_seq (W_region ?_)
  refine LP_ev ok 0 [(4, .bool false)] 1 rfl rfl ?_
  refine LP_end _ rfl (W_ret ?_)
  exact ⟨_, Ret_of [.bool false] ⟨⟨rfl, rfl⟩, trivial⟩, _, H, rfl, X.ext⟩
 have H := H.2 hc
 refine W_skip ?_
 refine W_seq ?_
 refine W_seq (W_region ?_)
 refine LP_ev ok 0 [(5, I 0)] 1 rfl rfl ?_
 refine LP_end _ rfl ?_
 refine W_block ?_
 obtain ⟨J, m, Hx, H⟩ := H
 refine W_loop (S := Int) (fun s ρ' w' => J s ∧ ∃ (ρ : Env), ρ' = setAll [(0, sl a1 a c), (1, sl a6 b c7), (5, I s)] ρ ∧ But emp w w' ∧ Sub hx w' ∧ Sub hx3 w') (fun s => m s) 0 ⟨Hx, _, env_eq ⟨rfl, rfl, rfl, trivial⟩, X, ex, ex5⟩ ?_
 rintro i _ wx ⟨Hi, ρ, rfl, X10, ex8, ex9⟩
 have H := H i Hi
 refine W_seq ?_
 refine W_seq (W_region ?_)
 refine LP_ev ok 0 [(11, I i), (12, sl a1 a c), (13, I (ln a)), (14, .bool (decide (i < (ln a))))] 4 rfl rfl ?_
 refine LP_end _ rfl ?_
 refine W_cond (decide (i < (ln a))) rfl (fun hc11 => ?_) (fun hc11 => ?_)
 ·have H := H.1 hc11
  refine W_skip ?_
  refine W_seq ?_
  refine W_block ?_
  refine W_seq ?_
  refine W_quiet mix (by kernel_rfl) ?_
  refine QP_ev ok 0 [(17, sl a1 a c), (18, I i)] 2 rfl rfl ?_
  obtain ⟨x, hi, hx12, H⟩ := H
  refine QP_index 2 rfl rfl rfl Try.underlying42 ti_62 rfl rfl r hi hx12 fun a13 cs r14 d => ?_
  refine QP_load 3 rfl rfl rfl ti_62 ag_62 rfl r14 d ex8 fun vx15 r16 => ?_
  have r19 := r16.slice
  obtain ⟨a17, c18, rfl⟩ := r19.shape
  refine QP_ev ok 4 [(21, sl a6 b c7), (22, I i)] 6 rfl rfl ?_
  obtain ⟨x20, hi21, hx22, H⟩ := H
  refine QP_index 6 rfl rfl rfl Try.underlying42 ti_62 rfl rfl r4 hi21 hx22 fun a23 cs24 r25 d26 => ?_
  refine QP_load 7 rfl rfl rfl ti_62 ag_62 rfl r25 d26 ex9 fun vx27 r28 => ?_
  have r31 := r28.slice
  obtain ⟨a29, c30, rfl⟩ := r31.shape
  obtain ⟨r32, Hd, H⟩ := H
  refine QP_call (.bool r32) 8 rfl rfl rfl cal_36 rfl (fun wx33 x34 => (laws_eqRecordS_w _ _ _ Hd wx33 r19 (ex8.ext x34) r31 (ex9.ext x34)).mono ?_) ?_
  ·rintro _ _ ⟨_, rfl, rfl, x⟩; exact ⟨rfl, x⟩
  refine QP_ev ok 9 [(26, .bool (!r32))] 10 rfl rfl ?_
  refine QP_end _ rfl fun wx35 x36 => ?_
  refine W_cond (!r32) rfl (fun hc37 => ?_) (fun hc37 => ?_)
  ·have H := H.1 hc37
   refine W_seq (W_region ?_)
   refine LP_ev ok 0 [(4, .bool false)] 1 rfl rfl ?_
   refine LP_end _ rfl (W_ret ?_)
   exact ⟨_, Ret_of [.bool false] ⟨⟨rfl, rfl⟩, trivial⟩, _, H, rfl, (X10.stepx x36).ext⟩
  have H := H.2 hc37
  refine W_skip ?_
  refine W_region ?_
  refine LP_ev ok 0 [(15, I i), (16, I (wr (i + 1))), (5, I (wr (i + 1)))] 3 rfl rfl ?_
  exact LP_end _ rfl ⟨wr (i + 1), ⟨H.1, _, env_eq ⟨rfl, rfl, rfl, trivial⟩, (X10.stepx x36), (ex8.ext x36), (ex9.ext x36)⟩, H.2⟩
 have H := H.2 hc11
 refine W_exit ?_
 refine (if_pos rfl).mpr ?_
 refine W_seq (W_region ?_)
 refine LP_ev ok 0 [(4, .bool true)] 1 rfl rfl ?_
 refine LP_end _ rfl (W_ret ?_)
 exact ⟨_, Ret_of [.bool true] ⟨⟨rfl, rfl⟩, trivial⟩, _, H, rfl, X10.ext⟩

theorem laws_markIntS_w (a : List Int) (k : Int) (Q : Int → (List Int) → Prop) (H : laws_markIntS a k Q) (w : World) {vx : Value} {hx : PH} (r : OS 3 hx emp vx a) (ex : Sub hx w) :
  CallsTo Try.prog 37 #[vx, I k] w fun v w' => ∃ r0 m1 k1, Q r0 m1 ∧ v = I r0 ∧ But hx w w' ∧ OS 3 k1 emp vx m1 ∧ Sub k1 w' ∧ (∀ n, DomLe hx n k1) := by
 obtain ⟨a1, c, rfl⟩ := r.shape
 refine enter (args := [sl a1 a c, I k]) 19 Try.func37 rfl rfl rfl ?_
 refine W_forget [(0, sl a1 a c), (1, I k)] ⟨rfl, rfl, trivial⟩ fun ρ => ?_
 have D : Dom hx hx := (Dom.refl _)
 have X := But.refl hx w
 refine W_seq (W_region ?_)
 refine LP_ev ok 0 [(4, I 0)] 1 rfl rfl ?_
 refine LP_end _ rfl (W_seq ?_)
 refine W_seq (W_region ?_)
 refine LP_ev ok 0 [(5, I 0)] 1 rfl rfl ?_
 refine LP_end _ rfl ?_
 refine W_block ?_
 obtain ⟨J, m, Hx, H⟩ := H
 refine W_loop (S := (List Int) × Int × Int) (fun s ρ' w' => J s.1 s.2.1 s.2.2 ∧ ∃ (ρ : Env) (hx4 : PH), ρ' = setAll [(0, sl a1 a c), (1, I s.2.1), (5, I s.2.2)] ρ ∧ But hx w w' ∧ OS 3 hx4 emp (sl a1 a c) s.1 ∧ Sub hx4 w' ∧ (∀ n, DomLe hx n hx4)) (fun s => m s.1 s.2.1 s.2.2) (a, k, 0) ⟨Hx, _, hx, env_eq ⟨rfl, rfl, rfl, trivial⟩, X, r, ex, (fun _ => DomLe.refl _ _)⟩ ?_
 rintro ⟨a2, k6, i⟩ _ wx ⟨Hi, ρ, hx4, rfl, X7, o, ex5, f⟩
 have H := H a2 k6 i Hi
 refine W_seq ?_
 refine W_seq (W_region ?_)
 refine LP_ev ok 0 [(6, I i), (7, sl a1 a c), (8, I (ln a)), (9, .bool (decide (i < (ln a))))] 4 rfl rfl ?_
 refine LP_end _ rfl ?_
 refine W_cond (decide (i < (ln a))) rfl (fun hc => ?_) (fun hc => ?_)
 ·have H := H.1 hc
  refine W_skip ?_
  refine W_seq ?_
  refine W_block ?_
  refine W_seq (W_region ?_)
  refine LP_ev ok 0 [(12, sl a1 a c), (13, I i), (14, I k6)] 3 rfl rfl ?_
  obtain ⟨hi, hl, H⟩ := H
  refine LP_indexw (v := sl a1 a c) 3 rfl rfl rfl Try.underlying22 ti_3 rfl rfl o hi hl fun a8 wa => ?_
  refine LP_set 4 rfl rfl rfl rfl rfl wa (Le.refl emp) ⟨_, rfl, rfl⟩ ex5 fun hx9 wx10 o11 ex12 y dm => ?_
  refine LP_end _ rfl ?_
  refine W_region ?_
  refine LP_ev ok 0 [(16, I k6), (17, I (wr (k6 + 1))), (1, I (wr (k6 + 1)))] 3 rfl rfl ?_
  refine LP_end _ rfl ?_
  refine W_region ?_
  refine LP_ev ok 0 [(10, I i), (11, I (wr (i + 1))), (5, I (wr (i + 1)))] 3 rfl rfl ?_
  exact LP_end _ rfl ⟨(List.set a2 (Int.toNat i) k6, wr (k6 + 1), wr (i + 1)), ⟨H.1, _, hx9, env_eq ⟨rfl, rfl, rfl, trivial⟩, (X7.step y (DomLe.dom D (f _))), o11, ex12, (fun _ => DomLe.trans (f _) ((dm _)) (Nat.le_refl _))⟩, H.2⟩
 have H := H.2 hc
 refine W_exit ?_
 refine (if_pos rfl).mpr ?_
 refine W_seq (W_region ?_)
 refine LP_ev ok 0 [(18, I k6), (4, I k6)] 2 rfl rfl ?_
 refine LP_end _ rfl (W_ret ?_)
 exact ⟨_, Ret_of [I k6] ⟨⟨rfl, rfl⟩, trivial⟩, _, _, _, H, rfl, X7, o, ex5, (fun _ => f _)⟩

theorem laws_markGeo_w (a : Geo) (k : Int) (Q : Int → (List Int) → Prop) (H : laws_markGeo a k Q) (w : World) {vx : Value} {hx : PH} (r : OS 3 hx emp vx a.Parents) (ex : Sub hx w) :
  CallsTo Try.prog 19 #[.agg #[vx], I k] w fun v w' => ∃ r0 m1 k1, Q r0 m1 ∧ v = I r0 ∧ But hx w w' ∧ OS 3 k1 emp vx m1 ∧ Sub k1 w' ∧ (∀ n, DomLe hx n k1) := by
 obtain ⟨a1, c, rfl⟩ := r.shape
 refine enter (args := [.agg #[sl a1 a.Parents c], I k]) 10 Try.func19 rfl rfl rfl ?_
 refine W_forget [(0, .agg #[sl a1 a.Parents c]), (1, I k)] ⟨rfl, rfl, trivial⟩ fun ρ => ?_
 have D : Dom hx hx := (Dom.refl _)
 have X := But.refl hx w
 refine W_seq (W_region ?_)
 refine LP_box 0 (cs := [sl a1 a.Parents c]) rfl rfl rfl rfl rfl fun b wx x ex2 f => ?_
 refine LP_ev ok 1 [(4, I 0)] 2 rfl rfl ?_
 refine LP_end _ rfl (W_seq (W_region ?_))
 refine LP_ev ok 0 [(5, pb b)] 1 rfl rfl ?_
 refine LP_ldbox 1 (v := sl a1 a.Parents c) rfl rfl rfl ti_22 ag_22 (fun _ => rfl) rfl ex2 rfl rfl ?_
 refine LP_ev ok 2 [(7, I k)] 3 rfl rfl ?_
 refine LP_call 3 rfl rfl rfl cal_37 rfl (laws_markIntS_w _ _ _ H wx r (ex.ext x)) ?_
 rintro _ wx6 ⟨r3, r4, hx8, H, rfl, x7, o, ex9, dm⟩
 refine LP_ev ok 4 [(1, I r3)] 5 rfl rfl ?_
 refine LP_end _ rfl (W_seq (W_region ?_))
 refine LP_ev ok 0 [(9, I r3), (4, I r3)] 2 rfl rfl ?_
 refine LP_end _ rfl (W_ret ?_)
 exact ⟨_, Ret_of [I r3] ⟨⟨rfl, rfl⟩, trivial⟩, _, _, _, H, rfl, ((X.stepx x).step x7 (Dom.le D _)), o, ex9, (fun _ => DomLe.trans (DomLe.refl _ _) ((dm _)) (Nat.le_refl _))⟩

theorem laws_markText_w (k : Int) (Q : ByteArray → Prop) (H : laws_markText k Q) (w : World)  :
  CallsTo Try.prog 38 #[I k] w fun v w' => ∃ r0, Q r0 ∧ v = .string r0 ∧ Ext w w' := by
 refine enter (args := [I k]) 20 Try.func38 rfl rfl rfl ?_
 refine W_forget [(0, I k)] ⟨rfl, trivial⟩ fun ρ => ?_
 have X := But.refl emp w
 refine W_seq (W_region ?_)
 refine LP_ev ok 0 [(2, .string ((ByteArray.mk #[])))] 1 rfl rfl ?_
 refine LP_end _ rfl (W_seq ?_)
 refine W_seq (W_region ?_)
 refine LP_ev ok 0 [(4, I k), (5, .bool (decide (k ≤ 0)))] 2 rfl rfl ?_
 refine LP_end _ rfl ?_
 refine W_cond (decide (k ≤ 0)) rfl (fun hc => ?_) (fun hc => ?_)
 ·have H := H.1 hc
  refine W_seq (W_region ?_)
  refine LP_ev ok 0 [(2, .string ((ByteArray.mk #[109, 48])))] 1 rfl rfl ?_
  refine LP_end _ rfl (W_ret ?_)
  exact ⟨_, Ret_of [.string ((ByteArray.mk #[109, 48]))] ⟨⟨rfl, rfl⟩, trivial⟩, _, H, rfl, X.ext⟩
 have H := H.2 hc
 refine W_skip ?_
 refine W_seq (W_region ?_)
 refine LP_ev ok 0 [(3, .string ((ByteArray.mk #[])))] 1 rfl rfl ?_
 refine LP_end _ rfl (W_seq ?_)
 refine W_block ?_
 obtain ⟨J, m, Hx, H⟩ := H
 refine W_loop (S := Int × ByteArray) (fun s ρ' w' => J s.1 s.2 ∧ ∃ (ρ : Env), ρ' = setAll [(0, I s.1), (3, .string s.2)] ρ ∧ But emp w w') (fun s => m s.1 s.2) (k, (ByteArray.mk #[])) ⟨Hx, _, env_eq ⟨rfl, rfl, trivial⟩, X⟩ ?_
 rintro ⟨k1, out⟩ _ wx ⟨Hi, ρ, rfl, X2⟩
 have H := H k1 out Hi
 refine W_seq ?_
 refine W_seq (W_region ?_)
 refine LP_ev ok 0 [(6, I k1), (7, .bool (decide (k1 > 0)))] 2 rfl rfl ?_
 refine LP_end _ rfl ?_
 refine W_cond (decide (k1 > 0)) rfl (fun hc3 => ?_) (fun hc3 => ?_)
 ·have H := H.1 hc3
  refine W_skip ?_
  refine W_block ?_
  refine W_seq (W_region ?_)
  refine LP_ev ok 0 [(8, I k1)] 1 rfl rfl ?_
  refine LP_val 1 _ rfl rfl (ex_rem rfl rfl rfl (by decide) _) ?_
  refine LP_ev ok 2 [(10, I (wr (48 + (Int.tmod k1 10)))), (11, .int .u8 (IntKind.u8.wrap (wr (48 + (Int.tmod k1 10)))))] 4 rfl rfl ?_
  refine LP_lit (α := B8) (g := emp) 4 (vs := [.int .u8 (IntKind.u8.wrap (wr (48 + (Int.tmod k1 10))))]) (xs := [(B8.mk (IntKind.u8.wrap (wr (48 + (Int.tmod k1 10)))))]) rfl rfl rfl Try.underlying85 ti_5 rfl rfl ⟨⟨_, rfl, rfl⟩, trivial⟩ rfl rfl fun hx vx wx4 x o ex f => ?_
  obtain ⟨a, c, rfl⟩ := o.shape
  refine LP_val 5 _ rfl rfl (ex_b2s rfl Try.underlying85 Try.underlying5 Try.underlying9 rfl o.readf _ ex) ?_
  refine LP_ev ok 6 [(14, .string out)] 7 rfl rfl ?_
  obtain ⟨hz, H⟩ := H
  refine LP_val 7 _ rfl rfl (ex_sadd rfl rfl rfl hz _) ?_
  refine LP_ev ok 8 [(3, .string ((b2s ([(B8.mk (IntKind.u8.wrap (wr (48 + (Int.tmod k1 10)))))])) ++ out))] 9 rfl rfl ?_
  refine LP_end _ rfl ?_
  refine W_region ?_
  refine LP_ev ok 0 [(16, I k1)] 1 rfl rfl ?_
  refine LP_val 1 _ rfl rfl (ex_quo rfl rfl rfl (by decide) _) ?_
  refine LP_ev ok 2 [(0, I (wr (Int.tdiv k1 10)))] 3 rfl rfl ?_
  exact LP_end _ rfl ⟨(wr (Int.tdiv k1 10), (b2s ([(B8.mk (IntKind.u8.wrap (wr (48 + (Int.tmod k1 10)))))])) ++ out), ⟨H.1, _, env_eq ⟨rfl, rfl, trivial⟩, (X2.stepx x)⟩, H.2⟩
 have H := H.2 hc3
 refine W_exit ?_
 refine (if_pos rfl).mpr ?_
 refine W_seq (W_region ?_)
 refine LP_ev ok 0 [(18, .string out)] 1 rfl rfl ?_
 obtain ⟨hz6, H⟩ := H
 refine LP_val 1 _ rfl rfl (ex_sadd rfl rfl rfl hz6 _) ?_
 refine LP_ev ok 2 [(2, .string (((ByteArray.mk #[109])) ++ out))] 3 rfl rfl ?_
 refine LP_end _ rfl (W_ret ?_)
 exact ⟨_, Ret_of [.string (((ByteArray.mk #[109])) ++ out)] ⟨⟨rfl, rfl⟩, trivial⟩, _, H, rfl, X2.ext⟩

theorem laws_markVariableS_w (a : List Variable) (k : Int) (Q : Int → (List Variable) → Prop) (H : laws_markVariableS a k Q) (w : World) {vx : Value} {hx : PH} (r : OS 65 hx emp vx a) (ex : Sub hx w) :
  CallsTo Try.prog 20 #[vx, I k] w fun v w' => ∃ r0 m1 k1, Q r0 m1 ∧ v = I r0 ∧ But hx w w' ∧ OS 65 k1 emp vx m1 ∧ Sub k1 w' ∧ (∀ n, DomLe hx n k1) := by
 obtain ⟨a1, c, rfl⟩ := r.shape
 refine enter (args := [sl a1 a c, I k]) 28 Try.func20 rfl rfl rfl ?_
 refine W_forget [(0, sl a1 a c), (1, I k)] ⟨rfl, rfl, trivial⟩ fun ρ => ?_
 have D : Dom hx hx := (Dom.refl _)
 have X := But.refl hx w
 refine W_seq (W_region ?_)
 refine LP_ev ok 0 [(4, I 0)] 1 rfl rfl ?_
 refine LP_end _ rfl (W_seq ?_)
 refine W_seq (W_region ?_)
 refine LP_ev ok 0 [(5, I 0)] 1 rfl rfl ?_
 refine LP_end _ rfl ?_
 refine W_block ?_
 obtain ⟨J, m, Hx, H⟩ := H
 refine W_loop (S := (List Variable) × Int × Int) (fun s ρ' w' => J s.1 s.2.1 s.2.2 ∧ ∃ (ρ : Env) (hx4 : PH), ρ' = setAll [(0, sl a1 a c), (1, I s.2.1), (5, I s.2.2)] ρ ∧ But hx w w' ∧ OS 65 hx4 emp (sl a1 a c) s.1 ∧ Sub hx4 w' ∧ (∀ n, DomLe hx n hx4)) (fun s => m s.1 s.2.1 s.2.2) (a, k, 0) ⟨Hx, _, hx, env_eq ⟨rfl, rfl, rfl, trivial⟩, X, r, ex, (fun _ => DomLe.refl _ _)⟩ ?_
 rintro ⟨a2, k6, i⟩ _ wx ⟨Hi, ρ, hx4, rfl, X7, o, ex5, f⟩
 have H := H a2 k6 i Hi
 refine W_seq ?_
 refine W_seq (W_region ?_)
 refine LP_ev ok 0 [(6, I i), (7, sl a1 a c), (8, I (ln a)), (9, .bool (decide (i < (ln a))))] 4 rfl rfl ?_
 refine LP_end _ rfl ?_
 refine W_cond (decide (i < (ln a))) rfl (fun hc => ?_) (fun hc => ?_)
 ·have H := H.1 hc
  refine W_skip ?_
  refine W_seq ?_
  refine W_block ?_
  refine W_seq (W_region ?_)
  refine LP_ev ok 0 [(12, sl a1 a c), (13, I i), (14, I k6)] 3 rfl rfl ?_
  refine LP_call 3 rfl rfl rfl cal_38 rfl (laws_markText_w _ _ H wx ) ?_
  rintro _ wx9 ⟨r8, H, rfl, x⟩
  obtain ⟨x10, hi, hx11, H⟩ := H
  refine LP_indexf (v := sl a1 a c) 4 rfl rfl rfl Try.underlying38 ti_65 rfl rfl o hi hx11 fun a12 wa => ?_
  refine LP_ev ok 5 [(17, .pointer (some (Addr.add a12 0)))] 6 rfl rfl ?_
  refine LP_setf 6 (x := x10) (vs := [.string r8]) (y := ({x10 with Name := r8} : Variable)) rfl rfl rfl ti_9 rfl rfl rfl rfl rfl rfl wa (ex5.ext x) rfl fun hx13 wx14 o15 ex16 y dm => ?_
  refine LP_end _ rfl (W_seq (W_region ?_))
  refine LP_ev ok 0 [(18, I k6), (19, I (wr (k6 + 1))), (1, I (wr (k6 + 1)))] 3 rfl rfl ?_
  refine LP_end _ rfl (W_seq (W_region ?_))
  refine LP_ev ok 0 [(20, sl a1 a c), (21, I i), (22, I (wr (k6 + 1)))] 3 rfl rfl ?_
  obtain ⟨x18, hi19, hx20, H⟩ := H
  refine LP_indexf (v := sl a1 a c) 3 rfl rfl rfl Try.underlying38 ti_65 rfl rfl o15 hi19 hx20 fun a21 wa22 => ?_
  refine LP_ev ok 4 [(24, .pointer (some (Addr.add a21 1)))] 5 rfl rfl ?_
  refine LP_setf 5 (x := x18) (vs := [I (wr (k6 + 1))]) (y := ({x18 with Levels := wr (k6 + 1)} : Variable)) rfl rfl rfl ti_3 rfl rfl rfl rfl rfl rfl wa22 ex16 rfl fun hx23 wx24 o25 ex26 y27 dm28 => ?_
  refine LP_end _ rfl ?_
  refine W_region ?_
  refine LP_ev ok 0 [(25, I (wr (k6 + 1))), (26, I (wr ((wr (k6 + 1)) + 1))), (1, I (wr ((wr (k6 + 1)) + 1)))] 3 rfl rfl ?_
  refine LP_end _ rfl ?_
  refine W_region ?_
  refine LP_ev ok 0 [(10, I i), (11, I (wr (i + 1))), (5, I (wr (i + 1)))] 3 rfl rfl ?_
  refine LP_end _ rfl ?_
  try refine W_forget [(0, sl a1 a c), (1, I (wr ((wr (k6 + 1)) + 1))), (5, I (wr (i + 1)))] ⟨rfl, rfl, rfl, trivial⟩ fun ρ => ?_
  exact ⟨(List.set (List.set a2 (Int.toNat i) ({x10 with Name := r8} : Variable)) (Int.toNat i) ({x18 with Levels := wr (k6 + 1)} : Variable), wr ((wr (k6 + 1)) + 1), wr (i + 1)), ⟨H.1, _, hx23, env_eq ⟨rfl, rfl, rfl, trivial⟩, (((X7.stepx x).step y (DomLe.dom D (f _))).step y27 (DomLe.trans (DomLe.dom D (f _)) (dm _) (X7.stepx x).size)), o25, ex26, (fun _ => DomLe.trans (DomLe.trans (f _) ((dm _)) (Nat.le_refl _)) ((dm28 _)) (Nat.le_refl _))⟩, H.2⟩
 have H := H.2 hc
 refine W_exit ?_
 refine (if_pos rfl).mpr ?_
 refine W_seq (W_region ?_)
 refine LP_ev ok 0 [(27, I k6), (4, I k6)] 2 rfl rfl ?_
 refine LP_end _ rfl (W_ret ?_)
 exact ⟨_, Ret_of [I k6] ⟨⟨rfl, rfl⟩, trivial⟩, _, _, _, H, rfl, X7, o, ex5, (fun _ => f _)⟩

theorem laws_markTable_w (a : Table) (k : Int) (Q : Int → (List Int) → (List Int) → Prop) (H : laws_markTable a k Q) (w : World) {vx : Value} {hx : PH} (r : OS 3 hx emp vx a.Vars) (ex : Sub hx w) {vx2 : Value} {hx3 : PH} (r4 : OS 3 hx3 emp vx2 a.Where) (ex5 : Sub hx3 w) (d : Dj hx hx3) :
  CallsTo Try.prog 21 #[.agg #[I a.Level, vx, vx2, I a.Sum], I k] w fun v w' => ∃ r0 m1 m2 k1 k2, Q r0 m1 m2 ∧ v = I r0 ∧ But (un hx hx3) w w' ∧ OS 3 k1 emp vx m1 ∧ Sub k1 w' ∧ (∀ n, DomLe hx n k1) ∧ OS 3 k2 emp vx2 m2 ∧ Sub k2 w' ∧ (∀ n, DomLe hx3 n k2) ∧ Dj k1 k2 := by
 obtain ⟨a1, c, rfl⟩ := r.shape
 obtain ⟨a6, c7, rfl⟩ := r4.shape
 refine enter (args := [.agg #[I a.Level, sl a1 a.Vars c, sl a6 a.Where c7, I a.Sum], I k]) 14 Try.func21 rfl rfl rfl ?_
 refine W_forget [(0, .agg #[I a.Level, sl a1 a.Vars c, sl a6 a.Where c7, I a.Sum]), (1, I k)] ⟨rfl, rfl, trivial⟩ fun ρ => ?_
 obtain ⟨M, hM⟩ : ∃ M : PH, M = (un hx hx3) := ⟨_, rfl⟩
 have D : Dom M hx := by subst hM; exact (Dom.l _ _)
 have D8 : Dom M hx3 := by subst hM; exact (Dom.trans (Dom.r _ _) (Dom.refl _))
 have X := But.refl M w
 refine W_seq (W_region ?_)
 refine LP_box 0 (cs := [I a.Level, sl a1 a.Vars c, sl a6 a.Where c7, I a.Sum]) rfl rfl rfl rfl rfl fun b wx x ex9 f => ?_
 refine LP_ev ok 1 [(4, I 0)] 2 rfl rfl ?_
 refine LP_end _ rfl (W_seq (W_region ?_))
 refine LP_ev ok 0 [(5, .pointer (some ⟨b, 1, none⟩))] 1 rfl rfl ?_
 refine LP_ldbox 1 (v := sl a1 a.Vars c) rfl rfl rfl ti_22 ag_22 (fun _ => rfl) rfl ex9 rfl rfl ?_
 refine LP_ev ok 2 [(7, I k)] 3 rfl rfl ?_
 refine LP_call 3 rfl rfl rfl cal_37 rfl (laws_markIntS_w _ _ _ H wx r (ex.ext x)) ?_
 rintro _ wx13 ⟨r10, r11, hx15, H, rfl, x14, o, ex16, dm⟩
 refine LP_ev ok 4 [(1, I r10)] 5 rfl rfl ?_
 refine LP_end _ rfl (W_seq (W_region ?_))
 refine LP_ev ok 0 [(9, .pointer (some ⟨b, 2, none⟩))] 1 rfl rfl ?_
 refine LP_ldbox 1 (v := sl a6 a.Where c7) rfl rfl rfl ti_22 ag_22 (fun _ => rfl) rfl (ex9.but x14 (Dj.of_fresh ex f)) rfl rfl ?_
 refine LP_ev ok 2 [(11, I r10)] 3 rfl rfl ?_
 refine LP_call 3 rfl rfl rfl cal_37 rfl (laws_markIntS_w _ _ _ H wx13 r4 ((ex5.ext x).but x14 d)) ?_
 rintro _ wx21 ⟨r18, r19, hx23, H, rfl, x22, o24, ex25, dm26⟩
 refine LP_ev ok 4 [(1, I r18)] 5 rfl rfl ?_
 refine LP_end _ rfl (W_seq (W_region ?_))
 refine LP_ev ok 0 [(13, I r18), (4, I r18)] 2 rfl rfl ?_
 refine LP_end _ rfl (W_ret ?_)
 have ex27 := (ex5.ext x)
 subst hM
 exact ⟨_, Ret_of [I r18] ⟨⟨rfl, rfl⟩, trivial⟩, _, _, _, _, _, H, rfl, (((X.stepx x).step x14 (Dom.le D _)).step x22 (Dom.le D8 _)), o, (ex16.but x22 (DomLe.dj (dm _) d ex27).symm), (fun _ => DomLe.trans (DomLe.refl _ _) ((dm _)) (Nat.le_refl _)), o24, ex25, (fun _ => DomLe.trans (DomLe.refl _ _) ((dm26 _)) (Nat.le_refl _)), (DomLe.dj (dm26 _) (DomLe.dj (dm _) d ex27).symm ex16).symm⟩

theorem laws_markRecordS_w (a : List Record) (k : Int) (Q : Int → (List Record) → Prop) (H : laws_markRecordS a k Q) (w : World) {vx : Value} {hx : PH} (r : OD hx vx a) (ex : Sub hx w) :
  CallsTo Try.prog 39 #[vx, I k] w fun v w' => ∃ r0 m1 k1, Q r0 m1 ∧ v = I r0 ∧ But hx w w' ∧ OD k1 vx m1 ∧ Sub k1 w' ∧ (∀ n, DomLe hx n k1) := by
 obtain ⟨a1, c, rfl⟩ := r.shape
 refine enter (args := [sl a1 a c, I k]) 34 Try.func39 rfl rfl rfl ?_
 refine W_forget [(0, sl a1 a c), (1, I k)] ⟨rfl, rfl, trivial⟩ fun ρ => ?_
 have D : Dom hx hx := (Dom.refl _)
 have X := But.refl hx w
 refine W_seq (W_region ?_)
 refine LP_ev ok 0 [(4, I 0)] 1 rfl rfl ?_
 refine LP_end _ rfl (W_seq ?_)
 refine W_seq (W_region ?_)
 refine LP_ev ok 0 [(5, I 0)] 1 rfl rfl ?_
 refine LP_end _ rfl ?_
 refine W_block ?_
 obtain ⟨J, m, Hx, H⟩ := H
 refine W_loop (S := (List Record) × Int × Int) (fun s ρ' w' => J s.1 s.2.1 s.2.2 ∧ ∃ (ρ : Env) (hx4 : PH), ρ' = setAll [(0, sl a1 a c), (1, I s.2.1), (5, I s.2.2)] ρ ∧ But hx w w' ∧ OD hx4 (sl a1 a c) s.1 ∧ Sub hx4 w' ∧ (∀ n, DomLe hx n hx4)) (fun s => m s.1 s.2.1 s.2.2) (a, k, 0) ⟨Hx, _, hx, env_eq ⟨rfl, rfl, rfl, trivial⟩, X, r, ex, (fun _ => DomLe.refl _ _)⟩ ?_
 rintro ⟨a2, k6, i⟩ _ wx ⟨Hi, ρ, hx4, rfl, X7, o, ex5, f⟩
 have H := H a2 k6 i Hi
 refine W_seq ?_
 refine W_seq (W_region ?_)
 refine LP_ev ok 0 [(6, I i), (7, sl a1 a c), (8, I (ln a)), (9, .bool (decide (i < (ln a))))] 4 rfl rfl ?_
 refine LP_end _ rfl ?_
 refine W_cond (decide (i < (ln a))) rfl (fun hc => ?_) (fun hc => ?_)
 ·have H := H.1 hc
  refine W_skip ?_
  refine W_seq ?_
  refine W_block ?_
  refine W_seq (W_region ?_)
  refine LP_ev ok 0 [(12, sl a1 a c), (13, I i), (14, I k6)] 3 rfl rfl ?_
  obtain ⟨x, hi, hx8, H⟩ := H
  refine LP_indexF (v := sl a1 a c) 3 rfl rfl rfl Try.underlying62 ti_80 rfl rfl o hi hx8 fun a9 wa => ?_
  refine LP_ev ok 4 [(16, .pointer (some (Addr.add a9 0)))] 5 rfl rfl ?_
  refine LP_setfD (off := 0) 5 (x := x) (vs := [I k6]) (y := ({x with Area := k6} : Record)) rfl rfl rfl ti_3 rfl rfl rfl rfl rfl Record_ft0 wa ex5 rfl fun hx10 wx11 o12 ex13 y dm => ?_
  refine LP_end _ rfl (W_seq (W_region ?_))
  refine LP_ev ok 0 [(17, I k6), (18, I (wr (k6 + 1))), (1, I (wr (k6 + 1)))] 3 rfl rfl ?_
  refine LP_end _ rfl (W_seq (W_region ?_))
  refine LP_ev ok 0 [(19, sl a1 a c), (20, I i), (21, I (wr (k6 + 1)))] 3 rfl rfl ?_
  obtain ⟨x14, hi15, hx16, H⟩ := H
  refine LP_indexF (v := sl a1 a c) 3 rfl rfl rfl Try.underlying62 ti_80 rfl rfl o12 hi15 hx16 fun a17 wa18 => ?_
  refine LP_ev ok 4 [(23, .pointer (some (Addr.add a17 1)))] 5 rfl rfl ?_
  refine LP_setfD (off := 1) 5 (x := x14) (vs := [I (wr (k6 + 1))]) (y := ({x14 with House := wr (k6 + 1)} : Record)) rfl rfl rfl ti_3 rfl rfl rfl rfl rfl Record_ft1 wa18 ex13 rfl fun hx19 wx20 o21 ex22 y23 dm24 => ?_
  refine LP_end _ rfl (W_seq (W_region ?_))
  refine LP_ev ok 0 [(24, I (wr (k6 + 1))), (25, I (wr ((wr (k6 + 1)) + 1))), (1, I (wr ((wr (k6 + 1)) + 1)))] 3 rfl rfl ?_
  refine LP_end _ rfl ?_
  refine W_region ?_
  refine LP_ev ok 0 [(26, sl a1 a c), (27, I i)] 2 rfl rfl ?_
  obtain ⟨x25, hi26, hx27, H⟩ := H
  refine LP_indexB (v := sl a1 a c) 2 rfl rfl rfl Try.underlying62 ti_80 rfl rfl o21 hi26 hx27 fun a28 c29 hx30 rest r31 bw => ?_
  refine LP_ev ok 3 [(29, .pointer (some (Addr.add a28 2)))] 4 rfl rfl ?_
  obtain ⟨u, hx32, rest33, rfl, bw34⟩ := Record_bw2 bw
  have o35 := bw34.od
  obtain ⟨a36, c37, rfl⟩ := o35.shape
  refine LP_ldpart (off := 2) 4 (v := sl a36 x25.Values c37) rfl rfl rfl ti_22 ag_22 (fun _ => rfl) rfl r31 ex22 rfl rfl ?_
  have ex38 := Sub.le ex22 bw34.le
  have o39 : OS 3 hx32 emp (sl a36 x25.Values c37) x25.Values := OD.flat o35
  refine LP_ev ok 5 [(31, I (wr ((wr (k6 + 1)) + 1)))] 6 rfl rfl ?_
  refine LP_call 6 rfl rfl rfl cal_37 rfl (laws_markIntS_w _ _ _ H wx20 o39 ex38) ?_
  rintro _ wx42 ⟨r40, r41, hx44, H, rfl, x43, o45, ex46, dm47⟩
  obtain ⟨bw48, o49, dd⟩ := BwG.turn bw34 (OS.od o45) (Dom.of dm47)
  have ex50 := BwG.sub bw34 ex22 ex46 x43
  have y51 := BwG.but bw34 x43
  refine LP_ev ok 7 [(1, I r40)] 8 rfl rfl ?_
  refine LP_end _ rfl ?_
  try refine W_forget [(0, sl a1 a c), (1, I r40), (5, I i)] ⟨rfl, rfl, rfl, trivial⟩ fun ρ => ?_
  refine W_region ?_
  refine LP_ev ok 0 [(10, I i), (11, I (wr (i + 1))), (5, I (wr (i + 1)))] 3 rfl rfl ?_
  exact LP_end _ rfl ⟨(List.set (List.set (List.set a2 (Int.toNat i) ({x with Area := k6} : Record)) (Int.toNat i) ({x14 with House := wr (k6 + 1)} : Record)) (Int.toNat i) ({x25 with Values := r41} : Record), r40, wr (i + 1)), ⟨H.1, _, (un hx44 rest33), env_eq ⟨rfl, rfl, rfl, trivial⟩, (((X7.step y (DomLe.dom D (f _))).step y23 (DomLe.trans (DomLe.dom D (f _)) (dm _) X7.size)).step y51 (DomLe.trans (DomLe.trans (DomLe.dom D (f _)) (dm _) X7.size) (dm24 _) (X7.step y (DomLe.dom D (f _))).size)), o49, ex50, (fun _ => DomLe.trans (DomLe.trans (DomLe.trans (f _) ((dm _)) (Nat.le_refl _)) ((dm24 _)) (Nat.le_refl _)) (((fun n => Dom.le dd n) _)) (Nat.le_refl _))⟩, H.2⟩
 have H := H.2 hc
 refine W_exit ?_
 refine (if_pos rfl).mpr ?_
 refine W_seq (W_region ?_)
 refine LP_ev ok 0 [(33, I k6), (4, I k6)] 2 rfl rfl ?_
 refine LP_end _ rfl (W_ret ?_)
 exact ⟨_, Ret_of [I k6] ⟨⟨rfl, rfl⟩, trivial⟩, _, _, _, H, rfl, X7, o, ex5, (fun _ => f _)⟩

theorem laws_markRecordSS_w (a : List (List Record)) (k : Int) (Q : Int → (List (List Record)) → Prop) (H : laws_markRecordSS a k Q) (w : World) {vx : Value} {hx : PH} (r : OD hx vx a) (ex : Sub hx w) :
  CallsTo Try.prog 22 #[vx, I k] w fun v w' => ∃ r0 m1 k1, Q r0 m1 ∧ v = I r0 ∧ But hx w w' ∧ OD k1 vx m1 ∧ Sub k1 w' ∧ (∀ n, DomLe hx n k1) := by
 obtain ⟨a1, c, rfl⟩ := r.shape
 refine enter (args := [sl a1 a c, I k]) 19 Try.func22 rfl rfl rfl ?_
 refine W_forget [(0, sl a1 a c), (1, I k)] ⟨rfl, rfl, trivial⟩ fun ρ => ?_
 have D : Dom hx hx := (Dom.refl _)
 have X := But.refl hx w
 refine W_seq (W_region ?_)
 refine LP_ev ok 0 [(4, I 0)] 1 rfl rfl ?_
 refine LP_end _ rfl (W_seq ?_)
 refine W_seq (W_region ?_)
 refine LP_ev ok 0 [(5, I 0)] 1 rfl rfl ?_
 refine LP_end _ rfl ?_
 refine W_block ?_
 obtain ⟨J, m, Hx, H⟩ := H
 refine W_loop (S := (List (List Record)) × Int × Int) (fun s ρ' w' => J s.1 s.2.1 s.2.2 ∧ ∃ (ρ : Env) (hx4 : PH), ρ' = setAll [(0, sl a1 a c), (1, I s.2.1), (5, I s.2.2)] ρ ∧ But hx w w' ∧ OD hx4 (sl a1 a c) s.1 ∧ Sub hx4 w' ∧ (∀ n, DomLe hx n hx4)) (fun s => m s.1 s.2.1 s.2.2) (a, k, 0) ⟨Hx, _, hx, env_eq ⟨rfl, rfl, rfl, trivial⟩, X, r, ex, (fun _ => DomLe.refl _ _)⟩ ?_
 rintro ⟨a2, k6, i⟩ _ wx ⟨Hi, ρ, hx4, rfl, X7, o, ex5, f⟩
 have H := H a2 k6 i Hi
 refine W_seq ?_
 refine W_seq (W_region ?_)
 refine LP_ev ok 0 [(6, I i), (7, sl a1 a c), (8, I (ln a)), (9, .bool (decide (i < (ln a))))] 4 rfl rfl ?_
 refine LP_end _ rfl ?_
 refine W_cond (decide (i < (ln a))) rfl (fun hc => ?_) (fun hc => ?_)
 ·have H := H.1 hc
  refine W_skip ?_
  refine W_seq ?_
  refine W_block ?_
  refine W_region ?_
  refine LP_ev ok 0 [(12, sl a1 a c), (13, I i)] 2 rfl rfl ?_
  obtain ⟨x, hi, hx8, H⟩ := H
  refine LP_indexb (v := sl a1 a c) 2 rfl rfl rfl Try.underlying42 ti_62 rfl rfl o hi hx8 fun a9 u hx10 rest r11 bw => ?_
  refine LP_ldcell 3 rfl rfl rfl ti_62 ag_62 rfl r11 ex5 ?_
  have o14 := bw.od
  obtain ⟨a12, c13, rfl⟩ := o14.shape
  have ex15 := Sub.le ex5 bw.le
  refine LP_ev ok 4 [(16, I k6)] 5 rfl rfl ?_
  refine LP_call 5 rfl rfl rfl cal_39 rfl (laws_markRecordS_w _ _ _ H wx o14 ex15) ?_
  rintro _ wx18 ⟨r16, r17, hx20, H, rfl, x19, o21, ex22, dm⟩
  obtain ⟨bw23, o24, dd⟩ := BwL.turn bw o21 (Dom.of dm)
  have ex25 := BwL.sub bw ex5 ex22 x19
  have y := BwL.but bw x19
  refine LP_ev ok 6 [(1, I r16)] 7 rfl rfl ?_
  refine LP_end _ rfl ?_
  refine W_region ?_
  refine LP_ev ok 0 [(10, I i), (11, I (wr (i + 1))), (5, I (wr (i + 1)))] 3 rfl rfl ?_
  exact LP_end _ rfl ⟨(List.set a2 (Int.toNat i) r17, r16, wr (i + 1)), ⟨H.1, _, (un hx20 rest), env_eq ⟨rfl, rfl, rfl, trivial⟩, (X7.step y (DomLe.dom D (f _))), o24, ex25, (fun _ => DomLe.trans (f _) (((fun n => Dom.le dd n) _)) (Nat.le_refl _))⟩, H.2⟩
 have H := H.2 hc
 refine W_exit ?_
 refine (if_pos rfl).mpr ?_
 refine W_seq (W_region ?_)
 refine LP_ev ok 0 [(18, I k6), (4, I k6)] 2 rfl rfl ?_
 refine LP_end _ rfl (W_ret ?_)
 exact ⟨_, Ret_of [I k6] ⟨⟨rfl, rfl⟩, trivial⟩, _, _, _, H, rfl, X7, o, ex5, (fun _ => f _)⟩

theorem laws_markIntSS_w (a : List (List Int)) (k : Int) (Q : Int → (List (List Int)) → Prop) (H : laws_markIntSS a k Q) (w : World) {vx : Value} {hx : PH} (r : OD hx vx a) (ex : Sub hx w) :
  CallsTo Try.prog 23 #[vx, I k] w fun v w' => ∃ r0 m1 k1, Q r0 m1 ∧ v = I r0 ∧ But hx w w' ∧ OD k1 vx m1 ∧ Sub k1 w' ∧ (∀ n, DomLe hx n k1) := by
 obtain ⟨a1, c, rfl⟩ := r.shape
 refine enter (args := [sl a1 a c, I k]) 19 Try.func23 rfl rfl rfl ?_
 refine W_forget [(0, sl a1 a c), (1, I k)] ⟨rfl, rfl, trivial⟩ fun ρ => ?_
 have D : Dom hx hx := (Dom.refl _)
 have X := But.refl hx w
 refine W_seq (W_region ?_)
 refine LP_ev ok 0 [(4, I 0)] 1 rfl rfl ?_
 refine LP_end _ rfl (W_seq ?_)
 refine W_seq (W_region ?_)
 refine LP_ev ok 0 [(5, I 0)] 1 rfl rfl ?_
 refine LP_end _ rfl ?_
 refine W_block ?_
 obtain ⟨J, m, Hx, H⟩ := H
 refine W_loop (S := (List (List Int)) × Int × Int) (fun s ρ' w' => J s.1 s.2.1 s.2.2 ∧ ∃ (ρ : Env) (hx4 : PH), ρ' = setAll [(0, sl a1 a c), (1, I s.2.1), (5, I s.2.2)] ρ ∧ But hx w w' ∧ OD hx4 (sl a1 a c) s.1 ∧ Sub hx4 w' ∧ (∀ n, DomLe hx n hx4)) (fun s => m s.1 s.2.1 s.2.2) (a, k, 0) ⟨Hx, _, hx, env_eq ⟨rfl, rfl, rfl, trivial⟩, X, r, ex, (fun _ => DomLe.refl _ _)⟩ ?_
 rintro ⟨a2, k6, i⟩ _ wx ⟨Hi, ρ, hx4, rfl, X7, o, ex5, f⟩
 have H := H a2 k6 i Hi
 refine W_seq ?_
 refine W_seq (W_region ?_)
 refine LP_ev ok 0 [(6, I i), (7, sl a1 a c), (8, I (ln a)), (9, .bool (decide (i < (ln a))))] 4 rfl rfl ?_
 refine LP_end _ rfl ?_
 refine W_cond (decide (i < (ln a))) rfl (fun hc => ?_) (fun hc => ?_)
 ·have H := H.1 hc
  refine W_skip ?_
  refine W_seq ?_
  refine W_block ?_
  refine W_region ?_
  refine LP_ev ok 0 [(12, sl a1 a c), (13, I i)] 2 rfl rfl ?_
  obtain ⟨x, hi, hx8, H⟩ := H
  refine LP_indexb (v := sl a1 a c) 2 rfl rfl rfl Try.underlying33 ti_22 rfl rfl o hi hx8 fun a9 u hx10 rest r11 bw => ?_
  refine LP_ldcell 3 rfl rfl rfl ti_22 ag_22 rfl r11 ex5 ?_
  have o14 := bw.od
  obtain ⟨a12, c13, rfl⟩ := o14.shape
  have ex15 := Sub.le ex5 bw.le
  have o16 : OS 3 hx10 emp (sl a12 x c13) x := OD.flat o14
  refine LP_ev ok 4 [(16, I k6)] 5 rfl rfl ?_
  refine LP_call 5 rfl rfl rfl cal_37 rfl (laws_markIntS_w _ _ _ H wx o16 ex15) ?_
  rintro _ wx19 ⟨r17, r18, hx21, H, rfl, x20, o22, ex23, dm⟩
  obtain ⟨bw24, o25, dd⟩ := BwL.turn bw (OS.od o22) (Dom.of dm)
  have ex26 := BwL.sub bw ex5 ex23 x20
  have y := BwL.but bw x20
  refine LP_ev ok 6 [(1, I r17)] 7 rfl rfl ?_
  refine LP_end _ rfl ?_
  refine W_region ?_
  refine LP_ev ok 0 [(10, I i), (11, I (wr (i + 1))), (5, I (wr (i + 1)))] 3 rfl rfl ?_
  exact LP_end _ rfl ⟨(List.set a2 (Int.toNat i) r18, r17, wr (i + 1)), ⟨H.1, _, (un hx21 rest), env_eq ⟨rfl, rfl, rfl, trivial⟩, (X7.step y (DomLe.dom D (f _))), o25, ex26, (fun _ => DomLe.trans (f _) (((fun n => Dom.le dd n) _)) (Nat.le_refl _))⟩, H.2⟩
 have H := H.2 hc
 refine W_exit ?_
 refine (if_pos rfl).mpr ?_
 refine W_seq (W_region ?_)
 refine LP_ev ok 0 [(18, I k6), (4, I k6)] 2 rfl rfl ?_
 refine LP_end _ rfl (W_ret ?_)
 exact ⟨_, Ret_of [I k6] ⟨⟨rfl, rfl⟩, trivial⟩, _, _, _, H, rfl, X7, o, ex5, (fun _ => f _)⟩

theorem laws_heldIntS_w (a : List Int) (k : Int) (Q : Int → Prop) (H : laws_heldIntS a k Q) (w : World) {vx : Value} {hx : PH} (r : RS hx vx a) (ex : Sub hx w) :
  CallsTo Try.prog 40 #[vx, I k] w fun v w' => ∃ r0, Q r0 ∧ v = I r0 ∧ Ext w w' := by
 obtain ⟨a1, c, rfl⟩ := r.shape
 refine enter (args := [sl a1 a c, I k]) 21 Try.func40 rfl rfl rfl ?_
 refine W_forget [(0, sl a1 a c), (1, I k)] ⟨rfl, rfl, trivial⟩ fun ρ => ?_
 have X := But.refl emp w
 refine W_seq (W_region ?_)
 refine LP_ev ok 0 [(4, I 0)] 1 rfl rfl ?_
 refine LP_end _ rfl (W_seq ?_)
 refine W_seq (W_region ?_)
 refine LP_ev ok 0 [(5, I 0)] 1 rfl rfl ?_
 refine LP_end _ rfl ?_
 refine W_block ?_
 obtain ⟨J, m, Hx, H⟩ := H
 refine W_loop (S := Int × Int) (fun s ρ' w' => J s.1 s.2 ∧ ∃ (ρ : Env), ρ' = setAll [(0, sl a1 a c), (1, I s.1), (5, I s.2)] ρ ∧ w = w') (fun s => m s.1 s.2) (k, 0) ⟨Hx, _, env_eq ⟨rfl, rfl, rfl, trivial⟩, rfl⟩ ?_
 rintro ⟨k2, i⟩ _ _ ⟨Hi, ρ, rfl, rfl⟩
 have H := H k2 i Hi
 refine W_seq ?_
 refine W_seq (W_region ?_)
 refine LP_ev ok 0 [(6, I i), (7, sl a1 a c), (8, I (ln a)), (9, .bool (decide (i < (ln a))))] 4 rfl rfl ?_
 refine LP_end _ rfl ?_
 refine W_cond (decide (i < (ln a))) rfl (fun hc => ?_) (fun hc => ?_)
 ·have H := H.1 hc
  refine W_skip ?_
  refine W_seq ?_
  refine W_block ?_
  refine W_seq ?_
  refine W_seq (W_region ?_)
  refine LP_ev ok 0 [(12, sl a1 a c), (13, I i)] 2 rfl rfl ?_
  obtain ⟨x, hi, hx3, H⟩ := H
  refine LP_index 2 rfl rfl rfl Try.underlying22 ti_3 rfl rfl r hi hx3 fun a4 cs r5 d => ?_
  refine LP_load 3 rfl rfl rfl ti_3 ag_3 rfl r5 d ex fun vx6 r7 => ?_
  obtain rfl := r7.int
  refine LP_ev ok 4 [(16, I k2), (17, .bool (x != k2))] 6 rfl rfl ?_
  refine LP_end _ rfl ?_
  refine W_cond (x != k2) rfl (fun hc8 => ?_) (fun hc8 => ?_)
  ·have H := H.1 hc8
   refine W_seq (W_region ?_)
   refine LP_ev ok 0 [(4, I ((-1)))] 1 rfl rfl ?_
   refine LP_end _ rfl (W_ret ?_)
   exact ⟨_, Ret_of [I ((-1))] ⟨⟨rfl, rfl⟩, trivial⟩, _, H, rfl, X.ext⟩
  have H := H.2 hc8
  refine W_skip ?_
  refine W_region ?_
  refine LP_ev ok 0 [(18, I k2), (19, I (wr (k2 + 1))), (1, I (wr (k2 + 1)))] 3 rfl rfl ?_
  refine LP_end _ rfl ?_
  refine W_region ?_
  refine LP_ev ok 0 [(10, I i), (11, I (wr (i + 1))), (5, I (wr (i + 1)))] 3 rfl rfl ?_
  exact LP_end _ rfl ⟨(wr (k2 + 1), wr (i + 1)), ⟨H.1, _, env_eq ⟨rfl, rfl, rfl, trivial⟩, rfl⟩, H.2⟩
 have H := H.2 hc
 refine W_exit ?_
 refine (if_pos rfl).mpr ?_
 refine W_seq (W_region ?_)
 refine LP_ev ok 0 [(20, I k2), (4, I k2)] 2 rfl rfl ?_
 refine LP_end _ rfl (W_ret ?_)
 exact ⟨_, Ret_of [I k2] ⟨⟨rfl, rfl⟩, trivial⟩, _, H, rfl, X.ext⟩

theorem laws_heldIntSS_w (a : List (List Int)) (k : Int) (Q : Int → Prop) (H : laws_heldIntSS a k Q) (w : World) {vx : Value} {hx : PH} (r : RS hx vx a) (ex : Sub hx w) :
  CallsTo Try.prog 24 #[vx, I k] w fun v w' => ∃ r0, Q r0 ∧ v = I r0 ∧ Ext w w' := by
 obtain ⟨a1, c, rfl⟩ := r.shape
 refine enter (args := [sl a1 a c, I k]) 21 Try.func24 rfl rfl rfl ?_
 refine W_forget [(0, sl a1 a c), (1, I k)] ⟨rfl, rfl, trivial⟩ fun ρ => ?_
 have X := But.refl emp w
 refine W_seq (W_region ?_)
 refine LP_ev ok 0 [(4, I 0)] 1 rfl rfl ?_
 refine LP_end _ rfl (W_seq ?_)
 refine W_seq (W_region ?_)
 refine LP_ev ok 0 [(5, I 0)] 1 rfl rfl ?_
 refine LP_end _ rfl ?_
 refine W_block ?_
 obtain ⟨J, m, Hx, H⟩ := H
 refine W_loop (S := Int × Int) (fun s ρ' w' => J s.1 s.2 ∧ ∃ (ρ : Env), ρ' = setAll [(0, sl a1 a c), (1, I s.1), (5, I s.2)] ρ ∧ But emp w w' ∧ Sub hx w') (fun s => m s.1 s.2) (k, 0) ⟨Hx, _, env_eq ⟨rfl, rfl, rfl, trivial⟩, X, ex⟩ ?_
 rintro ⟨k2, i⟩ _ wx ⟨Hi, ρ, rfl, X4, ex3⟩
 have H := H k2 i Hi
 refine W_seq ?_
 refine W_seq (W_region ?_)
 refine LP_ev ok 0 [(6, I i), (7, sl a1 a c), (8, I (ln a)), (9, .bool (decide (i < (ln a))))] 4 rfl rfl ?_
 refine LP_end _ rfl ?_
 refine W_cond (decide (i < (ln a))) rfl (fun hc => ?_) (fun hc => ?_)
 ·have H := H.1 hc
  refine W_skip ?_
  refine W_seq ?_
  refine W_block ?_
  refine W_seq (W_region ?_)
  refine LP_ev ok 0 [(12, sl a1 a c), (13, I i)] 2 rfl rfl ?_
  obtain ⟨x, hi, hx5, H⟩ := H
  refine LP_index 2 rfl rfl rfl Try.underlying33 ti_22 rfl rfl r hi hx5 fun a6 cs r7 d => ?_
  refine LP_load 3 rfl rfl rfl ti_22 ag_22 rfl r7 d ex3 fun vx8 r9 => ?_
  have r12 := r9.slice
  obtain ⟨a10, c11, rfl⟩ := r12.shape
  refine LP_ev ok 4 [(16, I k2)] 5 rfl rfl ?_
  refine LP_call 5 rfl rfl rfl cal_40 rfl (laws_heldIntS_w _ _ _ H wx r12 ex3) ?_
  rintro _ wx14 ⟨r13, H, rfl, x15⟩
  refine LP_ev ok 6 [(1, I r13)] 7 rfl rfl ?_
  refine LP_end _ rfl (W_seq (W_region ?_))
  refine LP_ev ok 0 [(18, I r13), (19, .bool (decide (r13 < 0)))] 2 rfl rfl ?_
  refine LP_end _ rfl ?_
  refine W_cond (decide (r13 < 0)) rfl (fun hc16 => ?_) (fun hc16 => ?_)
  ·have H := H.1 hc16
   refine W_seq (W_region ?_)
   refine LP_ev ok 0 [(4, I ((-1)))] 1 rfl rfl ?_
   refine LP_end _ rfl (W_ret ?_)
   exact ⟨_, Ret_of [I ((-1))] ⟨⟨rfl, rfl⟩, trivial⟩, _, H, rfl, (X4.stepx x15).ext⟩
  have H := H.2 hc16
  refine W_skip ?_
  refine W_region ?_
  refine LP_ev ok 0 [(10, I i), (11, I (wr (i + 1))), (5, I (wr (i + 1)))] 3 rfl rfl ?_
  exact LP_end _ rfl ⟨(r13, wr (i + 1)), ⟨H.1, _, env_eq ⟨rfl, rfl, rfl, trivial⟩, (X4.stepx x15), (ex3.ext x15)⟩, H.2⟩
 have H := H.2 hc
 refine W_exit ?_
 refine (if_pos rfl).mpr ?_
 refine W_seq (W_region ?_)
 refine LP_ev ok 0 [(20, I k2), (4, I k2)] 2 rfl rfl ?_
 refine LP_end _ rfl (W_ret ?_)
 exact ⟨_, Ret_of [I k2] ⟨⟨rfl, rfl⟩, trivial⟩, _, H, rfl, X4.ext⟩

theorem laws_FnExactSiteCells_w (aG : Geo) (aS : List Variable) (aT : Table) (aSites : List (List Record)) (Q : Bool → Prop) (H : laws_FnExactSiteCells aG aS aT aSites Q) (w : World) {vx : Value} {hx : PH} (r : RS hx vx aG.Parents) (ex : Sub hx w) {vx1 : Value} {hx2 : PH} (r3 : RS hx2 vx1 aS) (ex4 : Sub hx2 w) {vx7 : Value} {hx8 : PH} (r9 : RS hx8 vx7 aT.Vars) (ex10 : Sub hx8 w) {vx13 : Value} {hx14 : PH} (r15 : RS hx14 vx13 aT.Where) (ex16 : Sub hx14 w) {vx19 : Value} {hx20 : PH} (r21 : RS hx20 vx19 aSites) (ex22 : Sub hx20 w) :
  CallsTo Try.prog 3 #[.agg #[vx], vx1, .agg #[I aT.Level, vx7, vx13, I aT.Sum], vx19] w fun v w' => ∃ r0, Q r0 ∧ v = .bool r0 ∧ Ext w w' := by
 obtain ⟨a, c, rfl⟩ := r.shape
 obtain ⟨a5, c6, rfl⟩ := r3.shape
 obtain ⟨a11, c12, rfl⟩ := r9.shape
 obtain ⟨a17, c18, rfl⟩ := r15.shape
 obtain ⟨a23, c24, rfl⟩ := r21.shape
 refine enter (args := [.agg #[sl a aG.Parents c], sl a5 aS c6, .agg #[I aT.Level, sl a11 aT.Vars c12, sl a17 aT.Where c18, I aT.Sum], sl a23 aSites c24]) 165 Try.func3 rfl rfl rfl ?_
 refine W_forget [(0, .agg #[sl a aG.Parents c]), (1, sl a5 aS c6), (2, .agg #[I aT.Level, sl a11 aT.Vars c12, sl a17 aT.Where c18, I aT.Sum]), (3, sl a23 aSites c24)] ⟨rfl, rfl, rfl, rfl, trivial⟩ fun ρ => ?_
 have X := But.refl emp w
 refine W_seq (W_region ?_)
 refine LP_box 0 (cs := [sl a aG.Parents c]) rfl rfl rfl rfl rfl fun b wx x ex25 f => ?_
 refine LP_box 1 (cs := [I aT.Level, sl a11 aT.Vars c12, sl a17 aT.Where c18, I aT.Sum]) rfl rfl rfl rfl rfl fun b26 wx27 x28 ex29 f30 => ?_
 refine LP_ev ok 2 [(8, .bool false)] 3 rfl rfl ?_
 refine LP_end _ rfl (W_seq (W_region ?_))
 refine LP_ev ok 0 [(9, I 1048576)] 1 rfl rfl ?_
 refine LP_end _ rfl (W_seq (W_region ?_))
 have ex31 := (ex25.ext x28)
 refine LP_ldbox 0 (v := .agg #[sl a aG.Parents c]) rfl rfl rfl ti_24 ag_24 (fun h => by cases h) rfl ex31 rfl rfl ?_
 refine LP_ev ok 1 [(24, I 1048576)] 2 rfl rfl ?_
 have xc := (x.trans x28)
 have ex33 := (ex.ext xc)
 refine LP_call 2 rfl rfl rfl cal_4 rfl (laws_szGeo_w _ _ _ H wx27 r ex33) ?_
 rintro _ wx34 ⟨r32, H, rfl, x35⟩
 refine LP_ev ok 3 [(9, I r32)] 4 rfl rfl ?_
 refine LP_end _ rfl (W_seq ?_)
 refine W_seq (W_region ?_)
 refine LP_ev ok 0 [(26, I r32), (27, .bool (decide (r32 < 0)))] 2 rfl rfl ?_
 refine LP_end _ rfl ?_
 refine W_cond (decide (r32 < 0)) rfl (fun hc => ?_) (fun hc => ?_)
 ·have H := H.1 hc
  refine W_seq (W_region ?_)
  refine LP_ev ok 0 [(8, .bool true)] 1 rfl rfl ?_
  refine LP_end _ rfl (W_ret ?_)
  exact ⟨_, Ret_of [.bool true] ⟨⟨rfl, rfl⟩, trivial⟩, _, H, rfl, (X.stepx (xc.trans x35)).ext⟩
 have H := H.2 hc
 refine W_skip ?_
 refine W_seq (W_region ?_)
 refine LP_ev ok 0 [(28, sl a5 aS c6), (29, I r32)] 2 rfl rfl ?_
 have xc39 := (xc.trans x35)
 have ex40 := (ex4.ext xc39)
 refine LP_call 2 rfl rfl rfl cal_5 rfl (laws_szVariableS_w _ _ _ H wx34 r3 ex40) ?_
 rintro _ wx41 ⟨r38, H, rfl, x42⟩
 refine LP_ev ok 3 [(9, I r38)] 4 rfl rfl ?_
 refine LP_end _ rfl (W_seq ?_)
 refine W_seq (W_region ?_)
 refine LP_ev ok 0 [(31, I r38), (32, .bool (decide (r38 < 0)))] 2 rfl rfl ?_
 refine LP_end _ rfl ?_
 refine W_cond (decide (r38 < 0)) rfl (fun hc43 => ?_) (fun hc43 => ?_)
 ·have H := H.1 hc43
  refine W_seq (W_region ?_)
  refine LP_ev ok 0 [(8, .bool true)] 1 rfl rfl ?_
  refine LP_end _ rfl (W_ret ?_)
  exact ⟨_, Ret_of [.bool true] ⟨⟨rfl, rfl⟩, trivial⟩, _, H, rfl, (X.stepx (xc39.trans x42)).ext⟩
 have H := H.2 hc43
 refine W_skip ?_
 refine W_seq (W_region ?_)
 have ex47 := (ex29.ext (x35.trans x42))
 refine LP_ldbox 0 (v := .agg #[I aT.Level, sl a11 aT.Vars c12, sl a17 aT.Where c18, I aT.Sum]) rfl rfl rfl ti_27 ag_27 (fun h => by cases h) rfl ex47 rfl rfl ?_
 refine LP_ev ok 1 [(34, I r38)] 2 rfl rfl ?_
 have xc49 := (xc39.trans x42)
 have ex50 := (ex10.ext xc49)
 have ex51 := (ex16.ext xc49)
 refine LP_call 2 rfl rfl rfl cal_6 rfl (laws_szTable_w _ _ _ H wx41 r9 ex50 r15 ex51) ?_
 rintro _ wx52 ⟨r48, H, rfl, x53⟩
 refine LP_ev ok 3 [(9, I r48)] 4 rfl rfl ?_
 refine LP_end _ rfl (W_seq ?_)
 refine W_seq (W_region ?_)
 refine LP_ev ok 0 [(36, I r48), (37, .bool (decide (r48 < 0)))] 2 rfl rfl ?_
 refine LP_end _ rfl ?_
 refine W_cond (decide (r48 < 0)) rfl (fun hc54 => ?_) (fun hc54 => ?_)
 ·have H := H.1 hc54
  refine W_seq (W_region ?_)
  refine LP_ev ok 0 [(8, .bool true)] 1 rfl rfl ?_
  refine LP_end _ rfl (W_ret ?_)
  exact ⟨_, Ret_of [.bool true] ⟨⟨rfl, rfl⟩, trivial⟩, _, H, rfl, (X.stepx (xc49.trans x53)).ext⟩
 have H := H.2 hc54
 refine W_skip ?_
 refine W_seq (W_region ?_)
 refine LP_ev ok 0 [(38, sl a23 aSites c24), (39, I r48)] 2 rfl rfl ?_
 have xc58 := (xc49.trans x53)
 have ex59 := (ex22.ext xc58)
 refine LP_call 2 rfl rfl rfl cal_7 rfl (laws_szRecordSS_w _ _ _ H wx52 r21 ex59) ?_
 rintro _ wx60 ⟨r57, H, rfl, x61⟩
 refine LP_ev ok 3 [(9, I r57)] 4 rfl rfl ?_
 refine LP_end _ rfl ?_
 try refine W_forget [(1, sl a5 aS c6), (3, sl a23 aSites c24), (4, pb b), (6, pb b26), (9, I r57)] ⟨rfl, rfl, rfl, rfl, rfl, trivial⟩ fun ρ => ?_
 refine W_seq ?_
 refine W_seq (W_region ?_)
 refine LP_ev ok 0 [(41, I r57), (42, .bool (decide (r57 < 0)))] 2 rfl rfl ?_
 refine LP_end _ rfl ?_
 refine W_cond (decide (r57 < 0)) rfl (fun hc62 => ?_) (fun hc62 => ?_)
 ·have H := H.1 hc62
  refine W_seq (W_region ?_)
  refine LP_ev ok 0 [(8, .bool true)] 1 rfl rfl ?_
  refine LP_end _ rfl (W_ret ?_)
  exact ⟨_, Ret_of [.bool true] ⟨⟨rfl, rfl⟩, trivial⟩, _, H, rfl, (X.stepx (xc58.trans x61)).ext⟩
 have H := H.2 hc62
 refine W_skip ?_
 refine W_seq ?_
 refine W_open mix fun wx65 x66 => ?_
 refine AP_game 13 [[], [0], [], [0, 1, 2], [], [0, 1, 2, 3, 4], [], [0, 1, 2, 3, 4, 5, 6], [0, 1, 2, 3, 4, 5, 6, 7], [0, 1, 2, 3, 4, 5, 6, 7, 8], [0, 1, 2, 3, 4, 5, 6, 7, 8, 9], [0, 1, 2, 3, 4, 5, 6, 7, 8, 9], [0, 1, 2, 3, 4, 5, 6, 7, 8, 9, 10], [0, 1, 2, 3, 4, 5, 6, 7, 8, 9, 10, 11, 12]] [[(4, none)], [(44, some 0)], [(1, none)], [(46, some 2)], [(6, none)], [(48, some 4)], [(3, none)], [(50, some 6)], [(45, some 1), (47, some 3), (49, some 5), (51, some 7)], [(52, some 8)], [(43, some 9)], [(43, some 9)], [(53, some 10)]] [(1, none), (3, none), (4, none), (6, none), (10, some 12), (54, some 11)] [(0, false), (2, false), (4, false), (6, false), (1, true), (3, true), (5, true), (7, true), (8, true), (9, false), (10, false), (11, false), (12, false)] (by kernel_rfl) (by kernel_rfl) ?_
 have xc67 := ((((x35.trans x42).trans x53).trans x61).trans x66)
 have ex68 := (ex31.ext xc67)
 refine GS_r1 [(4, pb b)] (.agg #[sl a aG.Parents c]) rfl rfl (fun _ h => h) (fun _ w e => ex_ldbox rfl ti_24 ag_24 (fun h => by cases h) rfl e rfl rfl) ex68 ?_
 refine GS_ev ok [(1, sl a5 aS c6)] (sl a5 aS c6) rfl rfl (fun _ h => h) (fun _ => rfl) ?_
 have ex70 := (ex47.ext ((x53.trans x61).trans x66))
 refine GS_r1 [(6, pb b26)] (.agg #[I aT.Level, sl a11 aT.Vars c12, sl a17 aT.Where c18, I aT.Sum]) rfl rfl (fun _ h => h) (fun _ w e => ex_ldbox rfl ti_27 ag_27 (fun h => by cases h) rfl e rfl rfl) ex70 ?_
 refine GS_ev ok [(3, sl a23 aSites c24)] (sl a23 aSites c24) rfl rfl (fun _ h => h) (fun _ => rfl) ?_
 refine GS_lp [(44, .agg #[sl a aG.Parents c])] rfl rfl (fun _ h => h) rfl fun ρ wx71 x72 => ?_
 have ex75 := (ex33.ext (xc67.trans x72))
 refine LP_call 0 rfl rfl rfl cal_9 rfl (laws_toGeo_w _ _ H wx71 r ex75) ?_
 rintro _ wx76 ⟨r73, vx78, hx79, H, rfl, x77, o, ex80, f81⟩
 obtain ⟨a82, c83, rfl⟩ := o.shape
 have ex85 := (ex70.ext (x72.trans x77))
 refine LP_gs ⟨⟨.inr ex85, .inl rfl, trivial⟩, ?_⟩
 refine GS_lp [(46, sl a5 aS c6)] rfl rfl (fun _ h => h) rfl fun ρ wx86 x87 => ?_
 have ex90 := (ex40.ext ((((((x42.trans x53).trans x61).trans x66).trans x72).trans x77).trans x87))
 refine LP_call 0 rfl rfl rfl cal_10 rfl (laws_toVariableS_w _ _ H wx86 r3 ex90) ?_
 rintro _ wx91 ⟨r88, vx93, hx94, H, rfl, x92, o95, ex96, f97⟩
 obtain ⟨a98, c99, rfl⟩ := o95.shape
 refine LP_gs ⟨⟨.inr (ex85.ext (x87.trans x92)), .inl rfl, trivial⟩, ?_⟩
 refine GS_lp [(48, .agg #[I aT.Level, sl a11 aT.Vars c12, sl a17 aT.Where c18, I aT.Sum])] rfl rfl (fun _ h => h) rfl fun ρ wx102 x103 => ?_
 have xc105 := (((((((x53.trans x61).trans x66).trans x72).trans x77).trans x87).trans x92).trans x103)
 have ex106 := (ex50.ext xc105)
 have ex107 := (ex51.ext xc105)
 refine LP_call 0 rfl rfl rfl cal_11 rfl (laws_toTable_w _ _ H wx102 r9 ex106 r15 ex107) ?_
 rintro _ wx108 ⟨r104, vx110, hx111, vx115, hx116, H, rfl, x109, HF⟩
 revert HF
 refine bb7 fun o112 ex113 f114 o117 ex118 f119 d => ?_
 obtain ⟨a120, c121, rfl⟩ := o112.shape
 obtain ⟨a122, c123, rfl⟩ := o117.shape
 refine LP_gs ⟨⟨.inl rfl, .inl rfl, trivial⟩, ?_⟩
 refine GS_lp [(50, sl a23 aSites c24)] rfl rfl (fun _ h => h) rfl fun ρ wx124 x125 => ?_
 have ex128 := (ex59.ext ((((((((x61.trans x66).trans x72).trans x77).trans x87).trans x92).trans x103).trans x109).trans x125))
 refine LP_call 0 rfl rfl rfl cal_12 rfl (laws_toRecordSS_w _ _ H wx124 r21 ex128) ?_
 rintro _ wx129 ⟨r126, vx131, hx132, H, rfl, x130, o133, ex134, f135⟩
 obtain ⟨a136, c137, rfl⟩ := o133.shape
 refine LP_gs ⟨⟨.inl rfl, .inl rfl, trivial⟩, ?_⟩
 refine GS_lp [(45, .agg #[sl a82 r73.Parents c83]), (47, sl a98 r88 c99), (49, .agg #[I r104.Level, sl a120 r104.Vars c121, sl a122 r104.Where c123, I r104.Sum]), (51, sl a136 r126 c137)] rfl rfl (fun _ h => h) rfl fun ρ wx138 x139 => ?_
 have xc146 := ((x125.trans x130).trans x139)
 refine LP_call 0 rfl rfl rfl cal_8 rfl (spec_SiteCells_w _ _ _ _ _ H wx138 o.readf (ex80.ext ((((((x87.trans x92).trans x103).trans x109).trans x125).trans x130).trans x139)) o95.readf (ex96.ext ((((x103.trans x109).trans x125).trans x130).trans x139)) o112.readf (ex113.ext xc146) o117.readf (ex118.ext xc146) o133.readf (ex134.ext x139)) ?_
 rintro _ wx150 ⟨r140, r141, vx152, hx153, H, rfl, x151, o154, ex155, f156⟩
 obtain ⟨a157, c158, rfl⟩ := o154.shape
 refine LP_gs ⟨⟨.inl rfl, .inl rfl, trivial⟩, ?_⟩
 refine GS_ev ok [(52, .tuple #[sl a157 r140 c158, .bool r141])] (.tuple #[sl a157 r140 c158, .bool r141]) rfl rfl (fun _ h => h) (fun _ => rfl) ?_
 refine GS_ev ok [(43, .tuple #[sl a157 r140 c158, .bool r141])] (sl a157 r140 c158) rfl rfl (fun _ h => h) (fun _ => rfl) ?_
 refine GS_ev ok [(43, .tuple #[sl a157 r140 c158, .bool r141])] (.bool r141) rfl rfl (fun _ h => h) (fun _ => rfl) ?_
 refine GS_ev ok [(53, sl a157 r140 c158)] (sl a157 r140 c158) rfl rfl (fun _ h => h) (fun _ => rfl) ?_
 intro wx159 x160 ρ hn
 refine AP_forget [(1, sl a5 aS c6), (3, sl a23 aSites c24), (4, pb b), (6, pb b26), (10, sl a157 r140 c158), (54, .bool r141)] (by exact hn) fun ρ => ?_
 refine AP_tail 13 [[], [0], [], [0, 1, 2], [], [0, 1, 2, 3, 4], [], [0, 1, 2, 3, 4, 5, 6], [0, 1, 2, 3, 4, 5, 6, 7], [0, 1, 2, 3, 4, 5, 6, 7, 8], [0, 1, 2, 3, 4, 5, 6, 7, 8, 9], [0, 1, 2, 3, 4, 5, 6, 7, 8, 9], [0, 1, 2, 3, 4, 5, 6, 7, 8, 9, 10], [0, 1, 2, 3, 4, 5, 6, 7, 8, 9, 10, 11, 12]] (by kernel_rfl) ?_
 refine LP_ev ok 13 [(11, .bool r141)] 14 rfl rfl ?_
 refine LP_end _ rfl (W_seq (W_region ?_))
 have xc161 := ((((((((((x72.trans x77).trans x87).trans x92).trans x103).trans x109).trans x125).trans x130).trans x139).trans x151).trans x160)
 have ex162 := (ex68.ext xc161)
 refine LP_ldbox 0 (v := .agg #[sl a aG.Parents c]) rfl rfl rfl ti_24 ag_24 (fun h => by cases h) rfl ex162 rfl rfl ?_
 have ex165 := (ex75.ext (((((((((x77.trans x87).trans x92).trans x103).trans x109).trans x125).trans x130).trans x139).trans x151).trans x160))
 refine LP_call 1 rfl rfl rfl cal_9 rfl (laws_toGeo_w _ _ H wx159 r ex165) ?_
 rintro _ wx166 ⟨r163, vx168, hx169, H, rfl, x167, o170, ex171, f172⟩
 obtain ⟨a173, c174, rfl⟩ := o170.shape
 refine LP_alloc 2 rfl rfl rfl ti_36 rfl fun b175 wx176 x177 ex178 f179 => ?_
 refine LP_stbox 3 (vs := [sl a173 r163.Parents c174]) (cs' := [sl a173 r163.Parents c174]) rfl rfl rfl ti_36 rfl rfl rfl rfl rfl ex178 rfl rfl fun wx180 ex181 y => ?_
 refine LP_end _ rfl (W_seq (W_region ?_))
 refine LP_ev ok 0 [(57, sl a5 aS c6)] 1 rfl rfl ?_
 have ex186 := ((ex90.ext (((((((((x92.trans x103).trans x109).trans x125).trans x130).trans x139).trans x151).trans x160).trans x167).trans x177)).but y (Dj.of_fresh (ex90.ext ((((((((x92.trans x103).trans x109).trans x125).trans x130).trans x139).trans x151).trans x160).trans x167)) f179).symm)
 refine LP_call 1 rfl rfl rfl cal_10 rfl (laws_toVariableS_w _ _ H wx180 r3 ex186) ?_
 rintro _ wx187 ⟨r182, vx189, hx190, H, rfl, x188, o191, ex192, f193⟩
 obtain ⟨a194, c195, rfl⟩ := o191.shape
 refine LP_ev ok 2 [(13, sl a194 r182 c195)] 3 rfl rfl ?_
 refine LP_end _ rfl (W_seq (W_region ?_))
 have ex198 := (ex70.ext (xc161.trans x167))
 have ex199 := (((ex70.ext ((((((((((((x72.trans x77).trans x87).trans x92).trans x103).trans x109).trans x125).trans x130).trans x139).trans x151).trans x160).trans x167).trans x177)).but y (Dj.of_fresh ex198 f179).symm).ext x188)
 refine LP_ldbox 0 (v := .agg #[I aT.Level, sl a11 aT.Vars c12, sl a17 aT.Where c18, I aT.Sum]) rfl rfl rfl ti_27 ag_27 (fun h => by cases h) rfl ex199 rfl rfl ?_
 have xc201 := (((((((x109.trans x125).trans x130).trans x139).trans x151).trans x160).trans x167).trans x177)
 have xc202 := ((((((x109.trans x125).trans x130).trans x139).trans x151).trans x160).trans x167)
 have ex203 := (ex106.ext xc202)
 have ex204 := (((ex106.ext xc201).but y (Dj.of_fresh ex203 f179).symm).ext x188)
 have ex205 := (ex107.ext xc202)
 have ex206 := (((ex107.ext xc201).but y (Dj.of_fresh ex205 f179).symm).ext x188)
 refine LP_call 1 rfl rfl rfl cal_11 rfl (laws_toTable_w _ _ H wx187 r9 ex204 r15 ex206) ?_
 rintro _ wx207 ⟨r200, vx209, hx210, vx214, hx215, H, rfl, x208, HF⟩
 revert HF
 refine bb7 fun o211 ex212 f213 o216 ex217 f218 d219 => ?_
 obtain ⟨a220, c221, rfl⟩ := o211.shape
 obtain ⟨a222, c223, rfl⟩ := o216.shape
 refine LP_alloc 2 rfl rfl rfl ti_40 rfl fun b224 wx225 x226 ex227 f228 => ?_
 refine LP_stbox 3 (vs := [I r200.Level, sl a220 r200.Vars c221, sl a222 r200.Where c223, I r200.Sum]) (cs' := [I r200.Level, sl a220 r200.Vars c221, sl a222 r200.Where c223, I r200.Sum]) rfl rfl rfl ti_40 rfl rfl rfl rfl rfl ex227 rfl rfl fun wx229 ex230 y231 => ?_
 refine LP_end _ rfl (W_seq (W_region ?_))
 refine LP_ev ok 0 [(61, sl a23 aSites c24)] 1 rfl rfl ?_
 have ex235 := (ex128.ext ((((x130.trans x139).trans x151).trans x160).trans x167))
 have xc236 := ((x188.trans x208).trans x226)
 have xc237 := (x188.trans x208)
 have ex239 := ((((ex128.ext (((((x130.trans x139).trans x151).trans x160).trans x167).trans x177)).but y (Dj.of_fresh ex235 f179).symm).ext xc236).but y231 (Dj.of_fresh (((ex235.ext x177).but y (Dj.of_fresh ex235 f179).symm).ext xc237) f228).symm)
 refine LP_call 1 rfl rfl rfl cal_12 rfl (laws_toRecordSS_w _ _ H wx229 r21 ex239) ?_
 rintro _ wx240 ⟨r232, vx242, hx243, H, rfl, x241, o244, ex245, f246⟩
 obtain ⟨a247, c248, rfl⟩ := o244.shape
 refine LP_ev ok 2 [(15, sl a247 r232 c248)] 3 rfl rfl ?_
 refine LP_end _ rfl (W_seq (W_region ?_))
 have ex250 := (((ex181.ext xc236).but y231 (Dj.of_fresh (ex181.ext xc237) f228).symm).ext x241)
 refine LP_ldbox 0 (v := .agg #[sl a173 r163.Parents c174]) rfl rfl rfl ti_36 ag_36 (fun h => by cases h) rfl ex250 rfl rfl ?_
 refine LP_ev ok 1 [(65, sl a194 r182 c195)] 2 rfl rfl ?_
 have ex251 := (ex230.ext x241)
 refine LP_ldbox 2 (v := .agg #[I r200.Level, sl a220 r200.Vars c221, sl a222 r200.Where c223, I r200.Sum]) rfl rfl rfl ti_40 ag_40 (fun h => by cases h) rfl ex251 rfl rfl ?_
 refine LP_ev ok 3 [(67, sl a247 r232 c248)] 4 rfl rfl ?_
 have ex254 := (((ex171.ext x177).but y (Dj.of_fresh ex171 f179).symm).ext xc237)
 have ex255 := (((((ex171.ext x177).but y (Dj.of_fresh ex171 f179).symm).ext xc236).but y231 (Dj.of_fresh ex254 f228).symm).ext x241)
 have xc256 := (x208.trans x226)
 have ex257 := (ex192.ext x208)
 have ex258 := (((ex192.ext xc256).but y231 (Dj.of_fresh ex257 f228).symm).ext x241)
 have ex259 := (((ex212.ext x226).but y231 (Dj.of_fresh ex212 f228).symm).ext x241)
 have ex260 := (((ex217.ext x226).but y231 (Dj.of_fresh ex217 f228).symm).ext x241)
 refine LP_call 4 rfl rfl rfl cal_13 rfl (impl_SiteCells_w _ _ _ _ _ H wx240 o170.readf ex255 o191.readf ex258 o211.readf ex259 o216.readf ex260 o244.readf ex245) ?_
 rintro _ wx261 ⟨r252, r253, vx263, hx264, H, rfl, x262, o265, ex266, f267⟩
 obtain ⟨a268, c269, rfl⟩ := o265.shape
 refine LP_ev ok 5 [(63, .tuple #[sl a268 r252 c269, .bool r253]), (69, sl a268 r252 c269), (70, .bool r253), (16, sl a268 r252 c269), (17, .bool r253)] 10 rfl rfl ?_
 refine LP_end _ rfl ?_
 try refine W_forget [(1, sl a5 aS c6), (3, sl a23 aSites c24), (4, pb b), (6, pb b26), (10, sl a157 r140 c158), (11, .bool r141), (12, pb b175), (13, sl a194 r182 c195), (14, pb b224), (15, sl a247 r232 c248), (16, sl a268 r252 c269), (17, .bool r253)] ⟨rfl, rfl, rfl, rfl, rfl, rfl, rfl, rfl, rfl, rfl, rfl, rfl, trivial⟩ fun ρ => ?_
 refine W_seq ?_
 obtain ⟨k, hk, H⟩ := jn_elim H
 refine W_join2 (S := Bool) (fun s ρ' w' => k s ∧ ∃ (ρ : Env), ρ' = setAll [(1, sl a5 aS c6), (3, sl a23 aSites c24), (4, pb b), (6, pb b26), (10, sl a157 r140 c158), (11, .bool r141), (12, pb b175), (13, sl a194 r182 c195), (14, pb b224), (15, sl a247 r232 c248), (16, sl a268 r252 c269), (17, .bool r253), (79, .bool s)] ρ ∧ But emp w w' ∧ Sub hx w' ∧ Sub hx2 w' ∧ Sub hx8 w' ∧ Sub hx14 w' ∧ Sub hx20 w' ∧ Sub (bx b 24 [sl a aG.Parents c]) w' ∧ Sub (bx b26 27 [I aT.Level, sl a11 aT.Vars c12, sl a17 aT.Where c18, I aT.Sum]) w' ∧ Sub hx153 w' ∧ Sub hx169 w' ∧ Sub (bx b175 36 [sl a173 r163.Parents c174]) w' ∧ Sub hx190 w' ∧ Sub hx210 w' ∧ Sub hx215 w' ∧ Sub (bx b224 40 [I r200.Level, sl a220 r200.Vars c221, sl a222 r200.Where c223, I r200.Sum]) w' ∧ Sub hx243 w' ∧ Sub hx264 w') ?_ ?_
 ·refine W_region ?_
  refine LP_ev ok 0 [(71, sl a268 r252 c269), (72, sl a157 r140 c158)] 2 rfl rfl ?_
  have ex292 := (ex155.ext (x160.trans x167))
  have xc294 := (x241.trans x262)
  have ex295 := (((((ex155.ext ((x160.trans x167).trans x177)).but y (Dj.of_fresh ex292 f179).symm).ext xc236).but y231 (Dj.of_fresh (((ex292.ext x177).but y (Dj.of_fresh ex292 f179).symm).ext xc237) f228).symm).ext xc294)
  refine LP_call 2 rfl rfl rfl cal_14 rfl (laws_eqIntSS_w _ _ _ H wx261 o265.readf ex266 o154.readf ex295) ?_
  rintro _ wx296 ⟨r289, H, rfl, x297⟩
  refine LP_ev ok 3 [(74, .bool (!r289)), (75, .bool (!r289))] 5 rfl rfl ?_
  refine LP_split 75 (!r289) rfl (fun hc298 => ?_) (fun hc298 => ?_)
  ·have H := H.1 hc298
   refine LP_ev ok 5 [(76, undef), (77, undef), (78, undef), (79, .bool true)] 9 rfl rfl ?_
   refine LP_end _ rfl ?_
   have X302 := (X.stepx ((((((((((((((((((x.trans x28).trans x35).trans x42).trans x53).trans x61).trans x66).trans x72).trans x77).trans x87).trans x92).trans x103).trans x109).trans x125).trans x130).trans x139).trans x151).trans x160).trans x167))
   have f300 := f179.mono X302.size
   have f303 := f228.mono (((X302.stepx x177).step y (f300.dom _)).stepx xc237).size
   have xc305 := (xc294.trans x297)
   have xc307 := (x167.trans x177)
   have ex308 := (ex165.ext x167)
   have ex318 := (ex162.ext x167)
   have xc324 := (x262.trans x297)
   exact ⟨true, H, _, env_eq ⟨rfl, rfl, rfl, rfl, rfl, rfl, rfl, rfl, rfl, rfl, rfl, rfl, rfl, trivial⟩, (((((X.stepx (((((((((((((((((((x.trans x28).trans x35).trans x42).trans x53).trans x61).trans x66).trans x72).trans x77).trans x87).trans x92).trans x103).trans x109).trans x125).trans x130).trans x139).trans x151).trans x160).trans x167).trans x177)).step y (f300.dom _)).stepx xc236).step y231 (f303.dom _)).stepx xc305), (((((ex165.ext xc307).but y (Dj.of_fresh ex308 f179).symm).ext xc236).but y231 (Dj.of_fresh (((ex308.ext x177).but y (Dj.of_fresh ex308 f179).symm).ext xc237) f228).symm).ext xc305), (((ex186.ext xc236).but y231 (Dj.of_fresh (ex186.ext xc237) f228).symm).ext xc305), (((ex204.ext xc256).but y231 (Dj.of_fresh (ex204.ext x208) f228).symm).ext xc305), (((ex206.ext xc256).but y231 (Dj.of_fresh (ex206.ext x208) f228).symm).ext xc305), (ex239.ext xc305), (((((ex162.ext xc307).but y (Dj.of_fresh ex318 f179).symm).ext xc236).but y231 (Dj.of_fresh (((ex318.ext x177).but y (Dj.of_fresh ex318 f179).symm).ext xc237) f228).symm).ext xc305), (((ex199.ext xc256).but y231 (Dj.of_fresh (ex199.ext x208) f228).symm).ext xc305), (ex295.ext x297), (ex255.ext xc324), (ex250.ext xc324), (ex258.ext xc324), (ex259.ext xc324), (ex260.ext xc324), (ex251.ext xc324), (ex245.ext xc324), (ex266.ext x297)⟩
  have H := H.2 hc298
  refine LP_ev ok 5 [(76, .bool r253), (77, .bool r141), (78, .bool (r253 != r141)), (79, .bool (r253 != r141))] 9 rfl rfl ?_
  refine LP_end _ rfl ?_
  have X336 := (X.stepx ((((((((((((((((((x.trans x28).trans x35).trans x42).trans x53).trans x61).trans x66).trans x72).trans x77).trans x87).trans x92).trans x103).trans x109).trans x125).trans x130).trans x139).trans x151).trans x160).trans x167))
  have f334 := f179.mono X336.size
  have f337 := f228.mono (((X336.stepx x177).step y (f334.dom _)).stepx xc237).size
  have xc339 := (xc294.trans x297)
  have xc341 := (x167.trans x177)
  have ex342 := (ex165.ext x167)
  have ex352 := (ex162.ext x167)
  have xc358 := (x262.trans x297)
  exact ⟨r253 != r141, H, _, env_eq ⟨rfl, rfl, rfl, rfl, rfl, rfl, rfl, rfl, rfl, rfl, rfl, rfl, rfl, trivial⟩, (((((X.stepx (((((((((((((((((((x.trans x28).trans x35).trans x42).trans x53).trans x61).trans x66).trans x72).trans x77).trans x87).trans x92).trans x103).trans x109).trans x125).trans x130).trans x139).trans x151).trans x160).trans x167).trans x177)).step y (f334.dom _)).stepx xc236).step y231 (f337.dom _)).stepx xc339), (((((ex165.ext xc341).but y (Dj.of_fresh ex342 f179).symm).ext xc236).but y231 (Dj.of_fresh (((ex342.ext x177).but y (Dj.of_fresh ex342 f179).symm).ext xc237) f228).symm).ext xc339), (((ex186.ext xc236).but y231 (Dj.of_fresh (ex186.ext xc237) f228).symm).ext xc339), (((ex204.ext xc256).but y231 (Dj.of_fresh (ex204.ext x208) f228).symm).ext xc339), (((ex206.ext xc256).but y231 (Dj.of_fresh (ex206.ext x208) f228).symm).ext xc339), (ex239.ext xc339), (((((ex162.ext xc341).but y (Dj.of_fresh ex352 f179).symm).ext xc236).but y231 (Dj.of_fresh (((ex352.ext x177).but y (Dj.of_fresh ex352 f179).symm).ext xc237) f228).symm).ext xc339), (((ex199.ext xc256).but y231 (Dj.of_fresh (ex199.ext x208) f228).symm).ext xc339), (ex295.ext x297), (ex255.ext xc358), (ex250.ext xc358), (ex258.ext xc358), (ex259.ext xc358), (ex260.ext xc358), (ex251.ext xc358), (ex245.ext xc358), (ex266.ext x297)⟩
 rintro x270 _ wx271 ⟨H, ρ, rfl, HF⟩
 revert HF
 refine bb9 fun X288 ex272 ex273 ex274 ex275 ex276 ex277 ex278 => ?_
 refine bb9 fun ex279 ex280 ex281 ex282 ex283 ex284 ex285 ex286 ex287 => ?_
 subst hk
 refine W_cond (x270) rfl (fun hc367 => ?_) (fun hc367 => ?_)
 ·have H := H.1 hc367
  refine W_seq (W_region ?_)
  refine LP_ev ok 0 [(8, .bool false)] 1 rfl rfl ?_
  refine LP_end _ rfl (W_ret ?_)
  exact ⟨_, Ret_of [.bool false] ⟨⟨rfl, rfl⟩, trivial⟩, _, H, rfl, X288.ext⟩
 have H := H.2 hc367
 refine W_skip ?_
 refine W_seq ?_
 refine W_seq ?_
 refine W_open mix fun wx368 x369 => ?_
 refine AP_game 3 [[], [], [1], [0, 1, 2], [0, 1, 2, 3]] [[(12, none)], [(4, none)], [(81, some 1)]] [(1, none), (3, none), (4, none), (6, none), (10, none), (11, none), (12, none), (13, none), (14, none), (15, none), (16, none), (17, none), (80, some 0), (82, some 2)] [(0, false), (1, false), (2, true)] (by kernel_rfl) (by kernel_rfl) ?_
 have ex370 := (ex281.ext x369)
 refine GS_r1 [(12, pb b175)] (.agg #[sl a173 r163.Parents c174]) rfl rfl (fun _ h => h) (fun _ w e => ex_ldbox rfl ti_36 ag_36 (fun h => by cases h) rfl e rfl rfl) ex370 ?_
 have ex371 := (ex277.ext x369)
 refine GS_r1 [(4, pb b)] (.agg #[sl a aG.Parents c]) rfl rfl (fun _ h => h) (fun _ w e => ex_ldbox rfl ti_24 ag_24 (fun h => by cases h) rfl e rfl rfl) ex371 ?_
 refine GS_lp [(81, .agg #[sl a aG.Parents c])] rfl rfl (fun _ h => h) rfl fun ρ wx372 x373 => ?_
 have ex376 := (ex272.ext (x369.trans x373))
 refine LP_call 0 rfl rfl rfl cal_9 rfl (laws_toGeo_w _ _ H wx372 r ex376) ?_
 rintro _ wx377 ⟨r374, vx379, hx380, H, rfl, x378, o381, ex382, f383⟩
 obtain ⟨a384, c385, rfl⟩ := o381.shape
 refine LP_gs ⟨⟨.inl rfl, .inr (ex370.ext (x373.trans x378)), trivial⟩, ?_⟩
 intro wx388 x389 ρ hn390
 refine AP_forget [(1, sl a5 aS c6), (3, sl a23 aSites c24), (4, pb b), (6, pb b26), (10, sl a157 r140 c158), (11, .bool r141), (12, pb b175), (13, sl a194 r182 c195), (14, pb b224), (15, sl a247 r232 c248), (16, sl a268 r252 c269), (17, .bool r253), (80, .agg #[sl a173 r163.Parents c174]), (82, .agg #[sl a384 r374.Parents c385])] (by exact hn390) fun ρ => ?_
 refine AP_tail 3 [[], [], [1], [0, 1, 2], [0, 1, 2, 3]] (by kernel_rfl) ?_
 have xc392 := (((x369.trans x373).trans x378).trans x389)
 have ex393 := (ex280.ext xc392)
 refine LP_call 3 rfl rfl rfl cal_15 rfl (laws_eqGeo_w _ _ _ H wx388 o170.readf ex393 o381.readf (ex382.ext x389)) ?_
 rintro _ wx395 ⟨r391, H, rfl, x396⟩
 refine LP_ev ok 4 [(84, .bool (!r391))] 5 rfl rfl ?_
 refine LP_end _ rfl ?_
 refine W_cond (!r391) rfl (fun hc397 => ?_) (fun hc397 => ?_)
 ·have H := H.1 hc397
  refine W_seq (W_region ?_)
  refine LP_ev ok 0 [(8, .bool false)] 1 rfl rfl ?_
  refine LP_end _ rfl (W_ret ?_)
  exact ⟨_, Ret_of [.bool false] ⟨⟨rfl, rfl⟩, trivial⟩, _, H, rfl, (X288.stepx (xc392.trans x396)).ext⟩
 have H := H.2 hc397
 refine W_skip ?_
 refine W_seq ?_
 refine W_seq (W_region ?_)
 refine LP_ev ok 0 [(85, sl a194 r182 c195), (86, sl a5 aS c6)] 2 rfl rfl ?_
 have xc401 := (xc392.trans x396)
 have ex402 := (ex273.ext xc401)
 refine LP_call 2 rfl rfl rfl cal_10 rfl (laws_toVariableS_w _ _ H wx395 r3 ex402) ?_
 rintro _ wx403 ⟨r400, vx405, hx406, H, rfl, x404, o407, ex408, f409⟩
 obtain ⟨a410, c411, rfl⟩ := o407.shape
 have xc413 := (xc401.trans x404)
 have ex414 := (ex282.ext xc413)
 refine LP_call 3 rfl rfl rfl cal_16 rfl (laws_eqVariableS_w _ _ _ H wx403 o191.readf ex414 o407.readf ex408) ?_
 rintro _ wx415 ⟨r412, H, rfl, x416⟩
 refine LP_ev ok 4 [(89, .bool (!r412))] 5 rfl rfl ?_
 refine LP_end _ rfl ?_
 refine W_cond (!r412) rfl (fun hc417 => ?_) (fun hc417 => ?_)
 ·have H := H.1 hc417
  refine W_seq (W_region ?_)
  refine LP_ev ok 0 [(8, .bool false)] 1 rfl rfl ?_
  refine LP_end _ rfl (W_ret ?_)
  exact ⟨_, Ret_of [.bool false] ⟨⟨rfl, rfl⟩, trivial⟩, _, H, rfl, (X288.stepx (xc413.trans x416)).ext⟩
 have H := H.2 hc417
 refine W_skip ?_
 refine W_seq ?_
 refine W_seq ?_
 refine W_open mix fun wx420 x421 => ?_
 refine AP_game 3 [[], [], [1], [0, 1, 2], [0, 1, 2, 3]] [[(14, none)], [(6, none)], [(91, some 1)]] [(1, none), (3, none), (4, none), (6, none), (10, none), (11, none), (12, none), (13, none), (14, none), (15, none), (16, none), (17, none), (90, some 0), (92, some 2)] [(0, false), (1, false), (2, true)] (by kernel_rfl) (by kernel_rfl) ?_
 have xc422 := (((((((x369.trans x373).trans x378).trans x389).trans x396).trans x404).trans x416).trans x421)
 have ex423 := (ex285.ext xc422)
 refine GS_r1 [(14, pb b224)] (.agg #[I r200.Level, sl a220 r200.Vars c221, sl a222 r200.Where c223, I r200.Sum]) rfl rfl (fun _ h => h) (fun _ w e => ex_ldbox rfl ti_40 ag_40 (fun h => by cases h) rfl e rfl rfl) ex423 ?_
 have ex424 := (ex278.ext xc422)
 refine GS_r1 [(6, pb b26)] (.agg #[I aT.Level, sl a11 aT.Vars c12, sl a17 aT.Where c18, I aT.Sum]) rfl rfl (fun _ h => h) (fun _ w e => ex_ldbox rfl ti_27 ag_27 (fun h => by cases h) rfl e rfl rfl) ex424 ?_
 refine GS_lp [(91, .agg #[I aT.Level, sl a11 aT.Vars c12, sl a17 aT.Where c18, I aT.Sum])] rfl rfl (fun _ h => h) rfl fun ρ wx425 x426 => ?_
 have xc428 := (xc422.trans x426)
 have ex429 := (ex274.ext xc428)
 have ex430 := (ex275.ext xc428)
 refine LP_call 0 rfl rfl rfl cal_11 rfl (laws_toTable_w _ _ H wx425 r9 ex429 r15 ex430) ?_
 rintro _ wx431 ⟨r427, vx433, hx434, vx438, hx439, H, rfl, x432, HF⟩
 revert HF
 refine bb7 fun o435 ex436 f437 o440 ex441 f442 d443 => ?_
 obtain ⟨a444, c445, rfl⟩ := o435.shape
 obtain ⟨a446, c447, rfl⟩ := o440.shape
 refine LP_gs ⟨⟨.inl rfl, .inr (ex423.ext (x426.trans x432)), trivial⟩, ?_⟩
 intro wx450 x451 ρ hn452
 refine AP_forget [(1, sl a5 aS c6), (3, sl a23 aSites c24), (4, pb b), (6, pb b26), (10, sl a157 r140 c158), (11, .bool r141), (12, pb b175), (13, sl a194 r182 c195), (14, pb b224), (15, sl a247 r232 c248), (16, sl a268 r252 c269), (17, .bool r253), (90, .agg #[I r200.Level, sl a220 r200.Vars c221, sl a222 r200.Where c223, I r200.Sum]), (92, .agg #[I r427.Level, sl a444 r427.Vars c445, sl a446 r427.Where c447, I r427.Sum])] (by exact hn452) fun ρ => ?_
 refine AP_tail 3 [[], [], [1], [0, 1, 2], [0, 1, 2, 3]] (by kernel_rfl) ?_
 have xc454 := ((((((((((x369.trans x373).trans x378).trans x389).trans x396).trans x404).trans x416).trans x421).trans x426).trans x432).trans x451)
 have ex455 := (ex283.ext xc454)
 have ex456 := (ex284.ext xc454)
 refine LP_call 3 rfl rfl rfl cal_17 rfl (laws_eqTable_w _ _ _ H wx450 o211.readf ex455 o216.readf ex456 o435.readf (ex436.ext x451) o440.readf (ex441.ext x451)) ?_
 rintro _ wx459 ⟨r453, H, rfl, x460⟩
 refine LP_ev ok 4 [(94, .bool (!r453))] 5 rfl rfl ?_
 refine LP_end _ rfl ?_
 refine W_cond (!r453) rfl (fun hc461 => ?_) (fun hc461 => ?_)
 ·have H := H.1 hc461
  refine W_seq (W_region ?_)
  refine LP_ev ok 0 [(8, .bool false)] 1 rfl rfl ?_
  refine LP_end _ rfl (W_ret ?_)
  exact ⟨_, Ret_of [.bool false] ⟨⟨rfl, rfl⟩, trivial⟩, _, H, rfl, (X288.stepx (xc454.trans x460)).ext⟩
 have H := H.2 hc461
 refine W_skip ?_
 refine W_seq ?_
 refine W_seq (W_region ?_)
 refine LP_ev ok 0 [(95, sl a247 r232 c248), (96, sl a23 aSites c24)] 2 rfl rfl ?_
 have xc465 := (xc454.trans x460)
 have ex466 := (ex276.ext xc465)
 refine LP_call 2 rfl rfl rfl cal_12 rfl (laws_toRecordSS_w _ _ H wx459 r21 ex466) ?_
 rintro _ wx467 ⟨r464, vx469, hx470, H, rfl, x468, o471, ex472, f473⟩
 obtain ⟨a474, c475, rfl⟩ := o471.shape
 have xc477 := (xc465.trans x468)
 have ex478 := (ex286.ext xc477)
 refine LP_call 3 rfl rfl rfl cal_18 rfl (laws_eqRecordSS_w _ _ _ H wx467 o244.readf ex478 o471.readf ex472) ?_
 rintro _ wx479 ⟨r476, H, rfl, x480⟩
 refine LP_ev ok 4 [(99, .bool (!r476))] 5 rfl rfl ?_
 refine LP_end _ rfl ?_
 refine W_cond (!r476) rfl (fun hc481 => ?_) (fun hc481 => ?_)
 ·have H := H.1 hc481
  refine W_seq (W_region ?_)
  refine LP_ev ok 0 [(8, .bool false)] 1 rfl rfl ?_
  refine LP_end _ rfl (W_ret ?_)
  exact ⟨_, Ret_of [.bool false] ⟨⟨rfl, rfl⟩, trivial⟩, _, H, rfl, (X288.stepx (xc477.trans x480)).ext⟩
 have H := H.2 hc481
 refine W_skip ?_
 refine W_seq (W_region ?_)
 refine LP_ev ok 0 [(18, I 1)] 1 rfl rfl ?_
 refine LP_end _ rfl (W_seq (W_region ?_))
 have xc484 := ((((((((((((x373.trans x378).trans x389).trans x396).trans x404).trans x416).trans x421).trans x426).trans x432).trans x451).trans x460).trans x468).trans x480)
 refine LP_ldbox 0 (v := .agg #[sl a173 r163.Parents c174]) rfl rfl rfl ti_36 ag_36 (fun h => by cases h) rfl (ex370.ext xc484) rfl rfl ?_
 refine LP_ev ok 1 [(101, I 1)] 2 rfl rfl ?_
 refine LP_call 2 rfl rfl rfl cal_19 rfl (laws_markGeo_w _ _ _ H wx479 o170 (ex393.ext (((((((((x396.trans x404).trans x416).trans x421).trans x426).trans x432).trans x451).trans x460).trans x468).trans x480))) ?_
 rintro _ wx490 ⟨r486, r487, hx492, H, rfl, x491, o493, ex494, dm⟩
 refine LP_ev ok 3 [(18, I r486)] 4 rfl rfl ?_
 refine LP_end _ rfl (W_seq (W_region ?_))
 refine LP_ev ok 0 [(103, sl a194 r182 c195), (104, I r486)] 2 rfl rfl ?_
 have ex498 := ((ex171.ext x177).but y (Dj.of_fresh ex171 f179).symm)
 refine LP_call 2 rfl rfl rfl cal_20 rfl (laws_markVariableS_w _ _ _ H wx490 o191 ((ex414.ext (((((((x416.trans x421).trans x426).trans x432).trans x451).trans x460).trans x468).trans x480)).but x491 (Dj.of_fresh ex498 f193))) ?_
 rintro _ wx500 ⟨r495, r496, hx502, H, rfl, x501, o503, ex504, dm505⟩
 refine LP_ev ok 3 [(18, I r495)] 4 rfl rfl ?_
 refine LP_end _ rfl (W_seq (W_region ?_))
 have xc506 := (((((x426.trans x432).trans x451).trans x460).trans x468).trans x480)
 refine LP_ldbox 0 (v := .agg #[I r200.Level, sl a220 r200.Vars c221, sl a222 r200.Where c223, I r200.Sum]) rfl rfl rfl ti_40 ag_40 (fun h => by cases h) rfl (((ex423.ext xc506).but x491 (Dj.box (Dj.of_fresh ex254 f228).symm).symm).but x501 (Dj.box (Dj.of_fresh ex257 f228).symm).symm) rfl rfl ?_
 refine LP_ev ok 1 [(107, I r495)] 2 rfl rfl ?_
 have xc511 := ((x460.trans x468).trans x480)
 have ex512 := (ex498.ext x188)
 refine LP_call 2 rfl rfl rfl cal_21 rfl (laws_markTable_w _ _ _ H wx500 o211 (((ex455.ext xc511).but x491 (Dj.of_fresh ex512 f213)).but x501 (Dj.of_fresh ex192 f213)) o216 (((ex456.ext xc511).but x491 (Dj.of_fresh ex512 f218)).but x501 (Dj.of_fresh ex192 f218)) d219) ?_
 rintro _ wx515 ⟨r508, r509, r510, hx517, hx521, H, rfl, x516, HF⟩
 revert HF
 refine bb7 fun o518 ex519 dm520 o522 ex523 dm524 d525 => ?_
 refine LP_ev ok 3 [(18, I r508)] 4 rfl rfl ?_
 refine LP_end _ rfl (W_seq (W_region ?_))
 refine LP_ev ok 0 [(109, sl a247 r232 c248), (110, I r508)] 2 rfl rfl ?_
 refine LP_call 2 rfl rfl rfl cal_22 rfl (laws_markRecordSS_w _ _ _ H wx515 o244 ((((ex478.ext x480).but x491 (Dj.of_fresh ((ex254.ext x226).but y231 (Dj.of_fresh ex254 f228).symm) f246)).but x501 (Dj.of_fresh ((ex257.ext x226).but y231 (Dj.of_fresh ex257 f228).symm) f246)).but x516 (Dj.un_l (Dj.of_fresh ((ex212.ext x226).but y231 (Dj.of_fresh ex212 f228).symm) f246) (Dj.of_fresh ((ex217.ext x226).but y231 (Dj.of_fresh ex217 f228).symm) f246)))) ?_
 rintro _ wx533 ⟨r526, r527, hx535, H, rfl, x534, o536, ex537, dm538⟩
 refine LP_ev ok 3 [(18, I r526)] 4 rfl rfl ?_
 refine LP_end _ rfl (W_seq ?_)
 obtain ⟨k551, hk552, H⟩ := jn_elim H
 refine W_join2 (S := Bool) (fun s ρ' w' => k551 s ∧ ∃ (ρ : Env), ρ' = setAll [(1, sl a5 aS c6), (3, sl a23 aSites c24), (4, pb b), (6, pb b26), (10, sl a157 r140 c158), (11, .bool r141), (16, sl a268 r252 c269), (124, .bool s)] ρ ∧ But emp w w' ∧ Sub hx w' ∧ Sub hx2 w' ∧ Sub hx8 w' ∧ Sub hx14 w' ∧ Sub hx20 w' ∧ Sub (bx b 24 [sl a aG.Parents c]) w' ∧ Sub (bx b26 27 [I aT.Level, sl a11 aT.Vars c12, sl a17 aT.Where c18, I aT.Sum]) w' ∧ Sub hx153 w' ∧ Sub hx264 w') ?_ ?_
 ·refine W_region ?_
  refine LP_ev ok 0 [(112, I r526), (113, .bool (decide (r526 < 0))), (114, .bool (decide (r526 < 0)))] 3 rfl rfl ?_
  refine LP_split 114 (decide (r526 < 0)) rfl (fun hc553 => ?_) (fun hc553 => ?_)
  ·have H := H.1 hc553
   refine LP_ev ok 3 [(115, undef), (116, undef), (117, undef), (118, undef), (119, .bool true), (120, .bool true), (121, undef), (122, undef), (123, undef), (124, .bool true)] 13 rfl rfl ?_
   refine LP_end _ rfl ?_
   try refine W_forget [(1, sl a5 aS c6), (3, sl a23 aSites c24), (4, pb b), (6, pb b26), (10, sl a157 r140 c158), (11, .bool r141), (16, sl a268 r252 c269), (124, .bool true)] ⟨rfl, rfl, rfl, rfl, rfl, rfl, rfl, rfl, trivial⟩ fun ρ => ?_
   have xc554 := (xc477.trans x480)
   have X557 := (X.stepx (((((((((((((((((x.trans x28).trans x35).trans x42).trans x53).trans x61).trans x66).trans x72).trans x77).trans x87).trans x92).trans x103).trans x109).trans x125).trans x130).trans x139).trans x151).trans x160))
   have f555 := f172.mono X557.size
   have xc559 := (x167.trans x177)
   have f560 := f179.mono (X557.stepx x167).size
   have X562 := ((X557.stepx xc559).step y (f560.dom _))
   have f558 := f193.mono X562.size
   have X564 := (X562.stepx x188)
   have f563 := f213.mono X564.size
   have f565 := f218.mono X564.size
   have f567 := f228.mono (X564.stepx x208).size
   have f566 := f246.mono ((X564.stepx xc256).step y231 (f567.dom _)).size
   have ex573 := ((ex165.ext xc559).but y (Dj.of_fresh (ex165.ext x167) f179).symm)
   have ex574 := (ex573.ext x188)
   have ex581 := (ex186.ext x188)
   have xc585 := ((((x432.trans x451).trans x460).trans x468).trans x480)
   have xc586 := (((((x109.trans x125).trans x130).trans x139).trans x151).trans x160)
   have ex600 := ((ex235.ext x177).but y (Dj.of_fresh ex235 f179).symm)
   have ex601 := (ex600.ext x188)
   have ex604 := ((ex162.ext xc559).but y (Dj.of_fresh (ex162.ext x167) f179).symm)
   have ex605 := (ex604.ext x188)
   have ex614 := (ex155.ext x160)
   have ex616 := ((ex614.ext xc559).but y (Dj.of_fresh (ex614.ext x167) f179).symm)
   have ex617 := (ex616.ext x188)
   exact ⟨true, H, _, env_eq ⟨rfl, rfl, rfl, rfl, rfl, rfl, rfl, rfl, trivial⟩, (((((X288.stepx xc554).step x491 (f555.dom _)).step x501 (f558.dom _)).step x516 (DomLe.un (f563.dom _) (f565.dom _))).step x534 (f566.dom _)), (((((ex376.ext (((((((((((x378.trans x389).trans x396).trans x404).trans x416).trans x421).trans x426).trans x432).trans x451).trans x460).trans x468).trans x480)).but x491 (Dj.of_fresh ex165 f172).symm).but x501 (Dj.of_fresh ex573 f193).symm).but x516 (Dj.un_l (Dj.of_fresh ex574 f213).symm (Dj.of_fresh ex574 f218).symm)).but x534 (Dj.of_fresh ((ex574.ext xc256).but y231 (Dj.of_fresh (ex574.ext x208) f228).symm) f246).symm), (((((ex402.ext ((((((((x404.trans x416).trans x421).trans x426).trans x432).trans x451).trans x460).trans x468).trans x480)).but x491 (Dj.of_fresh (ex90.ext (((((((x92.trans x103).trans x109).trans x125).trans x130).trans x139).trans x151).trans x160)) f172).symm).but x501 (Dj.of_fresh ex186 f193).symm).but x516 (Dj.un_l (Dj.of_fresh ex581 f213).symm (Dj.of_fresh ex581 f218).symm)).but x534 (Dj.of_fresh ((ex581.ext xc256).but y231 (Dj.of_fresh (ex581.ext x208) f228).symm) f246).symm), (((((ex429.ext xc585).but x491 (Dj.of_fresh (ex106.ext xc586) f172).symm).but x501 (Dj.of_fresh ((ex203.ext x177).but y (Dj.of_fresh ex203 f179).symm) f193).symm).but x516 (Dj.un_l (Dj.of_fresh ex204 f213).symm (Dj.of_fresh ex204 f218).symm)).but x534 (Dj.of_fresh ((ex204.ext xc256).but y231 (Dj.of_fresh (ex204.ext x208) f228).symm) f246).symm), (((((ex430.ext xc585).but x491 (Dj.of_fresh (ex107.ext xc586) f172).symm).but x501 (Dj.of_fresh ((ex205.ext x177).but y (Dj.of_fresh ex205 f179).symm) f193).symm).but x516 (Dj.un_l (Dj.of_fresh ex206 f213).symm (Dj.of_fresh ex206 f218).symm)).but x534 (Dj.of_fresh ((ex206.ext xc256).but y231 (Dj.of_fresh (ex206.ext x208) f228).symm) f246).symm), (((((ex466.ext (x468.trans x480)).but x491 (Dj.of_fresh (ex128.ext (((x130.trans x139).trans x151).trans x160)) f172).symm).but x501 (Dj.of_fresh ex600 f193).symm).but x516 (Dj.un_l (Dj.of_fresh ex601 f213).symm (Dj.of_fresh ex601 f218).symm)).but x534 (Dj.of_fresh ex239 f246).symm), (((((ex371.ext xc484).but x491 (Dj.of_fresh ex162 f172).symm).but x501 (Dj.of_fresh ex604 f193).symm).but x516 (Dj.un_l (Dj.of_fresh ex605 f213).symm (Dj.of_fresh ex605 f218).symm)).but x534 (Dj.of_fresh ((ex605.ext xc256).but y231 (Dj.of_fresh (ex605.ext x208) f228).symm) f246).symm), (((((ex424.ext xc506).but x491 (Dj.of_fresh (ex70.ext xc161) f172).symm).but x501 (Dj.of_fresh ((ex198.ext x177).but y (Dj.of_fresh ex198 f179).symm) f193).symm).but x516 (Dj.un_l (Dj.of_fresh ex199 f213).symm (Dj.of_fresh ex199 f218).symm)).but x534 (Dj.of_fresh ((ex199.ext xc256).but y231 (Dj.of_fresh (ex199.ext x208) f228).symm) f246).symm), (((((ex279.ext xc554).but x491 (Dj.of_fresh ex614 f172).symm).but x501 (Dj.of_fresh ex616 f193).symm).but x516 (Dj.un_l (Dj.of_fresh ex617 f213).symm (Dj.of_fresh ex617 f218).symm)).but x534 (Dj.of_fresh ((ex617.ext xc256).but y231 (Dj.of_fresh (ex617.ext x208) f228).symm) f246).symm), (((((ex287.ext xc554).but x491 (Dj.of_fresh ex255 f267)).but x501 (Dj.of_fresh ex258 f267)).but x516 (Dj.un_l (Dj.of_fresh ex259 f267) (Dj.of_fresh ex260 f267))).but x534 (Dj.of_fresh ex245 f267))⟩
  have H := H.2 hc553
  refine LP_ev ok 3 [(115, sl a268 r252 c269), (116, sl a157 r140 c158)] 5 rfl rfl ?_
  have xc623 := (xc477.trans x480)
  have ex624 := (((((ex287.ext xc623).but x491 (Dj.of_fresh ex255 f267)).but x501 (Dj.of_fresh ex258 f267)).but x516 (Dj.un_l (Dj.of_fresh ex259 f267) (Dj.of_fresh ex260 f267))).but x534 (Dj.of_fresh ex245 f267))
  have ex625 := (ex155.ext x160)
  have xc626 := (x167.trans x177)
  have ex628 := ((ex625.ext xc626).but y (Dj.of_fresh (ex625.ext x167) f179).symm)
  have ex629 := (ex628.ext x188)
  have ex632 := (((((ex279.ext xc623).but x491 (Dj.of_fresh ex625 f172).symm).but x501 (Dj.of_fresh ex628 f193).symm).but x516 (Dj.un_l (Dj.of_fresh ex629 f213).symm (Dj.of_fresh ex629 f218).symm)).but x534 (Dj.of_fresh ((ex629.ext xc256).but y231 (Dj.of_fresh (ex629.ext x208) f228).symm) f246).symm)
  refine LP_call 5 rfl rfl rfl cal_14 rfl (laws_eqIntSS_w _ _ _ H wx533 o265.readf ex624 o154.readf ex632) ?_
  rintro _ wx633 ⟨r622, H, rfl, x634⟩
  refine LP_ev ok 6 [(118, .bool (!r622)), (119, .bool (!r622)), (120, .bool (!r622))] 9 rfl rfl ?_
  refine LP_split 120 (!r622) rfl (fun hc635 => ?_) (fun hc635 => ?_)
  ·have H := H.1 hc635
   refine LP_ev ok 9 [(121, undef), (122, undef), (123, undef), (124, .bool true)] 13 rfl rfl ?_
   refine LP_end _ rfl ?_
   try refine W_forget [(1, sl a5 aS c6), (3, sl a23 aSites c24), (4, pb b), (6, pb b26), (10, sl a157 r140 c158), (11, .bool r141), (16, sl a268 r252 c269), (124, .bool true)] ⟨rfl, rfl, rfl, rfl, rfl, rfl, rfl, rfl, trivial⟩ fun ρ => ?_
   have X638 := (X.stepx (((((((((((((((((x.trans x28).trans x35).trans x42).trans x53).trans x61).trans x66).trans x72).trans x77).trans x87).trans x92).trans x103).trans x109).trans x125).trans x130).trans x139).trans x151).trans x160))
   have f636 := f172.mono X638.size
   have f640 := f179.mono (X638.stepx x167).size
   have X642 := ((X638.stepx xc626).step y (f640.dom _))
   have f639 := f193.mono X642.size
   have X644 := (X642.stepx x188)
   have f643 := f213.mono X644.size
   have f645 := f218.mono X644.size
   have f647 := f228.mono (X644.stepx x208).size
   have f646 := f246.mono ((X644.stepx xc256).step y231 (f647.dom _)).size
   have ex653 := ((ex165.ext xc626).but y (Dj.of_fresh (ex165.ext x167) f179).symm)
   have ex654 := (ex653.ext x188)
   have ex661 := (ex186.ext x188)
   have xc665 := ((((x432.trans x451).trans x460).trans x468).trans x480)
   have xc666 := (((((x109.trans x125).trans x130).trans x139).trans x151).trans x160)
   have ex680 := ((ex235.ext x177).but y (Dj.of_fresh ex235 f179).symm)
   have ex681 := (ex680.ext x188)
   have ex684 := ((ex162.ext xc626).but y (Dj.of_fresh (ex162.ext x167) f179).symm)
   have ex685 := (ex684.ext x188)
   exact ⟨true, H, _, env_eq ⟨rfl, rfl, rfl, rfl, rfl, rfl, rfl, rfl, trivial⟩, ((((((X288.stepx xc623).step x491 (f636.dom _)).step x501 (f639.dom _)).step x516 (DomLe.un (f643.dom _) (f645.dom _))).step x534 (f646.dom _)).stepx x634), ((((((ex376.ext (((((((((((x378.trans x389).trans x396).trans x404).trans x416).trans x421).trans x426).trans x432).trans x451).trans x460).trans x468).trans x480)).but x491 (Dj.of_fresh ex165 f172).symm).but x501 (Dj.of_fresh ex653 f193).symm).but x516 (Dj.un_l (Dj.of_fresh ex654 f213).symm (Dj.of_fresh ex654 f218).symm)).but x534 (Dj.of_fresh ((ex654.ext xc256).but y231 (Dj.of_fresh (ex654.ext x208) f228).symm) f246).symm).ext x634), ((((((ex402.ext ((((((((x404.trans x416).trans x421).trans x426).trans x432).trans x451).trans x460).trans x468).trans x480)).but x491 (Dj.of_fresh (ex90.ext (((((((x92.trans x103).trans x109).trans x125).trans x130).trans x139).trans x151).trans x160)) f172).symm).but x501 (Dj.of_fresh ex186 f193).symm).but x516 (Dj.un_l (Dj.of_fresh ex661 f213).symm (Dj.of_fresh ex661 f218).symm)).but x534 (Dj.of_fresh ((ex661.ext xc256).but y231 (Dj.of_fresh (ex661.ext x208) f228).symm) f246).symm).ext x634), ((((((ex429.ext xc665).but x491 (Dj.of_fresh (ex106.ext xc666) f172).symm).but x501 (Dj.of_fresh ((ex203.ext x177).but y (Dj.of_fresh ex203 f179).symm) f193).symm).but x516 (Dj.un_l (Dj.of_fresh ex204 f213).symm (Dj.of_fresh ex204 f218).symm)).but x534 (Dj.of_fresh ((ex204.ext xc256).but y231 (Dj.of_fresh (ex204.ext x208) f228).symm) f246).symm).ext x634), ((((((ex430.ext xc665).but x491 (Dj.of_fresh (ex107.ext xc666) f172).symm).but x501 (Dj.of_fresh ((ex205.ext x177).but y (Dj.of_fresh ex205 f179).symm) f193).symm).but x516 (Dj.un_l (Dj.of_fresh ex206 f213).symm (Dj.of_fresh ex206 f218).symm)).but x534 (Dj.of_fresh ((ex206.ext xc256).but y231 (Dj.of_fresh (ex206.ext x208) f228).symm) f246).symm).ext x634), ((((((ex466.ext (x468.trans x480)).but x491 (Dj.of_fresh (ex128.ext (((x130.trans x139).trans x151).trans x160)) f172).symm).but x501 (Dj.of_fresh ex680 f193).symm).but x516 (Dj.un_l (Dj.of_fresh ex681 f213).symm (Dj.of_fresh ex681 f218).symm)).but x534 (Dj.of_fresh ex239 f246).symm).ext x634), ((((((ex371.ext xc484).but x491 (Dj.of_fresh ex162 f172).symm).but x501 (Dj.of_fresh ex684 f193).symm).but x516 (Dj.un_l (Dj.of_fresh ex685 f213).symm (Dj.of_fresh ex685 f218).symm)).but x534 (Dj.of_fresh ((ex685.ext xc256).but y231 (Dj.of_fresh (ex685.ext x208) f228).symm) f246).symm).ext x634), ((((((ex424.ext xc506).but x491 (Dj.of_fresh (ex70.ext xc161) f172).symm).but x501 (Dj.of_fresh ((ex198.ext x177).but y (Dj.of_fresh ex198 f179).symm) f193).symm).but x516 (Dj.un_l (Dj.of_fresh ex199 f213).symm (Dj.of_fresh ex199 f218).symm)).but x534 (Dj.of_fresh ((ex199.ext xc256).but y231 (Dj.of_fresh (ex199.ext x208) f228).symm) f246).symm).ext x634), (ex632.ext x634), (ex624.ext x634)⟩
  have H := H.2 hc635
  refine LP_ev ok 9 [(121, .bool r253), (122, .bool r141), (123, .bool (r253 != r141)), (124, .bool (r253 != r141))] 13 rfl rfl ?_
  refine LP_end _ rfl ?_
  try refine W_forget [(1, sl a5 aS c6), (3, sl a23 aSites c24), (4, pb b), (6, pb b26), (10, sl a157 r140 c158), (11, .bool r141), (16, sl a268 r252 c269), (124, .bool (r253 != r141))] ⟨rfl, rfl, rfl, rfl, rfl, rfl, rfl, rfl, trivial⟩ fun ρ => ?_
  have X698 := (X.stepx (((((((((((((((((x.trans x28).trans x35).trans x42).trans x53).trans x61).trans x66).trans x72).trans x77).trans x87).trans x92).trans x103).trans x109).trans x125).trans x130).trans x139).trans x151).trans x160))
  have f696 := f172.mono X698.size
  have f700 := f179.mono (X698.stepx x167).size
  have X702 := ((X698.stepx xc626).step y (f700.dom _))
  have f699 := f193.mono X702.size
  have X704 := (X702.stepx x188)
  have f703 := f213.mono X704.size
  have f705 := f218.mono X704.size
  have f707 := f228.mono (X704.stepx x208).size
  have f706 := f246.mono ((X704.stepx xc256).step y231 (f707.dom _)).size
  have ex713 := ((ex165.ext xc626).but y (Dj.of_fresh (ex165.ext x167) f179).symm)
  have ex714 := (ex713.ext x188)
  have ex721 := (ex186.ext x188)
  have xc725 := ((((x432.trans x451).trans x460).trans x468).trans x480)
  have xc726 := (((((x109.trans x125).trans x130).trans x139).trans x151).trans x160)
  have ex740 := ((ex235.ext x177).but y (Dj.of_fresh ex235 f179).symm)
  have ex741 := (ex740.ext x188)
  have ex744 := ((ex162.ext xc626).but y (Dj.of_fresh (ex162.ext x167) f179).symm)
  have ex745 := (ex744.ext x188)
  exact ⟨r253 != r141, H, _, env_eq ⟨rfl, rfl, rfl, rfl, rfl, rfl, rfl, rfl, trivial⟩, ((((((X288.stepx xc623).step x491 (f696.dom _)).step x501 (f699.dom _)).step x516 (DomLe.un (f703.dom _) (f705.dom _))).step x534 (f706.dom _)).stepx x634), ((((((ex376.ext (((((((((((x378.trans x389).trans x396).trans x404).trans x416).trans x421).trans x426).trans x432).trans x451).trans x460).trans x468).trans x480)).but x491 (Dj.of_fresh ex165 f172).symm).but x501 (Dj.of_fresh ex713 f193).symm).but x516 (Dj.un_l (Dj.of_fresh ex714 f213).symm (Dj.of_fresh ex714 f218).symm)).but x534 (Dj.of_fresh ((ex714.ext xc256).but y231 (Dj.of_fresh (ex714.ext x208) f228).symm) f246).symm).ext x634), ((((((ex402.ext ((((((((x404.trans x416).trans x421).trans x426).trans x432).trans x451).trans x460).trans x468).trans x480)).but x491 (Dj.of_fresh (ex90.ext (((((((x92.trans x103).trans x109).trans x125).trans x130).trans x139).trans x151).trans x160)) f172).symm).but x501 (Dj.of_fresh ex186 f193).symm).but x516 (Dj.un_l (Dj.of_fresh ex721 f213).symm (Dj.of_fresh ex721 f218).symm)).but x534 (Dj.of_fresh ((ex721.ext xc256).but y231 (Dj.of_fresh (ex721.ext x208) f228).symm) f246).symm).ext x634), ((((((ex429.ext xc725).but x491 (Dj.of_fresh (ex106.ext xc726) f172).symm).but x501 (Dj.of_fresh ((ex203.ext x177).but y (Dj.of_fresh ex203 f179).symm) f193).symm).but x516 (Dj.un_l (Dj.of_fresh ex204 f213).symm (Dj.of_fresh ex204 f218).symm)).but x534 (Dj.of_fresh ((ex204.ext xc256).but y231 (Dj.of_fresh (ex204.ext x208) f228).symm) f246).symm).ext x634), ((((((ex430.ext xc725).but x491 (Dj.of_fresh (ex107.ext xc726) f172).symm).but x501 (Dj.of_fresh ((ex205.ext x177).but y (Dj.of_fresh ex205 f179).symm) f193).symm).but x516 (Dj.un_l (Dj.of_fresh ex206 f213).symm (Dj.of_fresh ex206 f218).symm)).but x534 (Dj.of_fresh ((ex206.ext xc256).but y231 (Dj.of_fresh (ex206.ext x208) f228).symm) f246).symm).ext x634), ((((((ex466.ext (x468.trans x480)).but x491 (Dj.of_fresh (ex128.ext (((x130.trans x139).trans x151).trans x160)) f172).symm).but x501 (Dj.of_fresh ex740 f193).symm).but x516 (Dj.un_l (Dj.of_fresh ex741 f213).symm (Dj.of_fresh ex741 f218).symm)).but x534 (Dj.of_fresh ex239 f246).symm).ext x634), ((((((ex371.ext xc484).but x491 (Dj.of_fresh ex162 f172).symm).but x501 (Dj.of_fresh ex744 f193).symm).but x516 (Dj.un_l (Dj.of_fresh ex745 f213).symm (Dj.of_fresh ex745 f218).symm)).but x534 (Dj.of_fresh ((ex745.ext xc256).but y231 (Dj.of_fresh (ex745.ext x208) f228).symm) f246).symm).ext x634), ((((((ex424.ext xc506).but x491 (Dj.of_fresh (ex70.ext xc161) f172).symm).but x501 (Dj.of_fresh ((ex198.ext x177).but y (Dj.of_fresh ex198 f179).symm) f193).symm).but x516 (Dj.un_l (Dj.of_fresh ex199 f213).symm (Dj.of_fresh ex199 f218).symm)).but x534 (Dj.of_fresh ((ex199.ext xc256).but y231 (Dj.of_fresh (ex199.ext x208) f228).symm) f246).symm).ext x634), (ex632.ext x634), (ex624.ext x634)⟩
 rintro x539 _ wx540 ⟨H, ρ, rfl, HF⟩
 revert HF
 refine bb9 fun X550 ex541 ex542 ex543 ex544 ex545 ex546 ex547 => ?_
 refine bb2 fun ex548 ex549 => ?_
 subst hk552
 refine W_cond (x539) rfl (fun hc756 => ?_) (fun hc756 => ?_)
 ·have H := H.1 hc756
  refine W_seq (W_region ?_)
  refine LP_ev ok 0 [(8, .bool false)] 1 rfl rfl ?_
  refine LP_end _ rfl (W_ret ?_)
  exact ⟨_, Ret_of [.bool false] ⟨⟨rfl, rfl⟩, trivial⟩, _, H, rfl, X550.ext⟩
 have H := H.2 hc756
 refine W_skip ?_
 refine W_seq (W_region ?_)
 refine LP_ev ok 0 [(19, I 1)] 1 rfl rfl ?_
 refine LP_end _ rfl (W_seq (W_region ?_))
 refine LP_ev ok 0 [(125, sl a268 r252 c269), (126, I 1)] 2 rfl rfl ?_
 refine LP_call 2 rfl rfl rfl cal_23 rfl (laws_markIntSS_w _ _ _ H wx540 o265 ex549) ?_
 rintro _ wx759 ⟨r757, r758, hx761, H, rfl, x760, o762, ex763, dm764⟩
 refine LP_ev ok 3 [(19, I r757)] 4 rfl rfl ?_
 refine LP_end _ rfl (W_seq (W_region ?_))
 refine LP_ev ok 0 [(20, I 1)] 1 rfl rfl ?_
 refine LP_end _ rfl (W_seq (W_region ?_))
 refine LP_ev ok 0 [(128, sl a268 r252 c269), (129, I 1)] 2 rfl rfl ?_
 refine LP_call 2 rfl rfl rfl cal_24 rfl (laws_heldIntSS_w _ _ _ H wx759 o762.readf ex763) ?_
 rintro _ wx766 ⟨r765, H, rfl, x767⟩
 refine LP_ev ok 3 [(20, I r765)] 4 rfl rfl ?_
 refine LP_end _ rfl (W_seq ?_)
 refine W_seq (W_region ?_)
 refine LP_ev ok 0 [(131, I r765), (132, .bool (decide (r765 < 0)))] 2 rfl rfl ?_
 refine LP_end _ rfl ?_
 refine W_cond (decide (r765 < 0)) rfl (fun hc768 => ?_) (fun hc768 => ?_)
 ·have H := H.1 hc768
  refine W_seq (W_region ?_)
  refine LP_ev ok 0 [(8, .bool false)] 1 rfl rfl ?_
  refine LP_end _ rfl (W_ret ?_)
  have X773 := (X.stepx ((((((((((((((((((x.trans x28).trans x35).trans x42).trans x53).trans x61).trans x66).trans x72).trans x77).trans x87).trans x92).trans x103).trans x109).trans x125).trans x130).trans x139).trans x151).trans x160).trans x167))
  have f771 := f179.mono X773.size
  have f774 := f228.mono (((X773.stepx x177).step y (f771.dom _)).stepx xc237).size
  have f769 := f267.mono (((((X.stepx (((((((((((((((((((x.trans x28).trans x35).trans x42).trans x53).trans x61).trans x66).trans x72).trans x77).trans x87).trans x92).trans x103).trans x109).trans x125).trans x130).trans x139).trans x151).trans x160).trans x167).trans x177)).step y (f771.dom _)).stepx xc236).step y231 (f774.dom _)).stepx x241).size
  exact ⟨_, Ret_of [.bool false] ⟨⟨rfl, rfl⟩, trivial⟩, _, H, rfl, ((X550.step x760 (f769.dom _)).stepx x767).ext⟩
 have H := H.2 hc768
 refine W_skip ?_
 refine W_seq ?_
 refine W_seq (W_region ?_)
 refine LP_ev ok 0 [(133, I r765), (134, I r757), (135, .bool (r765 != r757))] 3 rfl rfl ?_
 refine LP_end _ rfl ?_
 refine W_cond (r765 != r757) rfl (fun hc778 => ?_) (fun hc778 => ?_)
 ·have H := H.1 hc778
  refine W_seq (W_region ?_)
  refine LP_ev ok 0 [(8, .bool false)] 1 rfl rfl ?_
  refine LP_end _ rfl (W_ret ?_)
  have X783 := (X.stepx ((((((((((((((((((x.trans x28).trans x35).trans x42).trans x53).trans x61).trans x66).trans x72).trans x77).trans x87).trans x92).trans x103).trans x109).trans x125).trans x130).trans x139).trans x151).trans x160).trans x167))
  have f781 := f179.mono X783.size
  have f784 := f228.mono (((X783.stepx x177).step y (f781.dom _)).stepx xc237).size
  have f779 := f267.mono (((((X.stepx (((((((((((((((((((x.trans x28).trans x35).trans x42).trans x53).trans x61).trans x66).trans x72).trans x77).trans x87).trans x92).trans x103).trans x109).trans x125).trans x130).trans x139).trans x151).trans x160).trans x167).trans x177)).step y (f781.dom _)).stepx xc236).step y231 (f784.dom _)).stepx x241).size
  exact ⟨_, Ret_of [.bool false] ⟨⟨rfl, rfl⟩, trivial⟩, _, H, rfl, ((X550.step x760 (f779.dom _)).stepx x767).ext⟩
 have H := H.2 hc778
 refine W_skip ?_
 refine W_seq ?_
 refine W_open mix fun wx788 x789 => ?_
 refine AP_game 13 [[], [0], [], [0, 1, 2], [], [0, 1, 2, 3, 4], [], [0, 1, 2, 3, 4, 5, 6], [0, 1, 2, 3, 4, 5, 6, 7], [0, 1, 2, 3, 4, 5, 6, 7, 8], [0, 1, 2, 3, 4, 5, 6, 7, 8, 9], [0, 1, 2, 3, 4, 5, 6, 7, 8, 9], [0, 1, 2, 3, 4, 5, 6, 7, 8, 9, 10], [0, 1, 2, 3, 4, 5, 6, 7, 8, 9, 10, 11, 12]] [[(4, none)], [(137, some 0)], [(1, none)], [(139, some 2)], [(6, none)], [(141, some 4)], [(3, none)], [(143, some 6)], [(138, some 1), (140, some 3), (142, some 5), (144, some 7)], [(145, some 8)], [(136, some 9)], [(136, some 9)], [(146, some 10)]] [(10, none), (11, none), (16, none), (19, none), (21, some 12), (147, some 11)] [(0, false), (2, false), (4, false), (6, false), (1, true), (3, true), (5, true), (7, true), (8, true), (9, false), (10, false), (11, false), (12, false)] (by kernel_rfl) (by kernel_rfl) ?_
 have xc790 := (x167.trans x177)
 have ex791 := (ex162.ext x167)
 have xc794 := (x767.trans x789)
 refine GS_r1 [(4, pb b)] (.agg #[sl a aG.Parents c]) rfl rfl (fun _ h => h) (fun _ w e => ex_ldbox rfl ti_24 ag_24 (fun h => by cases h) rfl e rfl rfl) ((ex546.but x760 (Dj.of_fresh (((((ex162.ext xc790).but y (Dj.of_fresh ex791 f179).symm).ext xc236).but y231 (Dj.of_fresh (((ex791.ext x177).but y (Dj.of_fresh ex791 f179).symm).ext xc237) f228).symm).ext x241) f267).symm).ext xc794) ?_
 refine GS_ev ok [(1, sl a5 aS c6)] (sl a5 aS c6) rfl rfl (fun _ h => h) (fun _ => rfl) ?_
 have ex798 := ((ex547.but x760 (Dj.of_fresh (((ex199.ext xc256).but y231 (Dj.of_fresh (ex199.ext x208) f228).symm).ext x241) f267).symm).ext xc794)
 refine GS_r1 [(6, pb b26)] (.agg #[I aT.Level, sl a11 aT.Vars c12, sl a17 aT.Where c18, I aT.Sum]) rfl rfl (fun _ h => h) (fun _ w e => ex_ldbox rfl ti_27 ag_27 (fun h => by cases h) rfl e rfl rfl) ex798 ?_
 refine GS_ev ok [(3, sl a23 aSites c24)] (sl a23 aSites c24) rfl rfl (fun _ h => h) (fun _ => rfl) ?_
 refine GS_lp [(137, .agg #[sl a aG.Parents c])] rfl rfl (fun _ h => h) rfl fun ρ wx799 x800 => ?_
 have ex802 := (ex165.ext x167)
 refine LP_call 0 rfl rfl rfl cal_9 rfl (laws_toGeo_w _ _ H wx799 r ((ex541.but x760 (Dj.of_fresh (((((ex165.ext xc790).but y (Dj.of_fresh ex802 f179).symm).ext xc236).but y231 (Dj.of_fresh (((ex802.ext x177).but y (Dj.of_fresh ex802 f179).symm).ext xc237) f228).symm).ext x241) f267).symm).ext (xc794.trans x800))) ?_
 rintro _ wx807 ⟨r801, vx809, hx810, H, rfl, x808, o811, ex812, f813⟩
 obtain ⟨a814, c815, rfl⟩ := o811.shape
 have ex817 := (ex798.ext (x800.trans x808))
 refine LP_gs ⟨⟨.inr ex817, .inl rfl, trivial⟩, ?_⟩
 refine GS_lp [(139, sl a5 aS c6)] rfl rfl (fun _ h => h) rfl fun ρ wx818 x819 => ?_
 refine LP_call 0 rfl rfl rfl cal_10 rfl (laws_toVariableS_w _ _ H wx818 r3 ((ex542.but x760 (Dj.of_fresh (((ex186.ext xc236).but y231 (Dj.of_fresh (ex186.ext xc237) f228).symm).ext x241) f267).symm).ext ((((x767.trans x789).trans x800).trans x808).trans x819))) ?_
 rintro _ wx825 ⟨r820, vx827, hx828, H, rfl, x826, o829, ex830, f831⟩
 obtain ⟨a832, c833, rfl⟩ := o829.shape
 refine LP_gs ⟨⟨.inr (ex817.ext (x819.trans x826)), .inl rfl, trivial⟩, ?_⟩
 refine GS_lp [(141, .agg #[I aT.Level, sl a11 aT.Vars c12, sl a17 aT.Where c18, I aT.Sum])] rfl rfl (fun _ h => h) rfl fun ρ wx836 x837 => ?_
 have xc841 := ((((((x767.trans x789).trans x800).trans x808).trans x819).trans x826).trans x837)
 refine LP_call 0 rfl rfl rfl cal_11 rfl (laws_toTable_w _ _ H wx836 r9 ((ex543.but x760 (Dj.of_fresh (((ex204.ext xc256).but y231 (Dj.of_fresh (ex204.ext x208) f228).symm).ext x241) f267).symm).ext xc841) r15 ((ex544.but x760 (Dj.of_fresh (((ex206.ext xc256).but y231 (Dj.of_fresh (ex206.ext x208) f228).symm).ext x241) f267).symm).ext xc841)) ?_
 rintro _ wx846 ⟨r838, vx848, hx849, vx853, hx854, H, rfl, x847, HF⟩
 revert HF
 refine bb7 fun o850 ex851 f852 o855 ex856 f857 d858 => ?_
 obtain ⟨a859, c860, rfl⟩ := o850.shape
 obtain ⟨a861, c862, rfl⟩ := o855.shape
 refine LP_gs ⟨⟨.inl rfl, .inl rfl, trivial⟩, ?_⟩
 refine GS_lp [(143, sl a23 aSites c24)] rfl rfl (fun _ h => h) rfl fun ρ wx863 x864 => ?_
 refine LP_call 0 rfl rfl rfl cal_12 rfl (laws_toRecordSS_w _ _ H wx863 r21 ((ex545.but x760 (Dj.of_fresh (ex239.ext x241) f267).symm).ext ((((((((x767.trans x789).trans x800).trans x808).trans x819).trans x826).trans x837).trans x847).trans x864))) ?_
 rintro _ wx869 ⟨r865, vx871, hx872, H, rfl, x870, o873, ex874, f875⟩
 obtain ⟨a876, c877, rfl⟩ := o873.shape
 refine LP_gs ⟨⟨.inl rfl, .inl rfl, trivial⟩, ?_⟩
 refine GS_lp [(138, .agg #[sl a814 r801.Parents c815]), (140, sl a832 r820 c833), (142, .agg #[I r838.Level, sl a859 r838.Vars c860, sl a861 r838.Where c862, I r838.Sum]), (144, sl a876 r865 c877)] rfl rfl (fun _ h => h) rfl fun ρ wx878 x879 => ?_
 have xc886 := ((x864.trans x870).trans x879)
 refine LP_call 0 rfl rfl rfl cal_13 rfl (impl_SiteCells_w _ _ _ _ _ H wx878 o811.readf (ex812.ext ((((((x819.trans x826).trans x837).trans x847).trans x864).trans x870).trans x879)) o829.readf (ex830.ext ((((x837.trans x847).trans x864).trans x870).trans x879)) o850.readf (ex851.ext xc886) o855.readf (ex856.ext xc886) o873.readf (ex874.ext x879)) ?_
 rintro _ wx890 ⟨r880, r881, vx892, hx893, H, rfl, x891, o894, ex895, f896⟩
 obtain ⟨a897, c898, rfl⟩ := o894.shape
 refine LP_gs ⟨⟨.inl rfl, .inl rfl, trivial⟩, ?_⟩
 refine GS_ev ok [(145, .tuple #[sl a897 r880 c898, .bool r881])] (.tuple #[sl a897 r880 c898, .bool r881]) rfl rfl (fun _ h => h) (fun _ => rfl) ?_
 refine GS_ev ok [(136, .tuple #[sl a897 r880 c898, .bool r881])] (sl a897 r880 c898) rfl rfl (fun _ h => h) (fun _ => rfl) ?_
 refine GS_ev ok [(136, .tuple #[sl a897 r880 c898, .bool r881])] (.bool r881) rfl rfl (fun _ h => h) (fun _ => rfl) ?_
 refine GS_ev ok [(146, sl a897 r880 c898)] (sl a897 r880 c898) rfl rfl (fun _ h => h) (fun _ => rfl) ?_
 intro wx899 x900 ρ hn901
 refine AP_forget [(10, sl a157 r140 c158), (11, .bool r141), (16, sl a268 r252 c269), (19, I r757), (21, sl a897 r880 c898), (147, .bool r881)] (by exact hn901) fun ρ => ?_
 refine AP_tail 13 [[], [0], [], [0, 1, 2], [], [0, 1, 2, 3, 4], [], [0, 1, 2, 3, 4, 5, 6], [0, 1, 2, 3, 4, 5, 6, 7], [0, 1, 2, 3, 4, 5, 6, 7, 8], [0, 1, 2, 3, 4, 5, 6, 7, 8, 9], [0, 1, 2, 3, 4, 5, 6, 7, 8, 9], [0, 1, 2, 3, 4, 5, 6, 7, 8, 9, 10], [0, 1, 2, 3, 4, 5, 6, 7, 8, 9, 10, 11, 12]] (by kernel_rfl) ?_
 refine LP_ev ok 13 [(22, .bool r881)] 14 rfl rfl ?_
 refine LP_end _ rfl (W_seq ?_)
 obtain ⟨k906, hk907, H⟩ := jn_elim H
 refine W_join2 (S := Bool) (fun s ρ' w' => k906 s ∧ ∃ (ρ : Env), ρ' = setAll [(16, sl a268 r252 c269), (19, I r757), (156, .bool s)] ρ ∧ But emp w w' ∧ Sub hx761 w') ?_ ?_
 ·refine W_region ?_
  refine LP_ev ok 0 [(148, sl a897 r880 c898), (149, sl a157 r140 c158)] 2 rfl rfl ?_
  have ex912 := (ex155.ext (x160.trans x167))
  have xc915 := ((((((((((((x767.trans x789).trans x800).trans x808).trans x819).trans x826).trans x837).trans x847).trans x864).trans x870).trans x879).trans x891).trans x900)
  refine LP_call 2 rfl rfl rfl cal_14 rfl (laws_eqIntSS_w _ _ _ H wx899 o894.readf (ex895.ext x900) o154.readf ((ex548.but x760 (Dj.of_fresh (((((ex155.ext ((x160.trans x167).trans x177)).but y (Dj.of_fresh ex912 f179).symm).ext xc236).but y231 (Dj.of_fresh (((ex912.ext x177).but y (Dj.of_fresh ex912 f179).symm).ext xc237) f228).symm).ext x241) f267).symm).ext xc915)) ?_
  rintro _ wx917 ⟨r908, H, rfl, x918⟩
  refine LP_ev ok 3 [(151, .bool (!r908)), (152, .bool (!r908))] 5 rfl rfl ?_
  refine LP_split 152 (!r908) rfl (fun hc919 => ?_) (fun hc919 => ?_)
  ·have H := H.1 hc919
   refine LP_ev ok 5 [(153, undef), (154, undef), (155, undef), (156, .bool true)] 9 rfl rfl ?_
   refine LP_end _ rfl ?_
   have X924 := (X.stepx ((((((((((((((((((x.trans x28).trans x35).trans x42).trans x53).trans x61).trans x66).trans x72).trans x77).trans x87).trans x92).trans x103).trans x109).trans x125).trans x130).trans x139).trans x151).trans x160).trans x167))
   have f922 := f179.mono X924.size
   have f925 := f228.mono (((X924.stepx x177).step y (f922.dom _)).stepx xc237).size
   have f920 := f267.mono (((((X.stepx (((((((((((((((((((x.trans x28).trans x35).trans x42).trans x53).trans x61).trans x66).trans x72).trans x77).trans x87).trans x92).trans x103).trans x109).trans x125).trans x130).trans x139).trans x151).trans x160).trans x167).trans x177)).step y (f922.dom _)).stepx xc236).step y231 (f925.dom _)).stepx x241).size
   have xc928 := (xc915.trans x918)
   exact ⟨true, H, _, env_eq ⟨rfl, rfl, rfl, trivial⟩, ((X550.step x760 (f920.dom _)).stepx xc928), (ex763.ext xc928)⟩
  have H := H.2 hc919
  refine LP_ev ok 5 [(153, .bool r881), (154, .bool r141), (155, .bool (r881 != r141)), (156, .bool (r881 != r141))] 9 rfl rfl ?_
  refine LP_end _ rfl ?_
  have X935 := (X.stepx ((((((((((((((((((x.trans x28).trans x35).trans x42).trans x53).trans x61).trans x66).trans x72).trans x77).trans x87).trans x92).trans x103).trans x109).trans x125).trans x130).trans x139).trans x151).trans x160).trans x167))
  have f933 := f179.mono X935.size
  have f936 := f228.mono (((X935.stepx x177).step y (f933.dom _)).stepx xc237).size
  have f931 := f267.mono (((((X.stepx (((((((((((((((((((x.trans x28).trans x35).trans x42).trans x53).trans x61).trans x66).trans x72).trans x77).trans x87).trans x92).trans x103).trans x109).trans x125).trans x130).trans x139).trans x151).trans x160).trans x167).trans x177)).step y (f933.dom _)).stepx xc236).step y231 (f936.dom _)).stepx x241).size
  have xc939 := (xc915.trans x918)
  exact ⟨r881 != r141, H, _, env_eq ⟨rfl, rfl, rfl, trivial⟩, ((X550.step x760 (f931.dom _)).stepx xc939), (ex763.ext xc939)⟩
 rintro x902 _ wx903 ⟨H, ρ, rfl, X905, ex904⟩
 subst hk907
 refine W_cond (x902) rfl (fun hc942 => ?_) (fun hc942 => ?_)
 ·have H := H.1 hc942
  refine W_seq (W_region ?_)
  refine LP_ev ok 0 [(8, .bool false)] 1 rfl rfl ?_
  refine LP_end _ rfl (W_ret ?_)
  exact ⟨_, Ret_of [.bool false] ⟨⟨rfl, rfl⟩, trivial⟩, _, H, rfl, X905.ext⟩
 have H := H.2 hc942
 refine W_skip ?_
 refine W_seq (W_region ?_)
 refine LP_ev ok 0 [(20, I 1)] 1 rfl rfl ?_
 refine LP_end _ rfl (W_seq (W_region ?_))
 refine LP_ev ok 0 [(157, sl a268 r252 c269), (158, I 1)] 2 rfl rfl ?_
 refine LP_call 2 rfl rfl rfl cal_24 rfl (laws_heldIntSS_w _ _ _ H wx903 o762.readf ex904) ?_
 rintro _ wx944 ⟨r943, H, rfl, x945⟩
 refine LP_ev ok 3 [(20, I r943)] 4 rfl rfl ?_
 refine LP_end _ rfl (W_seq ?_)
 refine W_seq (W_region ?_)
 refine LP_ev ok 0 [(160, I r943), (161, .bool (decide (r943 < 0)))] 2 rfl rfl ?_
 refine LP_end _ rfl ?_
 refine W_cond (decide (r943 < 0)) rfl (fun hc946 => ?_) (fun hc946 => ?_)
 ·have H := H.1 hc946
  refine W_seq (W_region ?_)
  refine LP_ev ok 0 [(8, .bool false)] 1 rfl rfl ?_
  refine LP_end _ rfl (W_ret ?_)
  exact ⟨_, Ret_of [.bool false] ⟨⟨rfl, rfl⟩, trivial⟩, _, H, rfl, (X905.stepx x945).ext⟩
 have H := H.2 hc946
 refine W_skip ?_
 refine W_seq ?_
 refine W_seq (W_region ?_)
 refine LP_ev ok 0 [(162, I r943), (163, I r757), (164, .bool (r943 != r757))] 3 rfl rfl ?_
 refine LP_end _ rfl ?_
 refine W_cond (r943 != r757) rfl (fun hc948 => ?_) (fun hc948 => ?_)
 ·have H := H.1 hc948
  refine W_seq (W_region ?_)
  refine LP_ev ok 0 [(8, .bool false)] 1 rfl rfl ?_
  refine LP_end _ rfl (W_ret ?_)
  exact ⟨_, Ret_of [.bool false] ⟨⟨rfl, rfl⟩, trivial⟩, _, H, rfl, (X905.stepx x945).ext⟩
 have H := H.2 hc948
 refine W_skip ?_
 refine W_seq (W_region ?_)
 refine LP_ev ok 0 [(8, .bool true)] 1 rfl rfl ?_
 refine LP_end _ rfl (W_ret ?_)
 exact ⟨_, Ret_of [.bool true] ⟨⟨rfl, rfl⟩, trivial⟩, _, H, rfl, (X905.stepx x945).ext⟩

end Go.Proofs.Ytnladfcokocfnaa
