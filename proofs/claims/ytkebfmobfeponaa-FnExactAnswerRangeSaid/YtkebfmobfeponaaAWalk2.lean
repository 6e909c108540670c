/- The walks, further. -/
import Derived.Test.YtkebfmobfeponaaAWalk
set_option linter.unusedVariables false
set_option autoImplicit false
namespace Go.Proofs.Ytkebfmobfeponaa
open Go Go.RowKit Go.Gv

open Go.Proofs
set_option maxRecDepth 8000
set_option maxHeartbeats 4000000
theorem spec_aAll_w (g : Geo) (sx : List Variable) (pubs : List Published) (n : Int) (Q : (List (List Int)) → Bool → Prop) (H : spec_aAll g sx pubs n Q) (w : World) {vx : Value} {hx : PH} (r : RS hx vx g.Parents) (ex : Sub hx w) {vx1 : Value} {hx2 : PH} (r3 : RS hx2 vx1 sx) (ex4 : Sub hx2 w) {vx7 : Value} {hx8 : PH} (r9 : RS hx8 vx7 pubs) (ex10 : Sub hx8 w) :
  CallsTo Try.prog 41 #[.agg #[vx], vx1, vx7, I n] w fun v w' => ∃ r0 r1 u0 g0, Q r0 r1 ∧ v = .tuple #[u0, .bool r1] ∧ Ext w w' ∧ OD g0 u0 r0 ∧ Sub g0 w' ∧ Fresh w.heap.size g0 := by
 obtain ⟨a, c, rfl⟩ := r.shape
 obtain ⟨a5, c6, rfl⟩ := r3.shape
 obtain ⟨a11, c12, rfl⟩ := r9.shape
 refine enter (args := [.agg #[sl a g.Parents c], sl a5 sx c6, sl a11 pubs c12, I n]) 26 Try.func41 rfl rfl rfl ?_
 refine W_forget [(0, .agg #[sl a g.Parents c]), (1, sl a5 sx c6), (2, sl a11 pubs c12), (3, I n)] ⟨rfl, rfl, rfl, rfl, trivial⟩ fun ρ => ?_
 have X := But.refl emp w
 refine W_seq ?_
 refine W_region ?_
 refine LP_box 0 (cs := [sl a g.Parents c]) rfl rfl rfl rfl rfl fun b wx x ex13 f => ?_
 refine LP_ev ok 1 [(8, .slice none 0 0), (9, .bool false)] 3 rfl rfl ?_
 refine LP_end _ rfl ?_
 refine W_seq ?_
 refine W_seq ?_
 refine W_region ?_
 refine LP_ldbox 0 (v := .agg #[sl a g.Parents c]) rfl rfl rfl ti_32 ag_32 (fun h => by cases h) rfl ex13 rfl rfl ?_
 refine LP_ev ok 1 [(12, sl a5 sx c6), (13, sl a11 pubs c12), (14, I n)] 4 rfl rfl ?_
 have ex15 := (ex.ext x)
 have ex16 := (ex4.ext x)
 have ex17 := (ex10.ext x)
 refine LP_call 4 rfl rfl rfl cal_27 rfl (spec_aAsked_w _ _ _ _ _ H wx r ex15 r3 ex16 r9 ex17) ?_
 rintro _ wx18 ⟨r14, H, rfl, x19⟩
 refine LP_ev ok 5 [(16, .bool (!r14))] 6 rfl rfl ?_
 refine LP_end _ rfl ?_
 refine W_cond (!r14) rfl (fun hc => ?_) (fun hc => ?_)
 ·have H := H.1 hc
  refine W_seq ?_
  refine W_region ?_
  refine LP_ev ok 0 [(8, .slice none 0 0), (9, .bool false)] 2 rfl rfl ?_
  refine LP_end _ rfl ?_
  refine W_ret ?_
  have X20 := ((X.stepx x).stepx x19)
  exact ⟨_, Ret_of [.slice none 0 0, .bool false] ⟨⟨rfl, rfl⟩, ⟨rfl, rfl⟩, trivial⟩, _, _, _, emp, H, rfl, X20.ext, OD.nil, (emp_sub _), (emp_fresh _)⟩
 have H := H.2 hc
 refine W_skip ?_
 refine W_seq ?_
 refine W_region ?_
 have ex21 := (ex13.ext x19)
 refine LP_ldbox 0 (v := .agg #[sl a g.Parents c]) rfl rfl rfl ti_32 ag_32 (fun h => by cases h) rfl ex21 rfl rfl ?_
 refine LP_ev ok 1 [(18, sl a5 sx c6), (19, sl a11 pubs c12), (20, I n)] 4 rfl rfl ?_
 have ex23 := (ex15.ext x19)
 have ex24 := (ex16.ext x19)
 have ex25 := (ex17.ext x19)
 refine LP_call 4 rfl rfl rfl cal_29 rfl (spec_aSolve_w _ _ _ _ _ _ H wx18 r ex23 r3 ex24 r9 ex25) ?_
 rintro _ wx26 ⟨r22, vx28, hx29, H, rfl, x27, o, ex30, f31⟩
 obtain ⟨a32, c33, rfl⟩ := o.shape
 refine LP_ev ok 5 [(10, sl a32 r22 c33)] 6 rfl rfl ?_
 refine LP_end _ rfl ?_
 refine W_seq ?_
 refine W_region ?_
 refine LP_ev ok 0 [(22, sl a32 r22 c33), (23, sl a32 r22 c33), (24, I (ln r22))] 3 rfl rfl ?_
 refine LP_call 3 rfl rfl rfl cal_28 rfl (spec_l1In_w _ _ _ _ H wx26 ) ?_
 rintro _ wx35 ⟨r34, H, rfl, x36⟩
 refine LP_ev ok 4 [(8, sl a32 r22 c33), (9, .bool r34)] 6 rfl rfl ?_
 refine LP_end _ rfl ?_
 refine W_ret ?_
 have ex37 := (ex30.ext x36)
 have X39 := ((X.stepx x).stepx x19)
 have f38 := f31.mono X39.size
 have X40 := ((X39.stepx x27).stepx x36)
 exact ⟨_, Ret_of [sl a32 r22 c33, .bool r34] ⟨⟨rfl, rfl⟩, ⟨rfl, rfl⟩, trivial⟩, _, _, _, _, H, rfl, X40.ext, o, ex37, f38⟩

theorem spec_l1Least_w (a : Int) (b : Int) (Q : Int → Prop) (H : spec_l1Least a b Q) (w : World)  :
  CallsTo Try.prog 48 #[I a, I b] w fun v w' => ∃ r0, Q r0 ∧ v = I r0 ∧ Ext w w' := by
 refine enter (args := [I a, I b]) 10 Try.func48 rfl rfl rfl ?_
 refine W_forget [(0, I a), (1, I b)] ⟨rfl, rfl, trivial⟩ fun ρ => ?_
 have X := But.refl emp w
 refine W_seq ?_
 refine W_region ?_
 refine LP_ev ok 0 [(4, I 0)] 1 rfl rfl ?_
 refine LP_end _ rfl ?_
 refine W_seq ?_
 refine W_seq ?_
 refine W_region ?_
 refine LP_ev ok 0 [(5, I a), (6, I b), (7, .bool (decide (a < b)))] 3 rfl rfl ?_
 refine LP_end _ rfl ?_
 refine W_cond (decide (a < b)) rfl (fun hc => ?_) (fun hc => ?_)
 ·have H := H.1 hc
  refine W_seq ?_
  refine W_region ?_
  refine LP_ev ok 0 [(8, I a), (4, I a)] 2 rfl rfl ?_
  refine LP_end _ rfl ?_
  refine W_ret ?_
  exact ⟨_, Ret_of [I a] ⟨⟨rfl, rfl⟩, trivial⟩, _, H, rfl, X.ext⟩
 have H := H.2 hc
 refine W_skip ?_
 refine W_seq ?_
 refine W_region ?_
 refine LP_ev ok 0 [(9, I b), (4, I b)] 2 rfl rfl ?_
 refine LP_end _ rfl ?_
 refine W_ret ?_
 exact ⟨_, Ret_of [I b] ⟨⟨rfl, rfl⟩, trivial⟩, _, H, rfl, X.ext⟩

theorem spec_l1Most_w (a : Int) (b : Int) (Q : Int → Prop) (H : spec_l1Most a b Q) (w : World)  :
  CallsTo Try.prog 49 #[I a, I b] w fun v w' => ∃ r0, Q r0 ∧ v = I r0 ∧ Ext w w' := by
 refine enter (args := [I a, I b]) 10 Try.func49 rfl rfl rfl ?_
 refine W_forget [(0, I a), (1, I b)] ⟨rfl, rfl, trivial⟩ fun ρ => ?_
 have X := But.refl emp w
 refine W_seq ?_
 refine W_region ?_
 refine LP_ev ok 0 [(4, I 0)] 1 rfl rfl ?_
 refine LP_end _ rfl ?_
 refine W_seq ?_
 refine W_seq ?_
 refine W_region ?_
 refine LP_ev ok 0 [(5, I a), (6, I b), (7, .bool (decide (a > b)))] 3 rfl rfl ?_
 refine LP_end _ rfl ?_
 refine W_cond (decide (a > b)) rfl (fun hc => ?_) (fun hc => ?_)
 ·have H := H.1 hc
  refine W_seq ?_
  refine W_region ?_
  refine LP_ev ok 0 [(8, I a), (4, I a)] 2 rfl rfl ?_
  refine LP_end _ rfl ?_
  refine W_ret ?_
  exact ⟨_, Ret_of [I a] ⟨⟨rfl, rfl⟩, trivial⟩, _, H, rfl, X.ext⟩
 have H := H.2 hc
 refine W_skip ?_
 refine W_seq ?_
 refine W_region ?_
 refine LP_ev ok 0 [(9, I b), (4, I b)] 2 rfl rfl ?_
 refine LP_end _ rfl ?_
 refine W_ret ?_
 exact ⟨_, Ret_of [I b] ⟨⟨rfl, rfl⟩, trivial⟩, _, H, rfl, X.ext⟩

theorem spec_AnswerRange_w (g : Geo) (sx : List Variable) (pubs : List Published) (n : Int) (t : Table) (i : Int) (Q : Int → Int → Bool → Prop) (H : spec_AnswerRange g sx pubs n t i Q) (w : World) {vx : Value} {hx : PH} (r : RS hx vx g.Parents) (ex : Sub hx w) {vx1 : Value} {hx2 : PH} (r3 : RS hx2 vx1 sx) (ex4 : Sub hx2 w) {vx7 : Value} {hx8 : PH} (r9 : RS hx8 vx7 pubs) (ex10 : Sub hx8 w) {vx13 : Value} {hx14 : PH} (r15 : RS hx14 vx13 t.Vars) (ex16 : Sub hx14 w) {vx19 : Value} {hx20 : PH} (r21 : RS hx20 vx19 t.Where) (ex22 : Sub hx20 w) :
  CallsTo Try.prog 20 #[.agg #[vx], vx1, vx7, I n, .agg #[I t.Level, vx13, vx19, I t.Sum], I i] w fun v w' => ∃ r0 r1 r2, Q r0 r1 r2 ∧ v = .tuple #[I r0, I r1, .bool r2] ∧ Ext w w' := by
 obtain ⟨a, c, rfl⟩ := r.shape
 obtain ⟨a5, c6, rfl⟩ := r3.shape
 obtain ⟨a11, c12, rfl⟩ := r9.shape
 obtain ⟨a17, c18, rfl⟩ := r15.shape
 obtain ⟨a23, c24, rfl⟩ := r21.shape
 refine enter (args := [.agg #[sl a g.Parents c], sl a5 sx c6, sl a11 pubs c12, I n, .agg #[I t.Level, sl a17 t.Vars c18, sl a23 t.Where c24, I t.Sum], I i]) 105 Try.func20 rfl rfl rfl ?_
 refine W_forget [(0, .agg #[sl a g.Parents c]), (1, sl a5 sx c6), (2, sl a11 pubs c12), (3, I n), (4, .agg #[I t.Level, sl a17 t.Vars c18, sl a23 t.Where c24, I t.Sum]), (5, I i)] ⟨rfl, rfl, rfl, rfl, rfl, rfl, trivial⟩ fun ρ => ?_
 have X := But.refl emp w
 refine W_seq ?_
 refine W_region ?_
 refine LP_box 0 (cs := [sl a g.Parents c]) rfl rfl rfl rfl rfl fun b wx x ex25 f => ?_
 refine LP_box 1 (cs := [I t.Level, sl a17 t.Vars c18, sl a23 t.Where c24, I t.Sum]) rfl rfl rfl rfl rfl fun b26 wx27 x28 ex29 f30 => ?_
 refine LP_ev ok 2 [(12, I 0), (13, I 0), (14, .bool false)] 5 rfl rfl ?_
 refine LP_end _ rfl ?_
 refine W_seq ?_
 refine W_region ?_
 have ex31 := (ex25.ext x28)
 refine LP_ldbox 0 (v := .agg #[sl a g.Parents c]) rfl rfl rfl ti_32 ag_32 (fun h => by cases h) rfl ex31 rfl rfl ?_
 refine LP_ev ok 1 [(27, sl a5 sx c6), (28, sl a11 pubs c12), (29, I n)] 4 rfl rfl ?_
 have ex34 := ((ex.ext x).ext x28)
 have ex35 := ((ex4.ext x).ext x28)
 have ex36 := ((ex10.ext x).ext x28)
 refine LP_call 4 rfl rfl rfl cal_41 rfl (spec_aAll_w _ _ _ _ _ H wx27 r ex34 r3 ex35 r9 ex36) ?_
 rintro _ wx37 ⟨r32, r33, vx39, hx40, H, rfl, x38, o, ex41, f42⟩
 obtain ⟨a43, c44, rfl⟩ := o.shape
 refine LP_ev ok 5 [(25, .tuple #[sl a43 r32 c44, .bool r33]), (31, sl a43 r32 c44), (32, .bool r33), (15, sl a43 r32 c44), (16, .bool r33)] 10 rfl rfl ?_
 refine LP_end _ rfl ?_
 refine W_seq ?_
 obtain ⟨k, hk, H⟩ := jn_elim H
 refine W_join2 (S := Bool) (fun s ρ' w' => k s ∧ ∃ (ρ : Env), ρ' = setAll [(1, sl a5 sx c6), (5, I i), (6, pb b), (10, pb b26), (15, sl a43 r32 c44), (51, .bool s)] ρ ∧ But emp w w' ∧ Sub hx w' ∧ Sub hx2 w' ∧ Sub hx14 w' ∧ Sub hx20 w' ∧ Sub (bx b 32 [sl a g.Parents c]) w' ∧ Sub (bx b26 50 [I t.Level, sl a17 t.Vars c18, sl a23 t.Where c24, I t.Sum]) w' ∧ Sub hx40 w') ?_ ?_
 ·refine W_region ?_
  refine LP_ev ok 0 [(33, .bool r33), (34, .bool (!r33)), (35, .bool (!r33))] 3 rfl rfl ?_
  refine LP_split 35 (!r33) rfl (fun hc => ?_) (fun hc => ?_)
  ·have H := H.1 hc
   refine LP_ev ok 3 [(36, undef), (37, undef), (38, undef), (39, undef), (40, undef), (41, .bool true), (42, .bool true), (43, undef), (44, undef), (45, undef), (46, undef), (47, undef), (48, undef), (49, undef), (50, undef), (51, .bool true)] 19 rfl rfl ?_
   refine LP_end _ rfl ?_
   try refine W_forget [(1, sl a5 sx c6), (5, I i), (6, pb b), (10, pb b26), (15, sl a43 r32 c44), (51, .bool true)] ⟨rfl, rfl, rfl, rfl, rfl, rfl, trivial⟩ fun ρ => ?_
   have X55 := (((X.stepx x).stepx x28).stepx x38)
   have ex56 := (ex34.ext x38)
   have ex57 := (ex35.ext x38)
   have ex58 := (((ex16.ext x).ext x28).ext x38)
   have ex59 := (((ex22.ext x).ext x28).ext x38)
   have ex60 := (ex31.ext x38)
   have ex61 := (ex29.ext x38)
   exact ⟨true, H, _, env_eq ⟨rfl, rfl, rfl, rfl, rfl, rfl, trivial⟩, X55, ex56, ex57, ex58, ex59, ex60, ex61, ex41⟩
  have H := H.2 hc
  have ex62 := (ex31.ext x38)
  refine LP_ldbox 3 (v := .agg #[sl a g.Parents c]) rfl rfl rfl ti_32 ag_32 (fun h => by cases h) rfl ex62 rfl rfl ?_
  refine LP_ev ok 4 [(37, sl a5 sx c6)] 5 rfl rfl ?_
  have ex63 := (ex29.ext x38)
  refine LP_ldbox 5 (v := .agg #[I t.Level, sl a17 t.Vars c18, sl a23 t.Where c24, I t.Sum]) rfl rfl rfl ti_50 ag_50 (fun h => by cases h) rfl ex63 rfl rfl ?_
  have ex65 := (ex34.ext x38)
  have ex66 := (ex35.ext x38)
  have ex67 := (((ex16.ext x).ext x28).ext x38)
  have ex68 := (((ex22.ext x).ext x28).ext x38)
  refine LP_call 6 rfl rfl rfl cal_42 rfl (spec_uGood_w _ _ _ _ H wx37 r ex65 r3 ex66 r15 ex67 r21 ex68) ?_
  rintro _ wx69 ⟨r64, H, rfl, x70⟩
  refine LP_ev ok 7 [(40, .bool (!r64)), (41, .bool (!r64)), (42, .bool (!r64))] 10 rfl rfl ?_
  refine LP_split 42 (!r64) rfl (fun hc71 => ?_) (fun hc71 => ?_)
  ·have H := H.1 hc71
   refine LP_ev ok 10 [(43, undef), (44, undef), (45, undef), (46, undef), (47, undef), (48, undef), (49, undef), (50, undef), (51, .bool true)] 19 rfl rfl ?_
   refine LP_end _ rfl ?_
   try refine W_forget [(1, sl a5 sx c6), (5, I i), (6, pb b), (10, pb b26), (15, sl a43 r32 c44), (51, .bool true)] ⟨rfl, rfl, rfl, rfl, rfl, rfl, trivial⟩ fun ρ => ?_
   have X72 := ((((X.stepx x).stepx x28).stepx x38).stepx x70)
   have ex73 := (ex65.ext x70)
   have ex74 := (ex66.ext x70)
   have ex75 := (ex67.ext x70)
   have ex76 := (ex68.ext x70)
   have ex77 := (ex62.ext x70)
   have ex78 := (ex63.ext x70)
   have ex79 := (ex41.ext x70)
   exact ⟨true, H, _, env_eq ⟨rfl, rfl, rfl, rfl, rfl, rfl, trivial⟩, X72, ex73, ex74, ex75, ex76, ex77, ex78, ex79⟩
  have H := H.2 hc71
  refine LP_ev ok 10 [(43, I i)] 11 rfl rfl ?_
  have ex80 := (ex62.ext x70)
  refine LP_ldbox 11 (v := .agg #[sl a g.Parents c]) rfl rfl rfl ti_32 ag_32 (fun h => by cases h) rfl ex80 rfl rfl ?_
  refine LP_ev ok 12 [(45, sl a5 sx c6)] 13 rfl rfl ?_
  have ex81 := (ex63.ext x70)
  refine LP_ldbox 13 (v := .agg #[I t.Level, sl a17 t.Vars c18, sl a23 t.Where c24, I t.Sum]) rfl rfl rfl ti_50 ag_50 (fun h => by cases h) rfl ex81 rfl rfl ?_
  have ex83 := (ex65.ext x70)
  have ex84 := (ex66.ext x70)
  have ex85 := (ex67.ext x70)
  have ex86 := (ex68.ext x70)
  refine LP_call 14 rfl rfl rfl cal_43 rfl (spec_uCount_w _ _ _ _ H wx69 r ex83 r3 ex84 r15 ex85 r21 ex86) ?_
  rintro _ wx87 ⟨r82, H, rfl, x88⟩
  refine LP_ev ok 15 [(48, I (wr (r82 - 1)))] 16 rfl rfl ?_
  refine LP_call 16 rfl rfl rfl cal_28 rfl (spec_l1In_w _ _ _ _ H wx87 ) ?_
  rintro _ wx90 ⟨r89, H, rfl, x91⟩
  refine LP_ev ok 17 [(50, .bool (!r89)), (51, .bool (!r89))] 19 rfl rfl ?_
  refine LP_end _ rfl ?_
  try refine W_forget [(1, sl a5 sx c6), (5, I i), (6, pb b), (10, pb b26), (15, sl a43 r32 c44), (51, .bool (!r89))] ⟨rfl, rfl, rfl, rfl, rfl, rfl, trivial⟩ fun ρ => ?_
  have X92 := ((((((X.stepx x).stepx x28).stepx x38).stepx x70).stepx x88).stepx x91)
  have ex93 := ((ex83.ext x88).ext x91)
  have ex94 := ((ex84.ext x88).ext x91)
  have ex95 := ((ex85.ext x88).ext x91)
  have ex96 := ((ex86.ext x88).ext x91)
  have ex97 := ((ex80.ext x88).ext x91)
  have ex98 := ((ex81.ext x88).ext x91)
  have ex99 := (((ex41.ext x70).ext x88).ext x91)
  exact ⟨!r89, H, _, env_eq ⟨rfl, rfl, rfl, rfl, rfl, rfl, trivial⟩, X92, ex93, ex94, ex95, ex96, ex97, ex98, ex99⟩
 rintro x45 _ wx46 ⟨H, ρ, rfl, HF⟩
 revert HF
 refine bb8 fun X54 ex47 ex48 ex49 ex50 ex51 ex52 ex53 => ?_
 subst hk
 refine W_cond (x45) rfl (fun hc100 => ?_) (fun hc100 => ?_)
 ·have H := H.1 hc100
  refine W_seq ?_
  refine W_region ?_
  refine LP_ev ok 0 [(12, I 0), (13, I 0), (14, .bool false)] 3 rfl rfl ?_
  refine LP_end _ rfl ?_
  refine W_ret ?_
  exact ⟨_, Ret_of [I 0, I 0, .bool false] ⟨⟨rfl, rfl⟩, ⟨rfl, rfl⟩, ⟨rfl, rfl⟩, trivial⟩, _, _, _, H, rfl, X54.ext⟩
 have H := H.2 hc100
 refine W_skip ?_
 refine W_seq ?_
 refine W_region ?_
 refine LP_ldbox 0 (v := .agg #[sl a g.Parents c]) rfl rfl rfl ti_32 ag_32 (fun h => by cases h) rfl ex51 rfl rfl ?_
 refine LP_ev ok 1 [(53, sl a5 sx c6)] 2 rfl rfl ?_
 refine LP_call 2 rfl rfl rfl cal_44 rfl (spec_aTypes_w _ _ _ H wx46 r ex47 r3 ex48) ?_
 rintro _ wx102 ⟨r101, H, rfl, x103⟩
 obtain ⟨hn, hb, H⟩ := H
 refine LP_make (α := Int) 3 rfl rfl rfl Try.underlying22 ti_3 (x0 := (0 : Int)) rfl rfl hn (by first | omega | (simp only [ln] at *; omega)) (by first | omega | (simp only [ln] at *; omega)) fun hx104 vx105 wx106 x107 o108 ex109 f110 => ?_
 obtain ⟨a111, c112, rfl⟩ := o108.shape
 refine LP_ev ok 4 [(17, .slice a111 (List.length (List.replicate (Int.toNat r101) ((0 : Int)))) c112)] 5 rfl rfl ?_
 refine LP_end _ rfl ?_
 refine W_seq ?_
 refine W_seq ?_
 refine W_region ?_
 refine LP_ev ok 0 [(56, .slice a111 (List.length (List.replicate (Int.toNat r101) ((0 : Int)))) c112), (57, I (ln (List.replicate (Int.toNat r101) ((0 : Int))))), (58, I 0)] 3 rfl rfl ?_
 refine LP_end _ rfl ?_
 refine W_block ?_
 have X134 := ((X54.stepx x103).stepx x107)
 have X136 := (X54.stepx x103)
 have f135 := f110.mono X136.size
 have ex137 := ((ex47.ext x103).ext x107)
 have ex138 := ((ex48.ext x103).ext x107)
 have ex139 := ((ex49.ext x103).ext x107)
 have ex140 := ((ex50.ext x103).ext x107)
 have ex141 := ((ex51.ext x103).ext x107)
 have ex142 := ((ex52.ext x103).ext x107)
 have ex143 := ((ex53.ext x103).ext x107)
 have ex144 := (ex47.ext x103)
 have ex145 := (ex48.ext x103)
 have ex146 := (ex49.ext x103)
 have ex147 := (ex50.ext x103)
 have ex148 := (ex51.ext x103)
 have ex149 := (ex52.ext x103)
 have ex150 := (ex53.ext x103)
 obtain ⟨J, m, Hx, H⟩ := H
 refine W_loop (S := (List Int) × Int) (fun s ρ' w' => J s.1 s.2 ∧ ∃ (ρ : Env) (hx114 : PH), ρ' = setAll [(1, sl a5 sx c6), (5, I i), (6, pb b), (10, pb b26), (15, sl a43 r32 c44), (17, .slice a111 (List.length (List.replicate (Int.toNat r101) ((0 : Int)))) c112), (57, I (ln (List.replicate (Int.toNat r101) ((0 : Int))))), (58, I s.2)] ρ ∧ But emp w w' ∧ OS 3 hx114 emp (.slice a111 (List.length (List.replicate (Int.toNat r101) ((0 : Int)))) c112) s.1 ∧ Sub hx114 w' ∧ Fresh w.heap.size hx114 ∧ Sub hx w' ∧ Sub hx2 w' ∧ Sub hx14 w' ∧ Sub hx20 w' ∧ Sub (bx b 32 [sl a g.Parents c]) w' ∧ Sub (bx b26 50 [I t.Level, sl a17 t.Vars c18, sl a23 t.Where c24, I t.Sum]) w' ∧ Sub hx40 w' ∧ Dj hx114 hx ∧ Dj hx114 hx2 ∧ Dj hx114 hx14 ∧ Dj hx114 hx20 ∧ Dj hx114 (bx b 32 [sl a g.Parents c]) ∧ Dj hx114 (bx b26 50 [I t.Level, sl a17 t.Vars c18, sl a23 t.Where c24, I t.Sum]) ∧ Dj hx114 hx40) (fun s => m s.1 s.2) (List.replicate (Int.toNat r101) ((0 : Int)), 0) ⟨Hx, _, hx104, env_eq ⟨rfl, rfl, rfl, rfl, rfl, rfl, rfl, rfl, trivial⟩, X134, o108, ex109, f135, ex137, ex138, ex139, ex140, ex141, ex142, ex143, (Dj.of_fresh ex144 f110).symm, (Dj.of_fresh ex145 f110).symm, (Dj.of_fresh ex146 f110).symm, (Dj.of_fresh ex147 f110).symm, (Dj.of_fresh ex148 f110).symm, (Dj.of_fresh ex149 f110).symm, (Dj.of_fresh ex150 f110).symm⟩ ?_
 rintro ⟨amounts, x118⟩ _ wx119 ⟨Hi, ρ, hx114, rfl, HF⟩
 revert HF
 refine bb9 fun X133 o115 ex116 f117 ex120 ex121 ex122 ex123 => ?_
 refine bb9 fun ex124 ex125 ex126 d d127 d128 d129 d130 => ?_
 refine bb2 fun d131 d132 => ?_
 have H := H amounts x118 Hi
 refine W_seq ?_
 refine W_region ?_
 refine LP_ev ok 0 [(59, .bool (decide (x118 < (ln (List.replicate (Int.toNat r101) ((0 : Int)))))))] 1 rfl rfl ?_
 refine LP_end _ rfl ?_
 refine W_seq ?_
 refine W_cond (decide (x118 < (ln (List.replicate (Int.toNat r101) ((0 : Int)))))) rfl (fun hc151 => ?_) (fun hc151 => ?_)
 ·have H := H.1 hc151
  refine W_skip ?_
  obtain ⟨k174, hk175, H⟩ := jn_elim H
  refine W_join2 (S := (List Int)) (fun s ρ' w' => k174 s ∧ ∃ (ρ : Env) (hx154 : PH), ρ' = setAll [(1, sl a5 sx c6), (5, I i), (6, pb b), (10, pb b26), (15, sl a43 r32 c44), (17, .slice a111 (List.length (List.replicate (Int.toNat r101) ((0 : Int)))) c112), (57, I (ln (List.replicate (Int.toNat r101) ((0 : Int))))), (58, I x118)] ρ ∧ But emp w w' ∧ OS 3 hx154 emp (.slice a111 (List.length (List.replicate (Int.toNat r101) ((0 : Int)))) c112) s ∧ Sub hx154 w' ∧ Fresh w.heap.size hx154 ∧ Sub hx w' ∧ Sub hx2 w' ∧ Sub hx14 w' ∧ Sub hx20 w' ∧ Sub (bx b 32 [sl a g.Parents c]) w' ∧ Sub (bx b26 50 [I t.Level, sl a17 t.Vars c18, sl a23 t.Where c24, I t.Sum]) w' ∧ Sub hx40 w' ∧ Dj hx154 hx ∧ Dj hx154 hx2 ∧ Dj hx154 hx14 ∧ Dj hx154 hx20 ∧ Dj hx154 (bx b 32 [sl a g.Parents c]) ∧ Dj hx154 (bx b26 50 [I t.Level, sl a17 t.Vars c18, sl a23 t.Where c24, I t.Sum]) ∧ Dj hx154 hx40) ?_ ?_
  ·refine W_block ?_
   refine W_seq ?_
   refine W_region ?_
   refine LP_ev ok 0 [(60, I x118), (18, I x118)] 2 rfl rfl ?_
   refine LP_end _ rfl ?_
   refine W_seq ?_
   refine W_open mix fun wx176 x177 => ?_
   refine AP_game 12 [[], [], [], [], [], [], [3, 4, 5], [0, 1, 2, 3, 4, 5, 6], [0, 1, 2, 3, 4, 5, 6, 7], [0, 1, 2, 3, 4, 5, 6, 7, 8], [0, 1, 2, 3, 4, 5, 6, 7, 8], [0, 1, 2, 3, 4, 5, 6, 7, 8, 9], [0, 1, 2, 3, 4, 5, 6, 7, 8, 9, 10, 11]] [[(6, none)], [(1, none)], [(10, none)], [(6, none)], [(1, none)], [(18, none)], [(65, some 3), (66, some 4), (67, some 5)], [(62, some 0), (63, some 1), (64, some 2), (68, some 6)], [(69, some 7)], [(61, some 8)], [(61, some 8)], [(70, some 9)]] [(1, none), (5, none), (6, none), (10, none), (15, none), (17, none), (18, none), (19, some 11), (57, none), (58, none), (71, some 10)] [(0, false), (1, false), (2, false), (3, false), (4, false), (5, false), (6, true), (7, false), (8, false), (9, false), (10, false), (11, false)] (by kernel_rfl) (by kernel_rfl) ?_
   have ex178 := (ex124.ext x177)
   refine GS_r1 [(6, pb b)] (.agg #[sl a g.Parents c]) rfl rfl (fun _ h => h) (fun _ w e => ex_ldbox rfl ti_32 ag_32 (fun h => by cases h) rfl e rfl rfl) ex178 ?_
   refine GS_ev ok [(1, sl a5 sx c6)] (sl a5 sx c6) rfl rfl (fun _ h => h) (fun _ => rfl) ?_
   have ex179 := (ex125.ext x177)
   refine GS_r1 [(10, pb b26)] (.agg #[I t.Level, sl a17 t.Vars c18, sl a23 t.Where c24, I t.Sum]) rfl rfl (fun _ h => h) (fun _ w e => ex_ldbox rfl ti_50 ag_50 (fun h => by cases h) rfl e rfl rfl) ex179 ?_
   refine GS_r1 [(6, pb b)] (.agg #[sl a g.Parents c]) rfl rfl (fun _ h => h) (fun _ w e => ex_ldbox rfl ti_32 ag_32 (fun h => by cases h) rfl e rfl rfl) ex178 ?_
   refine GS_ev ok [(1, sl a5 sx c6)] (sl a5 sx c6) rfl rfl (fun _ h => h) (fun _ => rfl) ?_
   refine GS_ev ok [(18, I x118)] (I x118) rfl rfl (fun _ h => h) (fun _ => rfl) ?_
   refine GS_lp [(65, .agg #[sl a g.Parents c]), (66, sl a5 sx c6), (67, I x118)] rfl rfl (fun _ h => h) rfl fun ρ wx180 x181 => ?_
   have ex183 := ((ex120.ext x177).ext x181)
   have ex184 := ((ex121.ext x177).ext x181)
   refine LP_call 0 rfl rfl rfl cal_46 rfl (spec_aRecord_w _ _ _ _ H wx180 r ex183 r3 ex184) ?_
   rintro _ wx185 ⟨r182, vx187, hx188, H, rfl, x186, o189, ex190, f191⟩
   obtain ⟨a192, c193, rfl⟩ := o189.shape
   have ex194 := ((ex179.ext x181).ext x186)
   have ex195 := ((ex178.ext x181).ext x186)
   refine LP_gs ⟨⟨.inl rfl, .inr ex194, .inr ex195, trivial⟩, ?_⟩
   obtain ⟨r196, r197, Hd, H⟩ := H
   have ex198 := (ex183.ext x186)
   have ex199 := (ex184.ext x186)
   have ex200 := (((ex122.ext x177).ext x181).ext x186)
   have ex201 := (((ex123.ext x177).ext x181).ext x186)
   refine GS_q [(62, .agg #[sl a g.Parents c]), (63, sl a5 sx c6), (64, .agg #[I t.Level, sl a17 t.Vars c18, sl a23 t.Where c24, I t.Sum]), (68, .agg #[I r182.Area, I r182.House, sl a192 r182.Values c193])] (.tuple #[I r196, I r197]) [hx, hx2, hx14, hx20, hx188] [.agg #[sl a g.Parents c], sl a5 sx c6, .agg #[I t.Level, sl a17 t.Vars c18, sl a23 t.Where c24, I t.Sum], .agg #[I r182.Area, I r182.House, sl a192 r182.Values c193]] rfl rfl (fun _ h => h) rfl cal_45 (fun _ => rfl) (fun w e => (spec_uCell_w _ _ _ _ _ Hd w r e.1 r3 e.2.1 r15 e.2.2.1 r21 e.2.2.2.1 o189.readf e.2.2.2.2.1).mono (fun _ _ h => by obtain ⟨_, _, ⟨rfl, rfl⟩, rfl, x⟩ := h; exact ⟨rfl, x⟩)) ⟨ex198, ex199, ex200, ex201, ex190, trivial⟩ ?_
   refine GS_ev ok [(69, .tuple #[I r196, I r197])] (.tuple #[I r196, I r197]) rfl rfl (fun _ h => h) (fun _ => rfl) ?_
   refine GS_ev ok [(61, .tuple #[I r196, I r197])] (I r196) rfl rfl (fun _ h => h) (fun _ => rfl) ?_
   refine GS_ev ok [(61, .tuple #[I r196, I r197])] (I r197) rfl rfl (fun _ h => h) (fun _ => rfl) ?_
   refine GS_ev ok [(70, I r196)] (I r196) rfl rfl (fun _ h => h) (fun _ => rfl) ?_
   intro wx202 x203 ρ hn204
   refine AP_forget [(1, sl a5 sx c6), (5, I i), (6, pb b), (10, pb b26), (15, sl a43 r32 c44), (17, .slice a111 (List.length (List.replicate (Int.toNat r101) ((0 : Int)))) c112), (18, I x118), (19, I r196), (57, I (ln (List.replicate (Int.toNat r101) ((0 : Int))))), (58, I x118), (71, I r197)] (by exact hn204) fun ρ => ?_
   refine AP_tail 12 [[], [], [], [], [], [], [3, 4, 5], [0, 1, 2, 3, 4, 5, 6], [0, 1, 2, 3, 4, 5, 6, 7], [0, 1, 2, 3, 4, 5, 6, 7, 8], [0, 1, 2, 3, 4, 5, 6, 7, 8], [0, 1, 2, 3, 4, 5, 6, 7, 8, 9], [0, 1, 2, 3, 4, 5, 6, 7, 8, 9, 10, 11]] (by kernel_rfl) ?_
   refine LP_ev ok 12 [(20, I r197)] 13 rfl rfl ?_
   refine LP_end _ rfl ?_
   refine W_seq ?_
   refine W_region ?_
   refine LP_ev ok 0 [(72, I r196), (73, I i), (74, .bool (r196 == i))] 3 rfl rfl ?_
   refine LP_end _ rfl ?_
   refine W_cond (r196 == i) rfl (fun hc205 => ?_) (fun hc205 => ?_)
   ·have H := H.1 hc205
    refine W_region ?_
    refine LP_ev ok 0 [(75, .slice a111 (List.length (List.replicate (Int.toNat r101) ((0 : Int)))) c112), (76, I x118), (77, I r197)] 3 rfl rfl ?_
    obtain ⟨hi, hl, H⟩ := H
    refine LP_indexw (v := .slice a111 (List.length (List.replicate (Int.toNat r101) ((0 : Int)))) c112) 3 rfl rfl rfl Try.underlying22 ti_3 rfl rfl o115 hi hl fun a206 wa => ?_
    have ex211 := ((((ex116.ext x177).ext x181).ext x186).ext x203)
    refine LP_set 4 rfl rfl rfl rfl rfl wa (Le.refl emp) ⟨_, rfl, rfl⟩ ex211 fun hx207 wx208 o209 ex210 y dm => ?_
    refine LP_end _ rfl ?_
    have X212 := (((((X133.stepx x177).stepx x181).stepx x186).stepx x203).step y (f117.dom _))
    have X214 := ((((X133.stepx x177).stepx x181).stepx x186).stepx x203)
    have f213 := (dm _).fresh f117 X214.size
    have ex215 := ((ex198.ext x203).but y d)
    have ex216 := ((ex199.ext x203).but y d127)
    have ex217 := ((ex200.ext x203).but y d128)
    have ex218 := ((ex201.ext x203).but y d129)
    have ex219 := ((((ex178.ext x181).ext x186).ext x203).but y d130)
    have ex220 := ((((ex179.ext x181).ext x186).ext x203).but y d131)
    have ex221 := (((((ex126.ext x177).ext x181).ext x186).ext x203).but y d132)
    have ex222 := (ex198.ext x203)
    have ex223 := (ex199.ext x203)
    have ex224 := (ex200.ext x203)
    have ex225 := (ex201.ext x203)
    have ex226 := (((ex178.ext x181).ext x186).ext x203)
    have ex227 := (((ex179.ext x181).ext x186).ext x203)
    have ex228 := ((((ex126.ext x177).ext x181).ext x186).ext x203)
    exact ⟨List.set amounts (Int.toNat x118) r197, H, _, hx207, env_eq ⟨rfl, rfl, rfl, rfl, rfl, rfl, rfl, rfl, trivial⟩, X212, o209, ex210, f213, ex215, ex216, ex217, ex218, ex219, ex220, ex221, (DomLe.dj (dm _) d ex222), (DomLe.dj (dm _) d127 ex223), (DomLe.dj (dm _) d128 ex224), (DomLe.dj (dm _) d129 ex225), (DomLe.dj (dm _) d130 ex226), (DomLe.dj (dm _) d131 ex227), (DomLe.dj (dm _) d132 ex228)⟩
   have H := H.2 hc205
   refine W_skip ?_
   have X229 := ((((X133.stepx x177).stepx x181).stepx x186).stepx x203)
   have ex230 := ((((ex116.ext x177).ext x181).ext x186).ext x203)
   have ex231 := (ex198.ext x203)
   have ex232 := (ex199.ext x203)
   have ex233 := (ex200.ext x203)
   have ex234 := (ex201.ext x203)
   have ex235 := (((ex178.ext x181).ext x186).ext x203)
   have ex236 := (((ex179.ext x181).ext x186).ext x203)
   have ex237 := ((((ex126.ext x177).ext x181).ext x186).ext x203)
   exact ⟨amounts, H, _, hx114, env_eq ⟨rfl, rfl, rfl, rfl, rfl, rfl, rfl, rfl, trivial⟩, X229, o115, ex230, f117, ex231, ex232, ex233, ex234, ex235, ex236, ex237, d, d127, d128, d129, d130, d131, d132⟩
  rintro amounts152 _ wx158 ⟨H, ρ, hx154, rfl, HF⟩
  revert HF
  refine bb9 fun X173 o155 ex156 f157 ex159 ex160 ex161 ex162 => ?_
  refine bb9 fun ex163 ex164 ex165 d166 d167 d168 d169 d170 => ?_
  refine bb2 fun d171 d172 => ?_
  subst hk175
  refine W_region ?_
  refine LP_ev ok 0 [(79, I (wr (x118 + 1))), (58, I (wr (x118 + 1)))] 2 rfl rfl ?_
  refine LP_end _ rfl ?_
  exact ⟨(amounts152, wr (x118 + 1)), ⟨H.1, _, hx154, env_eq ⟨rfl, rfl, rfl, rfl, rfl, rfl, rfl, rfl, trivial⟩, X173, o155, ex156, f157, ex159, ex160, ex161, ex162, ex163, ex164, ex165, d166, d167, d168, d169, d170, d171, d172⟩, H.2⟩
 have H := H.2 hc151
 refine W_exit ?_
 refine (if_pos rfl).mpr ?_
 refine W_seq ?_
 refine W_region ?_
 refine LP_ev ok 0 [(80, .slice a111 (List.length (List.replicate (Int.toNat r101) ((0 : Int)))) c112), (81, sl a43 r32 c44)] 2 rfl rfl ?_
 obtain ⟨x238, hi239, hx240, H⟩ := H
 refine LP_index 2 rfl rfl rfl Try.underlying63 ti_22 rfl rfl o.readf hi239 hx240 fun a241 cs r242 d243 => ?_
 refine LP_load 3 rfl rfl rfl ti_22 ag_22 rfl r242 d243 ex126 fun vx244 r245 => ?_
 have r248 := r245.slice
 obtain ⟨a246, c247, rfl⟩ := r248.shape
 refine LP_call 4 rfl rfl rfl cal_47 rfl (spec_aSum_w _ _ _ H wx119 o115.readf ex116 r248 ex126) ?_
 rintro _ wx250 ⟨r249, H, rfl, x251⟩
 refine LP_ev ok 5 [(21, I r249)] 6 rfl rfl ?_
 refine LP_end _ rfl ?_
 refine W_seq ?_
 refine W_region ?_
 refine LP_ev ok 0 [(85, I r249), (22, I r249)] 2 rfl rfl ?_
 refine LP_end _ rfl ?_
 refine W_seq ?_
 refine W_seq ?_
 refine W_region ?_
 refine LP_ev ok 0 [(86, sl a43 r32 c44), (87, I (ln r32)), (88, I 0)] 3 rfl rfl ?_
 refine LP_end _ rfl ?_
 refine W_block ?_
 have X261 := (X133.stepx x251)
 have ex262 := (ex126.ext x251)
 have ex263 := (ex116.ext x251)
 obtain ⟨J258, m259, Hx260, H⟩ := H
 refine W_loop (S := Int × Int × Int) (fun s ρ' w' => J258 s.1 s.2.1 s.2.2 ∧ ∃ (ρ : Env), ρ' = setAll [(17, .slice a111 (List.length (List.replicate (Int.toNat r101) ((0 : Int)))) c112), (21, I s.1), (22, I s.2.1), (86, sl a43 r32 c44), (87, I (ln r32)), (88, I s.2.2)] ρ ∧ But emp w w' ∧ Sub hx40 w' ∧ Sub hx114 w') (fun s => m259 s.1 s.2.1 s.2.2) (r249, r249, 0) ⟨Hx260, _, env_eq ⟨rfl, rfl, rfl, rfl, rfl, rfl, trivial⟩, X261, ex262, ex263⟩ ?_
 rintro ⟨lo, hi252, x253⟩ _ wx254 ⟨Hi, ρ, rfl, X257, ex255, ex256⟩
 have H := H lo hi252 x253 Hi
 refine W_seq ?_
 refine W_region ?_
 refine LP_ev ok 0 [(89, .bool (decide (x253 < (ln r32))))] 1 rfl rfl ?_
 refine LP_end _ rfl ?_
 refine W_seq ?_
 refine W_cond (decide (x253 < (ln r32))) rfl (fun hc265 => ?_) (fun hc265 => ?_)
 ·have H := H.1 hc265
  refine W_skip ?_
  refine W_seq ?_
  refine W_block ?_
  refine W_seq ?_
  refine W_region ?_
  obtain ⟨x266, hi267, hx268, H⟩ := H
  refine LP_index 0 rfl rfl rfl Try.underlying63 ti_22 rfl rfl o.readf hi267 hx268 fun a269 cs270 r271 d272 => ?_
  refine LP_load 1 rfl rfl rfl ti_22 ag_22 rfl r271 d272 ex255 fun vx273 r274 => ?_
  have r277 := r274.slice
  obtain ⟨a275, c276, rfl⟩ := r277.shape
  refine LP_ev ok 2 [(24, sl a275 x266 c276)] 3 rfl rfl ?_
  refine LP_end _ rfl ?_
  refine W_seq ?_
  refine W_region ?_
  refine LP_ev ok 0 [(92, I lo), (93, .slice a111 (List.length (List.replicate (Int.toNat r101) ((0 : Int)))) c112), (94, sl a275 x266 c276)] 3 rfl rfl ?_
  refine LP_call 3 rfl rfl rfl cal_47 rfl (spec_aSum_w _ _ _ H wx254 o115.readf ex256 r277 ex255) ?_
  rintro _ wx279 ⟨r278, H, rfl, x280⟩
  refine LP_call 4 rfl rfl rfl cal_48 rfl (spec_l1Least_w _ _ _ H wx279 ) ?_
  rintro _ wx282 ⟨r281, H, rfl, x283⟩
  refine LP_ev ok 5 [(21, I r281)] 6 rfl rfl ?_
  refine LP_end _ rfl ?_
  refine W_region ?_
  refine LP_ev ok 0 [(97, I hi252), (98, .slice a111 (List.length (List.replicate (Int.toNat r101) ((0 : Int)))) c112), (99, sl a275 x266 c276)] 3 rfl rfl ?_
  have ex285 := ((ex256.ext x280).ext x283)
  have ex286 := ((ex255.ext x280).ext x283)
  refine LP_call 3 rfl rfl rfl cal_47 rfl (spec_aSum_w _ _ _ H wx282 o115.readf ex285 r277 ex286) ?_
  rintro _ wx287 ⟨r284, H, rfl, x288⟩
  refine LP_call 4 rfl rfl rfl cal_49 rfl (spec_l1Most_w _ _ _ H wx287 ) ?_
  rintro _ wx290 ⟨r289, H, rfl, x291⟩
  refine LP_ev ok 5 [(22, I r289)] 6 rfl rfl ?_
  refine LP_end _ rfl ?_
  refine W_region ?_
  refine LP_ev ok 0 [(102, I (wr (x253 + 1))), (88, I (wr (x253 + 1)))] 2 rfl rfl ?_
  refine LP_end _ rfl ?_
  have X292 := ((((X257.stepx x280).stepx x283).stepx x288).stepx x291)
  have ex293 := ((ex286.ext x288).ext x291)
  have ex294 := ((ex285.ext x288).ext x291)
  exact ⟨(r281, r289, wr (x253 + 1)), ⟨H.1, _, env_eq ⟨rfl, rfl, rfl, rfl, rfl, rfl, trivial⟩, X292, ex293, ex294⟩, H.2⟩
 have H := H.2 hc265
 refine W_exit ?_
 refine (if_pos rfl).mpr ?_
 refine W_seq ?_
 refine W_region ?_
 refine LP_ev ok 0 [(103, I lo), (104, I hi252), (12, I lo), (13, I hi252), (14, .bool true)] 5 rfl rfl ?_
 refine LP_end _ rfl ?_
 refine W_ret ?_
 exact ⟨_, Ret_of [I lo, I hi252, .bool true] ⟨⟨rfl, rfl⟩, ⟨rfl, rfl⟩, ⟨rfl, rfl⟩, trivial⟩, _, _, _, H, rfl, X257.ext⟩

theorem impl_IsGeo_w (g : Geo) (Q : Bool → Prop) (H : impl_IsGeo g Q) (w : World) {vx : Value} {hx : PH} (r : RS hx vx g.Parents) (ex : Sub hx w) :
  CallsTo Try.prog 93 #[.agg #[vx]] w fun v w' => ∃ r0, Q r0 ∧ v = .bool r0 ∧ Ext w w' := by
 obtain ⟨a, c, rfl⟩ := r.shape
 refine enter (args := [.agg #[sl a g.Parents c]]) 43 Try.func93 rfl rfl rfl ?_
 refine W_forget [(0, .agg #[sl a g.Parents c])] ⟨rfl, trivial⟩ fun ρ => ?_
 have X := But.refl emp w
 refine W_seq ?_
 refine W_region ?_
 refine LP_box 0 (cs := [sl a g.Parents c]) rfl rfl rfl rfl rfl fun b wx x ex1 f => ?_
 refine LP_ev ok 1 [(2, .bool false)] 2 rfl rfl ?_
 refine LP_end _ rfl ?_
 refine W_seq ?_
 obtain ⟨k, hk, H⟩ := jn_elim H
 refine W_join2 (S := Bool) (fun s ρ' w' => k s ∧ ∃ (ρ : Env), ρ' = setAll [(1, pb b), (20, .bool s)] ρ ∧ wx = w') ?_ ?_
 ·refine W_region ?_
  refine LP_ev ok 0 [(4, pb b)] 1 rfl rfl ?_
  refine LP_ldbox 1 (v := sl a g.Parents c) rfl rfl rfl ti_22 ag_22 (fun _ => rfl) rfl ex1 rfl rfl ?_
  refine LP_ev ok 2 [(6, I (ln g.Parents)), (7, .bool (decide ((ln g.Parents) < 1))), (8, .bool (decide ((ln g.Parents) < 1)))] 5 rfl rfl ?_
  refine LP_split 8 (decide ((ln g.Parents) < 1)) rfl (fun hc => ?_) (fun hc => ?_)
  ·have H := H.1 hc
   refine LP_ev ok 5 [(9, undef), (10, undef), (11, undef), (12, undef), (13, .bool true), (14, .bool true), (15, undef), (16, undef), (17, undef), (18, undef), (19, undef), (20, .bool true)] 17 rfl rfl ?_
   refine LP_end _ rfl ?_
   exact ⟨true, H, _, env_eq ⟨rfl, rfl, trivial⟩, rfl⟩
  have H := H.2 hc
  refine LP_ev ok 5 [(9, pb b)] 6 rfl rfl ?_
  refine LP_ldbox 6 (v := sl a g.Parents c) rfl rfl rfl ti_22 ag_22 (fun _ => rfl) rfl ex1 rfl rfl ?_
  refine LP_ev ok 7 [(11, I (ln g.Parents)), (12, .bool (decide ((ln g.Parents) > 30))), (13, .bool (decide ((ln g.Parents) > 30))), (14, .bool (decide ((ln g.Parents) > 30)))] 11 rfl rfl ?_
  refine LP_split 14 (decide ((ln g.Parents) > 30)) rfl (fun hc4 => ?_) (fun hc4 => ?_)
  ·have H := H.1 hc4
   refine LP_ev ok 11 [(15, undef), (16, undef), (17, undef), (18, undef), (19, undef), (20, .bool true)] 17 rfl rfl ?_
   refine LP_end _ rfl ?_
   exact ⟨true, H, _, env_eq ⟨rfl, rfl, trivial⟩, rfl⟩
  have H := H.2 hc4
  refine LP_ev ok 11 [(15, pb b)] 12 rfl rfl ?_
  refine LP_ldbox 12 (v := sl a g.Parents c) rfl rfl rfl ti_22 ag_22 (fun _ => rfl) rfl ex1 rfl rfl ?_
  obtain ⟨x5, hi, hx6, H⟩ := H
  refine LP_index 13 rfl rfl rfl Try.underlying22 ti_3 rfl rfl r hi hx6 fun a7 cs r8 d => ?_
  have ex9 := (ex.ext x)
  refine LP_load 14 rfl rfl rfl ti_3 ag_3 rfl r8 d ex9 fun vx10 r11 => ?_
  obtain rfl := r11.int
  refine LP_ev ok 15 [(19, .bool (x5 != ((-1)))), (20, .bool (x5 != ((-1))))] 17 rfl rfl ?_
  refine LP_end _ rfl ?_
  exact ⟨x5 != ((-1)), H, _, env_eq ⟨rfl, rfl, trivial⟩, rfl⟩
 rintro x2 _ _ ⟨H, ρ, rfl, rfl⟩
 subst hk
 refine W_cond (x2) rfl (fun hc12 => ?_) (fun hc12 => ?_)
 ·have H := H.1 hc12
  refine W_seq ?_
  refine W_region ?_
  refine LP_ev ok 0 [(2, .bool false)] 1 rfl rfl ?_
  refine LP_end _ rfl ?_
  refine W_ret ?_
  have X13 := (X.stepx x)
  exact ⟨_, Ret_of [.bool false] ⟨⟨rfl, rfl⟩, trivial⟩, _, H, rfl, X13.ext⟩
 have H := H.2 hc12
 refine W_skip ?_
 refine W_seq ?_
 refine W_seq ?_
 refine W_region ?_
 refine LP_ev ok 0 [(3, I 1)] 1 rfl rfl ?_
 refine LP_end _ rfl ?_
 refine W_block ?_
 obtain ⟨J, m, Hx, H⟩ := H
 refine W_loop (S := Int) (fun s ρ' w' => J s ∧ ∃ (ρ : Env), ρ' = setAll [(1, pb b), (3, I s)] ρ ∧ wx = w') (fun s => m s) 1 ⟨Hx, _, env_eq ⟨rfl, rfl, trivial⟩, rfl⟩ ?_
 rintro i _ _ ⟨Hi, ρ, rfl, rfl⟩
 have H := H i Hi
 refine W_seq ?_
 refine W_seq ?_
 refine W_region ?_
 refine LP_ev ok 0 [(21, I i), (22, pb b)] 2 rfl rfl ?_
 refine LP_ldbox 2 (v := sl a g.Parents c) rfl rfl rfl ti_22 ag_22 (fun _ => rfl) rfl ex1 rfl rfl ?_
 refine LP_ev ok 3 [(24, I (ln g.Parents)), (25, .bool (decide (i < (ln g.Parents))))] 5 rfl rfl ?_
 refine LP_end _ rfl ?_
 refine W_cond (decide (i < (ln g.Parents))) rfl (fun hc15 => ?_) (fun hc15 => ?_)
 ·have H := H.1 hc15
  refine W_skip ?_
  refine W_seq ?_
  refine W_block ?_
  obtain ⟨k18, hk19, H⟩ := jn_elim H
  refine W_join2 (S := Bool) (fun s ρ' w' => k18 s ∧ ∃ (ρ : Env), ρ' = setAll [(1, pb b), (3, I i), (42, .bool s)] ρ ∧ wx = w') ?_ ?_
  ·refine W_region ?_
   refine LP_ev ok 0 [(28, pb b)] 1 rfl rfl ?_
   refine LP_ldbox 1 (v := sl a g.Parents c) rfl rfl rfl ti_22 ag_22 (fun _ => rfl) rfl ex1 rfl rfl ?_
   refine LP_ev ok 2 [(30, I i)] 3 rfl rfl ?_
   obtain ⟨x20, hi21, hx22, H⟩ := H
   refine LP_index 3 rfl rfl rfl Try.underlying22 ti_3 rfl rfl r hi21 hx22 fun a23 cs24 r25 d26 => ?_
   have ex27 := (ex.ext x)
   refine LP_load 4 rfl rfl rfl ti_3 ag_3 rfl r25 d26 ex27 fun vx28 r29 => ?_
   obtain rfl := r29.int
   refine LP_ev ok 5 [(33, .bool (decide (x20 < 0))), (34, .bool (decide (x20 < 0)))] 7 rfl rfl ?_
   refine LP_split 34 (decide (x20 < 0)) rfl (fun hc30 => ?_) (fun hc30 => ?_)
   ·have H := H.1 hc30
    refine LP_ev ok 7 [(35, undef), (36, undef), (37, undef), (38, undef), (39, undef), (40, undef), (41, undef), (42, .bool true)] 15 rfl rfl ?_
    refine LP_end _ rfl ?_
    exact ⟨true, H, _, env_eq ⟨rfl, rfl, rfl, trivial⟩, rfl⟩
   have H := H.2 hc30
   refine LP_ev ok 7 [(35, pb b)] 8 rfl rfl ?_
   refine LP_ldbox 8 (v := sl a g.Parents c) rfl rfl rfl ti_22 ag_22 (fun _ => rfl) rfl ex1 rfl rfl ?_
   refine LP_ev ok 9 [(37, I i)] 10 rfl rfl ?_
   obtain ⟨x31, hi32, hx33, H⟩ := H
   refine LP_index 10 rfl rfl rfl Try.underlying22 ti_3 rfl rfl r hi32 hx33 fun a34 cs35 r36 d37 => ?_
   refine LP_load 11 rfl rfl rfl ti_3 ag_3 rfl r36 d37 ex27 fun vx38 r39 => ?_
   obtain rfl := r39.int
   refine LP_ev ok 12 [(40, I i), (41, .bool (decide (x31 ≥ i))), (42, .bool (decide (x31 ≥ i)))] 15 rfl rfl ?_
   refine LP_end _ rfl ?_
   exact ⟨decide (x31 ≥ i), H, _, env_eq ⟨rfl, rfl, rfl, trivial⟩, rfl⟩
  rintro x16 _ _ ⟨H, ρ, rfl, rfl⟩
  subst hk19
  refine W_cond (x16) rfl (fun hc40 => ?_) (fun hc40 => ?_)
  ·have H := H.1 hc40
   refine W_seq ?_
   refine W_region ?_
   refine LP_ev ok 0 [(2, .bool false)] 1 rfl rfl ?_
   refine LP_end _ rfl ?_
   refine W_ret ?_
   have X41 := (X.stepx x)
   exact ⟨_, Ret_of [.bool false] ⟨⟨rfl, rfl⟩, trivial⟩, _, H, rfl, X41.ext⟩
  have H := H.2 hc40
  refine W_skip ?_
  refine W_region ?_
  refine LP_ev ok 0 [(26, I i), (27, I (wr (i + 1))), (3, I (wr (i + 1)))] 3 rfl rfl ?_
  refine LP_end _ rfl ?_
  exact ⟨wr (i + 1), ⟨H.1, _, env_eq ⟨rfl, rfl, trivial⟩, rfl⟩, H.2⟩
 have H := H.2 hc15
 refine W_exit ?_
 refine (if_pos rfl).mpr ?_
 refine W_seq ?_
 refine W_region ?_
 refine LP_ev ok 0 [(2, .bool true)] 1 rfl rfl ?_
 refine LP_end _ rfl ?_
 refine W_ret ?_
 have X42 := (X.stepx x)
 exact ⟨_, Ret_of [.bool true] ⟨⟨rfl, rfl⟩, trivial⟩, _, H, rfl, X42.ext⟩

theorem impl_isWord_w (sx : ByteArray) (Q : Bool → Prop) (H : impl_isWord sx Q) (w : World)  :
  CallsTo Try.prog 106 #[.string sx] w fun v w' => ∃ r0, Q r0 ∧ v = .bool r0 ∧ Ext w w' := by
 refine enter (args := [.string sx]) 28 Try.func106 rfl rfl rfl ?_
 refine W_forget [(0, .string sx)] ⟨rfl, trivial⟩ fun ρ => ?_
 have X := But.refl emp w
 refine W_seq ?_
 refine W_region ?_
 refine LP_ev ok 0 [(2, .bool false)] 1 rfl rfl ?_
 refine LP_end _ rfl ?_
 refine W_seq ?_
 obtain ⟨k, hk, H⟩ := jn_elim H
 refine W_join2 (S := Bool) (fun s ρ' w' => k s ∧ ∃ (ρ : Env), ρ' = setAll [(0, .string sx), (11, .bool s)] ρ ∧ w = w') ?_ ?_
 ·refine W_region ?_
  refine LP_ev ok 0 [(4, .string sx), (5, I (sln sx)), (6, .bool (decide ((sln sx) < 1))), (7, .bool (decide ((sln sx) < 1)))] 4 rfl rfl ?_
  refine LP_split 7 (decide ((sln sx) < 1)) rfl (fun hc => ?_) (fun hc => ?_)
  ·have H := H.1 hc
   refine LP_ev ok 4 [(8, undef), (9, undef), (10, undef), (11, .bool true)] 8 rfl rfl ?_
   refine LP_end _ rfl ?_
   exact ⟨true, H, _, env_eq ⟨rfl, rfl, trivial⟩, rfl⟩
  have H := H.2 hc
  refine LP_ev ok 4 [(8, .string sx), (9, I (sln sx)), (10, .bool (decide ((sln sx) > 8))), (11, .bool (decide ((sln sx) > 8)))] 8 rfl rfl ?_
  refine LP_end _ rfl ?_
  exact ⟨decide ((sln sx) > 8), H, _, env_eq ⟨rfl, rfl, trivial⟩, rfl⟩
 rintro x _ _ ⟨H, ρ, rfl, rfl⟩
 subst hk
 refine W_cond (x) rfl (fun hc1 => ?_) (fun hc1 => ?_)
 ·have H := H.1 hc1
  refine W_seq ?_
  refine W_region ?_
  refine LP_ev ok 0 [(2, .bool false)] 1 rfl rfl ?_
  refine LP_end _ rfl ?_
  refine W_ret ?_
  exact ⟨_, Ret_of [.bool false] ⟨⟨rfl, rfl⟩, trivial⟩, _, H, rfl, X.ext⟩
 have H := H.2 hc1
 refine W_skip ?_
 refine W_seq ?_
 refine W_seq ?_
 refine W_region ?_
 refine LP_ev ok 0 [(12, .string sx), (13, I (sln sx)), (14, I 0)] 3 rfl rfl ?_
 refine LP_end _ rfl ?_
 refine W_block ?_
 obtain ⟨J, m, Hx, H⟩ := H
 refine W_loop (S := Int) (fun s ρ' w' => J s ∧ ∃ (ρ : Env), ρ' = setAll [(0, .string sx), (13, I (sln sx)), (14, I s)] ρ ∧ w = w') (fun s => m s) 0 ⟨Hx, _, env_eq ⟨rfl, rfl, rfl, trivial⟩, rfl⟩ ?_
 rintro x2 _ _ ⟨Hi, ρ, rfl, rfl⟩
 have H := H x2 Hi
 refine W_seq ?_
 refine W_region ?_
 refine LP_ev ok 0 [(15, .bool (decide (x2 < (sln sx))))] 1 rfl rfl ?_
 refine LP_end _ rfl ?_
 refine W_seq ?_
 refine W_cond (decide (x2 < (sln sx))) rfl (fun hc4 => ?_) (fun hc4 => ?_)
 ·have H := H.1 hc4
  refine W_skip ?_
  refine W_seq ?_
  refine W_block ?_
  refine W_seq ?_
  refine W_region ?_
  refine LP_ev ok 0 [(16, I x2), (3, I x2)] 2 rfl rfl ?_
  refine LP_end _ rfl ?_
  obtain ⟨k7, hk8, H⟩ := jn_elim H
  refine W_join2 (S := Bool) (fun s ρ' w' => k7 s ∧ ∃ (ρ : Env), ρ' = setAll [(0, .string sx), (13, I (sln sx)), (14, I x2), (26, .bool s)] ρ ∧ w = w') ?_ ?_
  ·refine W_region ?_
   refine LP_ev ok 0 [(17, .string sx), (18, I x2)] 2 rfl rfl ?_
   obtain ⟨c, hi, hx, H⟩ := H
   refine LP_val 2 _ rfl rfl (ex_sidx rfl rfl rfl Try.underlying9 hi hx _) ?_
   refine LP_ev ok 3 [(20, .bool (decide ((((UInt8.toNat c : Nat) : Int)) < 97))), (21, .bool (decide ((((UInt8.toNat c : Nat) : Int)) < 97)))] 5 rfl rfl ?_
   refine LP_split 21 (decide ((((UInt8.toNat c : Nat) : Int)) < 97)) rfl (fun hc9 => ?_) (fun hc9 => ?_)
   ·have H := H.1 hc9
    refine LP_ev ok 5 [(22, undef), (23, undef), (24, undef), (25, undef), (26, .bool true)] 10 rfl rfl ?_
    refine LP_end _ rfl ?_
    exact ⟨true, H, _, env_eq ⟨rfl, rfl, rfl, rfl, trivial⟩, rfl⟩
   have H := H.2 hc9
   refine LP_ev ok 5 [(22, .string sx), (23, I x2)] 7 rfl rfl ?_
   obtain ⟨c10, hi11, hx12, H⟩ := H
   refine LP_val 7 _ rfl rfl (ex_sidx rfl rfl rfl Try.underlying9 hi11 hx12 _) ?_
   refine LP_ev ok 8 [(25, .bool (decide ((((UInt8.toNat c10 : Nat) : Int)) > 122))), (26, .bool (decide ((((UInt8.toNat c10 : Nat) : Int)) > 122)))] 10 rfl rfl ?_
   refine LP_end _ rfl ?_
   exact ⟨decide ((((UInt8.toNat c10 : Nat) : Int)) > 122), H, _, env_eq ⟨rfl, rfl, rfl, rfl, trivial⟩, rfl⟩
  rintro x5 _ _ ⟨H, ρ, rfl, rfl⟩
  subst hk8
  refine W_cond (x5) rfl (fun hc13 => ?_) (fun hc13 => ?_)
  ·have H := H.1 hc13
   refine W_seq ?_
   refine W_region ?_
   refine LP_ev ok 0 [(2, .bool false)] 1 rfl rfl ?_
   refine LP_end _ rfl ?_
   refine W_ret ?_
   exact ⟨_, Ret_of [.bool false] ⟨⟨rfl, rfl⟩, trivial⟩, _, H, rfl, X.ext⟩
  have H := H.2 hc13
  refine W_skip ?_
  refine W_region ?_
  refine LP_ev ok 0 [(27, I (wr (x2 + 1))), (14, I (wr (x2 + 1)))] 2 rfl rfl ?_
  refine LP_end _ rfl ?_
  exact ⟨wr (x2 + 1), ⟨H.1, _, env_eq ⟨rfl, rfl, rfl, trivial⟩, rfl⟩, H.2⟩
 have H := H.2 hc4
 refine W_exit ?_
 refine (if_pos rfl).mpr ?_
 refine W_seq ?_
 refine W_region ?_
 refine LP_ev ok 0 [(2, .bool true)] 1 rfl rfl ?_
 refine LP_end _ rfl ?_
 refine W_ret ?_
 exact ⟨_, Ret_of [.bool true] ⟨⟨rfl, rfl⟩, trivial⟩, _, H, rfl, X.ext⟩

theorem impl_IsSchema_w (sx : List Variable) (Q : Bool → Prop) (H : impl_IsSchema sx Q) (w : World) {vx : Value} {hx : PH} (r : RS hx vx sx) (ex : Sub hx w) :
  CallsTo Try.prog 94 #[vx] w fun v w' => ∃ r0, Q r0 ∧ v = .bool r0 ∧ Ext w w' := by
 obtain ⟨a, c, rfl⟩ := r.shape
 refine enter (args := [sl a sx c]) 51 Try.func94 rfl rfl rfl ?_
 refine W_forget [(0, sl a sx c)] ⟨rfl, trivial⟩ fun ρ => ?_
 have X := But.refl emp w
 refine W_seq ?_
 refine W_region ?_
 refine LP_ev ok 0 [(2, .bool false)] 1 rfl rfl ?_
 refine LP_end _ rfl ?_
 refine W_seq ?_
 obtain ⟨k, hk, H⟩ := jn_elim H
 refine W_join2 (S := Bool) (fun s ρ' w' => k s ∧ ∃ (ρ : Env), ρ' = setAll [(0, sl a sx c), (14, .bool s)] ρ ∧ w = w') ?_ ?_
 ·refine W_region ?_
  refine LP_ev ok 0 [(7, sl a sx c), (8, I (ln sx)), (9, .bool (decide ((ln sx) < 1))), (10, .bool (decide ((ln sx) < 1)))] 4 rfl rfl ?_
  refine LP_split 10 (decide ((ln sx) < 1)) rfl (fun hc => ?_) (fun hc => ?_)
  ·have H := H.1 hc
   refine LP_ev ok 4 [(11, undef), (12, undef), (13, undef), (14, .bool true)] 8 rfl rfl ?_
   refine LP_end _ rfl ?_
   exact ⟨true, H, _, env_eq ⟨rfl, rfl, trivial⟩, rfl⟩
  have H := H.2 hc
  refine LP_ev ok 4 [(11, sl a sx c), (12, I (ln sx)), (13, .bool (decide ((ln sx) > 6))), (14, .bool (decide ((ln sx) > 6)))] 8 rfl rfl ?_
  refine LP_end _ rfl ?_
  exact ⟨decide ((ln sx) > 6), H, _, env_eq ⟨rfl, rfl, trivial⟩, rfl⟩
 rintro x _ _ ⟨H, ρ, rfl, rfl⟩
 subst hk
 refine W_cond (x) rfl (fun hc1 => ?_) (fun hc1 => ?_)
 ·have H := H.1 hc1
  refine W_seq ?_
  refine W_region ?_
  refine LP_ev ok 0 [(2, .bool false)] 1 rfl rfl ?_
  refine LP_end _ rfl ?_
  refine W_ret ?_
  exact ⟨_, Ret_of [.bool false] ⟨⟨rfl, rfl⟩, trivial⟩, _, H, rfl, X.ext⟩
 have H := H.2 hc1
 refine W_skip ?_
 refine W_seq ?_
 refine W_seq ?_
 refine W_region ?_
 refine LP_ev ok 0 [(15, sl a sx c), (16, I (ln sx)), (17, I 0)] 3 rfl rfl ?_
 refine LP_end _ rfl ?_
 refine W_block ?_
 obtain ⟨J, m, Hx, H⟩ := H
 refine W_loop (S := Int) (fun s ρ' w' => J s ∧ ∃ (ρ : Env), ρ' = setAll [(0, sl a sx c), (15, sl a sx c), (16, I (ln sx)), (17, I s)] ρ ∧ But emp w w' ∧ Sub hx w') (fun s => m s) 0 ⟨Hx, _, env_eq ⟨rfl, rfl, rfl, rfl, trivial⟩, X, ex⟩ ?_
 rintro x2 _ wx3 ⟨Hi, ρ, rfl, X5, ex4⟩
 have H := H x2 Hi
 refine W_seq ?_
 refine W_region ?_
 refine LP_ev ok 0 [(18, .bool (decide (x2 < (ln sx))))] 1 rfl rfl ?_
 refine LP_end _ rfl ?_
 refine W_seq ?_
 refine W_cond (decide (x2 < (ln sx))) rfl (fun hc6 => ?_) (fun hc6 => ?_)
 ·have H := H.1 hc6
  refine W_skip ?_
  refine W_seq ?_
  refine W_block ?_
  refine W_seq ?_
  refine W_region ?_
  refine LP_ev ok 0 [(19, I x2)] 1 rfl rfl ?_
  obtain ⟨x7, hi, hx8, H⟩ := H
  refine LP_index 1 rfl rfl rfl Try.underlying34 ti_66 rfl rfl r hi hx8 fun a9 cs r10 d => ?_
  refine LP_load 2 rfl rfl rfl ti_66 ag_66 rfl r10 d ex4 fun vx11 r12 => ?_
  obtain rfl := Variable_rv r12
  refine LP_alloc 3 rfl rfl rfl ti_66 rfl fun b wx13 x14 ex15 f => ?_
  refine LP_ev ok 4 [(3, I x2)] 5 rfl rfl ?_
  refine LP_stbox 5 (vs := [.string x7.Name, I x7.Levels]) (cs' := [.string x7.Name, I x7.Levels]) rfl rfl rfl ti_66 rfl rfl rfl rfl rfl ex15 rfl rfl fun wx16 ex17 y => ?_
  refine LP_end _ rfl ?_
  refine W_seq ?_
  obtain ⟨k23, hk24, H⟩ := jn_elim H
  refine W_join2 (S := Bool) (fun s ρ' w' => k23 s ∧ ∃ (ρ : Env), ρ' = setAll [(0, sl a sx c), (3, I x2), (4, pb b), (15, sl a sx c), (16, I (ln sx)), (17, I x2), (35, .bool s)] ρ ∧ But emp w w' ∧ Sub hx w' ∧ Sub (bx b 66 [.string x7.Name, I x7.Levels]) w') ?_ ?_
  ·refine W_region ?_
   refine LP_ev ok 0 [(22, pb b)] 1 rfl rfl ?_
   refine LP_ldbox 1 (v := .string x7.Name) rfl rfl rfl ti_9 ag_9 (fun _ => rfl) rfl ex17 rfl rfl ?_
   refine LP_call 2 rfl rfl rfl cal_106 rfl (impl_isWord_w _ _ H wx16 ) ?_
   rintro _ wx26 ⟨r25, H, rfl, x27⟩
   refine LP_ev ok 3 [(25, .bool (!r25)), (26, .bool (!r25))] 5 rfl rfl ?_
   refine LP_split 26 (!r25) rfl (fun hc28 => ?_) (fun hc28 => ?_)
   ·have H := H.1 hc28
    refine LP_ev ok 5 [(27, undef), (28, undef), (29, undef), (30, .bool true), (31, .bool true), (32, undef), (33, undef), (34, undef), (35, .bool true)] 14 rfl rfl ?_
    refine LP_end _ rfl ?_
    have f29 := f.mono X5.size
    have X30 := (((X5.stepx x14).step y (f29.dom _)).stepx x27)
    have ex31 := (((ex4.ext x14).but y (Dj.of_fresh ex4 f).symm).ext x27)
    have ex32 := (ex17.ext x27)
    exact ⟨true, H, _, env_eq ⟨rfl, rfl, rfl, rfl, rfl, rfl, rfl, trivial⟩, X30, ex31, ex32⟩
   have H := H.2 hc28
   refine LP_ev ok 5 [(27, .pointer (some ⟨b, 1, none⟩))] 6 rfl rfl ?_
   have ex33 := (ex17.ext x27)
   refine LP_ldbox 6 (v := I x7.Levels) rfl rfl rfl ti_3 ag_3 (fun _ => rfl) rfl ex33 rfl rfl ?_
   refine LP_ev ok 7 [(29, .bool (decide (x7.Levels < 2))), (30, .bool (decide (x7.Levels < 2))), (31, .bool (decide (x7.Levels < 2)))] 10 rfl rfl ?_
   refine LP_split 31 (decide (x7.Levels < 2)) rfl (fun hc34 => ?_) (fun hc34 => ?_)
   ·have H := H.1 hc34
    refine LP_ev ok 10 [(32, undef), (33, undef), (34, undef), (35, .bool true)] 14 rfl rfl ?_
    refine LP_end _ rfl ?_
    have f35 := f.mono X5.size
    have X36 := (((X5.stepx x14).step y (f35.dom _)).stepx x27)
    have ex37 := (((ex4.ext x14).but y (Dj.of_fresh ex4 f).symm).ext x27)
    exact ⟨true, H, _, env_eq ⟨rfl, rfl, rfl, rfl, rfl, rfl, rfl, trivial⟩, X36, ex37, ex33⟩
   have H := H.2 hc34
   refine LP_ev ok 10 [(32, .pointer (some ⟨b, 1, none⟩))] 11 rfl rfl ?_
   refine LP_ldbox 11 (v := I x7.Levels) rfl rfl rfl ti_3 ag_3 (fun _ => rfl) rfl ex33 rfl rfl ?_
   refine LP_ev ok 12 [(34, .bool (decide (x7.Levels > 8))), (35, .bool (decide (x7.Levels > 8)))] 14 rfl rfl ?_
   refine LP_end _ rfl ?_
   have f38 := f.mono X5.size
   have X39 := (((X5.stepx x14).step y (f38.dom _)).stepx x27)
   have ex40 := (((ex4.ext x14).but y (Dj.of_fresh ex4 f).symm).ext x27)
   exact ⟨decide (x7.Levels > 8), H, _, env_eq ⟨rfl, rfl, rfl, rfl, rfl, rfl, rfl, trivial⟩, X39, ex40, ex33⟩
  rintro x18 _ wx19 ⟨H, ρ, rfl, X22, ex20, ex21⟩
  subst hk24
  refine W_cond (x18) rfl (fun hc41 => ?_) (fun hc41 => ?_)
  ·have H := H.1 hc41
   refine W_seq ?_
   refine W_region ?_
   refine LP_ev ok 0 [(2, .bool false)] 1 rfl rfl ?_
   refine LP_end _ rfl ?_
   refine W_ret ?_
   exact ⟨_, Ret_of [.bool false] ⟨⟨rfl, rfl⟩, trivial⟩, _, H, rfl, X22.ext⟩
  have H := H.2 hc41
  refine W_skip ?_
  refine W_seq ?_
  refine W_region ?_
  refine LP_ev ok 0 [(36, sl a sx c), (37, I x2)] 2 rfl rfl ?_
  obtain ⟨hl, hu, hn, H⟩ := H
  refine LP_slice 2 0 x2 rfl rfl rfl Try.underlying34 ti_66 rfl rfl rfl r (.inl ⟨rfl, rfl⟩) (.inr rfl) hl hu hn fun vx42 r43 => ?_
  obtain ⟨a44, c45, rfl⟩ := r43.shape
  refine LP_ev ok 3 [(39, I (ln (List.take (Int.toNat x2 - Int.toNat 0) (List.drop (Int.toNat 0) sx)))), (40, I 0)] 5 rfl rfl ?_
  refine LP_end _ rfl ?_
  refine W_block ?_
  obtain ⟨J51, m52, Hx53, H⟩ := H
  refine W_loop (S := Int) (fun s ρ' w' => J51 s ∧ ∃ (ρ : Env), ρ' = setAll [(0, sl a sx c), (4, pb b), (15, sl a sx c), (16, I (ln sx)), (17, I x2), (38, .slice a44 (List.length (List.take (Int.toNat x2 - Int.toNat 0) (List.drop (Int.toNat 0) sx))) c45), (39, I (ln (List.take (Int.toNat x2 - Int.toNat 0) (List.drop (Int.toNat 0) sx)))), (40, I s)] ρ ∧ But emp w w' ∧ Sub hx w' ∧ Sub (bx b 66 [.string x7.Name, I x7.Levels]) w') (fun s => m52 s) 0 ⟨Hx53, _, env_eq ⟨rfl, rfl, rfl, rfl, rfl, rfl, rfl, rfl, trivial⟩, X22, ex20, ex21⟩ ?_
  rintro x46 _ wx47 ⟨Hi, ρ, rfl, X50, ex48, ex49⟩
  have H := H x46 Hi
  refine W_seq ?_
  refine W_region ?_
  refine LP_ev ok 0 [(41, .bool (decide (x46 < (ln (List.take (Int.toNat x2 - Int.toNat 0) (List.drop (Int.toNat 0) sx))))))] 1 rfl rfl ?_
  refine LP_end _ rfl ?_
  refine W_seq ?_
  refine W_cond (decide (x46 < (ln (List.take (Int.toNat x2 - Int.toNat 0) (List.drop (Int.toNat 0) sx))))) rfl (fun hc55 => ?_) (fun hc55 => ?_)
  ·have H := H.1 hc55
   refine W_skip ?_
   refine W_seq ?_
   refine W_block ?_
   refine W_seq ?_
   refine W_region ?_
   obtain ⟨x56, hi57, hx58, H⟩ := H
   refine LP_index 0 rfl rfl rfl Try.underlying34 ti_66 rfl rfl r43 hi57 hx58 fun a59 cs60 r61 d62 => ?_
   refine LP_load 1 rfl rfl rfl ti_66 ag_66 rfl r61 d62 ex48 fun vx63 r64 => ?_
   obtain rfl := Variable_rv r64
   refine LP_alloc 2 rfl rfl rfl ti_66 rfl fun b65 wx66 x67 ex68 f69 => ?_
   refine LP_stbox 3 (vs := [.string x56.Name, I x56.Levels]) (cs' := [.string x56.Name, I x56.Levels]) rfl rfl rfl ti_66 rfl rfl rfl rfl rfl ex68 rfl rfl fun wx70 ex71 y72 => ?_
   refine LP_end _ rfl ?_
   refine W_seq ?_
   refine W_region ?_
   refine LP_ev ok 0 [(44, pb b65)] 1 rfl rfl ?_
   refine LP_ldbox 1 (v := .string x56.Name) rfl rfl rfl ti_9 ag_9 (fun _ => rfl) rfl ex71 rfl rfl ?_
   refine LP_ev ok 2 [(46, pb b)] 3 rfl rfl ?_
   have ex73 := ((ex49.ext x67).but y72 (Dj.of_fresh ex49 f69).symm)
   refine LP_ldbox 3 (v := .string x7.Name) rfl rfl rfl ti_9 ag_9 (fun _ => rfl) rfl ex73 rfl rfl ?_
   refine LP_ev ok 4 [(48, .bool (streq x56.Name x7.Name))] 5 rfl rfl ?_
   refine LP_end _ rfl ?_
   refine W_cond (streq x56.Name x7.Name) rfl (fun hc74 => ?_) (fun hc74 => ?_)
   ·have H := H.1 hc74
    refine W_seq ?_
    refine W_region ?_
    refine LP_ev ok 0 [(2, .bool false)] 1 rfl rfl ?_
    refine LP_end _ rfl ?_
    refine W_ret ?_
    have f75 := f69.mono X50.size
    have X76 := ((X50.stepx x67).step y72 (f75.dom _))
    exact ⟨_, Ret_of [.bool false] ⟨⟨rfl, rfl⟩, trivial⟩, _, H, rfl, X76.ext⟩
   have H := H.2 hc74
   refine W_skip ?_
   refine W_region ?_
   refine LP_ev ok 0 [(49, I (wr (x46 + 1))), (40, I (wr (x46 + 1)))] 2 rfl rfl ?_
   refine LP_end _ rfl ?_
   have f77 := f69.mono X50.size
   have X78 := ((X50.stepx x67).step y72 (f77.dom _))
   have ex79 := ((ex48.ext x67).but y72 (Dj.of_fresh ex48 f69).symm)
   exact ⟨wr (x46 + 1), ⟨H.1, _, env_eq ⟨rfl, rfl, rfl, rfl, rfl, rfl, rfl, rfl, trivial⟩, X78, ex79, ex73⟩, H.2⟩
  have H := H.2 hc55
  refine W_exit ?_
  refine (if_pos rfl).mpr ?_
  refine W_region ?_
  refine LP_ev ok 0 [(50, I (wr (x2 + 1))), (17, I (wr (x2 + 1)))] 2 rfl rfl ?_
  refine LP_end _ rfl ?_
  exact ⟨wr (x2 + 1), ⟨H.1, _, env_eq ⟨rfl, rfl, rfl, rfl, trivial⟩, X50, ex48⟩, H.2⟩
 have H := H.2 hc6
 refine W_exit ?_
 refine (if_pos rfl).mpr ?_
 refine W_seq ?_
 refine W_region ?_
 refine LP_ev ok 0 [(2, .bool true)] 1 rfl rfl ?_
 refine LP_end _ rfl ?_
 refine W_ret ?_
 exact ⟨_, Ret_of [.bool true] ⟨⟨rfl, rfl⟩, trivial⟩, _, H, rfl, X5.ext⟩

theorem slices_Index_int_int_w (sx : List Int) (vx1 : Int) (Q : Int → Prop) (H : slices_Index_int_int sx vx1 Q) (w : World) {vx : Value} {hx : PH} (r : RS hx vx sx) (ex : Sub hx w) :
  CallsTo Try.prog 110 #[vx, I vx1] w fun v w' => ∃ r0, Q r0 ∧ v = I r0 ∧ Ext w w' := by
 obtain ⟨a, c, rfl⟩ := r.shape
 refine enter (args := [sl a sx c, I vx1]) 19 Try.func110 rfl rfl rfl ?_
 refine W_forget [(0, sl a sx c), (1, I vx1)] ⟨rfl, rfl, trivial⟩ fun ρ => ?_
 have X := But.refl emp w
 refine W_seq ?_
 refine W_region ?_
 refine LP_ev ok 0 [(4, I 0)] 1 rfl rfl ?_
 refine LP_end _ rfl ?_
 refine W_seq ?_
 refine W_seq ?_
 refine W_region ?_
 refine LP_ev ok 0 [(6, sl a sx c), (7, I (ln sx)), (8, I 0)] 3 rfl rfl ?_
 refine LP_end _ rfl ?_
 refine W_block ?_
 obtain ⟨J, m, Hx, H⟩ := H
 refine W_loop (S := Int) (fun s ρ' w' => J s ∧ ∃ (ρ : Env), ρ' = setAll [(0, sl a sx c), (1, I vx1), (7, I (ln sx)), (8, I s)] ρ ∧ w = w') (fun s => m s) 0 ⟨Hx, _, env_eq ⟨rfl, rfl, rfl, rfl, trivial⟩, rfl⟩ ?_
 rintro x _ _ ⟨Hi, ρ, rfl, rfl⟩
 have H := H x Hi
 refine W_seq ?_
 refine W_region ?_
 refine LP_ev ok 0 [(9, .bool (decide (x < (ln sx))))] 1 rfl rfl ?_
 refine LP_end _ rfl ?_
 refine W_seq ?_
 refine W_cond (decide (x < (ln sx))) rfl (fun hc => ?_) (fun hc => ?_)
 ·have H := H.1 hc
  refine W_skip ?_
  refine W_seq ?_
  refine W_block ?_
  refine W_seq ?_
  refine W_region ?_
  refine LP_ev ok 0 [(10, I x), (5, I x)] 2 rfl rfl ?_
  refine LP_end _ rfl ?_
  refine W_seq ?_
  refine W_region ?_
  refine LP_ev ok 0 [(11, I vx1), (12, sl a sx c), (13, I x)] 3 rfl rfl ?_
  obtain ⟨x2, hi, hx3, H⟩ := H
  refine LP_index 3 rfl rfl rfl Try.underlying22 ti_3 rfl rfl r hi hx3 fun a4 cs r5 d => ?_
  refine LP_load 4 rfl rfl rfl ti_3 ag_3 rfl r5 d ex fun vx6 r7 => ?_
  obtain rfl := r7.int
  refine LP_ev ok 5 [(16, .bool (vx1 == x2))] 6 rfl rfl ?_
  refine LP_end _ rfl ?_
  refine W_cond (vx1 == x2) rfl (fun hc8 => ?_) (fun hc8 => ?_)
  ·have H := H.1 hc8
   refine W_seq ?_
   refine W_region ?_
   refine LP_ev ok 0 [(17, I x), (4, I x)] 2 rfl rfl ?_
   refine LP_end _ rfl ?_
   refine W_ret ?_
   exact ⟨_, Ret_of [I x] ⟨⟨rfl, rfl⟩, trivial⟩, _, H, rfl, X.ext⟩
  have H := H.2 hc8
  refine W_skip ?_
  refine W_region ?_
  refine LP_ev ok 0 [(18, I (wr (x + 1))), (8, I (wr (x + 1)))] 2 rfl rfl ?_
  refine LP_end _ rfl ?_
  exact ⟨wr (x + 1), ⟨H.1, _, env_eq ⟨rfl, rfl, rfl, rfl, trivial⟩, rfl⟩, H.2⟩
 have H := H.2 hc
 refine W_exit ?_
 refine (if_pos rfl).mpr ?_
 refine W_seq ?_
 refine W_region ?_
 refine LP_ev ok 0 [(4, I ((-1)))] 1 rfl rfl ?_
 refine LP_end _ rfl ?_
 refine W_ret ?_
 exact ⟨_, Ret_of [I ((-1))] ⟨⟨rfl, rfl⟩, trivial⟩, _, H, rfl, X.ext⟩

theorem slices_Contains_int_int_w (sx : List Int) (vx1 : Int) (Q : Bool → Prop) (H : slices_Contains_int_int sx vx1 Q) (w : World) {vx : Value} {hx : PH} (r : RS hx vx sx) (ex : Sub hx w) :
  CallsTo Try.prog 107 #[vx, I vx1] w fun v w' => ∃ r0, Q r0 ∧ v = .bool r0 ∧ Ext w w' := by
 obtain ⟨a, c, rfl⟩ := r.shape
 refine enter (args := [sl a sx c, I vx1]) 9 Try.func107 rfl rfl rfl ?_
 refine W_forget [(0, sl a sx c), (1, I vx1)] ⟨rfl, rfl, trivial⟩ fun ρ => ?_
 have X := But.refl emp w
 refine W_seq ?_
 refine W_region ?_
 refine LP_ev ok 0 [(4, .bool false)] 1 rfl rfl ?_
 refine LP_end _ rfl ?_
 refine W_seq ?_
 refine W_region ?_
 refine LP_ev ok 0 [(5, sl a sx c), (6, I vx1)] 2 rfl rfl ?_
 refine LP_call 2 rfl rfl rfl cal_110 rfl (slices_Index_int_int_w _ _ _ H w r ex) ?_
 rintro _ wx ⟨r2, H, rfl, x⟩
 refine LP_ev ok 3 [(8, .bool (decide (r2 ≥ 0))), (4, .bool (decide (r2 ≥ 0)))] 5 rfl rfl ?_
 refine LP_end _ rfl ?_
 refine W_ret ?_
 have X3 := (X.stepx x)
 exact ⟨_, Ret_of [.bool (decide (r2 ≥ 0))] ⟨⟨rfl, rfl⟩, trivial⟩, _, H, rfl, X3.ext⟩

theorem impl_isLeaf_w (g : Geo) (i : Int) (Q : Bool → Prop) (H : impl_isLeaf g i Q) (w : World) {vx : Value} {hx : PH} (r : RS hx vx g.Parents) (ex : Sub hx w) :
  CallsTo Try.prog 103 #[.agg #[vx], I i] w fun v w' => ∃ r0, Q r0 ∧ v = .bool r0 ∧ Ext w w' := by
 obtain ⟨a, c, rfl⟩ := r.shape
 refine enter (args := [.agg #[sl a g.Parents c], I i]) 10 Try.func103 rfl rfl rfl ?_
 refine W_forget [(0, .agg #[sl a g.Parents c]), (1, I i)] ⟨rfl, rfl, trivial⟩ fun ρ => ?_
 have X := But.refl emp w
 refine W_seq ?_
 refine W_region ?_
 refine LP_box 0 (cs := [sl a g.Parents c]) rfl rfl rfl rfl rfl fun b wx x ex1 f => ?_
 refine LP_ev ok 1 [(4, .bool false)] 2 rfl rfl ?_
 refine LP_end _ rfl ?_
 refine W_seq ?_
 refine W_region ?_
 refine LP_ev ok 0 [(5, pb b)] 1 rfl rfl ?_
 refine LP_ldbox 1 (v := sl a g.Parents c) rfl rfl rfl ti_22 ag_22 (fun _ => rfl) rfl ex1 rfl rfl ?_
 refine LP_ev ok 2 [(7, I i)] 3 rfl rfl ?_
 have ex3 := (ex.ext x)
 refine LP_call 3 rfl rfl rfl cal_107 rfl (slices_Contains_int_int_w _ _ _ H wx r ex3) ?_
 rintro _ wx4 ⟨r2, H, rfl, x5⟩
 refine LP_ev ok 4 [(9, .bool (!r2)), (4, .bool (!r2))] 6 rfl rfl ?_
 refine LP_end _ rfl ?_
 refine W_ret ?_
 have X6 := ((X.stepx x).stepx x5)
 exact ⟨_, Ret_of [.bool (!r2)] ⟨⟨rfl, rfl⟩, trivial⟩, _, H, rfl, X6.ext⟩

theorem impl_leavesOf_w (g : Geo) (Q : (List Int) → Prop) (H : impl_leavesOf g Q) (w : World) {vx : Value} {hx : PH} (r : RS hx vx g.Parents) (ex : Sub hx w) :
  CallsTo Try.prog 85 #[.agg #[vx]] w fun v w' => ∃ r0 u0 g0, Q r0 ∧ v = u0 ∧ Ext w w' ∧ OS 3 g0 emp u0 r0 ∧ Sub g0 w' ∧ Fresh w.heap.size g0 := by
 obtain ⟨a, c, rfl⟩ := r.shape
 refine enter (args := [.agg #[sl a g.Parents c]]) 20 Try.func85 rfl rfl rfl ?_
 refine W_forget [(0, .agg #[sl a g.Parents c])] ⟨rfl, trivial⟩ fun ρ => ?_
 have X := But.refl emp w
 refine W_seq ?_
 refine W_region ?_
 refine LP_box 0 (cs := [sl a g.Parents c]) rfl rfl rfl rfl rfl fun b wx x ex1 f => ?_
 refine LP_ev ok 1 [(2, .slice none 0 0)] 2 rfl rfl ?_
 refine LP_end _ rfl ?_
 refine W_seq ?_
 refine W_region ?_
 refine LP_ev ok 0 [(3, .slice none 0 0)] 1 rfl rfl ?_
 refine LP_end _ rfl ?_
 refine W_seq ?_
 refine W_seq ?_
 refine W_region ?_
 refine LP_ev ok 0 [(5, pb b)] 1 rfl rfl ?_
 refine LP_ldbox 1 (v := sl a g.Parents c) rfl rfl rfl ti_22 ag_22 (fun _ => rfl) rfl ex1 rfl rfl ?_
 refine LP_ev ok 2 [(7, I (ln g.Parents)), (8, I 0)] 4 rfl rfl ?_
 refine LP_end _ rfl ?_
 refine W_block ?_
 have X14 := (X.stepx x)
 have ex15 := (ex.ext x)
 obtain ⟨J, m, Hx, H⟩ := H
 refine W_loop (S := (List Int) × Int) (fun s ρ' w' => J s.1 s.2 ∧ ∃ (ρ : Env) (vx2 : Value) (hx3 : PH), ρ' = setAll [(1, pb b), (3, vx2), (7, I (ln g.Parents)), (8, I s.2)] ρ ∧ But emp w w' ∧ OS 3 hx3 emp vx2 s.1 ∧ Sub hx3 w' ∧ Fresh w.heap.size hx3 ∧ Sub hx w' ∧ Sub (bx b 32 [sl a g.Parents c]) w' ∧ Dj hx3 hx ∧ Dj hx3 (bx b 32 [sl a g.Parents c])) (fun s => m s.1 s.2) ([], 0) ⟨Hx, _, .slice none 0 0, emp, env_eq ⟨rfl, rfl, rfl, rfl, trivial⟩, X14, OS.nil, (emp_sub _), (emp_fresh _), ex15, ex1, (fun _ => .inl rfl), (fun _ => .inl rfl)⟩ ?_
 rintro ⟨list, x6⟩ _ wx7 ⟨Hi, ρ, vx2, hx3, rfl, HF⟩
 revert HF
 refine bb8 fun X13 o ex4 f5 ex8 ex9 d d12 => ?_
 have H := H list x6 Hi
 obtain ⟨a10, c11, rfl⟩ := o.shape
 refine W_seq ?_
 refine W_region ?_
 refine LP_ev ok 0 [(9, .bool (decide (x6 < (ln g.Parents))))] 1 rfl rfl ?_
 refine LP_end _ rfl ?_
 refine W_seq ?_
 refine W_cond (decide (x6 < (ln g.Parents))) rfl (fun hc => ?_) (fun hc => ?_)
 ·have H := H.1 hc
  refine W_skip ?_
  obtain ⟨k, hk, H⟩ := jn_elim H
  refine W_join2 (S := (List Int)) (fun s ρ' w' => k s ∧ ∃ (ρ : Env) (vx17 : Value) (hx18 : PH), ρ' = setAll [(1, pb b), (3, vx17), (7, I (ln g.Parents)), (8, I x6)] ρ ∧ But emp w w' ∧ OS 3 hx18 emp vx17 s ∧ Sub hx18 w' ∧ Fresh w.heap.size hx18 ∧ Sub hx w' ∧ Sub (bx b 32 [sl a g.Parents c]) w' ∧ Dj hx18 hx ∧ Dj hx18 (bx b 32 [sl a g.Parents c])) ?_ ?_
  ·refine W_block ?_
   refine W_seq ?_
   refine W_region ?_
   refine LP_ev ok 0 [(10, I x6), (4, I x6)] 2 rfl rfl ?_
   refine LP_end _ rfl ?_
   refine W_seq ?_
   refine W_region ?_
   refine LP_ldbox 0 (v := .agg #[sl a g.Parents c]) rfl rfl rfl ti_32 ag_32 (fun h => by cases h) rfl ex9 rfl rfl ?_
   refine LP_ev ok 1 [(12, I x6)] 2 rfl rfl ?_
   refine LP_call 2 rfl rfl rfl cal_103 rfl (impl_isLeaf_w _ _ _ H wx7 r ex8) ?_
   rintro _ wx31 ⟨r30, H, rfl, x32⟩
   refine LP_end _ rfl ?_
   refine W_cond (r30) rfl (fun hc33 => ?_) (fun hc33 => ?_)
   ·have H := H.1 hc33
    refine W_region ?_
    refine LP_ev ok 0 [(14, sl a10 list c11), (15, I x6)] 2 rfl rfl ?_
    refine LP_lit (α := Int) (g := emp) 2 (vs := [I x6]) (xs := [x6]) rfl rfl rfl Try.underlying22 ti_3 rfl rfl ⟨⟨_, rfl, rfl⟩, trivial⟩ rfl rfl fun hx34 vx35 wx36 x37 o38 ex39 f40 => ?_
    obtain ⟨a41, c42, rfl⟩ := o38.shape
    have ex43 := ((ex4.ext x32).ext x37)
    obtain ⟨hb, H⟩ := H
    refine LP_appendf (α := Int) 3 rfl rfl rfl Try.underlying22 ti_3 rfl rfl rfl o ex43 o38.readf ex39 (by first | omega | (simp only [ln] at *; omega)) (by first | omega | (simp only [ln] at *; omega)) fun hx44 vx45 wx46 o47 ex48 y dm => ?_
    obtain ⟨a49, c50, rfl⟩ := o47.shape
    refine LP_ev ok 4 [(3, .slice a49 (List.length (list ++ ([x6]))) c50)] 5 rfl rfl ?_
    refine LP_end _ rfl ?_
    have X51 := (((X13.stepx x32).stepx x37).step y (f5.dom _))
    have X53 := ((X13.stepx x32).stepx x37)
    have f52 := dm.fresh f5 X53.size
    have ex54 := (((ex8.ext x32).ext x37).but y d)
    have ex55 := (((ex9.ext x32).ext x37).but y d12)
    have ex56 := ((ex8.ext x32).ext x37)
    have ex57 := ((ex9.ext x32).ext x37)
    exact ⟨list ++ ([x6]), H, _, .slice a49 (List.length (list ++ ([x6]))) c50, hx44, env_eq ⟨rfl, rfl, rfl, rfl, trivial⟩, X51, o47, ex48, f52, ex54, ex55, (DomLe.dj dm d ex56), (DomLe.dj dm d12 ex57)⟩
   have H := H.2 hc33
   refine W_skip ?_
   have X58 := (X13.stepx x32)
   have ex59 := (ex4.ext x32)
   have ex60 := (ex8.ext x32)
   have ex61 := (ex9.ext x32)
   exact ⟨list, H, _, sl a10 list c11, hx3, env_eq ⟨rfl, rfl, rfl, rfl, trivial⟩, X58, o, ex59, f5, ex60, ex61, d, d12⟩
  rintro list16 _ wx22 ⟨H, ρ, vx17, hx18, rfl, HF⟩
  revert HF
  refine bb8 fun X29 o19 ex20 f21 ex23 ex24 d27 d28 => ?_
  subst hk
  obtain ⟨a25, c26, rfl⟩ := o19.shape
  refine W_region ?_
  refine LP_ev ok 0 [(18, I (wr (x6 + 1))), (8, I (wr (x6 + 1)))] 2 rfl rfl ?_
  refine LP_end _ rfl ?_
  exact ⟨(list16, wr (x6 + 1)), ⟨H.1, _, sl a25 list16 c26, hx18, env_eq ⟨rfl, rfl, rfl, rfl, trivial⟩, X29, o19, ex20, f21, ex23, ex24, d27, d28⟩, H.2⟩
 have H := H.2 hc
 refine W_exit ?_
 refine (if_pos rfl).mpr ?_
 refine W_seq ?_
 refine W_region ?_
 refine LP_ev ok 0 [(19, sl a10 list c11), (2, sl a10 list c11)] 2 rfl rfl ?_
 refine LP_end _ rfl ?_
 refine W_ret ?_
 exact ⟨_, Ret_of [sl a10 list c11] ⟨⟨rfl, rfl⟩, trivial⟩, _, _, _, H, rfl, X13.ext, o, ex4, f5⟩

theorem impl_combinations_w (sx : List Variable) (Q : Int → Prop) (H : impl_combinations sx Q) (w : World) {vx : Value} {hx : PH} (r : RS hx vx sx) (ex : Sub hx w) :
  CallsTo Try.prog 83 #[vx] w fun v w' => ∃ r0, Q r0 ∧ v = I r0 ∧ Ext w w' := by
 obtain ⟨a, c, rfl⟩ := r.shape
 refine enter (args := [sl a sx c]) 18 Try.func83 rfl rfl rfl ?_
 refine W_forget [(0, sl a sx c)] ⟨rfl, trivial⟩ fun ρ => ?_
 have X := But.refl emp w
 refine W_seq ?_
 refine W_region ?_
 refine LP_ev ok 0 [(2, I 0)] 1 rfl rfl ?_
 refine LP_end _ rfl ?_
 refine W_seq ?_
 refine W_region ?_
 refine LP_ev ok 0 [(3, I 1)] 1 rfl rfl ?_
 refine LP_end _ rfl ?_
 refine W_seq ?_
 refine W_seq ?_
 refine W_region ?_
 refine LP_ev ok 0 [(6, sl a sx c), (7, I (ln sx)), (8, I 0)] 3 rfl rfl ?_
 refine LP_end _ rfl ?_
 refine W_block ?_
 obtain ⟨J, m, Hx, H⟩ := H
 refine W_loop (S := Int × Int) (fun s ρ' w' => J s.1 s.2 ∧ ∃ (ρ : Env), ρ' = setAll [(3, I s.1), (6, sl a sx c), (7, I (ln sx)), (8, I s.2)] ρ ∧ But emp w w' ∧ Sub hx w') (fun s => m s.1 s.2) (1, 0) ⟨Hx, _, env_eq ⟨rfl, rfl, rfl, rfl, trivial⟩, X, ex⟩ ?_
 rintro ⟨n, x⟩ _ wx ⟨Hi, ρ, rfl, X2, ex1⟩
 have H := H n x Hi
 refine W_seq ?_
 refine W_region ?_
 refine LP_ev ok 0 [(9, .bool (decide (x < (ln sx))))] 1 rfl rfl ?_
 refine LP_end _ rfl ?_
 refine W_seq ?_
 refine W_cond (decide (x < (ln sx))) rfl (fun hc => ?_) (fun hc => ?_)
 ·have H := H.1 hc
  refine W_skip ?_
  refine W_seq ?_
  refine W_block ?_
  refine W_seq ?_
  refine W_region ?_
  obtain ⟨x3, hi, hx4, H⟩ := H
  refine LP_index 0 rfl rfl rfl Try.underlying34 ti_66 rfl rfl r hi hx4 fun a5 cs r6 d => ?_
  refine LP_load 1 rfl rfl rfl ti_66 ag_66 rfl r6 d ex1 fun vx7 r8 => ?_
  obtain rfl := Variable_rv r8
  refine LP_alloc 2 rfl rfl rfl ti_66 rfl fun b wx9 x10 ex11 f => ?_
  refine LP_stbox 3 (vs := [.string x3.Name, I x3.Levels]) (cs' := [.string x3.Name, I x3.Levels]) rfl rfl rfl ti_66 rfl rfl rfl rfl rfl ex11 rfl rfl fun wx12 ex13 y => ?_
  refine LP_end _ rfl ?_
  refine W_region ?_
  refine LP_ev ok 0 [(12, I n), (13, .pointer (some ⟨b, 1, none⟩))] 2 rfl rfl ?_
  refine LP_ldbox 2 (v := I x3.Levels) rfl rfl rfl ti_3 ag_3 (fun _ => rfl) rfl ex13 rfl rfl ?_
  refine LP_ev ok 3 [(15, I (wr (n * x3.Levels))), (3, I (wr (n * x3.Levels)))] 5 rfl rfl ?_
  refine LP_end _ rfl ?_
  refine W_region ?_
  refine LP_ev ok 0 [(16, I (wr (x + 1))), (8, I (wr (x + 1)))] 2 rfl rfl ?_
  refine LP_end _ rfl ?_
  have f14 := f.mono X2.size
  have X15 := ((X2.stepx x10).step y (f14.dom _))
  have ex16 := ((ex1.ext x10).but y (Dj.of_fresh ex1 f).symm)
  exact ⟨(wr (n * x3.Levels), wr (x + 1)), ⟨H.1, _, env_eq ⟨rfl, rfl, rfl, rfl, trivial⟩, X15, ex16⟩, H.2⟩
 have H := H.2 hc
 refine W_exit ?_
 refine (if_pos rfl).mpr ?_
 refine W_seq ?_
 refine W_region ?_
 refine LP_ev ok 0 [(17, I n), (2, I n)] 2 rfl rfl ?_
 refine LP_end _ rfl ?_
 refine W_ret ?_
 exact ⟨_, Ret_of [I n] ⟨⟨rfl, rfl⟩, trivial⟩, _, H, rfl, X2.ext⟩

theorem impl_typeCount_w (g : Geo) (sx : List Variable) (Q : Int → Prop) (H : impl_typeCount g sx Q) (w : World) {vx : Value} {hx : PH} (r : RS hx vx g.Parents) (ex : Sub hx w) {vx1 : Value} {hx2 : PH} (r3 : RS hx2 vx1 sx) (ex4 : Sub hx2 w) :
  CallsTo Try.prog 52 #[.agg #[vx], vx1] w fun v w' => ∃ r0, Q r0 ∧ v = I r0 ∧ Ext w w' := by
 obtain ⟨a, c, rfl⟩ := r.shape
 obtain ⟨a5, c6, rfl⟩ := r3.shape
 refine enter (args := [.agg #[sl a g.Parents c], sl a5 sx c6]) 11 Try.func52 rfl rfl rfl ?_
 refine W_forget [(0, .agg #[sl a g.Parents c]), (1, sl a5 sx c6)] ⟨rfl, rfl, trivial⟩ fun ρ => ?_
 have X := But.refl emp w
 refine W_seq ?_
 refine W_region ?_
 refine LP_box 0 (cs := [sl a g.Parents c]) rfl rfl rfl rfl rfl fun b wx x ex7 f => ?_
 refine LP_ev ok 1 [(4, I 0)] 2 rfl rfl ?_
 refine LP_end _ rfl ?_
 refine W_seq ?_
 refine W_region ?_
 refine LP_ldbox 0 (v := .agg #[sl a g.Parents c]) rfl rfl rfl ti_32 ag_32 (fun h => by cases h) rfl ex7 rfl rfl ?_
 have ex9 := (ex.ext x)
 refine LP_call 1 rfl rfl rfl cal_85 rfl (impl_leavesOf_w _ _ H wx r ex9) ?_
 rintro _ wx10 ⟨r8, vx12, hx13, H, rfl, x11, o, ex14, f15⟩
 obtain ⟨a16, c17, rfl⟩ := o.shape
 refine LP_ev ok 2 [(7, I (ln r8)), (8, sl a5 sx c6)] 4 rfl rfl ?_
 have ex19 := ((ex4.ext x).ext x11)
 refine LP_call 4 rfl rfl rfl cal_83 rfl (impl_combinations_w _ _ H wx10 r3 ex19) ?_
 rintro _ wx20 ⟨r18, H, rfl, x21⟩
 refine LP_ev ok 5 [(10, I (wr ((ln r8) * r18))), (4, I (wr ((ln r8) * r18)))] 7 rfl rfl ?_
 refine LP_end _ rfl ?_
 refine W_ret ?_
 have X22 := (((X.stepx x).stepx x11).stepx x21)
 exact ⟨_, Ret_of [I (wr ((ln r8) * r18))] ⟨⟨rfl, rfl⟩, trivial⟩, _, H, rfl, X22.ext⟩

theorem impl_areTyped_w (g : Geo) (sx : List Variable) (Q : Bool → Prop) (H : impl_areTyped g sx Q) (w : World) {vx : Value} {hx : PH} (r : RS hx vx g.Parents) (ex : Sub hx w) {vx1 : Value} {hx2 : PH} (r3 : RS hx2 vx1 sx) (ex4 : Sub hx2 w) :
  CallsTo Try.prog 61 #[.agg #[vx], vx1] w fun v w' => ∃ r0, Q r0 ∧ v = .bool r0 ∧ Ext w w' := by
 obtain ⟨a, c, rfl⟩ := r.shape
 obtain ⟨a5, c6, rfl⟩ := r3.shape
 refine enter (args := [.agg #[sl a g.Parents c], sl a5 sx c6]) 17 Try.func61 rfl rfl rfl ?_
 refine W_forget [(0, .agg #[sl a g.Parents c]), (1, sl a5 sx c6)] ⟨rfl, rfl, trivial⟩ fun ρ => ?_
 have X := But.refl emp w
 refine W_seq ?_
 refine W_region ?_
 refine LP_box 0 (cs := [sl a g.Parents c]) rfl rfl rfl rfl rfl fun b wx x ex7 f => ?_
 refine LP_ev ok 1 [(4, .bool false)] 2 rfl rfl ?_
 refine LP_end _ rfl ?_
 obtain ⟨k, hk, H⟩ := jn_elim H
 refine W_join2 (S := Bool) (fun s ρ' w' => k s ∧ ∃ (ρ : Env), ρ' = setAll [(4, .bool s)] ρ ∧ But emp w w') ?_ ?_
 ·refine W_region ?_
  refine LP_ldbox 0 (v := .agg #[sl a g.Parents c]) rfl rfl rfl ti_32 ag_32 (fun h => by cases h) rfl ex7 rfl rfl ?_
  have ex12 := (ex.ext x)
  refine LP_call 1 rfl rfl rfl cal_93 rfl (impl_IsGeo_w _ _ H wx r ex12) ?_
  rintro _ wx13 ⟨r11, H, rfl, x14⟩
  refine LP_ev ok 2 [(7, .bool r11)] 3 rfl rfl ?_
  refine LP_split 7 (r11) rfl (fun hc => ?_) (fun hc => ?_)
  ·have H := H.1 hc
   refine LP_ev ok 3 [(8, sl a5 sx c6)] 4 rfl rfl ?_
   have ex16 := ((ex4.ext x).ext x14)
   refine LP_call 4 rfl rfl rfl cal_94 rfl (impl_IsSchema_w _ _ H wx13 r3 ex16) ?_
   rintro _ wx17 ⟨r15, H, rfl, x18⟩
   refine LP_ev ok 5 [(10, .bool r15), (11, .bool r15)] 7 rfl rfl ?_
   refine LP_split 11 (r15) rfl (fun hc19 => ?_) (fun hc19 => ?_)
   ·have H := H.1 hc19
    have ex20 := ((ex7.ext x14).ext x18)
    refine LP_ldbox 7 (v := .agg #[sl a g.Parents c]) rfl rfl rfl ti_32 ag_32 (fun h => by cases h) rfl ex20 rfl rfl ?_
    refine LP_ev ok 8 [(13, sl a5 sx c6)] 9 rfl rfl ?_
    have ex22 := ((ex12.ext x14).ext x18)
    have ex23 := (ex16.ext x18)
    refine LP_call 9 rfl rfl rfl cal_52 rfl (impl_typeCount_w _ _ _ H wx17 r ex22 r3 ex23) ?_
    rintro _ wx24 ⟨r21, H, rfl, x25⟩
    refine LP_ev ok 10 [(15, .bool (decide (r21 ≤ 12))), (16, .bool (decide (r21 ≤ 12))), (4, .bool (decide (r21 ≤ 12)))] 13 rfl rfl ?_
    refine LP_end _ rfl ?_
    have X26 := ((((X.stepx x).stepx x14).stepx x18).stepx x25)
    exact ⟨decide (r21 ≤ 12), H, _, env_eq ⟨rfl, trivial⟩, X26⟩
   have H := H.2 hc19
   refine LP_ev ok 7 [(12, undef), (13, undef), (14, undef), (15, undef), (16, .bool false), (4, .bool false)] 13 rfl rfl ?_
   refine LP_end _ rfl ?_
   have X27 := (((X.stepx x).stepx x14).stepx x18)
   exact ⟨false, H, _, env_eq ⟨rfl, trivial⟩, X27⟩
  have H := H.2 hc
  refine LP_ev ok 3 [(8, undef), (9, undef), (10, .bool false), (11, .bool false), (12, undef), (13, undef), (14, undef), (15, undef), (16, .bool false), (4, .bool false)] 13 rfl rfl ?_
  refine LP_end _ rfl ?_
  have X28 := ((X.stepx x).stepx x14)
  exact ⟨false, H, _, env_eq ⟨rfl, trivial⟩, X28⟩
 rintro x8 _ wx9 ⟨H, ρ, rfl, X10⟩
 subst hk
 refine W_ret ?_
 exact ⟨_, Ret_of [.bool x8] ⟨⟨rfl, rfl⟩, trivial⟩, _, H, rfl, X10.ext⟩

theorem impl_areVars_w (sx : List Variable) (vars : List Int) (Q : Bool → Prop) (H : impl_areVars sx vars Q) (w : World) {vx : Value} {hx : PH} (r : RS hx vx sx) (ex : Sub hx w) {vx1 : Value} {hx2 : PH} (r3 : RS hx2 vx1 vars) (ex4 : Sub hx2 w) :
  CallsTo Try.prog 80 #[vx, vx1] w fun v w' => ∃ r0, Q r0 ∧ v = .bool r0 ∧ Ext w w' := by
 obtain ⟨a, c, rfl⟩ := r.shape
 obtain ⟨a5, c6, rfl⟩ := r3.shape
 refine enter (args := [sl a sx c, sl a5 vars c6]) 25 Try.func80 rfl rfl rfl ?_
 refine W_forget [(0, sl a sx c), (1, sl a5 vars c6)] ⟨rfl, rfl, trivial⟩ fun ρ => ?_
 have X := But.refl emp w
 refine W_seq ?_
 refine W_region ?_
 refine LP_ev ok 0 [(4, .bool false)] 1 rfl rfl ?_
 refine LP_end _ rfl ?_
 refine W_seq ?_
 refine W_region ?_
 refine LP_ev ok 0 [(5, I ((-1)))] 1 rfl rfl ?_
 refine LP_end _ rfl ?_
 refine W_seq ?_
 refine W_seq ?_
 refine W_region ?_
 refine LP_ev ok 0 [(8, sl a5 vars c6), (9, I (ln vars)), (10, I 0)] 3 rfl rfl ?_
 refine LP_end _ rfl ?_
 refine W_block ?_
 obtain ⟨J, m, Hx, H⟩ := H
 refine W_loop (S := Int × Int) (fun s ρ' w' => J s.1 s.2 ∧ ∃ (ρ : Env), ρ' = setAll [(0, sl a sx c), (5, I s.1), (8, sl a5 vars c6), (9, I (ln vars)), (10, I s.2)] ρ ∧ w = w') (fun s => m s.1 s.2) ((-1), 0) ⟨Hx, _, env_eq ⟨rfl, rfl, rfl, rfl, rfl, trivial⟩, rfl⟩ ?_
 rintro ⟨last, x⟩ _ _ ⟨Hi, ρ, rfl, rfl⟩
 have H := H last x Hi
 refine W_seq ?_
 refine W_region ?_
 refine LP_ev ok 0 [(11, .bool (decide (x < (ln vars))))] 1 rfl rfl ?_
 refine LP_end _ rfl ?_
 refine W_seq ?_
 refine W_cond (decide (x < (ln vars))) rfl (fun hc => ?_) (fun hc => ?_)
 ·have H := H.1 hc
  refine W_skip ?_
  refine W_seq ?_
  refine W_block ?_
  refine W_seq ?_
  refine W_region ?_
  obtain ⟨x7, hi, hx8, H⟩ := H
  refine LP_index 0 rfl rfl rfl Try.underlying22 ti_3 rfl rfl r3 hi hx8 fun a9 cs r10 d => ?_
  refine LP_load 1 rfl rfl rfl ti_3 ag_3 rfl r10 d ex4 fun vx11 r12 => ?_
  obtain rfl := r12.int
  refine LP_ev ok 2 [(7, I x7)] 3 rfl rfl ?_
  refine LP_end _ rfl ?_
  refine W_seq ?_
  obtain ⟨k, hk, H⟩ := jn_elim H
  refine W_join2 (S := Bool) (fun s ρ' w' => k s ∧ ∃ (ρ : Env), ρ' = setAll [(0, sl a sx c), (7, I x7), (8, sl a5 vars c6), (9, I (ln vars)), (10, I x), (22, .bool s)] ρ ∧ w = w') ?_ ?_
  ·refine W_region ?_
   refine LP_ev ok 0 [(14, I x7), (15, I last), (16, .bool (decide (x7 ≤ last))), (17, .bool (decide (x7 ≤ last)))] 4 rfl rfl ?_
   refine LP_split 17 (decide (x7 ≤ last)) rfl (fun hc15 => ?_) (fun hc15 => ?_)
   ·have H := H.1 hc15
    refine LP_ev ok 4 [(18, undef), (19, undef), (20, undef), (21, undef), (22, .bool true)] 9 rfl rfl ?_
    refine LP_end _ rfl ?_
    exact ⟨true, H, _, env_eq ⟨rfl, rfl, rfl, rfl, rfl, rfl, trivial⟩, rfl⟩
   have H := H.2 hc15
   refine LP_ev ok 4 [(18, I x7), (19, sl a sx c), (20, I (ln sx)), (21, .bool (decide (x7 ≥ (ln sx)))), (22, .bool (decide (x7 ≥ (ln sx))))] 9 rfl rfl ?_
   refine LP_end _ rfl ?_
   exact ⟨decide (x7 ≥ (ln sx)), H, _, env_eq ⟨rfl, rfl, rfl, rfl, rfl, rfl, trivial⟩, rfl⟩
  rintro x13 _ _ ⟨H, ρ, rfl, rfl⟩
  subst hk
  refine W_cond (x13) rfl (fun hc16 => ?_) (fun hc16 => ?_)
  ·have H := H.1 hc16
   refine W_seq ?_
   refine W_region ?_
   refine LP_ev ok 0 [(4, .bool false)] 1 rfl rfl ?_
   refine LP_end _ rfl ?_
   refine W_ret ?_
   exact ⟨_, Ret_of [.bool false] ⟨⟨rfl, rfl⟩, trivial⟩, _, H, rfl, X.ext⟩
  have H := H.2 hc16
  refine W_skip ?_
  refine W_region ?_
  refine LP_ev ok 0 [(23, I x7), (5, I x7)] 2 rfl rfl ?_
  refine LP_end _ rfl ?_
  refine W_region ?_
  refine LP_ev ok 0 [(24, I (wr (x + 1))), (10, I (wr (x + 1)))] 2 rfl rfl ?_
  refine LP_end _ rfl ?_
  exact ⟨(x7, wr (x + 1)), ⟨H.1, _, env_eq ⟨rfl, rfl, rfl, rfl, rfl, trivial⟩, rfl⟩, H.2⟩
 have H := H.2 hc
 refine W_exit ?_
 refine (if_pos rfl).mpr ?_
 refine W_seq ?_
 refine W_region ?_
 refine LP_ev ok 0 [(4, .bool true)] 1 rfl rfl ?_
 refine LP_end _ rfl ?_
 refine W_ret ?_
 exact ⟨_, Ret_of [.bool true] ⟨⟨rfl, rfl⟩, trivial⟩, _, H, rfl, X.ext⟩

theorem impl_fullSet_w (vx : Variable) (Q : Int → Prop) (H : impl_fullSet vx Q) (w : World)  :
  CallsTo Try.prog 101 #[.agg #[.string vx.Name, I vx.Levels]] w fun v w' => ∃ r0, Q r0 ∧ v = I r0 ∧ Ext w w' := by
 refine enter (args := [.agg #[.string vx.Name, I vx.Levels]]) 7 Try.func101 rfl rfl rfl ?_
 refine W_forget [(0, .agg #[.string vx.Name, I vx.Levels])] ⟨rfl, trivial⟩ fun ρ => ?_
 have X := But.refl emp w
 refine W_seq ?_
 refine W_region ?_
 refine LP_box 0 (cs := [.string vx.Name, I vx.Levels]) rfl rfl rfl rfl rfl fun b wx x ex f => ?_
 refine LP_ev ok 1 [(2, I 0)] 2 rfl rfl ?_
 refine LP_end _ rfl ?_
 refine W_seq ?_
 refine W_region ?_
 refine LP_ev ok 0 [(3, .pointer (some ⟨b, 1, none⟩))] 1 rfl rfl ?_
 refine LP_ldbox 1 (v := I vx.Levels) rfl rfl rfl ti_3 ag_3 (fun _ => rfl) rfl ex rfl rfl ?_
 obtain ⟨hz, H⟩ := H
 refine LP_val 2 _ rfl rfl (ex_shl rfl rfl rfl hz _) ?_
 refine LP_ev ok 3 [(6, I (wr ((shl .i64 1 vx.Levels) - 1))), (2, I (wr ((shl .i64 1 vx.Levels) - 1)))] 5 rfl rfl ?_
 refine LP_end _ rfl ?_
 refine W_ret ?_
 have X1 := (X.stepx x)
 exact ⟨_, Ret_of [I (wr ((shl .i64 1 vx.Levels) - 1))] ⟨⟨rfl, rfl⟩, trivial⟩, _, H, rfl, X1.ext⟩

theorem impl_isWhere_w (sx : List Variable) (wherex : List Int) (Q : Bool → Prop) (H : impl_isWhere sx wherex Q) (w : World) {vx : Value} {hx : PH} (r : RS hx vx sx) (ex : Sub hx w) {vx1 : Value} {hx2 : PH} (r3 : RS hx2 vx1 wherex) (ex4 : Sub hx2 w) :
  CallsTo Try.prog 81 #[vx, vx1] w fun v w' => ∃ r0, Q r0 ∧ v = .bool r0 ∧ Ext w w' := by
 obtain ⟨a, c, rfl⟩ := r.shape
 obtain ⟨a5, c6, rfl⟩ := r3.shape
 refine enter (args := [sl a sx c, sl a5 wherex c6]) 31 Try.func81 rfl rfl rfl ?_
 refine W_forget [(0, sl a sx c), (1, sl a5 wherex c6)] ⟨rfl, rfl, trivial⟩ fun ρ => ?_
 have X := But.refl emp w
 refine W_seq ?_
 refine W_region ?_
 refine LP_ev ok 0 [(4, .bool false)] 1 rfl rfl ?_
 refine LP_end _ rfl ?_
 refine W_seq ?_
 refine W_seq ?_
 refine W_region ?_
 refine LP_ev ok 0 [(7, sl a5 wherex c6), (8, I (ln wherex)), (9, sl a sx c), (10, I (ln sx)), (11, .bool ((ln wherex) != (ln sx)))] 5 rfl rfl ?_
 refine LP_end _ rfl ?_
 refine W_cond ((ln wherex) != (ln sx)) rfl (fun hc => ?_) (fun hc => ?_)
 ·have H := H.1 hc
  refine W_seq ?_
  refine W_region ?_
  refine LP_ev ok 0 [(4, .bool false)] 1 rfl rfl ?_
  refine LP_end _ rfl ?_
  refine W_ret ?_
  exact ⟨_, Ret_of [.bool false] ⟨⟨rfl, rfl⟩, trivial⟩, _, H, rfl, X.ext⟩
 have H := H.2 hc
 refine W_skip ?_
 refine W_seq ?_
 refine W_seq ?_
 refine W_region ?_
 refine LP_ev ok 0 [(12, sl a5 wherex c6), (13, I (ln wherex)), (14, I 0)] 3 rfl rfl ?_
 refine LP_end _ rfl ?_
 refine W_block ?_
 obtain ⟨J, m, Hx, H⟩ := H
 refine W_loop (S := Int) (fun s ρ' w' => J s ∧ ∃ (ρ : Env), ρ' = setAll [(0, sl a sx c), (12, sl a5 wherex c6), (13, I (ln wherex)), (14, I s)] ρ ∧ But emp w w' ∧ Sub hx w' ∧ Sub hx2 w') (fun s => m s) 0 ⟨Hx, _, env_eq ⟨rfl, rfl, rfl, rfl, trivial⟩, X, ex, ex4⟩ ?_
 rintro x _ wx ⟨Hi, ρ, rfl, X9, ex7, ex8⟩
 have H := H x Hi
 refine W_seq ?_
 refine W_region ?_
 refine LP_ev ok 0 [(15, .bool (decide (x < (ln wherex))))] 1 rfl rfl ?_
 refine LP_end _ rfl ?_
 refine W_seq ?_
 refine W_cond (decide (x < (ln wherex))) rfl (fun hc10 => ?_) (fun hc10 => ?_)
 ·have H := H.1 hc10
  refine W_skip ?_
  refine W_seq ?_
  refine W_block ?_
  refine W_seq ?_
  refine W_region ?_
  refine LP_ev ok 0 [(16, I x)] 1 rfl rfl ?_
  obtain ⟨x11, hi, hx12, H⟩ := H
  refine LP_index 1 rfl rfl rfl Try.underlying22 ti_3 rfl rfl r3 hi hx12 fun a13 cs r14 d => ?_
  refine LP_load 2 rfl rfl rfl ti_3 ag_3 rfl r14 d ex8 fun vx15 r16 => ?_
  obtain rfl := r16.int
  refine LP_ev ok 3 [(5, I x), (6, I x11)] 5 rfl rfl ?_
  refine LP_end _ rfl ?_
  obtain ⟨k, hk, H⟩ := jn_elim H
  refine W_join2 (S := Bool) (fun s ρ' w' => k s ∧ ∃ (ρ : Env), ρ' = setAll [(0, sl a sx c), (12, sl a5 wherex c6), (13, I (ln wherex)), (14, I x), (29, .bool s)] ρ ∧ But emp w w' ∧ Sub hx w' ∧ Sub hx2 w') ?_ ?_
  ·refine W_region ?_
   refine LP_ev ok 0 [(19, I x11), (20, .bool (decide (x11 < 0))), (21, .bool (decide (x11 < 0)))] 3 rfl rfl ?_
   refine LP_split 21 (decide (x11 < 0)) rfl (fun hc22 => ?_) (fun hc22 => ?_)
   ·have H := H.1 hc22
    refine LP_ev ok 3 [(22, undef), (23, undef), (24, undef), (25, undef), (26, undef), (27, undef), (28, undef), (29, .bool true)] 11 rfl rfl ?_
    refine LP_end _ rfl ?_
    exact ⟨true, H, _, env_eq ⟨rfl, rfl, rfl, rfl, rfl, trivial⟩, X9, ex7, ex8⟩
   have H := H.2 hc22
   refine LP_ev ok 3 [(22, I x11), (23, sl a sx c), (24, I x)] 6 rfl rfl ?_
   obtain ⟨x23, hi24, hx25, H⟩ := H
   refine LP_index 6 rfl rfl rfl Try.underlying34 ti_66 rfl rfl r hi24 hx25 fun a26 cs27 r28 d29 => ?_
   refine LP_load 7 rfl rfl rfl ti_66 ag_66 rfl r28 d29 ex7 fun vx30 r31 => ?_
   obtain rfl := Variable_rv r31
   refine LP_call 8 rfl rfl rfl cal_101 rfl (impl_fullSet_w _ _ H wx ) ?_
   rintro _ wx33 ⟨r32, H, rfl, x34⟩
   refine LP_ev ok 9 [(28, .bool (decide (x11 > r32))), (29, .bool (decide (x11 > r32)))] 11 rfl rfl ?_
   refine LP_end _ rfl ?_
   have X35 := (X9.stepx x34)
   have ex36 := (ex7.ext x34)
   have ex37 := (ex8.ext x34)
   exact ⟨decide (x11 > r32), H, _, env_eq ⟨rfl, rfl, rfl, rfl, rfl, trivial⟩, X35, ex36, ex37⟩
  rintro x17 _ wx18 ⟨H, ρ, rfl, X21, ex19, ex20⟩
  subst hk
  refine W_cond (x17) rfl (fun hc38 => ?_) (fun hc38 => ?_)
  ·have H := H.1 hc38
   refine W_seq ?_
   refine W_region ?_
   refine LP_ev ok 0 [(4, .bool false)] 1 rfl rfl ?_
   refine LP_end _ rfl ?_
   refine W_ret ?_
   exact ⟨_, Ret_of [.bool false] ⟨⟨rfl, rfl⟩, trivial⟩, _, H, rfl, X21.ext⟩
  have H := H.2 hc38
  refine W_skip ?_
  refine W_region ?_
  refine LP_ev ok 0 [(30, I (wr (x + 1))), (14, I (wr (x + 1)))] 2 rfl rfl ?_
  refine LP_end _ rfl ?_
  exact ⟨wr (x + 1), ⟨H.1, _, env_eq ⟨rfl, rfl, rfl, rfl, trivial⟩, X21, ex19, ex20⟩, H.2⟩
 have H := H.2 hc10
 refine W_exit ?_
 refine (if_pos rfl).mpr ?_
 refine W_seq ?_
 refine W_region ?_
 refine LP_ev ok 0 [(4, .bool true)] 1 rfl rfl ?_
 refine LP_end _ rfl ?_
 refine W_ret ?_
 exact ⟨_, Ret_of [.bool true] ⟨⟨rfl, rfl⟩, trivial⟩, _, H, rfl, X9.ext⟩

theorem impl_depthOf_w (g : Geo) (i : Int) (Q : Int → Prop) (H : impl_depthOf g i Q) (w : World) {vx : Value} {hx : PH} (r : RS hx vx g.Parents) (ex : Sub hx w) :
  CallsTo Try.prog 102 #[.agg #[vx], I i] w fun v w' => ∃ r0, Q r0 ∧ v = I r0 ∧ Ext w w' := by
 obtain ⟨a, c, rfl⟩ := r.shape
 refine enter (args := [.agg #[sl a g.Parents c], I i]) 16 Try.func102 rfl rfl rfl ?_
 refine W_forget [(0, .agg #[sl a g.Parents c]), (1, I i)] ⟨rfl, rfl, trivial⟩ fun ρ => ?_
 have X := But.refl emp w
 refine W_seq ?_
 refine W_region ?_
 refine LP_box 0 (cs := [sl a g.Parents c]) rfl rfl rfl rfl rfl fun b wx x ex1 f => ?_
 refine LP_ev ok 1 [(4, I 0)] 2 rfl rfl ?_
 refine LP_end _ rfl ?_
 refine W_seq ?_
 refine W_region ?_
 refine LP_ev ok 0 [(5, I 0)] 1 rfl rfl ?_
 refine LP_end _ rfl ?_
 refine W_seq ?_
 refine W_block ?_
 obtain ⟨J, m, Hx, H⟩ := H
 refine W_loop (S := Int × Int) (fun s ρ' w' => J s.1 s.2 ∧ ∃ (ρ : Env), ρ' = setAll [(1, I s.1), (2, pb b), (5, I s.2)] ρ ∧ wx = w') (fun s => m s.1 s.2) (i, 0) ⟨Hx, _, env_eq ⟨rfl, rfl, rfl, trivial⟩, rfl⟩ ?_
 rintro ⟨i2, d⟩ _ _ ⟨Hi, ρ, rfl, rfl⟩
 have H := H i2 d Hi
 refine W_seq ?_
 refine W_seq ?_
 refine W_region ?_
 refine LP_ev ok 0 [(6, I i2), (7, .bool (decide (i2 > 0)))] 2 rfl rfl ?_
 refine LP_end _ rfl ?_
 refine W_cond (decide (i2 > 0)) rfl (fun hc => ?_) (fun hc => ?_)
 ·have H := H.1 hc
  refine W_skip ?_
  refine W_block ?_
  refine W_seq ?_
  refine W_region ?_
  refine LP_ev ok 0 [(8, pb b)] 1 rfl rfl ?_
  refine LP_ldbox 1 (v := sl a g.Parents c) rfl rfl rfl ti_22 ag_22 (fun _ => rfl) rfl ex1 rfl rfl ?_
  refine LP_ev ok 2 [(10, I i2)] 3 rfl rfl ?_
  obtain ⟨x4, hi, hx5, H⟩ := H
  refine LP_index 3 rfl rfl rfl Try.underlying22 ti_3 rfl rfl r hi hx5 fun a6 cs r7 d8 => ?_
  have ex9 := (ex.ext x)
  refine LP_load 4 rfl rfl rfl ti_3 ag_3 rfl r7 d8 ex9 fun vx10 r11 => ?_
  obtain rfl := r11.int
  refine LP_ev ok 5 [(1, I x4)] 6 rfl rfl ?_
  refine LP_end _ rfl ?_
  refine W_region ?_
  refine LP_ev ok 0 [(13, I d), (14, I (wr (d + 1))), (5, I (wr (d + 1)))] 3 rfl rfl ?_
  refine LP_end _ rfl ?_
  exact ⟨(x4, wr (d + 1)), ⟨H.1, _, env_eq ⟨rfl, rfl, rfl, trivial⟩, rfl⟩, H.2⟩
 have H := H.2 hc
 refine W_exit ?_
 refine (if_pos rfl).mpr ?_
 refine W_seq ?_
 refine W_region ?_
 refine LP_ev ok 0 [(15, I d), (4, I d)] 2 rfl rfl ?_
 refine LP_end _ rfl ?_
 refine W_ret ?_
 have X12 := (X.stepx x)
 exact ⟨_, Ret_of [I d] ⟨⟨rfl, rfl⟩, trivial⟩, _, H, rfl, X12.ext⟩

theorem impl_areasAt_w (g : Geo) (level : Int) (Q : (List Int) → Prop) (H : impl_areasAt g level Q) (w : World) {vx : Value} {hx : PH} (r : RS hx vx g.Parents) (ex : Sub hx w) :
  CallsTo Try.prog 82 #[.agg #[vx], I level] w fun v w' => ∃ r0 u0 g0, Q r0 ∧ v = u0 ∧ Ext w w' ∧ OS 3 g0 emp u0 r0 ∧ Sub g0 w' ∧ Fresh w.heap.size g0 := by
 obtain ⟨a, c, rfl⟩ := r.shape
 refine enter (args := [.agg #[sl a g.Parents c], I level]) 24 Try.func82 rfl rfl rfl ?_
 refine W_forget [(0, .agg #[sl a g.Parents c]), (1, I level)] ⟨rfl, rfl, trivial⟩ fun ρ => ?_
 have X := But.refl emp w
 refine W_seq ?_
 refine W_region ?_
 refine LP_box 0 (cs := [sl a g.Parents c]) rfl rfl rfl rfl rfl fun b wx x ex1 f => ?_
 refine LP_ev ok 1 [(4, .slice none 0 0)] 2 rfl rfl ?_
 refine LP_end _ rfl ?_
 refine W_seq ?_
 refine W_region ?_
 refine LP_ev ok 0 [(5, .slice none 0 0)] 1 rfl rfl ?_
 refine LP_end _ rfl ?_
 refine W_seq ?_
 refine W_seq ?_
 refine W_region ?_
 refine LP_ev ok 0 [(7, pb b)] 1 rfl rfl ?_
 refine LP_ldbox 1 (v := sl a g.Parents c) rfl rfl rfl ti_22 ag_22 (fun _ => rfl) rfl ex1 rfl rfl ?_
 refine LP_ev ok 2 [(9, I (ln g.Parents)), (10, I 0)] 4 rfl rfl ?_
 refine LP_end _ rfl ?_
 refine W_block ?_
 have X14 := (X.stepx x)
 have ex15 := (ex.ext x)
 obtain ⟨J, m, Hx, H⟩ := H
 refine W_loop (S := (List Int) × Int) (fun s ρ' w' => J s.1 s.2 ∧ ∃ (ρ : Env) (vx2 : Value) (hx3 : PH), ρ' = setAll [(1, I level), (2, pb b), (5, vx2), (9, I (ln g.Parents)), (10, I s.2)] ρ ∧ But emp w w' ∧ OS 3 hx3 emp vx2 s.1 ∧ Sub hx3 w' ∧ Fresh w.heap.size hx3 ∧ Sub hx w' ∧ Sub (bx b 32 [sl a g.Parents c]) w' ∧ Dj hx3 hx ∧ Dj hx3 (bx b 32 [sl a g.Parents c])) (fun s => m s.1 s.2) ([], 0) ⟨Hx, _, .slice none 0 0, emp, env_eq ⟨rfl, rfl, rfl, rfl, rfl, trivial⟩, X14, OS.nil, (emp_sub _), (emp_fresh _), ex15, ex1, (fun _ => .inl rfl), (fun _ => .inl rfl)⟩ ?_
 rintro ⟨list, x6⟩ _ wx7 ⟨Hi, ρ, vx2, hx3, rfl, HF⟩
 revert HF
 refine bb8 fun X13 o ex4 f5 ex8 ex9 d d12 => ?_
 have H := H list x6 Hi
 obtain ⟨a10, c11, rfl⟩ := o.shape
 refine W_seq ?_
 refine W_region ?_
 refine LP_ev ok 0 [(11, .bool (decide (x6 < (ln g.Parents))))] 1 rfl rfl ?_
 refine LP_end _ rfl ?_
 refine W_seq ?_
 refine W_cond (decide (x6 < (ln g.Parents))) rfl (fun hc => ?_) (fun hc => ?_)
 ·have H := H.1 hc
  refine W_skip ?_
  obtain ⟨k, hk, H⟩ := jn_elim H
  refine W_join2 (S := (List Int)) (fun s ρ' w' => k s ∧ ∃ (ρ : Env) (vx17 : Value) (hx18 : PH), ρ' = setAll [(1, I level), (2, pb b), (5, vx17), (9, I (ln g.Parents)), (10, I x6)] ρ ∧ But emp w w' ∧ OS 3 hx18 emp vx17 s ∧ Sub hx18 w' ∧ Fresh w.heap.size hx18 ∧ Sub hx w' ∧ Sub (bx b 32 [sl a g.Parents c]) w' ∧ Dj hx18 hx ∧ Dj hx18 (bx b 32 [sl a g.Parents c])) ?_ ?_
  ·refine W_block ?_
   refine W_seq ?_
   refine W_region ?_
   refine LP_ev ok 0 [(12, I x6), (6, I x6)] 2 rfl rfl ?_
   refine LP_end _ rfl ?_
   refine W_seq ?_
   refine W_region ?_
   refine LP_ldbox 0 (v := .agg #[sl a g.Parents c]) rfl rfl rfl ti_32 ag_32 (fun h => by cases h) rfl ex9 rfl rfl ?_
   refine LP_ev ok 1 [(14, I x6)] 2 rfl rfl ?_
   refine LP_call 2 rfl rfl rfl cal_102 rfl (impl_depthOf_w _ _ _ H wx7 r ex8) ?_
   rintro _ wx31 ⟨r30, H, rfl, x32⟩
   refine LP_ev ok 3 [(16, I level), (17, .bool (r30 == level))] 5 rfl rfl ?_
   refine LP_end _ rfl ?_
   refine W_cond (r30 == level) rfl (fun hc33 => ?_) (fun hc33 => ?_)
   ·have H := H.1 hc33
    refine W_region ?_
    refine LP_ev ok 0 [(18, sl a10 list c11), (19, I x6)] 2 rfl rfl ?_
    refine LP_lit (α := Int) (g := emp) 2 (vs := [I x6]) (xs := [x6]) rfl rfl rfl Try.underlying22 ti_3 rfl rfl ⟨⟨_, rfl, rfl⟩, trivial⟩ rfl rfl fun hx34 vx35 wx36 x37 o38 ex39 f40 => ?_
    obtain ⟨a41, c42, rfl⟩ := o38.shape
    have ex43 := ((ex4.ext x32).ext x37)
    obtain ⟨hb, H⟩ := H
    refine LP_appendf (α := Int) 3 rfl rfl rfl Try.underlying22 ti_3 rfl rfl rfl o ex43 o38.readf ex39 (by first | omega | (simp only [ln] at *; omega)) (by first | omega | (simp only [ln] at *; omega)) fun hx44 vx45 wx46 o47 ex48 y dm => ?_
    obtain ⟨a49, c50, rfl⟩ := o47.shape
    refine LP_ev ok 4 [(5, .slice a49 (List.length (list ++ ([x6]))) c50)] 5 rfl rfl ?_
    refine LP_end _ rfl ?_
    have X51 := (((X13.stepx x32).stepx x37).step y (f5.dom _))
    have X53 := ((X13.stepx x32).stepx x37)
    have f52 := dm.fresh f5 X53.size
    have ex54 := (((ex8.ext x32).ext x37).but y d)
    have ex55 := (((ex9.ext x32).ext x37).but y d12)
    have ex56 := ((ex8.ext x32).ext x37)
    have ex57 := ((ex9.ext x32).ext x37)
    exact ⟨list ++ ([x6]), H, _, .slice a49 (List.length (list ++ ([x6]))) c50, hx44, env_eq ⟨rfl, rfl, rfl, rfl, rfl, trivial⟩, X51, o47, ex48, f52, ex54, ex55, (DomLe.dj dm d ex56), (DomLe.dj dm d12 ex57)⟩
   have H := H.2 hc33
   refine W_skip ?_
   have X58 := (X13.stepx x32)
   have ex59 := (ex4.ext x32)
   have ex60 := (ex8.ext x32)
   have ex61 := (ex9.ext x32)
   exact ⟨list, H, _, sl a10 list c11, hx3, env_eq ⟨rfl, rfl, rfl, rfl, rfl, trivial⟩, X58, o, ex59, f5, ex60, ex61, d, d12⟩
  rintro list16 _ wx22 ⟨H, ρ, vx17, hx18, rfl, HF⟩
  revert HF
  refine bb8 fun X29 o19 ex20 f21 ex23 ex24 d27 d28 => ?_
  subst hk
  obtain ⟨a25, c26, rfl⟩ := o19.shape
  refine W_region ?_
  refine LP_ev ok 0 [(22, I (wr (x6 + 1))), (10, I (wr (x6 + 1)))] 2 rfl rfl ?_
  refine LP_end _ rfl ?_
  exact ⟨(list16, wr (x6 + 1)), ⟨H.1, _, sl a25 list16 c26, hx18, env_eq ⟨rfl, rfl, rfl, rfl, rfl, trivial⟩, X29, o19, ex20, f21, ex23, ex24, d27, d28⟩, H.2⟩
 have H := H.2 hc
 refine W_exit ?_
 refine (if_pos rfl).mpr ?_
 refine W_seq ?_
 refine W_region ?_
 refine LP_ev ok 0 [(23, sl a10 list c11), (4, sl a10 list c11)] 2 rfl rfl ?_
 refine LP_end _ rfl ?_
 refine W_ret ?_
 exact ⟨_, Ret_of [sl a10 list c11] ⟨⟨rfl, rfl⟩, trivial⟩, _, _, _, H, rfl, X13.ext, o, ex4, f5⟩

theorem impl_crossed_w (sx : List Variable) (t : Table) (Q : (List Variable) → Prop) (H : impl_crossed sx t Q) (w : World) {vx : Value} {hx : PH} (r : RS hx vx sx) (ex : Sub hx w) {vx1 : Value} {hx2 : PH} (r3 : RS hx2 vx1 t.Vars) (ex4 : Sub hx2 w) {vx7 : Value} {hx8 : PH} (r9 : RS hx8 vx7 t.Where) (ex10 : Sub hx8 w) :
  CallsTo Try.prog 84 #[vx, .agg #[I t.Level, vx1, vx7, I t.Sum]] w fun v w' => ∃ r0 u0 g0, Q r0 ∧ v = u0 ∧ Ext w w' ∧ OS 66 g0 emp u0 r0 ∧ Sub g0 w' ∧ Fresh w.heap.size g0 := by
 obtain ⟨a, c, rfl⟩ := r.shape
 obtain ⟨a5, c6, rfl⟩ := r3.shape
 obtain ⟨a11, c12, rfl⟩ := r9.shape
 refine enter (args := [sl a sx c, .agg #[I t.Level, sl a5 t.Vars c6, sl a11 t.Where c12, I t.Sum]]) 29 Try.func84 rfl rfl rfl ?_
 refine W_forget [(0, sl a sx c), (1, .agg #[I t.Level, sl a5 t.Vars c6, sl a11 t.Where c12, I t.Sum])] ⟨rfl, rfl, trivial⟩ fun ρ => ?_
 have X := But.refl emp w
 refine W_seq ?_
 refine W_region ?_
 refine LP_box 0 (cs := [I t.Level, sl a5 t.Vars c6, sl a11 t.Where c12, I t.Sum]) rfl rfl rfl rfl rfl fun b wx x ex13 f => ?_
 refine LP_ev ok 1 [(4, .slice none 0 0)] 2 rfl rfl ?_
 refine LP_end _ rfl ?_
 refine W_seq ?_
 refine W_region ?_
 refine LP_ev ok 0 [(8, .pointer (some ⟨b, 1, none⟩))] 1 rfl rfl ?_
 refine LP_ldbox 1 (v := sl a5 t.Vars c6) rfl rfl rfl ti_22 ag_22 (fun _ => rfl) rfl ex13 rfl rfl ?_
 refine LP_ev ok 2 [(10, I (ln t.Vars))] 3 rfl rfl ?_
 obtain ⟨hn, hb, H⟩ := H
 refine LP_make (α := Variable) 3 rfl rfl rfl Try.underlying34 ti_66 (x0 := (Variable.mk ((ByteArray.mk #[])) ((0 : Int)))) rfl rfl hn (by first | omega | (simp only [ln] at *; omega)) (by first | omega | (simp only [ln] at *; omega)) fun hx14 vx15 wx16 x17 o ex18 f19 => ?_
 obtain ⟨a20, c21, rfl⟩ := o.shape
 refine LP_ev ok 4 [(5, .slice a20 (List.length (List.replicate (Int.toNat (ln t.Vars)) ((Variable.mk ((ByteArray.mk #[])) ((0 : Int)))))) c21)] 5 rfl rfl ?_
 refine LP_end _ rfl ?_
 refine W_seq ?_
 refine W_seq ?_
 refine W_region ?_
 refine LP_ev ok 0 [(12, .pointer (some ⟨b, 1, none⟩))] 1 rfl rfl ?_
 have ex22 := (ex13.ext x17)
 refine LP_ldbox 1 (v := sl a5 t.Vars c6) rfl rfl rfl ti_22 ag_22 (fun _ => rfl) rfl ex22 rfl rfl ?_
 refine LP_ev ok 2 [(14, I (ln t.Vars)), (15, I 0)] 4 rfl rfl ?_
 refine LP_end _ rfl ?_
 refine W_block ?_
 have X34 := ((X.stepx x).stepx x17)
 have X36 := (X.stepx x)
 have f35 := f19.mono X36.size
 have ex37 := ((ex.ext x).ext x17)
 have ex38 := ((ex4.ext x).ext x17)
 have ex39 := (ex.ext x)
 have ex40 := (ex4.ext x)
 obtain ⟨J, m, Hx, H⟩ := H
 refine W_loop (S := (List Variable) × Int) (fun s ρ' w' => J s.1 s.2 ∧ ∃ (ρ : Env) (hx24 : PH), ρ' = setAll [(0, sl a sx c), (5, .slice a20 (List.length (List.replicate (Int.toNat (ln t.Vars)) ((Variable.mk ((ByteArray.mk #[])) ((0 : Int)))))) c21), (13, sl a5 t.Vars c6), (14, I (ln t.Vars)), (15, I s.2)] ρ ∧ But emp w w' ∧ OS 66 hx24 emp (.slice a20 (List.length (List.replicate (Int.toNat (ln t.Vars)) ((Variable.mk ((ByteArray.mk #[])) ((0 : Int)))))) c21) s.1 ∧ Sub hx24 w' ∧ Fresh w.heap.size hx24 ∧ Sub hx w' ∧ Sub hx2 w' ∧ Dj hx24 hx ∧ Dj hx24 hx2) (fun s => m s.1 s.2) (List.replicate (Int.toNat (ln t.Vars)) ((Variable.mk ((ByteArray.mk #[])) ((0 : Int)))), 0) ⟨Hx, _, hx14, env_eq ⟨rfl, rfl, rfl, rfl, rfl, trivial⟩, X34, o, ex18, f35, ex37, ex38, (Dj.of_fresh ex39 f19).symm, (Dj.of_fresh ex40 f19).symm⟩ ?_
 rintro ⟨out, x28⟩ _ wx29 ⟨Hi, ρ, hx24, rfl, HF⟩
 revert HF
 refine bb8 fun X33 o25 ex26 f27 ex30 ex31 d d32 => ?_
 have H := H out x28 Hi
 refine W_seq ?_
 refine W_region ?_
 refine LP_ev ok 0 [(16, .bool (decide (x28 < (ln t.Vars))))] 1 rfl rfl ?_
 refine LP_end _ rfl ?_
 refine W_seq ?_
 refine W_cond (decide (x28 < (ln t.Vars))) rfl (fun hc => ?_) (fun hc => ?_)
 ·have H := H.1 hc
  refine W_skip ?_
  refine W_seq ?_
  refine W_block ?_
  refine W_seq ?_
  refine W_region ?_
  refine LP_ev ok 0 [(17, I x28)] 1 rfl rfl ?_
  obtain ⟨x41, hi, hx42, H⟩ := H
  refine LP_index 1 rfl rfl rfl Try.underlying22 ti_3 rfl rfl r3 hi hx42 fun a43 cs r44 d45 => ?_
  refine LP_load 2 rfl rfl rfl ti_3 ag_3 rfl r44 d45 ex31 fun vx46 r47 => ?_
  obtain rfl := r47.int
  refine LP_ev ok 3 [(6, I x28), (7, I x41)] 5 rfl rfl ?_
  refine LP_end _ rfl ?_
  refine W_region ?_
  refine LP_ev ok 0 [(20, .slice a20 (List.length (List.replicate (Int.toNat (ln t.Vars)) ((Variable.mk ((ByteArray.mk #[])) ((0 : Int)))))) c21), (21, I x28), (22, sl a sx c), (23, I x41)] 4 rfl rfl ?_
  obtain ⟨x48, hi49, hx50, H⟩ := H
  refine LP_index 4 rfl rfl rfl Try.underlying34 ti_66 rfl rfl r hi49 hx50 fun a51 cs52 r53 d54 => ?_
  refine LP_load 5 rfl rfl rfl ti_66 ag_66 rfl r53 d54 ex30 fun vx55 r56 => ?_
  obtain rfl := Variable_rv r56
  obtain ⟨hi57, hl, H⟩ := H
  refine LP_indexw (v := .slice a20 (List.length (List.replicate (Int.toNat (ln t.Vars)) ((Variable.mk ((ByteArray.mk #[])) ((0 : Int)))))) c21) 6 rfl rfl rfl Try.underlying34 ti_66 rfl rfl o25 hi57 hl fun a58 wa => ?_
  refine LP_set 7 rfl rfl rfl rfl rfl wa (Le.refl emp) ⟨_, rfl, rfl⟩ ex26 fun hx59 wx60 o61 ex62 y dm => ?_
  refine LP_end _ rfl ?_
  refine W_region ?_
  refine LP_ev ok 0 [(27, I (wr (x28 + 1))), (15, I (wr (x28 + 1)))] 2 rfl rfl ?_
  refine LP_end _ rfl ?_
  have X63 := (X33.step y (f27.dom _))
  have f64 := (dm _).fresh f27 X33.size
  have ex65 := (ex30.but y d)
  have ex66 := (ex31.but y d32)
  exact ⟨(List.set out (Int.toNat x28) x48, wr (x28 + 1)), ⟨H.1, _, hx59, env_eq ⟨rfl, rfl, rfl, rfl, rfl, trivial⟩, X63, o61, ex62, f64, ex65, ex66, (DomLe.dj (dm _) d ex30), (DomLe.dj (dm _) d32 ex31)⟩, H.2⟩
 have H := H.2 hc
 refine W_exit ?_
 refine (if_pos rfl).mpr ?_
 refine W_seq ?_
 refine W_region ?_
 refine LP_ev ok 0 [(28, .slice a20 (List.length (List.replicate (Int.toNat (ln t.Vars)) ((Variable.mk ((ByteArray.mk #[])) ((0 : Int)))))) c21), (4, .slice a20 (List.length (List.replicate (Int.toNat (ln t.Vars)) ((Variable.mk ((ByteArray.mk #[])) ((0 : Int)))))) c21)] 2 rfl rfl ?_
 refine LP_end _ rfl ?_
 refine W_ret ?_
 exact ⟨_, Ret_of [.slice a20 (List.length (List.replicate (Int.toNat (ln t.Vars)) ((Variable.mk ((ByteArray.mk #[])) ((0 : Int)))))) c21] ⟨⟨rfl, rfl⟩, trivial⟩, _, _, _, H, rfl, X33.ext, o25, ex26, f27⟩

theorem impl_cellCount_w (g : Geo) (sx : List Variable) (t : Table) (Q : Int → Prop) (H : impl_cellCount g sx t Q) (w : World) {vx : Value} {hx : PH} (r : RS hx vx g.Parents) (ex : Sub hx w) {vx1 : Value} {hx2 : PH} (r3 : RS hx2 vx1 sx) (ex4 : Sub hx2 w) {vx7 : Value} {hx8 : PH} (r9 : RS hx8 vx7 t.Vars) (ex10 : Sub hx8 w) {vx13 : Value} {hx14 : PH} (r15 : RS hx14 vx13 t.Where) (ex16 : Sub hx14 w) :
  CallsTo Try.prog 51 #[.agg #[vx], vx1, .agg #[I t.Level, vx7, vx13, I t.Sum]] w fun v w' => ∃ r0, Q r0 ∧ v = I r0 ∧ Ext w w' := by
 obtain ⟨a, c, rfl⟩ := r.shape
 obtain ⟨a5, c6, rfl⟩ := r3.shape
 obtain ⟨a11, c12, rfl⟩ := r9.shape
 obtain ⟨a17, c18, rfl⟩ := r15.shape
 refine enter (args := [.agg #[sl a g.Parents c], sl a5 sx c6, .agg #[I t.Level, sl a11 t.Vars c12, sl a17 t.Where c18, I t.Sum]]) 17 Try.func51 rfl rfl rfl ?_
 refine W_forget [(0, .agg #[sl a g.Parents c]), (1, sl a5 sx c6), (2, .agg #[I t.Level, sl a11 t.Vars c12, sl a17 t.Where c18, I t.Sum])] ⟨rfl, rfl, rfl, trivial⟩ fun ρ => ?_
 have X := But.refl emp w
 refine W_seq ?_
 refine W_region ?_
 refine LP_box 0 (cs := [sl a g.Parents c]) rfl rfl rfl rfl rfl fun b wx x ex19 f => ?_
 refine LP_box 1 (cs := [I t.Level, sl a11 t.Vars c12, sl a17 t.Where c18, I t.Sum]) rfl rfl rfl rfl rfl fun b20 wx21 x22 ex23 f24 => ?_
 refine LP_ev ok 2 [(6, I 0)] 3 rfl rfl ?_
 refine LP_end _ rfl ?_
 refine W_seq ?_
 refine W_open mix fun wx25 x26 => ?_
 refine AP_game 9 [[], [], [1], [0, 1, 2], [0, 1, 2, 3], [], [], [0, 1, 2, 3, 5, 6], [0, 1, 2, 3, 5, 6, 7], [0, 1, 2, 3, 4, 5, 6, 7, 8], [0, 1, 2, 3, 4, 5, 6, 7, 8, 9]] [[(3, none)], [(5, none)], [(8, some 1)], [(7, some 0), (9, some 2)], [(10, some 3)], [(1, none)], [(5, none)], [(12, some 5), (13, some 6)], [(14, some 7)]] [(6, none), (11, some 4), (15, some 8)] [(0, false), (1, false), (2, false), (5, false), (6, false), (3, true), (4, false), (7, true), (8, false)] (by kernel_rfl) (by kernel_rfl) ?_
 have ex27 := ((ex19.ext x22).ext x26)
 refine GS_r1 [(3, pb b)] (.agg #[sl a g.Parents c]) rfl rfl (fun _ h => h) (fun _ w e => ex_ldbox rfl ti_32 ag_32 (fun h => by cases h) rfl e rfl rfl) ex27 ?_
 refine GS_ev ok [(5, pb b20)] (pb b20) rfl rfl (fun _ h => h) (fun _ => rfl) ?_
 have ex28 := (ex23.ext x26)
 refine GS_r1 [(8, pb b20)] (I t.Level) rfl rfl (fun _ h => h) (fun _ w e => ex_ldbox rfl ti_3 ag_3 (fun _ => rfl) rfl e rfl rfl) ex28 ?_
 refine GS_ev ok [(1, sl a5 sx c6)] (sl a5 sx c6) rfl rfl (fun _ h => h) (fun _ => rfl) ?_
 refine GS_r1 [(5, pb b20)] (.agg #[I t.Level, sl a11 t.Vars c12, sl a17 t.Where c18, I t.Sum]) rfl rfl (fun _ h => h) (fun _ w e => ex_ldbox rfl ti_50 ag_50 (fun h => by cases h) rfl e rfl rfl) ex28 ?_
 refine GS_lp [(7, .agg #[sl a g.Parents c]), (9, I t.Level)] rfl rfl (fun _ h => h) rfl fun ρ wx29 x30 => ?_
 have ex32 := ((((ex.ext x).ext x22).ext x26).ext x30)
 refine LP_call 0 rfl rfl rfl cal_82 rfl (impl_areasAt_w _ _ _ H wx29 r ex32) ?_
 rintro _ wx33 ⟨r31, vx35, hx36, H, rfl, x34, o, ex37, f38⟩
 obtain ⟨a39, c40, rfl⟩ := o.shape
 have ex41 := ((ex28.ext x30).ext x34)
 refine LP_gs ⟨⟨.inr ex41, .inl rfl, .inl rfl, trivial⟩, ?_⟩
 refine GS_ev ok [(10, sl a39 r31 c40)] (I (ln r31)) rfl rfl (fun _ h => h) (fun _ => rfl) ?_
 refine GS_lp [(12, sl a5 sx c6), (13, .agg #[I t.Level, sl a11 t.Vars c12, sl a17 t.Where c18, I t.Sum])] rfl rfl (fun _ h => h) rfl fun ρ wx42 x43 => ?_
 have ex45 := ((((((ex4.ext x).ext x22).ext x26).ext x30).ext x34).ext x43)
 have ex46 := ((((((ex10.ext x).ext x22).ext x26).ext x30).ext x34).ext x43)
 have ex47 := ((((((ex16.ext x).ext x22).ext x26).ext x30).ext x34).ext x43)
 refine LP_call 0 rfl rfl rfl cal_84 rfl (impl_crossed_w _ _ _ H wx42 r3 ex45 r9 ex46 r15 ex47) ?_
 rintro _ wx48 ⟨r44, vx50, hx51, H, rfl, x49, o52, ex53, f54⟩
 obtain ⟨a55, c56, rfl⟩ := o52.shape
 refine LP_gs ⟨⟨.inl rfl, .inl rfl, .inl rfl, trivial⟩, ?_⟩
 obtain ⟨r57, Hd, H⟩ := H
 refine GS_q [(14, sl a55 r44 c56)] (I r57) [hx51] [sl a55 r44 c56] rfl rfl (fun _ h => h) rfl cal_83 (fun _ => rfl) (fun w e => (impl_combinations_w _ _ Hd w o52.readf e.1).mono (fun _ _ h => by obtain ⟨_, rfl, rfl, x⟩ := h; exact ⟨rfl, x⟩)) ⟨ex53, trivial⟩ ?_
 intro wx58 x59 ρ hn
 refine AP_forget [(6, I 0), (11, I (ln r31)), (15, I r57)] (by exact hn) fun ρ => ?_
 refine AP_tail 9 [[], [], [1], [0, 1, 2], [0, 1, 2, 3], [], [], [0, 1, 2, 3, 5, 6], [0, 1, 2, 3, 5, 6, 7], [0, 1, 2, 3, 4, 5, 6, 7, 8], [0, 1, 2, 3, 4, 5, 6, 7, 8, 9]] (by kernel_rfl) ?_
 refine LP_ev ok 9 [(16, I (wr ((ln r31) * r57))), (6, I (wr ((ln r31) * r57)))] 11 rfl rfl ?_
 refine LP_end _ rfl ?_
 refine W_ret ?_
 have X60 := ((((((((X.stepx x).stepx x22).stepx x26).stepx x30).stepx x34).stepx x43).stepx x49).stepx x59)
 exact ⟨_, Ret_of [I (wr ((ln r31) * r57))] ⟨⟨rfl, rfl⟩, trivial⟩, _, H, rfl, X60.ext⟩

theorem impl_isTable_w (g : Geo) (sx : List Variable) (t : Table) (Q : Bool → Prop) (H : impl_isTable g sx t Q) (w : World) {vx : Value} {hx : PH} (r : RS hx vx g.Parents) (ex : Sub hx w) {vx1 : Value} {hx2 : PH} (r3 : RS hx2 vx1 sx) (ex4 : Sub hx2 w) {vx7 : Value} {hx8 : PH} (r9 : RS hx8 vx7 t.Vars) (ex10 : Sub hx8 w) {vx13 : Value} {hx14 : PH} (r15 : RS hx14 vx13 t.Where) (ex16 : Sub hx14 w) :
  CallsTo Try.prog 50 #[.agg #[vx], vx1, .agg #[I t.Level, vx7, vx13, I t.Sum]] w fun v w' => ∃ r0, Q r0 ∧ v = .bool r0 ∧ Ext w w' := by
 obtain ⟨a, c, rfl⟩ := r.shape
 obtain ⟨a5, c6, rfl⟩ := r3.shape
 obtain ⟨a11, c12, rfl⟩ := r9.shape
 obtain ⟨a17, c18, rfl⟩ := r15.shape
 refine enter (args := [.agg #[sl a g.Parents c], sl a5 sx c6, .agg #[I t.Level, sl a11 t.Vars c12, sl a17 t.Where c18, I t.Sum]]) 42 Try.func50 rfl rfl rfl ?_
 refine W_forget [(0, .agg #[sl a g.Parents c]), (1, sl a5 sx c6), (2, .agg #[I t.Level, sl a11 t.Vars c12, sl a17 t.Where c18, I t.Sum])] ⟨rfl, rfl, rfl, trivial⟩ fun ρ => ?_
 have X := But.refl emp w
 refine W_seq ?_
 refine W_region ?_
 refine LP_box 0 (cs := [sl a g.Parents c]) rfl rfl rfl rfl rfl fun b wx x ex19 f => ?_
 refine LP_box 1 (cs := [I t.Level, sl a11 t.Vars c12, sl a17 t.Where c18, I t.Sum]) rfl rfl rfl rfl rfl fun b20 wx21 x22 ex23 f24 => ?_
 refine LP_ev ok 2 [(6, .bool false)] 3 rfl rfl ?_
 refine LP_end _ rfl ?_
 refine W_seq ?_
 obtain ⟨k, hk, H⟩ := jn_elim H
 refine W_join2 (S := Bool) (fun s ρ' w' => k s ∧ ∃ (ρ : Env), ρ' = setAll [(1, sl a5 sx c6), (3, pb b), (5, pb b20), (31, .bool s)] ρ ∧ But emp w w' ∧ Sub hx w' ∧ Sub hx2 w' ∧ Sub hx8 w' ∧ Sub hx14 w' ∧ Sub (bx b 32 [sl a g.Parents c]) w' ∧ Sub (bx b20 50 [I t.Level, sl a11 t.Vars c12, sl a17 t.Where c18, I t.Sum]) w') ?_ ?_
 ·refine W_region ?_
  refine LP_ev ok 0 [(8, sl a5 sx c6), (9, .pointer (some ⟨b20, 1, none⟩))] 2 rfl rfl ?_
  refine LP_ldbox 2 (v := sl a11 t.Vars c12) rfl rfl rfl ti_22 ag_22 (fun _ => rfl) rfl ex23 rfl rfl ?_
  have ex35 := ((ex4.ext x).ext x22)
  have ex36 := ((ex10.ext x).ext x22)
  refine LP_call 3 rfl rfl rfl cal_80 rfl (impl_areVars_w _ _ _ H wx21 r3 ex35 r9 ex36) ?_
  rintro _ wx37 ⟨r34, H, rfl, x38⟩
  refine LP_ev ok 4 [(12, .bool (!r34)), (13, .bool (!r34))] 6 rfl rfl ?_
  refine LP_split 13 (!r34) rfl (fun hc => ?_) (fun hc => ?_)
  ·have H := H.1 hc
   refine LP_ev ok 6 [(14, undef), (15, undef), (16, undef), (17, undef), (18, undef), (19, .bool true), (20, .bool true), (21, undef), (22, undef), (23, undef), (24, .bool true), (25, .bool true), (26, undef), (27, undef), (28, undef), (29, undef), (30, undef), (31, .bool true)] 24 rfl rfl ?_
   refine LP_end _ rfl ?_
   try refine W_forget [(1, sl a5 sx c6), (3, pb b), (5, pb b20), (31, .bool true)] ⟨rfl, rfl, rfl, rfl, trivial⟩ fun ρ => ?_
   have X39 := (((X.stepx x).stepx x22).stepx x38)
   have ex40 := (((ex.ext x).ext x22).ext x38)
   have ex41 := (ex35.ext x38)
   have ex42 := (ex36.ext x38)
   have ex43 := (((ex16.ext x).ext x22).ext x38)
   have ex44 := ((ex19.ext x22).ext x38)
   have ex45 := (ex23.ext x38)
   exact ⟨true, H, _, env_eq ⟨rfl, rfl, rfl, rfl, trivial⟩, X39, ex40, ex41, ex42, ex43, ex44, ex45⟩
  have H := H.2 hc
  refine LP_ev ok 6 [(14, sl a5 sx c6), (15, .pointer (some ⟨b20, 2, none⟩))] 8 rfl rfl ?_
  have ex46 := (ex23.ext x38)
  refine LP_ldbox 8 (v := sl a17 t.Where c18) rfl rfl rfl ti_22 ag_22 (fun _ => rfl) rfl ex46 rfl rfl ?_
  have ex48 := (ex35.ext x38)
  have ex49 := (((ex16.ext x).ext x22).ext x38)
  refine LP_call 9 rfl rfl rfl cal_81 rfl (impl_isWhere_w _ _ _ H wx37 r3 ex48 r15 ex49) ?_
  rintro _ wx50 ⟨r47, H, rfl, x51⟩
  refine LP_ev ok 10 [(18, .bool (!r47)), (19, .bool (!r47)), (20, .bool (!r47))] 13 rfl rfl ?_
  refine LP_split 20 (!r47) rfl (fun hc52 => ?_) (fun hc52 => ?_)
  ·have H := H.1 hc52
   refine LP_ev ok 13 [(21, undef), (22, undef), (23, undef), (24, .bool true), (25, .bool true), (26, undef), (27, undef), (28, undef), (29, undef), (30, undef), (31, .bool true)] 24 rfl rfl ?_
   refine LP_end _ rfl ?_
   try refine W_forget [(1, sl a5 sx c6), (3, pb b), (5, pb b20), (31, .bool true)] ⟨rfl, rfl, rfl, rfl, trivial⟩ fun ρ => ?_
   have X53 := ((((X.stepx x).stepx x22).stepx x38).stepx x51)
   have ex54 := ((((ex.ext x).ext x22).ext x38).ext x51)
   have ex55 := (ex48.ext x51)
   have ex56 := ((ex36.ext x38).ext x51)
   have ex57 := (ex49.ext x51)
   have ex58 := (((ex19.ext x22).ext x38).ext x51)
   have ex59 := (ex46.ext x51)
   exact ⟨true, H, _, env_eq ⟨rfl, rfl, rfl, rfl, trivial⟩, X53, ex54, ex55, ex56, ex57, ex58, ex59⟩
  have H := H.2 hc52
  refine LP_ev ok 13 [(21, .pointer (some ⟨b20, 3, none⟩))] 14 rfl rfl ?_
  have ex60 := (ex46.ext x51)
  refine LP_ldbox 14 (v := I t.Sum) rfl rfl rfl ti_3 ag_3 (fun _ => rfl) rfl ex60 rfl rfl ?_
  refine LP_ev ok 15 [(23, .bool (decide (t.Sum < ((-1))))), (24, .bool (decide (t.Sum < ((-1))))), (25, .bool (decide (t.Sum < ((-1)))))] 18 rfl rfl ?_
  refine LP_split 25 (decide (t.Sum < ((-1)))) rfl (fun hc61 => ?_) (fun hc61 => ?_)
  ·have H := H.1 hc61
   refine LP_ev ok 18 [(26, undef), (27, undef), (28, undef), (29, undef), (30, undef), (31, .bool true)] 24 rfl rfl ?_
   refine LP_end _ rfl ?_
   try refine W_forget [(1, sl a5 sx c6), (3, pb b), (5, pb b20), (31, .bool true)] ⟨rfl, rfl, rfl, rfl, trivial⟩ fun ρ => ?_
   have X62 := ((((X.stepx x).stepx x22).stepx x38).stepx x51)
   have ex63 := ((((ex.ext x).ext x22).ext x38).ext x51)
   have ex64 := (ex48.ext x51)
   have ex65 := ((ex36.ext x38).ext x51)
   have ex66 := (ex49.ext x51)
   have ex67 := (((ex19.ext x22).ext x38).ext x51)
   exact ⟨true, H, _, env_eq ⟨rfl, rfl, rfl, rfl, trivial⟩, X62, ex63, ex64, ex65, ex66, ex67, ex60⟩
  have H := H.2 hc61
  refine LP_ev ok 18 [(26, .pointer (some ⟨b20, 3, none⟩))] 19 rfl rfl ?_
  refine LP_ldbox 19 (v := I t.Sum) rfl rfl rfl ti_3 ag_3 (fun _ => rfl) rfl ex60 rfl rfl ?_
  refine LP_ev ok 20 [(28, sl a5 sx c6), (29, I (ln sx)), (30, .bool (decide (t.Sum ≥ (ln sx)))), (31, .bool (decide (t.Sum ≥ (ln sx))))] 24 rfl rfl ?_
  refine LP_end _ rfl ?_
  try refine W_forget [(1, sl a5 sx c6), (3, pb b), (5, pb b20), (31, .bool (decide (t.Sum ≥ (ln sx))))] ⟨rfl, rfl, rfl, rfl, trivial⟩ fun ρ => ?_
  have X68 := ((((X.stepx x).stepx x22).stepx x38).stepx x51)
  have ex69 := ((((ex.ext x).ext x22).ext x38).ext x51)
  have ex70 := (ex48.ext x51)
  have ex71 := ((ex36.ext x38).ext x51)
  have ex72 := (ex49.ext x51)
  have ex73 := (((ex19.ext x22).ext x38).ext x51)
  exact ⟨decide (t.Sum ≥ (ln sx)), H, _, env_eq ⟨rfl, rfl, rfl, rfl, trivial⟩, X68, ex69, ex70, ex71, ex72, ex73, ex60⟩
 rintro x25 _ wx26 ⟨H, ρ, rfl, HF⟩
 revert HF
 refine bb7 fun X33 ex27 ex28 ex29 ex30 ex31 ex32 => ?_
 subst hk
 refine W_cond (x25) rfl (fun hc74 => ?_) (fun hc74 => ?_)
 ·have H := H.1 hc74
  refine W_seq ?_
  refine W_region ?_
  refine LP_ev ok 0 [(6, .bool false)] 1 rfl rfl ?_
  refine LP_end _ rfl ?_
  refine W_ret ?_
  exact ⟨_, Ret_of [.bool false] ⟨⟨rfl, rfl⟩, trivial⟩, _, H, rfl, X33.ext⟩
 have H := H.2 hc74
 refine W_skip ?_
 refine W_seq ?_
 refine W_region ?_
 refine LP_ldbox 0 (v := .agg #[sl a g.Parents c]) rfl rfl rfl ti_32 ag_32 (fun h => by cases h) rfl ex31 rfl rfl ?_
 refine LP_ev ok 1 [(33, sl a5 sx c6)] 2 rfl rfl ?_
 refine LP_ldbox 2 (v := .agg #[I t.Level, sl a11 t.Vars c12, sl a17 t.Where c18, I t.Sum]) rfl rfl rfl ti_50 ag_50 (fun h => by cases h) rfl ex32 rfl rfl ?_
 refine LP_call 3 rfl rfl rfl cal_51 rfl (impl_cellCount_w _ _ _ _ H wx26 r ex27 r3 ex28 r9 ex29 r15 ex30) ?_
 rintro _ wx76 ⟨r75, H, rfl, x77⟩
 refine LP_ev ok 4 [(7, I r75)] 5 rfl rfl ?_
 refine LP_end _ rfl ?_
 obtain ⟨k80, hk81, H⟩ := jn_elim H
 refine W_join2 (S := Bool) (fun s ρ' w' => k80 s ∧ ∃ (ρ : Env), ρ' = setAll [(6, .bool s)] ρ ∧ wx76 = w') ?_ ?_
 ·refine W_region ?_
  refine LP_ev ok 0 [(36, I r75), (37, .bool (decide (r75 > 0))), (38, .bool (decide (r75 > 0)))] 3 rfl rfl ?_
  refine LP_split 38 (decide (r75 > 0)) rfl (fun hc82 => ?_) (fun hc82 => ?_)
  ·have H := H.1 hc82
   refine LP_ev ok 3 [(39, I r75), (40, .bool (decide (r75 ≤ 600))), (41, .bool (decide (r75 ≤ 600))), (6, .bool (decide (r75 ≤ 600)))] 7 rfl rfl ?_
   refine LP_end _ rfl ?_
   exact ⟨decide (r75 ≤ 600), H, _, env_eq ⟨rfl, trivial⟩, rfl⟩
  have H := H.2 hc82
  refine LP_ev ok 3 [(39, undef), (40, undef), (41, .bool false), (6, .bool false)] 7 rfl rfl ?_
  refine LP_end _ rfl ?_
  exact ⟨false, H, _, env_eq ⟨rfl, trivial⟩, rfl⟩
 rintro x78 _ _ ⟨H, ρ, rfl, rfl⟩
 subst hk81
 refine W_ret ?_
 have X83 := (X33.stepx x77)
 exact ⟨_, Ret_of [.bool x78] ⟨⟨rfl, rfl⟩, trivial⟩, _, H, rfl, X83.ext⟩

theorem impl_areWithin_w (l : List Int) (lo : Int) (hi : Int) (Q : Bool → Prop) (H : impl_areWithin l lo hi Q) (w : World) {vx : Value} {hx : PH} (r : RS hx vx l) (ex : Sub hx w) :
  CallsTo Try.prog 95 #[vx, I lo, I hi] w fun v w' => ∃ r0, Q r0 ∧ v = .bool r0 ∧ Ext w w' := by
 obtain ⟨a, c, rfl⟩ := r.shape
 refine enter (args := [sl a l c, I lo, I hi]) 24 Try.func95 rfl rfl rfl ?_
 refine W_forget [(0, sl a l c), (1, I lo), (2, I hi)] ⟨rfl, rfl, rfl, trivial⟩ fun ρ => ?_
 have X := But.refl emp w
 refine W_seq ?_
 refine W_region ?_
 refine LP_ev ok 0 [(6, .bool false)] 1 rfl rfl ?_
 refine LP_end _ rfl ?_
 refine W_seq ?_
 refine W_seq ?_
 refine W_region ?_
 refine LP_ev ok 0 [(9, sl a l c), (10, I (ln l)), (11, I 0)] 3 rfl rfl ?_
 refine LP_end _ rfl ?_
 refine W_block ?_
 obtain ⟨J, m, Hx, H⟩ := H
 refine W_loop (S := Int) (fun s ρ' w' => J s ∧ ∃ (ρ : Env), ρ' = setAll [(1, I lo), (2, I hi), (9, sl a l c), (10, I (ln l)), (11, I s)] ρ ∧ w = w') (fun s => m s) 0 ⟨Hx, _, env_eq ⟨rfl, rfl, rfl, rfl, rfl, trivial⟩, rfl⟩ ?_
 rintro x _ _ ⟨Hi, ρ, rfl, rfl⟩
 have H := H x Hi
 refine W_seq ?_
 refine W_region ?_
 refine LP_ev ok 0 [(12, .bool (decide (x < (ln l))))] 1 rfl rfl ?_
 refine LP_end _ rfl ?_
 refine W_seq ?_
 refine W_cond (decide (x < (ln l))) rfl (fun hc => ?_) (fun hc => ?_)
 ·have H := H.1 hc
  refine W_skip ?_
  refine W_seq ?_
  refine W_block ?_
  refine W_seq ?_
  refine W_region ?_
  obtain ⟨x1, hi2, hx3, H⟩ := H
  refine LP_index 0 rfl rfl rfl Try.underlying22 ti_3 rfl rfl r hi2 hx3 fun a4 cs r5 d => ?_
  refine LP_load 1 rfl rfl rfl ti_3 ag_3 rfl r5 d ex fun vx6 r7 => ?_
  obtain rfl := r7.int
  refine LP_ev ok 2 [(8, I x1)] 3 rfl rfl ?_
  refine LP_end _ rfl ?_
  obtain ⟨k, hk, H⟩ := jn_elim H
  refine W_join2 (S := Bool) (fun s ρ' w' => k s ∧ ∃ (ρ : Env), ρ' = setAll [(1, I lo), (2, I hi), (9, sl a l c), (10, I (ln l)), (11, I x), (22, .bool s)] ρ ∧ w = w') ?_ ?_
  ·refine W_region ?_
   refine LP_ev ok 0 [(15, I x1), (16, I lo), (17, .bool (decide (x1 < lo))), (18, .bool (decide (x1 < lo)))] 4 rfl rfl ?_
   refine LP_split 18 (decide (x1 < lo)) rfl (fun hc10 => ?_) (fun hc10 => ?_)
   ·have H := H.1 hc10
    refine LP_ev ok 4 [(19, undef), (20, undef), (21, undef), (22, .bool true)] 8 rfl rfl ?_
    refine LP_end _ rfl ?_
    exact ⟨true, H, _, env_eq ⟨rfl, rfl, rfl, rfl, rfl, rfl, trivial⟩, rfl⟩
   have H := H.2 hc10
   refine LP_ev ok 4 [(19, I x1), (20, I hi), (21, .bool (decide (x1 > hi))), (22, .bool (decide (x1 > hi)))] 8 rfl rfl ?_
   refine LP_end _ rfl ?_
   exact ⟨decide (x1 > hi), H, _, env_eq ⟨rfl, rfl, rfl, rfl, rfl, rfl, trivial⟩, rfl⟩
  rintro x8 _ _ ⟨H, ρ, rfl, rfl⟩
  subst hk
  refine W_cond (x8) rfl (fun hc11 => ?_) (fun hc11 => ?_)
  ·have H := H.1 hc11
   refine W_seq ?_
   refine W_region ?_
   refine LP_ev ok 0 [(6, .bool false)] 1 rfl rfl ?_
   refine LP_end _ rfl ?_
   refine W_ret ?_
   exact ⟨_, Ret_of [.bool false] ⟨⟨rfl, rfl⟩, trivial⟩, _, H, rfl, X.ext⟩
  have H := H.2 hc11
  refine W_skip ?_
  refine W_region ?_
  refine LP_ev ok 0 [(23, I (wr (x + 1))), (11, I (wr (x + 1)))] 2 rfl rfl ?_
  refine LP_end _ rfl ?_
  exact ⟨wr (x + 1), ⟨H.1, _, env_eq ⟨rfl, rfl, rfl, rfl, rfl, trivial⟩, rfl⟩, H.2⟩
 have H := H.2 hc
 refine W_exit ?_
 refine (if_pos rfl).mpr ?_
 refine W_seq ?_
 refine W_region ?_
 refine LP_ev ok 0 [(6, .bool true)] 1 rfl rfl ?_
 refine LP_end _ rfl ?_
 refine W_ret ?_
 exact ⟨_, Ret_of [.bool true] ⟨⟨rfl, rfl⟩, trivial⟩, _, H, rfl, X.ext⟩

theorem impl_arePublished_w (g : Geo) (sx : List Variable) (pubs : List Published) (Q : Bool → Prop) (H : impl_arePublished g sx pubs Q) (w : World) {vx : Value} {hx : PH} (r : RS hx vx g.Parents) (ex : Sub hx w) {vx1 : Value} {hx2 : PH} (r3 : RS hx2 vx1 sx) (ex4 : Sub hx2 w) {vx7 : Value} {hx8 : PH} (r9 : RS hx8 vx7 pubs) (ex10 : Sub hx8 w) :
  CallsTo Try.prog 62 #[.agg #[vx], vx1, vx7] w fun v w' => ∃ r0, Q r0 ∧ v = .bool r0 ∧ Ext w w' := by
 obtain ⟨a, c, rfl⟩ := r.shape
 obtain ⟨a5, c6, rfl⟩ := r3.shape
 obtain ⟨a11, c12, rfl⟩ := r9.shape
 refine enter (args := [.agg #[sl a g.Parents c], sl a5 sx c6, sl a11 pubs c12]) 42 Try.func62 rfl rfl rfl ?_
 refine W_forget [(0, .agg #[sl a g.Parents c]), (1, sl a5 sx c6), (2, sl a11 pubs c12)] ⟨rfl, rfl, rfl, trivial⟩ fun ρ => ?_
 have X := But.refl emp w
 refine W_seq ?_
 refine W_region ?_
 refine LP_box 0 (cs := [sl a g.Parents c]) rfl rfl rfl rfl rfl fun b wx x ex13 f => ?_
 refine LP_ev ok 1 [(6, .bool false)] 2 rfl rfl ?_
 refine LP_end _ rfl ?_
 refine W_seq ?_
 refine W_seq ?_
 refine W_region ?_
 refine LP_ev ok 0 [(9, sl a11 pubs c12), (10, I (ln pubs)), (11, .bool (decide ((ln pubs) > 20)))] 3 rfl rfl ?_
 refine LP_end _ rfl ?_
 refine W_cond (decide ((ln pubs) > 20)) rfl (fun hc => ?_) (fun hc => ?_)
 ·have H := H.1 hc
  refine W_seq ?_
  refine W_region ?_
  refine LP_ev ok 0 [(6, .bool false)] 1 rfl rfl ?_
  refine LP_end _ rfl ?_
  refine W_ret ?_
  have X14 := (X.stepx x)
  exact ⟨_, Ret_of [.bool false] ⟨⟨rfl, rfl⟩, trivial⟩, _, H, rfl, X14.ext⟩
 have H := H.2 hc
 refine W_skip ?_
 refine W_seq ?_
 refine W_seq ?_
 refine W_region ?_
 refine LP_ev ok 0 [(12, sl a11 pubs c12), (13, I (ln pubs)), (14, I 0)] 3 rfl rfl ?_
 refine LP_end _ rfl ?_
 refine W_block ?_
 have X22 := (X.stepx x)
 have ex23 := (ex.ext x)
 have ex24 := (ex4.ext x)
 have ex25 := (ex10.ext x)
 obtain ⟨J, m, Hx, H⟩ := H
 refine W_loop (S := Int) (fun s ρ' w' => J s ∧ ∃ (ρ : Env), ρ' = setAll [(1, sl a5 sx c6), (3, pb b), (12, sl a11 pubs c12), (13, I (ln pubs)), (14, I s)] ρ ∧ But emp w w' ∧ Sub hx w' ∧ Sub hx2 w' ∧ Sub hx8 w' ∧ Sub (bx b 32 [sl a g.Parents c]) w') (fun s => m s) 0 ⟨Hx, _, env_eq ⟨rfl, rfl, rfl, rfl, rfl, trivial⟩, X22, ex23, ex24, ex25, ex13⟩ ?_
 rintro x15 _ wx16 ⟨Hi, ρ, rfl, HF⟩
 revert HF
 refine bb5 fun X21 ex17 ex18 ex19 ex20 => ?_
 have H := H x15 Hi
 refine W_seq ?_
 refine W_region ?_
 refine LP_ev ok 0 [(15, .bool (decide (x15 < (ln pubs))))] 1 rfl rfl ?_
 refine LP_end _ rfl ?_
 refine W_seq ?_
 refine W_cond (decide (x15 < (ln pubs))) rfl (fun hc26 => ?_) (fun hc26 => ?_)
 ·have H := H.1 hc26
  refine W_skip ?_
  refine W_seq ?_
  refine W_block ?_
  refine W_seq ?_
  refine W_region ?_
  obtain ⟨x27, hi, hx28, H⟩ := H
  refine LP_index 0 rfl rfl rfl Try.underlying36 ti_69 rfl rfl r9 hi hx28 fun a29 cs r30 d => ?_
  have d31 := d
  obtain ⟨u, u33, u35, rfl, r32, r34, r36⟩ := Published_rd d31
  obtain ⟨a37, c38, rfl⟩ := r32.shape
  obtain ⟨a39, c40, rfl⟩ := r34.shape
  obtain ⟨a41, c42, rfl⟩ := r36.shape
  refine LP_load 1 rfl rfl rfl ti_69 ag_69 rfl r30 d ex19 fun vx43 r44 => ?_
  obtain ⟨u45, u47, u49, rfl, r46, r48, r50⟩ := Published_rv r44
  obtain ⟨a51, c52, rfl⟩ := r46.shape
  obtain ⟨a53, c54, rfl⟩ := r48.shape
  obtain ⟨a55, c56, rfl⟩ := r50.shape
  refine LP_alloc 2 rfl rfl rfl ti_69 rfl fun b57 wx58 x59 ex60 f61 => ?_
  refine LP_stbox 3 (vs := [I x27.Table.Level, sl a51 x27.Table.Vars c52, sl a53 x27.Table.Where c54, I x27.Table.Sum, sl a55 x27.Cells c56]) (cs' := [I x27.Table.Level, sl a51 x27.Table.Vars c52, sl a53 x27.Table.Where c54, I x27.Table.Sum, sl a55 x27.Cells c56]) rfl rfl rfl ti_69 rfl rfl rfl rfl rfl ex60 rfl rfl fun wx62 ex63 y => ?_
  refine LP_end _ rfl ?_
  obtain ⟨k, hk, H⟩ := jn_elim H
  refine W_join2 (S := Bool) (fun s ρ' w' => k s ∧ ∃ (ρ : Env), ρ' = setAll [(1, sl a5 sx c6), (3, pb b), (12, sl a11 pubs c12), (13, I (ln pubs)), (14, I x15), (40, .bool s)] ρ ∧ But emp w w' ∧ Sub hx w' ∧ Sub hx2 w' ∧ Sub hx8 w' ∧ Sub (bx b 32 [sl a g.Parents c]) w') ?_ ?_
  ·refine W_quiet mix (by kernel_rfl) ?_
   have ex71 := ((ex20.ext x59).but y (Dj.of_fresh ex20 f61).symm)
   refine QP_ldbox 0 (v := .agg #[sl a g.Parents c]) rfl rfl rfl ti_32 ag_32 (fun h => by cases h) rfl ex71 rfl rfl ?_
   refine QP_ev ok 1 [(19, sl a5 sx c6), (20, pb b57)] 3 rfl rfl ?_
   refine QP_ldbox 3 (v := .agg #[I x27.Table.Level, sl a51 x27.Table.Vars c52, sl a53 x27.Table.Where c54, I x27.Table.Sum]) rfl rfl rfl ti_50 ag_50 (fun h => by cases h) rfl ex63 rfl rfl ?_
   obtain ⟨r72, Hd, H⟩ := H
   have ex75 := ((ex17.ext x59).but y (Dj.of_fresh ex17 f61).symm)
   have ex76 := ((ex18.ext x59).but y (Dj.of_fresh ex18 f61).symm)
   have ex77 := ((ex19.ext x59).but y (Dj.of_fresh ex19 f61).symm)
   refine QP_call (.bool r72) 4 rfl rfl rfl cal_50 rfl (fun wx73 x74 => (impl_isTable_w _ _ _ _ Hd wx73 r (ex75.ext x74) r3 (ex76.ext x74) r46 (ex77.ext x74) r48 (ex77.ext x74)).mono ?_) ?_
   ·rintro _ _ ⟨_, rfl, rfl, x⟩; exact ⟨rfl, x⟩
   refine QP_ev ok 5 [(23, .bool (!r72)), (24, .bool (!r72))] 7 rfl rfl ?_
   refine QP_split 24 (!r72) rfl (fun hc78 => ?_) (fun hc78 => ?_)
   ·have H := H.1 hc78
    refine QP_ev ok 7 [(25, undef), (26, undef), (27, undef), (28, undef), (29, undef), (30, undef), (31, undef), (32, undef), (33, undef), (34, .bool true), (35, .bool true), (36, undef), (37, undef), (38, undef), (39, undef), (40, .bool true)] 23 rfl rfl ?_
    refine QP_end _ rfl fun wx79 x80 => ?_
    try refine W_forget [(1, sl a5 sx c6), (3, pb b), (12, sl a11 pubs c12), (13, I (ln pubs)), (14, I x15), (40, .bool true)] ⟨rfl, rfl, rfl, rfl, rfl, rfl, trivial⟩ fun ρ => ?_
    have f81 := f61.mono X21.size
    have X82 := (((X21.stepx x59).step y (f81.dom _)).stepx x80)
    have ex83 := (ex75.ext x80)
    have ex84 := (ex76.ext x80)
    have ex85 := (ex77.ext x80)
    have ex86 := (ex71.ext x80)
    exact ⟨true, H, _, env_eq ⟨rfl, rfl, rfl, rfl, rfl, rfl, trivial⟩, X82, ex83, ex84, ex85, ex86⟩
   have H := H.2 hc78
   refine QP_ev ok 7 [(25, .pointer (some ⟨b57, 4, none⟩))] 8 rfl rfl ?_
   refine QP_ldbox 8 (v := sl a55 x27.Cells c56) rfl rfl rfl ti_22 ag_22 (fun _ => rfl) rfl ex63 rfl rfl ?_
   refine QP_ev ok 9 [(27, I (ln x27.Cells))] 10 rfl rfl ?_
   refine QP_ldbox 10 (v := .agg #[sl a g.Parents c]) rfl rfl rfl ti_32 ag_32 (fun h => by cases h) rfl ex71 rfl rfl ?_
   refine QP_ev ok 11 [(29, sl a5 sx c6), (30, pb b57)] 13 rfl rfl ?_
   refine QP_ldbox 13 (v := .agg #[I x27.Table.Level, sl a51 x27.Table.Vars c52, sl a53 x27.Table.Where c54, I x27.Table.Sum]) rfl rfl rfl ti_50 ag_50 (fun h => by cases h) rfl ex63 rfl rfl ?_
   obtain ⟨r87, Hd88, H⟩ := H
   refine QP_call (I r87) 14 rfl rfl rfl cal_51 rfl (fun wx89 x90 => (impl_cellCount_w _ _ _ _ Hd88 wx89 r (ex75.ext x90) r3 (ex76.ext x90) r46 (ex77.ext x90) r48 (ex77.ext x90)).mono ?_) ?_
   ·rintro _ _ ⟨_, rfl, rfl, x⟩; exact ⟨rfl, x⟩
   refine QP_ev ok 15 [(33, .bool ((ln x27.Cells) != r87)), (34, .bool ((ln x27.Cells) != r87)), (35, .bool ((ln x27.Cells) != r87))] 18 rfl rfl ?_
   refine QP_split 35 ((ln x27.Cells) != r87) rfl (fun hc91 => ?_) (fun hc91 => ?_)
   ·have H := H.1 hc91
    refine QP_ev ok 18 [(36, undef), (37, undef), (38, undef), (39, undef), (40, .bool true)] 23 rfl rfl ?_
    refine QP_end _ rfl fun wx92 x93 => ?_
    try refine W_forget [(1, sl a5 sx c6), (3, pb b), (12, sl a11 pubs c12), (13, I (ln pubs)), (14, I x15), (25, .pointer (some ⟨b57, 4, none⟩)), (26, sl a55 x27.Cells c56), (27, I (ln x27.Cells)), (28, .agg #[sl a g.Parents c]), (29, sl a5 sx c6), (30, pb b57), (31, .agg #[I x27.Table.Level, sl a51 x27.Table.Vars c52, sl a53 x27.Table.Where c54, I x27.Table.Sum]), (32, I r87), (33, .bool ((ln x27.Cells) != r87)), (40, .bool true)] ⟨rfl, rfl, rfl, rfl, rfl, rfl, rfl, rfl, rfl, rfl, rfl, rfl, rfl, rfl, rfl, trivial⟩ fun ρ => ?_
    have f94 := f61.mono X21.size
    have X95 := (((X21.stepx x59).step y (f94.dom _)).stepx x93)
    have ex96 := (ex75.ext x93)
    have ex97 := (ex76.ext x93)
    have ex98 := (ex77.ext x93)
    have ex99 := (ex71.ext x93)
    exact ⟨true, H, _, env_eq ⟨rfl, rfl, rfl, rfl, rfl, rfl, trivial⟩, X95, ex96, ex97, ex98, ex99⟩
   have H := H.2 hc91
   refine QP_ev ok 18 [(36, .pointer (some ⟨b57, 4, none⟩))] 19 rfl rfl ?_
   refine QP_ldbox 19 (v := sl a55 x27.Cells c56) rfl rfl rfl ti_22 ag_22 (fun _ => rfl) rfl ex63 rfl rfl ?_
   obtain ⟨r100, Hd101, H⟩ := H
   refine QP_call (.bool r100) 20 rfl rfl rfl cal_95 rfl (fun wx102 x103 => (impl_areWithin_w _ _ _ _ Hd101 wx102 r50 (ex77.ext x103)).mono ?_) ?_
   ·rintro _ _ ⟨_, rfl, rfl, x⟩; exact ⟨rfl, x⟩
   refine QP_ev ok 21 [(39, .bool (!r100)), (40, .bool (!r100))] 23 rfl rfl ?_
   refine QP_end _ rfl fun wx104 x105 => ?_
   try refine W_forget [(1, sl a5 sx c6), (3, pb b), (12, sl a11 pubs c12), (13, I (ln pubs)), (14, I x15), (25, .pointer (some ⟨b57, 4, none⟩)), (26, sl a55 x27.Cells c56), (27, I (ln x27.Cells)), (28, .agg #[sl a g.Parents c]), (29, sl a5 sx c6), (30, pb b57), (31, .agg #[I x27.Table.Level, sl a51 x27.Table.Vars c52, sl a53 x27.Table.Where c54, I x27.Table.Sum]), (32, I r87), (33, .bool ((ln x27.Cells) != r87)), (36, .pointer (some ⟨b57, 4, none⟩)), (37, sl a55 x27.Cells c56), (38, .bool r100), (39, .bool (!r100)), (40, .bool (!r100))] ⟨rfl, rfl, rfl, rfl, rfl, rfl, rfl, rfl, rfl, rfl, rfl, rfl, rfl, rfl, rfl, rfl, rfl, rfl, rfl, trivial⟩ fun ρ => ?_
   have f106 := f61.mono X21.size
   have X107 := (((X21.stepx x59).step y (f106.dom _)).stepx x105)
   have ex108 := (ex75.ext x105)
   have ex109 := (ex76.ext x105)
   have ex110 := (ex77.ext x105)
   have ex111 := (ex71.ext x105)
   exact ⟨!r100, H, _, env_eq ⟨rfl, rfl, rfl, rfl, rfl, rfl, trivial⟩, X107, ex108, ex109, ex110, ex111⟩
  rintro x64 _ wx65 ⟨H, ρ, rfl, HF⟩
  revert HF
  refine bb5 fun X70 ex66 ex67 ex68 ex69 => ?_
  subst hk
  refine W_cond (x64) rfl (fun hc112 => ?_) (fun hc112 => ?_)
  ·have H := H.1 hc112
   refine W_seq ?_
   refine W_region ?_
   refine LP_ev ok 0 [(6, .bool false)] 1 rfl rfl ?_
   refine LP_end _ rfl ?_
   refine W_ret ?_
   exact ⟨_, Ret_of [.bool false] ⟨⟨rfl, rfl⟩, trivial⟩, _, H, rfl, X70.ext⟩
  have H := H.2 hc112
  refine W_skip ?_
  refine W_region ?_
  refine LP_ev ok 0 [(41, I (wr (x15 + 1))), (14, I (wr (x15 + 1)))] 2 rfl rfl ?_
  refine LP_end _ rfl ?_
  exact ⟨wr (x15 + 1), ⟨H.1, _, env_eq ⟨rfl, rfl, rfl, rfl, rfl, trivial⟩, X70, ex66, ex67, ex68, ex69⟩, H.2⟩
 have H := H.2 hc26
 refine W_exit ?_
 refine (if_pos rfl).mpr ?_
 refine W_seq ?_
 refine W_region ?_
 refine LP_ev ok 0 [(6, .bool true)] 1 rfl rfl ?_
 refine LP_end _ rfl ?_
 refine W_ret ?_
 exact ⟨_, Ret_of [.bool true] ⟨⟨rfl, rfl⟩, trivial⟩, _, H, rfl, X21.ext⟩

theorem impl_areAttacked_w (g : Geo) (sx : List Variable) (pubs : List Published) (Q : Bool → Prop) (H : impl_areAttacked g sx pubs Q) (w : World) {vx : Value} {hx : PH} (r : RS hx vx g.Parents) (ex : Sub hx w) {vx1 : Value} {hx2 : PH} (r3 : RS hx2 vx1 sx) (ex4 : Sub hx2 w) {vx7 : Value} {hx8 : PH} (r9 : RS hx8 vx7 pubs) (ex10 : Sub hx8 w) :
  CallsTo Try.prog 33 #[.agg #[vx], vx1, vx7] w fun v w' => ∃ r0, Q r0 ∧ v = .bool r0 ∧ Ext w w' := by
 obtain ⟨a, c, rfl⟩ := r.shape
 obtain ⟨a5, c6, rfl⟩ := r3.shape
 obtain ⟨a11, c12, rfl⟩ := r9.shape
 refine enter (args := [.agg #[sl a g.Parents c], sl a5 sx c6, sl a11 pubs c12]) 16 Try.func33 rfl rfl rfl ?_
 refine W_forget [(0, .agg #[sl a g.Parents c]), (1, sl a5 sx c6), (2, sl a11 pubs c12)] ⟨rfl, rfl, rfl, trivial⟩ fun ρ => ?_
 have X := But.refl emp w
 refine W_seq ?_
 refine W_region ?_
 refine LP_box 0 (cs := [sl a g.Parents c]) rfl rfl rfl rfl rfl fun b wx x ex13 f => ?_
 refine LP_ev ok 1 [(6, .bool false)] 2 rfl rfl ?_
 refine LP_end _ rfl ?_
 obtain ⟨k, hk, H⟩ := jn_elim H
 refine W_join2 (S := Bool) (fun s ρ' w' => k s ∧ ∃ (ρ : Env), ρ' = setAll [(6, .bool s)] ρ ∧ But emp w w') ?_ ?_
 ·refine W_region ?_
  refine LP_ldbox 0 (v := .agg #[sl a g.Parents c]) rfl rfl rfl ti_32 ag_32 (fun h => by cases h) rfl ex13 rfl rfl ?_
  refine LP_ev ok 1 [(8, sl a5 sx c6)] 2 rfl rfl ?_
  have ex18 := (ex.ext x)
  have ex19 := (ex4.ext x)
  refine LP_call 2 rfl rfl rfl cal_61 rfl (impl_areTyped_w _ _ _ H wx r ex18 r3 ex19) ?_
  rintro _ wx20 ⟨r17, H, rfl, x21⟩
  refine LP_ev ok 3 [(10, .bool r17)] 4 rfl rfl ?_
  refine LP_split 10 (r17) rfl (fun hc => ?_) (fun hc => ?_)
  ·have H := H.1 hc
   have ex22 := (ex13.ext x21)
   refine LP_ldbox 4 (v := .agg #[sl a g.Parents c]) rfl rfl rfl ti_32 ag_32 (fun h => by cases h) rfl ex22 rfl rfl ?_
   refine LP_ev ok 5 [(12, sl a5 sx c6), (13, sl a11 pubs c12)] 7 rfl rfl ?_
   have ex24 := (ex18.ext x21)
   have ex25 := (ex19.ext x21)
   have ex26 := ((ex10.ext x).ext x21)
   refine LP_call 7 rfl rfl rfl cal_62 rfl (impl_arePublished_w _ _ _ _ H wx20 r ex24 r3 ex25 r9 ex26) ?_
   rintro _ wx27 ⟨r23, H, rfl, x28⟩
   refine LP_ev ok 8 [(15, .bool r23), (6, .bool r23)] 10 rfl rfl ?_
   refine LP_end _ rfl ?_
   have X29 := (((X.stepx x).stepx x21).stepx x28)
   exact ⟨r23, H, _, env_eq ⟨rfl, trivial⟩, X29⟩
  have H := H.2 hc
  refine LP_ev ok 4 [(11, undef), (12, undef), (13, undef), (14, undef), (15, .bool false), (6, .bool false)] 10 rfl rfl ?_
  refine LP_end _ rfl ?_
  have X30 := ((X.stepx x).stepx x21)
  exact ⟨false, H, _, env_eq ⟨rfl, trivial⟩, X30⟩
 rintro x14 _ wx15 ⟨H, ρ, rfl, X16⟩
 subst hk
 refine W_ret ?_
 exact ⟨_, Ret_of [.bool x14] ⟨⟨rfl, rfl⟩, trivial⟩, _, H, rfl, X16.ext⟩

theorem impl_isPersons_w (n : Int) (Q : Bool → Prop) (H : impl_isPersons n Q) (w : World)  :
  CallsTo Try.prog 34 #[I n] w fun v w' => ∃ r0, Q r0 ∧ v = .bool r0 ∧ Ext w w' := by
 refine enter (args := [I n]) 9 Try.func34 rfl rfl rfl ?_
 refine W_forget [(0, I n)] ⟨rfl, trivial⟩ fun ρ => ?_
 have X := But.refl emp w
 refine W_seq ?_
 refine W_region ?_
 refine LP_ev ok 0 [(2, .bool false)] 1 rfl rfl ?_
 refine LP_end _ rfl ?_
 obtain ⟨k, hk, H⟩ := jn_elim H
 refine W_join2 (S := Bool) (fun s ρ' w' => k s ∧ ∃ (ρ : Env), ρ' = setAll [(2, .bool s)] ρ ∧ w = w') ?_ ?_
 ·refine W_region ?_
  refine LP_ev ok 0 [(3, I n), (4, .bool (decide (n ≥ 0))), (5, .bool (decide (n ≥ 0)))] 3 rfl rfl ?_
  refine LP_split 5 (decide (n ≥ 0)) rfl (fun hc => ?_) (fun hc => ?_)
  ·have H := H.1 hc
   refine LP_ev ok 3 [(6, I n), (7, .bool (decide (n ≤ 8))), (8, .bool (decide (n ≤ 8))), (2, .bool (decide (n ≤ 8)))] 7 rfl rfl ?_
   refine LP_end _ rfl ?_
   exact ⟨decide (n ≤ 8), H, _, env_eq ⟨rfl, trivial⟩, rfl⟩
  have H := H.2 hc
  refine LP_ev ok 3 [(6, undef), (7, undef), (8, .bool false), (2, .bool false)] 7 rfl rfl ?_
  refine LP_end _ rfl ?_
  exact ⟨false, H, _, env_eq ⟨rfl, trivial⟩, rfl⟩
 rintro x _ _ ⟨H, ρ, rfl, rfl⟩
 subst hk
 refine W_ret ?_
 exact ⟨_, Ret_of [.bool x] ⟨⟨rfl, rfl⟩, trivial⟩, _, H, rfl, X.ext⟩

theorem impl_valuesAt_w (sx : List Variable) (i : Int) (Q : (List Int) → Prop) (H : impl_valuesAt sx i Q) (w : World) {vx : Value} {hx : PH} (r : RS hx vx sx) (ex : Sub hx w) :
  CallsTo Try.prog 89 #[vx, I i] w fun v w' => ∃ r0 u0 g0, Q r0 ∧ v = u0 ∧ Ext w w' ∧ OS 3 g0 emp u0 r0 ∧ Sub g0 w' ∧ Fresh w.heap.size g0 := by
 obtain ⟨a, c, rfl⟩ := r.shape
 refine enter (args := [sl a sx c, I i]) 35 Try.func89 rfl rfl rfl ?_
 refine W_forget [(0, sl a sx c), (1, I i)] ⟨rfl, rfl, trivial⟩ fun ρ => ?_
 have X := But.refl emp w
 refine W_seq ?_
 refine W_region ?_
 refine LP_ev ok 0 [(4, .slice none 0 0)] 1 rfl rfl ?_
 refine LP_end _ rfl ?_
 refine W_seq ?_
 refine W_region ?_
 refine LP_ev ok 0 [(7, sl a sx c), (8, I (ln sx))] 2 rfl rfl ?_
 obtain ⟨hn, hb, H⟩ := H
 refine LP_make (α := Int) 2 rfl rfl rfl Try.underlying22 ti_3 (x0 := (0 : Int)) rfl rfl hn (by first | omega | (simp only [ln] at *; omega)) (by first | omega | (simp only [ln] at *; omega)) fun hx1 vx2 wx x o ex3 f => ?_
 obtain ⟨a4, c5, rfl⟩ := o.shape
 refine LP_ev ok 3 [(5, .slice a4 (List.length (List.replicate (Int.toNat (ln sx)) ((0 : Int)))) c5)] 4 rfl rfl ?_
 refine LP_end _ rfl ?_
 refine W_seq ?_
 refine W_seq ?_
 refine W_region ?_
 refine LP_ev ok 0 [(10, sl a sx c), (11, I (ln sx)), (12, I (wr ((ln sx) - 1))), (6, I (wr ((ln sx) - 1)))] 4 rfl rfl ?_
 refine LP_end _ rfl ?_
 refine W_block ?_
 have X15 := (X.stepx x)
 have f16 := f.mono X.size
 have ex17 := (ex.ext x)
 obtain ⟨J, m, Hx, H⟩ := H
 refine W_loop (S := Int × (List Int) × Int) (fun s ρ' w' => J s.1 s.2.1 s.2.2 ∧ ∃ (ρ : Env) (hx8 : PH), ρ' = setAll [(0, sl a sx c), (1, I s.1), (5, .slice a4 (List.length (List.replicate (Int.toNat (ln sx)) ((0 : Int)))) c5), (6, I s.2.2)] ρ ∧ But emp w w' ∧ OS 3 hx8 emp (.slice a4 (List.length (List.replicate (Int.toNat (ln sx)) ((0 : Int)))) c5) s.2.1 ∧ Sub hx8 w' ∧ Fresh w.heap.size hx8 ∧ Sub hx w' ∧ Dj hx8 hx) (fun s => m s.1 s.2.1 s.2.2) (i, List.replicate (Int.toNat (ln sx)) ((0 : Int)), wr ((ln sx) - 1)) ⟨Hx, _, hx1, env_eq ⟨rfl, rfl, rfl, rfl, trivial⟩, X15, o, ex3, f16, ex17, (Dj.of_fresh ex f).symm⟩ ?_
 rintro ⟨i6, values, k⟩ _ wx12 ⟨Hi, ρ, hx8, rfl, HF⟩
 revert HF
 refine bb6 fun X14 o9 ex10 f11 ex13 d => ?_
 have H := H i6 values k Hi
 refine W_seq ?_
 refine W_seq ?_
 refine W_region ?_
 refine LP_ev ok 0 [(13, I k), (14, .bool (decide (k ≥ 0)))] 2 rfl rfl ?_
 refine LP_end _ rfl ?_
 refine W_cond (decide (k ≥ 0)) rfl (fun hc => ?_) (fun hc => ?_)
 ·have H := H.1 hc
  refine W_skip ?_
  refine W_seq ?_
  refine W_block ?_
  refine W_seq ?_
  refine W_region ?_
  refine LP_ev ok 0 [(17, .slice a4 (List.length (List.replicate (Int.toNat (ln sx)) ((0 : Int)))) c5), (18, I k), (19, I i6), (20, sl a sx c), (21, I k)] 5 rfl rfl ?_
  obtain ⟨x18, hi, hx19, H⟩ := H
  refine LP_index 5 rfl rfl rfl Try.underlying34 ti_66 rfl rfl r hi hx19 fun a20 cs r21 d22 => ?_
  refine LP_ev ok 6 [(23, .pointer (some (Addr.add a20 1)))] 7 rfl rfl ?_
  refine LP_ldfld (x := x18) (off := 1) 7 (v := I x18.Levels) rfl rfl rfl ti_3 ag_3 (fun _ => rfl) rfl r21 d22 ex13 rfl rfl ?_
  obtain ⟨hz, H⟩ := H
  refine LP_val 8 _ rfl rfl (ex_rem rfl rfl rfl hz _) ?_
  obtain ⟨hi23, hl, H⟩ := H
  refine LP_indexw (v := .slice a4 (List.length (List.replicate (Int.toNat (ln sx)) ((0 : Int)))) c5) 9 rfl rfl rfl Try.underlying22 ti_3 rfl rfl o9 hi23 hl fun a24 wa => ?_
  refine LP_set 10 rfl rfl rfl rfl rfl wa (Le.refl emp) ⟨_, rfl, rfl⟩ ex10 fun hx25 wx26 o27 ex28 y dm => ?_
  refine LP_end _ rfl ?_
  refine W_region ?_
  refine LP_ev ok 0 [(27, I i6), (28, sl a sx c), (29, I k)] 3 rfl rfl ?_
  obtain ⟨x29, hi30, hx31, H⟩ := H
  refine LP_index 3 rfl rfl rfl Try.underlying34 ti_66 rfl rfl r hi30 hx31 fun a32 cs33 r34 d35 => ?_
  refine LP_ev ok 4 [(31, .pointer (some (Addr.add a32 1)))] 5 rfl rfl ?_
  have ex36 := (ex13.but y d)
  refine LP_ldfld (x := x29) (off := 1) 5 (v := I x29.Levels) rfl rfl rfl ti_3 ag_3 (fun _ => rfl) rfl r34 d35 ex36 rfl rfl ?_
  obtain ⟨hz37, H⟩ := H
  refine LP_val 6 _ rfl rfl (ex_quo rfl rfl rfl hz37 _) ?_
  refine LP_ev ok 7 [(1, I (wr (Int.tdiv i6 x29.Levels)))] 8 rfl rfl ?_
  refine LP_end _ rfl ?_
  refine W_region ?_
  refine LP_ev ok 0 [(15, I k), (16, I (wr (k - 1))), (6, I (wr (k - 1)))] 3 rfl rfl ?_
  refine LP_end _ rfl ?_
  have X38 := (X14.step y (f11.dom _))
  have f39 := (dm _).fresh f11 X14.size
  exact ⟨(wr (Int.tdiv i6 x29.Levels), List.set values (Int.toNat k) (Int.tmod i6 x18.Levels), wr (k - 1)), ⟨H.1, _, hx25, env_eq ⟨rfl, rfl, rfl, rfl, trivial⟩, X38, o27, ex28, f39, ex36, (DomLe.dj (dm _) d ex13)⟩, H.2⟩
 have H := H.2 hc
 refine W_exit ?_
 refine (if_pos rfl).mpr ?_
 refine W_seq ?_
 refine W_region ?_
 refine LP_ev ok 0 [(34, .slice a4 (List.length (List.replicate (Int.toNat (ln sx)) ((0 : Int)))) c5), (4, .slice a4 (List.length (List.replicate (Int.toNat (ln sx)) ((0 : Int)))) c5)] 2 rfl rfl ?_
 refine LP_end _ rfl ?_
 refine W_ret ?_
 exact ⟨_, Ret_of [.slice a4 (List.length (List.replicate (Int.toNat (ln sx)) ((0 : Int)))) c5] ⟨⟨rfl, rfl⟩, trivial⟩, _, _, _, H, rfl, X14.ext, o9, ex10, f11⟩

theorem impl_typeAt_w (g : Geo) (sx : List Variable) (i : Int) (Q : Record → Prop) (H : impl_typeAt g sx i Q) (w : World) {vx : Value} {hx : PH} (r : RS hx vx g.Parents) (ex : Sub hx w) {vx1 : Value} {hx2 : PH} (r3 : RS hx2 vx1 sx) (ex4 : Sub hx2 w) :
  CallsTo Try.prog 54 #[.agg #[vx], vx1, I i] w fun v w' => ∃ r0 u0_2 g0_2, Q r0 ∧ v = .agg #[I r0.Area, I r0.House, u0_2] ∧ Ext w w' ∧ OS 3 g0_2 emp u0_2 r0.Values ∧ Sub g0_2 w' ∧ Fresh w.heap.size g0_2 := by
 obtain ⟨a, c, rfl⟩ := r.shape
 obtain ⟨a5, c6, rfl⟩ := r3.shape
 refine enter (args := [.agg #[sl a g.Parents c], sl a5 sx c6, I i]) 23 Try.func54 rfl rfl rfl ?_
 refine W_forget [(0, .agg #[sl a g.Parents c]), (1, sl a5 sx c6), (2, I i)] ⟨rfl, rfl, rfl, trivial⟩ fun ρ => ?_
 have X := But.refl emp w
 refine W_seq ?_
 refine W_region ?_
 refine LP_box 0 (cs := [sl a g.Parents c]) rfl rfl rfl rfl rfl fun b wx x ex7 f => ?_
 refine LP_alloc 1 rfl rfl rfl ti_86 rfl fun b8 wx9 x10 ex11 f12 => ?_
 refine LP_end _ rfl ?_
 refine W_seq ?_
 refine W_region ?_
 refine LP_ev ok 0 [(8, sl a5 sx c6)] 1 rfl rfl ?_
 have ex14 := ((ex4.ext x).ext x10)
 refine LP_call 1 rfl rfl rfl cal_83 rfl (impl_combinations_w _ _ H wx9 r3 ex14) ?_
 rintro _ wx15 ⟨r13, H, rfl, x16⟩
 refine LP_ev ok 2 [(7, I r13)] 3 rfl rfl ?_
 refine LP_end _ rfl ?_
 refine W_seq ?_
 refine W_open mix fun wx17 x18 => ?_
 refine AP_game 12 [[], [0], [], [], [2, 3], [0, 1, 2, 3, 4], [0, 1, 2, 3, 4, 5], [], [], [], [8, 9], [0, 1, 7, 8, 9, 10], [0, 1, 2, 3, 4, 5, 6, 7, 8, 9, 10, 11], [0, 1, 2, 3, 4, 5, 6, 7, 8, 9, 10, 11, 12]] [[(3, none)], [(10, some 0)], [(2, none)], [(7, none)], [(12, some 2), (13, some 3)], [(11, some 1), (14, some 4)], [(15, some 5)], [(1, none)], [(2, none)], [(7, none)], [(18, some 8), (19, some 9)], [(17, some 7), (20, some 10)]] [(6, none), (16, some 6), (21, some 11)] [(0, false), (2, false), (3, false), (4, false), (7, false), (8, false), (9, false), (10, false), (1, true), (5, false), (6, false), (11, true)] (by kernel_rfl) (by kernel_rfl) ?_
 have ex19 := (((ex7.ext x10).ext x16).ext x18)
 refine GS_r1 [(3, pb b)] (.agg #[sl a g.Parents c]) rfl rfl (fun _ h => h) (fun _ w e => ex_ldbox rfl ti_32 ag_32 (fun h => by cases h) rfl e rfl rfl) ex19 ?_
 refine GS_ev ok [(2, I i)] (I i) rfl rfl (fun _ h => h) (fun _ => rfl) ?_
 refine GS_ev ok [(7, I r13)] (I r13) rfl rfl (fun _ h => h) (fun _ => rfl) ?_
 obtain ⟨hz, H⟩ := H
 refine GS_r0 [(12, I i), (13, I r13)] (I (wr (Int.tdiv i r13))) rfl rfl (fun _ h => h) (fun _ _ => ex_quo rfl rfl rfl hz _) ?_
 refine GS_ev ok [(1, sl a5 sx c6)] (sl a5 sx c6) rfl rfl (fun _ h => h) (fun _ => rfl) ?_
 refine GS_ev ok [(2, I i)] (I i) rfl rfl (fun _ h => h) (fun _ => rfl) ?_
 refine GS_ev ok [(7, I r13)] (I r13) rfl rfl (fun _ h => h) (fun _ => rfl) ?_
 obtain ⟨hz20, H⟩ := H
 refine GS_r0 [(18, I i), (19, I r13)] (I (Int.tmod i r13)) rfl rfl (fun _ h => h) (fun _ _ => ex_rem rfl rfl rfl hz20 _) ?_
 refine GS_lp [(10, .agg #[sl a g.Parents c])] rfl rfl (fun _ h => h) rfl fun ρ wx21 x22 => ?_
 have ex24 := (((((ex.ext x).ext x10).ext x16).ext x18).ext x22)
 refine LP_call 0 rfl rfl rfl cal_85 rfl (impl_leavesOf_w _ _ H wx21 r ex24) ?_
 rintro _ wx25 ⟨r23, vx27, hx28, H, rfl, x26, o, ex29, f30⟩
 obtain ⟨a31, c32, rfl⟩ := o.shape
 refine LP_gs ⟨⟨.inl rfl, trivial⟩, ?_⟩
 obtain ⟨x33, hi, hx34, H⟩ := H
 obtain ⟨a35, cs, hx37, r36, d⟩ := run_indexAt Try.underlying22 ti_3 o.readf .i64 _ x33 hi hx34
 refine GS_r0 [(11, sl a31 r23 c32), (14, I (wr (Int.tdiv i r13)))] (.pointer (some a35)) rfl rfl (fun _ h => h) (fun _ _ => ex_index rfl rfl rfl (hx37 _)) ?_
 obtain ⟨vx38, hx40, r39⟩ := run_loadAt ti_3 ag_3 r36 d
 obtain rfl := r39.int
 refine GS_r1 [(15, .pointer (some a35))] (I x33) rfl rfl (fun _ h => h) (fun _ w e => ex_load rfl rfl (hx40 w e)) ex29 ?_
 refine GS_lp [(17, sl a5 sx c6), (20, I (Int.tmod i r13))] rfl rfl (fun _ h => h) rfl fun ρ wx41 x42 => ?_
 have ex44 := (((((ex14.ext x16).ext x18).ext x22).ext x26).ext x42)
 refine LP_call 0 rfl rfl rfl cal_89 rfl (impl_valuesAt_w _ _ _ H wx41 r3 ex44) ?_
 rintro _ wx45 ⟨r43, vx47, hx48, H, rfl, x46, o49, ex50, f51⟩
 obtain ⟨a52, c53, rfl⟩ := o49.shape
 have ex54 := ((ex29.ext x42).ext x46)
 refine LP_gs ⟨⟨.inr ex54, .inl rfl, trivial⟩, ?_⟩
 intro wx55 x56 ρ hn
 refine AP_forget [(6, pb b8), (16, I x33), (21, sl a52 r43 c53)] (by exact hn) fun ρ => ?_
 refine AP_tail 12 [[], [0], [], [], [2, 3], [0, 1, 2, 3, 4], [0, 1, 2, 3, 4, 5], [], [], [], [8, 9], [0, 1, 7, 8, 9, 10], [0, 1, 2, 3, 4, 5, 6, 7, 8, 9, 10, 11], [0, 1, 2, 3, 4, 5, 6, 7, 8, 9, 10, 11, 12]] (by kernel_rfl) ?_
 refine LP_ev ok 12 [(22, .agg #[I x33, I 0, sl a52 r43 c53])] 13 rfl rfl ?_
 have ex59 := (((((((ex11.ext x16).ext x18).ext x22).ext x26).ext x42).ext x46).ext x56)
 refine LP_stbox 13 (vs := [I x33, I 0, sl a52 r43 c53]) (cs' := [I x33, I 0, sl a52 r43 c53]) rfl rfl rfl ti_86 rfl rfl rfl rfl rfl ex59 rfl rfl fun wx57 ex58 y => ?_
 refine LP_end _ rfl ?_
 refine W_ret ?_
 have ex60 := (((((ex11.ext x16).ext x18).ext x22).ext x26).ext x42)
 have ex61 := ((ex50.ext x56).but y (Dj.of_fresh ex60 f51))
 have X63 := (((((((X.stepx x).stepx x10).stepx x16).stepx x18).stepx x22).stepx x26).stepx x42)
 have f62 := f51.mono X63.size
 have X65 := (X.stepx x)
 have f64 := f12.mono X65.size
 have X66 := (((X63.stepx x46).stepx x56).step y (f64.dom _))
 exact ⟨_, Ret_of [.agg #[I x33, I 0, sl a52 r43 c53]] ⟨⟨_, rfl, rfl, ld_res ti_86 ag_86 (fun h => by cases h) ex58 rfl rfl⟩, trivial⟩, _, _, _, H, rfl, X66.ext, o49, ex61, f62⟩

theorem impl_ancestorAt_w (g : Geo) (i : Int) (level : Int) (Q : Int → Prop) (H : impl_ancestorAt g i level Q) (w : World) {vx : Value} {hx : PH} (r : RS hx vx g.Parents) (ex : Sub hx w) :
  CallsTo Try.prog 86 #[.agg #[vx], I i, I level] w fun v w' => ∃ r0, Q r0 ∧ v = I r0 ∧ Ext w w' := by
 obtain ⟨a, c, rfl⟩ := r.shape
 refine enter (args := [.agg #[sl a g.Parents c], I i, I level]) 29 Try.func86 rfl rfl rfl ?_
 refine W_forget [(0, .agg #[sl a g.Parents c]), (1, I i), (2, I level)] ⟨rfl, rfl, rfl, trivial⟩ fun ρ => ?_
 have X := But.refl emp w
 refine W_seq ?_
 refine W_region ?_
 refine LP_box 0 (cs := [sl a g.Parents c]) rfl rfl rfl rfl rfl fun b wx x ex1 f => ?_
 refine LP_ev ok 1 [(6, I 0)] 2 rfl rfl ?_
 refine LP_end _ rfl ?_
 refine W_seq ?_
 refine W_region ?_
 refine LP_ldbox 0 (v := .agg #[sl a g.Parents c]) rfl rfl rfl ti_32 ag_32 (fun h => by cases h) rfl ex1 rfl rfl ?_
 refine LP_ev ok 1 [(9, I i)] 2 rfl rfl ?_
 have ex3 := (ex.ext x)
 refine LP_call 2 rfl rfl rfl cal_102 rfl (impl_depthOf_w _ _ _ H wx r ex3) ?_
 rintro _ wx4 ⟨r2, H, rfl, x5⟩
 refine LP_ev ok 3 [(7, I r2)] 4 rfl rfl ?_
 refine LP_end _ rfl ?_
 refine W_seq ?_
 obtain ⟨k, hk, H⟩ := jn_elim H
 refine W_join2 (S := Bool) (fun s ρ' w' => k s ∧ ∃ (ρ : Env), ρ' = setAll [(1, I i), (2, I level), (3, pb b), (7, I r2), (17, .bool s)] ρ ∧ wx4 = w') ?_ ?_
 ·refine W_region ?_
  refine LP_ev ok 0 [(11, I level), (12, .bool (decide (level < 0))), (13, .bool (decide (level < 0)))] 3 rfl rfl ?_
  refine LP_split 13 (decide (level < 0)) rfl (fun hc => ?_) (fun hc => ?_)
  ·have H := H.1 hc
   refine LP_ev ok 3 [(14, undef), (15, undef), (16, undef), (17, .bool true)] 7 rfl rfl ?_
   refine LP_end _ rfl ?_
   exact ⟨true, H, _, env_eq ⟨rfl, rfl, rfl, rfl, rfl, trivial⟩, rfl⟩
  have H := H.2 hc
  refine LP_ev ok 3 [(14, I r2), (15, I level), (16, .bool (decide (r2 < level))), (17, .bool (decide (r2 < level)))] 7 rfl rfl ?_
  refine LP_end _ rfl ?_
  exact ⟨decide (r2 < level), H, _, env_eq ⟨rfl, rfl, rfl, rfl, rfl, trivial⟩, rfl⟩
 rintro x6 _ _ ⟨H, ρ, rfl, rfl⟩
 subst hk
 refine W_cond (x6) rfl (fun hc8 => ?_) (fun hc8 => ?_)
 ·have H := H.1 hc8
  refine W_seq ?_
  refine W_region ?_
  refine LP_ev ok 0 [(6, I ((-1)))] 1 rfl rfl ?_
  refine LP_end _ rfl ?_
  refine W_ret ?_
  have X9 := ((X.stepx x).stepx x5)
  exact ⟨_, Ret_of [I ((-1))] ⟨⟨rfl, rfl⟩, trivial⟩, _, H, rfl, X9.ext⟩
 have H := H.2 hc8
 refine W_skip ?_
 refine W_seq ?_
 refine W_block ?_
 obtain ⟨J, m, Hx, H⟩ := H
 refine W_loop (S := Int × Int) (fun s ρ' w' => J s.1 s.2 ∧ ∃ (ρ : Env), ρ' = setAll [(1, I s.1), (2, I level), (3, pb b), (7, I s.2)] ρ ∧ wx4 = w') (fun s => m s.1 s.2) (i, r2) ⟨Hx, _, env_eq ⟨rfl, rfl, rfl, rfl, trivial⟩, rfl⟩ ?_
 rintro ⟨i10, d⟩ _ _ ⟨Hi, ρ, rfl, rfl⟩
 have H := H i10 d Hi
 refine W_seq ?_
 refine W_seq ?_
 refine W_region ?_
 refine LP_ev ok 0 [(18, I d), (19, I level), (20, .bool (decide (d > level)))] 3 rfl rfl ?_
 refine LP_end _ rfl ?_
 refine W_cond (decide (d > level)) rfl (fun hc12 => ?_) (fun hc12 => ?_)
 ·have H := H.1 hc12
  refine W_skip ?_
  refine W_seq ?_
  refine W_block ?_
  refine W_region ?_
  refine LP_ev ok 0 [(23, pb b)] 1 rfl rfl ?_
  have ex13 := (ex1.ext x5)
  refine LP_ldbox 1 (v := sl a g.Parents c) rfl rfl rfl ti_22 ag_22 (fun _ => rfl) rfl ex13 rfl rfl ?_
  refine LP_ev ok 2 [(25, I i10)] 3 rfl rfl ?_
  obtain ⟨x14, hi, hx15, H⟩ := H
  refine LP_index 3 rfl rfl rfl Try.underlying22 ti_3 rfl rfl r hi hx15 fun a16 cs r17 d18 => ?_
  have ex19 := (ex3.ext x5)
  refine LP_load 4 rfl rfl rfl ti_3 ag_3 rfl r17 d18 ex19 fun vx20 r21 => ?_
  obtain rfl := r21.int
  refine LP_ev ok 5 [(1, I x14)] 6 rfl rfl ?_
  refine LP_end _ rfl ?_
  refine W_region ?_
  refine LP_ev ok 0 [(21, I d), (22, I (wr (d - 1))), (7, I (wr (d - 1)))] 3 rfl rfl ?_
  refine LP_end _ rfl ?_
  exact ⟨(x14, wr (d - 1)), ⟨H.1, _, env_eq ⟨rfl, rfl, rfl, rfl, trivial⟩, rfl⟩, H.2⟩
 have H := H.2 hc12
 refine W_exit ?_
 refine (if_pos rfl).mpr ?_
 refine W_seq ?_
 refine W_region ?_
 refine LP_ev ok 0 [(28, I i10), (6, I i10)] 2 rfl rfl ?_
 refine LP_end _ rfl ?_
 refine W_ret ?_
 have X22 := ((X.stepx x).stepx x5)
 exact ⟨_, Ret_of [I i10] ⟨⟨rfl, rfl⟩, trivial⟩, _, H, rfl, X22.ext⟩

theorem impl_meetsWhere_w (t : Table) (r7 : Record) (Q : Bool → Prop) (H : impl_meetsWhere t r7 Q) (w : World) {vx : Value} {hx : PH} (r : RS hx vx t.Vars) (ex : Sub hx w) {vx1 : Value} {hx2 : PH} (r3 : RS hx2 vx1 t.Where) (ex4 : Sub hx2 w) {vx8 : Value} {hx9 : PH} (r10 : RS hx9 vx8 r7.Values) (ex11 : Sub hx9 w) :
  CallsTo Try.prog 87 #[.agg #[I t.Level, vx, vx1, I t.Sum], .agg #[I r7.Area, I r7.House, vx8]] w fun v w' => ∃ r0, Q r0 ∧ v = .bool r0 ∧ Ext w w' := by
 obtain ⟨a, c, rfl⟩ := r.shape
 obtain ⟨a5, c6, rfl⟩ := r3.shape
 obtain ⟨a12, c13, rfl⟩ := r10.shape
 refine enter (args := [.agg #[I t.Level, sl a t.Vars c, sl a5 t.Where c6, I t.Sum], .agg #[I r7.Area, I r7.House, sl a12 r7.Values c13]]) 29 Try.func87 rfl rfl rfl ?_
 refine W_forget [(0, .agg #[I t.Level, sl a t.Vars c, sl a5 t.Where c6, I t.Sum]), (1, .agg #[I r7.Area, I r7.House, sl a12 r7.Values c13])] ⟨rfl, rfl, trivial⟩ fun ρ => ?_
 have X := But.refl emp w
 refine W_seq ?_
 refine W_region ?_
 refine LP_box 0 (cs := [I t.Level, sl a t.Vars c, sl a5 t.Where c6, I t.Sum]) rfl rfl rfl rfl rfl fun b wx x ex14 f => ?_
 refine LP_box 1 (cs := [I r7.Area, I r7.House, sl a12 r7.Values c13]) rfl rfl rfl rfl rfl fun b15 wx16 x17 ex18 f19 => ?_
 refine LP_ev ok 2 [(4, .bool false)] 3 rfl rfl ?_
 refine LP_end _ rfl ?_
 refine W_seq ?_
 refine W_seq ?_
 refine W_region ?_
 refine LP_ev ok 0 [(7, .pointer (some ⟨b, 2, none⟩))] 1 rfl rfl ?_
 have ex20 := (ex14.ext x17)
 refine LP_ldbox 1 (v := sl a5 t.Where c6) rfl rfl rfl ti_22 ag_22 (fun _ => rfl) rfl ex20 rfl rfl ?_
 refine LP_ev ok 2 [(9, I (ln t.Where)), (10, I 0)] 4 rfl rfl ?_
 refine LP_end _ rfl ?_
 refine W_block ?_
 obtain ⟨J, m, Hx, H⟩ := H
 refine W_loop (S := Int) (fun s ρ' w' => J s ∧ ∃ (ρ : Env), ρ' = setAll [(3, pb b15), (8, sl a5 t.Where c6), (9, I (ln t.Where)), (10, I s)] ρ ∧ wx16 = w') (fun s => m s) 0 ⟨Hx, _, env_eq ⟨rfl, rfl, rfl, rfl, trivial⟩, rfl⟩ ?_
 rintro x21 _ _ ⟨Hi, ρ, rfl, rfl⟩
 have H := H x21 Hi
 refine W_seq ?_
 refine W_region ?_
 refine LP_ev ok 0 [(11, .bool (decide (x21 < (ln t.Where))))] 1 rfl rfl ?_
 refine LP_end _ rfl ?_
 refine W_seq ?_
 refine W_cond (decide (x21 < (ln t.Where))) rfl (fun hc => ?_) (fun hc => ?_)
 ·have H := H.1 hc
  refine W_skip ?_
  refine W_seq ?_
  refine W_block ?_
  refine W_seq ?_
  refine W_region ?_
  refine LP_ev ok 0 [(12, I x21)] 1 rfl rfl ?_
  obtain ⟨x23, hi, hx24, H⟩ := H
  refine LP_index 1 rfl rfl rfl Try.underlying22 ti_3 rfl rfl r3 hi hx24 fun a25 cs r26 d => ?_
  have ex27 := ((ex4.ext x).ext x17)
  refine LP_load 2 rfl rfl rfl ti_3 ag_3 rfl r26 d ex27 fun vx28 r29 => ?_
  obtain rfl := r29.int
  refine LP_ev ok 3 [(5, I x21), (6, I x23)] 5 rfl rfl ?_
  refine LP_end _ rfl ?_
  obtain ⟨k, hk, H⟩ := jn_elim H
  refine W_join2 (S := Bool) (fun s ρ' w' => k s ∧ ∃ (ρ : Env), ρ' = setAll [(3, pb b15), (8, sl a5 t.Where c6), (9, I (ln t.Where)), (10, I x21), (27, .bool s)] ρ ∧ wx16 = w') ?_ ?_
  ·refine W_region ?_
   refine LP_ev ok 0 [(15, I x23), (16, .bool (x23 != 0)), (17, .bool (x23 != 0))] 3 rfl rfl ?_
   refine LP_split 17 (x23 != 0) rfl (fun hc32 => ?_) (fun hc32 => ?_)
   ·have H := H.1 hc32
    refine LP_ev ok 3 [(18, I x23), (19, .pointer (some ⟨b15, 2, none⟩))] 5 rfl rfl ?_
    refine LP_ldbox 5 (v := sl a12 r7.Values c13) rfl rfl rfl ti_22 ag_22 (fun _ => rfl) rfl ex18 rfl rfl ?_
    refine LP_ev ok 6 [(21, I x21)] 7 rfl rfl ?_
    obtain ⟨x33, hi34, hx35, H⟩ := H
    refine LP_index 7 rfl rfl rfl Try.underlying22 ti_3 rfl rfl r10 hi34 hx35 fun a36 cs37 r38 d39 => ?_
    have ex40 := ((ex11.ext x).ext x17)
    refine LP_load 8 rfl rfl rfl ti_3 ag_3 rfl r38 d39 ex40 fun vx41 r42 => ?_
    obtain rfl := r42.int
    obtain ⟨hz, H⟩ := H
    refine LP_val 9 _ rfl rfl (ex_shr rfl rfl rfl hz _) ?_
    refine LP_ev ok 10 [(25, I (bits .and .i64 (shr .i64 x23 x33) 1)), (26, .bool ((bits .and .i64 (shr .i64 x23 x33) 1) == 0)), (27, .bool ((bits .and .i64 (shr .i64 x23 x33) 1) == 0))] 13 rfl rfl ?_
    refine LP_end _ rfl ?_
    exact ⟨(bits .and .i64 (shr .i64 x23 x33) 1) == 0, H, _, env_eq ⟨rfl, rfl, rfl, rfl, rfl, trivial⟩, rfl⟩
   have H := H.2 hc32
   refine LP_ev ok 3 [(18, undef), (19, undef), (20, undef), (21, undef), (22, undef), (23, undef), (24, undef), (25, undef), (26, undef), (27, .bool false)] 13 rfl rfl ?_
   refine LP_end _ rfl ?_
   exact ⟨false, H, _, env_eq ⟨rfl, rfl, rfl, rfl, rfl, trivial⟩, rfl⟩
  rintro x30 _ _ ⟨H, ρ, rfl, rfl⟩
  subst hk
  refine W_cond (x30) rfl (fun hc43 => ?_) (fun hc43 => ?_)
  ·have H := H.1 hc43
   refine W_seq ?_
   refine W_region ?_
   refine LP_ev ok 0 [(4, .bool false)] 1 rfl rfl ?_
   refine LP_end _ rfl ?_
   refine W_ret ?_
   have X44 := ((X.stepx x).stepx x17)
   exact ⟨_, Ret_of [.bool false] ⟨⟨rfl, rfl⟩, trivial⟩, _, H, rfl, X44.ext⟩
  have H := H.2 hc43
  refine W_skip ?_
  refine W_region ?_
  refine LP_ev ok 0 [(28, I (wr (x21 + 1))), (10, I (wr (x21 + 1)))] 2 rfl rfl ?_
  refine LP_end _ rfl ?_
  exact ⟨wr (x21 + 1), ⟨H.1, _, env_eq ⟨rfl, rfl, rfl, rfl, trivial⟩, rfl⟩, H.2⟩
 have H := H.2 hc
 refine W_exit ?_
 refine (if_pos rfl).mpr ?_
 refine W_seq ?_
 refine W_region ?_
 refine LP_ev ok 0 [(4, .bool true)] 1 rfl rfl ?_
 refine LP_end _ rfl ?_
 refine W_ret ?_
 have X45 := ((X.stepx x).stepx x17)
 exact ⟨_, Ret_of [.bool true] ⟨⟨rfl, rfl⟩, trivial⟩, _, H, rfl, X45.ext⟩

theorem cmp_isNaN_int_w (x : Int) (Q : Bool → Prop) (H : cmp_isNaN_int x Q) (w : World)  :
  CallsTo Try.prog 111 #[I x] w fun v w' => ∃ r0, Q r0 ∧ v = .bool r0 ∧ Ext w w' := by
 refine enter (args := [I x]) 6 Try.func111 rfl rfl rfl ?_
 refine W_forget [(0, I x)] ⟨rfl, trivial⟩ fun ρ => ?_
 have X := But.refl emp w
 refine W_seq ?_
 refine W_region ?_
 refine LP_ev ok 0 [(2, .bool false)] 1 rfl rfl ?_
 refine LP_end _ rfl ?_
 refine W_seq ?_
 refine W_region ?_
 refine LP_ev ok 0 [(3, I x), (4, I x), (5, .bool (x != x)), (2, .bool (x != x))] 4 rfl rfl ?_
 refine LP_end _ rfl ?_
 refine W_ret ?_
 exact ⟨_, Ret_of [.bool (x != x)] ⟨⟨rfl, rfl⟩, trivial⟩, _, H, rfl, X.ext⟩

theorem cmp_Less_int_w (x : Int) (y : Int) (Q : Bool → Prop) (H : cmp_Less_int x y Q) (w : World)  :
  CallsTo Try.prog 108 #[I x, I y] w fun v w' => ∃ r0, Q r0 ∧ v = .bool r0 ∧ Ext w w' := by
 refine enter (args := [I x, I y]) 17 Try.func108 rfl rfl rfl ?_
 refine W_forget [(0, I x), (1, I y)] ⟨rfl, rfl, trivial⟩ fun ρ => ?_
 have X := But.refl emp w
 refine W_seq ?_
 refine W_region ?_
 refine LP_ev ok 0 [(4, .bool false)] 1 rfl rfl ?_
 refine LP_end _ rfl ?_
 obtain ⟨k, hk, H⟩ := jn_elim H
 refine W_join2 (S := Bool) (fun s ρ' w' => k s ∧ ∃ (ρ : Env), ρ' = setAll [(4, .bool s)] ρ ∧ But emp w w') ?_ ?_
 ·refine W_region ?_
  refine LP_ev ok 0 [(5, I x)] 1 rfl rfl ?_
  refine LP_call 1 rfl rfl rfl cal_111 rfl (cmp_isNaN_int_w _ _ H w ) ?_
  rintro _ wx3 ⟨r, H, rfl, x4⟩
  refine LP_ev ok 2 [(7, .bool r)] 3 rfl rfl ?_
  refine LP_split 7 (r) rfl (fun hc => ?_) (fun hc => ?_)
  ·have H := H.1 hc
   refine LP_ev ok 3 [(8, I y)] 4 rfl rfl ?_
   refine LP_call 4 rfl rfl rfl cal_111 rfl (cmp_isNaN_int_w _ _ H wx3 ) ?_
   rintro _ wx6 ⟨r5, H, rfl, x7⟩
   refine LP_ev ok 5 [(10, .bool (!r5)), (11, .bool (!r5)), (12, .bool (!r5))] 8 rfl rfl ?_
   refine LP_split 12 (!r5) rfl (fun hc8 => ?_) (fun hc8 => ?_)
   ·have H := H.1 hc8
    refine LP_ev ok 8 [(13, undef), (14, undef), (15, undef), (16, .bool true), (4, .bool true)] 13 rfl rfl ?_
    refine LP_end _ rfl ?_
    have X9 := ((X.stepx x4).stepx x7)
    exact ⟨true, H, _, env_eq ⟨rfl, trivial⟩, X9⟩
   have H := H.2 hc8
   refine LP_ev ok 8 [(13, I x), (14, I y), (15, .bool (decide (x < y))), (16, .bool (decide (x < y))), (4, .bool (decide (x < y)))] 13 rfl rfl ?_
   refine LP_end _ rfl ?_
   have X10 := ((X.stepx x4).stepx x7)
   exact ⟨decide (x < y), H, _, env_eq ⟨rfl, trivial⟩, X10⟩
  have H := H.2 hc
  refine LP_ev ok 3 [(8, undef), (9, undef), (10, undef), (11, .bool false), (12, .bool false), (13, I x), (14, I y), (15, .bool (decide (x < y))), (16, .bool (decide (x < y))), (4, .bool (decide (x < y)))] 13 rfl rfl ?_
  refine LP_end _ rfl ?_
  have X11 := (X.stepx x4)
  exact ⟨decide (x < y), H, _, env_eq ⟨rfl, trivial⟩, X11⟩
 rintro x1 _ wx ⟨H, ρ, rfl, X2⟩
 subst hk
 refine W_ret ?_
 exact ⟨_, Ret_of [.bool x1] ⟨⟨rfl, rfl⟩, trivial⟩, _, H, rfl, X2.ext⟩

theorem slices_isNaN_int_w (x : Int) (Q : Bool → Prop) (H : slices_isNaN_int x Q) (w : World)  :
  CallsTo Try.prog 109 #[I x] w fun v w' => ∃ r0, Q r0 ∧ v = .bool r0 ∧ Ext w w' := by
 refine enter (args := [I x]) 6 Try.func109 rfl rfl rfl ?_
 refine W_forget [(0, I x)] ⟨rfl, trivial⟩ fun ρ => ?_
 have X := But.refl emp w
 refine W_seq ?_
 refine W_region ?_
 refine LP_ev ok 0 [(2, .bool false)] 1 rfl rfl ?_
 refine LP_end _ rfl ?_
 refine W_seq ?_
 refine W_region ?_
 refine LP_ev ok 0 [(3, I x), (4, I x), (5, .bool (x != x)), (2, .bool (x != x))] 4 rfl rfl ?_
 refine LP_end _ rfl ?_
 refine W_ret ?_
 exact ⟨_, Ret_of [.bool (x != x)] ⟨⟨rfl, rfl⟩, trivial⟩, _, H, rfl, X.ext⟩

theorem slices_BinarySearch_int_int_w (x : List Int) (target : Int) (Q : Int → Bool → Prop) (H : slices_BinarySearch_int_int x target Q) (w : World) {vx : Value} {hx : PH} (r : RS hx vx x) (ex : Sub hx w) :
  CallsTo Try.prog 104 #[vx, I target] w fun v w' => ∃ r0 r1, Q r0 r1 ∧ v = .tuple #[I r0, .bool r1] ∧ Ext w w' := by
 obtain ⟨a, c, rfl⟩ := r.shape
 refine enter (args := [sl a x c, I target]) 54 Try.func104 rfl rfl rfl ?_
 refine W_forget [(0, sl a x c), (1, I target)] ⟨rfl, rfl, trivial⟩ fun ρ => ?_
 have X := But.refl emp w
 refine W_seq ?_
 refine W_region ?_
 refine LP_ev ok 0 [(4, I 0), (5, .bool false)] 2 rfl rfl ?_
 refine LP_end _ rfl ?_
 refine W_seq ?_
 refine W_region ?_
 refine LP_ev ok 0 [(10, sl a x c), (11, I (ln x)), (6, I (ln x))] 3 rfl rfl ?_
 refine LP_end _ rfl ?_
 refine W_seq ?_
 refine W_region ?_
 refine LP_ev ok 0 [(12, I (ln x)), (7, I 0), (8, I (ln x))] 3 rfl rfl ?_
 refine LP_end _ rfl ?_
 refine W_seq ?_
 refine W_block ?_
 obtain ⟨J, m, Hx, H⟩ := H
 refine W_loop (S := Int × Int) (fun s ρ' w' => J s.1 s.2 ∧ ∃ (ρ : Env), ρ' = setAll [(0, sl a x c), (1, I target), (6, I (ln x)), (7, I s.1), (8, I s.2)] ρ ∧ But emp w w' ∧ Sub hx w') (fun s => m s.1 s.2) (0, ln x) ⟨Hx, _, env_eq ⟨rfl, rfl, rfl, rfl, rfl, trivial⟩, X, ex⟩ ?_
 rintro ⟨i, j⟩ _ wx ⟨Hi, ρ, rfl, X2, ex1⟩
 have H := H i j Hi
 refine W_seq ?_
 refine W_seq ?_
 refine W_region ?_
 refine LP_ev ok 0 [(13, I i), (14, I j), (15, .bool (decide (i < j)))] 3 rfl rfl ?_
 refine LP_end _ rfl ?_
 refine W_cond (decide (i < j)) rfl (fun hc => ?_) (fun hc => ?_)
 ·have H := H.1 hc
  refine W_skip ?_
  refine W_block ?_
  refine W_seq ?_
  refine W_region ?_
  refine LP_ev ok 0 [(16, I i), (17, I j), (18, I (wr (i + j))), (19, .int .u64 (IntKind.u64.wrap (wr (i + j)))), (20, .int .u64 (Int.fdiv (IntKind.u64.wrap (wr (i + j))) (2 ^ 1))), (21, I (wr (Int.fdiv (IntKind.u64.wrap (wr (i + j))) (2 ^ 1)))), (9, I (wr (Int.fdiv (IntKind.u64.wrap (wr (i + j))) (2 ^ 1))))] 7 rfl rfl ?_
  refine LP_end _ rfl ?_
  refine W_seq ?_
  refine W_region ?_
  refine LP_ev ok 0 [(22, sl a x c), (23, I (wr (Int.fdiv (IntKind.u64.wrap (wr (i + j))) (2 ^ 1))))] 2 rfl rfl ?_
  obtain ⟨x3, hi, hx4, H⟩ := H
  refine LP_index 2 rfl rfl rfl Try.underlying22 ti_3 rfl rfl r hi hx4 fun a5 cs r6 d => ?_
  refine LP_load 3 rfl rfl rfl ti_3 ag_3 rfl r6 d ex1 fun vx7 r8 => ?_
  obtain rfl := r8.int
  refine LP_ev ok 4 [(26, I target)] 5 rfl rfl ?_
  refine LP_call 5 rfl rfl rfl cal_108 rfl (cmp_Less_int_w _ _ _ H wx ) ?_
  rintro _ wx10 ⟨r9, H, rfl, x11⟩
  refine LP_end _ rfl ?_
  refine W_cond (r9) rfl (fun hc12 => ?_) (fun hc12 => ?_)
  ·have H := H.1 hc12
   refine W_region ?_
   refine LP_ev ok 0 [(28, I (wr (Int.fdiv (IntKind.u64.wrap (wr (i + j))) (2 ^ 1)))), (29, I (wr ((wr (Int.fdiv (IntKind.u64.wrap (wr (i + j))) (2 ^ 1))) + 1))), (7, I (wr ((wr (Int.fdiv (IntKind.u64.wrap (wr (i + j))) (2 ^ 1))) + 1)))] 3 rfl rfl ?_
   refine LP_end _ rfl ?_
   have X13 := (X2.stepx x11)
   have ex14 := (ex1.ext x11)
   exact ⟨(wr ((wr (Int.fdiv (IntKind.u64.wrap (wr (i + j))) (2 ^ 1))) + 1), j), ⟨H.1, _, env_eq ⟨rfl, rfl, rfl, rfl, rfl, trivial⟩, X13, ex14⟩, H.2⟩
  have H := H.2 hc12
  refine W_region ?_
  refine LP_ev ok 0 [(30, I (wr (Int.fdiv (IntKind.u64.wrap (wr (i + j))) (2 ^ 1)))), (8, I (wr (Int.fdiv (IntKind.u64.wrap (wr (i + j))) (2 ^ 1))))] 2 rfl rfl ?_
  refine LP_end _ rfl ?_
  have X15 := (X2.stepx x11)
  have ex16 := (ex1.ext x11)
  exact ⟨(i, wr (Int.fdiv (IntKind.u64.wrap (wr (i + j))) (2 ^ 1))), ⟨H.1, _, env_eq ⟨rfl, rfl, rfl, rfl, rfl, trivial⟩, X15, ex16⟩, H.2⟩
 have H := H.2 hc
 refine W_exit ?_
 refine (if_pos rfl).mpr ?_
 obtain ⟨k, hk, H⟩ := jn_elim H
 refine W_join2 (S := Int × Bool) (fun s ρ' w' => k s.1 s.2 ∧ ∃ (ρ : Env), ρ' = setAll [(4, I s.1), (5, .bool s.2)] ρ ∧ But emp w w') ?_ ?_
 ·refine W_region ?_
  refine LP_ev ok 0 [(31, I i), (32, I i), (33, I (ln x)), (34, .bool (decide (i < (ln x)))), (35, .bool (decide (i < (ln x))))] 5 rfl rfl ?_
  refine LP_split 35 (decide (i < (ln x))) rfl (fun hc21 => ?_) (fun hc21 => ?_)
  ·have H := H.1 hc21
   refine LP_ev ok 5 [(36, sl a x c), (37, I i)] 7 rfl rfl ?_
   obtain ⟨x22, hi23, hx24, H⟩ := H
   refine LP_index 7 rfl rfl rfl Try.underlying22 ti_3 rfl rfl r hi23 hx24 fun a25 cs26 r27 d28 => ?_
   refine LP_load 8 rfl rfl rfl ti_3 ag_3 rfl r27 d28 ex1 fun vx29 r30 => ?_
   obtain rfl := r30.int
   refine LP_ev ok 9 [(40, I target), (41, .bool (x22 == target)), (42, .bool (x22 == target))] 12 rfl rfl ?_
   refine LP_split 42 (x22 == target) rfl (fun hc31 => ?_) (fun hc31 => ?_)
   ·have H := H.1 hc31
    refine LP_ev ok 12 [(43, undef), (44, undef), (45, undef), (46, undef), (47, undef), (48, undef), (49, undef), (50, undef), (51, undef), (52, .bool true), (53, .bool true), (4, I i), (5, .bool true)] 25 rfl rfl ?_
    refine LP_end _ rfl ?_
    try refine W_forget [(4, I i), (5, .bool true)] ⟨rfl, rfl, trivial⟩ fun ρ => ?_
    exact ⟨(i, true), H, _, env_eq ⟨rfl, rfl, trivial⟩, X2⟩
   have H := H.2 hc31
   refine LP_ev ok 12 [(43, sl a x c), (44, I i)] 14 rfl rfl ?_
   obtain ⟨x32, hi33, hx34, H⟩ := H
   refine LP_index 14 rfl rfl rfl Try.underlying22 ti_3 rfl rfl r hi33 hx34 fun a35 cs36 r37 d38 => ?_
   refine LP_load 15 rfl rfl rfl ti_3 ag_3 rfl r37 d38 ex1 fun vx39 r40 => ?_
   obtain rfl := r40.int
   refine LP_call 16 rfl rfl rfl cal_109 rfl (slices_isNaN_int_w _ _ H wx ) ?_
   rintro _ wx42 ⟨r41, H, rfl, x43⟩
   refine LP_ev ok 17 [(48, .bool r41)] 18 rfl rfl ?_
   refine LP_split 48 (r41) rfl (fun hc44 => ?_) (fun hc44 => ?_)
   ·have H := H.1 hc44
    refine LP_ev ok 18 [(49, I target)] 19 rfl rfl ?_
    refine LP_call 19 rfl rfl rfl cal_109 rfl (slices_isNaN_int_w _ _ H wx42 ) ?_
    rintro _ wx46 ⟨r45, H, rfl, x47⟩
    refine LP_ev ok 20 [(51, .bool r45), (52, .bool r45), (53, .bool r45), (4, I i), (5, .bool r45)] 25 rfl rfl ?_
    refine LP_end _ rfl ?_
    try refine W_forget [(4, I i), (5, .bool r45)] ⟨rfl, rfl, trivial⟩ fun ρ => ?_
    have X48 := ((X2.stepx x43).stepx x47)
    exact ⟨(i, r45), H, _, env_eq ⟨rfl, rfl, trivial⟩, X48⟩
   have H := H.2 hc44
   refine LP_ev ok 18 [(49, undef), (50, undef), (51, .bool false), (52, .bool false), (53, .bool false), (4, I i), (5, .bool false)] 25 rfl rfl ?_
   refine LP_end _ rfl ?_
   try refine W_forget [(4, I i), (5, .bool false)] ⟨rfl, rfl, trivial⟩ fun ρ => ?_
   have X49 := (X2.stepx x43)
   exact ⟨(i, false), H, _, env_eq ⟨rfl, rfl, trivial⟩, X49⟩
  have H := H.2 hc21
  refine LP_ev ok 5 [(36, undef), (37, undef), (38, undef), (39, undef), (40, undef), (41, undef), (42, undef), (43, undef), (44, undef), (45, undef), (46, undef), (47, undef), (48, undef), (49, undef), (50, undef), (51, undef), (52, undef), (53, .bool false), (4, I i), (5, .bool false)] 25 rfl rfl ?_
  refine LP_end _ rfl ?_
  try refine W_forget [(4, I i), (5, .bool false)] ⟨rfl, rfl, trivial⟩ fun ρ => ?_
  exact ⟨(i, false), H, _, env_eq ⟨rfl, rfl, trivial⟩, X2⟩
 rintro ⟨x17, x18⟩ _ wx19 ⟨H, ρ, rfl, X20⟩
 subst hk
 refine W_ret ?_
 exact ⟨_, Ret_of [I x17, .bool x18] ⟨⟨rfl, rfl⟩, ⟨rfl, rfl⟩, trivial⟩, _, _, H, rfl, X20.ext⟩

theorem impl_indexOfValues_w (sx : List Variable) (values : List Int) (Q : Int → Prop) (H : impl_indexOfValues sx values Q) (w : World) {vx : Value} {hx : PH} (r : RS hx vx sx) (ex : Sub hx w) {vx1 : Value} {hx2 : PH} (r3 : RS hx2 vx1 values) (ex4 : Sub hx2 w) :
  CallsTo Try.prog 105 #[vx, vx1] w fun v w' => ∃ r0, Q r0 ∧ v = I r0 ∧ Ext w w' := by
 obtain ⟨a, c, rfl⟩ := r.shape
 obtain ⟨a5, c6, rfl⟩ := r3.shape
 refine enter (args := [sl a sx c, sl a5 values c6]) 26 Try.func105 rfl rfl rfl ?_
 refine W_forget [(0, sl a sx c), (1, sl a5 values c6)] ⟨rfl, rfl, trivial⟩ fun ρ => ?_
 have X := But.refl emp w
 refine W_seq ?_
 refine W_region ?_
 refine LP_ev ok 0 [(4, I 0)] 1 rfl rfl ?_
 refine LP_end _ rfl ?_
 refine W_seq ?_
 refine W_region ?_
 refine LP_ev ok 0 [(5, I 0)] 1 rfl rfl ?_
 refine LP_end _ rfl ?_
 refine W_seq ?_
 refine W_seq ?_
 refine W_region ?_
 refine LP_ev ok 0 [(8, sl a5 values c6), (9, I (ln values)), (10, I 0)] 3 rfl rfl ?_
 refine LP_end _ rfl ?_
 refine W_block ?_
 obtain ⟨J, m, Hx, H⟩ := H
 refine W_loop (S := Int × Int) (fun s ρ' w' => J s.1 s.2 ∧ ∃ (ρ : Env), ρ' = setAll [(0, sl a sx c), (5, I s.1), (8, sl a5 values c6), (9, I (ln values)), (10, I s.2)] ρ ∧ w = w') (fun s => m s.1 s.2) (0, 0) ⟨Hx, _, env_eq ⟨rfl, rfl, rfl, rfl, rfl, trivial⟩, rfl⟩ ?_
 rintro ⟨i, x⟩ _ _ ⟨Hi, ρ, rfl, rfl⟩
 have H := H i x Hi
 refine W_seq ?_
 refine W_region ?_
 refine LP_ev ok 0 [(11, .bool (decide (x < (ln values))))] 1 rfl rfl ?_
 refine LP_end _ rfl ?_
 refine W_seq ?_
 refine W_cond (decide (x < (ln values))) rfl (fun hc => ?_) (fun hc => ?_)
 ·have H := H.1 hc
  refine W_skip ?_
  refine W_seq ?_
  refine W_block ?_
  refine W_seq ?_
  refine W_region ?_
  refine LP_ev ok 0 [(12, I x)] 1 rfl rfl ?_
  obtain ⟨x7, hi, hx8, H⟩ := H
  refine LP_index 1 rfl rfl rfl Try.underlying22 ti_3 rfl rfl r3 hi hx8 fun a9 cs r10 d => ?_
  refine LP_load 2 rfl rfl rfl ti_3 ag_3 rfl r10 d ex4 fun vx11 r12 => ?_
  obtain rfl := r12.int
  refine LP_ev ok 3 [(6, I x), (7, I x7)] 5 rfl rfl ?_
  refine LP_end _ rfl ?_
  refine W_region ?_
  refine LP_ev ok 0 [(15, I i), (16, sl a sx c), (17, I x)] 3 rfl rfl ?_
  obtain ⟨x13, hi14, hx15, H⟩ := H
  refine LP_index 3 rfl rfl rfl Try.underlying34 ti_66 rfl rfl r hi14 hx15 fun a16 cs17 r18 d19 => ?_
  refine LP_ev ok 4 [(19, .pointer (some (Addr.add a16 1)))] 5 rfl rfl ?_
  refine LP_ldfld (x := x13) (off := 1) 5 (v := I x13.Levels) rfl rfl rfl ti_3 ag_3 (fun _ => rfl) rfl r18 d19 ex rfl rfl ?_
  refine LP_ev ok 6 [(21, I (wr (i * x13.Levels))), (22, I x7), (23, I (wr ((wr (i * x13.Levels)) + x7))), (5, I (wr ((wr (i * x13.Levels)) + x7)))] 10 rfl rfl ?_
  refine LP_end _ rfl ?_
  refine W_region ?_
  refine LP_ev ok 0 [(24, I (wr (x + 1))), (10, I (wr (x + 1)))] 2 rfl rfl ?_
  refine LP_end _ rfl ?_
  exact ⟨(wr ((wr (i * x13.Levels)) + x7), wr (x + 1)), ⟨H.1, _, env_eq ⟨rfl, rfl, rfl, rfl, rfl, trivial⟩, rfl⟩, H.2⟩
 have H := H.2 hc
 refine W_exit ?_
 refine (if_pos rfl).mpr ?_
 refine W_seq ?_
 refine W_region ?_
 refine LP_ev ok 0 [(25, I i), (4, I i)] 2 rfl rfl ?_
 refine LP_end _ rfl ?_
 refine W_ret ?_
 exact ⟨_, Ret_of [I i] ⟨⟨rfl, rfl⟩, trivial⟩, _, H, rfl, X.ext⟩

theorem impl_cellIndex_w (g : Geo) (sx : List Variable) (t : Table) (area : Int) (values : List Int) (Q : Int → Prop) (H : impl_cellIndex g sx t area values Q) (w : World) {vx : Value} {hx : PH} (r : RS hx vx g.Parents) (ex : Sub hx w) {vx1 : Value} {hx2 : PH} (r3 : RS hx2 vx1 sx) (ex4 : Sub hx2 w) {vx7 : Value} {hx8 : PH} (r9 : RS hx8 vx7 t.Vars) (ex10 : Sub hx8 w) {vx13 : Value} {hx14 : PH} (r15 : RS hx14 vx13 t.Where) (ex16 : Sub hx14 w) {vx19 : Value} {hx20 : PH} (r21 : RS hx20 vx19 values) (ex22 : Sub hx20 w) :
  CallsTo Try.prog 88 #[.agg #[vx], vx1, .agg #[I t.Level, vx7, vx13, I t.Sum], I area, vx19] w fun v w' => ∃ r0, Q r0 ∧ v = I r0 ∧ Ext w w' := by
 obtain ⟨a, c, rfl⟩ := r.shape
 obtain ⟨a5, c6, rfl⟩ := r3.shape
 obtain ⟨a11, c12, rfl⟩ := r9.shape
 obtain ⟨a17, c18, rfl⟩ := r15.shape
 obtain ⟨a23, c24, rfl⟩ := r21.shape
 refine enter (args := [.agg #[sl a g.Parents c], sl a5 sx c6, .agg #[I t.Level, sl a11 t.Vars c12, sl a17 t.Where c18, I t.Sum], I area, sl a23 values c24]) 36 Try.func88 rfl rfl rfl ?_
 refine W_forget [(0, .agg #[sl a g.Parents c]), (1, sl a5 sx c6), (2, .agg #[I t.Level, sl a11 t.Vars c12, sl a17 t.Where c18, I t.Sum]), (3, I area), (4, sl a23 values c24)] ⟨rfl, rfl, rfl, rfl, rfl, trivial⟩ fun ρ => ?_
 have X := But.refl emp w
 refine W_seq ?_
 refine W_region ?_
 refine LP_box 0 (cs := [sl a g.Parents c]) rfl rfl rfl rfl rfl fun b wx x ex25 f => ?_
 refine LP_box 1 (cs := [I t.Level, sl a11 t.Vars c12, sl a17 t.Where c18, I t.Sum]) rfl rfl rfl rfl rfl fun b26 wx27 x28 ex29 f30 => ?_
 refine LP_ev ok 2 [(10, I 0)] 3 rfl rfl ?_
 refine LP_end _ rfl ?_
 refine W_seq ?_
 refine W_region ?_
 have ex31 := (ex25.ext x28)
 refine LP_ldbox 0 (v := .agg #[sl a g.Parents c]) rfl rfl rfl ti_32 ag_32 (fun h => by cases h) rfl ex31 rfl rfl ?_
 refine LP_ev ok 1 [(16, pb b26)] 2 rfl rfl ?_
 refine LP_ldbox 2 (v := I t.Level) rfl rfl rfl ti_3 ag_3 (fun _ => rfl) rfl ex29 rfl rfl ?_
 have ex33 := ((ex.ext x).ext x28)
 refine LP_call 3 rfl rfl rfl cal_82 rfl (impl_areasAt_w _ _ _ H wx27 r ex33) ?_
 rintro _ wx34 ⟨r32, vx36, hx37, H, rfl, x35, o, ex38, f39⟩
 obtain ⟨a40, c41, rfl⟩ := o.shape
 refine LP_ev ok 4 [(19, I area)] 5 rfl rfl ?_
 refine LP_call 5 rfl rfl rfl cal_104 rfl (slices_BinarySearch_int_int_w _ _ _ H wx34 o.readf ex38) ?_
 rintro _ wx44 ⟨r42, r43, H, rfl, x45⟩
 refine LP_ev ok 6 [(14, .tuple #[I r42, .bool r43]), (21, I r42), (22, .bool r43), (11, I r42), (12, .bool r43)] 11 rfl rfl ?_
 refine LP_end _ rfl ?_
 refine W_seq ?_
 refine W_seq ?_
 refine W_region ?_
 refine LP_ev ok 0 [(23, .bool r43), (24, .bool (!r43))] 2 rfl rfl ?_
 refine LP_end _ rfl ?_
 refine W_cond (!r43) rfl (fun hc => ?_) (fun hc => ?_)
 ·have H := H.1 hc
  refine W_seq ?_
  refine W_region ?_
  refine LP_ev ok 0 [(10, I ((-1)))] 1 rfl rfl ?_
  refine LP_end _ rfl ?_
  refine W_ret ?_
  have X46 := ((((X.stepx x).stepx x28).stepx x35).stepx x45)
  exact ⟨_, Ret_of [I ((-1))] ⟨⟨rfl, rfl⟩, trivial⟩, _, H, rfl, X46.ext⟩
 have H := H.2 hc
 refine W_skip ?_
 refine W_seq ?_
 refine W_region ?_
 refine LP_ev ok 0 [(25, sl a5 sx c6)] 1 rfl rfl ?_
 have ex47 := ((ex29.ext x35).ext x45)
 refine LP_ldbox 1 (v := .agg #[I t.Level, sl a11 t.Vars c12, sl a17 t.Where c18, I t.Sum]) rfl rfl rfl ti_50 ag_50 (fun h => by cases h) rfl ex47 rfl rfl ?_
 have ex49 := ((((ex4.ext x).ext x28).ext x35).ext x45)
 have ex50 := ((((ex10.ext x).ext x28).ext x35).ext x45)
 have ex51 := ((((ex16.ext x).ext x28).ext x35).ext x45)
 refine LP_call 2 rfl rfl rfl cal_84 rfl (impl_crossed_w _ _ _ H wx44 r3 ex49 r9 ex50 r15 ex51) ?_
 rintro _ wx52 ⟨r48, vx54, hx55, H, rfl, x53, o56, ex57, f58⟩
 obtain ⟨a59, c60, rfl⟩ := o56.shape
 refine LP_ev ok 3 [(13, sl a59 r48 c60)] 4 rfl rfl ?_
 refine LP_end _ rfl ?_
 refine W_seq ?_
 refine W_region ?_
 refine LP_ev ok 0 [(28, I r42), (29, sl a59 r48 c60)] 2 rfl rfl ?_
 refine LP_call 2 rfl rfl rfl cal_83 rfl (impl_combinations_w _ _ H wx52 o56.readf ex57) ?_
 rintro _ wx62 ⟨r61, H, rfl, x63⟩
 refine LP_ev ok 3 [(31, I (wr (r42 * r61))), (32, sl a59 r48 c60), (33, sl a23 values c24)] 6 rfl rfl ?_
 have ex65 := (ex57.ext x63)
 have ex66 := ((((((ex22.ext x).ext x28).ext x35).ext x45).ext x53).ext x63)
 refine LP_call 6 rfl rfl rfl cal_105 rfl (impl_indexOfValues_w _ _ _ H wx62 o56.readf ex65 r21 ex66) ?_
 rintro _ wx67 ⟨r64, H, rfl, x68⟩
 refine LP_ev ok 7 [(35, I (wr ((wr (r42 * r61)) + r64))), (10, I (wr ((wr (r42 * r61)) + r64)))] 9 rfl rfl ?_
 refine LP_end _ rfl ?_
 try refine W_forget [(10, I (wr ((wr (r42 * r61)) + r64)))] ⟨rfl, trivial⟩ fun ρ => ?_
 refine W_ret ?_
 have X69 := (((((((X.stepx x).stepx x28).stepx x35).stepx x45).stepx x53).stepx x63).stepx x68)
 exact ⟨_, Ret_of [I (wr ((wr (r42 * r61)) + r64))] ⟨⟨rfl, rfl⟩, trivial⟩, _, H, rfl, X69.ext⟩

theorem impl_contribution_w (g : Geo) (sx : List Variable) (t : Table) (r19 : Record) (Q : Int → Int → Prop) (H : impl_contribution g sx t r19 Q) (w : World) {vx : Value} {hx : PH} (r : RS hx vx g.Parents) (ex : Sub hx w) {vx1 : Value} {hx2 : PH} (r3 : RS hx2 vx1 sx) (ex4 : Sub hx2 w) {vx7 : Value} {hx8 : PH} (r9 : RS hx8 vx7 t.Vars) (ex10 : Sub hx8 w) {vx13 : Value} {hx14 : PH} (r15 : RS hx14 vx13 t.Where) (ex16 : Sub hx14 w) {vx20 : Value} {hx21 : PH} (r22 : RS hx21 vx20 r19.Values) (ex23 : Sub hx21 w) :
  CallsTo Try.prog 53 #[.agg #[vx], vx1, .agg #[I t.Level, vx7, vx13, I t.Sum], .agg #[I r19.Area, I r19.House, vx20]] w fun v w' => ∃ r0 r1, Q r0 r1 ∧ v = .tuple #[I r0, I r1] ∧ Ext w w' := by
 obtain ⟨a, c, rfl⟩ := r.shape
 obtain ⟨a5, c6, rfl⟩ := r3.shape
 obtain ⟨a11, c12, rfl⟩ := r9.shape
 obtain ⟨a17, c18, rfl⟩ := r15.shape
 obtain ⟨a24, c25, rfl⟩ := r22.shape
 refine enter (args := [.agg #[sl a g.Parents c], sl a5 sx c6, .agg #[I t.Level, sl a11 t.Vars c12, sl a17 t.Where c18, I t.Sum], .agg #[I r19.Area, I r19.House, sl a24 r19.Values c25]]) 66 Try.func53 rfl rfl rfl ?_
 refine W_forget [(0, .agg #[sl a g.Parents c]), (1, sl a5 sx c6), (2, .agg #[I t.Level, sl a11 t.Vars c12, sl a17 t.Where c18, I t.Sum]), (3, .agg #[I r19.Area, I r19.House, sl a24 r19.Values c25])] ⟨rfl, rfl, rfl, rfl, trivial⟩ fun ρ => ?_
 have X := But.refl emp w
 refine W_seq ?_
 refine W_region ?_
 refine LP_box 0 (cs := [sl a g.Parents c]) rfl rfl rfl rfl rfl fun b wx x ex26 f => ?_
 refine LP_box 1 (cs := [I t.Level, sl a11 t.Vars c12, sl a17 t.Where c18, I t.Sum]) rfl rfl rfl rfl rfl fun b27 wx28 x29 ex30 f31 => ?_
 refine LP_box 2 (cs := [I r19.Area, I r19.House, sl a24 r19.Values c25]) rfl rfl rfl rfl rfl fun b32 wx33 x34 ex35 f36 => ?_
 refine LP_ev ok 3 [(8, I 0), (9, I 0)] 5 rfl rfl ?_
 refine LP_end _ rfl ?_
 refine W_seq ?_
 refine W_region ?_
 have ex37 := ((ex26.ext x29).ext x34)
 refine LP_ldbox 0 (v := .agg #[sl a g.Parents c]) rfl rfl rfl ti_32 ag_32 (fun h => by cases h) rfl ex37 rfl rfl ?_
 refine LP_ev ok 1 [(16, pb b32)] 2 rfl rfl ?_
 refine LP_ldbox 2 (v := I r19.Area) rfl rfl rfl ti_3 ag_3 (fun _ => rfl) rfl ex35 rfl rfl ?_
 refine LP_ev ok 3 [(18, pb b27)] 4 rfl rfl ?_
 have ex38 := (ex30.ext x34)
 refine LP_ldbox 4 (v := I t.Level) rfl rfl rfl ti_3 ag_3 (fun _ => rfl) rfl ex38 rfl rfl ?_
 have ex40 := (((ex.ext x).ext x29).ext x34)
 refine LP_call 5 rfl rfl rfl cal_86 rfl (impl_ancestorAt_w _ _ _ _ H wx33 r ex40) ?_
 rintro _ wx41 ⟨r39, H, rfl, x42⟩
 refine LP_ev ok 6 [(10, I r39)] 7 rfl rfl ?_
 refine LP_end _ rfl ?_
 refine W_seq ?_
 obtain ⟨k, hk, H⟩ := jn_elim H
 refine W_join2 (S := Bool) (fun s ρ' w' => k s ∧ ∃ (ρ : Env), ρ' = setAll [(1, sl a5 sx c6), (4, pb b), (6, pb b27), (7, pb b32), (10, I r39), (28, .bool s)] ρ ∧ But emp w w' ∧ Sub hx w' ∧ Sub hx2 w' ∧ Sub hx8 w' ∧ Sub hx14 w' ∧ Sub hx21 w' ∧ Sub (bx b 32 [sl a g.Parents c]) w' ∧ Sub (bx b27 50 [I t.Level, sl a11 t.Vars c12, sl a17 t.Where c18, I t.Sum]) w' ∧ Sub (bx b32 86 [I r19.Area, I r19.House, sl a24 r19.Values c25]) w') ?_ ?_
 ·refine W_region ?_
  refine LP_ev ok 0 [(21, I r39), (22, .bool (decide (r39 < 0))), (23, .bool (decide (r39 < 0)))] 3 rfl rfl ?_
  refine LP_split 23 (decide (r39 < 0)) rfl (fun hc => ?_) (fun hc => ?_)
  ·have H := H.1 hc
   refine LP_ev ok 3 [(24, undef), (25, undef), (26, undef), (27, undef), (28, .bool true)] 8 rfl rfl ?_
   refine LP_end _ rfl ?_
   have X54 := ((((X.stepx x).stepx x29).stepx x34).stepx x42)
   have ex55 := (ex40.ext x42)
   have ex56 := ((((ex4.ext x).ext x29).ext x34).ext x42)
   have ex57 := ((((ex10.ext x).ext x29).ext x34).ext x42)
   have ex58 := ((((ex16.ext x).ext x29).ext x34).ext x42)
   have ex59 := ((((ex23.ext x).ext x29).ext x34).ext x42)
   have ex60 := (ex37.ext x42)
   have ex61 := (ex38.ext x42)
   have ex62 := (ex35.ext x42)
   exact ⟨true, H, _, env_eq ⟨rfl, rfl, rfl, rfl, rfl, rfl, trivial⟩, X54, ex55, ex56, ex57, ex58, ex59, ex60, ex61, ex62⟩
  have H := H.2 hc
  have ex63 := (ex38.ext x42)
  refine LP_ldbox 3 (v := .agg #[I t.Level, sl a11 t.Vars c12, sl a17 t.Where c18, I t.Sum]) rfl rfl rfl ti_50 ag_50 (fun h => by cases h) rfl ex63 rfl rfl ?_
  have ex64 := (ex35.ext x42)
  refine LP_ldbox 4 (v := .agg #[I r19.Area, I r19.House, sl a24 r19.Values c25]) rfl rfl rfl ti_86 ag_86 (fun h => by cases h) rfl ex64 rfl rfl ?_
  have ex66 := ((((ex10.ext x).ext x29).ext x34).ext x42)
  have ex67 := ((((ex16.ext x).ext x29).ext x34).ext x42)
  have ex68 := ((((ex23.ext x).ext x29).ext x34).ext x42)
  refine LP_call 5 rfl rfl rfl cal_87 rfl (impl_meetsWhere_w _ _ _ H wx41 r9 ex66 r15 ex67 r22 ex68) ?_
  rintro _ wx69 ⟨r65, H, rfl, x70⟩
  refine LP_ev ok 6 [(27, .bool (!r65)), (28, .bool (!r65))] 8 rfl rfl ?_
  refine LP_end _ rfl ?_
  have X71 := (((((X.stepx x).stepx x29).stepx x34).stepx x42).stepx x70)
  have ex72 := ((ex40.ext x42).ext x70)
  have ex73 := (((((ex4.ext x).ext x29).ext x34).ext x42).ext x70)
  have ex74 := (ex66.ext x70)
  have ex75 := (ex67.ext x70)
  have ex76 := (ex68.ext x70)
  have ex77 := ((ex37.ext x42).ext x70)
  have ex78 := (ex63.ext x70)
  have ex79 := (ex64.ext x70)
  exact ⟨!r65, H, _, env_eq ⟨rfl, rfl, rfl, rfl, rfl, rfl, trivial⟩, X71, ex72, ex73, ex74, ex75, ex76, ex77, ex78, ex79⟩
 rintro x43 _ wx44 ⟨H, ρ, rfl, HF⟩
 revert HF
 refine bb9 fun X53 ex45 ex46 ex47 ex48 ex49 ex50 ex51 ex52 => ?_
 subst hk
 refine W_cond (x43) rfl (fun hc80 => ?_) (fun hc80 => ?_)
 ·have H := H.1 hc80
  refine W_seq ?_
  refine W_region ?_
  refine LP_ev ok 0 [(8, I ((-1))), (9, I 0)] 2 rfl rfl ?_
  refine LP_end _ rfl ?_
  refine W_ret ?_
  exact ⟨_, Ret_of [I ((-1)), I 0] ⟨⟨rfl, rfl⟩, ⟨rfl, rfl⟩, trivial⟩, _, _, H, rfl, X53.ext⟩
 have H := H.2 hc80
 refine W_skip ?_
 refine W_seq ?_
 refine W_region ?_
 refine LP_ev ok 0 [(29, .pointer (some ⟨b27, 1, none⟩))] 1 rfl rfl ?_
 refine LP_ldbox 1 (v := sl a11 t.Vars c12) rfl rfl rfl ti_22 ag_22 (fun _ => rfl) rfl ex51 rfl rfl ?_
 refine LP_ev ok 2 [(31, I (ln t.Vars))] 3 rfl rfl ?_
 obtain ⟨hn, hb, H⟩ := H
 refine LP_make (α := Int) 3 rfl rfl rfl Try.underlying22 ti_3 (x0 := (0 : Int)) rfl rfl hn (by first | omega | (simp only [ln] at *; omega)) (by first | omega | (simp only [ln] at *; omega)) fun hx81 vx82 wx83 x84 o ex85 f86 => ?_
 obtain ⟨a87, c88, rfl⟩ := o.shape
 refine LP_ev ok 4 [(11, .slice a87 (List.length (List.replicate (Int.toNat (ln t.Vars)) ((0 : Int)))) c88)] 5 rfl rfl ?_
 refine LP_end _ rfl ?_
 refine W_seq ?_
 refine W_seq ?_
 refine W_region ?_
 refine LP_ev ok 0 [(33, .pointer (some ⟨b27, 1, none⟩))] 1 rfl rfl ?_
 have ex89 := (ex51.ext x84)
 refine LP_ldbox 1 (v := sl a11 t.Vars c12) rfl rfl rfl ti_22 ag_22 (fun _ => rfl) rfl ex89 rfl rfl ?_
 refine LP_ev ok 2 [(35, I (ln t.Vars)), (36, I 0)] 4 rfl rfl ?_
 refine LP_end _ rfl ?_
 refine W_block ?_
 have X113 := (X53.stepx x84)
 have f114 := f86.mono X53.size
 have ex115 := (ex45.ext x84)
 have ex116 := (ex46.ext x84)
 have ex117 := (ex47.ext x84)
 have ex118 := (ex48.ext x84)
 have ex119 := (ex49.ext x84)
 have ex120 := (ex50.ext x84)
 have ex121 := (ex52.ext x84)
 obtain ⟨J, m, Hx, H⟩ := H
 refine W_loop (S := (List Int) × Int) (fun s ρ' w' => J s.1 s.2 ∧ ∃ (ρ : Env) (hx91 : PH), ρ' = setAll [(1, sl a5 sx c6), (4, pb b), (6, pb b27), (7, pb b32), (10, I r39), (11, .slice a87 (List.length (List.replicate (Int.toNat (ln t.Vars)) ((0 : Int)))) c88), (34, sl a11 t.Vars c12), (35, I (ln t.Vars)), (36, I s.2)] ρ ∧ But emp w w' ∧ OS 3 hx91 emp (.slice a87 (List.length (List.replicate (Int.toNat (ln t.Vars)) ((0 : Int)))) c88) s.1 ∧ Sub hx91 w' ∧ Fresh w.heap.size hx91 ∧ Sub hx w' ∧ Sub hx2 w' ∧ Sub hx8 w' ∧ Sub hx14 w' ∧ Sub hx21 w' ∧ Sub (bx b 32 [sl a g.Parents c]) w' ∧ Sub (bx b27 50 [I t.Level, sl a11 t.Vars c12, sl a17 t.Where c18, I t.Sum]) w' ∧ Sub (bx b32 86 [I r19.Area, I r19.House, sl a24 r19.Values c25]) w' ∧ Dj hx91 hx ∧ Dj hx91 hx2 ∧ Dj hx91 hx8 ∧ Dj hx91 hx14 ∧ Dj hx91 hx21 ∧ Dj hx91 (bx b 32 [sl a g.Parents c]) ∧ Dj hx91 (bx b27 50 [I t.Level, sl a11 t.Vars c12, sl a17 t.Where c18, I t.Sum]) ∧ Dj hx91 (bx b32 86 [I r19.Area, I r19.House, sl a24 r19.Values c25])) (fun s => m s.1 s.2) (List.replicate (Int.toNat (ln t.Vars)) ((0 : Int)), 0) ⟨Hx, _, hx81, env_eq ⟨rfl, rfl, rfl, rfl, rfl, rfl, rfl, rfl, rfl, trivial⟩, X113, o, ex85, f114, ex115, ex116, ex117, ex118, ex119, ex120, ex89, ex121, (Dj.of_fresh ex45 f86).symm, (Dj.of_fresh ex46 f86).symm, (Dj.of_fresh ex47 f86).symm, (Dj.of_fresh ex48 f86).symm, (Dj.of_fresh ex49 f86).symm, (Dj.of_fresh ex50 f86).symm, (Dj.of_fresh ex51 f86).symm, (Dj.of_fresh ex52 f86).symm⟩ ?_
 rintro ⟨values, x95⟩ _ wx96 ⟨Hi, ρ, hx91, rfl, HF⟩
 revert HF
 refine bb9 fun X112 o92 ex93 f94 ex97 ex98 ex99 ex100 => ?_
 refine bb9 fun ex101 ex102 ex103 ex104 d d105 d106 d107 => ?_
 refine bb4 fun d108 d109 d110 d111 => ?_
 have H := H values x95 Hi
 refine W_seq ?_
 refine W_region ?_
 refine LP_ev ok 0 [(37, .bool (decide (x95 < (ln t.Vars))))] 1 rfl rfl ?_
 refine LP_end _ rfl ?_
 refine W_seq ?_
 refine W_cond (decide (x95 < (ln t.Vars))) rfl (fun hc122 => ?_) (fun hc122 => ?_)
 ·have H := H.1 hc122
  refine W_skip ?_
  refine W_seq ?_
  refine W_block ?_
  refine W_seq ?_
  refine W_region ?_
  refine LP_ev ok 0 [(38, I x95)] 1 rfl rfl ?_
  obtain ⟨x123, hi, hx124, H⟩ := H
  refine LP_index 1 rfl rfl rfl Try.underlying22 ti_3 rfl rfl r9 hi hx124 fun a125 cs r126 d127 => ?_
  refine LP_load 2 rfl rfl rfl ti_3 ag_3 rfl r126 d127 ex99 fun vx128 r129 => ?_
  obtain rfl := r129.int
  refine LP_ev ok 3 [(12, I x95), (13, I x123)] 5 rfl rfl ?_
  refine LP_end _ rfl ?_
  refine W_region ?_
  refine LP_ev ok 0 [(41, .slice a87 (List.length (List.replicate (Int.toNat (ln t.Vars)) ((0 : Int)))) c88), (42, I x95), (43, .pointer (some ⟨b32, 2, none⟩))] 3 rfl rfl ?_
  refine LP_ldbox 3 (v := sl a24 r19.Values c25) rfl rfl rfl ti_22 ag_22 (fun _ => rfl) rfl ex104 rfl rfl ?_
  refine LP_ev ok 4 [(45, I x123)] 5 rfl rfl ?_
  obtain ⟨x130, hi131, hx132, H⟩ := H
  refine LP_index 5 rfl rfl rfl Try.underlying22 ti_3 rfl rfl r22 hi131 hx132 fun a133 cs134 r135 d136 => ?_
  refine LP_load 6 rfl rfl rfl ti_3 ag_3 rfl r135 d136 ex101 fun vx137 r138 => ?_
  obtain rfl := r138.int
  obtain ⟨hi139, hl, H⟩ := H
  refine LP_indexw (v := .slice a87 (List.length (List.replicate (Int.toNat (ln t.Vars)) ((0 : Int)))) c88) 7 rfl rfl rfl Try.underlying22 ti_3 rfl rfl o92 hi139 hl fun a140 wa => ?_
  refine LP_set 8 rfl rfl rfl rfl rfl wa (Le.refl emp) ⟨_, rfl, rfl⟩ ex93 fun hx141 wx142 o143 ex144 y dm => ?_
  refine LP_end _ rfl ?_
  refine W_region ?_
  refine LP_ev ok 0 [(49, I (wr (x95 + 1))), (36, I (wr (x95 + 1)))] 2 rfl rfl ?_
  refine LP_end _ rfl ?_
  have X145 := (X112.step y (f94.dom _))
  have f146 := (dm _).fresh f94 X112.size
  have ex147 := (ex97.but y d)
  have ex148 := (ex98.but y d105)
  have ex149 := (ex99.but y d106)
  have ex150 := (ex100.but y d107)
  have ex151 := (ex101.but y d108)
  have ex152 := (ex102.but y d109)
  have ex153 := (ex103.but y d110)
  have ex154 := (ex104.but y d111)
  exact ⟨(List.set values (Int.toNat x95) x130, wr (x95 + 1)), ⟨H.1, _, hx141, env_eq ⟨rfl, rfl, rfl, rfl, rfl, rfl, rfl, rfl, rfl, trivial⟩, X145, o143, ex144, f146, ex147, ex148, ex149, ex150, ex151, ex152, ex153, ex154, (DomLe.dj (dm _) d ex97), (DomLe.dj (dm _) d105 ex98), (DomLe.dj (dm _) d106 ex99), (DomLe.dj (dm _) d107 ex100), (DomLe.dj (dm _) d108 ex101), (DomLe.dj (dm _) d109 ex102), (DomLe.dj (dm _) d110 ex103), (DomLe.dj (dm _) d111 ex104)⟩, H.2⟩
 have H := H.2 hc122
 refine W_exit ?_
 refine (if_pos rfl).mpr ?_
 refine W_seq ?_
 refine W_region ?_
 refine LP_ev ok 0 [(14, I 1)] 1 rfl rfl ?_
 refine LP_end _ rfl ?_
 obtain ⟨k156, hk157, H⟩ := jn_elim H
 refine W_join2 (S := Int) (fun s ρ' w' => k156 s ∧ ∃ (ρ : Env), ρ' = setAll [(1, sl a5 sx c6), (4, pb b), (6, pb b27), (10, I r39), (11, .slice a87 (List.length (List.replicate (Int.toNat (ln t.Vars)) ((0 : Int)))) c88), (14, I s)] ρ ∧ wx96 = w') ?_ ?_
 ·refine W_seq ?_
  refine W_region ?_
  refine LP_ev ok 0 [(50, .pointer (some ⟨b27, 3, none⟩))] 1 rfl rfl ?_
  refine LP_ldbox 1 (v := I t.Sum) rfl rfl rfl ti_3 ag_3 (fun _ => rfl) rfl ex103 rfl rfl ?_
  refine LP_ev ok 2 [(52, .bool (decide (t.Sum ≥ 0)))] 3 rfl rfl ?_
  refine LP_end _ rfl ?_
  refine W_cond (decide (t.Sum ≥ 0)) rfl (fun hc158 => ?_) (fun hc158 => ?_)
  ·have H := H.1 hc158
   refine W_region ?_
   refine LP_ev ok 0 [(53, .pointer (some ⟨b32, 2, none⟩))] 1 rfl rfl ?_
   refine LP_ldbox 1 (v := sl a24 r19.Values c25) rfl rfl rfl ti_22 ag_22 (fun _ => rfl) rfl ex104 rfl rfl ?_
   refine LP_ev ok 2 [(55, .pointer (some ⟨b27, 3, none⟩))] 3 rfl rfl ?_
   refine LP_ldbox 3 (v := I t.Sum) rfl rfl rfl ti_3 ag_3 (fun _ => rfl) rfl ex103 rfl rfl ?_
   obtain ⟨x159, hi160, hx161, H⟩ := H
   refine LP_index 4 rfl rfl rfl Try.underlying22 ti_3 rfl rfl r22 hi160 hx161 fun a162 cs163 r164 d165 => ?_
   refine LP_load 5 rfl rfl rfl ti_3 ag_3 rfl r164 d165 ex101 fun vx166 r167 => ?_
   obtain rfl := r167.int
   refine LP_ev ok 6 [(14, I x159)] 7 rfl rfl ?_
   refine LP_end _ rfl ?_
   exact ⟨x159, H, _, env_eq ⟨rfl, rfl, rfl, rfl, rfl, rfl, trivial⟩, rfl⟩
  have H := H.2 hc158
  refine W_skip ?_
  exact ⟨1, H, _, env_eq ⟨rfl, rfl, rfl, rfl, rfl, rfl, trivial⟩, rfl⟩
 rintro amount _ _ ⟨H, ρ, rfl, rfl⟩
 subst hk157
 refine W_seq ?_
 refine W_region ?_
 refine LP_ldbox 0 (v := .agg #[sl a g.Parents c]) rfl rfl rfl ti_32 ag_32 (fun h => by cases h) rfl ex102 rfl rfl ?_
 refine LP_ev ok 1 [(60, sl a5 sx c6)] 2 rfl rfl ?_
 refine LP_ldbox 2 (v := .agg #[I t.Level, sl a11 t.Vars c12, sl a17 t.Where c18, I t.Sum]) rfl rfl rfl ti_50 ag_50 (fun h => by cases h) rfl ex103 rfl rfl ?_
 refine LP_ev ok 3 [(62, I r39), (63, .slice a87 (List.length (List.replicate (Int.toNat (ln t.Vars)) ((0 : Int)))) c88)] 5 rfl rfl ?_
 refine LP_call 5 rfl rfl rfl cal_88 rfl (impl_cellIndex_w _ _ _ _ _ _ H wx96 r ex97 r3 ex98 r9 ex99 r15 ex100 o92.readf ex93) ?_
 rintro _ wx169 ⟨r168, H, rfl, x170⟩
 refine LP_ev ok 6 [(65, I amount), (8, I r168), (9, I amount)] 9 rfl rfl ?_
 refine LP_end _ rfl ?_
 refine W_ret ?_
 have X171 := (X112.stepx x170)
 exact ⟨_, Ret_of [I r168, I amount] ⟨⟨rfl, rfl⟩, ⟨rfl, rfl⟩, trivial⟩, _, _, H, rfl, X171.ext⟩

theorem impl_conditionsOf_w (g : Geo) (sx : List Variable) (pubs : List Published) (Q : (List Condition) → Prop) (H : impl_conditionsOf g sx pubs Q) (w : World) {vx : Value} {hx : PH} (r : RS hx vx g.Parents) (ex : Sub hx w) {vx1 : Value} {hx2 : PH} (r3 : RS hx2 vx1 sx) (ex4 : Sub hx2 w) {vx7 : Value} {hx8 : PH} (r9 : RS hx8 vx7 pubs) (ex10 : Sub hx8 w) :
  CallsTo Try.prog 63 #[.agg #[vx], vx1, vx7] w fun v w' => ∃ r0 u0 g0, Q r0 ∧ v = u0 ∧ Ext w w' ∧ OD g0 u0 r0 ∧ Sub g0 w' ∧ Fresh w.heap.size g0 := by
 obtain ⟨a, c, rfl⟩ := r.shape
 obtain ⟨a5, c6, rfl⟩ := r3.shape
 obtain ⟨a11, c12, rfl⟩ := r9.shape
 refine enter (args := [.agg #[sl a g.Parents c], sl a5 sx c6, sl a11 pubs c12]) 95 Try.func63 rfl rfl rfl ?_
 refine W_forget [(0, .agg #[sl a g.Parents c]), (1, sl a5 sx c6), (2, sl a11 pubs c12)] ⟨rfl, rfl, rfl, trivial⟩ fun ρ => ?_
 have X := But.refl emp w
 refine W_seq ?_
 refine W_region ?_
 refine LP_box 0 (cs := [sl a g.Parents c]) rfl rfl rfl rfl rfl fun b wx x ex13 f => ?_
 refine LP_ev ok 1 [(6, .slice none 0 0)] 2 rfl rfl ?_
 refine LP_end _ rfl ?_
 refine W_seq ?_
 refine W_region ?_
 refine LP_ev ok 0 [(7, .slice none 0 0)] 1 rfl rfl ?_
 refine LP_end _ rfl ?_
 refine W_seq ?_
 refine W_region ?_
 refine LP_ldbox 0 (v := .agg #[sl a g.Parents c]) rfl rfl rfl ti_32 ag_32 (fun h => by cases h) rfl ex13 rfl rfl ?_
 refine LP_ev ok 1 [(18, sl a5 sx c6)] 2 rfl rfl ?_
 have ex15 := (ex.ext x)
 have ex16 := (ex4.ext x)
 refine LP_call 2 rfl rfl rfl cal_52 rfl (impl_typeCount_w _ _ _ H wx r ex15 r3 ex16) ?_
 rintro _ wx17 ⟨r14, H, rfl, x18⟩
 refine LP_ev ok 3 [(8, I r14)] 4 rfl rfl ?_
 refine LP_end _ rfl ?_
 refine W_seq ?_
 refine W_seq ?_
 refine W_region ?_
 refine LP_ev ok 0 [(20, sl a11 pubs c12), (21, I (ln pubs)), (22, I 0)] 3 rfl rfl ?_
 refine LP_end _ rfl ?_
 refine W_block ?_
 have X35 := ((X.stepx x).stepx x18)
 have ex36 := (ex15.ext x18)
 have ex37 := (ex16.ext x18)
 have ex38 := ((ex10.ext x).ext x18)
 have ex39 := (ex13.ext x18)
 obtain ⟨J, m, Hx, H⟩ := H
 refine W_loop (S := (List Condition) × Int) (fun s ρ' w' => J s.1 s.2 ∧ ∃ (ρ : Env) (vx19 : Value) (hx20 : PH), ρ' = setAll [(1, sl a5 sx c6), (3, pb b), (7, vx19), (8, I r14), (20, sl a11 pubs c12), (21, I (ln pubs)), (22, I s.2)] ρ ∧ But emp w w' ∧ OD hx20 vx19 s.1 ∧ Sub hx20 w' ∧ Fresh w.heap.size hx20 ∧ Sub hx w' ∧ Sub hx2 w' ∧ Sub hx8 w' ∧ Sub (bx b 32 [sl a g.Parents c]) w' ∧ Dj hx20 hx ∧ Dj hx20 hx2 ∧ Dj hx20 hx8 ∧ Dj hx20 (bx b 32 [sl a g.Parents c])) (fun s => m s.1 s.2) ([], 0) ⟨Hx, _, .slice none 0 0, emp, env_eq ⟨rfl, rfl, rfl, rfl, rfl, rfl, rfl, trivial⟩, X35, OD.nil, (emp_sub _), (emp_fresh _), ex36, ex37, ex38, ex39, (fun _ => .inl rfl), (fun _ => .inl rfl), (fun _ => .inl rfl), (fun _ => .inl rfl)⟩ ?_
 rintro ⟨out, x23⟩ _ wx24 ⟨Hi, ρ, vx19, hx20, rfl, HF⟩
 revert HF
 refine bb9 fun X34 o ex21 f22 ex25 ex26 ex27 ex28 => ?_
 refine bb4 fun d d31 d32 d33 => ?_
 have H := H out x23 Hi
 obtain ⟨a29, c30, rfl⟩ := o.shape
 refine W_seq ?_
 refine W_region ?_
 refine LP_ev ok 0 [(23, .bool (decide (x23 < (ln pubs))))] 1 rfl rfl ?_
 refine LP_end _ rfl ?_
 refine W_seq ?_
 refine W_cond (decide (x23 < (ln pubs))) rfl (fun hc => ?_) (fun hc => ?_)
 ·have H := H.1 hc
  refine W_skip ?_
  refine W_seq ?_
  refine W_block ?_
  refine W_seq ?_
  refine W_region ?_
  obtain ⟨x40, hi, hx41, H⟩ := H
  refine LP_index 0 rfl rfl rfl Try.underlying36 ti_69 rfl rfl r9 hi hx41 fun a42 cs r43 d44 => ?_
  have d45 := d44
  obtain ⟨u, u47, u49, rfl, r46, r48, r50⟩ := Published_rd d45
  obtain ⟨a51, c52, rfl⟩ := r46.shape
  obtain ⟨a53, c54, rfl⟩ := r48.shape
  obtain ⟨a55, c56, rfl⟩ := r50.shape
  refine LP_load 1 rfl rfl rfl ti_69 ag_69 rfl r43 d44 ex27 fun vx57 r58 => ?_
  obtain ⟨u59, u61, u63, rfl, r60, r62, r64⟩ := Published_rv r58
  obtain ⟨a65, c66, rfl⟩ := r60.shape
  obtain ⟨a67, c68, rfl⟩ := r62.shape
  obtain ⟨a69, c70, rfl⟩ := r64.shape
  refine LP_alloc 2 rfl rfl rfl ti_69 rfl fun b71 wx72 x73 ex74 f75 => ?_
  refine LP_stbox 3 (vs := [I x40.Table.Level, sl a65 x40.Table.Vars c66, sl a67 x40.Table.Where c68, I x40.Table.Sum, sl a69 x40.Cells c70]) (cs' := [I x40.Table.Level, sl a65 x40.Table.Vars c66, sl a67 x40.Table.Where c68, I x40.Table.Sum, sl a69 x40.Cells c70]) rfl rfl rfl ti_69 rfl rfl rfl rfl rfl ex74 rfl rfl fun wx76 ex77 y => ?_
  refine LP_end _ rfl ?_
  refine W_seq ?_
  refine W_region ?_
  refine LP_ev ok 0 [(26, .pointer (some ⟨b71, 4, none⟩))] 1 rfl rfl ?_
  refine LP_ldbox 1 (v := sl a69 x40.Cells c70) rfl rfl rfl ti_22 ag_22 (fun _ => rfl) rfl ex77 rfl rfl ?_
  refine LP_ev ok 2 [(28, I (ln x40.Cells))] 3 rfl rfl ?_
  obtain ⟨hn, hb, H⟩ := H
  refine LP_make (α := Int) 3 rfl rfl rfl Try.underlying22 ti_3 (x0 := (0 : Int)) rfl rfl hn (by first | omega | (simp only [ln] at *; omega)) (by first | omega | (simp only [ln] at *; omega)) fun hx78 vx79 wx80 x81 o82 ex83 f84 => ?_
  obtain ⟨a85, c86, rfl⟩ := o82.shape
  refine LP_ev ok 4 [(11, .slice a85 (List.length (List.replicate (Int.toNat (ln x40.Cells)) ((0 : Int)))) c86)] 5 rfl rfl ?_
  refine LP_end _ rfl ?_
  refine W_seq ?_
  refine W_seq ?_
  refine W_region ?_
  refine LP_ev ok 0 [(30, .pointer (some ⟨b71, 4, none⟩))] 1 rfl rfl ?_
  have ex87 := (ex77.ext x81)
  refine LP_ldbox 1 (v := sl a69 x40.Cells c70) rfl rfl rfl ti_22 ag_22 (fun _ => rfl) rfl ex87 rfl rfl ?_
  refine LP_ev ok 2 [(32, I (ln x40.Cells)), (33, I 0)] 4 rfl rfl ?_
  refine LP_end _ rfl ?_
  refine W_block ?_
  have f123 := f75.mono X34.size
  have X124 := (((X34.stepx x73).step y (f123.dom _)).stepx x81)
  have ex125 := (((ex21.ext x73).but y (Dj.of_fresh ex21 f75).symm).ext x81)
  have X127 := ((X34.stepx x73).step y (f123.dom _))
  have f126 := f84.mono X127.size
  have ex128 := (((ex25.ext x73).but y (Dj.of_fresh ex25 f75).symm).ext x81)
  have ex129 := (((ex26.ext x73).but y (Dj.of_fresh ex26 f75).symm).ext x81)
  have ex130 := (((ex27.ext x73).but y (Dj.of_fresh ex27 f75).symm).ext x81)
  have ex131 := (((ex28.ext x73).but y (Dj.of_fresh ex28 f75).symm).ext x81)
  have ex132 := ((ex25.ext x73).but y (Dj.of_fresh ex25 f75).symm)
  have ex133 := ((ex26.ext x73).but y (Dj.of_fresh ex26 f75).symm)
  have ex134 := ((ex27.ext x73).but y (Dj.of_fresh ex27 f75).symm)
  have ex135 := ((ex28.ext x73).but y (Dj.of_fresh ex28 f75).symm)
  have ex136 := ((ex21.ext x73).but y (Dj.of_fresh ex21 f75).symm)
  obtain ⟨J120, m121, Hx122, H⟩ := H
  refine W_loop (S := (List Condition) × (List Int) × Int) (fun s ρ' w' => J120 s.1 s.2.1 s.2.2 ∧ ∃ (ρ : Env) (vx89 : Value) (hx90 : PH) (hx95 : PH), ρ' = setAll [(1, sl a5 sx c6), (3, pb b), (7, vx89), (8, I r14), (10, pb b71), (11, .slice a85 (List.length (List.replicate (Int.toNat (ln x40.Cells)) ((0 : Int)))) c86), (20, sl a11 pubs c12), (21, I (ln pubs)), (22, I x23), (31, sl a69 x40.Cells c70), (32, I (ln x40.Cells)), (33, I s.2.2)] ρ ∧ But emp w w' ∧ OD hx90 vx89 s.1 ∧ Sub hx90 w' ∧ Fresh w.heap.size hx90 ∧ OS 3 hx95 emp (.slice a85 (List.length (List.replicate (Int.toNat (ln x40.Cells)) ((0 : Int)))) c86) s.2.1 ∧ Sub hx95 w' ∧ Fresh w.heap.size hx95 ∧ Sub hx w' ∧ Sub hx2 w' ∧ Sub hx8 w' ∧ Sub (bx b 32 [sl a g.Parents c]) w' ∧ Sub (bx b71 69 [I x40.Table.Level, sl a65 x40.Table.Vars c66, sl a67 x40.Table.Where c68, I x40.Table.Sum, sl a69 x40.Cells c70]) w' ∧ Dj hx90 hx ∧ Dj hx90 hx2 ∧ Dj hx90 hx8 ∧ Dj hx90 (bx b 32 [sl a g.Parents c]) ∧ Dj hx90 (bx b71 69 [I x40.Table.Level, sl a65 x40.Table.Vars c66, sl a67 x40.Table.Where c68, I x40.Table.Sum, sl a69 x40.Cells c70]) ∧ Dj hx95 hx ∧ Dj hx95 hx2 ∧ Dj hx95 hx8 ∧ Dj hx95 (bx b 32 [sl a g.Parents c]) ∧ Dj hx95 (bx b71 69 [I x40.Table.Level, sl a65 x40.Table.Vars c66, sl a67 x40.Table.Where c68, I x40.Table.Sum, sl a69 x40.Cells c70]) ∧ Dj hx95 hx90) (fun s => m121 s.1 s.2.1 s.2.2) (out, List.replicate (Int.toNat (ln x40.Cells)) ((0 : Int)), 0) ⟨Hx122, _, sl a29 out c30, hx20, hx78, env_eq ⟨rfl, rfl, rfl, rfl, rfl, rfl, rfl, rfl, rfl, rfl, rfl, rfl, trivial⟩, X124, o, ex125, f22, o82, ex83, f126, ex128, ex129, ex130, ex131, ex87, d, d31, d32, d33, (Dj.box (Dj.of_fresh ex21 f75).symm).symm, (Dj.of_fresh ex132 f84).symm, (Dj.of_fresh ex133 f84).symm, (Dj.of_fresh ex134 f84).symm, (Dj.of_fresh ex135 f84).symm, (Dj.of_fresh ex77 f84).symm, (Dj.of_fresh ex136 f84).symm⟩ ?_
  rintro ⟨out88, atx, x99⟩ _ wx100 ⟨Hi, ρ, vx89, hx90, hx95, rfl, HF⟩
  revert HF
  refine bb9 fun X119 o91 ex92 f93 o96 ex97 f98 ex101 => ?_
  refine bb9 fun ex102 ex103 ex104 ex105 d108 d109 d110 d111 => ?_
  refine bb7 fun d112 d113 d114 d115 d116 d117 d118 => ?_
  have H := H out88 atx x99 Hi
  obtain ⟨a106, c107, rfl⟩ := o91.shape
  refine W_seq ?_
  refine W_region ?_
  refine LP_ev ok 0 [(34, .bool (decide (x99 < (ln x40.Cells))))] 1 rfl rfl ?_
  refine LP_end _ rfl ?_
  refine W_seq ?_
  refine W_cond (decide (x99 < (ln x40.Cells))) rfl (fun hc138 => ?_) (fun hc138 => ?_)
  ·have H := H.1 hc138
   refine W_skip ?_
   obtain ⟨k, hk, H⟩ := jn_elim H
   refine W_join2 (S := (List Condition) × (List Int)) (fun s ρ' w' => k s.1 s.2 ∧ ∃ (ρ : Env) (vx140 : Value) (hx141 : PH) (hx147 : PH), ρ' = setAll [(1, sl a5 sx c6), (3, pb b), (7, vx140), (8, I r14), (10, pb b71), (11, .slice a85 (List.length (List.replicate (Int.toNat (ln x40.Cells)) ((0 : Int)))) c86), (20, sl a11 pubs c12), (21, I (ln pubs)), (22, I x23), (31, sl a69 x40.Cells c70), (32, I (ln x40.Cells)), (33, I x99)] ρ ∧ But emp w w' ∧ OD hx141 vx140 s.1 ∧ Sub hx141 w' ∧ Fresh w.heap.size hx141 ∧ OS 3 hx147 emp (.slice a85 (List.length (List.replicate (Int.toNat (ln x40.Cells)) ((0 : Int)))) c86) s.2 ∧ Sub hx147 w' ∧ Fresh w.heap.size hx147 ∧ Sub hx w' ∧ Sub hx2 w' ∧ Sub hx8 w' ∧ Sub (bx b 32 [sl a g.Parents c]) w' ∧ Sub (bx b71 69 [I x40.Table.Level, sl a65 x40.Table.Vars c66, sl a67 x40.Table.Where c68, I x40.Table.Sum, sl a69 x40.Cells c70]) w' ∧ Dj hx141 hx ∧ Dj hx141 hx2 ∧ Dj hx141 hx8 ∧ Dj hx141 (bx b 32 [sl a g.Parents c]) ∧ Dj hx141 (bx b71 69 [I x40.Table.Level, sl a65 x40.Table.Vars c66, sl a67 x40.Table.Where c68, I x40.Table.Sum, sl a69 x40.Cells c70]) ∧ Dj hx147 hx ∧ Dj hx147 hx2 ∧ Dj hx147 hx8 ∧ Dj hx147 (bx b 32 [sl a g.Parents c]) ∧ Dj hx147 (bx b71 69 [I x40.Table.Level, sl a65 x40.Table.Vars c66, sl a67 x40.Table.Where c68, I x40.Table.Sum, sl a69 x40.Cells c70]) ∧ Dj hx147 hx141) ?_ ?_
   ·refine W_block ?_
    refine W_seq ?_
    refine W_region ?_
    refine LP_ev ok 0 [(35, I x99)] 1 rfl rfl ?_
    obtain ⟨x171, hi172, hx173, H⟩ := H
    refine LP_index 1 rfl rfl rfl Try.underlying22 ti_3 rfl rfl r64 hi172 hx173 fun a174 cs175 r176 d177 => ?_
    refine LP_load 2 rfl rfl rfl ti_3 ag_3 rfl r176 d177 ex103 fun vx178 r179 => ?_
    obtain rfl := r179.int
    refine LP_ev ok 3 [(12, I x99), (13, I x171)] 5 rfl rfl ?_
    refine LP_end _ rfl ?_
    refine W_seq ?_
    refine W_region ?_
    refine LP_ev ok 0 [(38, .slice a85 (List.length (List.replicate (Int.toNat (ln x40.Cells)) ((0 : Int)))) c86), (39, I x99)] 2 rfl rfl ?_
    obtain ⟨hi180, hl, H⟩ := H
    refine LP_indexw (v := .slice a85 (List.length (List.replicate (Int.toNat (ln x40.Cells)) ((0 : Int)))) c86) 2 rfl rfl rfl Try.underlying22 ti_3 rfl rfl o96 hi180 hl fun a181 wa => ?_
    refine LP_set 3 rfl rfl rfl rfl rfl wa (Le.refl emp) ⟨_, rfl, rfl⟩ ex97 fun hx182 wx183 o184 ex185 y186 dm => ?_
    refine LP_end _ rfl ?_
    refine W_seq ?_
    refine W_region ?_
    refine LP_ev ok 0 [(41, I x171), (42, .bool (decide (x171 ≥ 0)))] 2 rfl rfl ?_
    refine LP_end _ rfl ?_
    refine W_cond (decide (x171 ≥ 0)) rfl (fun hc187 => ?_) (fun hc187 => ?_)
    ·have H := H.1 hc187
     refine W_seq ?_
     refine W_region ?_
     refine LP_ev ok 0 [(43, .slice a85 (List.length (List.replicate (Int.toNat (ln x40.Cells)) ((0 : Int)))) c86), (44, I x99), (45, sl a106 out88 c107), (46, I (ln out88))] 4 rfl rfl ?_
     obtain ⟨hi188, hl189, H⟩ := H
     refine LP_indexw (v := .slice a85 (List.length (List.replicate (Int.toNat (ln x40.Cells)) ((0 : Int)))) c86) 4 rfl rfl rfl Try.underlying22 ti_3 rfl rfl o184 hi188 hl189 fun a190 wa191 => ?_
     refine LP_set 5 rfl rfl rfl rfl rfl wa191 (Le.refl emp) ⟨_, rfl, rfl⟩ ex185 fun hx192 wx193 o194 ex195 y196 dm197 => ?_
     refine LP_end _ rfl ?_
     refine W_region ?_
     refine LP_ev ok 0 [(48, sl a106 out88 c107), (49, I r14)] 2 rfl rfl ?_
     obtain ⟨hn198, hb199, H⟩ := H
     refine LP_make (α := Int) 2 rfl rfl rfl Try.underlying22 ti_3 (x0 := (0 : Int)) rfl rfl hn198 (by first | omega | (simp only [ln] at *; omega)) (by first | omega | (simp only [ln] at *; omega)) fun hx200 vx201 wx202 x203 o204 ex205 f206 => ?_
     obtain ⟨a207, c208, rfl⟩ := o204.shape
     refine LP_ev ok 3 [(51, I x171), (52, .agg #[.slice a207 (List.length (List.replicate (Int.toNat r14) ((0 : Int)))) c208, I x171])] 5 rfl rfl ?_
     have rv : RVO (un hx200 emp) (.agg #[.slice a207 (List.length (List.replicate (Int.toNat r14) ((0 : Int)))) c208, I x171]) ((Condition.mk (List.replicate (Int.toNat r14) ((0 : Int))) x171) : Condition) := ⟨_, ⟨_, _, _, _, rfl, rfl, (Dj.emp_r _), ⟨_, rfl, (OS.od o204)⟩, ⟨rfl, rfl⟩⟩, rfl⟩
     refine LP_litD (α := Condition) 5 (vs := [.agg #[.slice a207 (List.length (List.replicate (Int.toNat r14) ((0 : Int)))) c208, I x171]]) (xs := [((Condition.mk (List.replicate (Int.toNat r14) ((0 : Int))) x171) : Condition)]) rfl rfl rfl Try.underlying99 ti_124 rfl rfl (allO.one rv) (Sub.un ex205 (emp_sub _)) rfl rfl fun hx209 vx210 wx211 x212 o213 ex214 dm215 => ?_
     obtain ⟨a216, c217, rfl⟩ := o213.shape
     have ex218 := ((((ex92.but y186 d118).but y196 (DomLe.dj (dm _) d118 ex92)).ext x203).ext x212)
     have ex219 := ((ex92.but y186 d118).but y196 (DomLe.dj (dm _) d118 ex92))
     have ex220 := (ex219.ext x203)
     obtain ⟨hb221, H⟩ := H
     refine LP_appendD (α := Condition) 6 rfl rfl rfl Try.underlying99 ti_124 rfl rfl rfl o91 ex218 o213 ex214 (DomLe.dj dm215 (Dj.un_l (Dj.of_fresh ex219 f206).symm (Dj.emp_l _)) ex220).symm (by first | omega | (simp only [ln] at *; omega)) (by first | omega | (simp only [ln] at *; omega)) fun hx222 vx223 wx224 hw o225 ex226 y227 dh dm228 => ?_
     obtain ⟨a229, c230, rfl⟩ := o225.shape
     refine LP_ev ok 7 [(7, .slice a229 (List.length (out88 ++ ([((Condition.mk (List.replicate (Int.toNat r14) ((0 : Int))) x171) : Condition)]))) c230)] 8 rfl rfl ?_
     refine LP_end _ rfl ?_
     try refine W_forget [(1, sl a5 sx c6), (3, pb b), (7, .slice a229 (List.length (out88 ++ ([((Condition.mk (List.replicate (Int.toNat r14) ((0 : Int))) x171) : Condition)]))) c230), (8, I r14), (10, pb b71), (11, .slice a85 (List.length (List.replicate (Int.toNat (ln x40.Cells)) ((0 : Int)))) c86), (20, sl a11 pubs c12), (21, I (ln pubs)), (22, I x23), (31, sl a69 x40.Cells c70), (32, I (ln x40.Cells)), (33, I x99)] ⟨rfl, rfl, rfl, rfl, rfl, rfl, rfl, rfl, rfl, rfl, rfl, rfl, trivial⟩ fun ρ => ?_
     have f231 := (dm _).fresh f98 X119.size
     have X232 := (((((X119.step y186 (f98.dom _)).step y196 (f231.dom _)).stepx x203).stepx x212).step (But.dom y227 dh) (f93.dom _))
     have X234 := ((X119.step y186 (f98.dom _)).step y196 (f231.dom _))
     have f233 := f206.mono X234.size
     have X236 := (X234.stepx x203)
     have f235 := DomLe.fresh dm215 (Fresh.un f233 (emp_fresh _)) X236.size
     have X238 := (X236.stepx x212)
     have f237 := DomLe.fresh dm228 (Fresh.un f93 f235) X238.size
     have ex239 := (ex92.but y186 d118)
     have ex240 := (((ex195.ext x203).ext x212).but (But.dom y227 dh) (DomLe.dj (dm197 _) (DomLe.dj (dm _) d118 ex92) ex239).symm)
     have X242 := (X119.step y186 (f98.dom _))
     have f241 := (dm197 _).fresh f231 X242.size
     have ex243 := (((((ex101.but y186 d113).but y196 (DomLe.dj (dm _) d113 ex101)).ext x203).ext x212).but (But.dom y227 dh) d108)
     have ex244 := (((((ex102.but y186 d114).but y196 (DomLe.dj (dm _) d114 ex102)).ext x203).ext x212).but (But.dom y227 dh) d109)
     have ex245 := (((((ex103.but y186 d115).but y196 (DomLe.dj (dm _) d115 ex103)).ext x203).ext x212).but (But.dom y227 dh) d110)
     have ex246 := (((((ex104.but y186 d116).but y196 (DomLe.dj (dm _) d116 ex104)).ext x203).ext x212).but (But.dom y227 dh) d111)
     have ex247 := (((((ex105.but y186 d117).but y196 (DomLe.dj (dm _) d117 ex105)).ext x203).ext x212).but (But.dom y227 dh) d112)
     have ex248 := ((ex101.but y186 d113).but y196 (DomLe.dj (dm _) d113 ex101))
     have ex249 := (ex248.ext x203)
     have ex250 := (ex249.ext x212)
     have ex251 := ((ex102.but y186 d114).but y196 (DomLe.dj (dm _) d114 ex102))
     have ex252 := (ex251.ext x203)
     have ex253 := (ex252.ext x212)
     have ex254 := ((ex103.but y186 d115).but y196 (DomLe.dj (dm _) d115 ex103))
     have ex255 := (ex254.ext x203)
     have ex256 := (ex255.ext x212)
     have ex257 := ((ex104.but y186 d116).but y196 (DomLe.dj (dm _) d116 ex104))
     have ex258 := (ex257.ext x203)
     have ex259 := (ex258.ext x212)
     have ex260 := ((ex105.but y186 d117).but y196 (DomLe.dj (dm _) d117 ex105))
     have ex261 := (ex260.ext x203)
     have ex262 := (ex261.ext x212)
     have ex263 := (ex101.but y186 d113)
     have ex264 := (ex102.but y186 d114)
     have ex265 := (ex103.but y186 d115)
     have ex266 := (ex104.but y186 d116)
     have ex267 := (ex105.but y186 d117)
     have ex268 := (ex92.but y186 d118)
     have ex269 := (ex195.ext x203)
     have ex270 := (ex269.ext x212)
     exact ⟨(out88 ++ ([((Condition.mk (List.replicate (Int.toNat r14) ((0 : Int))) x171) : Condition)]), List.set (List.set atx (Int.toNat x99) ((-1))) (Int.toNat x99) (ln out88)), H, _, .slice a229 (List.length (out88 ++ ([((Condition.mk (List.replicate (Int.toNat r14) ((0 : Int))) x171) : Condition)]))) c230, hx222, hx192, env_eq ⟨rfl, rfl, rfl, rfl, rfl, rfl, rfl, rfl, rfl, rfl, rfl, rfl, trivial⟩, X232, o225, ex226, f237, o194, ex240, f241, ex243, ex244, ex245, ex246, ex247, (DomLe.dj dm228 (Dj.un_l d108 (DomLe.dj dm215 (Dj.un_l (Dj.of_fresh ex248 f206).symm (Dj.emp_l _)) ex249)) ex250), (DomLe.dj dm228 (Dj.un_l d109 (DomLe.dj dm215 (Dj.un_l (Dj.of_fresh ex251 f206).symm (Dj.emp_l _)) ex252)) ex253), (DomLe.dj dm228 (Dj.un_l d110 (DomLe.dj dm215 (Dj.un_l (Dj.of_fresh ex254 f206).symm (Dj.emp_l _)) ex255)) ex256), (DomLe.dj dm228 (Dj.un_l d111 (DomLe.dj dm215 (Dj.un_l (Dj.of_fresh ex257 f206).symm (Dj.emp_l _)) ex258)) ex259), (DomLe.dj dm228 (Dj.un_l d112 (DomLe.dj dm215 (Dj.un_l (Dj.of_fresh ex260 f206).symm (Dj.emp_l _)) ex261)) ex262), (DomLe.dj (dm197 _) (DomLe.dj (dm _) d113 ex101) ex263), (DomLe.dj (dm197 _) (DomLe.dj (dm _) d114 ex102) ex264), (DomLe.dj (dm197 _) (DomLe.dj (dm _) d115 ex103) ex265), (DomLe.dj (dm197 _) (DomLe.dj (dm _) d116 ex104) ex266), (DomLe.dj (dm197 _) (DomLe.dj (dm _) d117 ex105) ex267), (DomLe.dj dm228 (Dj.un_l (DomLe.dj (dm197 _) (DomLe.dj (dm _) d118 ex92) ex268).symm (DomLe.dj dm215 (Dj.un_l (Dj.of_fresh ex195 f206).symm (Dj.emp_l _)) ex269)) ex270).symm⟩
    have H := H.2 hc187
    refine W_skip ?_
    have X271 := (X119.step y186 (f98.dom _))
    have ex272 := (ex92.but y186 d118)
    have f273 := (dm _).fresh f98 X119.size
    have ex274 := (ex101.but y186 d113)
    have ex275 := (ex102.but y186 d114)
    have ex276 := (ex103.but y186 d115)
    have ex277 := (ex104.but y186 d116)
    have ex278 := (ex105.but y186 d117)
    exact ⟨(out88, List.set atx (Int.toNat x99) ((-1))), H, _, sl a106 out88 c107, hx90, hx182, env_eq ⟨rfl, rfl, rfl, rfl, rfl, rfl, rfl, rfl, rfl, rfl, rfl, rfl, trivial⟩, X271, o91, ex272, f93, o184, ex185, f273, ex274, ex275, ex276, ex277, ex278, d108, d109, d110, d111, d112, (DomLe.dj (dm _) d113 ex101), (DomLe.dj (dm _) d114 ex102), (DomLe.dj (dm _) d115 ex103), (DomLe.dj (dm _) d116 ex104), (DomLe.dj (dm _) d117 ex105), (DomLe.dj (dm _) d118 ex92)⟩
   rintro ⟨out139, atx145⟩ _ wx151 ⟨H, ρ, vx140, hx141, hx147, rfl, HF⟩
   revert HF
   refine bb9 fun X170 o142 ex143 f144 o148 ex149 f150 ex152 => ?_
   refine bb9 fun ex153 ex154 ex155 ex156 d159 d160 d161 d162 => ?_
   refine bb7 fun d163 d164 d165 d166 d167 d168 d169 => ?_
   subst hk
   obtain ⟨a157, c158, rfl⟩ := o142.shape
   refine W_region ?_
   refine LP_ev ok 0 [(55, I (wr (x99 + 1))), (33, I (wr (x99 + 1)))] 2 rfl rfl ?_
   refine LP_end _ rfl ?_
   exact ⟨(out139, atx145, wr (x99 + 1)), ⟨H.1, _, sl a157 out139 c158, hx141, hx147, env_eq ⟨rfl, rfl, rfl, rfl, rfl, rfl, rfl, rfl, rfl, rfl, rfl, rfl, trivial⟩, X170, o142, ex143, f144, o148, ex149, f150, ex152, ex153, ex154, ex155, ex156, d159, d160, d161, d162, d163, d164, d165, d166, d167, d168, d169⟩, H.2⟩
  have H := H.2 hc138
  refine W_exit ?_
  refine (if_pos rfl).mpr ?_
  refine W_seq ?_
  refine W_region ?_
  refine LP_ev ok 0 [(56, I r14), (57, I 0)] 2 rfl rfl ?_
  refine LP_end _ rfl ?_
  refine W_block ?_
  obtain ⟨J300, m301, Hx302, H⟩ := H
  refine W_loop (S := (List Condition) × Int) (fun s ρ' w' => J300 s.1 s.2 ∧ ∃ (ρ : Env) (hx281 : PH), ρ' = setAll [(1, sl a5 sx c6), (3, pb b), (7, sl a106 out88 c107), (8, I r14), (10, pb b71), (11, .slice a85 (List.length (List.replicate (Int.toNat (ln x40.Cells)) ((0 : Int)))) c86), (20, sl a11 pubs c12), (21, I (ln pubs)), (22, I x23), (56, I r14), (57, I s.2)] ρ ∧ But emp w w' ∧ OD hx281 (sl a106 out88 c107) s.1 ∧ Sub hx281 w' ∧ Fresh w.heap.size hx281 ∧ Sub hx w' ∧ Sub hx2 w' ∧ Sub hx8 w' ∧ Sub (bx b 32 [sl a g.Parents c]) w' ∧ Sub (bx b71 69 [I x40.Table.Level, sl a65 x40.Table.Vars c66, sl a67 x40.Table.Where c68, I x40.Table.Sum, sl a69 x40.Cells c70]) w' ∧ Sub hx95 w' ∧ Dj hx281 hx ∧ Dj hx281 hx2 ∧ Dj hx281 hx8 ∧ Dj hx281 (bx b 32 [sl a g.Parents c]) ∧ Dj hx281 (bx b71 69 [I x40.Table.Level, sl a65 x40.Table.Vars c66, sl a67 x40.Table.Where c68, I x40.Table.Sum, sl a69 x40.Cells c70]) ∧ Dj hx281 hx95) (fun s => m301 s.1 s.2) (out88, 0) ⟨Hx302, _, hx90, env_eq ⟨rfl, rfl, rfl, rfl, rfl, rfl, rfl, rfl, rfl, rfl, rfl, trivial⟩, X119, o91, ex92, f93, ex101, ex102, ex103, ex104, ex105, ex97, d108, d109, d110, d111, d112, d118.symm⟩ ?_
  rintro ⟨out279, x285⟩ _ wx286 ⟨Hi, ρ, hx281, rfl, HF⟩
  revert HF
  refine bb9 fun X299 o282 ex283 f284 ex287 ex288 ex289 ex290 => ?_
  refine bb8 fun ex291 ex292 d293 d294 d295 d296 d297 d298 => ?_
  have H := H out279 x285 Hi
  refine W_seq ?_
  refine W_region ?_
  refine LP_ev ok 0 [(58, .bool (decide (x285 < r14)))] 1 rfl rfl ?_
  refine LP_end _ rfl ?_
  refine W_seq ?_
  refine W_cond (decide (x285 < r14)) rfl (fun hc304 => ?_) (fun hc304 => ?_)
  ·have H := H.1 hc304
   refine W_skip ?_
   obtain ⟨k325, hk326, H⟩ := jn_elim H
   refine W_join2 (S := (List Condition)) (fun s ρ' w' => k325 s ∧ ∃ (ρ : Env) (hx307 : PH), ρ' = setAll [(1, sl a5 sx c6), (3, pb b), (7, sl a106 out88 c107), (8, I r14), (10, pb b71), (11, .slice a85 (List.length (List.replicate (Int.toNat (ln x40.Cells)) ((0 : Int)))) c86), (20, sl a11 pubs c12), (21, I (ln pubs)), (22, I x23), (56, I r14), (57, I x285)] ρ ∧ But emp w w' ∧ OD hx307 (sl a106 out88 c107) s ∧ Sub hx307 w' ∧ Fresh w.heap.size hx307 ∧ Sub hx w' ∧ Sub hx2 w' ∧ Sub hx8 w' ∧ Sub (bx b 32 [sl a g.Parents c]) w' ∧ Sub (bx b71 69 [I x40.Table.Level, sl a65 x40.Table.Vars c66, sl a67 x40.Table.Where c68, I x40.Table.Sum, sl a69 x40.Cells c70]) w' ∧ Sub hx95 w' ∧ Dj hx307 hx ∧ Dj hx307 hx2 ∧ Dj hx307 hx8 ∧ Dj hx307 (bx b 32 [sl a g.Parents c]) ∧ Dj hx307 (bx b71 69 [I x40.Table.Level, sl a65 x40.Table.Vars c66, sl a67 x40.Table.Where c68, I x40.Table.Sum, sl a69 x40.Cells c70]) ∧ Dj hx307 hx95) ?_ ?_
   ·refine W_block ?_
    refine W_seq ?_
    refine W_region ?_
    refine LP_ev ok 0 [(59, I x285), (14, I x285)] 2 rfl rfl ?_
    refine LP_end _ rfl ?_
    refine W_seq ?_
    refine W_open mix fun wx327 x328 => ?_
    refine AP_game 13 [[], [], [], [2], [], [], [], [4, 5, 6], [0, 1, 2, 3, 4, 5, 6, 7], [0, 1, 2, 3, 4, 5, 6, 7, 8], [0, 1, 2, 3, 4, 5, 6, 7, 8, 9], [0, 1, 2, 3, 4, 5, 6, 7, 8, 9], [0, 1, 2, 3, 4, 5, 6, 7, 8, 9, 10], [0, 1, 2, 3, 4, 5, 6, 7, 8, 9, 10, 11, 12]] [[(3, none)], [(1, none)], [(10, none)], [(63, some 2)], [(3, none)], [(1, none)], [(14, none)], [(65, some 4), (66, some 5), (67, some 6)], [(61, some 0), (62, some 1), (64, some 3), (68, some 7)], [(69, some 8)], [(60, some 9)], [(60, some 9)], [(70, some 10)]] [(1, none), (3, none), (7, none), (8, none), (10, none), (11, none), (14, none), (15, some 12), (20, none), (21, none), (22, none), (56, none), (57, none), (71, some 11)] [(0, false), (1, false), (2, false), (3, false), (4, false), (5, false), (6, false), (7, true), (8, false), (9, false), (10, false), (11, false), (12, false)] (by kernel_rfl) (by kernel_rfl) ?_
    have ex329 := (ex290.ext x328)
    refine GS_r1 [(3, pb b)] (.agg #[sl a g.Parents c]) rfl rfl (fun _ h => h) (fun _ w e => ex_ldbox rfl ti_32 ag_32 (fun h => by cases h) rfl e rfl rfl) ex329 ?_
    refine GS_ev ok [(1, sl a5 sx c6)] (sl a5 sx c6) rfl rfl (fun _ h => h) (fun _ => rfl) ?_
    refine GS_ev ok [(10, pb b71)] (pb b71) rfl rfl (fun _ h => h) (fun _ => rfl) ?_
    have ex330 := (ex291.ext x328)
    refine GS_r1 [(63, pb b71)] (.agg #[I x40.Table.Level, sl a65 x40.Table.Vars c66, sl a67 x40.Table.Where c68, I x40.Table.Sum]) rfl rfl (fun _ h => h) (fun _ w e => ex_ldbox rfl ti_50 ag_50 (fun h => by cases h) rfl e rfl rfl) ex330 ?_
    refine GS_r1 [(3, pb b)] (.agg #[sl a g.Parents c]) rfl rfl (fun _ h => h) (fun _ w e => ex_ldbox rfl ti_32 ag_32 (fun h => by cases h) rfl e rfl rfl) ex329 ?_
    refine GS_ev ok [(1, sl a5 sx c6)] (sl a5 sx c6) rfl rfl (fun _ h => h) (fun _ => rfl) ?_
    refine GS_ev ok [(14, I x285)] (I x285) rfl rfl (fun _ h => h) (fun _ => rfl) ?_
    refine GS_lp [(65, .agg #[sl a g.Parents c]), (66, sl a5 sx c6), (67, I x285)] rfl rfl (fun _ h => h) rfl fun ρ wx331 x332 => ?_
    have ex334 := ((ex287.ext x328).ext x332)
    have ex335 := ((ex288.ext x328).ext x332)
    refine LP_call 0 rfl rfl rfl cal_54 rfl (impl_typeAt_w _ _ _ _ H wx331 r ex334 r3 ex335) ?_
    rintro _ wx336 ⟨r333, vx338, hx339, H, rfl, x337, o340, ex341, f342⟩
    obtain ⟨a343, c344, rfl⟩ := o340.shape
    have ex345 := ((ex330.ext x332).ext x337)
    have ex346 := ((ex329.ext x332).ext x337)
    refine LP_gs ⟨⟨.inl rfl, .inr ex345, .inr ex346, trivial⟩, ?_⟩
    obtain ⟨r347, r348, Hd, H⟩ := H
    have ex349 := (ex334.ext x337)
    have ex350 := (ex335.ext x337)
    have ex351 := (((ex289.ext x328).ext x332).ext x337)
    refine GS_q [(61, .agg #[sl a g.Parents c]), (62, sl a5 sx c6), (64, .agg #[I x40.Table.Level, sl a65 x40.Table.Vars c66, sl a67 x40.Table.Where c68, I x40.Table.Sum]), (68, .agg #[I r333.Area, I r333.House, sl a343 r333.Values c344])] (.tuple #[I r347, I r348]) [hx, hx2, hx8, hx8, hx339] [.agg #[sl a g.Parents c], sl a5 sx c6, .agg #[I x40.Table.Level, sl a65 x40.Table.Vars c66, sl a67 x40.Table.Where c68, I x40.Table.Sum], .agg #[I r333.Area, I r333.House, sl a343 r333.Values c344]] rfl rfl (fun _ h => h) rfl cal_53 (fun _ => rfl) (fun w e => (impl_contribution_w _ _ _ _ _ Hd w r e.1 r3 e.2.1 r60 e.2.2.1 r62 e.2.2.2.1 o340.readf e.2.2.2.2.1).mono (fun _ _ h => by obtain ⟨_, _, ⟨rfl, rfl⟩, rfl, x⟩ := h; exact ⟨rfl, x⟩)) ⟨ex349, ex350, ex351, ex351, ex341, trivial⟩ ?_
    refine GS_ev ok [(69, .tuple #[I r347, I r348])] (.tuple #[I r347, I r348]) rfl rfl (fun _ h => h) (fun _ => rfl) ?_
    refine GS_ev ok [(60, .tuple #[I r347, I r348])] (I r347) rfl rfl (fun _ h => h) (fun _ => rfl) ?_
    refine GS_ev ok [(60, .tuple #[I r347, I r348])] (I r348) rfl rfl (fun _ h => h) (fun _ => rfl) ?_
    refine GS_ev ok [(70, I r347)] (I r347) rfl rfl (fun _ h => h) (fun _ => rfl) ?_
    intro wx352 x353 ρ hn354
    refine AP_forget [(1, sl a5 sx c6), (3, pb b), (7, sl a106 out88 c107), (8, I r14), (10, pb b71), (11, .slice a85 (List.length (List.replicate (Int.toNat (ln x40.Cells)) ((0 : Int)))) c86), (14, I x285), (15, I r347), (20, sl a11 pubs c12), (21, I (ln pubs)), (22, I x23), (56, I r14), (57, I x285), (71, I r348)] (by exact hn354) fun ρ => ?_
    refine AP_tail 13 [[], [], [], [2], [], [], [], [4, 5, 6], [0, 1, 2, 3, 4, 5, 6, 7], [0, 1, 2, 3, 4, 5, 6, 7, 8], [0, 1, 2, 3, 4, 5, 6, 7, 8, 9], [0, 1, 2, 3, 4, 5, 6, 7, 8, 9], [0, 1, 2, 3, 4, 5, 6, 7, 8, 9, 10], [0, 1, 2, 3, 4, 5, 6, 7, 8, 9, 10, 11, 12]] (by kernel_rfl) ?_
    refine LP_ev ok 13 [(16, I r348)] 14 rfl rfl ?_
    refine LP_end _ rfl ?_
    obtain ⟨k357, hk358, H⟩ := jn_elim H
    refine W_join2 (S := Bool) (fun s ρ' w' => k357 s ∧ ∃ (ρ : Env), ρ' = setAll [(1, sl a5 sx c6), (3, pb b), (7, sl a106 out88 c107), (8, I r14), (10, pb b71), (11, .slice a85 (List.length (List.replicate (Int.toNat (ln x40.Cells)) ((0 : Int)))) c86), (14, I x285), (15, I r347), (16, I r348), (20, sl a11 pubs c12), (21, I (ln pubs)), (22, I x23), (56, I r14), (57, I x285), (80, .bool s)] ρ ∧ wx352 = w') ?_ ?_
    ·refine W_region ?_
     refine LP_ev ok 0 [(72, I r347), (73, .bool (decide (r347 ≥ 0))), (74, .bool (decide (r347 ≥ 0)))] 3 rfl rfl ?_
     refine LP_split 74 (decide (r347 ≥ 0)) rfl (fun hc359 => ?_) (fun hc359 => ?_)
     ·have H := H.1 hc359
      refine LP_ev ok 3 [(75, .slice a85 (List.length (List.replicate (Int.toNat (ln x40.Cells)) ((0 : Int)))) c86), (76, I r347)] 5 rfl rfl ?_
      obtain ⟨x360, hi361, hx362, H⟩ := H
      refine LP_index 5 rfl rfl rfl Try.underlying22 ti_3 rfl rfl o96.readf hi361 hx362 fun a363 cs364 r365 d366 => ?_
      have ex367 := ((((ex292.ext x328).ext x332).ext x337).ext x353)
      refine LP_load 6 rfl rfl rfl ti_3 ag_3 rfl r365 d366 ex367 fun vx368 r369 => ?_
      obtain rfl := r369.int
      refine LP_ev ok 7 [(79, .bool (decide (x360 ≥ 0))), (80, .bool (decide (x360 ≥ 0)))] 9 rfl rfl ?_
      refine LP_end _ rfl ?_
      exact ⟨decide (x360 ≥ 0), H, _, env_eq ⟨rfl, rfl, rfl, rfl, rfl, rfl, rfl, rfl, rfl, rfl, rfl, rfl, rfl, rfl, rfl, trivial⟩, rfl⟩
     have H := H.2 hc359
     refine LP_ev ok 3 [(75, undef), (76, undef), (77, undef), (78, undef), (79, undef), (80, .bool false)] 9 rfl rfl ?_
     refine LP_end _ rfl ?_
     exact ⟨false, H, _, env_eq ⟨rfl, rfl, rfl, rfl, rfl, rfl, rfl, rfl, rfl, rfl, rfl, rfl, rfl, rfl, rfl, trivial⟩, rfl⟩
    rintro x355 _ _ ⟨H, ρ, rfl, rfl⟩
    subst hk358
    refine W_cond (x355) rfl (fun hc370 => ?_) (fun hc370 => ?_)
    ·have H := H.1 hc370
     refine W_region ?_
     refine LP_ev ok 0 [(81, sl a106 out88 c107), (82, .slice a85 (List.length (List.replicate (Int.toNat (ln x40.Cells)) ((0 : Int)))) c86), (83, I r347)] 3 rfl rfl ?_
     obtain ⟨x371, hi372, hx373, H⟩ := H
     refine LP_index 3 rfl rfl rfl Try.underlying22 ti_3 rfl rfl o96.readf hi372 hx373 fun a374 cs375 r376 d377 => ?_
     have ex378 := ((((ex292.ext x328).ext x332).ext x337).ext x353)
     refine LP_load 4 rfl rfl rfl ti_3 ag_3 rfl r376 d377 ex378 fun vx379 r380 => ?_
     obtain rfl := r380.int
     obtain ⟨x381, hi382, hx383, H⟩ := H
     refine LP_indexB (v := sl a106 out88 c107) 5 rfl rfl rfl Try.underlying99 ti_124 rfl rfl o282 hi382 hx383 fun a384 c385 hx386 rest r387 bw => ?_
     refine LP_ev ok 6 [(87, .pointer (some (Addr.add a384 0)))] 7 rfl rfl ?_
     obtain ⟨u388, hx389, rest390, rfl, bw391⟩ := Condition_bw0 bw
     have o392 := bw391.od
     obtain ⟨a393, c394, rfl⟩ := o392.shape
     have ex395 := ((((ex283.ext x328).ext x332).ext x337).ext x353)
     refine LP_ldpart (off := 0) 7 (v := sl a393 x381.Amounts c394) rfl rfl rfl ti_22 ag_22 (fun _ => rfl) rfl r387 ex395 rfl rfl ?_
     have ex396 := Sub.le ex395 bw391.le
     have o397 : OS 3 hx389 emp (sl a393 x381.Amounts c394) x381.Amounts := OD.flat o392
     refine LP_ev ok 8 [(89, I x285), (90, I r348)] 10 rfl rfl ?_
     obtain ⟨hi398, hl399, H⟩ := H
     refine LP_indexw (v := sl a393 x381.Amounts c394) 10 rfl rfl rfl Try.underlying22 ti_3 rfl rfl o397 hi398 hl399 fun a400 wa401 => ?_
     refine LP_set 11 rfl rfl rfl rfl rfl wa401 (Le.refl emp) ⟨_, rfl, rfl⟩ ex396 fun hx402 wx403 o404 ex405 y406 dm407 => ?_
     obtain ⟨bw408, o409, dd⟩ := BwG.turn bw391 (OS.od o404) (Dom.of dm407)
     have ex410 := BwG.sub bw391 ex395 ex405 y406
     have y411 := BwG.but bw391 y406
     refine LP_end _ rfl ?_
     have X412 := (((((X299.stepx x328).stepx x332).stepx x337).stepx x353).step y411 (f284.dom _))
     have X414 := ((((X299.stepx x328).stepx x332).stepx x337).stepx x353)
     have f413 := ((fun n => Dom.le dd n) _).fresh f284 X414.size
     have ex415 := ((ex349.ext x353).but y411 d293)
     have ex416 := ((ex350.ext x353).but y411 d294)
     have ex417 := ((ex351.ext x353).but y411 d295)
     have ex418 := ((((ex329.ext x332).ext x337).ext x353).but y411 d296)
     have ex419 := ((((ex330.ext x332).ext x337).ext x353).but y411 d297)
     have ex420 := (ex378.but y411 d298)
     have ex421 := (ex349.ext x353)
     have ex422 := (ex350.ext x353)
     have ex423 := (ex351.ext x353)
     have ex424 := (((ex329.ext x332).ext x337).ext x353)
     have ex425 := (((ex330.ext x332).ext x337).ext x353)
     exact ⟨List.set out279 (Int.toNat x371) ({x381 with Amounts := List.set x381.Amounts (Int.toNat x285) r348} : Condition), H, _, (un hx402 rest390), env_eq ⟨rfl, rfl, rfl, rfl, rfl, rfl, rfl, rfl, rfl, rfl, rfl, trivial⟩, X412, o409, ex410, f413, ex415, ex416, ex417, ex418, ex419, ex420, (DomLe.dj ((fun n => Dom.le dd n) _) d293 ex421), (DomLe.dj ((fun n => Dom.le dd n) _) d294 ex422), (DomLe.dj ((fun n => Dom.le dd n) _) d295 ex423), (DomLe.dj ((fun n => Dom.le dd n) _) d296 ex424), (DomLe.dj ((fun n => Dom.le dd n) _) d297 ex425), (DomLe.dj ((fun n => Dom.le dd n) _) d298 ex378)⟩
    have H := H.2 hc370
    refine W_skip ?_
    have X426 := ((((X299.stepx x328).stepx x332).stepx x337).stepx x353)
    have ex427 := ((((ex283.ext x328).ext x332).ext x337).ext x353)
    have ex428 := (ex349.ext x353)
    have ex429 := (ex350.ext x353)
    have ex430 := (ex351.ext x353)
    have ex431 := (((ex329.ext x332).ext x337).ext x353)
    have ex432 := (((ex330.ext x332).ext x337).ext x353)
    have ex433 := ((((ex292.ext x328).ext x332).ext x337).ext x353)
    exact ⟨out279, H, _, hx281, env_eq ⟨rfl, rfl, rfl, rfl, rfl, rfl, rfl, rfl, rfl, rfl, rfl, trivial⟩, X426, o282, ex427, f284, ex428, ex429, ex430, ex431, ex432, ex433, d293, d294, d295, d296, d297, d298⟩
   rintro out305 _ wx311 ⟨H, ρ, hx307, rfl, HF⟩
   revert HF
   refine bb9 fun X324 o308 ex309 f310 ex312 ex313 ex314 ex315 => ?_
   refine bb8 fun ex316 ex317 d318 d319 d320 d321 d322 d323 => ?_
   subst hk326
   refine W_region ?_
   refine LP_ev ok 0 [(92, I (wr (x285 + 1))), (57, I (wr (x285 + 1)))] 2 rfl rfl ?_
   refine LP_end _ rfl ?_
   exact ⟨(out305, wr (x285 + 1)), ⟨H.1, _, hx307, env_eq ⟨rfl, rfl, rfl, rfl, rfl, rfl, rfl, rfl, rfl, rfl, rfl, trivial⟩, X324, o308, ex309, f310, ex312, ex313, ex314, ex315, ex316, ex317, d318, d319, d320, d321, d322, d323⟩, H.2⟩
  have H := H.2 hc304
  refine W_exit ?_
  refine (if_pos rfl).mpr ?_
  refine W_region ?_
  refine LP_ev ok 0 [(93, I (wr (x23 + 1))), (22, I (wr (x23 + 1)))] 2 rfl rfl ?_
  refine LP_end _ rfl ?_
  exact ⟨(out279, wr (x23 + 1)), ⟨H.1, _, sl a106 out88 c107, hx281, env_eq ⟨rfl, rfl, rfl, rfl, rfl, rfl, rfl, trivial⟩, X299, o282, ex283, f284, ex287, ex288, ex289, ex290, d293, d294, d295, d296⟩, H.2⟩
 have H := H.2 hc
 refine W_exit ?_
 refine (if_pos rfl).mpr ?_
 refine W_seq ?_
 refine W_region ?_
 refine LP_ev ok 0 [(94, sl a29 out c30), (6, sl a29 out c30)] 2 rfl rfl ?_
 refine LP_end _ rfl ?_
 refine W_ret ?_
 exact ⟨_, Ret_of [sl a29 out c30] ⟨⟨rfl, rfl⟩, trivial⟩, _, _, _, H, rfl, X34.ext, o, ex21, f22⟩

theorem impl_AnswerRange_1_w (counts : List Int) (c1 : List Int) (Q : (List Int) → Prop) (H : impl_AnswerRange_1 counts c1 Q) (w : World) {vx : Value} {hx : PH} (r : RS hx vx counts) (ex : Sub hx w) {vx2 : Value} {hx3 : PH} (r4 : RS hx3 vx2 c1) (ex5 : Sub hx3 w) {b : Nat} (ex8 : Sub (bx b 22 [vx2]) w) :
  CallsTo Try.prog 56 #[vx, pb b] w fun v w' => ∃ r0 u0 g0, Q r0 ∧ v = u0 ∧ Ext w w' ∧ OS 3 g0 emp u0 r0 ∧ Sub g0 w' ∧ Fresh w.heap.size g0 := by
 obtain ⟨a, c, rfl⟩ := r.shape
 obtain ⟨a6, c7, rfl⟩ := r4.shape
 refine enter (args := [sl a counts c, pb b]) 25 Try.func56 rfl rfl rfl ?_
 refine W_forget [(0, sl a counts c), (1, pb b)] ⟨rfl, rfl, trivial⟩ fun ρ => ?_
 have X := But.refl emp w
 refine W_seq ?_
 refine W_region ?_
 refine LP_ev ok 0 [(3, .slice none 0 0)] 1 rfl rfl ?_
 refine LP_end _ rfl ?_
 refine W_seq ?_
 refine W_region ?_
 refine LP_ev ok 0 [(4, I 0)] 1 rfl rfl ?_
 refine LP_end _ rfl ?_
 refine W_seq ?_
 refine W_seq ?_
 refine W_region ?_
 refine LP_ev ok 0 [(7, sl a counts c), (8, I (ln counts)), (9, I 0)] 3 rfl rfl ?_
 refine LP_end _ rfl ?_
 refine W_block ?_
 obtain ⟨J, m, Hx, H⟩ := H
 refine W_loop (S := Int × Int) (fun s ρ' w' => J s.1 s.2 ∧ ∃ (ρ : Env), ρ' = setAll [(1, pb b), (4, I s.1), (7, sl a counts c), (8, I (ln counts)), (9, I s.2)] ρ ∧ w = w') (fun s => m s.1 s.2) (0, 0) ⟨Hx, _, env_eq ⟨rfl, rfl, rfl, rfl, rfl, trivial⟩, rfl⟩ ?_
 rintro ⟨sum, x⟩ _ _ ⟨Hi, ρ, rfl, rfl⟩
 have H := H sum x Hi
 refine W_seq ?_
 refine W_region ?_
 refine LP_ev ok 0 [(10, .bool (decide (x < (ln counts))))] 1 rfl rfl ?_
 refine LP_end _ rfl ?_
 refine W_seq ?_
 refine W_cond (decide (x < (ln counts))) rfl (fun hc => ?_) (fun hc => ?_)
 ·have H := H.1 hc
  refine W_skip ?_
  refine W_seq ?_
  refine W_block ?_
  refine W_seq ?_
  refine W_region ?_
  refine LP_ev ok 0 [(11, I x)] 1 rfl rfl ?_
  obtain ⟨x9, hi, hx10, H⟩ := H
  refine LP_index 1 rfl rfl rfl Try.underlying22 ti_3 rfl rfl r hi hx10 fun a11 cs r12 d => ?_
  refine LP_load 2 rfl rfl rfl ti_3 ag_3 rfl r12 d ex fun vx13 r14 => ?_
  obtain rfl := r14.int
  refine LP_ev ok 3 [(5, I x), (6, I x9)] 5 rfl rfl ?_
  refine LP_end _ rfl ?_
  refine W_region ?_
  refine LP_ev ok 0 [(14, I sum), (15, I x9)] 2 rfl rfl ?_
  refine LP_ldbox 2 (v := sl a6 c1 c7) rfl rfl rfl ti_22 ag_22 (fun _ => rfl) rfl ex8 rfl rfl ?_
  refine LP_ev ok 3 [(17, I x)] 4 rfl rfl ?_
  obtain ⟨x15, hi16, hx17, H⟩ := H
  refine LP_index 4 rfl rfl rfl Try.underlying22 ti_3 rfl rfl r4 hi16 hx17 fun a18 cs19 r20 d21 => ?_
  refine LP_load 5 rfl rfl rfl ti_3 ag_3 rfl r20 d21 ex5 fun vx22 r23 => ?_
  obtain rfl := r23.int
  refine LP_ev ok 6 [(20, I (wr (x9 * x15))), (21, I (wr (sum + (wr (x9 * x15))))), (4, I (wr (sum + (wr (x9 * x15)))))] 9 rfl rfl ?_
  refine LP_end _ rfl ?_
  refine W_region ?_
  refine LP_ev ok 0 [(22, I (wr (x + 1))), (9, I (wr (x + 1)))] 2 rfl rfl ?_
  refine LP_end _ rfl ?_
  exact ⟨(wr (sum + (wr (x9 * x15))), wr (x + 1)), ⟨H.1, _, env_eq ⟨rfl, rfl, rfl, rfl, rfl, trivial⟩, rfl⟩, H.2⟩
 have H := H.2 hc
 refine W_exit ?_
 refine (if_pos rfl).mpr ?_
 refine W_seq ?_
 refine W_region ?_
 refine LP_ev ok 0 [(23, I sum)] 1 rfl rfl ?_
 refine LP_lit (α := Int) (g := emp) 1 (vs := [I sum]) (xs := [sum]) rfl rfl rfl Try.underlying22 ti_3 rfl rfl ⟨⟨_, rfl, rfl⟩, trivial⟩ rfl rfl fun hx24 vx25 wx26 x27 o ex28 f => ?_
 obtain ⟨a29, c30, rfl⟩ := o.shape
 refine LP_ev ok 2 [(3, .slice a29 (List.length ([sum])) c30)] 3 rfl rfl ?_
 refine LP_end _ rfl ?_
 refine W_ret ?_
 have f31 := f.mono X.size
 have X32 := (X.stepx x27)
 exact ⟨_, Ret_of [.slice a29 (List.length ([sum])) c30] ⟨⟨rfl, rfl⟩, trivial⟩, _, _, _, H, rfl, X32.ext, o, ex28, f31⟩

theorem impl_ranges_1_impl_AnswerRange_1_w (counts : List Int) (c1 : List Int) (c11 : List Int) (c20 : List Int) (Q : (List Int) → (List Int) → Prop) (H : impl_ranges_1_impl_AnswerRange_1 counts c1 c11 c20 Q) (w : World) {vx : Value} {hx : PH} (r : RS hx vx counts) (ex : Sub hx w) {vx2 : Value} {hx3 : PH} (r4 : RS hx3 vx2 c1) (ex5 : Sub hx3 w) {b : Nat} (ex8 : Sub (bx b 22 [vx2]) w) {b9 : Nat} (ex10 : Sub (bx b9 65 [.func (.func 56) #[] #[pb b]]) w) {vx12 : Value} {hx13 : PH} (r14 : OS 3 hx13 emp vx12 c11) (ex15 : Sub hx13 w) (cn : CanV vx12 c11) {b18 : Nat} (ex19 : Sub (bx b18 22 [vx12]) w) {vx21 : Value} {hx22 : PH} (r23 : OS 3 hx22 emp vx21 c20) (ex24 : Sub hx22 w) {b27 : Nat} (ex28 : Sub (bx b27 22 [vx21]) w) (d : Dj hx13 (bx b18 22 [vx12])) (d29 : Dj hx13 hx22) (d30 : Dj hx13 (bx b27 22 [vx21])) (d31 : Dj (bx b18 22 [vx12]) hx22) (d32 : Dj (bx b18 22 [vx12]) (bx b27 22 [vx21])) (d33 : Dj hx22 (bx b27 22 [vx21])) (d34 : Dj hx13 hx) (d35 : Dj hx13 hx3) (d36 : Dj hx13 (bx b 22 [vx2])) (d37 : Dj hx13 (bx b9 65 [.func (.func 56) #[] #[pb b]])) (d38 : Dj (bx b18 22 [vx12]) hx) (d39 : Dj (bx b18 22 [vx12]) hx3) (d40 : Dj (bx b18 22 [vx12]) (bx b 22 [vx2])) (d41 : Dj (bx b18 22 [vx12]) (bx b9 65 [.func (.func 56) #[] #[pb b]])) (d42 : Dj hx22 hx) (d43 : Dj hx22 hx3) (d44 : Dj hx22 (bx b 22 [vx2])) (d45 : Dj hx22 (bx b9 65 [.func (.func 56) #[] #[pb b]])) (d46 : Dj (bx b27 22 [vx21]) hx) (d47 : Dj (bx b27 22 [vx21]) hx3) (d48 : Dj (bx b27 22 [vx21]) (bx b 22 [vx2])) (d49 : Dj (bx b27 22 [vx21]) (bx b9 65 [.func (.func 56) #[] #[pb b]])) :
  CallsTo Try.prog 90 #[vx, pb b9, pb b18, pb b27] w fun v w' => ∃ m1 m3 v1_ k1 v3_ k3, Q m1 m3 ∧ v = .tuple #[] ∧ But (un hx13 (un (bx b18 22 [vx12]) (un hx22 (bx b27 22 [vx21])))) w w' ∧ OS 3 k1 emp v1_ m1 ∧ Sub k1 w' ∧ DomLe (un hx13 (un (bx b18 22 [vx12]) (un hx22 (bx b27 22 [vx21])))) w.heap.size k1 ∧ Sub (bx b18 22 [v1_]) w' ∧ OS 3 k3 emp v3_ m3 ∧ Sub k3 w' ∧ DomLe (un hx13 (un (bx b18 22 [vx12]) (un hx22 (bx b27 22 [vx21])))) w.heap.size k3 ∧ Sub (bx b27 22 [v3_]) w' ∧ Dj k1 (bx b18 22 [v1_]) ∧ Dj k1 k3 ∧ Dj k1 (bx b27 22 [v3_]) ∧ Dj (bx b18 22 [v1_]) k3 ∧ Dj k3 (bx b27 22 [v3_]) ∧ CanV v1_ m1 := by
 obtain ⟨a, c, rfl⟩ := r.shape
 obtain ⟨a6, c7, rfl⟩ := r4.shape
 obtain ⟨a16, c17, rfl⟩ := r14.shape
 obtain ⟨a25, c26, rfl⟩ := r23.shape
 refine enter (args := [sl a counts c, pb b9, pb b18, pb b27]) 45 Try.func90 rfl rfl rfl ?_
 refine W_forget [(0, sl a counts c), (1, pb b9), (2, pb b18), (3, pb b27)] ⟨rfl, rfl, rfl, rfl, trivial⟩ fun ρ => ?_
 obtain ⟨M, hM⟩ : ∃ M : PH, M = (un hx13 (un (bx b18 22 [sl a16 c11 c17]) (un hx22 (bx b27 22 [sl a25 c20 c26])))) := ⟨_, rfl⟩
 have D : Dom M hx13 := by subst hM; exact (Dom.l _ _)
 have D50 : Dom M (bx b18 22 [sl a16 c11 c17]) := by subst hM; exact (Dom.trans (Dom.r _ _) (Dom.l _ _))
 have D51 : Dom M hx22 := by subst hM; exact (Dom.trans (Dom.r _ _) (Dom.trans (Dom.r _ _) (Dom.l _ _)))
 have D52 : Dom M (bx b27 22 [sl a25 c20 c26]) := by subst hM; exact (Dom.trans (Dom.r _ _) (Dom.trans (Dom.r _ _) (Dom.trans (Dom.r _ _) (Dom.refl _))))
 have X := But.refl M w
 refine W_seq ?_
 refine W_region ?_
 refine LP_ldbox 0 (v := .func (.func 56) #[] #[pb b]) rfl rfl rfl ti_65 ag_65 (fun _ => rfl) rfl ex10 rfl rfl ?_
 refine LP_ev ok 1 [(9, sl a counts c)] 2 rfl rfl ?_
 refine LP_callc 2 rfl rfl rfl rfl cal_56 rfl rfl (impl_AnswerRange_1_w _ _ _ H w r ex r4 ex5 ex8) ?_
 rintro _ wx ⟨r53, vx54, hx55, H, rfl, x, o, ex56, f⟩
 obtain ⟨a57, c58, rfl⟩ := o.shape
 refine LP_ev ok 3 [(5, sl a57 r53 c58)] 4 rfl rfl ?_
 refine LP_end _ rfl ?_
 obtain ⟨k, hk, H⟩ := jn_elim H
 refine W_join2 (S := (List Int) × (List Int)) (fun s ρ' w' => k s.1 s.2 ∧ ∃ (ρ : Env) (vx60 : Value) (hx61 : PH) (vx66 : Value) (hx67 : PH), ρ' = setAll [(2, pb b18), (3, pb b27), (5, sl a57 r53 c58)] ρ ∧ But M w w' ∧ OS 3 hx61 emp vx60 s.1 ∧ Sub hx61 w' ∧ DomLe M w.heap.size hx61 ∧ OS 3 hx67 emp vx66 s.2 ∧ Sub hx67 w' ∧ DomLe M w.heap.size hx67 ∧ Sub hx55 w' ∧ Sub (bx b18 22 [vx60]) w' ∧ Sub (bx b27 22 [vx66]) w' ∧ Dj hx61 hx55 ∧ Dj hx61 (bx b18 22 [vx60]) ∧ Dj hx61 (bx b27 22 [vx66]) ∧ Dj hx67 hx55 ∧ Dj hx67 (bx b18 22 [vx60]) ∧ Dj hx67 (bx b27 22 [vx66]) ∧ Dj hx67 hx61 ∧ CanV vx60 s.1) ?_ ?_
 ·refine W_seq ?_
  refine W_region ?_
  have ex88 := (ex19.ext x)
  refine LP_ldbox 0 (v := sl a16 c11 c17) rfl rfl rfl ti_22 ag_22 (fun _ => rfl) rfl ex88 rfl rfl ?_
  refine LP_val 1 _ rfl rfl (ex_eqnilc rfl Try.underlying22 rfl rfl (cn _ _ _ rfl) _) ?_
  refine LP_end _ rfl ?_
  refine W_cond (ln c11 == 0) rfl (fun hc => ?_) (fun hc => ?_)
  ·have H := H.1 hc
   refine W_region ?_
   refine LP_lit (α := Int) (g := emp) 0 (vs := []) (xs := []) rfl rfl rfl Try.underlying22 ti_3 rfl rfl trivial rfl rfl fun hx89 vx90 wx91 x92 o93 ex94 f95 => ?_
   obtain ⟨a96, c97, rfl⟩ := o93.shape
   refine LP_ev ok 1 [(14, sl a57 r53 c58)] 2 rfl rfl ?_
   have ex98 := (ex56.ext x92)
   obtain ⟨hb, H⟩ := H
   refine LP_appendf (α := Int) 2 rfl rfl rfl Try.underlying22 ti_3 rfl rfl rfl o93 ex94 o.readf ex98 (by first | omega | (simp only [ln] at *; omega)) (by first | omega | (simp only [ln] at *; omega)) fun hx99 vx100 wx101 o102 ex103 y dm => ?_
   obtain ⟨a104, c105, rfl⟩ := o102.shape
   refine LP_lit (α := Int) (g := emp) 3 (vs := []) (xs := []) rfl rfl rfl Try.underlying22 ti_3 rfl rfl trivial rfl rfl fun hx106 vx107 wx108 x109 o110 ex111 f112 => ?_
   obtain ⟨a113, c114, rfl⟩ := o110.shape
   refine LP_ev ok 4 [(17, sl a57 r53 c58)] 5 rfl rfl ?_
   have ex115 := ((ex98.but y (Dj.of_fresh ex56 f95).symm).ext x109)
   obtain ⟨hb116, H⟩ := H
   refine LP_appendf (α := Int) 5 rfl rfl rfl Try.underlying22 ti_3 rfl rfl rfl o110 ex111 o.readf ex115 (by first | omega | (simp only [ln] at *; omega)) (by first | omega | (simp only [ln] at *; omega)) fun hx117 vx118 wx119 o120 ex121 y122 dm123 => ?_
   obtain ⟨a124, c125, rfl⟩ := o120.shape
   have ex129 := ((ex88.ext x92).but y (Dj.of_fresh ex88 f95).symm)
   have ex130 := ((((ex88.ext x92).but y (Dj.of_fresh ex88 f95).symm).ext x109).but y122 (Dj.of_fresh ex129 f112).symm)
   refine LP_stbox 6 (vs := [.slice a104 (List.length ((([] : List Int)) ++ r53)) c105]) (cs' := [.slice a104 (List.length ((([] : List Int)) ++ r53)) c105]) rfl rfl rfl ti_22 rfl rfl rfl rfl rfl ex130 rfl rfl fun wx126 ex127 y128 => ?_
   have ex134 := (ex28.ext x)
   have ex135 := ((ex134.ext x92).but y (Dj.of_fresh ex134 f95).symm)
   have ex136 := ((((((ex28.ext x).ext x92).but y (Dj.of_fresh ex134 f95).symm).ext x109).but y122 (Dj.of_fresh ex135 f112).symm).but y128 d32)
   refine LP_stbox 7 (vs := [.slice a124 (List.length ((([] : List Int)) ++ r53)) c125]) (cs' := [.slice a124 (List.length ((([] : List Int)) ++ r53)) c125]) rfl rfl rfl ti_22 rfl rfl rfl rfl rfl ex136 rfl rfl fun wx131 ex132 y133 => ?_
   refine LP_end _ rfl ?_
   have X138 := (X.stepx x)
   have f137 := f95.mono X138.size
   have X140 := ((X138.stepx x92).step y (f137.dom _))
   have f139 := f112.mono X140.size
   have X141 := (((((((X.stepx x).stepx x92).step y (f137.dom _)).stepx x109).step y122 (f139.dom _)).step y128 (Dom.le D50 _)).step y133 (Dom.le D52 _))
   have ex142 := (ex88.ext x92)
   have ex143 := (ex134.ext x92)
   have ex144 := ((((ex103.ext x109).but y122 (Dj.of_fresh ex103 f112).symm).but y128 (DomLe.dj dm (Dj.of_fresh ex88 f95).symm ex142).symm).but y133 (DomLe.dj dm (Dj.of_fresh ex134 f95).symm ex143).symm)
   have X146 := (X138.stepx x92)
   have f145 := dm.fresh f137 X146.size
   have ex147 := (ex129.ext x109)
   have ex148 := (ex135.ext x109)
   have ex149 := ((ex121.but y128 (DomLe.dj dm123 (Dj.of_fresh ex129 f112).symm ex147).symm).but y133 (DomLe.dj dm123 (Dj.of_fresh ex135 f112).symm ex148).symm)
   have X151 := (X140.stepx x109)
   have f150 := dm123.fresh f139 X151.size
   have ex152 := (ex98.but y (Dj.of_fresh ex56 f95).symm)
   have ex153 := (((ex115.but y122 (Dj.of_fresh ex152 f112).symm).but y128 (Dj.of_fresh ex19 f)).but y133 (Dj.of_fresh ex28 f))
   have ex154 := (ex127.but y133 (Dj.box d32.symm.symm).symm)
   have ex155 := (ex103.ext x109)
   obtain ⟨hz, H⟩ := H
   exact ⟨((([] : List Int)) ++ r53, (([] : List Int)) ++ r53), H, _, .slice a104 (List.length ((([] : List Int)) ++ r53)) c105, hx99, .slice a124 (List.length ((([] : List Int)) ++ r53)) c125, hx117, env_eq ⟨rfl, rfl, rfl, trivial⟩, X141, o102, ex144, (f145.dom _), o120, ex149, (f150.dom _), ex153, ex154, ex132, (DomLe.dj dm (Dj.of_fresh ex56 f95).symm ex98), (Dj.box (DomLe.dj dm (Dj.of_fresh ex88 f95).symm ex142).symm).symm, (Dj.box (DomLe.dj dm (Dj.of_fresh ex134 f95).symm ex143).symm).symm, (DomLe.dj dm123 (Dj.of_fresh ex152 f112).symm ex115), (Dj.box (DomLe.dj dm123 (Dj.of_fresh ex129 f112).symm ex147).symm).symm, (Dj.box (DomLe.dj dm123 (Dj.of_fresh ex135 f112).symm ex148).symm).symm, (DomLe.dj dm123 (Dj.of_fresh ex103 f112).symm ex155), (can_of o102.readf hz)⟩
  have H := H.2 hc
  refine W_skip ?_
  have X156 := (X.stepx x)
  have ex157 := (ex15.ext x)
  have ex158 := (ex24.ext x)
  have ex159 := (ex28.ext x)
  exact ⟨(c11, c20), H, _, sl a16 c11 c17, hx13, sl a25 c20 c26, hx22, env_eq ⟨rfl, rfl, rfl, trivial⟩, X156, r14, ex157, (Dom.le D _), r23, ex158, (Dom.le D51 _), ex56, ex88, ex159, (Dj.of_fresh ex15 f), d, d30, (Dj.of_fresh ex24 f), d31.symm, d33, d29.symm, cn⟩
 rintro ⟨x59, x65⟩ _ wx71 ⟨H, ρ, vx60, hx61, vx66, hx67, rfl, HF⟩
 revert HF
 refine bb9 fun X87 o62 ex63 f64 o68 ex69 f70 ex72 => ?_
 refine bb9 fun ex77 ex78 d79 d80 d81 d82 d83 d84 => ?_
 refine bb2 fun d85 cn86 => ?_
 subst hk
 obtain ⟨a73, c74, rfl⟩ := o62.shape
 obtain ⟨a75, c76, rfl⟩ := o68.shape
 refine W_seq ?_
 refine W_region ?_
 refine LP_ev ok 0 [(19, sl a57 r53 c58), (20, I (ln r53)), (21, I 0)] 3 rfl rfl ?_
 refine LP_end _ rfl ?_
 refine W_block ?_
 obtain ⟨J, m, Hx, H⟩ := H
 refine W_loop (S := Int × (List Int) × (List Int)) (fun s ρ' w' => J s.1 s.2.1 s.2.2 ∧ ∃ (ρ : Env) (hx163 : PH) (hx169 : PH), ρ' = setAll [(2, pb b18), (3, pb b27), (19, sl a57 r53 c58), (20, I (ln r53)), (21, I s.1)] ρ ∧ But M w w' ∧ OS 3 hx163 emp (sl a73 x59 c74) s.2.1 ∧ Sub hx163 w' ∧ DomLe M w.heap.size hx163 ∧ OS 3 hx169 emp (sl a75 x65 c76) s.2.2 ∧ Sub hx169 w' ∧ DomLe M w.heap.size hx169 ∧ Sub hx55 w' ∧ Sub (bx b18 22 [sl a73 x59 c74]) w' ∧ Sub (bx b27 22 [sl a75 x65 c76]) w' ∧ Dj hx163 hx55 ∧ Dj hx163 (bx b18 22 [sl a73 x59 c74]) ∧ Dj hx163 (bx b27 22 [sl a75 x65 c76]) ∧ Dj hx169 hx55 ∧ Dj hx169 (bx b18 22 [sl a73 x59 c74]) ∧ Dj hx169 (bx b27 22 [sl a75 x65 c76]) ∧ Dj hx169 hx163 ∧ CanV (sl a73 x59 c74) s.2.1) (fun s => m s.1 s.2.1 s.2.2) (0, x59, x65) ⟨Hx, _, hx61, hx67, env_eq ⟨rfl, rfl, rfl, rfl, rfl, trivial⟩, X87, o62, ex63, f64, o68, ex69, f70, ex72, ex77, ex78, d79, d80, d81, d82, d83, d84, d85, cn86⟩ ?_
 rintro ⟨x160, x161, x167⟩ _ wx173 ⟨Hi, ρ, hx163, hx169, rfl, HF⟩
 revert HF
 refine bb9 fun X185 o164 ex165 f166 o170 ex171 f172 ex174 => ?_
 refine bb9 fun ex175 ex176 d177 d178 d179 d180 d181 d182 => ?_
 refine bb2 fun d183 cn184 => ?_
 have H := H x160 x161 x167 Hi
 refine W_seq ?_
 refine W_region ?_
 refine LP_ev ok 0 [(22, .bool (decide (x160 < (ln r53))))] 1 rfl rfl ?_
 refine LP_end _ rfl ?_
 refine W_seq ?_
 refine W_cond (decide (x160 < (ln r53))) rfl (fun hc186 => ?_) (fun hc186 => ?_)
 ·have H := H.1 hc186
  refine W_skip ?_
  refine W_seq ?_
  refine W_block ?_
  refine W_seq ?_
  refine W_region ?_
  refine LP_ev ok 0 [(23, I x160)] 1 rfl rfl ?_
  obtain ⟨x187, hi, hx188, H⟩ := H
  refine LP_index 1 rfl rfl rfl Try.underlying22 ti_3 rfl rfl o.readf hi hx188 fun a189 cs r190 d191 => ?_
  refine LP_load 2 rfl rfl rfl ti_3 ag_3 rfl r190 d191 ex174 fun vx192 r193 => ?_
  obtain rfl := r193.int
  refine LP_ev ok 3 [(6, I x160), (7, I x187)] 5 rfl rfl ?_
  refine LP_end _ rfl ?_
  refine W_open mix fun wx194 x195 => ?_
  refine AP_game 18 [[], [], [], [], [], [], [4, 5], [4, 5, 6], [], [4, 5, 6, 7, 8], [], [], [10, 11], [10, 11, 12], [], [10, 11, 12, 13, 14], [0, 1, 4, 5, 6, 7, 8, 9, 10, 11, 12, 13], [0, 1, 4, 5, 6, 7, 8, 9, 10, 11, 12, 13, 16], [0, 1, 2, 3, 4, 5, 6, 7, 8, 9, 10, 11, 12, 13, 14, 15, 16, 17], [0, 1, 2, 3, 4, 5, 6, 7, 8, 9, 10, 11, 12, 13, 14, 15, 16, 17, 18]] [[(2, none)], [(6, none)], [(3, none)], [(6, none)], [(2, none)], [(6, none)], [(30, some 4), (31, some 5)], [(32, some 6)], [(7, none)], [(33, some 7), (34, some 8)], [(3, none)], [(6, none)], [(36, some 10), (37, some 11)], [(38, some 12)], [(7, none)], [(39, some 13), (40, some 14)], [(26, some 0), (27, some 1)], [(35, some 9), (42, some 16)]] [(2, none), (3, none), (19, none), (20, none), (21, none), (28, some 2), (29, some 3), (41, some 15)] [(0, false), (1, false), (2, false), (3, false), (4, false), (5, false), (6, false), (7, false), (8, false), (9, false), (10, false), (11, false), (12, false), (13, false), (14, false), (15, false), (16, true), (17, true)] (by kernel_rfl) (by kernel_rfl) ?_
  have ex196 := (ex175.ext x195)
  refine GS_r1 [(2, pb b18)] (sl a73 x59 c74) rfl rfl (fun _ h => h) (fun _ w e => ex_ldbox rfl ti_22 ag_22 (fun _ => rfl) rfl e rfl rfl) ex196 ?_
  refine GS_ev ok [(6, I x160)] (I x160) rfl rfl (fun _ h => h) (fun _ => rfl) ?_
  have ex197 := (ex176.ext x195)
  refine GS_r1 [(3, pb b27)] (sl a75 x65 c76) rfl rfl (fun _ h => h) (fun _ w e => ex_ldbox rfl ti_22 ag_22 (fun _ => rfl) rfl e rfl rfl) ex197 ?_
  refine GS_ev ok [(6, I x160)] (I x160) rfl rfl (fun _ h => h) (fun _ => rfl) ?_
  refine GS_r1 [(2, pb b18)] (sl a73 x59 c74) rfl rfl (fun _ h => h) (fun _ w e => ex_ldbox rfl ti_22 ag_22 (fun _ => rfl) rfl e rfl rfl) ex196 ?_
  refine GS_ev ok [(6, I x160)] (I x160) rfl rfl (fun _ h => h) (fun _ => rfl) ?_
  obtain ⟨x198, hi199, hx200, H⟩ := H
  obtain ⟨a201, cs202, hx205, r203, d204⟩ := run_indexAt Try.underlying22 ti_3 o164.readf .i64 _ x198 hi199 hx200
  refine GS_r0 [(30, sl a73 x59 c74), (31, I x160)] (.pointer (some a201)) rfl rfl (fun _ h => h) (fun _ _ => ex_index rfl rfl rfl (hx205 _)) ?_
  obtain ⟨vx206, hx208, r207⟩ := run_loadAt ti_3 ag_3 r203 d204
  obtain rfl := r207.int
  have ex209 := (ex165.ext x195)
  refine GS_r1 [(32, .pointer (some a201))] (I x198) rfl rfl (fun _ h => h) (fun _ w e => ex_load rfl rfl (hx208 w e)) ex209 ?_
  refine GS_ev ok [(7, I x187)] (I x187) rfl rfl (fun _ h => h) (fun _ => rfl) ?_
  refine GS_ev ok [(33, I x198), (34, I x187)] (I (mn x198 x187)) rfl rfl (fun _ h => h) (fun _ => rfl) ?_
  refine GS_r1 [(3, pb b27)] (sl a75 x65 c76) rfl rfl (fun _ h => h) (fun _ w e => ex_ldbox rfl ti_22 ag_22 (fun _ => rfl) rfl e rfl rfl) ex197 ?_
  refine GS_ev ok [(6, I x160)] (I x160) rfl rfl (fun _ h => h) (fun _ => rfl) ?_
  obtain ⟨x210, hi211, hx212, H⟩ := H
  obtain ⟨a213, cs214, hx217, r215, d216⟩ := run_indexAt Try.underlying22 ti_3 o170.readf .i64 _ x210 hi211 hx212
  refine GS_r0 [(36, sl a75 x65 c76), (37, I x160)] (.pointer (some a213)) rfl rfl (fun _ h => h) (fun _ _ => ex_index rfl rfl rfl (hx217 _)) ?_
  obtain ⟨vx218, hx220, r219⟩ := run_loadAt ti_3 ag_3 r215 d216
  obtain rfl := r219.int
  have ex221 := (ex171.ext x195)
  refine GS_r1 [(38, .pointer (some a213))] (I x210) rfl rfl (fun _ h => h) (fun _ w e => ex_load rfl rfl (hx220 w e)) ex221 ?_
  refine GS_ev ok [(7, I x187)] (I x187) rfl rfl (fun _ h => h) (fun _ => rfl) ?_
  refine GS_ev ok [(39, I x210), (40, I x187)] (I (mx x210 x187)) rfl rfl (fun _ h => h) (fun _ => rfl) ?_
  refine GS_lp [(26, sl a73 x59 c74), (27, I x160)] rfl rfl (fun _ h => h) rfl fun ρ wx222 x223 => ?_
  obtain ⟨hi224, hl, H⟩ := H
  refine LP_indexw (v := sl a73 x59 c74) 0 rfl rfl rfl Try.underlying22 ti_3 rfl rfl o164 hi224 hl fun a225 wa => ?_
  have ex226 := (ex197.ext x223)
  refine LP_gs ⟨⟨.inl rfl, .inl rfl, .inl rfl, .inl rfl, .inr ex226, .inl rfl, trivial⟩, ?_⟩
  refine GS_lp [(35, I (mn x198 x187)), (42, .pointer (some a225))] rfl rfl (fun _ h => h) rfl fun ρ wx227 x228 => ?_
  have ex235 := ((ex209.ext x223).ext x228)
  refine LP_set 0 rfl rfl rfl rfl rfl wa (Le.refl emp) ⟨_, rfl, rfl⟩ ex235 fun hx229 wx230 o231 ex232 y233 dm234 => ?_
  have ex236 := ((ex226.ext x228).but y233 d179)
  refine LP_gs ⟨⟨.inl rfl, .inl rfl, .inl rfl, .inl rfl, .inr ex236, .inl rfl, trivial⟩, ?_⟩
  intro wx237 x238 ρ hn
  refine AP_forget [(2, pb b18), (3, pb b27), (19, sl a57 r53 c58), (20, I (ln r53)), (21, I x160), (28, sl a75 x65 c76), (29, I x160), (41, I (mx x210 x187))] (by exact hn) fun ρ => ?_
  refine AP_tail 18 [[], [], [], [], [], [], [4, 5], [4, 5, 6], [], [4, 5, 6, 7, 8], [], [], [10, 11], [10, 11, 12], [], [10, 11, 12, 13, 14], [0, 1, 4, 5, 6, 7, 8, 9, 10, 11, 12, 13], [0, 1, 4, 5, 6, 7, 8, 9, 10, 11, 12, 13, 16], [0, 1, 2, 3, 4, 5, 6, 7, 8, 9, 10, 11, 12, 13, 14, 15, 16, 17], [0, 1, 2, 3, 4, 5, 6, 7, 8, 9, 10, 11, 12, 13, 14, 15, 16, 17, 18]] (by kernel_rfl) ?_
  obtain ⟨hi239, hl240, H⟩ := H
  refine LP_indexw (v := sl a75 x65 c76) 18 rfl rfl rfl Try.underlying22 ti_3 rfl rfl o170 hi239 hl240 fun a241 wa242 => ?_
  have ex249 := ((((ex221.ext x223).ext x228).but y233 d183.symm).ext x238)
  refine LP_set 19 rfl rfl rfl rfl rfl wa242 (Le.refl emp) ⟨_, rfl, rfl⟩ ex249 fun hx243 wx244 o245 ex246 y247 dm248 => ?_
  refine LP_end _ rfl ?_
  refine W_region ?_
  refine LP_ev ok 0 [(44, I (wr (x160 + 1))), (21, I (wr (x160 + 1)))] 2 rfl rfl ?_
  refine LP_end _ rfl ?_
  have X250 := ((((((X185.stepx x195).stepx x223).stepx x228).step y233 f166).stepx x238).step y247 f172)
  have ex251 := ((ex221.ext x223).ext x228)
  have ex252 := ((ex232.ext x238).but y247 (DomLe.dj (dm234 _) d183.symm ex251).symm)
  have X253 := (((X185.stepx x195).stepx x223).stepx x228)
  have X254 := ((X253.step y233 f166).stepx x238)
  have ex255 := ((((((ex174.ext x195).ext x223).ext x228).but y233 d177).ext x238).but y247 d180)
  have ex256 := (((((ex196.ext x223).ext x228).but y233 d178).ext x238).but y247 d181)
  have ex257 := (((((ex197.ext x223).ext x228).but y233 d179).ext x238).but y247 d182)
  have ex258 := (((ex174.ext x195).ext x223).ext x228)
  have ex259 := ((ex196.ext x223).ext x228)
  have ex260 := ((ex197.ext x223).ext x228)
  have ex261 := ((ex258.but y233 d177).ext x238)
  have ex262 := ((ex259.but y233 d178).ext x238)
  have ex263 := ((ex260.but y233 d179).ext x238)
  have ex264 := (ex232.ext x238)
  exact ⟨(wr (x160 + 1), List.set x161 (Int.toNat x160) (mn x198 x187), List.set x167 (Int.toNat x160) (mx x210 x187)), ⟨H.1, _, hx229, hx243, env_eq ⟨rfl, rfl, rfl, rfl, rfl, trivial⟩, X250, o231, ex252, (DomLe.trans f166 (dm234 _) X253.size), o245, ex246, (DomLe.trans f172 (dm248 _) X254.size), ex255, ex256, ex257, (DomLe.dj (dm234 _) d177 ex258), (DomLe.dj (dm234 _) d178 ex259), (DomLe.dj (dm234 _) d179 ex260), (DomLe.dj (dm248 _) d180 ex261), (DomLe.dj (dm248 _) d181 ex262), (DomLe.dj (dm248 _) d182 ex263), (DomLe.dj (dm248 _) (DomLe.dj (dm234 _) d183.symm ex251).symm ex264), (CanV.len (by simp) cn184)⟩, H.2⟩
 have H := H.2 hc186
 refine W_exit ?_
 refine (if_pos rfl).mpr ?_
 subst hM
 exact ⟨_, Ret_of [] trivial, _, _, _, _, _, _, H, rfl, X185, o164, ex165, f166, ex175, o170, ex171, f172, ex176, d178, d183.symm, d179, d181.symm, d182, cn184⟩

theorem impl_solutions_1_impl_ranges_1_impl_AnswerRange_1_w (counts : List Int) (c1 : Int) (c3 : List Int) (c14 : List Int) (c23 : List Int) (c34 : Int) (Q : Bool → Int → (List Int) → (List Int) → Prop) (H : impl_solutions_1_impl_ranges_1_impl_AnswerRange_1 counts c1 c3 c14 c23 c34 Q) (w : World) {vx : Value} {hx : PH} (r : RS hx vx counts) (ex : Sub hx w) {b : Nat} (ex2 : Sub (bx b 3 [I c1]) w) {vx4 : Value} {hx5 : PH} (r6 : RS hx5 vx4 c3) (ex7 : Sub hx5 w) {b10 : Nat} (ex11 : Sub (bx b10 22 [vx4]) w) {b12 : Nat} (ex13 : Sub (bx b12 65 [.func (.func 56) #[] #[pb b10]]) w) {vx15 : Value} {hx16 : PH} (r17 : OS 3 hx16 emp vx15 c14) (ex18 : Sub hx16 w) (cn : CanV vx15 c14) {b21 : Nat} (ex22 : Sub (bx b21 22 [vx15]) w) {vx24 : Value} {hx25 : PH} (r26 : OS 3 hx25 emp vx24 c23) (ex27 : Sub hx25 w) {b30 : Nat} (ex31 : Sub (bx b30 22 [vx24]) w) {b32 : Nat} (ex33 : Sub (bx b32 74 [.func (.func 90) #[] #[pb b12, pb b21, pb b30]]) w) {b35 : Nat} (ex36 : Sub (bx b35 3 [I c34]) w) (d : Dj (bx b 3 [I c1]) hx16) (d37 : Dj (bx b 3 [I c1]) (bx b21 22 [vx15])) (d38 : Dj (bx b 3 [I c1]) hx25) (d39 : Dj (bx b 3 [I c1]) (bx b30 22 [vx24])) (d40 : Dj hx16 (bx b21 22 [vx15])) (d41 : Dj hx16 hx25) (d42 : Dj hx16 (bx b30 22 [vx24])) (d43 : Dj (bx b21 22 [vx15]) hx25) (d44 : Dj (bx b21 22 [vx15]) (bx b30 22 [vx24])) (d45 : Dj hx25 (bx b30 22 [vx24])) (d46 : Dj (bx b 3 [I c1]) hx) (d47 : Dj (bx b 3 [I c1]) hx5) (d48 : Dj (bx b 3 [I c1]) (bx b10 22 [vx4])) (d49 : Dj (bx b 3 [I c1]) (bx b12 65 [.func (.func 56) #[] #[pb b10]])) (d50 : Dj (bx b 3 [I c1]) (bx b32 74 [.func (.func 90) #[] #[pb b12, pb b21, pb b30]])) (d51 : Dj (bx b 3 [I c1]) (bx b35 3 [I c34])) (d52 : Dj hx16 hx) (d53 : Dj hx16 hx5) (d54 : Dj hx16 (bx b10 22 [vx4])) (d55 : Dj hx16 (bx b12 65 [.func (.func 56) #[] #[pb b10]])) (d56 : Dj hx16 (bx b32 74 [.func (.func 90) #[] #[pb b12, pb b21, pb b30]])) (d57 : Dj hx16 (bx b35 3 [I c34])) (d58 : Dj (bx b21 22 [vx15]) hx) (d59 : Dj (bx b21 22 [vx15]) hx5) (d60 : Dj (bx b21 22 [vx15]) (bx b10 22 [vx4])) (d61 : Dj (bx b21 22 [vx15]) (bx b12 65 [.func (.func 56) #[] #[pb b10]])) (d62 : Dj (bx b21 22 [vx15]) (bx b32 74 [.func (.func 90) #[] #[pb b12, pb b21, pb b30]])) (d63 : Dj (bx b21 22 [vx15]) (bx b35 3 [I c34])) (d64 : Dj hx25 hx) (d65 : Dj hx25 hx5) (d66 : Dj hx25 (bx b10 22 [vx4])) (d67 : Dj hx25 (bx b12 65 [.func (.func 56) #[] #[pb b10]])) (d68 : Dj hx25 (bx b32 74 [.func (.func 90) #[] #[pb b12, pb b21, pb b30]])) (d69 : Dj hx25 (bx b35 3 [I c34])) (d70 : Dj (bx b30 22 [vx24]) hx) (d71 : Dj (bx b30 22 [vx24]) hx5) (d72 : Dj (bx b30 22 [vx24]) (bx b10 22 [vx4])) (d73 : Dj (bx b30 22 [vx24]) (bx b12 65 [.func (.func 56) #[] #[pb b10]])) (d74 : Dj (bx b30 22 [vx24]) (bx b32 74 [.func (.func 90) #[] #[pb b12, pb b21, pb b30]])) (d75 : Dj (bx b30 22 [vx24]) (bx b35 3 [I c34])) :
  CallsTo Try.prog 64 #[vx, pb b, pb b32, pb b35] w fun v w' => ∃ r0 m1_0 m2 m4 v2_ k2 v4_ k4, Q r0 m1_0 m2 m4 ∧ v = .bool r0 ∧ But (un (bx b 3 [I c1]) (un hx16 (un (bx b21 22 [vx15]) (un hx25 (bx b30 22 [vx24]))))) w w' ∧ Sub (bx b 3 [I m1_0]) w' ∧ OS 3 k2 emp v2_ m2 ∧ Sub k2 w' ∧ DomLe (un (bx b 3 [I c1]) (un hx16 (un (bx b21 22 [vx15]) (un hx25 (bx b30 22 [vx24]))))) w.heap.size k2 ∧ Sub (bx b21 22 [v2_]) w' ∧ OS 3 k4 emp v4_ m4 ∧ Sub k4 w' ∧ DomLe (un (bx b 3 [I c1]) (un hx16 (un (bx b21 22 [vx15]) (un hx25 (bx b30 22 [vx24]))))) w.heap.size k4 ∧ Sub (bx b30 22 [v4_]) w' ∧ Dj (bx b 3 [I m1_0]) k2 ∧ Dj (bx b 3 [I m1_0]) k4 ∧ Dj k2 (bx b21 22 [v2_]) ∧ Dj k2 k4 ∧ Dj k2 (bx b30 22 [v4_]) ∧ Dj (bx b21 22 [v2_]) k4 ∧ Dj k4 (bx b30 22 [v4_]) ∧ CanV v2_ m2 := by
 obtain ⟨a, c, rfl⟩ := r.shape
 obtain ⟨a8, c9, rfl⟩ := r6.shape
 obtain ⟨a19, c20, rfl⟩ := r17.shape
 obtain ⟨a28, c29, rfl⟩ := r26.shape
 refine enter (args := [sl a counts c, pb b, pb b32, pb b35]) 14 Try.func64 rfl rfl rfl ?_
 refine W_forget [(0, sl a counts c), (1, pb b), (2, pb b32), (3, pb b35)] ⟨rfl, rfl, rfl, rfl, trivial⟩ fun ρ => ?_
 obtain ⟨M, hM⟩ : ∃ M : PH, M = (un (bx b 3 [I c1]) (un hx16 (un (bx b21 22 [sl a19 c14 c20]) (un hx25 (bx b30 22 [sl a28 c23 c29]))))) := ⟨_, rfl⟩
 have D : Dom M (bx b 3 [I c1]) := by subst hM; exact (Dom.l _ _)
 have D76 : Dom M hx16 := by subst hM; exact (Dom.trans (Dom.r _ _) (Dom.l _ _))
 have D77 : Dom M (bx b21 22 [sl a19 c14 c20]) := by subst hM; exact (Dom.trans (Dom.r _ _) (Dom.trans (Dom.r _ _) (Dom.l _ _)))
 have D78 : Dom M hx25 := by subst hM; exact (Dom.trans (Dom.r _ _) (Dom.trans (Dom.r _ _) (Dom.trans (Dom.r _ _) (Dom.l _ _))))
 have D79 : Dom M (bx b30 22 [sl a28 c23 c29]) := by subst hM; exact (Dom.trans (Dom.r _ _) (Dom.trans (Dom.r _ _) (Dom.trans (Dom.r _ _) (Dom.trans (Dom.r _ _) (Dom.refl _)))))
 have X := But.refl M w
 refine W_seq ?_
 refine W_region ?_
 refine LP_ev ok 0 [(5, .bool false)] 1 rfl rfl ?_
 refine LP_end _ rfl ?_
 refine W_seq ?_
 refine W_region ?_
 refine LP_ldbox 0 (v := I c1) rfl rfl rfl ti_3 ag_3 (fun _ => rfl) rfl ex2 rfl rfl ?_
 refine LP_ev ok 1 [(7, I (wr (c1 + 1)))] 2 rfl rfl ?_
 refine LP_stbox 2 (vs := [I (wr (c1 + 1))]) (cs' := [I (wr (c1 + 1))]) rfl rfl rfl ti_3 rfl rfl rfl rfl rfl ex2 rfl rfl fun wx ex80 y => ?_
 refine LP_end _ rfl ?_
 refine W_seq ?_
 refine W_region ?_
 have ex81 := (ex33.but y d50)
 refine LP_ldbox 0 (v := .func (.func 90) #[] #[pb b12, pb b21, pb b30]) rfl rfl rfl ti_74 ag_74 (fun _ => rfl) rfl ex81 rfl rfl ?_
 refine LP_ev ok 1 [(9, sl a counts c)] 2 rfl rfl ?_
 have ex84 := (ex.but y d46)
 have ex85 := (ex7.but y d47)
 have ex86 := (ex11.but y d48)
 have ex87 := (ex13.but y d49)
 have ex88 := (ex18.but y d)
 have ex89 := (ex22.but y d37)
 have ex90 := (ex27.but y d38)
 have ex91 := (ex31.but y d39)
 refine LP_callc 2 rfl rfl rfl rfl cal_90 rfl rfl (impl_ranges_1_impl_AnswerRange_1_w _ _ _ _ _ H wx r ex84 r6 ex85 ex86 ex87 r17 ex88 cn ex89 r26 ex90 ex91 d40 d41 d42 d43 d44 d45 d52 d53 d54 d55 d58 d59 d60 d61 d64 d65 d66 d67 d70 d71 d72 d73) ?_
 rintro _ wx92 ⟨r82, r83, vx95, hx93, vx101, hx97, H, rfl, x, HF⟩
 revert HF
 refine bb9 fun o ex94 dm ex96 o98 ex99 dm100 ex102 => ?_
 refine bb6 fun d103 d104 d105 d106 d107 cn108 => ?_
 obtain ⟨a109, c110, rfl⟩ := o.shape
 obtain ⟨a111, c112, rfl⟩ := o98.shape
 refine LP_end _ rfl ?_
 refine W_seq ?_
 refine W_region ?_
 have ex113 := (ex80.but x (Dj.un_l (Dj.box d.symm.symm).symm (Dj.un_l (Dj.box d37.symm.symm).symm (Dj.un_l (Dj.box d38.symm.symm).symm (Dj.box d39.symm.symm).symm))))
 refine LP_ldbox 0 (v := I (wr (c1 + 1))) rfl rfl rfl ti_3 ag_3 (fun _ => rfl) rfl ex113 rfl rfl ?_
 have ex114 := ((ex36.but y d51).but x (Dj.un_l d57 (Dj.un_l d63 (Dj.un_l d69 d75))))
 refine LP_ldbox 1 (v := I c34) rfl rfl rfl ti_3 ag_3 (fun _ => rfl) rfl ex114 rfl rfl ?_
 refine LP_ev ok 2 [(13, .bool (decide ((wr (c1 + 1)) < c34))), (5, .bool (decide ((wr (c1 + 1)) < c34)))] 4 rfl rfl ?_
 refine LP_end _ rfl ?_
 refine W_ret ?_
 have X115 := (X.step y (Dom.le D _))
 have X116 := (X115.step x (DomLe.un (Dom.le D76 _) (DomLe.un (Dom.le D77 _) (DomLe.un (Dom.le D78 _) (Dom.le D79 _)))))
 subst hM
 exact ⟨_, Ret_of [.bool (decide ((wr (c1 + 1)) < c34))] ⟨⟨rfl, rfl⟩, trivial⟩, _, _, _, _, _, _, _, _, H, rfl, X116, ex113, o, ex94, (DomLe.trans (DomLe.un (Dom.le D76 _) (DomLe.un (Dom.le D77 _) (DomLe.un (Dom.le D78 _) (Dom.le D79 _)))) dm X115.size), ex96, o98, ex99, (DomLe.trans (DomLe.un (Dom.le D76 _) (DomLe.un (Dom.le D77 _) (DomLe.un (Dom.le D78 _) (Dom.le D79 _)))) dm100 X115.size), ex102, (DomLe.dj dm (Dj.un_l (Dj.box d.symm.symm).symm (Dj.un_l (Dj.box d37.symm.symm).symm (Dj.un_l (Dj.box d38.symm.symm).symm (Dj.box d39.symm.symm).symm))) ex80).symm, (DomLe.dj dm100 (Dj.un_l (Dj.box d.symm.symm).symm (Dj.un_l (Dj.box d37.symm.symm).symm (Dj.un_l (Dj.box d38.symm.symm).symm (Dj.box d39.symm.symm).symm))) ex80).symm, d103, d104, d105, d106, d107, cn108⟩

theorem impl_search_add_impl_solutions_1_impl_ranges_1_impl_AnswerRange_1_w (x : Search) (c13 : Int) (c15 : List Int) (c26 : List Int) (c35 : List Int) (c46 : Int) (k : Int) (n : Int) (Q : (List Int) → (List Int) → Prop) (H : impl_search_add_impl_solutions_1_impl_ranges_1_impl_AnswerRange_1 x c13 c15 c26 c35 c46 k n Q) (w : World) {vx : Value} {hx : PH} (r : RS hx vx x.Conditions) (ex : Sub hx w) {vx1 : Value} {hx2 : PH} (r3 : OS 3 hx2 emp vx1 x.Counts) (ex4 : Sub hx2 w) {vx7 : Value} {hx8 : PH} (r9 : OS 3 hx8 emp vx7 x.Sums) (ex10 : Sub hx8 w) {b : Nat} (ex14 : Sub (bx b 3 [I c13]) w) {vx16 : Value} {hx17 : PH} (r18 : RS hx17 vx16 c15) (ex19 : Sub hx17 w) {b22 : Nat} (ex23 : Sub (bx b22 22 [vx16]) w) {b24 : Nat} (ex25 : Sub (bx b24 65 [.func (.func 56) #[] #[pb b22]]) w) {vx27 : Value} {hx28 : PH} (r29 : RS hx28 vx27 c26) (ex30 : Sub hx28 w) {b33 : Nat} (ex34 : Sub (bx b33 22 [vx27]) w) {vx36 : Value} {hx37 : PH} (r38 : RS hx37 vx36 c35) (ex39 : Sub hx37 w) {b42 : Nat} (ex43 : Sub (bx b42 22 [vx36]) w) {b44 : Nat} (ex45 : Sub (bx b44 74 [.func (.func 90) #[] #[pb b24, pb b33, pb b42]]) w) {b47 : Nat} (ex48 : Sub (bx b47 3 [I c46]) w) {b49 : Nat} (ex50 : Sub (bx b49 103 [vx, vx1, vx7, .func (.func 64) #[] #[pb b, pb b44, pb b47]]) w) (d : Dj hx2 hx8) (d51 : Dj hx2 (bx b49 103 [vx, vx1, vx7, .func (.func 64) #[] #[pb b, pb b44, pb b47]])) (d52 : Dj hx8 (bx b49 103 [vx, vx1, vx7, .func (.func 64) #[] #[pb b, pb b44, pb b47]])) (d53 : Dj hx2 hx) (d54 : Dj hx2 (bx b 3 [I c13])) (d55 : Dj hx2 hx17) (d56 : Dj hx2 (bx b22 22 [vx16])) (d57 : Dj hx2 (bx b24 65 [.func (.func 56) #[] #[pb b22]])) (d58 : Dj hx2 hx28) (d59 : Dj hx2 (bx b33 22 [vx27])) (d60 : Dj hx2 hx37) (d61 : Dj hx2 (bx b42 22 [vx36])) (d62 : Dj hx2 (bx b44 74 [.func (.func 90) #[] #[pb b24, pb b33, pb b42]])) (d63 : Dj hx2 (bx b47 3 [I c46])) (d64 : Dj hx8 hx) (d65 : Dj hx8 (bx b 3 [I c13])) (d66 : Dj hx8 hx17) (d67 : Dj hx8 (bx b22 22 [vx16])) (d68 : Dj hx8 (bx b24 65 [.func (.func 56) #[] #[pb b22]])) (d69 : Dj hx8 hx28) (d70 : Dj hx8 (bx b33 22 [vx27])) (d71 : Dj hx8 hx37) (d72 : Dj hx8 (bx b42 22 [vx36])) (d73 : Dj hx8 (bx b44 74 [.func (.func 90) #[] #[pb b24, pb b33, pb b42]])) (d74 : Dj hx8 (bx b47 3 [I c46])) (d75 : Dj (bx b49 103 [vx, vx1, vx7, .func (.func 64) #[] #[pb b, pb b44, pb b47]]) hx) (d76 : Dj (bx b49 103 [vx, vx1, vx7, .func (.func 64) #[] #[pb b, pb b44, pb b47]]) (bx b 3 [I c13])) (d77 : Dj (bx b49 103 [vx, vx1, vx7, .func (.func 64) #[] #[pb b, pb b44, pb b47]]) hx17) (d78 : Dj (bx b49 103 [vx, vx1, vx7, .func (.func 64) #[] #[pb b, pb b44, pb b47]]) (bx b22 22 [vx16])) (d79 : Dj (bx b49 103 [vx, vx1, vx7, .func (.func 64) #[] #[pb b, pb b44, pb b47]]) (bx b24 65 [.func (.func 56) #[] #[pb b22]])) (d80 : Dj (bx b49 103 [vx, vx1, vx7, .func (.func 64) #[] #[pb b, pb b44, pb b47]]) hx28) (d81 : Dj (bx b49 103 [vx, vx1, vx7, .func (.func 64) #[] #[pb b, pb b44, pb b47]]) (bx b33 22 [vx27])) (d82 : Dj (bx b49 103 [vx, vx1, vx7, .func (.func 64) #[] #[pb b, pb b44, pb b47]]) hx37) (d83 : Dj (bx b49 103 [vx, vx1, vx7, .func (.func 64) #[] #[pb b, pb b44, pb b47]]) (bx b42 22 [vx36])) (d84 : Dj (bx b49 103 [vx, vx1, vx7, .func (.func 64) #[] #[pb b, pb b44, pb b47]]) (bx b44 74 [.func (.func 90) #[] #[pb b24, pb b33, pb b42]])) (d85 : Dj (bx b49 103 [vx, vx1, vx7, .func (.func 64) #[] #[pb b, pb b44, pb b47]]) (bx b47 3 [I c46])) :
  CallsTo Try.prog 96 #[pb b49, I k, I n] w fun v w' => ∃ m1 m2 v1_ k1 v2_ k2, Q m1 m2 ∧ v = .tuple #[] ∧ But (un hx2 (un hx8 (bx b49 103 [vx, vx1, vx7, .func (.func 64) #[] #[pb b, pb b44, pb b47]]))) w w' ∧ OS 3 k1 emp v1_ m1 ∧ Sub k1 w' ∧ DomLe (un hx2 (un hx8 (bx b49 103 [vx, vx1, vx7, .func (.func 64) #[] #[pb b, pb b44, pb b47]]))) w.heap.size k1 ∧ OS 3 k2 emp v2_ m2 ∧ Sub k2 w' ∧ DomLe (un hx2 (un hx8 (bx b49 103 [vx, vx1, vx7, .func (.func 64) #[] #[pb b, pb b44, pb b47]]))) w.heap.size k2 ∧ Sub (bx b49 103 [vx, v1_, v2_, .func (.func 64) #[] #[pb b, pb b44, pb b47]]) w' ∧ Dj k1 k2 ∧ Dj k1 (bx b49 103 [vx, v1_, v2_, .func (.func 64) #[] #[pb b, pb b44, pb b47]]) ∧ Dj k2 (bx b49 103 [vx, v1_, v2_, .func (.func 64) #[] #[pb b, pb b44, pb b47]]) := by
 obtain ⟨a, c, rfl⟩ := r.shape
 obtain ⟨a5, c6, rfl⟩ := r3.shape
 obtain ⟨a11, c12, rfl⟩ := r9.shape
 obtain ⟨a20, c21, rfl⟩ := r18.shape
 obtain ⟨a31, c32, rfl⟩ := r29.shape
 obtain ⟨a40, c41, rfl⟩ := r38.shape
 refine enter (args := [pb b49, I k, I n]) 45 Try.func96 rfl rfl rfl ?_
 refine W_forget [(0, pb b49), (1, I k), (2, I n)] ⟨rfl, rfl, rfl, trivial⟩ fun ρ => ?_
 obtain ⟨M, hM⟩ : ∃ M : PH, M = (un hx2 (un hx8 (bx b49 103 [sl a x.Conditions c, sl a5 x.Counts c6, sl a11 x.Sums c12, .func (.func 64) #[] #[pb b, pb b44, pb b47]]))) := ⟨_, rfl⟩
 have D : Dom M hx2 := by subst hM; exact (Dom.l _ _)
 have D86 : Dom M hx8 := by subst hM; exact (Dom.trans (Dom.r _ _) (Dom.l _ _))
 have D87 : Dom M (bx b49 103 [sl a x.Conditions c, sl a5 x.Counts c6, sl a11 x.Sums c12, .func (.func 64) #[] #[pb b, pb b44, pb b47]]) := by subst hM; exact (Dom.trans (Dom.r _ _) (Dom.trans (Dom.r _ _) (Dom.refl _)))
 have X := But.refl M w
 refine W_seq ?_
 refine W_region ?_
 refine LP_ev ok 0 [(8, pb b49), (9, pb b49), (10, .pointer (some ⟨b49, 1, none⟩))] 3 rfl rfl ?_
 refine LP_ldbox 3 (v := sl a5 x.Counts c6) rfl rfl rfl ti_22 ag_22 (fun _ => rfl) rfl ex50 rfl rfl ?_
 refine LP_ev ok 4 [(12, I k)] 5 rfl rfl ?_
 obtain ⟨x88, hi, hx89, H⟩ := H
 refine LP_index 5 rfl rfl rfl Try.underlying22 ti_3 rfl rfl r3.readf hi hx89 fun a90 cs r91 d92 => ?_
 refine LP_load 6 rfl rfl rfl ti_3 ag_3 rfl r91 d92 ex4 fun vx93 r94 => ?_
 obtain rfl := r94.int
 refine LP_ev ok 7 [(15, I n), (16, I (wr (x88 + n)))] 9 rfl rfl ?_
 obtain ⟨hi95, hl, H⟩ := H
 refine LP_indexw (v := sl a5 x.Counts c6) 9 rfl rfl rfl Try.underlying22 ti_3 rfl rfl r3 hi95 hl fun a96 wa => ?_
 refine LP_set 10 rfl rfl rfl rfl rfl wa (Le.refl emp) ⟨_, rfl, rfl⟩ ex4 fun hx97 wx o ex98 y dm => ?_
 refine LP_end _ rfl ?_
 refine W_seq ?_
 refine W_region ?_
 refine LP_ev ok 0 [(18, pb b49), (19, pb b49), (20, pb b49)] 3 rfl rfl ?_
 have ex99 := (ex50.but y d51)
 refine LP_ldbox 3 (v := sl a x.Conditions c) rfl rfl rfl ti_99 ag_99 (fun _ => rfl) rfl ex99 rfl rfl ?_
 refine LP_ev ok 4 [(22, I (ln x.Conditions)), (23, I 0)] 6 rfl rfl ?_
 refine LP_end _ rfl ?_
 refine W_block ?_
 have X133 := (X.step y (Dom.le D _))
 have ex134 := (ex10.but y d)
 have ex135 := (ex.but y d53)
 have ex136 := (ex14.but y d54)
 have ex137 := (ex19.but y d55)
 have ex138 := (ex23.but y d56)
 have ex139 := (ex25.but y d57)
 have ex140 := (ex30.but y d58)
 have ex141 := (ex34.but y d59)
 have ex142 := (ex39.but y d60)
 have ex143 := (ex43.but y d61)
 have ex144 := (ex45.but y d62)
 have ex145 := (ex48.but y d63)
 obtain ⟨J, m, Hx, H⟩ := H
 refine W_loop (S := Int × (List Int)) (fun s ρ' w' => J s.1 s.2 ∧ ∃ (ρ : Env) (hx102 : PH), ρ' = setAll [(0, pb b49), (1, I k), (2, I n), (21, sl a x.Conditions c), (22, I (ln x.Conditions)), (23, I s.1)] ρ ∧ But M w w' ∧ OS 3 hx102 emp (sl a11 x.Sums c12) s.2 ∧ Sub hx102 w' ∧ DomLe M w.heap.size hx102 ∧ Sub hx w' ∧ Sub hx97 w' ∧ Sub (bx b 3 [I c13]) w' ∧ Sub hx17 w' ∧ Sub (bx b22 22 [sl a20 c15 c21]) w' ∧ Sub (bx b24 65 [.func (.func 56) #[] #[pb b22]]) w' ∧ Sub hx28 w' ∧ Sub (bx b33 22 [sl a31 c26 c32]) w' ∧ Sub hx37 w' ∧ Sub (bx b42 22 [sl a40 c35 c41]) w' ∧ Sub (bx b44 74 [.func (.func 90) #[] #[pb b24, pb b33, pb b42]]) w' ∧ Sub (bx b47 3 [I c46]) w' ∧ Sub (bx b49 103 [sl a x.Conditions c, sl a5 x.Counts c6, sl a11 x.Sums c12, .func (.func 64) #[] #[pb b, pb b44, pb b47]]) w' ∧ Dj hx102 hx ∧ Dj hx102 hx97 ∧ Dj hx102 (bx b 3 [I c13]) ∧ Dj hx102 hx17 ∧ Dj hx102 (bx b22 22 [sl a20 c15 c21]) ∧ Dj hx102 (bx b24 65 [.func (.func 56) #[] #[pb b22]]) ∧ Dj hx102 hx28 ∧ Dj hx102 (bx b33 22 [sl a31 c26 c32]) ∧ Dj hx102 hx37 ∧ Dj hx102 (bx b42 22 [sl a40 c35 c41]) ∧ Dj hx102 (bx b44 74 [.func (.func 90) #[] #[pb b24, pb b33, pb b42]]) ∧ Dj hx102 (bx b47 3 [I c46]) ∧ Dj hx102 (bx b49 103 [sl a x.Conditions c, sl a5 x.Counts c6, sl a11 x.Sums c12, .func (.func 64) #[] #[pb b, pb b44, pb b47]])) (fun s => m s.1 s.2) (0, x.Sums) ⟨Hx, _, hx8, env_eq ⟨rfl, rfl, rfl, rfl, rfl, rfl, trivial⟩, X133, r9, ex134, (Dom.le D86 _), ex135, ex98, ex136, ex137, ex138, ex139, ex140, ex141, ex142, ex143, ex144, ex145, ex99, d64, (DomLe.dj (dm _) d ex10).symm, d65, d66, d67, d68, d69, d70, d71, d72, d73, d74, d52⟩ ?_
 rintro ⟨x100, sums⟩ _ wx105 ⟨Hi, ρ, hx102, rfl, HF⟩
 revert HF
 refine bb9 fun X132 o103 ex104 f ex106 ex107 ex108 ex109 => ?_
 refine bb9 fun ex110 ex111 ex112 ex113 ex114 ex115 ex116 ex117 => ?_
 refine bb9 fun ex118 d119 d120 d121 d122 d123 d124 d125 => ?_
 refine bb6 fun d126 d127 d128 d129 d130 d131 => ?_
 have H := H x100 sums Hi
 refine W_seq ?_
 refine W_region ?_
 refine LP_ev ok 0 [(24, .bool (decide (x100 < (ln x.Conditions))))] 1 rfl rfl ?_
 refine LP_end _ rfl ?_
 refine W_seq ?_
 refine W_cond (decide (x100 < (ln x.Conditions))) rfl (fun hc => ?_) (fun hc => ?_)
 ·have H := H.1 hc
  refine W_skip ?_
  refine W_seq ?_
  refine W_block ?_
  refine W_seq ?_
  refine W_region ?_
  refine LP_ev ok 0 [(25, I x100)] 1 rfl rfl ?_
  obtain ⟨x146, hi147, hx148, H⟩ := H
  refine LP_index 1 rfl rfl rfl Try.underlying99 ti_124 rfl rfl r hi147 hx148 fun a149 cs150 r151 d152 => ?_
  have d153 := d152
  obtain ⟨u, rfl, r154⟩ := Condition_rd d153
  obtain ⟨a155, c156, rfl⟩ := r154.shape
  refine LP_load 2 rfl rfl rfl ti_124 ag_124 rfl r151 d152 ex106 fun vx157 r158 => ?_
  obtain ⟨u159, rfl, r160⟩ := Condition_rv r158
  obtain ⟨a161, c162, rfl⟩ := r160.shape
  refine LP_alloc 3 rfl rfl rfl ti_124 rfl fun b163 wx164 x165 ex166 f167 => ?_
  refine LP_ev ok 4 [(6, I x100)] 5 rfl rfl ?_
  refine LP_stbox 5 (vs := [sl a161 x146.Amounts c162, I x146.Value]) (cs' := [sl a161 x146.Amounts c162, I x146.Value]) rfl rfl rfl ti_124 rfl rfl rfl rfl rfl ex166 rfl rfl fun wx168 ex169 y170 => ?_
  refine LP_end _ rfl ?_
  refine W_open mix fun wx171 x172 => ?_
  refine AP_game 14 [[], [0], [0, 1], [0, 1, 2], [], [0, 1, 2, 3, 4], [0, 1, 2, 3, 4, 5], [], [], [8], [], [8, 9, 10], [8, 9, 10, 11], [7, 8, 9, 10, 11, 12], [0, 1, 2, 3, 4, 5, 6, 7, 8, 9, 10, 11, 12, 13], [0, 1, 2, 3, 4, 5, 6, 7, 8, 9, 10, 11, 12, 13, 14], [0, 1, 2, 3, 4, 5, 6, 7, 8, 9, 10, 11, 12, 13, 14, 15]] [[(0, none)], [(28, some 0)], [(29, some 1)], [(30, some 2)], [(6, none)], [(31, some 3), (32, some 4)], [(33, some 5)], [(2, none)], [(7, none)], [(36, some 8)], [(1, none)], [(37, some 9), (38, some 10)], [(39, some 11)], [(35, some 7), (40, some 12)]] [(0, none), (1, none), (2, none), (21, none), (22, none), (23, none), (31, some 3), (32, some 4), (34, some 6), (41, some 13)] [(0, false), (1, false), (2, false), (3, false), (4, false), (5, false), (6, false), (7, false), (8, false), (9, false), (10, false), (11, false), (12, false), (13, false)] (by kernel_rfl) (by kernel_rfl) ?_
  refine GS_ev ok [(0, pb b49)] (pb b49) rfl rfl (fun _ h => h) (fun _ => rfl) ?_
  refine GS_ev ok [(28, pb b49)] (pb b49) rfl rfl (fun _ h => h) (fun _ => rfl) ?_
  refine GS_ev ok [(29, pb b49)] (.pointer (some ⟨b49, 2, none⟩)) rfl rfl (fun _ h => h) (fun _ => rfl) ?_
  have ex173 := (((ex118.ext x165).but y170 (Dj.of_fresh ex118 f167).symm).ext x172)
  refine GS_r1 [(30, .pointer (some ⟨b49, 2, none⟩))] (sl a11 x.Sums c12) rfl rfl (fun _ h => h) (fun _ w e => ex_ldbox rfl ti_22 ag_22 (fun _ => rfl) rfl e rfl rfl) ex173 ?_
  refine GS_ev ok [(6, I x100)] (I x100) rfl rfl (fun _ h => h) (fun _ => rfl) ?_
  obtain ⟨x174, hi175, hx176, H⟩ := H
  obtain ⟨a177, cs178, hx181, r179, d180⟩ := run_indexAt Try.underlying22 ti_3 o103.readf .i64 _ x174 hi175 hx176
  refine GS_r0 [(31, sl a11 x.Sums c12), (32, I x100)] (.pointer (some a177)) rfl rfl (fun _ h => h) (fun _ _ => ex_index rfl rfl rfl (hx181 _)) ?_
  obtain ⟨vx182, hx184, r183⟩ := run_loadAt ti_3 ag_3 r179 d180
  obtain rfl := r183.int
  have ex185 := (((ex104.ext x165).but y170 (Dj.of_fresh ex104 f167).symm).ext x172)
  refine GS_r1 [(33, .pointer (some a177))] (I x174) rfl rfl (fun _ h => h) (fun _ w e => ex_load rfl rfl (hx184 w e)) ex185 ?_
  refine GS_ev ok [(2, I n)] (I n) rfl rfl (fun _ h => h) (fun _ => rfl) ?_
  refine GS_ev ok [(7, pb b163)] (pb b163) rfl rfl (fun _ h => h) (fun _ => rfl) ?_
  have ex186 := (ex169.ext x172)
  refine GS_r1 [(36, pb b163)] (sl a161 x146.Amounts c162) rfl rfl (fun _ h => h) (fun _ w e => ex_ldbox rfl ti_22 ag_22 (fun _ => rfl) rfl e rfl rfl) ex186 ?_
  refine GS_ev ok [(1, I k)] (I k) rfl rfl (fun _ h => h) (fun _ => rfl) ?_
  obtain ⟨x187, hi188, hx189, H⟩ := H
  obtain ⟨a190, cs191, hx194, r192, d193⟩ := run_indexAt Try.underlying22 ti_3 r160 .i64 _ x187 hi188 hx189
  refine GS_r0 [(37, sl a161 x146.Amounts c162), (38, I k)] (.pointer (some a190)) rfl rfl (fun _ h => h) (fun _ _ => ex_index rfl rfl rfl (hx194 _)) ?_
  obtain ⟨vx195, hx197, r196⟩ := run_loadAt ti_3 ag_3 r192 d193
  obtain rfl := r196.int
  have ex198 := (((ex106.ext x165).but y170 (Dj.of_fresh ex106 f167).symm).ext x172)
  refine GS_r1 [(39, .pointer (some a190))] (I x187) rfl rfl (fun _ h => h) (fun _ w e => ex_load rfl rfl (hx197 w e)) ex198 ?_
  refine GS_ev ok [(35, I n), (40, I x187)] (I (wr (n * x187))) rfl rfl (fun _ h => h) (fun _ => rfl) ?_
  intro wx199 x200 ρ hn
  refine AP_forget [(0, pb b49), (1, I k), (2, I n), (21, sl a x.Conditions c), (22, I (ln x.Conditions)), (23, I x100), (31, sl a11 x.Sums c12), (32, I x100), (34, I x174), (41, I (wr (n * x187)))] (by exact hn) fun ρ => ?_
  refine AP_tail 14 [[], [0], [0, 1], [0, 1, 2], [], [0, 1, 2, 3, 4], [0, 1, 2, 3, 4, 5], [], [], [8], [], [8, 9, 10], [8, 9, 10, 11], [7, 8, 9, 10, 11, 12], [0, 1, 2, 3, 4, 5, 6, 7, 8, 9, 10, 11, 12, 13], [0, 1, 2, 3, 4, 5, 6, 7, 8, 9, 10, 11, 12, 13, 14], [0, 1, 2, 3, 4, 5, 6, 7, 8, 9, 10, 11, 12, 13, 14, 15]] (by kernel_rfl) ?_
  refine LP_ev ok 14 [(42, I (wr (x174 + (wr (n * x187)))))] 15 rfl rfl ?_
  obtain ⟨hi201, hl202, H⟩ := H
  refine LP_indexw (v := sl a11 x.Sums c12) 15 rfl rfl rfl Try.underlying22 ti_3 rfl rfl o103 hi201 hl202 fun a203 wa204 => ?_
  have ex211 := (ex185.ext x200)
  refine LP_set 16 rfl rfl rfl rfl rfl wa204 (Le.refl emp) ⟨_, rfl, rfl⟩ ex211 fun hx205 wx206 o207 ex208 y209 dm210 => ?_
  refine LP_end _ rfl ?_
  refine W_region ?_
  refine LP_ev ok 0 [(44, I (wr (x100 + 1))), (23, I (wr (x100 + 1)))] 2 rfl rfl ?_
  refine LP_end _ rfl ?_
  have f212 := f167.mono X132.size
  have X213 := (((((X132.stepx x165).step y170 (f212.dom _)).stepx x172).stepx x200).step y209 f)
  have X214 := ((((X132.stepx x165).step y170 (f212.dom _)).stepx x172).stepx x200)
  have ex215 := ((ex198.ext x200).but y209 d119)
  have ex216 := (((((ex107.ext x165).but y170 (Dj.of_fresh ex107 f167).symm).ext x172).ext x200).but y209 d120)
  have ex217 := (((((ex108.ext x165).but y170 (Dj.of_fresh ex108 f167).symm).ext x172).ext x200).but y209 d121)
  have ex218 := (((((ex109.ext x165).but y170 (Dj.of_fresh ex109 f167).symm).ext x172).ext x200).but y209 d122)
  have ex219 := (((((ex110.ext x165).but y170 (Dj.of_fresh ex110 f167).symm).ext x172).ext x200).but y209 d123)
  have ex220 := (((((ex111.ext x165).but y170 (Dj.of_fresh ex111 f167).symm).ext x172).ext x200).but y209 d124)
  have ex221 := (((((ex112.ext x165).but y170 (Dj.of_fresh ex112 f167).symm).ext x172).ext x200).but y209 d125)
  have ex222 := (((((ex113.ext x165).but y170 (Dj.of_fresh ex113 f167).symm).ext x172).ext x200).but y209 d126)
  have ex223 := (((((ex114.ext x165).but y170 (Dj.of_fresh ex114 f167).symm).ext x172).ext x200).but y209 d127)
  have ex224 := (((((ex115.ext x165).but y170 (Dj.of_fresh ex115 f167).symm).ext x172).ext x200).but y209 d128)
  have ex225 := (((((ex116.ext x165).but y170 (Dj.of_fresh ex116 f167).symm).ext x172).ext x200).but y209 d129)
  have ex226 := (((((ex117.ext x165).but y170 (Dj.of_fresh ex117 f167).symm).ext x172).ext x200).but y209 d130)
  have ex227 := ((ex173.ext x200).but y209 d131)
  have ex228 := (ex198.ext x200)
  have ex229 := ((((ex107.ext x165).but y170 (Dj.of_fresh ex107 f167).symm).ext x172).ext x200)
  have ex230 := ((((ex108.ext x165).but y170 (Dj.of_fresh ex108 f167).symm).ext x172).ext x200)
  have ex231 := ((((ex109.ext x165).but y170 (Dj.of_fresh ex109 f167).symm).ext x172).ext x200)
  have ex232 := ((((ex110.ext x165).but y170 (Dj.of_fresh ex110 f167).symm).ext x172).ext x200)
  have ex233 := ((((ex111.ext x165).but y170 (Dj.of_fresh ex111 f167).symm).ext x172).ext x200)
  have ex234 := ((((ex112.ext x165).but y170 (Dj.of_fresh ex112 f167).symm).ext x172).ext x200)
  have ex235 := ((((ex113.ext x165).but y170 (Dj.of_fresh ex113 f167).symm).ext x172).ext x200)
  have ex236 := ((((ex114.ext x165).but y170 (Dj.of_fresh ex114 f167).symm).ext x172).ext x200)
  have ex237 := ((((ex115.ext x165).but y170 (Dj.of_fresh ex115 f167).symm).ext x172).ext x200)
  have ex238 := ((((ex116.ext x165).but y170 (Dj.of_fresh ex116 f167).symm).ext x172).ext x200)
  have ex239 := ((((ex117.ext x165).but y170 (Dj.of_fresh ex117 f167).symm).ext x172).ext x200)
  have ex240 := (ex173.ext x200)
  exact ⟨(wr (x100 + 1), List.set sums (Int.toNat x100) (wr (x174 + (wr (n * x187))))), ⟨H.1, _, hx205, env_eq ⟨rfl, rfl, rfl, rfl, rfl, rfl, trivial⟩, X213, o207, ex208, (DomLe.trans f (dm210 _) X214.size), ex215, ex216, ex217, ex218, ex219, ex220, ex221, ex222, ex223, ex224, ex225, ex226, ex227, (DomLe.dj (dm210 _) d119 ex228), (DomLe.dj (dm210 _) d120 ex229), (DomLe.dj (dm210 _) d121 ex230), (DomLe.dj (dm210 _) d122 ex231), (DomLe.dj (dm210 _) d123 ex232), (DomLe.dj (dm210 _) d124 ex233), (DomLe.dj (dm210 _) d125 ex234), (DomLe.dj (dm210 _) d126 ex235), (DomLe.dj (dm210 _) d127 ex236), (DomLe.dj (dm210 _) d128 ex237), (DomLe.dj (dm210 _) d129 ex238), (DomLe.dj (dm210 _) d130 ex239), (DomLe.dj (dm210 _) d131 ex240)⟩, H.2⟩
 have H := H.2 hc
 refine W_exit ?_
 refine (if_pos rfl).mpr ?_
 subst hM
 exact ⟨_, Ret_of [] trivial, _, _, _, _, _, _, H, rfl, X132, o, ex107, (DomLe.trans (Dom.le D _) (dm _) X.size), o103, ex104, f, ex118, d120.symm, (Dj.box (DomLe.dj (dm _) d51 ex50).symm).symm, d131⟩

end Go.Proofs.Ytkebfmobfeponaa
