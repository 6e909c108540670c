/- The walks, further. -/
import Derived.Test.YtbegmfmabcpofaaAWalk
set_option linter.unusedVariables false
set_option autoImplicit false
namespace Go.Proofs.Ytbegmfmabcpofaa
open Go Go.RowKit Go.Gv

open Go.Proofs
set_option maxRecDepth 8000 in
set_option maxHeartbeats 4000000 in
theorem spec_fMul_w (a : Frac) (b : Frac) (Q : Frac → Bool → Prop) (H : spec_fMul a b Q) (w : World)  :
    CallsTo Try.prog 112 #[.agg #[I a.Num, I a.Den], .agg #[I b.Num, I b.Den]] w fun v w' => ∃ r0 r1, Q r0 r1 ∧ v = .tuple #[.agg #[I r0.Num, I r0.Den], .bool r1] ∧ Ext w w' := by
  refine enter (args := [.agg #[I a.Num, I a.Den], .agg #[I b.Num, I b.Den]]) 19 Try.func112 rfl rfl rfl ?_
  refine W_forget [(0, .agg #[I a.Num, I a.Den]), (1, .agg #[I b.Num, I b.Den])] ⟨rfl, rfl, trivial⟩ fun ρ => ?_
  have X := But.refl emp w
  refine W_seq ?_
  refine W_region ?_
  refine LP_box 0 (cs := [I a.Num, I a.Den]) rfl rfl rfl rfl rfl fun b1 wx x ex f => ?_
  refine LP_box 1 (cs := [I b.Num, I b.Den]) rfl rfl rfl rfl rfl fun b2 wx3 x4 ex5 f6 => ?_
  refine LP_alloc 2 rfl rfl rfl ti_34 rfl fun b7 wx8 x9 ex10 f11 => ?_
  refine LP_ev ok 3 [(5, .bool false)] 4 rfl rfl ?_
  refine LP_end _ rfl ?_
  refine W_seq ?_
  refine W_region ?_
  refine LP_ev ok 0 [(6, .pointer (some ⟨b1, 0, none⟩))] 1 rfl rfl ?_
  have ex12 := ((ex.ext x4).ext x9)
  refine LP_ldbox 1 (v := I a.Num) rfl rfl rfl ti_3 ag_3 (fun _ => rfl) rfl ex12 rfl rfl ?_
  refine LP_ev ok 2 [(8, .pointer (some ⟨b2, 0, none⟩))] 3 rfl rfl ?_
  have ex13 := (ex5.ext x9)
  refine LP_ldbox 3 (v := I b.Num) rfl rfl rfl ti_3 ag_3 (fun _ => rfl) rfl ex13 rfl rfl ?_
  refine LP_ev ok 4 [(10, I (wr (a.Num * b.Num))), (11, .pointer (some ⟨b1, 1, none⟩))] 6 rfl rfl ?_
  refine LP_ldbox 6 (v := I a.Den) rfl rfl rfl ti_3 ag_3 (fun _ => rfl) rfl ex12 rfl rfl ?_
  refine LP_ev ok 7 [(13, .pointer (some ⟨b2, 1, none⟩))] 8 rfl rfl ?_
  refine LP_ldbox 8 (v := I b.Den) rfl rfl rfl ti_3 ag_3 (fun _ => rfl) rfl ex13 rfl rfl ?_
  refine LP_ev ok 9 [(15, I (wr (a.Den * b.Den)))] 10 rfl rfl ?_
  refine LP_call 10 rfl rfl rfl cal_90 rfl (spec_fMake_w _ _ _ H wx8 ) ?_
  rintro _ wx15 ⟨r, r14, H, rfl, x16⟩
  refine LP_ev ok 11 [(17, .agg #[I r.Num, I r.Den]), (18, .bool r14)] 13 rfl rfl ?_
  have ex19 := (ex10.ext x16)
  refine LP_stbox 13 (vs := [I r.Num, I r.Den]) (cs' := [I r.Num, I r.Den]) rfl rfl rfl ti_34 rfl rfl rfl rfl rfl ex19 rfl rfl fun wx17 ex18 y => ?_
  refine LP_ev ok 14 [(5, .bool r14)] 15 rfl rfl ?_
  refine LP_end _ rfl ?_
  refine W_ret ?_
  have X21 := ((X.stepx x).stepx x4)
  have f20 := f11.mono X21.size
  have X22 := (((((X.stepx x).stepx x4).stepx x9).stepx x16).step y (f20.dom _))
  exact ⟨_, Ret_of [.agg #[I r.Num, I r.Den], .bool r14] ⟨⟨_, rfl, rfl, ld_res ti_34 ag_34 (fun h => by cases h) ex18 rfl rfl⟩, ⟨rfl, rfl⟩, trivial⟩, _, _, H, rfl, X22.ext⟩

set_option maxRecDepth 8000 in
set_option maxHeartbeats 4000000 in
theorem spec_fAdd_w (a : Frac) (b : Frac) (Q : Frac → Bool → Prop) (H : spec_fAdd a b Q) (w : World)  :
    CallsTo Try.prog 113 #[.agg #[I a.Num, I a.Den], .agg #[I b.Num, I b.Den]] w fun v w' => ∃ r0 r1, Q r0 r1 ∧ v = .tuple #[.agg #[I r0.Num, I r0.Den], .bool r1] ∧ Ext w w' := by
  refine enter (args := [.agg #[I a.Num, I a.Den], .agg #[I b.Num, I b.Den]]) 25 Try.func113 rfl rfl rfl ?_
  refine W_forget [(0, .agg #[I a.Num, I a.Den]), (1, .agg #[I b.Num, I b.Den])] ⟨rfl, rfl, trivial⟩ fun ρ => ?_
  have X := But.refl emp w
  refine W_seq ?_
  refine W_region ?_
  refine LP_box 0 (cs := [I a.Num, I a.Den]) rfl rfl rfl rfl rfl fun b1 wx x ex f => ?_
  refine LP_box 1 (cs := [I b.Num, I b.Den]) rfl rfl rfl rfl rfl fun b2 wx3 x4 ex5 f6 => ?_
  refine LP_alloc 2 rfl rfl rfl ti_34 rfl fun b7 wx8 x9 ex10 f11 => ?_
  refine LP_ev ok 3 [(5, .bool false)] 4 rfl rfl ?_
  refine LP_end _ rfl ?_
  refine W_seq ?_
  refine W_region ?_
  refine LP_ev ok 0 [(6, .pointer (some ⟨b1, 0, none⟩))] 1 rfl rfl ?_
  have ex12 := ((ex.ext x4).ext x9)
  refine LP_ldbox 1 (v := I a.Num) rfl rfl rfl ti_3 ag_3 (fun _ => rfl) rfl ex12 rfl rfl ?_
  refine LP_ev ok 2 [(8, .pointer (some ⟨b2, 1, none⟩))] 3 rfl rfl ?_
  have ex13 := (ex5.ext x9)
  refine LP_ldbox 3 (v := I b.Den) rfl rfl rfl ti_3 ag_3 (fun _ => rfl) rfl ex13 rfl rfl ?_
  refine LP_ev ok 4 [(10, I (wr (a.Num * b.Den))), (11, .pointer (some ⟨b2, 0, none⟩))] 6 rfl rfl ?_
  refine LP_ldbox 6 (v := I b.Num) rfl rfl rfl ti_3 ag_3 (fun _ => rfl) rfl ex13 rfl rfl ?_
  refine LP_ev ok 7 [(13, .pointer (some ⟨b1, 1, none⟩))] 8 rfl rfl ?_
  refine LP_ldbox 8 (v := I a.Den) rfl rfl rfl ti_3 ag_3 (fun _ => rfl) rfl ex12 rfl rfl ?_
  refine LP_ev ok 9 [(15, I (wr (b.Num * a.Den))), (16, I (wr ((wr (a.Num * b.Den)) + (wr (b.Num * a.Den))))), (17, .pointer (some ⟨b1, 1, none⟩))] 12 rfl rfl ?_
  refine LP_ldbox 12 (v := I a.Den) rfl rfl rfl ti_3 ag_3 (fun _ => rfl) rfl ex12 rfl rfl ?_
  refine LP_ev ok 13 [(19, .pointer (some ⟨b2, 1, none⟩))] 14 rfl rfl ?_
  refine LP_ldbox 14 (v := I b.Den) rfl rfl rfl ti_3 ag_3 (fun _ => rfl) rfl ex13 rfl rfl ?_
  refine LP_ev ok 15 [(21, I (wr (a.Den * b.Den)))] 16 rfl rfl ?_
  refine LP_call 16 rfl rfl rfl cal_90 rfl (spec_fMake_w _ _ _ H wx8 ) ?_
  rintro _ wx15 ⟨r, r14, H, rfl, x16⟩
  refine LP_ev ok 17 [(23, .agg #[I r.Num, I r.Den]), (24, .bool r14)] 19 rfl rfl ?_
  have ex19 := (ex10.ext x16)
  refine LP_stbox 19 (vs := [I r.Num, I r.Den]) (cs' := [I r.Num, I r.Den]) rfl rfl rfl ti_34 rfl rfl rfl rfl rfl ex19 rfl rfl fun wx17 ex18 y => ?_
  refine LP_ev ok 20 [(5, .bool r14)] 21 rfl rfl ?_
  refine LP_end _ rfl ?_
  try refine W_forget [(4, .pointer (some ⟨b7, 0, none⟩)), (5, .bool r14)] ⟨rfl, rfl, trivial⟩ fun ρ => ?_
  refine W_ret ?_
  have X21 := ((X.stepx x).stepx x4)
  have f20 := f11.mono X21.size
  have X22 := (((((X.stepx x).stepx x4).stepx x9).stepx x16).step y (f20.dom _))
  exact ⟨_, Ret_of [.agg #[I r.Num, I r.Den], .bool r14] ⟨⟨_, rfl, rfl, ld_res ti_34 ag_34 (fun h => by cases h) ex18 rfl rfl⟩, ⟨rfl, rfl⟩, trivial⟩, _, _, H, rfl, X22.ext⟩

set_option maxRecDepth 8000 in
set_option maxHeartbeats 4000000 in
theorem spec_ConcentrationOf_w (counts : List Int) (Q : Frac → Bool → Prop) (H : spec_ConcentrationOf counts Q) (w : World) {vx : Value} {hx : PH} (r : RS hx vx counts) (ex : Sub hx w) :
    CallsTo Try.prog 53 #[vx] w fun v w' => ∃ r0 r1, Q r0 r1 ∧ v = .tuple #[.agg #[I r0.Num, I r0.Den], .bool r1] ∧ Ext w w' := by
  obtain ⟨a, c, rfl⟩ := r.shape
  refine enter (args := [.slice a (List.length counts) c]) 53 Try.func53 rfl rfl rfl ?_
  refine W_forget [(0, .slice a (List.length counts) c)] ⟨rfl, trivial⟩ fun ρ => ?_
  have X := But.refl emp w
  refine W_seq ?_
  refine W_region ?_
  refine LP_alloc 0 rfl rfl rfl ti_34 rfl fun b wx x ex1 f => ?_
  refine LP_ev ok 1 [(3, .bool false)] 2 rfl rfl ?_
  refine LP_end _ rfl ?_
  refine W_seq ?_
  refine W_seq ?_
  refine W_region ?_
  refine LP_ev ok 0 [(13, .slice a (List.length counts) c)] 1 rfl rfl ?_
  have ex3 := (ex.ext x)
  refine LP_call 1 rfl rfl rfl cal_88 rfl (spec_oCounts_w _ _ H wx r ex3) ?_
  rintro _ wx4 ⟨r2, H, rfl, x5⟩
  refine LP_ev ok 2 [(15, .bool (!r2))] 3 rfl rfl ?_
  refine LP_end _ rfl ?_
  refine W_cond (!r2) rfl (fun hc => ?_) (fun hc => ?_)
  · have H := H.1 hc
    refine W_seq ?_
    refine W_region ?_
    refine LP_ev ok 0 [(16, .agg #[I 0, I 0])] 1 rfl rfl ?_
    have ex8 := (ex1.ext x5)
    refine LP_stbox 1 (vs := [I 0, I 0]) (cs' := [I 0, I 0]) rfl rfl rfl ti_34 rfl rfl rfl rfl rfl ex8 rfl rfl fun wx6 ex7 y => ?_
    refine LP_ev ok 2 [(3, .bool false)] 3 rfl rfl ?_
    refine LP_end _ rfl ?_
    refine W_ret ?_
    have f9 := f.mono X.size
    have X10 := (((X.stepx x).stepx x5).step y (f9.dom _))
    exact ⟨_, Ret_of [.agg #[I 0, I 0], .bool false] ⟨⟨_, rfl, rfl, ld_res ti_34 ag_34 (fun h => by cases h) ex7 rfl rfl⟩, ⟨rfl, rfl⟩, trivial⟩, _, _, H, rfl, X10.ext⟩
  have H := H.2 hc
  refine W_skip ?_
  refine W_seq ?_
  refine W_region ?_
  refine LP_ev ok 0 [(18, .slice a (List.length counts) c)] 1 rfl rfl ?_
  have ex13 := (ex3.ext x5)
  refine LP_call 1 rfl rfl rfl cal_109 rfl (spec_oShares_w _ _ H wx4 r ex13) ?_
  rintro _ wx14 ⟨r11, r12, vx16, hx17, H, rfl, x15, o, ex18, f19⟩
  obtain ⟨a20, c21, rfl⟩ := o.shape
  refine LP_ev ok 2 [(17, .tuple #[.slice a20 (List.length r11) c21, .bool r12]), (20, .slice a20 (List.length r11) c21), (21, .bool r12), (4, .slice a20 (List.length r11) c21), (5, .bool r12)] 7 rfl rfl ?_
  refine LP_end _ rfl ?_
  refine W_seq ?_
  refine W_seq ?_
  refine W_region ?_
  refine LP_ev ok 0 [(22, .bool r12), (23, .bool (!r12))] 2 rfl rfl ?_
  refine LP_end _ rfl ?_
  refine W_cond (!r12) rfl (fun hc22 => ?_) (fun hc22 => ?_)
  · have H := H.1 hc22
    refine W_seq ?_
    refine W_region ?_
    refine LP_ev ok 0 [(24, .agg #[I 0, I 0])] 1 rfl rfl ?_
    have ex26 := ((ex1.ext x5).ext x15)
    refine LP_stbox 1 (vs := [I 0, I 0]) (cs' := [I 0, I 0]) rfl rfl rfl ti_34 rfl rfl rfl rfl rfl ex26 rfl rfl fun wx23 ex24 y25 => ?_
    refine LP_ev ok 2 [(3, .bool false)] 3 rfl rfl ?_
    refine LP_end _ rfl ?_
    refine W_ret ?_
    have f27 := f.mono X.size
    have X28 := ((((X.stepx x).stepx x5).stepx x15).step y25 (f27.dom _))
    exact ⟨_, Ret_of [.agg #[I 0, I 0], .bool false] ⟨⟨_, rfl, rfl, ld_res ti_34 ag_34 (fun h => by cases h) ex24 rfl rfl⟩, ⟨rfl, rfl⟩, trivial⟩, _, _, H, rfl, X28.ext⟩
  have H := H.2 hc22
  refine W_skip ?_
  refine W_seq ?_
  refine W_region ?_
  refine LP_call 0 rfl rfl rfl cal_111 rfl (spec_fInt_w _ _ H wx14 ) ?_
  rintro _ wx30 ⟨r29, H, rfl, x31⟩
  refine LP_alloc 1 rfl rfl rfl ti_34 rfl fun b32 wx33 x34 ex35 f36 => ?_
  refine LP_stbox 2 (vs := [I r29.Num, I r29.Den]) (cs' := [I r29.Num, I r29.Den]) rfl rfl rfl ti_34 rfl rfl rfl rfl rfl ex35 rfl rfl fun wx37 ex38 y39 => ?_
  refine LP_end _ rfl ?_
  refine W_seq ?_
  refine W_seq ?_
  refine W_region ?_
  refine LP_ev ok 0 [(26, .slice a20 (List.length r11) c21), (27, I (ln r11)), (28, I 0)] 3 rfl rfl ?_
  refine LP_end _ rfl ?_
  refine W_block ?_
  obtain ⟨J, m, Hx, H⟩ := H
  have X47 := ((((X.stepx x).stepx x5).stepx x15).stepx x31)
  have f46 := f36.mono X47.size
  have X48 := ((((((X.stepx x).stepx x5).stepx x15).stepx x31).stepx x34).step y39 (f46.dom _))
  have ex49 := (((ex1.ext x5).ext x15).ext x31)
  have ex50 := (((((ex1.ext x5).ext x15).ext x31).ext x34).but y39 (Dj.of_fresh ex49 f36).symm)
  have ex51 := (ex18.ext x31)
  have ex52 := (((ex18.ext x31).ext x34).but y39 (Dj.of_fresh ex51 f36).symm)
  refine W_loop (S := Int × Int × Int) (fun s ρ' w' => J s.1 s.2.1 s.2.2 ∧ ∃ (ρ : Env), ρ' = setAll [(2, .pointer (some ⟨b, 0, none⟩)), (6, .pointer (some ⟨b32, 0, none⟩)), (26, .slice a20 (List.length r11) c21), (27, I (ln r11)), (28, I s.1)] ρ ∧ But emp w w' ∧ Sub (bx b 34 [I 0, I 0]) w' ∧ Sub hx17 w' ∧ Sub (bx b32 34 [I s.2.1, I s.2.2]) w') (fun s => m s.1 s.2.1 s.2.2) (0, r29.Num, r29.Den) ⟨Hx, _, env_eq ⟨rfl, rfl, rfl, rfl, rfl, trivial⟩, X48, ex50, ex52, ex38⟩ ?_
  rintro ⟨x40, num, den⟩ _ wx41 ⟨Hi, ρ, rfl, X45, ex42, ex43, ex44⟩
  have H := H x40 num den Hi
  refine W_seq ?_
  refine W_region ?_
  refine LP_ev ok 0 [(29, .bool (decide (x40 < (ln r11))))] 1 rfl rfl ?_
  refine LP_end _ rfl ?_
  refine W_seq ?_
  refine W_cond (decide (x40 < (ln r11))) rfl (fun hc53 => ?_) (fun hc53 => ?_)
  · have H := H.1 hc53
    refine W_skip ?_
    refine W_seq ?_
    refine W_block ?_
    refine W_seq ?_
    refine W_region ?_
    obtain ⟨x54, hi, hx55, H⟩ := H
    refine LP_index 0 rfl rfl rfl Try.underlying44 ti_34 rfl rfl o.readf hi hx55 fun a56 cs r57 d => ?_
    refine LP_load 1 rfl rfl rfl ti_34 ag_34 rfl r57 d ex43 fun vx58 r59 => ?_
    obtain rfl := Frac_rv r59
    refine LP_alloc 2 rfl rfl rfl ti_34 rfl fun b60 wx61 x62 ex63 f64 => ?_
    refine LP_stbox 3 (vs := [I x54.Num, I x54.Den]) (cs' := [I x54.Num, I x54.Den]) rfl rfl rfl ti_34 rfl rfl rfl rfl rfl ex63 rfl rfl fun wx65 ex66 y67 => ?_
    refine LP_end _ rfl ?_
    refine W_seq ?_
    refine W_region ?_
    refine LP_ldbox 0 (v := .agg #[I x54.Num, I x54.Den]) rfl rfl rfl ti_34 ag_34 (fun h => by cases h) rfl ex66 rfl rfl ?_
    refine LP_ldbox 1 (v := .agg #[I x54.Num, I x54.Den]) rfl rfl rfl ti_34 ag_34 (fun h => by cases h) rfl ex66 rfl rfl ?_
    refine LP_call 2 rfl rfl rfl cal_112 rfl (spec_fMul_w _ _ _ H wx65 ) ?_
    rintro _ wx70 ⟨r68, r69, H, rfl, x71⟩
    refine LP_ev ok 3 [(32, .tuple #[.agg #[I r68.Num, I r68.Den], .bool r69]), (36, .agg #[I r68.Num, I r68.Den]), (37, .bool r69)] 6 rfl rfl ?_
    refine LP_alloc 6 rfl rfl rfl ti_34 rfl fun b72 wx73 x74 ex75 f76 => ?_
    refine LP_stbox 7 (vs := [I r68.Num, I r68.Den]) (cs' := [I r68.Num, I r68.Den]) rfl rfl rfl ti_34 rfl rfl rfl rfl rfl ex75 rfl rfl fun wx77 ex78 y79 => ?_
    refine LP_ev ok 8 [(10, .bool r69)] 9 rfl rfl ?_
    refine LP_end _ rfl ?_
    refine W_seq ?_
    refine W_seq ?_
    refine W_region ?_
    refine LP_ev ok 0 [(38, .bool r69), (39, .bool (!r69))] 2 rfl rfl ?_
    refine LP_end _ rfl ?_
    refine W_cond (!r69) rfl (fun hc80 => ?_) (fun hc80 => ?_)
    · have H := H.1 hc80
      refine W_seq ?_
      refine W_region ?_
      refine LP_ev ok 0 [(40, .agg #[I 0, I 0])] 1 rfl rfl ?_
      have ex84 := (((ex42.ext x62).but y67 (Dj.of_fresh ex42 f64).symm).ext x71)
      have ex85 := (((((ex42.ext x62).but y67 (Dj.of_fresh ex42 f64).symm).ext x71).ext x74).but y79 (Dj.of_fresh ex84 f76).symm)
      refine LP_stbox 1 (vs := [I 0, I 0]) (cs' := [I 0, I 0]) rfl rfl rfl ti_34 rfl rfl rfl rfl rfl ex85 rfl rfl fun wx81 ex82 y83 => ?_
      refine LP_ev ok 2 [(3, .bool false)] 3 rfl rfl ?_
      refine LP_end _ rfl ?_
      refine W_ret ?_
      have f86 := f64.mono X45.size
      have X88 := (((X45.stepx x62).step y67 (f86.dom _)).stepx x71)
      have f87 := f76.mono X88.size
      have f89 := f.mono X.size
      have X90 := ((((((X45.stepx x62).step y67 (f86.dom _)).stepx x71).stepx x74).step y79 (f87.dom _)).step y83 (f89.dom _))
      exact ⟨_, Ret_of [.agg #[I 0, I 0], .bool false] ⟨⟨_, rfl, rfl, ld_res ti_34 ag_34 (fun h => by cases h) ex82 rfl rfl⟩, ⟨rfl, rfl⟩, trivial⟩, _, _, H, rfl, X90.ext⟩
    have H := H.2 hc80
    refine W_skip ?_
    refine W_seq ?_
    refine W_region ?_
    have ex91 := (((ex44.ext x62).but y67 (Dj.of_fresh ex44 f64).symm).ext x71)
    have ex92 := (((((ex44.ext x62).but y67 (Dj.of_fresh ex44 f64).symm).ext x71).ext x74).but y79 (Dj.of_fresh ex91 f76).symm)
    refine LP_ldbox 0 (v := .agg #[I num, I den]) rfl rfl rfl ti_34 ag_34 (fun h => by cases h) rfl ex92 rfl rfl ?_
    refine LP_ldbox 1 (v := .agg #[I r68.Num, I r68.Den]) rfl rfl rfl ti_34 ag_34 (fun h => by cases h) rfl ex78 rfl rfl ?_
    refine LP_call 2 rfl rfl rfl cal_113 rfl (spec_fAdd_w _ _ _ H wx77 ) ?_
    rintro _ wx95 ⟨r93, r94, H, rfl, x96⟩
    refine LP_ev ok 3 [(41, .tuple #[.agg #[I r93.Num, I r93.Den], .bool r94]), (45, .agg #[I r93.Num, I r93.Den]), (46, .bool r94)] 6 rfl rfl ?_
    refine LP_alloc 6 rfl rfl rfl ti_34 rfl fun b97 wx98 x99 ex100 f101 => ?_
    refine LP_stbox 7 (vs := [I r93.Num, I r93.Den]) (cs' := [I r93.Num, I r93.Den]) rfl rfl rfl ti_34 rfl rfl rfl rfl rfl ex100 rfl rfl fun wx102 ex103 y104 => ?_
    refine LP_ev ok 8 [(12, .bool r94)] 9 rfl rfl ?_
    refine LP_end _ rfl ?_
    try refine W_forget [(2, .pointer (some ⟨b, 0, none⟩)), (6, .pointer (some ⟨b32, 0, none⟩)), (11, .pointer (some ⟨b97, 0, none⟩)), (12, .bool r94), (26, .slice a20 (List.length r11) c21), (27, I (ln r11)), (28, I x40)] ⟨rfl, rfl, rfl, rfl, rfl, rfl, rfl, trivial⟩ fun ρ => ?_
    refine W_seq ?_
    refine W_seq ?_
    refine W_region ?_
    refine LP_ev ok 0 [(47, .bool r94), (48, .bool (!r94))] 2 rfl rfl ?_
    refine LP_end _ rfl ?_
    refine W_cond (!r94) rfl (fun hc105 => ?_) (fun hc105 => ?_)
    · have H := H.1 hc105
      refine W_seq ?_
      refine W_region ?_
      refine LP_ev ok 0 [(49, .agg #[I 0, I 0])] 1 rfl rfl ?_
      have ex109 := (((ex42.ext x62).but y67 (Dj.of_fresh ex42 f64).symm).ext x71)
      have ex110 := (((ex109.ext x74).but y79 (Dj.of_fresh ex109 f76).symm).ext x96)
      have ex111 := ((((((((ex42.ext x62).but y67 (Dj.of_fresh ex42 f64).symm).ext x71).ext x74).but y79 (Dj.of_fresh ex109 f76).symm).ext x96).ext x99).but y104 (Dj.of_fresh ex110 f101).symm)
      refine LP_stbox 1 (vs := [I 0, I 0]) (cs' := [I 0, I 0]) rfl rfl rfl ti_34 rfl rfl rfl rfl rfl ex111 rfl rfl fun wx106 ex107 y108 => ?_
      refine LP_ev ok 2 [(3, .bool false)] 3 rfl rfl ?_
      refine LP_end _ rfl ?_
      refine W_ret ?_
      have f112 := f64.mono X45.size
      have X114 := (((X45.stepx x62).step y67 (f112.dom _)).stepx x71)
      have f113 := f76.mono X114.size
      have X116 := (((X114.stepx x74).step y79 (f113.dom _)).stepx x96)
      have f115 := f101.mono X116.size
      have f117 := f.mono X.size
      have X118 := (((((((((X45.stepx x62).step y67 (f112.dom _)).stepx x71).stepx x74).step y79 (f113.dom _)).stepx x96).stepx x99).step y104 (f115.dom _)).step y108 (f117.dom _))
      exact ⟨_, Ret_of [.agg #[I 0, I 0], .bool false] ⟨⟨_, rfl, rfl, ld_res ti_34 ag_34 (fun h => by cases h) ex107 rfl rfl⟩, ⟨rfl, rfl⟩, trivial⟩, _, _, H, rfl, X118.ext⟩
    have H := H.2 hc105
    refine W_skip ?_
    refine W_region ?_
    refine LP_ldbox 0 (v := .agg #[I r93.Num, I r93.Den]) rfl rfl rfl ti_34 ag_34 (fun h => by cases h) rfl ex103 rfl rfl ?_
    have ex122 := (ex92.ext x96)
    have ex123 := (((ex92.ext x96).ext x99).but y104 (Dj.of_fresh ex122 f101).symm)
    refine LP_stbox 1 (vs := [I r93.Num, I r93.Den]) (cs' := [I r93.Num, I r93.Den]) rfl rfl rfl ti_34 rfl rfl rfl rfl rfl ex123 rfl rfl fun wx119 ex120 y121 => ?_
    refine LP_end _ rfl ?_
    refine W_region ?_
    refine LP_ev ok 0 [(51, I (wr (x40 + 1))), (28, I (wr (x40 + 1)))] 2 rfl rfl ?_
    refine LP_end _ rfl ?_
    have f124 := f64.mono X45.size
    have X126 := (((X45.stepx x62).step y67 (f124.dom _)).stepx x71)
    have f125 := f76.mono X126.size
    have X128 := (((X126.stepx x74).step y79 (f125.dom _)).stepx x96)
    have f127 := f101.mono X128.size
    have X129 := (((((((((X45.stepx x62).step y67 (f124.dom _)).stepx x71).stepx x74).step y79 (f125.dom _)).stepx x96).stepx x99).step y104 (f127.dom _)).step y121 ((Fresh.box f46).dom _))
    have ex130 := (((ex42.ext x62).but y67 (Dj.of_fresh ex42 f64).symm).ext x71)
    have ex131 := (((ex130.ext x74).but y79 (Dj.of_fresh ex130 f76).symm).ext x96)
    have ex132 := (((ex1.ext x5).ext x15).ext x31)
    have ex133 := (((((((((ex42.ext x62).but y67 (Dj.of_fresh ex42 f64).symm).ext x71).ext x74).but y79 (Dj.of_fresh ex130 f76).symm).ext x96).ext x99).but y104 (Dj.of_fresh ex131 f101).symm).but y121 (Dj.box (Dj.of_fresh ex132 f36).symm))
    have ex134 := (((ex43.ext x62).but y67 (Dj.of_fresh ex43 f64).symm).ext x71)
    have ex135 := (((ex134.ext x74).but y79 (Dj.of_fresh ex134 f76).symm).ext x96)
    have ex136 := (ex18.ext x31)
    have ex137 := (((((((((ex43.ext x62).but y67 (Dj.of_fresh ex43 f64).symm).ext x71).ext x74).but y79 (Dj.of_fresh ex134 f76).symm).ext x96).ext x99).but y104 (Dj.of_fresh ex135 f101).symm).but y121 (Dj.box (Dj.of_fresh ex136 f36).symm))
    exact ⟨(wr (x40 + 1), r93.Num, r93.Den), ⟨H.1, _, env_eq ⟨rfl, rfl, rfl, rfl, rfl, trivial⟩, X129, ex133, ex137, ex120⟩, H.2⟩
  have H := H.2 hc53
  refine W_exit ?_
  refine (if_pos rfl).mpr ?_
  refine W_seq ?_
  refine W_region ?_
  refine LP_ldbox 0 (v := .agg #[I num, I den]) rfl rfl rfl ti_34 ag_34 (fun h => by cases h) rfl ex44 rfl rfl ?_
  refine LP_stbox 1 (vs := [I num, I den]) (cs' := [I num, I den]) rfl rfl rfl ti_34 rfl rfl rfl rfl rfl ex42 rfl rfl fun wx138 ex139 y140 => ?_
  refine LP_ev ok 2 [(3, .bool true)] 3 rfl rfl ?_
  refine LP_end _ rfl ?_
  refine W_ret ?_
  have f141 := f.mono X.size
  have X142 := (X45.step y140 (f141.dom _))
  exact ⟨_, Ret_of [.agg #[I num, I den], .bool true] ⟨⟨_, rfl, rfl, ld_res ti_34 ag_34 (fun h => by cases h) ex139 rfl rfl⟩, ⟨rfl, rfl⟩, trivial⟩, _, _, H, rfl, X142.ext⟩

set_option maxRecDepth 8000 in
set_option maxHeartbeats 4000000 in
theorem impl_MulFrac_w (a : Frac) (b : Frac) (Q : Frac → Bool → Prop) (H : impl_MulFrac a b Q) (w : World)  :
    CallsTo Try.prog 114 #[.agg #[I a.Num, I a.Den], .agg #[I b.Num, I b.Den]] w fun v w' => ∃ r0 r1, Q r0 r1 ∧ v = .tuple #[.agg #[I r0.Num, I r0.Den], .bool r1] ∧ Ext w w' := by
  refine enter (args := [.agg #[I a.Num, I a.Den], .agg #[I b.Num, I b.Den]]) 28 Try.func114 rfl rfl rfl ?_
  refine W_forget [(0, .agg #[I a.Num, I a.Den]), (1, .agg #[I b.Num, I b.Den])] ⟨rfl, rfl, trivial⟩ fun ρ => ?_
  have X := But.refl emp w
  refine W_seq ?_
  refine W_region ?_
  refine LP_box 0 (cs := [I a.Num, I a.Den]) rfl rfl rfl rfl rfl fun b1 wx x ex f => ?_
  refine LP_box 1 (cs := [I b.Num, I b.Den]) rfl rfl rfl rfl rfl fun b2 wx3 x4 ex5 f6 => ?_
  refine LP_alloc 2 rfl rfl rfl ti_34 rfl fun b7 wx8 x9 ex10 f11 => ?_
  refine LP_ev ok 3 [(5, .bool false)] 4 rfl rfl ?_
  refine LP_end _ rfl ?_
  refine W_seq ?_
  obtain ⟨k, hk, H⟩ := jn_elim H
  refine W_join2 (S := Bool) (fun s ρ' w' => k s ∧ ∃ (ρ : Env), ρ' = setAll [(2, .pointer (some ⟨b1, 0, none⟩)), (3, .pointer (some ⟨b2, 0, none⟩)), (4, .pointer (some ⟨b7, 0, none⟩)), (13, .bool s)] ρ ∧ But emp w w' ∧ Sub (bx b1 34 [I a.Num, I a.Den]) w' ∧ Sub (bx b2 34 [I b.Num, I b.Den]) w' ∧ Sub (bx b7 34 [I 0, I 0]) w') ?_ ?_
  · refine W_region ?_
    have ex18 := ((ex.ext x4).ext x9)
    refine LP_ldbox 0 (v := .agg #[I a.Num, I a.Den]) rfl rfl rfl ti_34 ag_34 (fun h => by cases h) rfl ex18 rfl rfl ?_
    refine LP_call 1 rfl rfl rfl cal_101 rfl (impl_IsFrac_w _ _ H wx8 ) ?_
    rintro _ wx19 ⟨r, H, rfl, x20⟩
    refine LP_ev ok 2 [(8, .bool (!r)), (9, .bool (!r))] 4 rfl rfl ?_
    refine LP_split 9 (!r) rfl (fun hc => ?_) (fun hc => ?_)
    · have H := H.1 hc
      refine LP_ev ok 4 [(10, undef), (11, undef), (12, undef), (13, .bool true)] 8 rfl rfl ?_
      refine LP_end _ rfl ?_
      have X21 := ((((X.stepx x).stepx x4).stepx x9).stepx x20)
      have ex22 := (ex18.ext x20)
      have ex23 := ((ex5.ext x9).ext x20)
      have ex24 := (ex10.ext x20)
      exact ⟨true, H, _, env_eq ⟨rfl, rfl, rfl, rfl, trivial⟩, X21, ex22, ex23, ex24⟩
    have H := H.2 hc
    have ex25 := ((ex5.ext x9).ext x20)
    refine LP_ldbox 4 (v := .agg #[I b.Num, I b.Den]) rfl rfl rfl ti_34 ag_34 (fun h => by cases h) rfl ex25 rfl rfl ?_
    refine LP_call 5 rfl rfl rfl cal_101 rfl (impl_IsFrac_w _ _ H wx19 ) ?_
    rintro _ wx27 ⟨r26, H, rfl, x28⟩
    refine LP_ev ok 6 [(12, .bool (!r26)), (13, .bool (!r26))] 8 rfl rfl ?_
    refine LP_end _ rfl ?_
    have X29 := (((((X.stepx x).stepx x4).stepx x9).stepx x20).stepx x28)
    have ex30 := ((ex18.ext x20).ext x28)
    have ex31 := (ex25.ext x28)
    have ex32 := ((ex10.ext x20).ext x28)
    exact ⟨!r26, H, _, env_eq ⟨rfl, rfl, rfl, rfl, trivial⟩, X29, ex30, ex31, ex32⟩
  rintro x12 _ wx13 ⟨H, ρ, rfl, X17, ex14, ex15, ex16⟩
  subst hk
  refine W_cond (x12) rfl (fun hc33 => ?_) (fun hc33 => ?_)
  · have H := H.1 hc33
    refine W_seq ?_
    refine W_region ?_
    refine LP_ev ok 0 [(14, .agg #[I 0, I 0])] 1 rfl rfl ?_
    refine LP_stbox 1 (vs := [I 0, I 0]) (cs' := [I 0, I 0]) rfl rfl rfl ti_34 rfl rfl rfl rfl rfl ex16 rfl rfl fun wx34 ex35 y => ?_
    refine LP_ev ok 2 [(5, .bool false)] 3 rfl rfl ?_
    refine LP_end _ rfl ?_
    refine W_ret ?_
    have X37 := ((X.stepx x).stepx x4)
    have f36 := f11.mono X37.size
    have X38 := (X17.step y (f36.dom _))
    exact ⟨_, Ret_of [.agg #[I 0, I 0], .bool false] ⟨⟨_, rfl, rfl, ld_res ti_34 ag_34 (fun h => by cases h) ex35 rfl rfl⟩, ⟨rfl, rfl⟩, trivial⟩, _, _, H, rfl, X38.ext⟩
  have H := H.2 hc33
  refine W_skip ?_
  refine W_seq ?_
  refine W_region ?_
  refine LP_ev ok 0 [(15, .pointer (some ⟨b1, 0, none⟩))] 1 rfl rfl ?_
  refine LP_ldbox 1 (v := I a.Num) rfl rfl rfl ti_3 ag_3 (fun _ => rfl) rfl ex14 rfl rfl ?_
  refine LP_ev ok 2 [(17, .pointer (some ⟨b2, 0, none⟩))] 3 rfl rfl ?_
  refine LP_ldbox 3 (v := I b.Num) rfl rfl rfl ti_3 ag_3 (fun _ => rfl) rfl ex15 rfl rfl ?_
  refine LP_ev ok 4 [(19, I (wr (a.Num * b.Num))), (20, .pointer (some ⟨b1, 1, none⟩))] 6 rfl rfl ?_
  refine LP_ldbox 6 (v := I a.Den) rfl rfl rfl ti_3 ag_3 (fun _ => rfl) rfl ex14 rfl rfl ?_
  refine LP_ev ok 7 [(22, .pointer (some ⟨b2, 1, none⟩))] 8 rfl rfl ?_
  refine LP_ldbox 8 (v := I b.Den) rfl rfl rfl ti_3 ag_3 (fun _ => rfl) rfl ex15 rfl rfl ?_
  refine LP_ev ok 9 [(24, I (wr (a.Den * b.Den)))] 10 rfl rfl ?_
  refine LP_call 10 rfl rfl rfl cal_93 rfl (impl_reduced_w _ _ _ H wx13 ) ?_
  rintro _ wx41 ⟨r39, r40, H, rfl, x42⟩
  refine LP_ev ok 11 [(26, .agg #[I r39.Num, I r39.Den]), (27, .bool r40)] 13 rfl rfl ?_
  have ex46 := (ex16.ext x42)
  refine LP_stbox 13 (vs := [I r39.Num, I r39.Den]) (cs' := [I r39.Num, I r39.Den]) rfl rfl rfl ti_34 rfl rfl rfl rfl rfl ex46 rfl rfl fun wx43 ex44 y45 => ?_
  refine LP_ev ok 14 [(5, .bool r40)] 15 rfl rfl ?_
  refine LP_end _ rfl ?_
  refine W_ret ?_
  have X48 := ((X.stepx x).stepx x4)
  have f47 := f11.mono X48.size
  have X49 := ((X17.stepx x42).step y45 (f47.dom _))
  exact ⟨_, Ret_of [.agg #[I r39.Num, I r39.Den], .bool r40] ⟨⟨_, rfl, rfl, ld_res ti_34 ag_34 (fun h => by cases h) ex44 rfl rfl⟩, ⟨rfl, rfl⟩, trivial⟩, _, _, H, rfl, X49.ext⟩

set_option maxRecDepth 8000 in
set_option maxHeartbeats 4000000 in
theorem impl_AddFrac_w (a : Frac) (b : Frac) (Q : Frac → Bool → Prop) (H : impl_AddFrac a b Q) (w : World)  :
    CallsTo Try.prog 115 #[.agg #[I a.Num, I a.Den], .agg #[I b.Num, I b.Den]] w fun v w' => ∃ r0 r1, Q r0 r1 ∧ v = .tuple #[.agg #[I r0.Num, I r0.Den], .bool r1] ∧ Ext w w' := by
  refine enter (args := [.agg #[I a.Num, I a.Den], .agg #[I b.Num, I b.Den]]) 34 Try.func115 rfl rfl rfl ?_
  refine W_forget [(0, .agg #[I a.Num, I a.Den]), (1, .agg #[I b.Num, I b.Den])] ⟨rfl, rfl, trivial⟩ fun ρ => ?_
  have X := But.refl emp w
  refine W_seq ?_
  refine W_region ?_
  refine LP_box 0 (cs := [I a.Num, I a.Den]) rfl rfl rfl rfl rfl fun b1 wx x ex f => ?_
  refine LP_box 1 (cs := [I b.Num, I b.Den]) rfl rfl rfl rfl rfl fun b2 wx3 x4 ex5 f6 => ?_
  refine LP_alloc 2 rfl rfl rfl ti_34 rfl fun b7 wx8 x9 ex10 f11 => ?_
  refine LP_ev ok 3 [(5, .bool false)] 4 rfl rfl ?_
  refine LP_end _ rfl ?_
  refine W_seq ?_
  obtain ⟨k, hk, H⟩ := jn_elim H
  refine W_join2 (S := Bool) (fun s ρ' w' => k s ∧ ∃ (ρ : Env), ρ' = setAll [(2, .pointer (some ⟨b1, 0, none⟩)), (3, .pointer (some ⟨b2, 0, none⟩)), (4, .pointer (some ⟨b7, 0, none⟩)), (13, .bool s)] ρ ∧ But emp w w' ∧ Sub (bx b1 34 [I a.Num, I a.Den]) w' ∧ Sub (bx b2 34 [I b.Num, I b.Den]) w' ∧ Sub (bx b7 34 [I 0, I 0]) w') ?_ ?_
  · refine W_region ?_
    have ex18 := ((ex.ext x4).ext x9)
    refine LP_ldbox 0 (v := .agg #[I a.Num, I a.Den]) rfl rfl rfl ti_34 ag_34 (fun h => by cases h) rfl ex18 rfl rfl ?_
    refine LP_call 1 rfl rfl rfl cal_101 rfl (impl_IsFrac_w _ _ H wx8 ) ?_
    rintro _ wx19 ⟨r, H, rfl, x20⟩
    refine LP_ev ok 2 [(8, .bool (!r)), (9, .bool (!r))] 4 rfl rfl ?_
    refine LP_split 9 (!r) rfl (fun hc => ?_) (fun hc => ?_)
    · have H := H.1 hc
      refine LP_ev ok 4 [(10, undef), (11, undef), (12, undef), (13, .bool true)] 8 rfl rfl ?_
      refine LP_end _ rfl ?_
      have X21 := ((((X.stepx x).stepx x4).stepx x9).stepx x20)
      have ex22 := (ex18.ext x20)
      have ex23 := ((ex5.ext x9).ext x20)
      have ex24 := (ex10.ext x20)
      exact ⟨true, H, _, env_eq ⟨rfl, rfl, rfl, rfl, trivial⟩, X21, ex22, ex23, ex24⟩
    have H := H.2 hc
    have ex25 := ((ex5.ext x9).ext x20)
    refine LP_ldbox 4 (v := .agg #[I b.Num, I b.Den]) rfl rfl rfl ti_34 ag_34 (fun h => by cases h) rfl ex25 rfl rfl ?_
    refine LP_call 5 rfl rfl rfl cal_101 rfl (impl_IsFrac_w _ _ H wx19 ) ?_
    rintro _ wx27 ⟨r26, H, rfl, x28⟩
    refine LP_ev ok 6 [(12, .bool (!r26)), (13, .bool (!r26))] 8 rfl rfl ?_
    refine LP_end _ rfl ?_
    have X29 := (((((X.stepx x).stepx x4).stepx x9).stepx x20).stepx x28)
    have ex30 := ((ex18.ext x20).ext x28)
    have ex31 := (ex25.ext x28)
    have ex32 := ((ex10.ext x20).ext x28)
    exact ⟨!r26, H, _, env_eq ⟨rfl, rfl, rfl, rfl, trivial⟩, X29, ex30, ex31, ex32⟩
  rintro x12 _ wx13 ⟨H, ρ, rfl, X17, ex14, ex15, ex16⟩
  subst hk
  refine W_cond (x12) rfl (fun hc33 => ?_) (fun hc33 => ?_)
  · have H := H.1 hc33
    refine W_seq ?_
    refine W_region ?_
    refine LP_ev ok 0 [(14, .agg #[I 0, I 0])] 1 rfl rfl ?_
    refine LP_stbox 1 (vs := [I 0, I 0]) (cs' := [I 0, I 0]) rfl rfl rfl ti_34 rfl rfl rfl rfl rfl ex16 rfl rfl fun wx34 ex35 y => ?_
    refine LP_ev ok 2 [(5, .bool false)] 3 rfl rfl ?_
    refine LP_end _ rfl ?_
    refine W_ret ?_
    have X37 := ((X.stepx x).stepx x4)
    have f36 := f11.mono X37.size
    have X38 := (X17.step y (f36.dom _))
    exact ⟨_, Ret_of [.agg #[I 0, I 0], .bool false] ⟨⟨_, rfl, rfl, ld_res ti_34 ag_34 (fun h => by cases h) ex35 rfl rfl⟩, ⟨rfl, rfl⟩, trivial⟩, _, _, H, rfl, X38.ext⟩
  have H := H.2 hc33
  refine W_skip ?_
  refine W_seq ?_
  refine W_region ?_
  refine LP_ev ok 0 [(15, .pointer (some ⟨b1, 0, none⟩))] 1 rfl rfl ?_
  refine LP_ldbox 1 (v := I a.Num) rfl rfl rfl ti_3 ag_3 (fun _ => rfl) rfl ex14 rfl rfl ?_
  refine LP_ev ok 2 [(17, .pointer (some ⟨b2, 1, none⟩))] 3 rfl rfl ?_
  refine LP_ldbox 3 (v := I b.Den) rfl rfl rfl ti_3 ag_3 (fun _ => rfl) rfl ex15 rfl rfl ?_
  refine LP_ev ok 4 [(19, I (wr (a.Num * b.Den))), (20, .pointer (some ⟨b2, 0, none⟩))] 6 rfl rfl ?_
  refine LP_ldbox 6 (v := I b.Num) rfl rfl rfl ti_3 ag_3 (fun _ => rfl) rfl ex15 rfl rfl ?_
  refine LP_ev ok 7 [(22, .pointer (some ⟨b1, 1, none⟩))] 8 rfl rfl ?_
  refine LP_ldbox 8 (v := I a.Den) rfl rfl rfl ti_3 ag_3 (fun _ => rfl) rfl ex14 rfl rfl ?_
  refine LP_ev ok 9 [(24, I (wr (b.Num * a.Den))), (25, I (wr ((wr (a.Num * b.Den)) + (wr (b.Num * a.Den))))), (26, .pointer (some ⟨b1, 1, none⟩))] 12 rfl rfl ?_
  refine LP_ldbox 12 (v := I a.Den) rfl rfl rfl ti_3 ag_3 (fun _ => rfl) rfl ex14 rfl rfl ?_
  refine LP_ev ok 13 [(28, .pointer (some ⟨b2, 1, none⟩))] 14 rfl rfl ?_
  refine LP_ldbox 14 (v := I b.Den) rfl rfl rfl ti_3 ag_3 (fun _ => rfl) rfl ex15 rfl rfl ?_
  refine LP_ev ok 15 [(30, I (wr (a.Den * b.Den)))] 16 rfl rfl ?_
  refine LP_call 16 rfl rfl rfl cal_93 rfl (impl_reduced_w _ _ _ H wx13 ) ?_
  rintro _ wx41 ⟨r39, r40, H, rfl, x42⟩
  refine LP_ev ok 17 [(32, .agg #[I r39.Num, I r39.Den]), (33, .bool r40)] 19 rfl rfl ?_
  have ex46 := (ex16.ext x42)
  refine LP_stbox 19 (vs := [I r39.Num, I r39.Den]) (cs' := [I r39.Num, I r39.Den]) rfl rfl rfl ti_34 rfl rfl rfl rfl rfl ex46 rfl rfl fun wx43 ex44 y45 => ?_
  refine LP_ev ok 20 [(5, .bool r40)] 21 rfl rfl ?_
  refine LP_end _ rfl ?_
  refine W_ret ?_
  have X48 := ((X.stepx x).stepx x4)
  have f47 := f11.mono X48.size
  have X49 := ((X17.stepx x42).step y45 (f47.dom _))
  exact ⟨_, Ret_of [.agg #[I r39.Num, I r39.Den], .bool r40] ⟨⟨_, rfl, rfl, ld_res ti_34 ag_34 (fun h => by cases h) ex44 rfl rfl⟩, ⟨rfl, rfl⟩, trivial⟩, _, _, H, rfl, X49.ext⟩

set_option maxRecDepth 8000 in
set_option maxHeartbeats 4000000 in
theorem impl_ConcentrationOf_w (counts : List Int) (Q : Frac → Bool → Prop) (H : impl_ConcentrationOf counts Q) (w : World) {vx : Value} {hx : PH} (r : RS hx vx counts) (ex : Sub hx w) :
    CallsTo Try.prog 54 #[vx] w fun v w' => ∃ r0 r1, Q r0 r1 ∧ v = .tuple #[.agg #[I r0.Num, I r0.Den], .bool r1] ∧ Ext w w' := by
  obtain ⟨a, c, rfl⟩ := r.shape
  refine enter (args := [.slice a (List.length counts) c]) 50 Try.func54 rfl rfl rfl ?_
  refine W_forget [(0, .slice a (List.length counts) c)] ⟨rfl, trivial⟩ fun ρ => ?_
  have X := But.refl emp w
  refine W_seq ?_
  refine W_region ?_
  refine LP_alloc 0 rfl rfl rfl ti_34 rfl fun b wx x ex1 f => ?_
  refine LP_ev ok 1 [(3, .bool false)] 2 rfl rfl ?_
  refine LP_end _ rfl ?_
  refine W_seq ?_
  refine W_seq ?_
  refine W_region ?_
  refine LP_ev ok 0 [(11, .slice a (List.length counts) c)] 1 rfl rfl ?_
  have ex3 := (ex.ext x)
  refine LP_call 1 rfl rfl rfl cal_92 rfl (impl_areCounts_w _ _ H wx r ex3) ?_
  rintro _ wx4 ⟨r2, H, rfl, x5⟩
  refine LP_ev ok 2 [(13, .bool (!r2))] 3 rfl rfl ?_
  refine LP_end _ rfl ?_
  refine W_cond (!r2) rfl (fun hc => ?_) (fun hc => ?_)
  · have H := H.1 hc
    refine W_seq ?_
    refine W_region ?_
    refine LP_ev ok 0 [(14, .agg #[I 0, I 0])] 1 rfl rfl ?_
    have ex8 := (ex1.ext x5)
    refine LP_stbox 1 (vs := [I 0, I 0]) (cs' := [I 0, I 0]) rfl rfl rfl ti_34 rfl rfl rfl rfl rfl ex8 rfl rfl fun wx6 ex7 y => ?_
    refine LP_ev ok 2 [(3, .bool false)] 3 rfl rfl ?_
    refine LP_end _ rfl ?_
    refine W_ret ?_
    have f9 := f.mono X.size
    have X10 := (((X.stepx x).stepx x5).step y (f9.dom _))
    exact ⟨_, Ret_of [.agg #[I 0, I 0], .bool false] ⟨⟨_, rfl, rfl, ld_res ti_34 ag_34 (fun h => by cases h) ex7 rfl rfl⟩, ⟨rfl, rfl⟩, trivial⟩, _, _, H, rfl, X10.ext⟩
  have H := H.2 hc
  refine W_skip ?_
  refine W_seq ?_
  refine W_region ?_
  refine LP_ev ok 0 [(16, .slice a (List.length counts) c)] 1 rfl rfl ?_
  have ex13 := (ex3.ext x5)
  refine LP_call 1 rfl rfl rfl cal_110 rfl (impl_sharesOf_w _ _ H wx4 r ex13) ?_
  rintro _ wx14 ⟨r11, r12, vx16, hx17, H, rfl, x15, o, ex18, f19⟩
  obtain ⟨a20, c21, rfl⟩ := o.shape
  refine LP_ev ok 2 [(15, .tuple #[.slice a20 (List.length r11) c21, .bool r12]), (18, .slice a20 (List.length r11) c21), (19, .bool r12), (4, .slice a20 (List.length r11) c21), (5, .bool r12)] 7 rfl rfl ?_
  refine LP_end _ rfl ?_
  refine W_seq ?_
  refine W_seq ?_
  refine W_region ?_
  refine LP_ev ok 0 [(20, .bool r12), (21, .bool (!r12))] 2 rfl rfl ?_
  refine LP_end _ rfl ?_
  refine W_cond (!r12) rfl (fun hc22 => ?_) (fun hc22 => ?_)
  · have H := H.1 hc22
    refine W_seq ?_
    refine W_region ?_
    refine LP_ev ok 0 [(22, .agg #[I 0, I 0])] 1 rfl rfl ?_
    have ex26 := ((ex1.ext x5).ext x15)
    refine LP_stbox 1 (vs := [I 0, I 0]) (cs' := [I 0, I 0]) rfl rfl rfl ti_34 rfl rfl rfl rfl rfl ex26 rfl rfl fun wx23 ex24 y25 => ?_
    refine LP_ev ok 2 [(3, .bool false)] 3 rfl rfl ?_
    refine LP_end _ rfl ?_
    refine W_ret ?_
    have f27 := f.mono X.size
    have X28 := ((((X.stepx x).stepx x5).stepx x15).step y25 (f27.dom _))
    exact ⟨_, Ret_of [.agg #[I 0, I 0], .bool false] ⟨⟨_, rfl, rfl, ld_res ti_34 ag_34 (fun h => by cases h) ex24 rfl rfl⟩, ⟨rfl, rfl⟩, trivial⟩, _, _, H, rfl, X28.ext⟩
  have H := H.2 hc22
  refine W_skip ?_
  refine W_seq ?_
  refine W_region ?_
  refine LP_ev ok 0 [(23, .agg #[I 0, I 1])] 1 rfl rfl ?_
  refine LP_alloc 1 rfl rfl rfl ti_34 rfl fun b29 wx30 x31 ex32 f33 => ?_
  refine LP_stbox 2 (vs := [I 0, I 1]) (cs' := [I 0, I 1]) rfl rfl rfl ti_34 rfl rfl rfl rfl rfl ex32 rfl rfl fun wx34 ex35 y36 => ?_
  refine LP_end _ rfl ?_
  refine W_seq ?_
  refine W_seq ?_
  refine W_region ?_
  refine LP_ev ok 0 [(24, .slice a20 (List.length r11) c21), (25, I (ln r11)), (26, I 0)] 3 rfl rfl ?_
  refine LP_end _ rfl ?_
  refine W_block ?_
  obtain ⟨J, m, Hx, H⟩ := H
  have X44 := (((X.stepx x).stepx x5).stepx x15)
  have f43 := f33.mono X44.size
  have X45 := (((((X.stepx x).stepx x5).stepx x15).stepx x31).step y36 (f43.dom _))
  have ex46 := ((ex1.ext x5).ext x15)
  have ex47 := ((((ex1.ext x5).ext x15).ext x31).but y36 (Dj.of_fresh ex46 f33).symm)
  have ex48 := ((ex18.ext x31).but y36 (Dj.of_fresh ex18 f33).symm)
  refine W_loop (S := Int × Int × Int) (fun s ρ' w' => J s.1 s.2.1 s.2.2 ∧ ∃ (ρ : Env), ρ' = setAll [(2, .pointer (some ⟨b, 0, none⟩)), (6, .pointer (some ⟨b29, 0, none⟩)), (24, .slice a20 (List.length r11) c21), (25, I (ln r11)), (26, I s.1)] ρ ∧ But emp w w' ∧ Sub (bx b 34 [I 0, I 0]) w' ∧ Sub hx17 w' ∧ Sub (bx b29 34 [I s.2.1, I s.2.2]) w') (fun s => m s.1 s.2.1 s.2.2) (0, 0, 1) ⟨Hx, _, env_eq ⟨rfl, rfl, rfl, rfl, rfl, trivial⟩, X45, ex47, ex48, ex35⟩ ?_
  rintro ⟨x37, num, den⟩ _ wx38 ⟨Hi, ρ, rfl, X42, ex39, ex40, ex41⟩
  have H := H x37 num den Hi
  refine W_seq ?_
  refine W_region ?_
  refine LP_ev ok 0 [(27, .bool (decide (x37 < (ln r11))))] 1 rfl rfl ?_
  refine LP_end _ rfl ?_
  refine W_seq ?_
  refine W_cond (decide (x37 < (ln r11))) rfl (fun hc49 => ?_) (fun hc49 => ?_)
  · have H := H.1 hc49
    refine W_skip ?_
    refine W_seq ?_
    refine W_block ?_
    refine W_seq ?_
    refine W_region ?_
    obtain ⟨x50, hi, hx51, H⟩ := H
    refine LP_index 0 rfl rfl rfl Try.underlying44 ti_34 rfl rfl o.readf hi hx51 fun a52 cs r53 d => ?_
    refine LP_load 1 rfl rfl rfl ti_34 ag_34 rfl r53 d ex40 fun vx54 r55 => ?_
    obtain rfl := Frac_rv r55
    refine LP_alloc 2 rfl rfl rfl ti_34 rfl fun b56 wx57 x58 ex59 f60 => ?_
    refine LP_stbox 3 (vs := [I x50.Num, I x50.Den]) (cs' := [I x50.Num, I x50.Den]) rfl rfl rfl ti_34 rfl rfl rfl rfl rfl ex59 rfl rfl fun wx61 ex62 y63 => ?_
    refine LP_end _ rfl ?_
    refine W_seq ?_
    refine W_region ?_
    refine LP_ldbox 0 (v := .agg #[I x50.Num, I x50.Den]) rfl rfl rfl ti_34 ag_34 (fun h => by cases h) rfl ex62 rfl rfl ?_
    refine LP_ldbox 1 (v := .agg #[I x50.Num, I x50.Den]) rfl rfl rfl ti_34 ag_34 (fun h => by cases h) rfl ex62 rfl rfl ?_
    refine LP_call 2 rfl rfl rfl cal_114 rfl (impl_MulFrac_w _ _ _ H wx61 ) ?_
    rintro _ wx66 ⟨r64, r65, H, rfl, x67⟩
    refine LP_ev ok 3 [(30, .tuple #[.agg #[I r64.Num, I r64.Den], .bool r65]), (34, .agg #[I r64.Num, I r64.Den]), (35, .bool r65)] 6 rfl rfl ?_
    refine LP_alloc 6 rfl rfl rfl ti_34 rfl fun b68 wx69 x70 ex71 f72 => ?_
    refine LP_stbox 7 (vs := [I r64.Num, I r64.Den]) (cs' := [I r64.Num, I r64.Den]) rfl rfl rfl ti_34 rfl rfl rfl rfl rfl ex71 rfl rfl fun wx73 ex74 y75 => ?_
    refine LP_ev ok 8 [(10, .bool r65)] 9 rfl rfl ?_
    refine LP_end _ rfl ?_
    refine W_seq ?_
    refine W_seq ?_
    refine W_region ?_
    refine LP_ev ok 0 [(36, .bool r65), (37, .bool (!r65))] 2 rfl rfl ?_
    refine LP_end _ rfl ?_
    refine W_cond (!r65) rfl (fun hc76 => ?_) (fun hc76 => ?_)
    · have H := H.1 hc76
      refine W_seq ?_
      refine W_region ?_
      refine LP_ev ok 0 [(38, .agg #[I 0, I 0])] 1 rfl rfl ?_
      have ex80 := (((ex39.ext x58).but y63 (Dj.of_fresh ex39 f60).symm).ext x67)
      have ex81 := (((((ex39.ext x58).but y63 (Dj.of_fresh ex39 f60).symm).ext x67).ext x70).but y75 (Dj.of_fresh ex80 f72).symm)
      refine LP_stbox 1 (vs := [I 0, I 0]) (cs' := [I 0, I 0]) rfl rfl rfl ti_34 rfl rfl rfl rfl rfl ex81 rfl rfl fun wx77 ex78 y79 => ?_
      refine LP_ev ok 2 [(3, .bool false)] 3 rfl rfl ?_
      refine LP_end _ rfl ?_
      refine W_ret ?_
      have f82 := f60.mono X42.size
      have X84 := (((X42.stepx x58).step y63 (f82.dom _)).stepx x67)
      have f83 := f72.mono X84.size
      have f85 := f.mono X.size
      have X86 := ((((((X42.stepx x58).step y63 (f82.dom _)).stepx x67).stepx x70).step y75 (f83.dom _)).step y79 (f85.dom _))
      exact ⟨_, Ret_of [.agg #[I 0, I 0], .bool false] ⟨⟨_, rfl, rfl, ld_res ti_34 ag_34 (fun h => by cases h) ex78 rfl rfl⟩, ⟨rfl, rfl⟩, trivial⟩, _, _, H, rfl, X86.ext⟩
    have H := H.2 hc76
    refine W_skip ?_
    refine W_seq ?_
    refine W_region ?_
    have ex87 := (((ex41.ext x58).but y63 (Dj.of_fresh ex41 f60).symm).ext x67)
    have ex88 := (((((ex41.ext x58).but y63 (Dj.of_fresh ex41 f60).symm).ext x67).ext x70).but y75 (Dj.of_fresh ex87 f72).symm)
    refine LP_ldbox 0 (v := .agg #[I num, I den]) rfl rfl rfl ti_34 ag_34 (fun h => by cases h) rfl ex88 rfl rfl ?_
    refine LP_ldbox 1 (v := .agg #[I r64.Num, I r64.Den]) rfl rfl rfl ti_34 ag_34 (fun h => by cases h) rfl ex74 rfl rfl ?_
    refine LP_call 2 rfl rfl rfl cal_115 rfl (impl_AddFrac_w _ _ _ H wx73 ) ?_
    rintro _ wx91 ⟨r89, r90, H, rfl, x92⟩
    refine LP_ev ok 3 [(39, .tuple #[.agg #[I r89.Num, I r89.Den], .bool r90]), (43, .agg #[I r89.Num, I r89.Den]), (44, .bool r90)] 6 rfl rfl ?_
    have ex96 := (ex88.ext x92)
    refine LP_stbox 6 (vs := [I r89.Num, I r89.Den]) (cs' := [I r89.Num, I r89.Den]) rfl rfl rfl ti_34 rfl rfl rfl rfl rfl ex96 rfl rfl fun wx93 ex94 y95 => ?_
    refine LP_ev ok 7 [(10, .bool r90)] 8 rfl rfl ?_
    refine LP_end _ rfl ?_
    refine W_seq ?_
    refine W_region ?_
    refine LP_ev ok 0 [(45, .bool r90), (46, .bool (!r90))] 2 rfl rfl ?_
    refine LP_end _ rfl ?_
    try refine W_forget [(2, .pointer (some ⟨b, 0, none⟩)), (6, .pointer (some ⟨b29, 0, none⟩)), (24, .slice a20 (List.length r11) c21), (25, I (ln r11)), (26, I x37), (46, .bool (!r90))] ⟨rfl, rfl, rfl, rfl, rfl, rfl, trivial⟩ fun ρ => ?_
    refine W_cond (!r90) rfl (fun hc97 => ?_) (fun hc97 => ?_)
    · have H := H.1 hc97
      refine W_seq ?_
      refine W_region ?_
      refine LP_ev ok 0 [(47, .agg #[I 0, I 0])] 1 rfl rfl ?_
      have ex101 := (((ex39.ext x58).but y63 (Dj.of_fresh ex39 f60).symm).ext x67)
      have ex102 := ((ex1.ext x5).ext x15)
      have ex103 := (((((((ex39.ext x58).but y63 (Dj.of_fresh ex39 f60).symm).ext x67).ext x70).but y75 (Dj.of_fresh ex101 f72).symm).ext x92).but y95 (Dj.box (Dj.of_fresh ex102 f33).symm))
      refine LP_stbox 1 (vs := [I 0, I 0]) (cs' := [I 0, I 0]) rfl rfl rfl ti_34 rfl rfl rfl rfl rfl ex103 rfl rfl fun wx98 ex99 y100 => ?_
      refine LP_ev ok 2 [(3, .bool false)] 3 rfl rfl ?_
      refine LP_end _ rfl ?_
      refine W_ret ?_
      have f104 := f60.mono X42.size
      have X106 := (((X42.stepx x58).step y63 (f104.dom _)).stepx x67)
      have f105 := f72.mono X106.size
      have f107 := f.mono X.size
      have X108 := ((((((((X42.stepx x58).step y63 (f104.dom _)).stepx x67).stepx x70).step y75 (f105.dom _)).stepx x92).step y95 ((Fresh.box f43).dom _)).step y100 (f107.dom _))
      exact ⟨_, Ret_of [.agg #[I 0, I 0], .bool false] ⟨⟨_, rfl, rfl, ld_res ti_34 ag_34 (fun h => by cases h) ex99 rfl rfl⟩, ⟨rfl, rfl⟩, trivial⟩, _, _, H, rfl, X108.ext⟩
    have H := H.2 hc97
    refine W_skip ?_
    refine W_region ?_
    refine LP_ev ok 0 [(48, I (wr (x37 + 1))), (26, I (wr (x37 + 1)))] 2 rfl rfl ?_
    refine LP_end _ rfl ?_
    have f109 := f60.mono X42.size
    have X111 := (((X42.stepx x58).step y63 (f109.dom _)).stepx x67)
    have f110 := f72.mono X111.size
    have X112 := (((((((X42.stepx x58).step y63 (f109.dom _)).stepx x67).stepx x70).step y75 (f110.dom _)).stepx x92).step y95 ((Fresh.box f43).dom _))
    have ex113 := (((ex39.ext x58).but y63 (Dj.of_fresh ex39 f60).symm).ext x67)
    have ex114 := ((ex1.ext x5).ext x15)
    have ex115 := (((((((ex39.ext x58).but y63 (Dj.of_fresh ex39 f60).symm).ext x67).ext x70).but y75 (Dj.of_fresh ex113 f72).symm).ext x92).but y95 (Dj.box (Dj.of_fresh ex114 f33).symm))
    have ex116 := (((ex40.ext x58).but y63 (Dj.of_fresh ex40 f60).symm).ext x67)
    have ex117 := (((((((ex40.ext x58).but y63 (Dj.of_fresh ex40 f60).symm).ext x67).ext x70).but y75 (Dj.of_fresh ex116 f72).symm).ext x92).but y95 (Dj.box (Dj.of_fresh ex18 f33).symm))
    exact ⟨(wr (x37 + 1), r89.Num, r89.Den), ⟨H.1, _, env_eq ⟨rfl, rfl, rfl, rfl, rfl, trivial⟩, X112, ex115, ex117, ex94⟩, H.2⟩
  have H := H.2 hc49
  refine W_exit ?_
  refine (if_pos rfl).mpr ?_
  refine W_seq ?_
  refine W_region ?_
  refine LP_ldbox 0 (v := .agg #[I num, I den]) rfl rfl rfl ti_34 ag_34 (fun h => by cases h) rfl ex41 rfl rfl ?_
  refine LP_stbox 1 (vs := [I num, I den]) (cs' := [I num, I den]) rfl rfl rfl ti_34 rfl rfl rfl rfl rfl ex39 rfl rfl fun wx118 ex119 y120 => ?_
  refine LP_ev ok 2 [(3, .bool true)] 3 rfl rfl ?_
  refine LP_end _ rfl ?_
  refine W_ret ?_
  have f121 := f.mono X.size
  have X122 := (X42.step y120 (f121.dom _))
  exact ⟨_, Ret_of [.agg #[I num, I den], .bool true] ⟨⟨_, rfl, rfl, ld_res ti_34 ag_34 (fun h => by cases h) ex119 rfl rfl⟩, ⟨rfl, rfl⟩, trivial⟩, _, _, H, rfl, X122.ext⟩

set_option maxRecDepth 8000 in
set_option maxHeartbeats 4000000 in
theorem laws_FnExactConcentrationOf_w (aCounts : List Int) (Q : Bool → Prop) (H : laws_FnExactConcentrationOf aCounts Q) (w : World) {vx : Value} {hx : PH} (r : RS hx vx aCounts) (ex : Sub hx w) :
    CallsTo Try.prog 12 #[vx] w fun v w' => ∃ r0, Q r0 ∧ v = .bool r0 ∧ Ext w w' := by
  obtain ⟨a, c, rfl⟩ := r.shape
  refine enter (args := [.slice a (List.length aCounts) c]) 38 Try.func12 rfl rfl rfl ?_
  refine W_forget [(0, .slice a (List.length aCounts) c)] ⟨rfl, trivial⟩ fun ρ => ?_
  have X := But.refl emp w
  refine W_seq ?_
  refine W_region ?_
  refine LP_ev ok 0 [(2, .bool false)] 1 rfl rfl ?_
  refine LP_end _ rfl ?_
  refine W_seq ?_
  refine W_seq ?_
  refine W_region ?_
  refine LP_ev ok 0 [(8, .slice a (List.length aCounts) c), (9, I (ln aCounts)), (10, .bool (decide ((ln aCounts) > 1048576)))] 3 rfl rfl ?_
  refine LP_end _ rfl ?_
  refine W_cond (decide ((ln aCounts) > 1048576)) rfl (fun hc => ?_) (fun hc => ?_)
  · have H := H.1 hc
    refine W_seq ?_
    refine W_region ?_
    refine LP_ev ok 0 [(2, .bool true)] 1 rfl rfl ?_
    refine LP_end _ rfl ?_
    refine W_ret ?_
    exact ⟨_, Ret_of [.bool true] ⟨⟨rfl, rfl⟩, trivial⟩, _, H, rfl, X.ext⟩
  have H := H.2 hc
  refine W_skip ?_
  refine W_seq ?_
  refine W_region ?_
  refine LP_ev ok 0 [(12, .slice a (List.length aCounts) c)] 1 rfl rfl ?_
  refine LP_call 1 rfl rfl rfl cal_26 rfl (laws_toIntS_w _ _ H w r ex) ?_
  rintro _ wx ⟨r1, vx2, hx3, H, rfl, x, o, ex4, f⟩
  obtain ⟨a5, c6, rfl⟩ := o.shape
  refine LP_call 2 rfl rfl rfl cal_53 rfl (spec_ConcentrationOf_w _ _ H wx o.readf ex4) ?_
  rintro _ wx9 ⟨r7, r8, H, rfl, x10⟩
  refine LP_ev ok 3 [(11, .tuple #[.agg #[I r7.Num, I r7.Den], .bool r8]), (15, .agg #[I r7.Num, I r7.Den]), (16, .bool r8)] 6 rfl rfl ?_
  refine LP_alloc 6 rfl rfl rfl ti_34 rfl fun b wx11 x12 ex13 f14 => ?_
  refine LP_stbox 7 (vs := [I r7.Num, I r7.Den]) (cs' := [I r7.Num, I r7.Den]) rfl rfl rfl ti_34 rfl rfl rfl rfl rfl ex13 rfl rfl fun wx15 ex16 y => ?_
  refine LP_ev ok 8 [(4, .bool r8)] 9 rfl rfl ?_
  refine LP_end _ rfl ?_
  refine W_seq ?_
  refine W_region ?_
  refine LP_ev ok 0 [(17, .slice a (List.length aCounts) c)] 1 rfl rfl ?_
  have ex18 := ((ex.ext x).ext x10)
  have ex19 := ((((ex.ext x).ext x10).ext x12).but y (Dj.of_fresh ex18 f14).symm)
  refine LP_call 1 rfl rfl rfl cal_26 rfl (laws_toIntS_w _ _ H wx15 r ex19) ?_
  rintro _ wx20 ⟨r17, vx22, hx23, H, rfl, x21, o24, ex25, f26⟩
  obtain ⟨a27, c28, rfl⟩ := o24.shape
  refine LP_ev ok 2 [(5, .slice a27 (List.length r17) c28)] 3 rfl rfl ?_
  refine LP_end _ rfl ?_
  refine W_seq ?_
  refine W_region ?_
  refine LP_ev ok 0 [(20, .slice a27 (List.length r17) c28)] 1 rfl rfl ?_
  refine LP_call 1 rfl rfl rfl cal_54 rfl (impl_ConcentrationOf_w _ _ H wx20 o24.readf ex25) ?_
  rintro _ wx31 ⟨r29, r30, H, rfl, x32⟩
  refine LP_ev ok 2 [(19, .tuple #[.agg #[I r29.Num, I r29.Den], .bool r30]), (22, .agg #[I r29.Num, I r29.Den]), (23, .bool r30)] 5 rfl rfl ?_
  refine LP_alloc 5 rfl rfl rfl ti_34 rfl fun b33 wx34 x35 ex36 f37 => ?_
  refine LP_stbox 6 (vs := [I r29.Num, I r29.Den]) (cs' := [I r29.Num, I r29.Den]) rfl rfl rfl ti_34 rfl rfl rfl rfl rfl ex36 rfl rfl fun wx38 ex39 y40 => ?_
  refine LP_ev ok 7 [(7, .bool r30)] 8 rfl rfl ?_
  refine LP_end _ rfl ?_
  refine W_seq ?_
  obtain ⟨k, hk, H⟩ := jn_elim H
  refine W_join2 (S := Bool) (fun s ρ' w' => k s ∧ ∃ (ρ : Env), ρ' = setAll [(0, .slice a (List.length aCounts) c), (5, .slice a27 (List.length r17) c28), (32, .bool s)] ρ ∧ But emp w w' ∧ Sub hx w' ∧ Sub hx23 w') ?_ ?_
  · refine W_region ?_
    refine LP_ldbox 0 (v := .agg #[I r29.Num, I r29.Den]) rfl rfl rfl ti_34 ag_34 (fun h => by cases h) rfl ex39 rfl rfl ?_
    have ex46 := ((ex16.ext x21).ext x32)
    have ex47 := ((((ex16.ext x21).ext x32).ext x35).but y40 (Dj.of_fresh ex46 f37).symm)
    refine LP_ldbox 1 (v := .agg #[I r7.Num, I r7.Den]) rfl rfl rfl ti_34 ag_34 (fun h => by cases h) rfl ex47 rfl rfl ?_
    refine LP_call 2 rfl rfl rfl cal_32 rfl (laws_eqFrac_w _ _ _ H wx38 ) ?_
    rintro _ wx49 ⟨r48, H, rfl, x50⟩
    refine LP_ev ok 3 [(27, .bool (!r48)), (28, .bool (!r48))] 5 rfl rfl ?_
    refine LP_split 28 (!r48) rfl (fun hc51 => ?_) (fun hc51 => ?_)
    · have H := H.1 hc51
      refine LP_ev ok 5 [(29, undef), (30, undef), (31, undef), (32, .bool true)] 9 rfl rfl ?_
      refine LP_end _ rfl ?_
      try refine W_forget [(0, .slice a (List.length aCounts) c), (5, .slice a27 (List.length r17) c28), (32, .bool true)] ⟨rfl, rfl, rfl, trivial⟩ fun ρ => ?_
      have X53 := ((X.stepx x).stepx x10)
      have f52 := f14.mono X53.size
      have X55 := ((((X53.stepx x12).step y (f52.dom _)).stepx x21).stepx x32)
      have f54 := f37.mono X55.size
      have X56 := (((((((((X.stepx x).stepx x10).stepx x12).step y (f52.dom _)).stepx x21).stepx x32).stepx x35).step y40 (f54.dom _)).stepx x50)
      have ex57 := ((ex19.ext x21).ext x32)
      have ex58 := (((((ex19.ext x21).ext x32).ext x35).but y40 (Dj.of_fresh ex57 f37).symm).ext x50)
      have ex59 := (ex25.ext x32)
      have ex60 := ((((ex25.ext x32).ext x35).but y40 (Dj.of_fresh ex59 f37).symm).ext x50)
      exact ⟨true, H, _, env_eq ⟨rfl, rfl, rfl, trivial⟩, X56, ex58, ex60⟩
    have H := H.2 hc51
    refine LP_ev ok 5 [(29, .bool r30), (30, .bool r8), (31, .bool (r30 != r8)), (32, .bool (r30 != r8))] 9 rfl rfl ?_
    refine LP_end _ rfl ?_
    try refine W_forget [(0, .slice a (List.length aCounts) c), (5, .slice a27 (List.length r17) c28), (32, .bool (r30 != r8))] ⟨rfl, rfl, rfl, trivial⟩ fun ρ => ?_
    have X62 := ((X.stepx x).stepx x10)
    have f61 := f14.mono X62.size
    have X64 := ((((X62.stepx x12).step y (f61.dom _)).stepx x21).stepx x32)
    have f63 := f37.mono X64.size
    have X65 := (((((((((X.stepx x).stepx x10).stepx x12).step y (f61.dom _)).stepx x21).stepx x32).stepx x35).step y40 (f63.dom _)).stepx x50)
    have ex66 := ((ex19.ext x21).ext x32)
    have ex67 := (((((ex19.ext x21).ext x32).ext x35).but y40 (Dj.of_fresh ex66 f37).symm).ext x50)
    have ex68 := (ex25.ext x32)
    have ex69 := ((((ex25.ext x32).ext x35).but y40 (Dj.of_fresh ex68 f37).symm).ext x50)
    exact ⟨r30 != r8, H, _, env_eq ⟨rfl, rfl, rfl, trivial⟩, X65, ex67, ex69⟩
  rintro x41 _ wx42 ⟨H, ρ, rfl, X45, ex43, ex44⟩
  subst hk
  refine W_cond (x41) rfl (fun hc70 => ?_) (fun hc70 => ?_)
  · have H := H.1 hc70
    refine W_seq ?_
    refine W_region ?_
    refine LP_ev ok 0 [(2, .bool false)] 1 rfl rfl ?_
    refine LP_end _ rfl ?_
    refine W_ret ?_
    exact ⟨_, Ret_of [.bool false] ⟨⟨rfl, rfl⟩, trivial⟩, _, H, rfl, X45.ext⟩
  have H := H.2 hc70
  refine W_skip ?_
  refine W_seq ?_
  refine W_seq ?_
  refine W_region ?_
  refine LP_ev ok 0 [(33, .slice a27 (List.length r17) c28), (34, .slice a (List.length aCounts) c)] 2 rfl rfl ?_
  refine LP_call 2 rfl rfl rfl cal_26 rfl (laws_toIntS_w _ _ H wx42 r ex43) ?_
  rintro _ wx72 ⟨r71, vx74, hx75, H, rfl, x73, o76, ex77, f78⟩
  obtain ⟨a79, c80, rfl⟩ := o76.shape
  have ex82 := (ex44.ext x73)
  refine LP_call 3 rfl rfl rfl cal_22 rfl (laws_eqIntS_w _ _ _ H wx72 o24.readf ex82 o76.readf ex77) ?_
  rintro _ wx83 ⟨r81, H, rfl, x84⟩
  refine LP_ev ok 4 [(37, .bool (!r81))] 5 rfl rfl ?_
  refine LP_end _ rfl ?_
  refine W_cond (!r81) rfl (fun hc85 => ?_) (fun hc85 => ?_)
  · have H := H.1 hc85
    refine W_seq ?_
    refine W_region ?_
    refine LP_ev ok 0 [(2, .bool false)] 1 rfl rfl ?_
    refine LP_end _ rfl ?_
    refine W_ret ?_
    have X86 := ((X45.stepx x73).stepx x84)
    exact ⟨_, Ret_of [.bool false] ⟨⟨rfl, rfl⟩, trivial⟩, _, H, rfl, X86.ext⟩
  have H := H.2 hc85
  refine W_skip ?_
  refine W_seq ?_
  refine W_region ?_
  refine LP_ev ok 0 [(2, .bool true)] 1 rfl rfl ?_
  refine LP_end _ rfl ?_
  refine W_ret ?_
  have X87 := ((X45.stepx x73).stepx x84)
  exact ⟨_, Ret_of [.bool true] ⟨⟨rfl, rfl⟩, trivial⟩, _, H, rfl, X87.ext⟩

set_option maxRecDepth 8000 in
set_option maxHeartbeats 4000000 in
theorem spec_fSub_w (a : Frac) (b : Frac) (Q : Frac → Bool → Prop) (H : spec_fSub a b Q) (w : World)  :
    CallsTo Try.prog 116 #[.agg #[I a.Num, I a.Den], .agg #[I b.Num, I b.Den]] w fun v w' => ∃ r0 r1, Q r0 r1 ∧ v = .tuple #[.agg #[I r0.Num, I r0.Den], .bool r1] ∧ Ext w w' := by
  refine enter (args := [.agg #[I a.Num, I a.Den], .agg #[I b.Num, I b.Den]]) 25 Try.func116 rfl rfl rfl ?_
  refine W_forget [(0, .agg #[I a.Num, I a.Den]), (1, .agg #[I b.Num, I b.Den])] ⟨rfl, rfl, trivial⟩ fun ρ => ?_
  have X := But.refl emp w
  refine W_seq ?_
  refine W_region ?_
  refine LP_box 0 (cs := [I a.Num, I a.Den]) rfl rfl rfl rfl rfl fun b1 wx x ex f => ?_
  refine LP_box 1 (cs := [I b.Num, I b.Den]) rfl rfl rfl rfl rfl fun b2 wx3 x4 ex5 f6 => ?_
  refine LP_alloc 2 rfl rfl rfl ti_34 rfl fun b7 wx8 x9 ex10 f11 => ?_
  refine LP_ev ok 3 [(5, .bool false)] 4 rfl rfl ?_
  refine LP_end _ rfl ?_
  refine W_seq ?_
  refine W_region ?_
  refine LP_ev ok 0 [(6, .pointer (some ⟨b1, 0, none⟩))] 1 rfl rfl ?_
  have ex12 := ((ex.ext x4).ext x9)
  refine LP_ldbox 1 (v := I a.Num) rfl rfl rfl ti_3 ag_3 (fun _ => rfl) rfl ex12 rfl rfl ?_
  refine LP_ev ok 2 [(8, .pointer (some ⟨b2, 1, none⟩))] 3 rfl rfl ?_
  have ex13 := (ex5.ext x9)
  refine LP_ldbox 3 (v := I b.Den) rfl rfl rfl ti_3 ag_3 (fun _ => rfl) rfl ex13 rfl rfl ?_
  refine LP_ev ok 4 [(10, I (wr (a.Num * b.Den))), (11, .pointer (some ⟨b2, 0, none⟩))] 6 rfl rfl ?_
  refine LP_ldbox 6 (v := I b.Num) rfl rfl rfl ti_3 ag_3 (fun _ => rfl) rfl ex13 rfl rfl ?_
  refine LP_ev ok 7 [(13, .pointer (some ⟨b1, 1, none⟩))] 8 rfl rfl ?_
  refine LP_ldbox 8 (v := I a.Den) rfl rfl rfl ti_3 ag_3 (fun _ => rfl) rfl ex12 rfl rfl ?_
  refine LP_ev ok 9 [(15, I (wr (b.Num * a.Den))), (16, I (wr ((wr (a.Num * b.Den)) - (wr (b.Num * a.Den))))), (17, .pointer (some ⟨b1, 1, none⟩))] 12 rfl rfl ?_
  refine LP_ldbox 12 (v := I a.Den) rfl rfl rfl ti_3 ag_3 (fun _ => rfl) rfl ex12 rfl rfl ?_
  refine LP_ev ok 13 [(19, .pointer (some ⟨b2, 1, none⟩))] 14 rfl rfl ?_
  refine LP_ldbox 14 (v := I b.Den) rfl rfl rfl ti_3 ag_3 (fun _ => rfl) rfl ex13 rfl rfl ?_
  refine LP_ev ok 15 [(21, I (wr (a.Den * b.Den)))] 16 rfl rfl ?_
  refine LP_call 16 rfl rfl rfl cal_90 rfl (spec_fMake_w _ _ _ H wx8 ) ?_
  rintro _ wx15 ⟨r, r14, H, rfl, x16⟩
  refine LP_ev ok 17 [(23, .agg #[I r.Num, I r.Den]), (24, .bool r14)] 19 rfl rfl ?_
  have ex19 := (ex10.ext x16)
  refine LP_stbox 19 (vs := [I r.Num, I r.Den]) (cs' := [I r.Num, I r.Den]) rfl rfl rfl ti_34 rfl rfl rfl rfl rfl ex19 rfl rfl fun wx17 ex18 y => ?_
  refine LP_ev ok 20 [(5, .bool r14)] 21 rfl rfl ?_
  refine LP_end _ rfl ?_
  try refine W_forget [(4, .pointer (some ⟨b7, 0, none⟩)), (5, .bool r14)] ⟨rfl, rfl, trivial⟩ fun ρ => ?_
  refine W_ret ?_
  have X21 := ((X.stepx x).stepx x4)
  have f20 := f11.mono X21.size
  have X22 := (((((X.stepx x).stepx x4).stepx x9).stepx x16).step y (f20.dom _))
  exact ⟨_, Ret_of [.agg #[I r.Num, I r.Den], .bool r14] ⟨⟨_, rfl, rfl, ld_res ti_34 ag_34 (fun h => by cases h) ex18 rfl rfl⟩, ⟨rfl, rfl⟩, trivial⟩, _, _, H, rfl, X22.ext⟩

set_option maxRecDepth 8000 in
set_option maxHeartbeats 4000000 in
theorem spec_DissimilarityOf_w (a : List Int) (b : List Int) (Q : Frac → Bool → Prop) (H : spec_DissimilarityOf a b Q) (w : World) {vx : Value} {hx : PH} (r : RS hx vx a) (ex : Sub hx w) {vx2 : Value} {hx3 : PH} (r4 : RS hx3 vx2 b) (ex5 : Sub hx3 w) :
    CallsTo Try.prog 55 #[vx, vx2] w fun v w' => ∃ r0 r1, Q r0 r1 ∧ v = .tuple #[.agg #[I r0.Num, I r0.Den], .bool r1] ∧ Ext w w' := by
  obtain ⟨a1, c, rfl⟩ := r.shape
  obtain ⟨a6, c7, rfl⟩ := r4.shape
  refine enter (args := [.slice a1 (List.length a) c, .slice a6 (List.length b) c7]) 90 Try.func55 rfl rfl rfl ?_
  refine W_forget [(0, .slice a1 (List.length a) c), (1, .slice a6 (List.length b) c7)] ⟨rfl, rfl, trivial⟩ fun ρ => ?_
  have X := But.refl emp w
  refine W_seq ?_
  refine W_region ?_
  refine LP_alloc 0 rfl rfl rfl ti_34 rfl fun b8 wx x ex9 f => ?_
  refine LP_ev ok 1 [(5, .bool false)] 2 rfl rfl ?_
  refine LP_end _ rfl ?_
  refine W_seq ?_
  obtain ⟨k, hk, H⟩ := jn_elim H
  refine W_join2 (S := Bool) (fun s ρ' w' => k s ∧ ∃ (ρ : Env), ρ' = setAll [(0, .slice a1 (List.length a) c), (1, .slice a6 (List.length b) c7), (4, .pointer (some ⟨b8, 0, none⟩)), (30, .bool s)] ρ ∧ But emp w w' ∧ Sub hx w' ∧ Sub hx3 w' ∧ Sub (bx b8 34 [I 0, I 0]) w') ?_ ?_
  · refine W_region ?_
    refine LP_ev ok 0 [(16, .slice a1 (List.length a) c)] 1 rfl rfl ?_
    have ex17 := (ex.ext x)
    refine LP_call 1 rfl rfl rfl cal_88 rfl (spec_oCounts_w _ _ H wx r ex17) ?_
    rintro _ wx18 ⟨r16, H, rfl, x19⟩
    refine LP_ev ok 2 [(18, .bool (!r16)), (19, .bool (!r16))] 4 rfl rfl ?_
    refine LP_split 19 (!r16) rfl (fun hc => ?_) (fun hc => ?_)
    · have H := H.1 hc
      refine LP_ev ok 4 [(20, undef), (21, undef), (22, undef), (23, .bool true), (24, .bool true), (25, undef), (26, undef), (27, undef), (28, undef), (29, undef), (30, .bool true)] 15 rfl rfl ?_
      refine LP_end _ rfl ?_
      have X20 := ((X.stepx x).stepx x19)
      have ex21 := (ex17.ext x19)
      have ex22 := ((ex5.ext x).ext x19)
      have ex23 := (ex9.ext x19)
      exact ⟨true, H, _, env_eq ⟨rfl, rfl, rfl, rfl, trivial⟩, X20, ex21, ex22, ex23⟩
    have H := H.2 hc
    refine LP_ev ok 4 [(20, .slice a6 (List.length b) c7)] 5 rfl rfl ?_
    have ex25 := ((ex5.ext x).ext x19)
    refine LP_call 5 rfl rfl rfl cal_88 rfl (spec_oCounts_w _ _ H wx18 r4 ex25) ?_
    rintro _ wx26 ⟨r24, H, rfl, x27⟩
    refine LP_ev ok 6 [(22, .bool (!r24)), (23, .bool (!r24)), (24, .bool (!r24))] 9 rfl rfl ?_
    refine LP_split 24 (!r24) rfl (fun hc28 => ?_) (fun hc28 => ?_)
    · have H := H.1 hc28
      refine LP_ev ok 9 [(25, undef), (26, undef), (27, undef), (28, undef), (29, undef), (30, .bool true)] 15 rfl rfl ?_
      refine LP_end _ rfl ?_
      have X29 := (((X.stepx x).stepx x19).stepx x27)
      have ex30 := ((ex17.ext x19).ext x27)
      have ex31 := (ex25.ext x27)
      have ex32 := ((ex9.ext x19).ext x27)
      exact ⟨true, H, _, env_eq ⟨rfl, rfl, rfl, rfl, trivial⟩, X29, ex30, ex31, ex32⟩
    have H := H.2 hc28
    refine LP_ev ok 9 [(25, .slice a1 (List.length a) c), (26, I (ln a)), (27, .slice a6 (List.length b) c7), (28, I (ln b)), (29, .bool ((ln a) != (ln b))), (30, .bool ((ln a) != (ln b)))] 15 rfl rfl ?_
    refine LP_end _ rfl ?_
    have X33 := (((X.stepx x).stepx x19).stepx x27)
    have ex34 := ((ex17.ext x19).ext x27)
    have ex35 := (ex25.ext x27)
    have ex36 := ((ex9.ext x19).ext x27)
    exact ⟨(ln a) != (ln b), H, _, env_eq ⟨rfl, rfl, rfl, rfl, trivial⟩, X33, ex34, ex35, ex36⟩
  rintro x10 _ wx11 ⟨H, ρ, rfl, X15, ex12, ex13, ex14⟩
  subst hk
  refine W_cond (x10) rfl (fun hc37 => ?_) (fun hc37 => ?_)
  · have H := H.1 hc37
    refine W_seq ?_
    refine W_region ?_
    refine LP_ev ok 0 [(31, .agg #[I 0, I 0])] 1 rfl rfl ?_
    refine LP_stbox 1 (vs := [I 0, I 0]) (cs' := [I 0, I 0]) rfl rfl rfl ti_34 rfl rfl rfl rfl rfl ex14 rfl rfl fun wx38 ex39 y => ?_
    refine LP_ev ok 2 [(5, .bool false)] 3 rfl rfl ?_
    refine LP_end _ rfl ?_
    refine W_ret ?_
    have f40 := f.mono X.size
    have X41 := (X15.step y (f40.dom _))
    exact ⟨_, Ret_of [.agg #[I 0, I 0], .bool false] ⟨⟨_, rfl, rfl, ld_res ti_34 ag_34 (fun h => by cases h) ex39 rfl rfl⟩, ⟨rfl, rfl⟩, trivial⟩, _, _, H, rfl, X41.ext⟩
  have H := H.2 hc37
  refine W_skip ?_
  refine W_seq ?_
  refine W_region ?_
  refine LP_ev ok 0 [(33, .slice a1 (List.length a) c)] 1 rfl rfl ?_
  refine LP_call 1 rfl rfl rfl cal_109 rfl (spec_oShares_w _ _ H wx11 r ex12) ?_
  rintro _ wx44 ⟨r42, r43, vx46, hx47, H, rfl, x45, o, ex48, f49⟩
  obtain ⟨a50, c51, rfl⟩ := o.shape
  refine LP_ev ok 2 [(32, .tuple #[.slice a50 (List.length r42) c51, .bool r43]), (35, .slice a50 (List.length r42) c51), (36, .bool r43), (6, .slice a50 (List.length r42) c51), (7, .bool r43)] 7 rfl rfl ?_
  refine LP_end _ rfl ?_
  refine W_seq ?_
  refine W_region ?_
  refine LP_ev ok 0 [(38, .slice a6 (List.length b) c7)] 1 rfl rfl ?_
  have ex54 := (ex13.ext x45)
  refine LP_call 1 rfl rfl rfl cal_109 rfl (spec_oShares_w _ _ H wx44 r4 ex54) ?_
  rintro _ wx55 ⟨r52, r53, vx57, hx58, H, rfl, x56, o59, ex60, f61⟩
  obtain ⟨a62, c63, rfl⟩ := o59.shape
  refine LP_ev ok 2 [(37, .tuple #[.slice a62 (List.length r52) c63, .bool r53]), (40, .slice a62 (List.length r52) c63), (41, .bool r53), (8, .slice a62 (List.length r52) c63), (9, .bool r53)] 7 rfl rfl ?_
  refine LP_end _ rfl ?_
  refine W_seq ?_
  obtain ⟨k66, hk67, H⟩ := jn_elim H
  refine W_join2 (S := Bool) (fun s ρ' w' => k66 s ∧ ∃ (ρ : Env), ρ' = setAll [(4, .pointer (some ⟨b8, 0, none⟩)), (6, .slice a50 (List.length r42) c51), (8, .slice a62 (List.length r52) c63), (47, .bool s)] ρ ∧ wx55 = w') ?_ ?_
  · refine W_region ?_
    refine LP_ev ok 0 [(42, .bool r43), (43, .bool (!r43)), (44, .bool (!r43))] 3 rfl rfl ?_
    refine LP_split 44 (!r43) rfl (fun hc68 => ?_) (fun hc68 => ?_)
    · have H := H.1 hc68
      refine LP_ev ok 3 [(45, undef), (46, undef), (47, .bool true)] 6 rfl rfl ?_
      refine LP_end _ rfl ?_
      exact ⟨true, H, _, env_eq ⟨rfl, rfl, rfl, rfl, trivial⟩, rfl⟩
    have H := H.2 hc68
    refine LP_ev ok 3 [(45, .bool r53), (46, .bool (!r53)), (47, .bool (!r53))] 6 rfl rfl ?_
    refine LP_end _ rfl ?_
    exact ⟨!r53, H, _, env_eq ⟨rfl, rfl, rfl, rfl, trivial⟩, rfl⟩
  rintro x64 _ _ ⟨H, ρ, rfl, rfl⟩
  subst hk67
  refine W_cond (x64) rfl (fun hc69 => ?_) (fun hc69 => ?_)
  · have H := H.1 hc69
    refine W_seq ?_
    refine W_region ?_
    refine LP_ev ok 0 [(48, .agg #[I 0, I 0])] 1 rfl rfl ?_
    have ex73 := ((ex14.ext x45).ext x56)
    refine LP_stbox 1 (vs := [I 0, I 0]) (cs' := [I 0, I 0]) rfl rfl rfl ti_34 rfl rfl rfl rfl rfl ex73 rfl rfl fun wx70 ex71 y72 => ?_
    refine LP_ev ok 2 [(5, .bool false)] 3 rfl rfl ?_
    refine LP_end _ rfl ?_
    refine W_ret ?_
    have f74 := f.mono X.size
    have X75 := (((X15.stepx x45).stepx x56).step y72 (f74.dom _))
    exact ⟨_, Ret_of [.agg #[I 0, I 0], .bool false] ⟨⟨_, rfl, rfl, ld_res ti_34 ag_34 (fun h => by cases h) ex71 rfl rfl⟩, ⟨rfl, rfl⟩, trivial⟩, _, _, H, rfl, X75.ext⟩
  have H := H.2 hc69
  refine W_skip ?_
  refine W_seq ?_
  refine W_region ?_
  refine LP_call 0 rfl rfl rfl cal_111 rfl (spec_fInt_w _ _ H wx55 ) ?_
  rintro _ wx77 ⟨r76, H, rfl, x78⟩
  refine LP_alloc 1 rfl rfl rfl ti_34 rfl fun b79 wx80 x81 ex82 f83 => ?_
  refine LP_stbox 2 (vs := [I r76.Num, I r76.Den]) (cs' := [I r76.Num, I r76.Den]) rfl rfl rfl ti_34 rfl rfl rfl rfl rfl ex82 rfl rfl fun wx84 ex85 y86 => ?_
  refine LP_end _ rfl ?_
  refine W_seq ?_
  refine W_seq ?_
  refine W_region ?_
  refine LP_ev ok 0 [(50, .slice a50 (List.length r42) c51), (51, I (ln r42)), (52, I 0)] 3 rfl rfl ?_
  refine LP_end _ rfl ?_
  refine W_block ?_
  obtain ⟨J, m, Hx, H⟩ := H
  have X95 := (((X15.stepx x45).stepx x56).stepx x78)
  have f94 := f83.mono X95.size
  have X96 := (((((X15.stepx x45).stepx x56).stepx x78).stepx x81).step y86 (f94.dom _))
  have ex97 := (((ex14.ext x45).ext x56).ext x78)
  have ex98 := (((((ex14.ext x45).ext x56).ext x78).ext x81).but y86 (Dj.of_fresh ex97 f83).symm)
  have ex99 := ((ex48.ext x56).ext x78)
  have ex100 := ((((ex48.ext x56).ext x78).ext x81).but y86 (Dj.of_fresh ex99 f83).symm)
  have ex101 := (ex60.ext x78)
  have ex102 := (((ex60.ext x78).ext x81).but y86 (Dj.of_fresh ex101 f83).symm)
  refine W_loop (S := Int × Int × Int) (fun s ρ' w' => J s.1 s.2.1 s.2.2 ∧ ∃ (ρ : Env), ρ' = setAll [(4, .pointer (some ⟨b8, 0, none⟩)), (6, .slice a50 (List.length r42) c51), (8, .slice a62 (List.length r52) c63), (10, .pointer (some ⟨b79, 0, none⟩)), (51, I (ln r42)), (52, I s.1)] ρ ∧ But emp w w' ∧ Sub (bx b8 34 [I 0, I 0]) w' ∧ Sub hx47 w' ∧ Sub hx58 w' ∧ Sub (bx b79 34 [I s.2.1, I s.2.2]) w') (fun s => m s.1 s.2.1 s.2.2) (0, r76.Num, r76.Den) ⟨Hx, _, env_eq ⟨rfl, rfl, rfl, rfl, rfl, rfl, trivial⟩, X96, ex98, ex100, ex102, ex85⟩ ?_
  rintro ⟨x87, num, den⟩ _ wx88 ⟨Hi, ρ, rfl, X93, ex89, ex90, ex91, ex92⟩
  have H := H x87 num den Hi
  refine W_seq ?_
  refine W_region ?_
  refine LP_ev ok 0 [(53, .bool (decide (x87 < (ln r42))))] 1 rfl rfl ?_
  refine LP_end _ rfl ?_
  refine W_seq ?_
  refine W_cond (decide (x87 < (ln r42))) rfl (fun hc103 => ?_) (fun hc103 => ?_)
  · have H := H.1 hc103
    refine W_skip ?_
    refine W_seq ?_
    refine W_block ?_
    refine W_seq ?_
    refine W_region ?_
    refine LP_ev ok 0 [(54, I x87), (11, I x87)] 2 rfl rfl ?_
    refine LP_end _ rfl ?_
    refine W_seq ?_
    obtain ⟨x104, hi, hx105, H⟩ := H
    obtain ⟨a106, cs, hx108, r107, d⟩ := run_indexAt Try.underlying44 ti_34 o.readf .i64 _ x104 hi hx105
    obtain ⟨vx109, hx111, r110⟩ := run_loadAt ti_34 ag_34 r107 d
    obtain rfl := Frac_rv r110
    obtain ⟨x112, hi113, hx114, H⟩ := H
    obtain ⟨a115, cs116, hx119, r117, d118⟩ := run_indexAt Try.underlying44 ti_34 o59.readf .i64 _ x112 hi113 hx114
    obtain ⟨vx120, hx122, r121⟩ := run_loadAt ti_34 ag_34 r117 d118
    obtain rfl := Frac_rv r121
    obtain ⟨r123, r124, Hd, H⟩ := H
    refine W_anyL 14 [[], [], [0, 1], [0, 1, 2], [], [], [4, 5], [4, 5, 6], [0, 1, 2, 3, 4, 5, 6, 7], [0, 1, 2, 3, 4, 5, 6, 7, 8], [0, 1, 2, 3, 4, 5, 6, 7, 8, 9], [0, 1, 2, 3, 4, 5, 6, 7, 8, 9], [], [0, 1, 2, 3, 4, 5, 6, 7, 8, 9, 10, 12], [0, 1, 2, 3, 4, 5, 6, 7, 8, 9, 10, 11, 12, 13]] [[(6, none)], [(11, none)], [(56, some 0), (57, some 1)], [(58, some 2)], [(8, none)], [(11, none)], [(60, some 4), (61, some 5)], [(62, some 6)], [(59, some 3), (63, some 7)], [(64, some 8)], [(55, some 9)], [(55, some 9)], [], [(12, some 12), (65, some 10)]] [(4, none), (6, none), (8, none), (10, none), (12, some 12), (51, none), (52, none), (66, some 11)] 34 [I 0, I 0] [I r123.Num, I r123.Den] [.slice a50 (List.length r42) c51, I x87, .pointer (some a106), .agg #[I x104.Num, I x104.Den], .slice a62 (List.length r52) c63, I x87, .pointer (some a115), .agg #[I x112.Num, I x112.Den], .tuple #[.agg #[I r123.Num, I r123.Den], .bool r124], .tuple #[.agg #[I r123.Num, I r123.Den], .bool r124], .agg #[I r123.Num, I r123.Den], .bool r124, undef, undef] (some 12) (some 13) mix (by kernel_rfl) (fun _ h => by cases h; exact ⟨_, rfl, by decide, by decide, by decide⟩) (fun _ h => by cases h; decide)
      ⟨K_ev ok [(6, .slice a50 (List.length r42) c51)] (.slice a50 (List.length r42) c51) (by decide) (by decide) (fun _ _ h => h) rfl (fun _ => rfl),
        K_ev ok [(11, I x87)] (I x87) (by decide) (by decide) (fun _ _ h => h) rfl (fun _ => rfl),
        K_run [(56, .slice a50 (List.length r42) c51), (57, I x87)] (.pointer (some a106)) (by decide) (by decide) (fun _ _ h => h) rfl (fun _ _ _ => ex_index rfl rfl rfl (hx108 _)),
        K_run [(58, .pointer (some a106))] (.agg #[I x104.Num, I x104.Den]) (by decide) (by decide) (fun _ _ h => h) rfl (fun _ w x => ex_load rfl rfl (hx111 w (ex90.ext x))),
        K_ev ok [(8, .slice a62 (List.length r52) c63)] (.slice a62 (List.length r52) c63) (by decide) (by decide) (fun _ _ h => h) rfl (fun _ => rfl),
        K_ev ok [(11, I x87)] (I x87) (by decide) (by decide) (fun _ _ h => h) rfl (fun _ => rfl),
        K_run [(60, .slice a62 (List.length r52) c63), (61, I x87)] (.pointer (some a115)) (by decide) (by decide) (fun _ _ h => h) rfl (fun _ _ _ => ex_index rfl rfl rfl (hx119 _)),
        K_run [(62, .pointer (some a115))] (.agg #[I x112.Num, I x112.Den]) (by decide) (by decide) (fun _ _ h => h) rfl (fun _ w x => ex_load rfl rfl (hx122 w (ex91.ext x))),
        K_call [(59, .agg #[I x104.Num, I x104.Den]), (63, .agg #[I x112.Num, I x112.Den])] (.tuple #[.agg #[I r123.Num, I r123.Den], .bool r124]) (by decide) (by decide) (fun _ _ h => h) rfl rfl cal_116 (fun _ => rfl) (fun w x => (spec_fSub_w _ _ _ Hd w ).mono (fun _ _ h => by obtain ⟨_, _, ⟨rfl, rfl⟩, rfl, x⟩ := h; exact ⟨rfl, x⟩)),
        K_ev ok [(64, .tuple #[.agg #[I r123.Num, I r123.Den], .bool r124])] (.tuple #[.agg #[I r123.Num, I r123.Den], .bool r124]) (by decide) (by decide) (fun _ _ h => h) rfl (fun _ => rfl),
        K_ev ok [(55, .tuple #[.agg #[I r123.Num, I r123.Den], .bool r124])] (.agg #[I r123.Num, I r123.Den]) (by decide) (by decide) (fun _ _ h => h) rfl (fun _ => rfl),
        K_ev ok [(55, .tuple #[.agg #[I r123.Num, I r123.Den], .bool r124])] (.bool r124) (by decide) (by decide) (fun _ _ h => h) rfl (fun _ => rfl),
        K_alloc rfl (by decide) rfl rfl ti_34 rfl,
        K_store (off := 0) (fun b => [(12, .pointer (some ⟨b, 0, none⟩)), (65, .agg #[I r123.Num, I r123.Den])]) (by decide) rfl rfl (fun _ _ h => h) rfl ti_34 (fun _ _ => rfl) (fun _ _ => rfl) rfl rfl rfl rfl rfl, trivial⟩
      (fun b125 ρ wx126 x127 hn hA => ?_)
    obtain ⟨hb, hs, hs128⟩ := hA rfl
    have ex129 := hs rfl
    have f130 : Fresh wx88.heap.size (bx b125 34 [I r123.Num, I r123.Den]) := single_fresh hb
    refine LP_forget [(4, .pointer (some ⟨b8, 0, none⟩)), (6, .slice a50 (List.length r42) c51), (8, .slice a62 (List.length r52) c63), (10, .pointer (some ⟨b79, 0, none⟩)), (12, .pointer (some ⟨b125, 0, none⟩)), (51, I (ln r42)), (52, I x87), (66, .bool r124)] (by exact hn) fun ρ => ?_
    refine LP_ev ok 14 [(13, .bool r124)] 15 rfl rfl ?_
    refine LP_end _ rfl ?_
    refine W_seq ?_
    refine W_region ?_
    refine LP_ev ok 0 [(67, .pointer (some ⟨b125, 0, none⟩))] 1 rfl rfl ?_
    refine LP_ldbox 1 (v := I r123.Num) rfl rfl rfl ti_3 ag_3 (fun _ => rfl) rfl ex129 rfl rfl ?_
    refine LP_call 2 rfl rfl rfl cal_89 rfl (spec_l1Abs_w _ _ H wx126 ) ?_
    rintro _ wx132 ⟨r131, H, rfl, x133⟩
    refine LP_ev ok 3 [(70, .pointer (some ⟨b125, 0, none⟩))] 4 rfl rfl ?_
    have ex137 := (ex129.ext x133)
    refine LP_stbox 4 (vs := [I r131]) (cs' := [I r131, I r123.Den]) rfl rfl rfl ti_3 rfl rfl rfl rfl rfl ex137 rfl rfl fun wx134 ex135 y136 => ?_
    refine LP_end _ rfl ?_
    refine W_seq ?_
    refine W_seq ?_
    refine W_region ?_
    refine LP_ev ok 0 [(71, .bool r124), (72, .bool (!r124))] 2 rfl rfl ?_
    refine LP_end _ rfl ?_
    refine W_cond (!r124) rfl (fun hc138 => ?_) (fun hc138 => ?_)
    · have H := H.1 hc138
      refine W_seq ?_
      refine W_region ?_
      refine LP_ev ok 0 [(73, .agg #[I 0, I 0])] 1 rfl rfl ?_
      have ex142 := (((ex89.ext x127).ext x133).but y136 (Dj.of_fresh ex89 f130).symm)
      refine LP_stbox 1 (vs := [I 0, I 0]) (cs' := [I 0, I 0]) rfl rfl rfl ti_34 rfl rfl rfl rfl rfl ex142 rfl rfl fun wx139 ex140 y141 => ?_
      refine LP_ev ok 2 [(5, .bool false)] 3 rfl rfl ?_
      refine LP_end _ rfl ?_
      refine W_ret ?_
      have f143 := f130.mono X93.size
      have f144 := f.mono X.size
      have X145 := ((((X93.stepx x127).stepx x133).step y136 (f143.dom _)).step y141 (f144.dom _))
      exact ⟨_, Ret_of [.agg #[I 0, I 0], .bool false] ⟨⟨_, rfl, rfl, ld_res ti_34 ag_34 (fun h => by cases h) ex140 rfl rfl⟩, ⟨rfl, rfl⟩, trivial⟩, _, _, H, rfl, X145.ext⟩
    have H := H.2 hc138
    refine W_skip ?_
    refine W_seq ?_
    refine W_region ?_
    have ex146 := (((ex92.ext x127).ext x133).but y136 (Dj.of_fresh ex92 f130).symm)
    refine LP_ldbox 0 (v := .agg #[I num, I den]) rfl rfl rfl ti_34 ag_34 (fun h => by cases h) rfl ex146 rfl rfl ?_
    refine LP_ldbox 1 (v := .agg #[I r131, I r123.Den]) rfl rfl rfl ti_34 ag_34 (fun h => by cases h) rfl ex135 rfl rfl ?_
    refine LP_call 2 rfl rfl rfl cal_113 rfl (spec_fAdd_w _ _ _ H wx134 ) ?_
    rintro _ wx149 ⟨r147, r148, H, rfl, x150⟩
    refine LP_ev ok 3 [(74, .tuple #[.agg #[I r147.Num, I r147.Den], .bool r148]), (78, .agg #[I r147.Num, I r147.Den]), (79, .bool r148)] 6 rfl rfl ?_
    refine LP_alloc 6 rfl rfl rfl ti_34 rfl fun b151 wx152 x153 ex154 f155 => ?_
    refine LP_stbox 7 (vs := [I r147.Num, I r147.Den]) (cs' := [I r147.Num, I r147.Den]) rfl rfl rfl ti_34 rfl rfl rfl rfl rfl ex154 rfl rfl fun wx156 ex157 y158 => ?_
    refine LP_ev ok 8 [(15, .bool r148)] 9 rfl rfl ?_
    refine LP_end _ rfl ?_
    refine W_seq ?_
    refine W_seq ?_
    refine W_region ?_
    refine LP_ev ok 0 [(80, .bool r148), (81, .bool (!r148))] 2 rfl rfl ?_
    refine LP_end _ rfl ?_
    refine W_cond (!r148) rfl (fun hc159 => ?_) (fun hc159 => ?_)
    · have H := H.1 hc159
      refine W_seq ?_
      refine W_region ?_
      refine LP_ev ok 0 [(82, .agg #[I 0, I 0])] 1 rfl rfl ?_
      have ex163 := ((((ex89.ext x127).ext x133).but y136 (Dj.of_fresh ex89 f130).symm).ext x150)
      have ex164 := ((((((ex89.ext x127).ext x133).but y136 (Dj.of_fresh ex89 f130).symm).ext x150).ext x153).but y158 (Dj.of_fresh ex163 f155).symm)
      refine LP_stbox 1 (vs := [I 0, I 0]) (cs' := [I 0, I 0]) rfl rfl rfl ti_34 rfl rfl rfl rfl rfl ex164 rfl rfl fun wx160 ex161 y162 => ?_
      refine LP_ev ok 2 [(5, .bool false)] 3 rfl rfl ?_
      refine LP_end _ rfl ?_
      refine W_ret ?_
      have f165 := f130.mono X93.size
      have X167 := ((((X93.stepx x127).stepx x133).step y136 (f165.dom _)).stepx x150)
      have f166 := f155.mono X167.size
      have f168 := f.mono X.size
      have X169 := (((((((X93.stepx x127).stepx x133).step y136 (f165.dom _)).stepx x150).stepx x153).step y158 (f166.dom _)).step y162 (f168.dom _))
      exact ⟨_, Ret_of [.agg #[I 0, I 0], .bool false] ⟨⟨_, rfl, rfl, ld_res ti_34 ag_34 (fun h => by cases h) ex161 rfl rfl⟩, ⟨rfl, rfl⟩, trivial⟩, _, _, H, rfl, X169.ext⟩
    have H := H.2 hc159
    refine W_skip ?_
    refine W_region ?_
    refine LP_ldbox 0 (v := .agg #[I r147.Num, I r147.Den]) rfl rfl rfl ti_34 ag_34 (fun h => by cases h) rfl ex157 rfl rfl ?_
    have ex173 := (ex146.ext x150)
    have ex174 := (((ex146.ext x150).ext x153).but y158 (Dj.of_fresh ex173 f155).symm)
    refine LP_stbox 1 (vs := [I r147.Num, I r147.Den]) (cs' := [I r147.Num, I r147.Den]) rfl rfl rfl ti_34 rfl rfl rfl rfl rfl ex174 rfl rfl fun wx170 ex171 y172 => ?_
    refine LP_end _ rfl ?_
    refine W_region ?_
    refine LP_ev ok 0 [(84, I (wr (x87 + 1))), (52, I (wr (x87 + 1)))] 2 rfl rfl ?_
    refine LP_end _ rfl ?_
    have f175 := f130.mono X93.size
    have X177 := ((((X93.stepx x127).stepx x133).step y136 (f175.dom _)).stepx x150)
    have f176 := f155.mono X177.size
    have X178 := (((((((X93.stepx x127).stepx x133).step y136 (f175.dom _)).stepx x150).stepx x153).step y158 (f176.dom _)).step y172 ((Fresh.box f94).dom _))
    have ex179 := ((((ex89.ext x127).ext x133).but y136 (Dj.of_fresh ex89 f130).symm).ext x150)
    have ex180 := (((ex14.ext x45).ext x56).ext x78)
    have ex181 := (((((((ex89.ext x127).ext x133).but y136 (Dj.of_fresh ex89 f130).symm).ext x150).ext x153).but y158 (Dj.of_fresh ex179 f155).symm).but y172 (Dj.box (Dj.of_fresh ex180 f83).symm))
    have ex182 := ((((ex90.ext x127).ext x133).but y136 (Dj.of_fresh ex90 f130).symm).ext x150)
    have ex183 := ((ex48.ext x56).ext x78)
    have ex184 := (((((((ex90.ext x127).ext x133).but y136 (Dj.of_fresh ex90 f130).symm).ext x150).ext x153).but y158 (Dj.of_fresh ex182 f155).symm).but y172 (Dj.box (Dj.of_fresh ex183 f83).symm))
    have ex185 := ((((ex91.ext x127).ext x133).but y136 (Dj.of_fresh ex91 f130).symm).ext x150)
    have ex186 := (ex60.ext x78)
    have ex187 := (((((((ex91.ext x127).ext x133).but y136 (Dj.of_fresh ex91 f130).symm).ext x150).ext x153).but y158 (Dj.of_fresh ex185 f155).symm).but y172 (Dj.box (Dj.of_fresh ex186 f83).symm))
    exact ⟨(wr (x87 + 1), r147.Num, r147.Den), ⟨H.1, _, env_eq ⟨rfl, rfl, rfl, rfl, rfl, rfl, trivial⟩, X178, ex181, ex184, ex187, ex171⟩, H.2⟩
  have H := H.2 hc103
  refine W_exit ?_
  refine (if_pos rfl).mpr ?_
  refine W_seq ?_
  refine W_open mix fun wx188 x189 => ?_
  have ex190 := (ex92.ext x189)
  obtain ⟨r191, Hd192, H⟩ := H
  obtain ⟨r193, r194, Hd195, H⟩ := H
  refine AP_stageL (St := Ext) rel_ext 0 5 [[], [], [0, 1], [0, 1, 2], [0, 1, 2], [0, 1, 2, 3, 4], [0, 1, 2, 3, 4, 5]] [[(10, none)], [], [(85, some 0), (86, some 1)], [(87, some 2)], [(87, some 2)]] [(4, none), (88, some 3), (89, some 4)] [.agg #[I num, I den], .agg #[I r191.Num, I r191.Den], .tuple #[.agg #[I r193.Num, I r193.Den], .bool r194], .agg #[I r193.Num, I r193.Den], .bool r194] [] [] (by kernel_rfl) (by decide) rfl
    ⟨C_run [(10, .pointer (some ⟨b79, 0, none⟩))] (.agg #[I num, I den]) (by decide) (fun _ h => h) rfl (fun _ w x => ex_ldbox rfl ti_34 ag_34 (fun h => by cases h) rfl (ex190.ext x) rfl rfl),
      C_call [] (.agg #[I r191.Num, I r191.Den]) (by decide) (fun _ h => h) rfl rfl cal_111 (fun _ => rfl) (fun w x => (spec_fInt_w _ _ Hd192 w ).mono (fun _ _ h => by obtain ⟨_, rfl, rfl, x⟩ := h; exact ⟨rfl, x⟩)),
      C_call [(85, .agg #[I num, I den]), (86, .agg #[I r191.Num, I r191.Den])] (.tuple #[.agg #[I r193.Num, I r193.Den], .bool r194]) (by decide) (fun _ h => h) rfl rfl cal_107 (fun _ => rfl) (fun w x => (spec_fDiv_w _ _ _ Hd195 w ).mono (fun _ _ h => by obtain ⟨_, _, ⟨rfl, rfl⟩, rfl, x⟩ := h; exact ⟨rfl, x⟩)),
      C_ev ok [(87, .tuple #[.agg #[I r193.Num, I r193.Den], .bool r194])] (.agg #[I r193.Num, I r193.Den]) (by decide) (fun _ h => h) rfl (fun _ => rfl),
      C_ev ok [(87, .tuple #[.agg #[I r193.Num, I r193.Den], .bool r194])] (.bool r194) (by decide) (fun _ h => h) rfl (fun _ => rfl), trivial⟩ ?_
  intro wx196 x197 ρ hn198
  refine AP_forget [(4, .pointer (some ⟨b8, 0, none⟩)), (88, .agg #[I r193.Num, I r193.Den]), (89, .bool r194)] (by exact hn198) fun ρ => ?_
  refine AP_LP 5 [[], [], [0, 1], [0, 1, 2], [0, 1, 2], [0, 1, 2, 3, 4], [0, 1, 2, 3, 4, 5]] (by kernel_rfl) ?_
  have ex202 := ((ex89.ext x189).ext x197)
  refine LP_stbox 5 (vs := [I r193.Num, I r193.Den]) (cs' := [I r193.Num, I r193.Den]) rfl rfl rfl ti_34 rfl rfl rfl rfl rfl ex202 rfl rfl fun wx199 ex200 y201 => ?_
  refine LP_ev ok 6 [(5, .bool r194)] 7 rfl rfl ?_
  refine LP_end _ rfl ?_
  refine W_ret ?_
  have f203 := f.mono X.size
  have X204 := (((X93.stepx x189).stepx x197).step y201 (f203.dom _))
  exact ⟨_, Ret_of [.agg #[I r193.Num, I r193.Den], .bool r194] ⟨⟨_, rfl, rfl, ld_res ti_34 ag_34 (fun h => by cases h) ex200 rfl rfl⟩, ⟨rfl, rfl⟩, trivial⟩, _, _, H, rfl, X204.ext⟩

set_option maxRecDepth 8000 in
set_option maxHeartbeats 4000000 in
theorem impl_SubFrac_w (a : Frac) (b : Frac) (Q : Frac → Bool → Prop) (H : impl_SubFrac a b Q) (w : World)  :
    CallsTo Try.prog 148 #[.agg #[I a.Num, I a.Den], .agg #[I b.Num, I b.Den]] w fun v w' => ∃ r0 r1, Q r0 r1 ∧ v = .tuple #[.agg #[I r0.Num, I r0.Den], .bool r1] ∧ Ext w w' := by
  refine enter (args := [.agg #[I a.Num, I a.Den], .agg #[I b.Num, I b.Den]]) 34 Try.func148 rfl rfl rfl ?_
  refine W_forget [(0, .agg #[I a.Num, I a.Den]), (1, .agg #[I b.Num, I b.Den])] ⟨rfl, rfl, trivial⟩ fun ρ => ?_
  have X := But.refl emp w
  refine W_seq ?_
  refine W_region ?_
  refine LP_box 0 (cs := [I a.Num, I a.Den]) rfl rfl rfl rfl rfl fun b1 wx x ex f => ?_
  refine LP_box 1 (cs := [I b.Num, I b.Den]) rfl rfl rfl rfl rfl fun b2 wx3 x4 ex5 f6 => ?_
  refine LP_alloc 2 rfl rfl rfl ti_34 rfl fun b7 wx8 x9 ex10 f11 => ?_
  refine LP_ev ok 3 [(5, .bool false)] 4 rfl rfl ?_
  refine LP_end _ rfl ?_
  refine W_seq ?_
  obtain ⟨k, hk, H⟩ := jn_elim H
  refine W_join2 (S := Bool) (fun s ρ' w' => k s ∧ ∃ (ρ : Env), ρ' = setAll [(2, .pointer (some ⟨b1, 0, none⟩)), (3, .pointer (some ⟨b2, 0, none⟩)), (4, .pointer (some ⟨b7, 0, none⟩)), (13, .bool s)] ρ ∧ But emp w w' ∧ Sub (bx b1 34 [I a.Num, I a.Den]) w' ∧ Sub (bx b2 34 [I b.Num, I b.Den]) w' ∧ Sub (bx b7 34 [I 0, I 0]) w') ?_ ?_
  · refine W_region ?_
    have ex18 := ((ex.ext x4).ext x9)
    refine LP_ldbox 0 (v := .agg #[I a.Num, I a.Den]) rfl rfl rfl ti_34 ag_34 (fun h => by cases h) rfl ex18 rfl rfl ?_
    refine LP_call 1 rfl rfl rfl cal_101 rfl (impl_IsFrac_w _ _ H wx8 ) ?_
    rintro _ wx19 ⟨r, H, rfl, x20⟩
    refine LP_ev ok 2 [(8, .bool (!r)), (9, .bool (!r))] 4 rfl rfl ?_
    refine LP_split 9 (!r) rfl (fun hc => ?_) (fun hc => ?_)
    · have H := H.1 hc
      refine LP_ev ok 4 [(10, undef), (11, undef), (12, undef), (13, .bool true)] 8 rfl rfl ?_
      refine LP_end _ rfl ?_
      have X21 := ((((X.stepx x).stepx x4).stepx x9).stepx x20)
      have ex22 := (ex18.ext x20)
      have ex23 := ((ex5.ext x9).ext x20)
      have ex24 := (ex10.ext x20)
      exact ⟨true, H, _, env_eq ⟨rfl, rfl, rfl, rfl, trivial⟩, X21, ex22, ex23, ex24⟩
    have H := H.2 hc
    have ex25 := ((ex5.ext x9).ext x20)
    refine LP_ldbox 4 (v := .agg #[I b.Num, I b.Den]) rfl rfl rfl ti_34 ag_34 (fun h => by cases h) rfl ex25 rfl rfl ?_
    refine LP_call 5 rfl rfl rfl cal_101 rfl (impl_IsFrac_w _ _ H wx19 ) ?_
    rintro _ wx27 ⟨r26, H, rfl, x28⟩
    refine LP_ev ok 6 [(12, .bool (!r26)), (13, .bool (!r26))] 8 rfl rfl ?_
    refine LP_end _ rfl ?_
    have X29 := (((((X.stepx x).stepx x4).stepx x9).stepx x20).stepx x28)
    have ex30 := ((ex18.ext x20).ext x28)
    have ex31 := (ex25.ext x28)
    have ex32 := ((ex10.ext x20).ext x28)
    exact ⟨!r26, H, _, env_eq ⟨rfl, rfl, rfl, rfl, trivial⟩, X29, ex30, ex31, ex32⟩
  rintro x12 _ wx13 ⟨H, ρ, rfl, X17, ex14, ex15, ex16⟩
  subst hk
  refine W_cond (x12) rfl (fun hc33 => ?_) (fun hc33 => ?_)
  · have H := H.1 hc33
    refine W_seq ?_
    refine W_region ?_
    refine LP_ev ok 0 [(14, .agg #[I 0, I 0])] 1 rfl rfl ?_
    refine LP_stbox 1 (vs := [I 0, I 0]) (cs' := [I 0, I 0]) rfl rfl rfl ti_34 rfl rfl rfl rfl rfl ex16 rfl rfl fun wx34 ex35 y => ?_
    refine LP_ev ok 2 [(5, .bool false)] 3 rfl rfl ?_
    refine LP_end _ rfl ?_
    refine W_ret ?_
    have X37 := ((X.stepx x).stepx x4)
    have f36 := f11.mono X37.size
    have X38 := (X17.step y (f36.dom _))
    exact ⟨_, Ret_of [.agg #[I 0, I 0], .bool false] ⟨⟨_, rfl, rfl, ld_res ti_34 ag_34 (fun h => by cases h) ex35 rfl rfl⟩, ⟨rfl, rfl⟩, trivial⟩, _, _, H, rfl, X38.ext⟩
  have H := H.2 hc33
  refine W_skip ?_
  refine W_seq ?_
  refine W_region ?_
  refine LP_ev ok 0 [(15, .pointer (some ⟨b1, 0, none⟩))] 1 rfl rfl ?_
  refine LP_ldbox 1 (v := I a.Num) rfl rfl rfl ti_3 ag_3 (fun _ => rfl) rfl ex14 rfl rfl ?_
  refine LP_ev ok 2 [(17, .pointer (some ⟨b2, 1, none⟩))] 3 rfl rfl ?_
  refine LP_ldbox 3 (v := I b.Den) rfl rfl rfl ti_3 ag_3 (fun _ => rfl) rfl ex15 rfl rfl ?_
  refine LP_ev ok 4 [(19, I (wr (a.Num * b.Den))), (20, .pointer (some ⟨b2, 0, none⟩))] 6 rfl rfl ?_
  refine LP_ldbox 6 (v := I b.Num) rfl rfl rfl ti_3 ag_3 (fun _ => rfl) rfl ex15 rfl rfl ?_
  refine LP_ev ok 7 [(22, .pointer (some ⟨b1, 1, none⟩))] 8 rfl rfl ?_
  refine LP_ldbox 8 (v := I a.Den) rfl rfl rfl ti_3 ag_3 (fun _ => rfl) rfl ex14 rfl rfl ?_
  refine LP_ev ok 9 [(24, I (wr (b.Num * a.Den))), (25, I (wr ((wr (a.Num * b.Den)) - (wr (b.Num * a.Den))))), (26, .pointer (some ⟨b1, 1, none⟩))] 12 rfl rfl ?_
  refine LP_ldbox 12 (v := I a.Den) rfl rfl rfl ti_3 ag_3 (fun _ => rfl) rfl ex14 rfl rfl ?_
  refine LP_ev ok 13 [(28, .pointer (some ⟨b2, 1, none⟩))] 14 rfl rfl ?_
  refine LP_ldbox 14 (v := I b.Den) rfl rfl rfl ti_3 ag_3 (fun _ => rfl) rfl ex15 rfl rfl ?_
  refine LP_ev ok 15 [(30, I (wr (a.Den * b.Den)))] 16 rfl rfl ?_
  refine LP_call 16 rfl rfl rfl cal_93 rfl (impl_reduced_w _ _ _ H wx13 ) ?_
  rintro _ wx41 ⟨r39, r40, H, rfl, x42⟩
  refine LP_ev ok 17 [(32, .agg #[I r39.Num, I r39.Den]), (33, .bool r40)] 19 rfl rfl ?_
  have ex46 := (ex16.ext x42)
  refine LP_stbox 19 (vs := [I r39.Num, I r39.Den]) (cs' := [I r39.Num, I r39.Den]) rfl rfl rfl ti_34 rfl rfl rfl rfl rfl ex46 rfl rfl fun wx43 ex44 y45 => ?_
  refine LP_ev ok 20 [(5, .bool r40)] 21 rfl rfl ?_
  refine LP_end _ rfl ?_
  refine W_ret ?_
  have X48 := ((X.stepx x).stepx x4)
  have f47 := f11.mono X48.size
  have X49 := ((X17.stepx x42).step y45 (f47.dom _))
  exact ⟨_, Ret_of [.agg #[I r39.Num, I r39.Den], .bool r40] ⟨⟨_, rfl, rfl, ld_res ti_34 ag_34 (fun h => by cases h) ex44 rfl rfl⟩, ⟨rfl, rfl⟩, trivial⟩, _, _, H, rfl, X49.ext⟩

set_option maxRecDepth 8000 in
set_option maxHeartbeats 4000000 in
theorem impl_halfDistance_w (a : List Frac) (b : List Frac) (Q : Frac → Bool → Prop) (H : impl_halfDistance a b Q) (w : World) {vx : Value} {hx : PH} (r : RS hx vx a) (ex : Sub hx w) {vx2 : Value} {hx3 : PH} (r4 : RS hx3 vx2 b) (ex5 : Sub hx3 w) :
    CallsTo Try.prog 117 #[vx, vx2] w fun v w' => ∃ r0 r1, Q r0 r1 ∧ v = .tuple #[.agg #[I r0.Num, I r0.Den], .bool r1] ∧ Ext w w' := by
  obtain ⟨a1, c, rfl⟩ := r.shape
  obtain ⟨a6, c7, rfl⟩ := r4.shape
  refine enter (args := [.slice a1 (List.length a) c, .slice a6 (List.length b) c7]) 53 Try.func117 rfl rfl rfl ?_
  refine W_forget [(0, .slice a1 (List.length a) c), (1, .slice a6 (List.length b) c7)] ⟨rfl, rfl, trivial⟩ fun ρ => ?_
  have X := But.refl emp w
  refine W_seq ?_
  refine W_region ?_
  refine LP_alloc 0 rfl rfl rfl ti_34 rfl fun b8 wx x ex9 f => ?_
  refine LP_ev ok 1 [(5, .bool false)] 2 rfl rfl ?_
  refine LP_end _ rfl ?_
  refine W_seq ?_
  refine W_region ?_
  refine LP_ev ok 0 [(11, .agg #[I 0, I 1])] 1 rfl rfl ?_
  refine LP_alloc 1 rfl rfl rfl ti_34 rfl fun b10 wx11 x12 ex13 f14 => ?_
  refine LP_stbox 2 (vs := [I 0, I 1]) (cs' := [I 0, I 1]) rfl rfl rfl ti_34 rfl rfl rfl rfl rfl ex13 rfl rfl fun wx15 ex16 y => ?_
  refine LP_end _ rfl ?_
  refine W_seq ?_
  refine W_seq ?_
  refine W_region ?_
  refine LP_ev ok 0 [(12, .slice a1 (List.length a) c), (13, I (ln a)), (14, I 0)] 3 rfl rfl ?_
  refine LP_end _ rfl ?_
  refine W_block ?_
  obtain ⟨J, m, Hx, H⟩ := H
  have X25 := (X.stepx x)
  have f24 := f14.mono X25.size
  have X26 := (((X.stepx x).stepx x12).step y (f24.dom _))
  have ex27 := (ex.ext x)
  have ex28 := (((ex.ext x).ext x12).but y (Dj.of_fresh ex27 f14).symm)
  have ex29 := (ex5.ext x)
  have ex30 := (((ex5.ext x).ext x12).but y (Dj.of_fresh ex29 f14).symm)
  have ex31 := ((ex9.ext x12).but y (Dj.of_fresh ex9 f14).symm)
  refine W_loop (S := Int × Int × Int) (fun s ρ' w' => J s.1 s.2.1 s.2.2 ∧ ∃ (ρ : Env), ρ' = setAll [(1, .slice a6 (List.length b) c7), (4, .pointer (some ⟨b8, 0, none⟩)), (6, .pointer (some ⟨b10, 0, none⟩)), (12, .slice a1 (List.length a) c), (13, I (ln a)), (14, I s.1)] ρ ∧ But emp w w' ∧ Sub hx w' ∧ Sub hx3 w' ∧ Sub (bx b8 34 [I 0, I 0]) w' ∧ Sub (bx b10 34 [I s.2.1, I s.2.2]) w') (fun s => m s.1 s.2.1 s.2.2) (0, 0, 1) ⟨Hx, _, env_eq ⟨rfl, rfl, rfl, rfl, rfl, rfl, trivial⟩, X26, ex28, ex30, ex31, ex16⟩ ?_
  rintro ⟨x17, num, den⟩ _ wx18 ⟨Hi, ρ, rfl, X23, ex19, ex20, ex21, ex22⟩
  have H := H x17 num den Hi
  refine W_seq ?_
  refine W_region ?_
  refine LP_ev ok 0 [(15, .bool (decide (x17 < (ln a))))] 1 rfl rfl ?_
  refine LP_end _ rfl ?_
  refine W_seq ?_
  refine W_cond (decide (x17 < (ln a))) rfl (fun hc => ?_) (fun hc => ?_)
  · have H := H.1 hc
    refine W_skip ?_
    refine W_seq ?_
    refine W_block ?_
    refine W_seq ?_
    refine W_region ?_
    refine LP_ev ok 0 [(16, I x17)] 1 rfl rfl ?_
    obtain ⟨x32, hi, hx33, H⟩ := H
    refine LP_index 1 rfl rfl rfl Try.underlying44 ti_34 rfl rfl r hi hx33 fun a34 cs r35 d => ?_
    refine LP_load 2 rfl rfl rfl ti_34 ag_34 rfl r35 d ex19 fun vx36 r37 => ?_
    obtain rfl := Frac_rv r37
    refine LP_alloc 3 rfl rfl rfl ti_34 rfl fun b38 wx39 x40 ex41 f42 => ?_
    refine LP_ev ok 4 [(7, I x17)] 5 rfl rfl ?_
    refine LP_stbox 5 (vs := [I x32.Num, I x32.Den]) (cs' := [I x32.Num, I x32.Den]) rfl rfl rfl ti_34 rfl rfl rfl rfl rfl ex41 rfl rfl fun wx43 ex44 y45 => ?_
    refine LP_end _ rfl ?_
    refine W_seq ?_
    obtain ⟨x46, hi47, hx48, H⟩ := H
    obtain ⟨a49, cs50, hx53, r51, d52⟩ := run_indexAt Try.underlying44 ti_34 r4 .i64 _ x46 hi47 hx48
    have ex54 := ((ex20.ext x40).but y45 (Dj.of_fresh ex20 f42).symm)
    obtain ⟨vx55, hx57, r56⟩ := run_loadAt ti_34 ag_34 r51 d52
    obtain rfl := Frac_rv r56
    obtain ⟨r58, r59, Hd, H⟩ := H
    refine W_anyL 11 [[], [], [], [1, 2], [1, 2, 3], [0, 1, 2, 3, 4], [0, 1, 2, 3, 4, 5], [0, 1, 2, 3, 4, 5, 6], [0, 1, 2, 3, 4, 5, 6], [], [0, 1, 2, 3, 4, 5, 6, 7, 9], [0, 1, 2, 3, 4, 5, 6, 7, 8, 9, 10]] [[(8, none)], [(1, none)], [(7, none)], [(21, some 1), (22, some 2)], [(23, some 3)], [(20, some 0), (24, some 4)], [(25, some 5)], [(19, some 6)], [(19, some 6)], [], [(9, some 9), (26, some 7)]] [(1, none), (4, none), (6, none), (9, some 9), (12, none), (13, none), (14, none), (27, some 8)] 34 [I 0, I 0] [I r58.Num, I r58.Den] [.agg #[I x32.Num, I x32.Den], .slice a6 (List.length b) c7, I x17, .pointer (some a49), .agg #[I x46.Num, I x46.Den], .tuple #[.agg #[I r58.Num, I r58.Den], .bool r59], .tuple #[.agg #[I r58.Num, I r58.Den], .bool r59], .agg #[I r58.Num, I r58.Den], .bool r59, undef, undef] (some 9) (some 10) mix (by kernel_rfl) (fun _ h => by cases h; exact ⟨_, rfl, by decide, by decide, by decide⟩) (fun _ h => by cases h; decide)
      ⟨K_run [(8, .pointer (some ⟨b38, 0, none⟩))] (.agg #[I x32.Num, I x32.Den]) (by decide) (by decide) (fun _ _ h => h) rfl (fun _ w x => ex_ldbox rfl ti_34 ag_34 (fun h => by cases h) rfl (ex44.ext x) rfl rfl),
        K_ev ok [(1, .slice a6 (List.length b) c7)] (.slice a6 (List.length b) c7) (by decide) (by decide) (fun _ _ h => h) rfl (fun _ => rfl),
        K_ev ok [(7, I x17)] (I x17) (by decide) (by decide) (fun _ _ h => h) rfl (fun _ => rfl),
        K_run [(21, .slice a6 (List.length b) c7), (22, I x17)] (.pointer (some a49)) (by decide) (by decide) (fun _ _ h => h) rfl (fun _ _ _ => ex_index rfl rfl rfl (hx53 _)),
        K_run [(23, .pointer (some a49))] (.agg #[I x46.Num, I x46.Den]) (by decide) (by decide) (fun _ _ h => h) rfl (fun _ w x => ex_load rfl rfl (hx57 w (ex54.ext x))),
        K_call [(20, .agg #[I x32.Num, I x32.Den]), (24, .agg #[I x46.Num, I x46.Den])] (.tuple #[.agg #[I r58.Num, I r58.Den], .bool r59]) (by decide) (by decide) (fun _ _ h => h) rfl rfl cal_148 (fun _ => rfl) (fun w x => (impl_SubFrac_w _ _ _ Hd w ).mono (fun _ _ h => by obtain ⟨_, _, ⟨rfl, rfl⟩, rfl, x⟩ := h; exact ⟨rfl, x⟩)),
        K_ev ok [(25, .tuple #[.agg #[I r58.Num, I r58.Den], .bool r59])] (.tuple #[.agg #[I r58.Num, I r58.Den], .bool r59]) (by decide) (by decide) (fun _ _ h => h) rfl (fun _ => rfl),
        K_ev ok [(19, .tuple #[.agg #[I r58.Num, I r58.Den], .bool r59])] (.agg #[I r58.Num, I r58.Den]) (by decide) (by decide) (fun _ _ h => h) rfl (fun _ => rfl),
        K_ev ok [(19, .tuple #[.agg #[I r58.Num, I r58.Den], .bool r59])] (.bool r59) (by decide) (by decide) (fun _ _ h => h) rfl (fun _ => rfl),
        K_alloc rfl (by decide) rfl rfl ti_34 rfl,
        K_store (off := 0) (fun b => [(9, .pointer (some ⟨b, 0, none⟩)), (26, .agg #[I r58.Num, I r58.Den])]) (by decide) rfl rfl (fun _ _ h => h) rfl ti_34 (fun _ _ => rfl) (fun _ _ => rfl) rfl rfl rfl rfl rfl, trivial⟩
      (fun b60 ρ wx61 x62 hn hA => ?_)
    obtain ⟨hb, hs, hs63⟩ := hA rfl
    have ex64 := hs rfl
    have f65 : Fresh wx43.heap.size (bx b60 34 [I r58.Num, I r58.Den]) := single_fresh hb
    refine LP_forget [(1, .slice a6 (List.length b) c7), (4, .pointer (some ⟨b8, 0, none⟩)), (6, .pointer (some ⟨b10, 0, none⟩)), (9, .pointer (some ⟨b60, 0, none⟩)), (12, .slice a1 (List.length a) c), (13, I (ln a)), (14, I x17), (27, .bool r59)] (by exact hn) fun ρ => ?_
    refine LP_ev ok 11 [(10, .bool r59)] 12 rfl rfl ?_
    refine LP_end _ rfl ?_
    refine W_seq ?_
    refine W_seq ?_
    refine W_region ?_
    refine LP_ev ok 0 [(28, .bool r59), (29, .bool (!r59))] 2 rfl rfl ?_
    refine LP_end _ rfl ?_
    refine W_cond (!r59) rfl (fun hc66 => ?_) (fun hc66 => ?_)
    · have H := H.1 hc66
      refine W_seq ?_
      refine W_region ?_
      refine LP_ev ok 0 [(30, .agg #[I 0, I 0])] 1 rfl rfl ?_
      have ex70 := (((ex21.ext x40).but y45 (Dj.of_fresh ex21 f42).symm).ext x62)
      refine LP_stbox 1 (vs := [I 0, I 0]) (cs' := [I 0, I 0]) rfl rfl rfl ti_34 rfl rfl rfl rfl rfl ex70 rfl rfl fun wx67 ex68 y69 => ?_
      refine LP_ev ok 2 [(5, .bool false)] 3 rfl rfl ?_
      refine LP_end _ rfl ?_
      refine W_ret ?_
      have f71 := f42.mono X23.size
      have f72 := f.mono X.size
      have X73 := ((((X23.stepx x40).step y45 (f71.dom _)).stepx x62).step y69 (f72.dom _))
      exact ⟨_, Ret_of [.agg #[I 0, I 0], .bool false] ⟨⟨_, rfl, rfl, ld_res ti_34 ag_34 (fun h => by cases h) ex68 rfl rfl⟩, ⟨rfl, rfl⟩, trivial⟩, _, _, H, rfl, X73.ext⟩
    have H := H.2 hc66
    refine W_skip ?_
    refine W_seq ?_
    refine W_region ?_
    refine LP_ev ok 0 [(31, .pointer (some ⟨b60, 0, none⟩))] 1 rfl rfl ?_
    refine LP_ldbox 1 (v := I r58.Num) rfl rfl rfl ti_3 ag_3 (fun _ => rfl) rfl ex64 rfl rfl ?_
    refine LP_ev ok 2 [(33, .pointer (some ⟨b60, 0, none⟩))] 3 rfl rfl ?_
    refine LP_ldbox 3 (v := I r58.Num) rfl rfl rfl ti_3 ag_3 (fun _ => rfl) rfl ex64 rfl rfl ?_
    refine LP_ev ok 4 [(35, I (wr (0 - r58.Num))), (36, I (mx r58.Num (wr (0 - r58.Num)))), (37, .pointer (some ⟨b60, 0, none⟩))] 7 rfl rfl ?_
    refine LP_stbox 7 (vs := [I (mx r58.Num (wr (0 - r58.Num)))]) (cs' := [I (mx r58.Num (wr (0 - r58.Num))), I r58.Den]) rfl rfl rfl ti_3 rfl rfl rfl rfl rfl ex64 rfl rfl fun wx74 ex75 y76 => ?_
    refine LP_end _ rfl ?_
    refine W_seq ?_
    refine W_region ?_
    have ex77 := ((ex22.ext x40).but y45 (Dj.of_fresh ex22 f42).symm)
    have ex78 := ((((ex22.ext x40).but y45 (Dj.of_fresh ex22 f42).symm).ext x62).but y76 (Dj.of_fresh ex77 f65).symm)
    refine LP_ldbox 0 (v := .agg #[I num, I den]) rfl rfl rfl ti_34 ag_34 (fun h => by cases h) rfl ex78 rfl rfl ?_
    refine LP_ldbox 1 (v := .agg #[I (mx r58.Num (wr (0 - r58.Num))), I r58.Den]) rfl rfl rfl ti_34 ag_34 (fun h => by cases h) rfl ex75 rfl rfl ?_
    refine LP_call 2 rfl rfl rfl cal_115 rfl (impl_AddFrac_w _ _ _ H wx74 ) ?_
    rintro _ wx81 ⟨r79, r80, H, rfl, x82⟩
    refine LP_ev ok 3 [(38, .tuple #[.agg #[I r79.Num, I r79.Den], .bool r80]), (42, .agg #[I r79.Num, I r79.Den]), (43, .bool r80)] 6 rfl rfl ?_
    have ex86 := (ex78.ext x82)
    refine LP_stbox 6 (vs := [I r79.Num, I r79.Den]) (cs' := [I r79.Num, I r79.Den]) rfl rfl rfl ti_34 rfl rfl rfl rfl rfl ex86 rfl rfl fun wx83 ex84 y85 => ?_
    refine LP_ev ok 7 [(10, .bool r80)] 8 rfl rfl ?_
    refine LP_end _ rfl ?_
    refine W_seq ?_
    refine W_region ?_
    refine LP_ev ok 0 [(44, .bool r80), (45, .bool (!r80))] 2 rfl rfl ?_
    refine LP_end _ rfl ?_
    refine W_cond (!r80) rfl (fun hc87 => ?_) (fun hc87 => ?_)
    · have H := H.1 hc87
      refine W_seq ?_
      refine W_region ?_
      refine LP_ev ok 0 [(46, .agg #[I 0, I 0])] 1 rfl rfl ?_
      have ex91 := ((ex21.ext x40).but y45 (Dj.of_fresh ex21 f42).symm)
      have ex92 := ((((((ex21.ext x40).but y45 (Dj.of_fresh ex21 f42).symm).ext x62).but y76 (Dj.of_fresh ex91 f65).symm).ext x82).but y85 (Dj.box (Dj.of_fresh ex9 f14).symm))
      refine LP_stbox 1 (vs := [I 0, I 0]) (cs' := [I 0, I 0]) rfl rfl rfl ti_34 rfl rfl rfl rfl rfl ex92 rfl rfl fun wx88 ex89 y90 => ?_
      refine LP_ev ok 2 [(5, .bool false)] 3 rfl rfl ?_
      refine LP_end _ rfl ?_
      refine W_ret ?_
      have f93 := f42.mono X23.size
      have X95 := ((X23.stepx x40).step y45 (f93.dom _))
      have f94 := f65.mono X95.size
      have f96 := f.mono X.size
      have X97 := (((((((X23.stepx x40).step y45 (f93.dom _)).stepx x62).step y76 (f94.dom _)).stepx x82).step y85 ((Fresh.box f24).dom _)).step y90 (f96.dom _))
      exact ⟨_, Ret_of [.agg #[I 0, I 0], .bool false] ⟨⟨_, rfl, rfl, ld_res ti_34 ag_34 (fun h => by cases h) ex89 rfl rfl⟩, ⟨rfl, rfl⟩, trivial⟩, _, _, H, rfl, X97.ext⟩
    have H := H.2 hc87
    refine W_skip ?_
    refine W_region ?_
    refine LP_ev ok 0 [(47, I (wr (x17 + 1))), (14, I (wr (x17 + 1)))] 2 rfl rfl ?_
    refine LP_end _ rfl ?_
    have f98 := f42.mono X23.size
    have X100 := ((X23.stepx x40).step y45 (f98.dom _))
    have f99 := f65.mono X100.size
    have X101 := ((((((X23.stepx x40).step y45 (f98.dom _)).stepx x62).step y76 (f99.dom _)).stepx x82).step y85 ((Fresh.box f24).dom _))
    have ex102 := ((ex19.ext x40).but y45 (Dj.of_fresh ex19 f42).symm)
    have ex103 := (ex.ext x)
    have ex104 := ((((((ex19.ext x40).but y45 (Dj.of_fresh ex19 f42).symm).ext x62).but y76 (Dj.of_fresh ex102 f65).symm).ext x82).but y85 (Dj.box (Dj.of_fresh ex103 f14).symm))
    have ex105 := (ex5.ext x)
    have ex106 := ((((ex54.ext x62).but y76 (Dj.of_fresh ex54 f65).symm).ext x82).but y85 (Dj.box (Dj.of_fresh ex105 f14).symm))
    have ex107 := ((ex21.ext x40).but y45 (Dj.of_fresh ex21 f42).symm)
    have ex108 := ((((((ex21.ext x40).but y45 (Dj.of_fresh ex21 f42).symm).ext x62).but y76 (Dj.of_fresh ex107 f65).symm).ext x82).but y85 (Dj.box (Dj.of_fresh ex9 f14).symm))
    exact ⟨(wr (x17 + 1), r79.Num, r79.Den), ⟨H.1, _, env_eq ⟨rfl, rfl, rfl, rfl, rfl, rfl, trivial⟩, X101, ex104, ex106, ex108, ex84⟩, H.2⟩
  have H := H.2 hc
  refine W_exit ?_
  refine (if_pos rfl).mpr ?_
  refine W_seq ?_
  refine W_region ?_
  refine LP_ldbox 0 (v := .agg #[I num, I den]) rfl rfl rfl ti_34 ag_34 (fun h => by cases h) rfl ex22 rfl rfl ?_
  refine LP_ev ok 1 [(49, .agg #[I 2, I 1])] 2 rfl rfl ?_
  refine LP_call 2 rfl rfl rfl cal_108 rfl (impl_DivFrac_w _ _ _ H wx18 ) ?_
  rintro _ wx111 ⟨r109, r110, H, rfl, x112⟩
  refine LP_ev ok 3 [(51, .agg #[I r109.Num, I r109.Den]), (52, .bool r110)] 5 rfl rfl ?_
  have ex116 := (ex21.ext x112)
  refine LP_stbox 5 (vs := [I r109.Num, I r109.Den]) (cs' := [I r109.Num, I r109.Den]) rfl rfl rfl ti_34 rfl rfl rfl rfl rfl ex116 rfl rfl fun wx113 ex114 y115 => ?_
  refine LP_ev ok 6 [(5, .bool r110)] 7 rfl rfl ?_
  refine LP_end _ rfl ?_
  refine W_ret ?_
  have f117 := f.mono X.size
  have X118 := ((X23.stepx x112).step y115 (f117.dom _))
  exact ⟨_, Ret_of [.agg #[I r109.Num, I r109.Den], .bool r110] ⟨⟨_, rfl, rfl, ld_res ti_34 ag_34 (fun h => by cases h) ex114 rfl rfl⟩, ⟨rfl, rfl⟩, trivial⟩, _, _, H, rfl, X118.ext⟩

set_option maxRecDepth 8000 in
set_option maxHeartbeats 4000000 in
theorem impl_DissimilarityOf_w (a : List Int) (b : List Int) (Q : Frac → Bool → Prop) (H : impl_DissimilarityOf a b Q) (w : World) {vx : Value} {hx : PH} (r : RS hx vx a) (ex : Sub hx w) {vx2 : Value} {hx3 : PH} (r4 : RS hx3 vx2 b) (ex5 : Sub hx3 w) :
    CallsTo Try.prog 56 #[vx, vx2] w fun v w' => ∃ r0 r1, Q r0 r1 ∧ v = .tuple #[.agg #[I r0.Num, I r0.Den], .bool r1] ∧ Ext w w' := by
  obtain ⟨a1, c, rfl⟩ := r.shape
  obtain ⟨a6, c7, rfl⟩ := r4.shape
  refine enter (args := [.slice a1 (List.length a) c, .slice a6 (List.length b) c7]) 46 Try.func56 rfl rfl rfl ?_
  refine W_forget [(0, .slice a1 (List.length a) c), (1, .slice a6 (List.length b) c7)] ⟨rfl, rfl, trivial⟩ fun ρ => ?_
  have X := But.refl emp w
  refine W_seq ?_
  refine W_region ?_
  refine LP_alloc 0 rfl rfl rfl ti_34 rfl fun b8 wx x ex9 f => ?_
  refine LP_ev ok 1 [(5, .bool false)] 2 rfl rfl ?_
  refine LP_end _ rfl ?_
  refine W_seq ?_
  obtain ⟨k, hk, H⟩ := jn_elim H
  refine W_join2 (S := Bool) (fun s ρ' w' => k s ∧ ∃ (ρ : Env), ρ' = setAll [(0, .slice a1 (List.length a) c), (1, .slice a6 (List.length b) c7), (4, .pointer (some ⟨b8, 0, none⟩)), (23, .bool s)] ρ ∧ But emp w w' ∧ Sub hx w' ∧ Sub hx3 w' ∧ Sub (bx b8 34 [I 0, I 0]) w') ?_ ?_
  · refine W_region ?_
    refine LP_ev ok 0 [(9, .slice a1 (List.length a) c)] 1 rfl rfl ?_
    have ex17 := (ex.ext x)
    refine LP_call 1 rfl rfl rfl cal_92 rfl (impl_areCounts_w _ _ H wx r ex17) ?_
    rintro _ wx18 ⟨r16, H, rfl, x19⟩
    refine LP_ev ok 2 [(11, .bool (!r16)), (12, .bool (!r16))] 4 rfl rfl ?_
    refine LP_split 12 (!r16) rfl (fun hc => ?_) (fun hc => ?_)
    · have H := H.1 hc
      refine LP_ev ok 4 [(13, undef), (14, undef), (15, undef), (16, .bool true), (17, .bool true), (18, undef), (19, undef), (20, undef), (21, undef), (22, undef), (23, .bool true)] 15 rfl rfl ?_
      refine LP_end _ rfl ?_
      have X20 := ((X.stepx x).stepx x19)
      have ex21 := (ex17.ext x19)
      have ex22 := ((ex5.ext x).ext x19)
      have ex23 := (ex9.ext x19)
      exact ⟨true, H, _, env_eq ⟨rfl, rfl, rfl, rfl, trivial⟩, X20, ex21, ex22, ex23⟩
    have H := H.2 hc
    refine LP_ev ok 4 [(13, .slice a6 (List.length b) c7)] 5 rfl rfl ?_
    have ex25 := ((ex5.ext x).ext x19)
    refine LP_call 5 rfl rfl rfl cal_92 rfl (impl_areCounts_w _ _ H wx18 r4 ex25) ?_
    rintro _ wx26 ⟨r24, H, rfl, x27⟩
    refine LP_ev ok 6 [(15, .bool (!r24)), (16, .bool (!r24)), (17, .bool (!r24))] 9 rfl rfl ?_
    refine LP_split 17 (!r24) rfl (fun hc28 => ?_) (fun hc28 => ?_)
    · have H := H.1 hc28
      refine LP_ev ok 9 [(18, undef), (19, undef), (20, undef), (21, undef), (22, undef), (23, .bool true)] 15 rfl rfl ?_
      refine LP_end _ rfl ?_
      have X29 := (((X.stepx x).stepx x19).stepx x27)
      have ex30 := ((ex17.ext x19).ext x27)
      have ex31 := (ex25.ext x27)
      have ex32 := ((ex9.ext x19).ext x27)
      exact ⟨true, H, _, env_eq ⟨rfl, rfl, rfl, rfl, trivial⟩, X29, ex30, ex31, ex32⟩
    have H := H.2 hc28
    refine LP_ev ok 9 [(18, .slice a1 (List.length a) c), (19, I (ln a)), (20, .slice a6 (List.length b) c7), (21, I (ln b)), (22, .bool ((ln a) != (ln b))), (23, .bool ((ln a) != (ln b)))] 15 rfl rfl ?_
    refine LP_end _ rfl ?_
    have X33 := (((X.stepx x).stepx x19).stepx x27)
    have ex34 := ((ex17.ext x19).ext x27)
    have ex35 := (ex25.ext x27)
    have ex36 := ((ex9.ext x19).ext x27)
    exact ⟨(ln a) != (ln b), H, _, env_eq ⟨rfl, rfl, rfl, rfl, trivial⟩, X33, ex34, ex35, ex36⟩
  rintro x10 _ wx11 ⟨H, ρ, rfl, X15, ex12, ex13, ex14⟩
  subst hk
  refine W_cond (x10) rfl (fun hc37 => ?_) (fun hc37 => ?_)
  · have H := H.1 hc37
    refine W_seq ?_
    refine W_region ?_
    refine LP_ev ok 0 [(24, .agg #[I 0, I 0])] 1 rfl rfl ?_
    refine LP_stbox 1 (vs := [I 0, I 0]) (cs' := [I 0, I 0]) rfl rfl rfl ti_34 rfl rfl rfl rfl rfl ex14 rfl rfl fun wx38 ex39 y => ?_
    refine LP_ev ok 2 [(5, .bool false)] 3 rfl rfl ?_
    refine LP_end _ rfl ?_
    refine W_ret ?_
    have f40 := f.mono X.size
    have X41 := (X15.step y (f40.dom _))
    exact ⟨_, Ret_of [.agg #[I 0, I 0], .bool false] ⟨⟨_, rfl, rfl, ld_res ti_34 ag_34 (fun h => by cases h) ex39 rfl rfl⟩, ⟨rfl, rfl⟩, trivial⟩, _, _, H, rfl, X41.ext⟩
  have H := H.2 hc37
  refine W_skip ?_
  refine W_seq ?_
  refine W_region ?_
  refine LP_ev ok 0 [(26, .slice a1 (List.length a) c)] 1 rfl rfl ?_
  refine LP_call 1 rfl rfl rfl cal_110 rfl (impl_sharesOf_w _ _ H wx11 r ex12) ?_
  rintro _ wx44 ⟨r42, r43, vx46, hx47, H, rfl, x45, o, ex48, f49⟩
  obtain ⟨a50, c51, rfl⟩ := o.shape
  refine LP_ev ok 2 [(25, .tuple #[.slice a50 (List.length r42) c51, .bool r43]), (28, .slice a50 (List.length r42) c51), (29, .bool r43), (6, .slice a50 (List.length r42) c51), (7, .bool r43)] 7 rfl rfl ?_
  refine LP_end _ rfl ?_
  refine W_seq ?_
  refine W_seq ?_
  refine W_region ?_
  refine LP_ev ok 0 [(30, .bool r43), (31, .bool (!r43))] 2 rfl rfl ?_
  refine LP_end _ rfl ?_
  refine W_cond (!r43) rfl (fun hc52 => ?_) (fun hc52 => ?_)
  · have H := H.1 hc52
    refine W_seq ?_
    refine W_region ?_
    refine LP_ev ok 0 [(32, .agg #[I 0, I 0])] 1 rfl rfl ?_
    have ex56 := (ex14.ext x45)
    refine LP_stbox 1 (vs := [I 0, I 0]) (cs' := [I 0, I 0]) rfl rfl rfl ti_34 rfl rfl rfl rfl rfl ex56 rfl rfl fun wx53 ex54 y55 => ?_
    refine LP_ev ok 2 [(5, .bool false)] 3 rfl rfl ?_
    refine LP_end _ rfl ?_
    refine W_ret ?_
    have f57 := f.mono X.size
    have X58 := ((X15.stepx x45).step y55 (f57.dom _))
    exact ⟨_, Ret_of [.agg #[I 0, I 0], .bool false] ⟨⟨_, rfl, rfl, ld_res ti_34 ag_34 (fun h => by cases h) ex54 rfl rfl⟩, ⟨rfl, rfl⟩, trivial⟩, _, _, H, rfl, X58.ext⟩
  have H := H.2 hc52
  refine W_skip ?_
  refine W_seq ?_
  refine W_region ?_
  refine LP_ev ok 0 [(34, .slice a6 (List.length b) c7)] 1 rfl rfl ?_
  have ex61 := (ex13.ext x45)
  refine LP_call 1 rfl rfl rfl cal_110 rfl (impl_sharesOf_w _ _ H wx44 r4 ex61) ?_
  rintro _ wx62 ⟨r59, r60, vx64, hx65, H, rfl, x63, o66, ex67, f68⟩
  obtain ⟨a69, c70, rfl⟩ := o66.shape
  refine LP_ev ok 2 [(33, .tuple #[.slice a69 (List.length r59) c70, .bool r60]), (36, .slice a69 (List.length r59) c70), (37, .bool r60), (8, .slice a69 (List.length r59) c70), (7, .bool r60)] 7 rfl rfl ?_
  refine LP_end _ rfl ?_
  refine W_seq ?_
  refine W_seq ?_
  refine W_region ?_
  refine LP_ev ok 0 [(38, .bool r60), (39, .bool (!r60))] 2 rfl rfl ?_
  refine LP_end _ rfl ?_
  refine W_cond (!r60) rfl (fun hc71 => ?_) (fun hc71 => ?_)
  · have H := H.1 hc71
    refine W_seq ?_
    refine W_region ?_
    refine LP_ev ok 0 [(40, .agg #[I 0, I 0])] 1 rfl rfl ?_
    have ex75 := ((ex14.ext x45).ext x63)
    refine LP_stbox 1 (vs := [I 0, I 0]) (cs' := [I 0, I 0]) rfl rfl rfl ti_34 rfl rfl rfl rfl rfl ex75 rfl rfl fun wx72 ex73 y74 => ?_
    refine LP_ev ok 2 [(5, .bool false)] 3 rfl rfl ?_
    refine LP_end _ rfl ?_
    refine W_ret ?_
    have f76 := f.mono X.size
    have X77 := (((X15.stepx x45).stepx x63).step y74 (f76.dom _))
    exact ⟨_, Ret_of [.agg #[I 0, I 0], .bool false] ⟨⟨_, rfl, rfl, ld_res ti_34 ag_34 (fun h => by cases h) ex73 rfl rfl⟩, ⟨rfl, rfl⟩, trivial⟩, _, _, H, rfl, X77.ext⟩
  have H := H.2 hc71
  refine W_skip ?_
  refine W_seq ?_
  refine W_region ?_
  refine LP_ev ok 0 [(41, .slice a50 (List.length r42) c51), (42, .slice a69 (List.length r59) c70)] 2 rfl rfl ?_
  have ex80 := (ex48.ext x63)
  refine LP_call 2 rfl rfl rfl cal_117 rfl (impl_halfDistance_w _ _ _ H wx62 o.readf ex80 o66.readf ex67) ?_
  rintro _ wx81 ⟨r78, r79, H, rfl, x82⟩
  refine LP_ev ok 3 [(44, .agg #[I r78.Num, I r78.Den]), (45, .bool r79)] 5 rfl rfl ?_
  have ex86 := (((ex14.ext x45).ext x63).ext x82)
  refine LP_stbox 5 (vs := [I r78.Num, I r78.Den]) (cs' := [I r78.Num, I r78.Den]) rfl rfl rfl ti_34 rfl rfl rfl rfl rfl ex86 rfl rfl fun wx83 ex84 y85 => ?_
  refine LP_ev ok 6 [(5, .bool r79)] 7 rfl rfl ?_
  refine LP_end _ rfl ?_
  try refine W_forget [(4, .pointer (some ⟨b8, 0, none⟩)), (5, .bool r79)] ⟨rfl, rfl, trivial⟩ fun ρ => ?_
  refine W_ret ?_
  have f87 := f.mono X.size
  have X88 := ((((X15.stepx x45).stepx x63).stepx x82).step y85 (f87.dom _))
  exact ⟨_, Ret_of [.agg #[I r78.Num, I r78.Den], .bool r79] ⟨⟨_, rfl, rfl, ld_res ti_34 ag_34 (fun h => by cases h) ex84 rfl rfl⟩, ⟨rfl, rfl⟩, trivial⟩, _, _, H, rfl, X88.ext⟩

set_option maxRecDepth 8000 in
set_option maxHeartbeats 4000000 in
theorem laws_FnExactDissimilarityOf_w (aA : List Int) (aB : List Int) (Q : Bool → Prop) (H : laws_FnExactDissimilarityOf aA aB Q) (w : World) {vx : Value} {hx : PH} (r : RS hx vx aA) (ex : Sub hx w) {vx1 : Value} {hx2 : PH} (r3 : RS hx2 vx1 aB) (ex4 : Sub hx2 w) :
    CallsTo Try.prog 13 #[vx, vx1] w fun v w' => ∃ r0, Q r0 ∧ v = .bool r0 ∧ Ext w w' := by
  obtain ⟨a, c, rfl⟩ := r.shape
  obtain ⟨a5, c6, rfl⟩ := r3.shape
  refine enter (args := [.slice a (List.length aA) c, .slice a5 (List.length aB) c6]) 54 Try.func13 rfl rfl rfl ?_
  refine W_forget [(0, .slice a (List.length aA) c), (1, .slice a5 (List.length aB) c6)] ⟨rfl, rfl, trivial⟩ fun ρ => ?_
  have X := But.refl emp w
  refine W_seq ?_
  refine W_region ?_
  refine LP_ev ok 0 [(4, .bool false)] 1 rfl rfl ?_
  refine LP_end _ rfl ?_
  refine W_seq ?_
  refine W_seq ?_
  refine W_region ?_
  refine LP_ev ok 0 [(11, .slice a (List.length aA) c), (12, I (ln aA)), (13, .bool (decide ((ln aA) > 1048576)))] 3 rfl rfl ?_
  refine LP_end _ rfl ?_
  refine W_cond (decide ((ln aA) > 1048576)) rfl (fun hc => ?_) (fun hc => ?_)
  · have H := H.1 hc
    refine W_seq ?_
    refine W_region ?_
    refine LP_ev ok 0 [(4, .bool true)] 1 rfl rfl ?_
    refine LP_end _ rfl ?_
    refine W_ret ?_
    exact ⟨_, Ret_of [.bool true] ⟨⟨rfl, rfl⟩, trivial⟩, _, H, rfl, X.ext⟩
  have H := H.2 hc
  refine W_skip ?_
  refine W_seq ?_
  refine W_seq ?_
  refine W_region ?_
  refine LP_ev ok 0 [(14, .slice a5 (List.length aB) c6), (15, I (ln aB)), (16, .bool (decide ((ln aB) > 1048576)))] 3 rfl rfl ?_
  refine LP_end _ rfl ?_
  refine W_cond (decide ((ln aB) > 1048576)) rfl (fun hc7 => ?_) (fun hc7 => ?_)
  · have H := H.1 hc7
    refine W_seq ?_
    refine W_region ?_
    refine LP_ev ok 0 [(4, .bool true)] 1 rfl rfl ?_
    refine LP_end _ rfl ?_
    refine W_ret ?_
    exact ⟨_, Ret_of [.bool true] ⟨⟨rfl, rfl⟩, trivial⟩, _, H, rfl, X.ext⟩
  have H := H.2 hc7
  refine W_skip ?_
  refine W_seq ?_
  refine W_region ?_
  refine LP_ev ok 0 [(18, .slice a (List.length aA) c)] 1 rfl rfl ?_
  refine LP_call 1 rfl rfl rfl cal_26 rfl (laws_toIntS_w _ _ H w r ex) ?_
  rintro _ wx ⟨r8, vx9, hx10, H, rfl, x, o, ex11, f⟩
  obtain ⟨a12, c13, rfl⟩ := o.shape
  refine LP_ev ok 2 [(20, .slice a5 (List.length aB) c6)] 3 rfl rfl ?_
  have ex15 := (ex4.ext x)
  refine LP_call 3 rfl rfl rfl cal_26 rfl (laws_toIntS_w _ _ H wx r3 ex15) ?_
  rintro _ wx16 ⟨r14, vx18, hx19, H, rfl, x17, o20, ex21, f22⟩
  obtain ⟨a23, c24, rfl⟩ := o20.shape
  have ex27 := (ex11.ext x17)
  refine LP_call 4 rfl rfl rfl cal_55 rfl (spec_DissimilarityOf_w _ _ _ H wx16 o.readf ex27 o20.readf ex21) ?_
  rintro _ wx28 ⟨r25, r26, H, rfl, x29⟩
  refine LP_ev ok 5 [(17, .tuple #[.agg #[I r25.Num, I r25.Den], .bool r26]), (23, .agg #[I r25.Num, I r25.Den]), (24, .bool r26)] 8 rfl rfl ?_
  refine LP_alloc 8 rfl rfl rfl ti_34 rfl fun b wx30 x31 ex32 f33 => ?_
  refine LP_stbox 9 (vs := [I r25.Num, I r25.Den]) (cs' := [I r25.Num, I r25.Den]) rfl rfl rfl ti_34 rfl rfl rfl rfl rfl ex32 rfl rfl fun wx34 ex35 y => ?_
  refine LP_ev ok 10 [(6, .bool r26)] 11 rfl rfl ?_
  refine LP_end _ rfl ?_
  refine W_seq ?_
  refine W_region ?_
  refine LP_ev ok 0 [(25, .slice a (List.length aA) c)] 1 rfl rfl ?_
  have ex37 := (((ex.ext x).ext x17).ext x29)
  have ex38 := (((((ex.ext x).ext x17).ext x29).ext x31).but y (Dj.of_fresh ex37 f33).symm)
  refine LP_call 1 rfl rfl rfl cal_26 rfl (laws_toIntS_w _ _ H wx34 r ex38) ?_
  rintro _ wx39 ⟨r36, vx41, hx42, H, rfl, x40, o43, ex44, f45⟩
  obtain ⟨a46, c47, rfl⟩ := o43.shape
  refine LP_ev ok 2 [(7, .slice a46 (List.length r36) c47)] 3 rfl rfl ?_
  refine LP_end _ rfl ?_
  refine W_seq ?_
  refine W_region ?_
  refine LP_ev ok 0 [(27, .slice a5 (List.length aB) c6)] 1 rfl rfl ?_
  have ex49 := ((ex15.ext x17).ext x29)
  have ex50 := (((((ex15.ext x17).ext x29).ext x31).but y (Dj.of_fresh ex49 f33).symm).ext x40)
  refine LP_call 1 rfl rfl rfl cal_26 rfl (laws_toIntS_w _ _ H wx39 r3 ex50) ?_
  rintro _ wx51 ⟨r48, vx53, hx54, H, rfl, x52, o55, ex56, f57⟩
  obtain ⟨a58, c59, rfl⟩ := o55.shape
  refine LP_ev ok 2 [(8, .slice a58 (List.length r48) c59)] 3 rfl rfl ?_
  refine LP_end _ rfl ?_
  refine W_seq ?_
  refine W_region ?_
  refine LP_ev ok 0 [(30, .slice a46 (List.length r36) c47), (31, .slice a58 (List.length r48) c59)] 2 rfl rfl ?_
  have ex62 := (ex44.ext x52)
  refine LP_call 2 rfl rfl rfl cal_56 rfl (impl_DissimilarityOf_w _ _ _ H wx51 o43.readf ex62 o55.readf ex56) ?_
  rintro _ wx63 ⟨r60, r61, H, rfl, x64⟩
  refine LP_ev ok 3 [(29, .tuple #[.agg #[I r60.Num, I r60.Den], .bool r61]), (33, .agg #[I r60.Num, I r60.Den]), (34, .bool r61)] 6 rfl rfl ?_
  refine LP_alloc 6 rfl rfl rfl ti_34 rfl fun b65 wx66 x67 ex68 f69 => ?_
  refine LP_stbox 7 (vs := [I r60.Num, I r60.Den]) (cs' := [I r60.Num, I r60.Den]) rfl rfl rfl ti_34 rfl rfl rfl rfl rfl ex68 rfl rfl fun wx70 ex71 y72 => ?_
  refine LP_ev ok 8 [(10, .bool r61)] 9 rfl rfl ?_
  refine LP_end _ rfl ?_
  try refine W_forget [(0, .slice a (List.length aA) c), (1, .slice a5 (List.length aB) c6), (5, .pointer (some ⟨b, 0, none⟩)), (6, .bool r26), (7, .slice a46 (List.length r36) c47), (8, .slice a58 (List.length r48) c59), (9, .pointer (some ⟨b65, 0, none⟩)), (10, .bool r61)] ⟨rfl, rfl, rfl, rfl, rfl, rfl, rfl, rfl, trivial⟩ fun ρ => ?_
  refine W_seq ?_
  obtain ⟨k, hk, H⟩ := jn_elim H
  refine W_join2 (S := Bool) (fun s ρ' w' => k s ∧ ∃ (ρ : Env), ρ' = setAll [(0, .slice a (List.length aA) c), (1, .slice a5 (List.length aB) c6), (7, .slice a46 (List.length r36) c47), (8, .slice a58 (List.length r48) c59), (43, .bool s)] ρ ∧ But emp w w' ∧ Sub hx w' ∧ Sub hx2 w' ∧ Sub hx42 w' ∧ Sub hx54 w') ?_ ?_
  · refine W_region ?_
    refine LP_ldbox 0 (v := .agg #[I r60.Num, I r60.Den]) rfl rfl rfl ti_34 ag_34 (fun h => by cases h) rfl ex71 rfl rfl ?_
    have ex80 := (((ex35.ext x40).ext x52).ext x64)
    have ex81 := (((((ex35.ext x40).ext x52).ext x64).ext x67).but y72 (Dj.of_fresh ex80 f69).symm)
    refine LP_ldbox 1 (v := .agg #[I r25.Num, I r25.Den]) rfl rfl rfl ti_34 ag_34 (fun h => by cases h) rfl ex81 rfl rfl ?_
    refine LP_call 2 rfl rfl rfl cal_32 rfl (laws_eqFrac_w _ _ _ H wx70 ) ?_
    rintro _ wx83 ⟨r82, H, rfl, x84⟩
    refine LP_ev ok 3 [(38, .bool (!r82)), (39, .bool (!r82))] 5 rfl rfl ?_
    refine LP_split 39 (!r82) rfl (fun hc85 => ?_) (fun hc85 => ?_)
    · have H := H.1 hc85
      refine LP_ev ok 5 [(40, undef), (41, undef), (42, undef), (43, .bool true)] 9 rfl rfl ?_
      refine LP_end _ rfl ?_
      have X87 := (((X.stepx x).stepx x17).stepx x29)
      have f86 := f33.mono X87.size
      have X89 := (((((X87.stepx x31).step y (f86.dom _)).stepx x40).stepx x52).stepx x64)
      have f88 := f69.mono X89.size
      have X90 := (((((((((((X.stepx x).stepx x17).stepx x29).stepx x31).step y (f86.dom _)).stepx x40).stepx x52).stepx x64).stepx x67).step y72 (f88.dom _)).stepx x84)
      have ex91 := (((ex38.ext x40).ext x52).ext x64)
      have ex92 := ((((((ex38.ext x40).ext x52).ext x64).ext x67).but y72 (Dj.of_fresh ex91 f69).symm).ext x84)
      have ex93 := ((ex50.ext x52).ext x64)
      have ex94 := (((((ex50.ext x52).ext x64).ext x67).but y72 (Dj.of_fresh ex93 f69).symm).ext x84)
      have ex95 := (ex62.ext x64)
      have ex96 := ((((ex62.ext x64).ext x67).but y72 (Dj.of_fresh ex95 f69).symm).ext x84)
      have ex97 := (ex56.ext x64)
      have ex98 := ((((ex56.ext x64).ext x67).but y72 (Dj.of_fresh ex97 f69).symm).ext x84)
      exact ⟨true, H, _, env_eq ⟨rfl, rfl, rfl, rfl, rfl, trivial⟩, X90, ex92, ex94, ex96, ex98⟩
    have H := H.2 hc85
    refine LP_ev ok 5 [(40, .bool r61), (41, .bool r26), (42, .bool (r61 != r26)), (43, .bool (r61 != r26))] 9 rfl rfl ?_
    refine LP_end _ rfl ?_
    have X100 := (((X.stepx x).stepx x17).stepx x29)
    have f99 := f33.mono X100.size
    have X102 := (((((X100.stepx x31).step y (f99.dom _)).stepx x40).stepx x52).stepx x64)
    have f101 := f69.mono X102.size
    have X103 := (((((((((((X.stepx x).stepx x17).stepx x29).stepx x31).step y (f99.dom _)).stepx x40).stepx x52).stepx x64).stepx x67).step y72 (f101.dom _)).stepx x84)
    have ex104 := (((ex38.ext x40).ext x52).ext x64)
    have ex105 := ((((((ex38.ext x40).ext x52).ext x64).ext x67).but y72 (Dj.of_fresh ex104 f69).symm).ext x84)
    have ex106 := ((ex50.ext x52).ext x64)
    have ex107 := (((((ex50.ext x52).ext x64).ext x67).but y72 (Dj.of_fresh ex106 f69).symm).ext x84)
    have ex108 := (ex62.ext x64)
    have ex109 := ((((ex62.ext x64).ext x67).but y72 (Dj.of_fresh ex108 f69).symm).ext x84)
    have ex110 := (ex56.ext x64)
    have ex111 := ((((ex56.ext x64).ext x67).but y72 (Dj.of_fresh ex110 f69).symm).ext x84)
    exact ⟨r61 != r26, H, _, env_eq ⟨rfl, rfl, rfl, rfl, rfl, trivial⟩, X103, ex105, ex107, ex109, ex111⟩
  rintro x73 _ wx74 ⟨H, ρ, rfl, X79, ex75, ex76, ex77, ex78⟩
  subst hk
  refine W_cond (x73) rfl (fun hc112 => ?_) (fun hc112 => ?_)
  · have H := H.1 hc112
    refine W_seq ?_
    refine W_region ?_
    refine LP_ev ok 0 [(4, .bool false)] 1 rfl rfl ?_
    refine LP_end _ rfl ?_
    refine W_ret ?_
    exact ⟨_, Ret_of [.bool false] ⟨⟨rfl, rfl⟩, trivial⟩, _, H, rfl, X79.ext⟩
  have H := H.2 hc112
  refine W_skip ?_
  refine W_seq ?_
  refine W_seq ?_
  refine W_region ?_
  refine LP_ev ok 0 [(44, .slice a46 (List.length r36) c47), (45, .slice a (List.length aA) c)] 2 rfl rfl ?_
  refine LP_call 2 rfl rfl rfl cal_26 rfl (laws_toIntS_w _ _ H wx74 r ex75) ?_
  rintro _ wx114 ⟨r113, vx116, hx117, H, rfl, x115, o118, ex119, f120⟩
  obtain ⟨a121, c122, rfl⟩ := o118.shape
  have ex124 := (ex77.ext x115)
  refine LP_call 3 rfl rfl rfl cal_22 rfl (laws_eqIntS_w _ _ _ H wx114 o43.readf ex124 o118.readf ex119) ?_
  rintro _ wx125 ⟨r123, H, rfl, x126⟩
  refine LP_ev ok 4 [(48, .bool (!r123))] 5 rfl rfl ?_
  refine LP_end _ rfl ?_
  refine W_cond (!r123) rfl (fun hc127 => ?_) (fun hc127 => ?_)
  · have H := H.1 hc127
    refine W_seq ?_
    refine W_region ?_
    refine LP_ev ok 0 [(4, .bool false)] 1 rfl rfl ?_
    refine LP_end _ rfl ?_
    refine W_ret ?_
    have X128 := ((X79.stepx x115).stepx x126)
    exact ⟨_, Ret_of [.bool false] ⟨⟨rfl, rfl⟩, trivial⟩, _, H, rfl, X128.ext⟩
  have H := H.2 hc127
  refine W_skip ?_
  refine W_seq ?_
  refine W_seq ?_
  refine W_region ?_
  refine LP_ev ok 0 [(49, .slice a58 (List.length r48) c59), (50, .slice a5 (List.length aB) c6)] 2 rfl rfl ?_
  have ex130 := ((ex76.ext x115).ext x126)
  refine LP_call 2 rfl rfl rfl cal_26 rfl (laws_toIntS_w _ _ H wx125 r3 ex130) ?_
  rintro _ wx131 ⟨r129, vx133, hx134, H, rfl, x132, o135, ex136, f137⟩
  obtain ⟨a138, c139, rfl⟩ := o135.shape
  have ex141 := (((ex78.ext x115).ext x126).ext x132)
  refine LP_call 3 rfl rfl rfl cal_22 rfl (laws_eqIntS_w _ _ _ H wx131 o55.readf ex141 o135.readf ex136) ?_
  rintro _ wx142 ⟨r140, H, rfl, x143⟩
  refine LP_ev ok 4 [(53, .bool (!r140))] 5 rfl rfl ?_
  refine LP_end _ rfl ?_
  refine W_cond (!r140) rfl (fun hc144 => ?_) (fun hc144 => ?_)
  · have H := H.1 hc144
    refine W_seq ?_
    refine W_region ?_
    refine LP_ev ok 0 [(4, .bool false)] 1 rfl rfl ?_
    refine LP_end _ rfl ?_
    refine W_ret ?_
    have X145 := ((((X79.stepx x115).stepx x126).stepx x132).stepx x143)
    exact ⟨_, Ret_of [.bool false] ⟨⟨rfl, rfl⟩, trivial⟩, _, H, rfl, X145.ext⟩
  have H := H.2 hc144
  refine W_skip ?_
  refine W_seq ?_
  refine W_region ?_
  refine LP_ev ok 0 [(4, .bool true)] 1 rfl rfl ?_
  refine LP_end _ rfl ?_
  refine W_ret ?_
  have X146 := ((((X79.stepx x115).stepx x126).stepx x132).stepx x143)
  exact ⟨_, Ret_of [.bool true] ⟨⟨rfl, rfl⟩, trivial⟩, _, H, rfl, X146.ext⟩

set_option maxRecDepth 8000 in
set_option maxHeartbeats 4000000 in
theorem spec_l1Cur_next_w (c : L1Cur) (Q : Int → Int → Int → Prop) (H : spec_l1Cur_next c Q) (w : World) {vx : Value} {hx : PH} (r : RS hx vx c.Code) (ex : Sub hx w) {b : Nat} (ex2 : Sub (bx b 114 [vx, I c.At, .int .u64 c.Seed]) w) (d : Dj (bx b 114 [vx, I c.At, .int .u64 c.Seed]) hx) :
    CallsTo Try.prog 153 #[.pointer (some ⟨b, 0, none⟩)] w fun v w' => ∃ r0 m0_1 m0_2, Q r0 m0_1 m0_2 ∧ v = I r0 ∧ But (bx b 114 [vx, I c.At, .int .u64 c.Seed]) w w' ∧ Sub (bx b 114 [vx, I m0_1, .int .u64 m0_2]) w' := by
  obtain ⟨a, c1, rfl⟩ := r.shape
  refine enter (args := [.pointer (some ⟨b, 0, none⟩)]) 62 Try.func153 rfl rfl rfl ?_
  refine W_forget [(0, .pointer (some ⟨b, 0, none⟩))] ⟨rfl, trivial⟩ fun ρ => ?_
  have X := But.refl (bx b 114 [.slice a (List.length c.Code) c1, I c.At, .int .u64 c.Seed]) w
  refine W_seq ?_
  refine W_region ?_
  refine LP_ev ok 0 [(2, I 0)] 1 rfl rfl ?_
  refine LP_end _ rfl ?_
  refine W_seq ?_
  refine W_region ?_
  refine LP_ev ok 0 [(3, I 0)] 1 rfl rfl ?_
  refine LP_end _ rfl ?_
  obtain ⟨k, hk, H⟩ := jn_elim H
  refine W_join2 (S := Int) (fun s ρ' w' => k s ∧ ∃ (ρ : Env), ρ' = setAll [(0, .pointer (some ⟨b, 0, none⟩)), (3, I s)] ρ ∧ But (bx b 114 [.slice a (List.length c.Code) c1, I c.At, .int .u64 c.Seed]) w w' ∧ Sub (bx b 114 [.slice a (List.length c.Code) c1, I c.At, .int .u64 c.Seed]) w') ?_ ?_
  · refine W_seq ?_
    refine W_quiet mix (by kernel_rfl) ?_
    refine QP_ev ok 0 [(4, .pointer (some ⟨b, 0, none⟩)), (5, .pointer (some ⟨b, 0, none⟩)), (6, .pointer (some ⟨b, 1, none⟩))] 3 rfl rfl ?_
    refine QP_ldbox 3 (v := I c.At) rfl rfl rfl ti_3 ag_3 (fun _ => rfl) rfl ex2 rfl rfl ?_
    refine QP_ev ok 4 [(8, .pointer (some ⟨b, 0, none⟩)), (9, .pointer (some ⟨b, 0, none⟩)), (10, .pointer (some ⟨b, 0, none⟩))] 7 rfl rfl ?_
    refine QP_ldbox 7 (v := .slice a (List.length c.Code) c1) rfl rfl rfl ti_71 ag_71 (fun _ => rfl) rfl ex2 rfl rfl ?_
    refine QP_ev ok 8 [(12, I (ln c.Code)), (13, .bool (decide (c.At < (ln c.Code))))] 10 rfl rfl ?_
    refine QP_end _ rfl fun wx6 x => ?_
    refine W_cond (decide (c.At < (ln c.Code))) rfl (fun hc => ?_) (fun hc => ?_)
    · have H := H.1 hc
      refine W_quiet mix (by kernel_rfl) ?_
      refine QP_ev ok 0 [(14, .pointer (some ⟨b, 0, none⟩)), (15, .pointer (some ⟨b, 0, none⟩)), (16, .pointer (some ⟨b, 0, none⟩))] 3 rfl rfl ?_
      have ex7 := (ex2.ext x)
      refine QP_ldbox 3 (v := .slice a (List.length c.Code) c1) rfl rfl rfl ti_71 ag_71 (fun _ => rfl) rfl ex7 rfl rfl ?_
      refine QP_ev ok 4 [(18, .pointer (some ⟨b, 0, none⟩)), (19, .pointer (some ⟨b, 0, none⟩)), (20, .pointer (some ⟨b, 1, none⟩))] 7 rfl rfl ?_
      refine QP_ldbox 7 (v := I c.At) rfl rfl rfl ti_3 ag_3 (fun _ => rfl) rfl ex7 rfl rfl ?_
      obtain ⟨x8, hi, hx9, H⟩ := H
      refine QP_index 8 rfl rfl rfl Try.underlying71 ti_5 rfl rfl r hi hx9 fun a10 cs r11 d12 => ?_
      have ex13 := (ex.ext x)
      refine QP_load 9 rfl rfl rfl ti_5 ag_5 rfl r11 d12 ex13 fun vx14 r15 => ?_
      obtain rfl := r15.b8
      refine QP_ev ok 10 [(24, I (wr (x8.v))), (3, I (wr (x8.v)))] 12 rfl rfl ?_
      refine QP_end _ rfl fun wx16 x17 => ?_
      have X18 := ((X.stepx x).stepx x17)
      have ex19 := (ex7.ext x17)
      exact ⟨wr (x8.v), H, _, env_eq ⟨rfl, rfl, trivial⟩, X18, ex19⟩
    have H := H.2 hc
    refine W_skip ?_
    have X20 := (X.stepx x)
    have ex21 := (ex2.ext x)
    exact ⟨0, H, _, env_eq ⟨rfl, rfl, trivial⟩, X20, ex21⟩
  rintro b3 _ wx ⟨H, ρ, rfl, X5, ex4⟩
  subst hk
  refine W_seq ?_
  refine W_region ?_
  refine LP_ev ok 0 [(25, .pointer (some ⟨b, 0, none⟩)), (26, .pointer (some ⟨b, 0, none⟩)), (27, .pointer (some ⟨b, 1, none⟩))] 3 rfl rfl ?_
  refine LP_ldbox 3 (v := I c.At) rfl rfl rfl ti_3 ag_3 (fun _ => rfl) rfl ex4 rfl rfl ?_
  refine LP_ev ok 4 [(29, I (wr (c.At + 1))), (30, .pointer (some ⟨b, 0, none⟩)), (31, .pointer (some ⟨b, 1, none⟩))] 7 rfl rfl ?_
  refine LP_stbox 7 (vs := [I (wr (c.At + 1))]) (cs' := [.slice a (List.length c.Code) c1, I (wr (c.At + 1)), .int .u64 c.Seed]) rfl rfl rfl ti_3 rfl rfl rfl rfl rfl ex4 rfl rfl fun wx22 ex23 y => ?_
  refine LP_end _ rfl ?_
  refine W_seq ?_
  refine W_region ?_
  refine LP_ev ok 0 [(32, .pointer (some ⟨b, 0, none⟩)), (33, .pointer (some ⟨b, 0, none⟩)), (34, .pointer (some ⟨b, 0, none⟩)), (35, .pointer (some ⟨b, 2, none⟩))] 4 rfl rfl ?_
  refine LP_ldbox 4 (v := .int .u64 c.Seed) rfl rfl rfl ti_112 ag_112 (fun _ => rfl) rfl ex23 rfl rfl ?_
  refine LP_ev ok 5 [(37, .int .u64 (IntKind.u64.wrap (c.Seed * 6364136223846793005))), (38, I b3), (39, .int .u64 (IntKind.u64.wrap (b3))), (40, .int .u64 (IntKind.u64.wrap ((IntKind.u64.wrap (c.Seed * 6364136223846793005)) + (IntKind.u64.wrap (b3))))), (41, .int .u64 (IntKind.u64.wrap ((IntKind.u64.wrap ((IntKind.u64.wrap (c.Seed * 6364136223846793005)) + (IntKind.u64.wrap (b3)))) + 1442695040888963407))), (42, .pointer (some ⟨b, 0, none⟩)), (43, .pointer (some ⟨b, 2, none⟩))] 12 rfl rfl ?_
  refine LP_stbox 12 (vs := [.int .u64 (IntKind.u64.wrap ((IntKind.u64.wrap ((IntKind.u64.wrap (c.Seed * 6364136223846793005)) + (IntKind.u64.wrap (b3)))) + 1442695040888963407))]) (cs' := [.slice a (List.length c.Code) c1, I (wr (c.At + 1)), .int .u64 (IntKind.u64.wrap ((IntKind.u64.wrap ((IntKind.u64.wrap (c.Seed * 6364136223846793005)) + (IntKind.u64.wrap (b3)))) + 1442695040888963407))]) rfl rfl rfl ti_112 rfl rfl rfl rfl rfl ex23 rfl rfl fun wx24 ex25 y26 => ?_
  refine LP_end _ rfl ?_
  refine W_seq ?_
  refine W_seq ?_
  refine W_quiet mix (by kernel_rfl) ?_
  refine QP_ev ok 0 [(44, .pointer (some ⟨b, 0, none⟩)), (45, .pointer (some ⟨b, 0, none⟩)), (46, .pointer (some ⟨b, 1, none⟩))] 3 rfl rfl ?_
  refine QP_ldbox 3 (v := I (wr (c.At + 1))) rfl rfl rfl ti_3 ag_3 (fun _ => rfl) rfl ex25 rfl rfl ?_
  refine QP_ev ok 4 [(48, .pointer (some ⟨b, 0, none⟩)), (49, .pointer (some ⟨b, 0, none⟩)), (50, .pointer (some ⟨b, 0, none⟩))] 7 rfl rfl ?_
  refine QP_ldbox 7 (v := .slice a (List.length c.Code) c1) rfl rfl rfl ti_71 ag_71 (fun _ => rfl) rfl ex25 rfl rfl ?_
  refine QP_ev ok 8 [(52, I (ln c.Code)), (53, .bool (decide ((wr (c.At + 1)) ≤ (ln c.Code))))] 10 rfl rfl ?_
  refine QP_end _ rfl fun wx27 x28 => ?_
  try refine W_forget [(0, .pointer (some ⟨b, 0, none⟩)), (3, I b3), (53, .bool (decide ((wr (c.At + 1)) ≤ (ln c.Code))))] ⟨rfl, rfl, rfl, trivial⟩ fun ρ => ?_
  refine W_cond (decide ((wr (c.At + 1)) ≤ (ln c.Code))) rfl (fun hc29 => ?_) (fun hc29 => ?_)
  · have H := H.1 hc29
    refine W_seq ?_
    refine W_region ?_
    refine LP_ev ok 0 [(54, I b3), (2, I b3)] 2 rfl rfl ?_
    refine LP_end _ rfl ?_
    refine W_ret ?_
    have ex30 := (ex25.ext x28)
    have X31 := (((X5.step y (single_dom : DomLe (bx b 114 [.slice a (List.length c.Code) c1, I c.At, .int .u64 c.Seed]) _ (bx b 114 [.slice a (List.length c.Code) c1, I c.At, .int .u64 c.Seed]))).step y26 (single_dom : DomLe (bx b 114 [.slice a (List.length c.Code) c1, I c.At, .int .u64 c.Seed]) _ (bx b 114 [.slice a (List.length c.Code) c1, I (wr (c.At + 1)), .int .u64 c.Seed]))).stepx x28)
    exact ⟨_, Ret_of [I b3] ⟨⟨rfl, rfl⟩, trivial⟩, _, _, _, H, rfl, X31, ex30⟩
  have H := H.2 hc29
  refine W_skip ?_
  refine W_seq ?_
  refine W_region ?_
  refine LP_ev ok 0 [(55, .pointer (some ⟨b, 0, none⟩)), (56, .pointer (some ⟨b, 0, none⟩)), (57, .pointer (some ⟨b, 2, none⟩))] 3 rfl rfl ?_
  have ex32 := (ex25.ext x28)
  refine LP_ldbox 3 (v := .int .u64 (IntKind.u64.wrap ((IntKind.u64.wrap ((IntKind.u64.wrap (c.Seed * 6364136223846793005)) + (IntKind.u64.wrap (b3)))) + 1442695040888963407))) rfl rfl rfl ti_112 ag_112 (fun _ => rfl) rfl ex32 rfl rfl ?_
  refine LP_ev ok 4 [(59, .int .u64 (Int.fdiv (IntKind.u64.wrap ((IntKind.u64.wrap ((IntKind.u64.wrap (c.Seed * 6364136223846793005)) + (IntKind.u64.wrap (b3)))) + 1442695040888963407)) (2 ^ 40))), (60, .int .u64 (bits .and .u64 (Int.fdiv (IntKind.u64.wrap ((IntKind.u64.wrap ((IntKind.u64.wrap (c.Seed * 6364136223846793005)) + (IntKind.u64.wrap (b3)))) + 1442695040888963407)) (2 ^ 40)) 255)), (61, I (wr (bits .and .u64 (Int.fdiv (IntKind.u64.wrap ((IntKind.u64.wrap ((IntKind.u64.wrap (c.Seed * 6364136223846793005)) + (IntKind.u64.wrap (b3)))) + 1442695040888963407)) (2 ^ 40)) 255))), (2, I (wr (bits .and .u64 (Int.fdiv (IntKind.u64.wrap ((IntKind.u64.wrap ((IntKind.u64.wrap (c.Seed * 6364136223846793005)) + (IntKind.u64.wrap (b3)))) + 1442695040888963407)) (2 ^ 40)) 255)))] 8 rfl rfl ?_
  refine LP_end _ rfl ?_
  refine W_ret ?_
  have X33 := (((X5.step y (single_dom : DomLe (bx b 114 [.slice a (List.length c.Code) c1, I c.At, .int .u64 c.Seed]) _ (bx b 114 [.slice a (List.length c.Code) c1, I c.At, .int .u64 c.Seed]))).step y26 (single_dom : DomLe (bx b 114 [.slice a (List.length c.Code) c1, I c.At, .int .u64 c.Seed]) _ (bx b 114 [.slice a (List.length c.Code) c1, I (wr (c.At + 1)), .int .u64 c.Seed]))).stepx x28)
  exact ⟨_, Ret_of [I (wr (bits .and .u64 (Int.fdiv (IntKind.u64.wrap ((IntKind.u64.wrap ((IntKind.u64.wrap (c.Seed * 6364136223846793005)) + (IntKind.u64.wrap (b3)))) + 1442695040888963407)) (2 ^ 40)) 255))] ⟨⟨rfl, rfl⟩, trivial⟩, _, _, _, H, rfl, X33, ex32⟩

set_option maxRecDepth 8000 in
set_option maxHeartbeats 4000000 in
theorem spec_l1Cur_pick_w (c : L1Cur) (n : Int) (Q : Int → Int → Int → Prop) (H : spec_l1Cur_pick c n Q) (w : World) {vx : Value} {hx : PH} (r : RS hx vx c.Code) (ex : Sub hx w) {b : Nat} (ex2 : Sub (bx b 114 [vx, I c.At, .int .u64 c.Seed]) w) (d : Dj (bx b 114 [vx, I c.At, .int .u64 c.Seed]) hx) :
    CallsTo Try.prog 130 #[.pointer (some ⟨b, 0, none⟩), I n] w fun v w' => ∃ r0 m0_1 m0_2, Q r0 m0_1 m0_2 ∧ v = I r0 ∧ But (bx b 114 [vx, I c.At, .int .u64 c.Seed]) w w' ∧ Sub (bx b 114 [vx, I m0_1, .int .u64 m0_2]) w' := by
  obtain ⟨a, c1, rfl⟩ := r.shape
  refine enter (args := [.pointer (some ⟨b, 0, none⟩), I n]) 20 Try.func130 rfl rfl rfl ?_
  refine W_forget [(0, .pointer (some ⟨b, 0, none⟩)), (1, I n)] ⟨rfl, rfl, trivial⟩ fun ρ => ?_
  have X := But.refl (bx b 114 [.slice a (List.length c.Code) c1, I c.At, .int .u64 c.Seed]) w
  refine W_seq ?_
  refine W_region ?_
  refine LP_ev ok 0 [(4, I 0)] 1 rfl rfl ?_
  refine LP_end _ rfl ?_
  refine W_seq ?_
  refine W_seq ?_
  refine W_region ?_
  refine LP_ev ok 0 [(6, I n), (7, .bool (decide (n ≤ 1)))] 2 rfl rfl ?_
  refine LP_end _ rfl ?_
  refine W_cond (decide (n ≤ 1)) rfl (fun hc => ?_) (fun hc => ?_)
  · have H := H.1 hc
    refine W_seq ?_
    refine W_region ?_
    refine LP_ev ok 0 [(4, I 0)] 1 rfl rfl ?_
    refine LP_end _ rfl ?_
    refine W_ret ?_
    exact ⟨_, Ret_of [I 0] ⟨⟨rfl, rfl⟩, trivial⟩, _, _, _, H, rfl, X, ex2⟩
  have H := H.2 hc
  refine W_skip ?_
  refine W_seq ?_
  refine W_region ?_
  refine LP_ev ok 0 [(8, .pointer (some ⟨b, 0, none⟩))] 1 rfl rfl ?_
  refine LP_call 1 rfl rfl rfl cal_153 rfl (spec_l1Cur_next_w _ _ H w r ex ex2 d) ?_
  rintro _ wx ⟨r3, r4, r5, H, rfl, x, ex6⟩
  refine LP_ev ok 2 [(5, I r3)] 3 rfl rfl ?_
  refine LP_end _ rfl ?_
  obtain ⟨k, hk, H⟩ := jn_elim H
  refine W_join2 (S := Int × Int × Int) (fun s ρ' w' => k s.1 s.2.1 s.2.2 ∧ ∃ (ρ : Env), ρ' = setAll [(1, I n), (5, I s.1)] ρ ∧ But (bx b 114 [.slice a (List.length c.Code) c1, I c.At, .int .u64 c.Seed]) w w' ∧ Sub hx w' ∧ Sub (bx b 114 [.slice a (List.length c.Code) c1, I s.2.1, .int .u64 s.2.2]) w') ?_ ?_
  · refine W_seq ?_
    refine W_region ?_
    refine LP_ev ok 0 [(10, I n), (11, .bool (decide (n > 200)))] 2 rfl rfl ?_
    refine LP_end _ rfl ?_
    refine W_cond (decide (n > 200)) rfl (fun hc14 => ?_) (fun hc14 => ?_)
    · have H := H.1 hc14
      refine W_region ?_
      refine LP_ev ok 0 [(12, I r3), (13, I (wr (r3 * 256))), (14, .pointer (some ⟨b, 0, none⟩))] 3 rfl rfl ?_
      have ex18 := (ex.but x d)
      refine LP_call 3 rfl rfl rfl cal_153 rfl (spec_l1Cur_next_w _ _ H wx r ex18 ex6 (Dj.box d)) ?_
      rintro _ wx19 ⟨r15, r16, r17, H, rfl, x20, ex21⟩
      refine LP_ev ok 4 [(16, I (wr ((wr (r3 * 256)) + r15))), (5, I (wr ((wr (r3 * 256)) + r15)))] 6 rfl rfl ?_
      refine LP_end _ rfl ?_
      have X25 := ((X.step x (single_dom : DomLe (bx b 114 [.slice a (List.length c.Code) c1, I c.At, .int .u64 c.Seed]) _ (bx b 114 [.slice a (List.length c.Code) c1, I c.At, .int .u64 c.Seed]))).step x20 (single_dom : DomLe (bx b 114 [.slice a (List.length c.Code) c1, I c.At, .int .u64 c.Seed]) _ (bx b 114 [.slice a (List.length c.Code) c1, I r4, .int .u64 r5])))
      have ex26 := (ex18.but x20 (Dj.box d))
      exact ⟨(wr ((wr (r3 * 256)) + r15), r16, r17), H, _, env_eq ⟨rfl, rfl, trivial⟩, X25, ex26, ex21⟩
    have H := H.2 hc14
    refine W_skip ?_
    have X27 := (X.step x (single_dom : DomLe (bx b 114 [.slice a (List.length c.Code) c1, I c.At, .int .u64 c.Seed]) _ (bx b 114 [.slice a (List.length c.Code) c1, I c.At, .int .u64 c.Seed])))
    have ex28 := (ex.but x d)
    exact ⟨(r3, r4, r5), H, _, env_eq ⟨rfl, rfl, trivial⟩, X27, ex28, ex6⟩
  rintro ⟨x9, atx, seed⟩ _ wx10 ⟨H, ρ, rfl, X13, ex11, ex12⟩
  subst hk
  refine W_seq ?_
  refine W_region ?_
  refine LP_ev ok 0 [(17, I x9), (18, I n)] 2 rfl rfl ?_
  obtain ⟨hz, H⟩ := H
  refine LP_val 2 _ rfl rfl (ex_rem rfl rfl rfl hz _) ?_
  refine LP_ev ok 3 [(4, I (Int.tmod x9 n))] 4 rfl rfl ?_
  refine LP_end _ rfl ?_
  refine W_ret ?_
  exact ⟨_, Ret_of [I (Int.tmod x9 n)] ⟨⟨rfl, rfl⟩, trivial⟩, _, _, _, H, rfl, X13, ex12⟩

set_option maxRecDepth 8000 in
set_option maxHeartbeats 4000000 in
theorem spec_l1Cur_among_w (c : L1Cur) (list : List Int) (Q : Int → Int → Int → Prop) (H : spec_l1Cur_among c list Q) (w : World) {vx : Value} {hx : PH} (r : RS hx vx c.Code) (ex : Sub hx w) {b : Nat} (ex2 : Sub (bx b 114 [vx, I c.At, .int .u64 c.Seed]) w) {vx3 : Value} {hx4 : PH} (r5 : RS hx4 vx3 list) (ex6 : Sub hx4 w) (d : Dj (bx b 114 [vx, I c.At, .int .u64 c.Seed]) hx) (d9 : Dj (bx b 114 [vx, I c.At, .int .u64 c.Seed]) hx4) :
    CallsTo Try.prog 135 #[.pointer (some ⟨b, 0, none⟩), vx3] w fun v w' => ∃ r0 m0_1 m0_2, Q r0 m0_1 m0_2 ∧ v = I r0 ∧ But (bx b 114 [vx, I c.At, .int .u64 c.Seed]) w w' ∧ Sub (bx b 114 [vx, I m0_1, .int .u64 m0_2]) w' := by
  obtain ⟨a, c1, rfl⟩ := r.shape
  obtain ⟨a7, c8, rfl⟩ := r5.shape
  refine enter (args := [.pointer (some ⟨b, 0, none⟩), .slice a7 (List.length list) c8]) 12 Try.func135 rfl rfl rfl ?_
  refine W_forget [(0, .pointer (some ⟨b, 0, none⟩)), (1, .slice a7 (List.length list) c8)] ⟨rfl, rfl, trivial⟩ fun ρ => ?_
  have X := But.refl (bx b 114 [.slice a (List.length c.Code) c1, I c.At, .int .u64 c.Seed]) w
  refine W_seq ?_
  refine W_region ?_
  refine LP_ev ok 0 [(4, I 0)] 1 rfl rfl ?_
  refine LP_end _ rfl ?_
  refine W_seq ?_
  refine W_region ?_
  refine LP_ev ok 0 [(5, .slice a7 (List.length list) c8), (6, .pointer (some ⟨b, 0, none⟩)), (7, .slice a7 (List.length list) c8), (8, I (ln list))] 4 rfl rfl ?_
  refine LP_call 4 rfl rfl rfl cal_130 rfl (spec_l1Cur_pick_w _ _ _ H w r ex ex2 d) ?_
  rintro _ wx ⟨r10, r11, r12, H, rfl, x, ex13⟩
  obtain ⟨x16, hi, hx17, H⟩ := H
  refine LP_index 5 rfl rfl rfl Try.underlying22 ti_3 rfl rfl r5 hi hx17 fun a18 cs r19 d20 => ?_
  have ex21 := (ex6.but x d9)
  refine LP_load 6 rfl rfl rfl ti_3 ag_3 rfl r19 d20 ex21 fun vx22 r23 => ?_
  obtain rfl := r23.int
  refine LP_ev ok 7 [(4, I x16)] 8 rfl rfl ?_
  refine LP_end _ rfl ?_
  refine W_ret ?_
  have X24 := (X.step x (single_dom : DomLe (bx b 114 [.slice a (List.length c.Code) c1, I c.At, .int .u64 c.Seed]) _ (bx b 114 [.slice a (List.length c.Code) c1, I c.At, .int .u64 c.Seed])))
  exact ⟨_, Ret_of [I x16] ⟨⟨rfl, rfl⟩, trivial⟩, _, _, _, H, rfl, X24, ex13⟩

set_option maxRecDepth 8000 in
set_option maxHeartbeats 4000000 in
theorem spec_l1Cur_counts_w (c : L1Cur) (n : Int) (Q : (List Int) → Int → Int → Prop) (H : spec_l1Cur_counts c n Q) (w : World) {vx : Value} {hx : PH} (r : RS hx vx c.Code) (ex : Sub hx w) {b : Nat} (ex2 : Sub (bx b 114 [vx, I c.At, .int .u64 c.Seed]) w) (d : Dj (bx b 114 [vx, I c.At, .int .u64 c.Seed]) hx) :
    CallsTo Try.prog 131 #[.pointer (some ⟨b, 0, none⟩), I n] w fun v w' => ∃ r0 m0_1 m0_2 u0 g0, Q r0 m0_1 m0_2 ∧ v = u0 ∧ But (bx b 114 [vx, I c.At, .int .u64 c.Seed]) w w' ∧ OS 3 g0 emp u0 r0 ∧ Sub g0 w' ∧ Fresh w.heap.size g0 ∧ Sub (bx b 114 [vx, I m0_1, .int .u64 m0_2]) w' := by
  obtain ⟨a, c1, rfl⟩ := r.shape
  refine enter (args := [.pointer (some ⟨b, 0, none⟩), I n]) 40 Try.func131 rfl rfl rfl ?_
  refine W_forget [(0, .pointer (some ⟨b, 0, none⟩)), (1, I n)] ⟨rfl, rfl, trivial⟩ fun ρ => ?_
  have X := But.refl (bx b 114 [.slice a (List.length c.Code) c1, I c.At, .int .u64 c.Seed]) w
  refine W_seq ?_
  refine W_region ?_
  refine LP_ev ok 0 [(4, .slice none 0 0)] 1 rfl rfl ?_
  refine LP_end _ rfl ?_
  refine W_seq ?_
  refine W_region ?_
  refine LP_ev ok 0 [(5, .slice none 0 0)] 1 rfl rfl ?_
  refine LP_end _ rfl ?_
  refine W_seq ?_
  refine W_block ?_
  obtain ⟨J, m, Hx, H⟩ := H
  refine W_loop (S := Int × (List Int) × Int × Int) (fun s ρ' w' => J s.1 s.2.1 s.2.2.1 s.2.2.2 ∧ ∃ (ρ : Env) (vx4 : Value) (hx5 : PH), ρ' = setAll [(0, .pointer (some ⟨b, 0, none⟩)), (1, I s.1), (5, vx4)] ρ ∧ But (bx b 114 [.slice a (List.length c.Code) c1, I c.At, .int .u64 c.Seed]) w w' ∧ OS 3 hx5 emp vx4 s.2.1 ∧ Sub hx5 w' ∧ Fresh w.heap.size hx5 ∧ Sub hx w' ∧ Sub (bx b 114 [.slice a (List.length c.Code) c1, I s.2.2.1, .int .u64 s.2.2.2]) w' ∧ Dj hx5 hx ∧ Dj hx5 (bx b 114 [.slice a (List.length c.Code) c1, I s.2.2.1, .int .u64 s.2.2.2])) (fun s => m s.1 s.2.1 s.2.2.1 s.2.2.2) (n, [], c.At, c.Seed) ⟨Hx, _, .slice none 0 0, emp, env_eq ⟨rfl, rfl, rfl, trivial⟩, X, OS.nil, (emp_sub _), (emp_fresh _), ex, ex2, (fun _ => .inl rfl), (fun _ => .inl rfl)⟩ ?_
  rintro ⟨n3, l, atx, seed⟩ _ wx ⟨Hi, ρ, vx4, hx5, rfl, X13, o, ex6, f, ex7, ex10, d11, d12⟩
  have H := H n3 l atx seed Hi
  obtain ⟨a8, c9, rfl⟩ := o.shape
  refine W_seq ?_
  refine W_seq ?_
  refine W_region ?_
  refine LP_ev ok 0 [(6, I n3), (7, .bool (decide (n3 > 0)))] 2 rfl rfl ?_
  refine LP_end _ rfl ?_
  refine W_cond (decide (n3 > 0)) rfl (fun hc => ?_) (fun hc => ?_)
  · have H := H.1 hc
    refine W_skip ?_
    refine W_seq ?_
    refine W_block ?_
    refine W_region ?_
    refine LP_ev ok 0 [(10, .slice a8 (List.length l) c9), (11, .pointer (some ⟨b, 0, none⟩)), (12, .pointer (some ⟨b, 0, none⟩))] 3 rfl rfl ?_
    refine LP_call 3 rfl rfl rfl cal_130 rfl (spec_l1Cur_pick_w _ _ _ H wx r ex7 ex10 (Dj.box d)) ?_
    rintro _ wx17 ⟨r14, r15, r16, H, rfl, x, ex18⟩
    refine LP_lit (α := Int) (g := emp) 4 (vs := [I 0, I 1, I 2, I 5, I r14]) (xs := [0, 1, 2, 5, r14]) rfl rfl rfl Try.underlying22 ti_3 rfl rfl ⟨⟨_, rfl, rfl⟩, ⟨_, rfl, rfl⟩, ⟨_, rfl, rfl⟩, ⟨_, rfl, rfl⟩, ⟨_, rfl, rfl⟩, trivial⟩ rfl rfl fun hx21 vx22 wx23 x24 o25 ex26 f27 => ?_
    obtain ⟨a28, c29, rfl⟩ := o25.shape
    have ex33 := ((ex7.but x (Dj.box d)).ext x24)
    have ex34 := (ex18.ext x24)
    refine LP_call 5 rfl rfl rfl cal_135 rfl (spec_l1Cur_among_w _ _ _ H wx23 r ex33 ex34 o25.readf ex26 (Dj.box d) (Dj.of_fresh ex18 f27)) ?_
    rintro _ wx35 ⟨r30, r31, r32, H, rfl, x36, ex37⟩
    refine LP_lit (α := Int) (g := emp) 6 (vs := [I r30]) (xs := [r30]) rfl rfl rfl Try.underlying22 ti_3 rfl rfl ⟨⟨_, rfl, rfl⟩, trivial⟩ rfl rfl fun hx41 vx42 wx43 x44 o45 ex46 f47 => ?_
    obtain ⟨a48, c49, rfl⟩ := o45.shape
    have ex50 := ((((ex6.but x d12.symm).ext x24).but x36 (Dj.box d12.symm)).ext x44)
    obtain ⟨hb, H⟩ := H
    refine LP_appendf (α := Int) 7 rfl rfl rfl Try.underlying22 ti_3 rfl rfl rfl o ex50 o45.readf ex46 (by first | omega | (simp only [ln] at *; omega)) (by first | omega | (simp only [ln] at *; omega)) fun hx51 vx52 wx53 o54 ex55 y dm => ?_
    obtain ⟨a56, c57, rfl⟩ := o54.shape
    refine LP_ev ok 8 [(5, .slice a56 (List.length (l ++ ([r30]))) c57)] 9 rfl rfl ?_
    refine LP_end _ rfl ?_
    refine W_region ?_
    refine LP_ev ok 0 [(8, I n3), (9, I (wr (n3 - 1))), (1, I (wr (n3 - 1)))] 3 rfl rfl ?_
    refine LP_end _ rfl ?_
    have X58 := (((((X13.step x (single_dom : DomLe (bx b 114 [.slice a (List.length c.Code) c1, I c.At, .int .u64 c.Seed]) _ (bx b 114 [.slice a (List.length c.Code) c1, I atx, .int .u64 seed]))).stepx x24).step x36 (single_dom : DomLe (bx b 114 [.slice a (List.length c.Code) c1, I c.At, .int .u64 c.Seed]) _ (bx b 114 [.slice a (List.length c.Code) c1, I r15, .int .u64 r16]))).stepx x44).step y (f.dom _))
    have X60 := ((((X13.step x (single_dom : DomLe (bx b 114 [.slice a (List.length c.Code) c1, I c.At, .int .u64 c.Seed]) _ (bx b 114 [.slice a (List.length c.Code) c1, I atx, .int .u64 seed]))).stepx x24).step x36 (single_dom : DomLe (bx b 114 [.slice a (List.length c.Code) c1, I c.At, .int .u64 c.Seed]) _ (bx b 114 [.slice a (List.length c.Code) c1, I r15, .int .u64 r16]))).stepx x44)
    have f59 := dm.fresh f X60.size
    have ex61 := (((ex33.but x36 (Dj.box d)).ext x44).but y d11)
    have ex62 := ((ex37.ext x44).but y (Dj.box d12.symm).symm)
    have ex63 := ((ex33.but x36 (Dj.box d)).ext x44)
    have ex64 := (ex37.ext x44)
    exact ⟨(wr (n3 - 1), l ++ ([r30]), r31, r32), ⟨H.1, _, .slice a56 (List.length (l ++ ([r30]))) c57, hx51, env_eq ⟨rfl, rfl, rfl, trivial⟩, X58, o54, ex55, f59, ex61, ex62, (DomLe.dj dm d11 ex63), (DomLe.dj dm (Dj.box d12.symm).symm ex64)⟩, H.2⟩
  have H := H.2 hc
  refine W_exit ?_
  refine (if_pos rfl).mpr ?_
  obtain ⟨k, hk, H⟩ := jn_elim H
  refine W_join2 (S := (List Int) × Int × Int) (fun s ρ' w' => k s.1 s.2.1 s.2.2 ∧ ∃ (ρ : Env) (vx66 : Value) (hx67 : PH), ρ' = setAll [(5, vx66)] ρ ∧ But (bx b 114 [.slice a (List.length c.Code) c1, I c.At, .int .u64 c.Seed]) w w' ∧ OS 3 hx67 emp vx66 s.1 ∧ Sub hx67 w' ∧ Fresh w.heap.size hx67 ∧ Sub hx w' ∧ Sub (bx b 114 [.slice a (List.length c.Code) c1, I s.2.1, .int .u64 s.2.2]) w' ∧ Dj hx67 hx ∧ Dj hx67 (bx b 114 [.slice a (List.length c.Code) c1, I s.2.1, .int .u64 s.2.2])) ?_ ?_
  · refine W_seq ?_
    refine W_region ?_
    refine LP_ev ok 0 [(18, .pointer (some ⟨b, 0, none⟩))] 1 rfl rfl ?_
    refine LP_call 1 rfl rfl rfl cal_130 rfl (spec_l1Cur_pick_w _ _ _ H wx r ex7 ex10 (Dj.box d)) ?_
    rintro _ wx84 ⟨r81, r82, r83, H, rfl, x85, ex86⟩
    refine LP_end _ rfl ?_
    refine W_block ?_
    refine W_seq ?_
    refine W_region ?_
    refine LP_ev ok 0 [(21, .bool (r81 == 0)), (20, .bool (r81 == 0))] 2 rfl rfl ?_
    refine LP_end _ rfl ?_
    refine W_cond (r81 == 0) rfl (fun hc90 => ?_) (fun hc90 => ?_)
    · have H := H.1 hc90
      refine W_region ?_
      refine LP_ev ok 0 [(22, .slice a8 (List.length l) c9), (23, .pointer (some ⟨b, 0, none⟩))] 2 rfl rfl ?_
      refine LP_lit (α := Int) (g := emp) 2 (vs := [I ((-1)), I 1000000, I 1000001]) (xs := [(-1), 1000000, 1000001]) rfl rfl rfl Try.underlying22 ti_3 rfl rfl ⟨⟨_, rfl, rfl⟩, ⟨_, rfl, rfl⟩, ⟨_, rfl, rfl⟩, trivial⟩ rfl rfl fun hx91 vx92 wx93 x94 o95 ex96 f97 => ?_
      obtain ⟨a98, c99, rfl⟩ := o95.shape
      have ex103 := ((ex7.but x85 (Dj.box d)).ext x94)
      have ex104 := (ex86.ext x94)
      refine LP_call 3 rfl rfl rfl cal_135 rfl (spec_l1Cur_among_w _ _ _ H wx93 r ex103 ex104 o95.readf ex96 (Dj.box d) (Dj.of_fresh ex86 f97)) ?_
      rintro _ wx105 ⟨r100, r101, r102, H, rfl, x106, ex107⟩
      refine LP_lit (α := Int) (g := emp) 4 (vs := [I r100]) (xs := [r100]) rfl rfl rfl Try.underlying22 ti_3 rfl rfl ⟨⟨_, rfl, rfl⟩, trivial⟩ rfl rfl fun hx111 vx112 wx113 x114 o115 ex116 f117 => ?_
      obtain ⟨a118, c119, rfl⟩ := o115.shape
      have ex120 := ((((ex6.but x85 d12.symm).ext x94).but x106 (Dj.box d12.symm)).ext x114)
      obtain ⟨hb121, H⟩ := H
      refine LP_appendf (α := Int) 5 rfl rfl rfl Try.underlying22 ti_3 rfl rfl rfl o ex120 o115.readf ex116 (by first | omega | (simp only [ln] at *; omega)) (by first | omega | (simp only [ln] at *; omega)) fun hx122 vx123 wx124 o125 ex126 y127 dm128 => ?_
      obtain ⟨a129, c130, rfl⟩ := o125.shape
      refine LP_ev ok 6 [(5, .slice a129 (List.length (l ++ ([r100]))) c130)] 7 rfl rfl ?_
      refine LP_end _ rfl ?_
      have X131 := (((((X13.step x85 (single_dom : DomLe (bx b 114 [.slice a (List.length c.Code) c1, I c.At, .int .u64 c.Seed]) _ (bx b 114 [.slice a (List.length c.Code) c1, I atx, .int .u64 seed]))).stepx x94).step x106 (single_dom : DomLe (bx b 114 [.slice a (List.length c.Code) c1, I c.At, .int .u64 c.Seed]) _ (bx b 114 [.slice a (List.length c.Code) c1, I r82, .int .u64 r83]))).stepx x114).step y127 (f.dom _))
      have X133 := ((((X13.step x85 (single_dom : DomLe (bx b 114 [.slice a (List.length c.Code) c1, I c.At, .int .u64 c.Seed]) _ (bx b 114 [.slice a (List.length c.Code) c1, I atx, .int .u64 seed]))).stepx x94).step x106 (single_dom : DomLe (bx b 114 [.slice a (List.length c.Code) c1, I c.At, .int .u64 c.Seed]) _ (bx b 114 [.slice a (List.length c.Code) c1, I r82, .int .u64 r83]))).stepx x114)
      have f132 := dm128.fresh f X133.size
      have ex134 := (((ex103.but x106 (Dj.box d)).ext x114).but y127 d11)
      have ex135 := ((ex107.ext x114).but y127 (Dj.box d12.symm).symm)
      have ex136 := ((ex103.but x106 (Dj.box d)).ext x114)
      have ex137 := (ex107.ext x114)
      exact ⟨(l ++ ([r100]), r101, r102), H, _, .slice a129 (List.length (l ++ ([r100]))) c130, hx122, env_eq ⟨rfl, trivial⟩, X131, o125, ex126, f132, ex134, ex135, (DomLe.dj dm128 d11 ex136), (DomLe.dj dm128 (Dj.box d12.symm).symm ex137)⟩
    have H := H.2 hc90
    refine W_seq ?_
    refine W_region ?_
    refine LP_ev ok 0 [(29, .bool (r81 == 1)), (28, .bool (r81 == 1))] 2 rfl rfl ?_
    refine LP_end _ rfl ?_
    refine W_cond (r81 == 1) rfl (fun hc138 => ?_) (fun hc138 => ?_)
    · have H := H.1 hc138
      refine W_block ?_
      obtain ⟨J155, m156, Hx157, H⟩ := H
      have X158 := (X13.step x85 (single_dom : DomLe (bx b 114 [.slice a (List.length c.Code) c1, I c.At, .int .u64 c.Seed]) _ (bx b 114 [.slice a (List.length c.Code) c1, I atx, .int .u64 seed])))
      have ex159 := (ex6.but x85 d12.symm)
      have ex160 := (ex7.but x85 (Dj.box d))
      refine W_loop (S := (List Int) × Int × Int) (fun s ρ' w' => J155 s.1 s.2.1 s.2.2 ∧ ∃ (ρ : Env) (vx140 : Value) (hx141 : PH), ρ' = setAll [(0, .pointer (some ⟨b, 0, none⟩)), (5, vx140)] ρ ∧ But (bx b 114 [.slice a (List.length c.Code) c1, I c.At, .int .u64 c.Seed]) w w' ∧ OS 3 hx141 emp vx140 s.1 ∧ Sub hx141 w' ∧ Fresh w.heap.size hx141 ∧ Sub hx w' ∧ Sub (bx b 114 [.slice a (List.length c.Code) c1, I s.2.1, .int .u64 s.2.2]) w' ∧ Dj hx141 hx ∧ Dj hx141 (bx b 114 [.slice a (List.length c.Code) c1, I s.2.1, .int .u64 s.2.2])) (fun s => m156 s.1 s.2.1 s.2.2) (l, r82, r83) ⟨Hx157, _, .slice a8 (List.length l) c9, hx5, env_eq ⟨rfl, rfl, trivial⟩, X158, o, ex159, f, ex160, ex86, d11, (Dj.box d12.symm).symm⟩ ?_
      rintro ⟨l139, atx145, seed146⟩ _ wx147 ⟨Hi, ρ, vx140, hx141, rfl, X154, o142, ex143, f144, ex148, ex151, d152, d153⟩
      have H := H l139 atx145 seed146 Hi
      obtain ⟨a149, c150, rfl⟩ := o142.shape
      refine W_seq ?_
      refine W_seq ?_
      refine W_region ?_
      refine LP_ev ok 0 [(30, .slice a149 (List.length l139) c150), (31, I (ln l139)), (32, .pointer (some ⟨b, 0, none⟩))] 3 rfl rfl ?_
      refine LP_call 3 rfl rfl rfl cal_130 rfl (spec_l1Cur_pick_w _ _ _ H wx147 r ex148 ex151 (Dj.box d)) ?_
      rintro _ wx165 ⟨r162, r163, r164, H, rfl, x166, ex167⟩
      refine LP_ev ok 4 [(34, I (wr (100 + r162))), (35, .bool (decide ((ln l139) < (wr (100 + r162)))))] 6 rfl rfl ?_
      refine LP_end _ rfl ?_
      refine W_cond (decide ((ln l139) < (wr (100 + r162)))) rfl (fun hc171 => ?_) (fun hc171 => ?_)
      · have H := H.1 hc171
        refine W_skip ?_
        refine W_block ?_
        refine W_region ?_
        refine LP_ev ok 0 [(36, .slice a149 (List.length l139) c150)] 1 rfl rfl ?_
        refine LP_lit (α := Int) (g := emp) 1 (vs := [I 1]) (xs := [1]) rfl rfl rfl Try.underlying22 ti_3 rfl rfl ⟨⟨_, rfl, rfl⟩, trivial⟩ rfl rfl fun hx172 vx173 wx174 x175 o176 ex177 f178 => ?_
        obtain ⟨a179, c180, rfl⟩ := o176.shape
        have ex181 := ((ex143.but x166 d153.symm).ext x175)
        obtain ⟨hb182, H⟩ := H
        refine LP_appendf (α := Int) 2 rfl rfl rfl Try.underlying22 ti_3 rfl rfl rfl o142 ex181 o176.readf ex177 (by first | omega | (simp only [ln] at *; omega)) (by first | omega | (simp only [ln] at *; omega)) fun hx183 vx184 wx185 o186 ex187 y188 dm189 => ?_
        obtain ⟨a190, c191, rfl⟩ := o186.shape
        refine LP_ev ok 3 [(5, .slice a190 (List.length (l139 ++ ([1]))) c191)] 4 rfl rfl ?_
        refine LP_end _ rfl ?_
        have X192 := (((X154.step x166 (single_dom : DomLe (bx b 114 [.slice a (List.length c.Code) c1, I c.At, .int .u64 c.Seed]) _ (bx b 114 [.slice a (List.length c.Code) c1, I atx145, .int .u64 seed146]))).stepx x175).step y188 (f144.dom _))
        have X194 := ((X154.step x166 (single_dom : DomLe (bx b 114 [.slice a (List.length c.Code) c1, I c.At, .int .u64 c.Seed]) _ (bx b 114 [.slice a (List.length c.Code) c1, I atx145, .int .u64 seed146]))).stepx x175)
        have f193 := dm189.fresh f144 X194.size
        have ex195 := (((ex148.but x166 (Dj.box d)).ext x175).but y188 d152)
        have ex196 := ((ex167.ext x175).but y188 (Dj.box d153.symm).symm)
        have ex197 := ((ex148.but x166 (Dj.box d)).ext x175)
        have ex198 := (ex167.ext x175)
        exact ⟨(l139 ++ ([1]), r163, r164), ⟨H.1, _, .slice a190 (List.length (l139 ++ ([1]))) c191, hx183, env_eq ⟨rfl, rfl, trivial⟩, X192, o186, ex187, f193, ex195, ex196, (DomLe.dj dm189 d152 ex197), (DomLe.dj dm189 (Dj.box d153.symm).symm ex198)⟩, H.2⟩
      have H := H.2 hc171
      refine W_exit ?_
      refine (if_pos rfl).mpr ?_
      have X199 := (X154.step x166 (single_dom : DomLe (bx b 114 [.slice a (List.length c.Code) c1, I c.At, .int .u64 c.Seed]) _ (bx b 114 [.slice a (List.length c.Code) c1, I atx145, .int .u64 seed146])))
      have ex200 := (ex143.but x166 d153.symm)
      have ex201 := (ex148.but x166 (Dj.box d))
      exact ⟨(l139, r163, r164), H, _, .slice a149 (List.length l139) c150, hx141, env_eq ⟨rfl, trivial⟩, X199, o142, ex200, f144, ex201, ex167, d152, (Dj.box d153.symm).symm⟩
    have H := H.2 hc138
    refine W_skip ?_
    have X202 := (X13.step x85 (single_dom : DomLe (bx b 114 [.slice a (List.length c.Code) c1, I c.At, .int .u64 c.Seed]) _ (bx b 114 [.slice a (List.length c.Code) c1, I atx, .int .u64 seed])))
    have ex203 := (ex6.but x85 d12.symm)
    have ex204 := (ex7.but x85 (Dj.box d))
    exact ⟨(l, r82, r83), H, _, .slice a8 (List.length l) c9, hx5, env_eq ⟨rfl, trivial⟩, X202, o, ex203, f, ex204, ex86, d11, (Dj.box d12.symm).symm⟩
  rintro ⟨l65, atx71, seed72⟩ _ wx73 ⟨H, ρ, vx66, hx67, rfl, X80, o68, ex69, f70, ex74, ex77, d78, d79⟩
  subst hk
  obtain ⟨a75, c76, rfl⟩ := o68.shape
  refine W_seq ?_
  refine W_region ?_
  refine LP_ev ok 0 [(39, .slice a75 (List.length l65) c76), (4, .slice a75 (List.length l65) c76)] 2 rfl rfl ?_
  refine LP_end _ rfl ?_
  refine W_ret ?_
  exact ⟨_, Ret_of [.slice a75 (List.length l65) c76] ⟨⟨rfl, rfl⟩, trivial⟩, _, _, _, _, _, H, rfl, X80, o68, ex69, f70, ex77⟩

set_option maxRecDepth 8000 in
set_option maxHeartbeats 4000000 in
theorem spec_DrawDissimilarityOf_w (code : List B8) (Q : (List Int) → (List Int) → Prop) (H : spec_DrawDissimilarityOf code Q) (w : World) {vx : Value} {hx : PH} (r : RS hx vx code) (ex : Sub hx w) :
    CallsTo Try.prog 65 #[vx] w fun v w' => ∃ r0 r1 u0 g0 u1 g1, Q r0 r1 ∧ v = .tuple #[u0, u1] ∧ Ext w w' ∧ OS 3 g0 emp u0 r0 ∧ Sub g0 w' ∧ Fresh w.heap.size g0 ∧ OS 3 g1 emp u1 r1 ∧ Sub g1 w' ∧ Fresh w.heap.size g1 := by
  obtain ⟨a, c, rfl⟩ := r.shape
  refine enter (args := [.slice a (List.length code) c]) 18 Try.func65 rfl rfl rfl ?_
  refine W_forget [(0, .slice a (List.length code) c)] ⟨rfl, trivial⟩ fun ρ => ?_
  have X := But.refl emp w
  refine W_seq ?_
  refine W_region ?_
  refine LP_ev ok 0 [(2, .slice none 0 0), (3, .slice none 0 0)] 2 rfl rfl ?_
  refine LP_end _ rfl ?_
  refine W_seq ?_
  refine W_region ?_
  refine LP_ev ok 0 [(6, .slice a (List.length code) c), (7, .agg #[.slice a (List.length code) c, I 0, .int .u64 0])] 2 rfl rfl ?_
  refine LP_box 2 (cs := [.slice a (List.length code) c, I 0, .int .u64 0]) rfl rfl rfl rfl rfl fun b wx x ex1 f => ?_
  refine LP_ev ok 3 [(4, .pointer (some ⟨b, 0, none⟩))] 4 rfl rfl ?_
  refine LP_end _ rfl ?_
  refine W_seq ?_
  refine W_region ?_
  refine LP_ev ok 0 [(9, .pointer (some ⟨b, 0, none⟩))] 1 rfl rfl ?_
  have ex5 := (ex.ext x)
  refine LP_call 1 rfl rfl rfl cal_130 rfl (spec_l1Cur_pick_w _ _ _ H wx r ex5 ex1 (Dj.of_fresh ex f).symm) ?_
  rintro _ wx6 ⟨r2, r3, r4, H, rfl, x7, ex8⟩
  refine LP_ev ok 2 [(11, I (wr (1 + r2))), (5, I (wr (1 + r2)))] 4 rfl rfl ?_
  refine LP_end _ rfl ?_
  refine W_seq ?_
  refine W_region ?_
  refine LP_ev ok 0 [(12, .pointer (some ⟨b, 0, none⟩)), (13, I (wr (1 + r2)))] 2 rfl rfl ?_
  have ex14 := (ex5.but x7 (Dj.of_fresh ex f).symm)
  refine LP_call 2 rfl rfl rfl cal_131 rfl (spec_l1Cur_counts_w _ _ _ H wx6 r ex14 ex8 (Dj.box (Dj.of_fresh ex f).symm)) ?_
  rintro _ wx15 ⟨r11, r12, r13, vx17, hx18, H, rfl, x16, o, ex19, f20, ex21⟩
  obtain ⟨a25, c26, rfl⟩ := o.shape
  refine LP_ev ok 3 [(15, .pointer (some ⟨b, 0, none⟩)), (16, I (wr (1 + r2)))] 5 rfl rfl ?_
  have ex30 := (ex14.but x16 (Dj.box (Dj.of_fresh ex f).symm))
  refine LP_call 5 rfl rfl rfl cal_131 rfl (spec_l1Cur_counts_w _ _ _ H wx15 r ex30 ex21 (Dj.box (Dj.of_fresh ex f).symm)) ?_
  rintro _ wx31 ⟨r27, r28, r29, vx33, hx34, H, rfl, x32, o35, ex36, f37, ex38⟩
  obtain ⟨a42, c43, rfl⟩ := o35.shape
  refine LP_ev ok 6 [(2, .slice a25 (List.length r11) c26), (3, .slice a42 (List.length r27) c43)] 8 rfl rfl ?_
  refine LP_end _ rfl ?_
  refine W_ret ?_
  have ex44 := (ex19.but x32 (Dj.box (Dj.of_fresh ex8 f20)))
  have f46 := f.mono X.size
  have X47 := ((X.stepx x).step x7 (f46.dom _))
  have f45 := f20.mono X47.size
  have X49 := (X47.step x16 ((Fresh.box f46).dom _))
  have f48 := f37.mono X49.size
  have X50 := (X49.step x32 ((Fresh.box f46).dom _))
  exact ⟨_, Ret_of [.slice a25 (List.length r11) c26, .slice a42 (List.length r27) c43] ⟨⟨rfl, rfl⟩, ⟨rfl, rfl⟩, trivial⟩, _, _, _, _, _, _, H, rfl, X50.ext, o, ex44, f45, o35, ex36, f48⟩

set_option maxRecDepth 8000 in
set_option maxHeartbeats 4000000 in
theorem spec_DrawCountShares_w (code : List B8) (Q : (List Int) → Prop) (H : spec_DrawCountShares code Q) (w : World) {vx : Value} {hx : PH} (r : RS hx vx code) (ex : Sub hx w) :
    CallsTo Try.prog 132 #[vx] w fun v w' => ∃ r0 u0 g0, Q r0 ∧ v = u0 ∧ Ext w w' ∧ OS 3 g0 emp u0 r0 ∧ Sub g0 w' ∧ Fresh w.heap.size g0 := by
  obtain ⟨a, c, rfl⟩ := r.shape
  refine enter (args := [.slice a (List.length code) c]) 11 Try.func132 rfl rfl rfl ?_
  refine W_forget [(0, .slice a (List.length code) c)] ⟨rfl, trivial⟩ fun ρ => ?_
  have X := But.refl emp w
  refine W_seq ?_
  refine W_region ?_
  refine LP_ev ok 0 [(2, .slice none 0 0)] 1 rfl rfl ?_
  refine LP_end _ rfl ?_
  refine W_seq ?_
  refine W_region ?_
  refine LP_ev ok 0 [(4, .slice a (List.length code) c), (5, .agg #[.slice a (List.length code) c, I 0, .int .u64 0])] 2 rfl rfl ?_
  refine LP_box 2 (cs := [.slice a (List.length code) c, I 0, .int .u64 0]) rfl rfl rfl rfl rfl fun b wx x ex1 f => ?_
  refine LP_ev ok 3 [(3, .pointer (some ⟨b, 0, none⟩))] 4 rfl rfl ?_
  refine LP_end _ rfl ?_
  refine W_seq ?_
  refine W_region ?_
  refine LP_ev ok 0 [(7, .pointer (some ⟨b, 0, none⟩)), (8, .pointer (some ⟨b, 0, none⟩))] 2 rfl rfl ?_
  have ex5 := (ex.ext x)
  refine LP_call 2 rfl rfl rfl cal_130 rfl (spec_l1Cur_pick_w _ _ _ H wx r ex5 ex1 (Dj.of_fresh ex f).symm) ?_
  rintro _ wx6 ⟨r2, r3, r4, H, rfl, x7, ex8⟩
  have ex14 := (ex5.but x7 (Dj.of_fresh ex f).symm)
  refine LP_call 3 rfl rfl rfl cal_131 rfl (spec_l1Cur_counts_w _ _ _ H wx6 r ex14 ex8 (Dj.box (Dj.of_fresh ex f).symm)) ?_
  rintro _ wx15 ⟨r11, r12, r13, vx17, hx18, H, rfl, x16, o, ex19, f20, ex21⟩
  obtain ⟨a25, c26, rfl⟩ := o.shape
  refine LP_ev ok 4 [(2, .slice a25 (List.length r11) c26)] 5 rfl rfl ?_
  refine LP_end _ rfl ?_
  refine W_ret ?_
  have f28 := f.mono X.size
  have X29 := ((X.stepx x).step x7 (f28.dom _))
  have f27 := f20.mono X29.size
  have X30 := (X29.step x16 ((Fresh.box f28).dom _))
  exact ⟨_, Ret_of [.slice a25 (List.length r11) c26] ⟨⟨rfl, rfl⟩, trivial⟩, _, _, _, H, rfl, X30.ext, o, ex19, f27⟩

set_option maxRecDepth 8000 in
set_option maxHeartbeats 4000000 in
theorem spec_DrawGiniOf_w (code : List B8) (Q : (List Int) → Prop) (H : spec_DrawGiniOf code Q) (w : World) {vx : Value} {hx : PH} (r : RS hx vx code) (ex : Sub hx w) :
    CallsTo Try.prog 66 #[vx] w fun v w' => ∃ r0 u0 g0, Q r0 ∧ v = u0 ∧ Ext w w' ∧ OS 3 g0 emp u0 r0 ∧ Sub g0 w' ∧ Fresh w.heap.size g0 := by
  obtain ⟨a, c, rfl⟩ := r.shape
  refine enter (args := [.slice a (List.length code) c]) 5 Try.func66 rfl rfl rfl ?_
  refine W_forget [(0, .slice a (List.length code) c)] ⟨rfl, trivial⟩ fun ρ => ?_
  have X := But.refl emp w
  refine W_seq ?_
  refine W_region ?_
  refine LP_ev ok 0 [(2, .slice none 0 0)] 1 rfl rfl ?_
  refine LP_end _ rfl ?_
  refine W_seq ?_
  refine W_region ?_
  refine LP_ev ok 0 [(3, .slice a (List.length code) c)] 1 rfl rfl ?_
  refine LP_call 1 rfl rfl rfl cal_132 rfl (spec_DrawCountShares_w _ _ H w r ex) ?_
  rintro _ wx ⟨r1, vx2, hx3, H, rfl, x, o, ex4, f⟩
  obtain ⟨a5, c6, rfl⟩ := o.shape
  refine LP_ev ok 2 [(2, .slice a5 (List.length r1) c6)] 3 rfl rfl ?_
  refine LP_end _ rfl ?_
  refine W_ret ?_
  have f7 := f.mono X.size
  have X8 := (X.stepx x)
  exact ⟨_, Ret_of [.slice a5 (List.length r1) c6] ⟨⟨rfl, rfl⟩, trivial⟩, _, _, _, H, rfl, X8.ext, o, ex4, f7⟩

set_option maxRecDepth 8000 in
set_option maxHeartbeats 4000000 in
theorem spec_DrawQuotientOf_w (code : List B8) (Q : (List Int) → (List Int) → Int → Prop) (H : spec_DrawQuotientOf code Q) (w : World) {vx : Value} {hx : PH} (r : RS hx vx code) (ex : Sub hx w) :
    CallsTo Try.prog 67 #[vx] w fun v w' => ∃ r0 r1 r2 u0 g0 u1 g1, Q r0 r1 r2 ∧ v = .tuple #[u0, u1, I r2] ∧ Ext w w' ∧ OS 3 g0 emp u0 r0 ∧ Sub g0 w' ∧ Fresh w.heap.size g0 ∧ OS 3 g1 emp u1 r1 ∧ Sub g1 w' ∧ Fresh w.heap.size g1 := by
  obtain ⟨a, c, rfl⟩ := r.shape
  refine enter (args := [.slice a (List.length code) c]) 24 Try.func67 rfl rfl rfl ?_
  refine W_forget [(0, .slice a (List.length code) c)] ⟨rfl, trivial⟩ fun ρ => ?_
  have X := But.refl emp w
  refine W_seq ?_
  refine W_region ?_
  refine LP_ev ok 0 [(2, .slice none 0 0), (3, .slice none 0 0), (4, I 0)] 3 rfl rfl ?_
  refine LP_end _ rfl ?_
  refine W_seq ?_
  refine W_region ?_
  refine LP_ev ok 0 [(7, .slice a (List.length code) c), (8, .agg #[.slice a (List.length code) c, I 0, .int .u64 0])] 2 rfl rfl ?_
  refine LP_box 2 (cs := [.slice a (List.length code) c, I 0, .int .u64 0]) rfl rfl rfl rfl rfl fun b wx x ex1 f => ?_
  refine LP_ev ok 3 [(5, .pointer (some ⟨b, 0, none⟩))] 4 rfl rfl ?_
  refine LP_end _ rfl ?_
  refine W_seq ?_
  refine W_region ?_
  refine LP_ev ok 0 [(10, .pointer (some ⟨b, 0, none⟩))] 1 rfl rfl ?_
  have ex5 := (ex.ext x)
  refine LP_call 1 rfl rfl rfl cal_130 rfl (spec_l1Cur_pick_w _ _ _ H wx r ex5 ex1 (Dj.of_fresh ex f).symm) ?_
  rintro _ wx6 ⟨r2, r3, r4, H, rfl, x7, ex8⟩
  refine LP_ev ok 2 [(12, I (wr (1 + r2))), (6, I (wr (1 + r2)))] 4 rfl rfl ?_
  refine LP_end _ rfl ?_
  refine W_seq ?_
  refine W_region ?_
  refine LP_ev ok 0 [(13, .pointer (some ⟨b, 0, none⟩)), (14, I (wr (1 + r2)))] 2 rfl rfl ?_
  have ex14 := (ex5.but x7 (Dj.of_fresh ex f).symm)
  refine LP_call 2 rfl rfl rfl cal_131 rfl (spec_l1Cur_counts_w _ _ _ H wx6 r ex14 ex8 (Dj.box (Dj.of_fresh ex f).symm)) ?_
  rintro _ wx15 ⟨r11, r12, r13, vx17, hx18, H, rfl, x16, o, ex19, f20, ex21⟩
  obtain ⟨a25, c26, rfl⟩ := o.shape
  refine LP_ev ok 3 [(16, .pointer (some ⟨b, 0, none⟩)), (17, I (wr (1 + r2)))] 5 rfl rfl ?_
  have ex30 := (ex14.but x16 (Dj.box (Dj.of_fresh ex f).symm))
  refine LP_call 5 rfl rfl rfl cal_131 rfl (spec_l1Cur_counts_w _ _ _ H wx15 r ex30 ex21 (Dj.box (Dj.of_fresh ex f).symm)) ?_
  rintro _ wx31 ⟨r27, r28, r29, vx33, hx34, H, rfl, x32, o35, ex36, f37, ex38⟩
  obtain ⟨a42, c43, rfl⟩ := o35.shape
  refine LP_ev ok 6 [(19, .pointer (some ⟨b, 0, none⟩)), (20, I (wr (1 + r2))), (21, I (wr ((wr (1 + r2)) + 2)))] 9 rfl rfl ?_
  have ex47 := (ex30.but x32 (Dj.box (Dj.of_fresh ex f).symm))
  refine LP_call 9 rfl rfl rfl cal_130 rfl (spec_l1Cur_pick_w _ _ _ H wx31 r ex47 ex38 (Dj.box (Dj.of_fresh ex f).symm)) ?_
  rintro _ wx48 ⟨r44, r45, r46, H, rfl, x49, ex50⟩
  refine LP_ev ok 10 [(23, I (wr (r44 - 1))), (2, .slice a25 (List.length r11) c26), (3, .slice a42 (List.length r27) c43), (4, I (wr (r44 - 1)))] 14 rfl rfl ?_
  refine LP_end _ rfl ?_
  try refine W_forget [(2, .slice a25 (List.length r11) c26), (3, .slice a42 (List.length r27) c43), (4, I (wr (r44 - 1)))] ⟨rfl, rfl, rfl, trivial⟩ fun ρ => ?_
  refine W_ret ?_
  have ex54 := ((ex19.but x32 (Dj.box (Dj.of_fresh ex8 f20))).but x49 (Dj.box (Dj.of_fresh ex8 f20)))
  have f56 := f.mono X.size
  have X57 := ((X.stepx x).step x7 (f56.dom _))
  have f55 := f20.mono X57.size
  have ex58 := (ex36.but x49 (Dj.box (Dj.of_fresh ex21 f37)))
  have X60 := (X57.step x16 ((Fresh.box f56).dom _))
  have f59 := f37.mono X60.size
  have X61 := ((X60.step x32 ((Fresh.box f56).dom _)).step x49 ((Fresh.box f56).dom _))
  exact ⟨_, Ret_of [.slice a25 (List.length r11) c26, .slice a42 (List.length r27) c43, I (wr (r44 - 1))] ⟨⟨rfl, rfl⟩, ⟨rfl, rfl⟩, ⟨rfl, rfl⟩, trivial⟩, _, _, _, _, _, _, _, H, rfl, X61.ext, o, ex54, f55, o35, ex58, f59⟩

set_option maxRecDepth 8000 in
set_option maxHeartbeats 4000000 in
theorem impl_SumFracs_w (l : List Frac) (Q : Frac → Bool → Prop) (H : impl_SumFracs l Q) (w : World) {vx : Value} {hx : PH} (r : RS hx vx l) (ex : Sub hx w) :
    CallsTo Try.prog 68 #[vx] w fun v w' => ∃ r0 r1, Q r0 r1 ∧ v = .tuple #[.agg #[I r0.Num, I r0.Den], .bool r1] ∧ Ext w w' := by
  obtain ⟨a, c, rfl⟩ := r.shape
  refine enter (args := [.slice a (List.length l) c]) 32 Try.func68 rfl rfl rfl ?_
  refine W_forget [(0, .slice a (List.length l) c)] ⟨rfl, trivial⟩ fun ρ => ?_
  have X := But.refl emp w
  refine W_seq ?_
  refine W_region ?_
  refine LP_alloc 0 rfl rfl rfl ti_34 rfl fun b wx x ex1 f => ?_
  refine LP_ev ok 1 [(3, .bool false)] 2 rfl rfl ?_
  refine LP_end _ rfl ?_
  refine W_seq ?_
  refine W_seq ?_
  refine W_region ?_
  refine LP_ev ok 0 [(9, .slice a (List.length l) c), (10, I (ln l)), (11, .bool (decide ((ln l) > 100)))] 3 rfl rfl ?_
  refine LP_end _ rfl ?_
  refine W_cond (decide ((ln l) > 100)) rfl (fun hc => ?_) (fun hc => ?_)
  · have H := H.1 hc
    refine W_seq ?_
    refine W_region ?_
    refine LP_ev ok 0 [(12, .agg #[I 0, I 0])] 1 rfl rfl ?_
    refine LP_stbox 1 (vs := [I 0, I 0]) (cs' := [I 0, I 0]) rfl rfl rfl ti_34 rfl rfl rfl rfl rfl ex1 rfl rfl fun wx2 ex3 y => ?_
    refine LP_ev ok 2 [(3, .bool false)] 3 rfl rfl ?_
    refine LP_end _ rfl ?_
    refine W_ret ?_
    have f4 := f.mono X.size
    have X5 := ((X.stepx x).step y (f4.dom _))
    exact ⟨_, Ret_of [.agg #[I 0, I 0], .bool false] ⟨⟨_, rfl, rfl, ld_res ti_34 ag_34 (fun h => by cases h) ex3 rfl rfl⟩, ⟨rfl, rfl⟩, trivial⟩, _, _, H, rfl, X5.ext⟩
  have H := H.2 hc
  refine W_skip ?_
  refine W_seq ?_
  refine W_region ?_
  refine LP_ev ok 0 [(13, .agg #[I 0, I 1])] 1 rfl rfl ?_
  refine LP_alloc 1 rfl rfl rfl ti_34 rfl fun b6 wx7 x8 ex9 f10 => ?_
  refine LP_stbox 2 (vs := [I 0, I 1]) (cs' := [I 0, I 1]) rfl rfl rfl ti_34 rfl rfl rfl rfl rfl ex9 rfl rfl fun wx11 ex12 y13 => ?_
  refine LP_end _ rfl ?_
  refine W_seq ?_
  refine W_seq ?_
  refine W_region ?_
  refine LP_ev ok 0 [(14, .slice a (List.length l) c), (15, I (ln l)), (16, I 0)] 3 rfl rfl ?_
  refine LP_end _ rfl ?_
  refine W_block ?_
  obtain ⟨J, m, Hx, H⟩ := H
  have X21 := (X.stepx x)
  have f20 := f10.mono X21.size
  have X22 := (((X.stepx x).stepx x8).step y13 (f20.dom _))
  have ex23 := (ex.ext x)
  have ex24 := (((ex.ext x).ext x8).but y13 (Dj.of_fresh ex23 f10).symm)
  have ex25 := ((ex1.ext x8).but y13 (Dj.of_fresh ex1 f10).symm)
  refine W_loop (S := Int × Int × Int) (fun s ρ' w' => J s.1 s.2.1 s.2.2 ∧ ∃ (ρ : Env), ρ' = setAll [(2, .pointer (some ⟨b, 0, none⟩)), (4, .pointer (some ⟨b6, 0, none⟩)), (14, .slice a (List.length l) c), (15, I (ln l)), (16, I s.1)] ρ ∧ But emp w w' ∧ Sub hx w' ∧ Sub (bx b 34 [I 0, I 0]) w' ∧ Sub (bx b6 34 [I s.2.1, I s.2.2]) w') (fun s => m s.1 s.2.1 s.2.2) (0, 0, 1) ⟨Hx, _, env_eq ⟨rfl, rfl, rfl, rfl, rfl, trivial⟩, X22, ex24, ex25, ex12⟩ ?_
  rintro ⟨x14, num, den⟩ _ wx15 ⟨Hi, ρ, rfl, X19, ex16, ex17, ex18⟩
  have H := H x14 num den Hi
  refine W_seq ?_
  refine W_region ?_
  refine LP_ev ok 0 [(17, .bool (decide (x14 < (ln l))))] 1 rfl rfl ?_
  refine LP_end _ rfl ?_
  refine W_seq ?_
  refine W_cond (decide (x14 < (ln l))) rfl (fun hc26 => ?_) (fun hc26 => ?_)
  · have H := H.1 hc26
    refine W_skip ?_
    refine W_seq ?_
    refine W_block ?_
    refine W_seq ?_
    refine W_region ?_
    obtain ⟨x27, hi, hx28, H⟩ := H
    refine LP_index 0 rfl rfl rfl Try.underlying44 ti_34 rfl rfl r hi hx28 fun a29 cs r30 d => ?_
    refine LP_load 1 rfl rfl rfl ti_34 ag_34 rfl r30 d ex16 fun vx31 r32 => ?_
    obtain rfl := Frac_rv r32
    refine LP_alloc 2 rfl rfl rfl ti_34 rfl fun b33 wx34 x35 ex36 f37 => ?_
    refine LP_stbox 3 (vs := [I x27.Num, I x27.Den]) (cs' := [I x27.Num, I x27.Den]) rfl rfl rfl ti_34 rfl rfl rfl rfl rfl ex36 rfl rfl fun wx38 ex39 y40 => ?_
    refine LP_end _ rfl ?_
    refine W_seq ?_
    refine W_region ?_
    have ex41 := ((ex18.ext x35).but y40 (Dj.of_fresh ex18 f37).symm)
    refine LP_ldbox 0 (v := .agg #[I num, I den]) rfl rfl rfl ti_34 ag_34 (fun h => by cases h) rfl ex41 rfl rfl ?_
    refine LP_ldbox 1 (v := .agg #[I x27.Num, I x27.Den]) rfl rfl rfl ti_34 ag_34 (fun h => by cases h) rfl ex39 rfl rfl ?_
    refine LP_call 2 rfl rfl rfl cal_115 rfl (impl_AddFrac_w _ _ _ H wx38 ) ?_
    rintro _ wx44 ⟨r42, r43, H, rfl, x45⟩
    refine LP_ev ok 3 [(20, .tuple #[.agg #[I r42.Num, I r42.Den], .bool r43]), (24, .agg #[I r42.Num, I r42.Den]), (25, .bool r43)] 6 rfl rfl ?_
    refine LP_alloc 6 rfl rfl rfl ti_34 rfl fun b46 wx47 x48 ex49 f50 => ?_
    refine LP_stbox 7 (vs := [I r42.Num, I r42.Den]) (cs' := [I r42.Num, I r42.Den]) rfl rfl rfl ti_34 rfl rfl rfl rfl rfl ex49 rfl rfl fun wx51 ex52 y53 => ?_
    refine LP_ev ok 8 [(8, .bool r43)] 9 rfl rfl ?_
    refine LP_end _ rfl ?_
    refine W_seq ?_
    refine W_seq ?_
    refine W_region ?_
    refine LP_ev ok 0 [(26, .bool r43), (27, .bool (!r43))] 2 rfl rfl ?_
    refine LP_end _ rfl ?_
    refine W_cond (!r43) rfl (fun hc54 => ?_) (fun hc54 => ?_)
    · have H := H.1 hc54
      refine W_seq ?_
      refine W_region ?_
      refine LP_ev ok 0 [(28, .agg #[I 0, I 0])] 1 rfl rfl ?_
      have ex58 := (((ex17.ext x35).but y40 (Dj.of_fresh ex17 f37).symm).ext x45)
      have ex59 := (((((ex17.ext x35).but y40 (Dj.of_fresh ex17 f37).symm).ext x45).ext x48).but y53 (Dj.of_fresh ex58 f50).symm)
      refine LP_stbox 1 (vs := [I 0, I 0]) (cs' := [I 0, I 0]) rfl rfl rfl ti_34 rfl rfl rfl rfl rfl ex59 rfl rfl fun wx55 ex56 y57 => ?_
      refine LP_ev ok 2 [(3, .bool false)] 3 rfl rfl ?_
      refine LP_end _ rfl ?_
      refine W_ret ?_
      have f60 := f37.mono X19.size
      have X62 := (((X19.stepx x35).step y40 (f60.dom _)).stepx x45)
      have f61 := f50.mono X62.size
      have f63 := f.mono X.size
      have X64 := ((((((X19.stepx x35).step y40 (f60.dom _)).stepx x45).stepx x48).step y53 (f61.dom _)).step y57 (f63.dom _))
      exact ⟨_, Ret_of [.agg #[I 0, I 0], .bool false] ⟨⟨_, rfl, rfl, ld_res ti_34 ag_34 (fun h => by cases h) ex56 rfl rfl⟩, ⟨rfl, rfl⟩, trivial⟩, _, _, H, rfl, X64.ext⟩
    have H := H.2 hc54
    refine W_skip ?_
    refine W_region ?_
    refine LP_ldbox 0 (v := .agg #[I r42.Num, I r42.Den]) rfl rfl rfl ti_34 ag_34 (fun h => by cases h) rfl ex52 rfl rfl ?_
    have ex68 := (ex41.ext x45)
    have ex69 := (((ex41.ext x45).ext x48).but y53 (Dj.of_fresh ex68 f50).symm)
    refine LP_stbox 1 (vs := [I r42.Num, I r42.Den]) (cs' := [I r42.Num, I r42.Den]) rfl rfl rfl ti_34 rfl rfl rfl rfl rfl ex69 rfl rfl fun wx65 ex66 y67 => ?_
    refine LP_end _ rfl ?_
    refine W_region ?_
    refine LP_ev ok 0 [(30, I (wr (x14 + 1))), (16, I (wr (x14 + 1)))] 2 rfl rfl ?_
    refine LP_end _ rfl ?_
    have f70 := f37.mono X19.size
    have X72 := (((X19.stepx x35).step y40 (f70.dom _)).stepx x45)
    have f71 := f50.mono X72.size
    have X73 := ((((((X19.stepx x35).step y40 (f70.dom _)).stepx x45).stepx x48).step y53 (f71.dom _)).step y67 ((Fresh.box f20).dom _))
    have ex74 := (((ex16.ext x35).but y40 (Dj.of_fresh ex16 f37).symm).ext x45)
    have ex75 := (ex.ext x)
    have ex76 := ((((((ex16.ext x35).but y40 (Dj.of_fresh ex16 f37).symm).ext x45).ext x48).but y53 (Dj.of_fresh ex74 f50).symm).but y67 (Dj.box (Dj.of_fresh ex75 f10).symm))
    have ex77 := (((ex17.ext x35).but y40 (Dj.of_fresh ex17 f37).symm).ext x45)
    have ex78 := ((((((ex17.ext x35).but y40 (Dj.of_fresh ex17 f37).symm).ext x45).ext x48).but y53 (Dj.of_fresh ex77 f50).symm).but y67 (Dj.box (Dj.of_fresh ex1 f10).symm))
    exact ⟨(wr (x14 + 1), r42.Num, r42.Den), ⟨H.1, _, env_eq ⟨rfl, rfl, rfl, rfl, rfl, trivial⟩, X73, ex76, ex78, ex66⟩, H.2⟩
  have H := H.2 hc26
  refine W_exit ?_
  refine (if_pos rfl).mpr ?_
  refine W_seq ?_
  refine W_region ?_
  refine LP_ldbox 0 (v := .agg #[I num, I den]) rfl rfl rfl ti_34 ag_34 (fun h => by cases h) rfl ex18 rfl rfl ?_
  refine LP_stbox 1 (vs := [I num, I den]) (cs' := [I num, I den]) rfl rfl rfl ti_34 rfl rfl rfl rfl rfl ex17 rfl rfl fun wx79 ex80 y81 => ?_
  refine LP_ev ok 2 [(3, .bool true)] 3 rfl rfl ?_
  refine LP_end _ rfl ?_
  refine W_ret ?_
  have f82 := f.mono X.size
  have X83 := (X19.step y81 (f82.dom _))
  exact ⟨_, Ret_of [.agg #[I num, I den], .bool true] ⟨⟨_, rfl, rfl, ld_res ti_34 ag_34 (fun h => by cases h) ex80 rfl rfl⟩, ⟨rfl, rfl⟩, trivial⟩, _, _, H, rfl, X83.ext⟩

set_option maxRecDepth 8000 in
set_option maxHeartbeats 4000000 in
theorem laws_FnProfiles_w (code : List B8) (more : List B8) (Q : Bool → Prop) (H : laws_FnProfiles code more Q) (w : World) {vx : Value} {hx : PH} (r : RS hx vx code) (ex : Sub hx w) {vx1 : Value} {hx2 : PH} (r3 : RS hx2 vx1 more) (ex4 : Sub hx2 w) :
    CallsTo Try.prog 18 #[vx, vx1] w fun v w' => ∃ r0, Q r0 ∧ v = .bool r0 ∧ Ext w w' := by
  obtain ⟨a, c, rfl⟩ := r.shape
  obtain ⟨a5, c6, rfl⟩ := r3.shape
  refine enter (args := [.slice a (List.length code) c, .slice a5 (List.length more) c6]) 195 Try.func18 rfl rfl rfl ?_
  refine W_forget [(0, .slice a (List.length code) c), (1, .slice a5 (List.length more) c6)] ⟨rfl, rfl, trivial⟩ fun ρ => ?_
  have X := But.refl emp w
  refine W_seq ?_
  refine W_region ?_
  refine LP_ev ok 0 [(4, .bool false)] 1 rfl rfl ?_
  refine LP_end _ rfl ?_
  refine W_seq ?_
  refine W_seq ?_
  refine W_region ?_
  refine LP_ev ok 0 [(33, .slice a (List.length code) c), (34, I (ln code)), (35, .slice a5 (List.length more) c6), (36, I (ln more)), (37, I (wr ((ln code) + (ln more)))), (38, .bool (decide ((wr ((ln code) + (ln more))) > 1048576)))] 6 rfl rfl ?_
  refine LP_end _ rfl ?_
  refine W_cond (decide ((wr ((ln code) + (ln more))) > 1048576)) rfl (fun hc => ?_) (fun hc => ?_)
  · have H := H.1 hc
    refine W_seq ?_
    refine W_region ?_
    refine LP_ev ok 0 [(4, .bool true)] 1 rfl rfl ?_
    refine LP_end _ rfl ?_
    refine W_ret ?_
    exact ⟨_, Ret_of [.bool true] ⟨⟨rfl, rfl⟩, trivial⟩, _, H, rfl, X.ext⟩
  have H := H.2 hc
  refine W_skip ?_
  refine W_seq ?_
  refine W_region ?_
  refine LP_ev ok 0 [(40, .slice a (List.length code) c)] 1 rfl rfl ?_
  refine LP_call 1 rfl rfl rfl cal_65 rfl (spec_DrawDissimilarityOf_w _ _ H w r ex) ?_
  rintro _ wx ⟨r7, r8, vx9, hx10, vx12, hx13, H, rfl, x, o, ex11, f, o14, ex15, f16⟩
  obtain ⟨a17, c18, rfl⟩ := o.shape
  obtain ⟨a19, c20, rfl⟩ := o14.shape
  refine LP_ev ok 2 [(39, .tuple #[.slice a17 (List.length r7) c18, .slice a19 (List.length r8) c20]), (42, .slice a17 (List.length r7) c18), (43, .slice a19 (List.length r8) c20), (5, .slice a17 (List.length r7) c18), (6, .slice a19 (List.length r8) c20)] 7 rfl rfl ?_
  refine LP_end _ rfl ?_
  refine W_seq ?_
  refine W_region ?_
  refine LP_ev ok 0 [(45, .slice a17 (List.length r7) c18), (46, .slice a19 (List.length r8) c20)] 2 rfl rfl ?_
  refine LP_call 2 rfl rfl rfl cal_56 rfl (impl_DissimilarityOf_w _ _ _ H wx o.readf ex11 o14.readf ex15) ?_
  rintro _ wx23 ⟨r21, r22, H, rfl, x24⟩
  refine LP_ev ok 3 [(44, .tuple #[.agg #[I r21.Num, I r21.Den], .bool r22]), (48, .agg #[I r21.Num, I r21.Den]), (49, .bool r22)] 6 rfl rfl ?_
  refine LP_alloc 6 rfl rfl rfl ti_34 rfl fun b wx25 x26 ex27 f28 => ?_
  refine LP_stbox 7 (vs := [I r21.Num, I r21.Den]) (cs' := [I r21.Num, I r21.Den]) rfl rfl rfl ti_34 rfl rfl rfl rfl rfl ex27 rfl rfl fun wx29 ex30 y => ?_
  refine LP_ev ok 8 [(8, .bool r22)] 9 rfl rfl ?_
  refine LP_end _ rfl ?_
  refine W_seq ?_
  refine W_region ?_
  refine LP_ev ok 0 [(51, .slice a17 (List.length r7) c18), (52, .slice a19 (List.length r8) c20)] 2 rfl rfl ?_
  have ex33 := (ex11.ext x24)
  have ex34 := (((ex11.ext x24).ext x26).but y (Dj.of_fresh ex33 f28).symm)
  have ex35 := (ex15.ext x24)
  have ex36 := (((ex15.ext x24).ext x26).but y (Dj.of_fresh ex35 f28).symm)
  refine LP_call 2 rfl rfl rfl cal_55 rfl (spec_DissimilarityOf_w _ _ _ H wx29 o.readf ex34 o14.readf ex36) ?_
  rintro _ wx37 ⟨r31, r32, H, rfl, x38⟩
  refine LP_ev ok 3 [(50, .tuple #[.agg #[I r31.Num, I r31.Den], .bool r32]), (54, .agg #[I r31.Num, I r31.Den]), (55, .bool r32)] 6 rfl rfl ?_
  refine LP_alloc 6 rfl rfl rfl ti_34 rfl fun b39 wx40 x41 ex42 f43 => ?_
  refine LP_stbox 7 (vs := [I r31.Num, I r31.Den]) (cs' := [I r31.Num, I r31.Den]) rfl rfl rfl ti_34 rfl rfl rfl rfl rfl ex42 rfl rfl fun wx44 ex45 y46 => ?_
  refine LP_ev ok 8 [(10, .bool r32)] 9 rfl rfl ?_
  refine LP_end _ rfl ?_
  try refine W_forget [(1, .slice a5 (List.length more) c6), (5, .slice a17 (List.length r7) c18), (6, .slice a19 (List.length r8) c20), (7, .pointer (some ⟨b, 0, none⟩)), (8, .bool r22), (9, .pointer (some ⟨b39, 0, none⟩)), (10, .bool r32)] ⟨rfl, rfl, rfl, rfl, rfl, rfl, rfl, trivial⟩ fun ρ => ?_
  refine W_seq ?_
  refine W_region ?_
  refine LP_ev ok 0 [(56, .slice a5 (List.length more) c6)] 1 rfl rfl ?_
  have ex48 := ((ex4.ext x).ext x24)
  have ex49 := (((ex48.ext x26).but y (Dj.of_fresh ex48 f28).symm).ext x38)
  have ex50 := (((((((ex4.ext x).ext x24).ext x26).but y (Dj.of_fresh ex48 f28).symm).ext x38).ext x41).but y46 (Dj.of_fresh ex49 f43).symm)
  refine LP_call 1 rfl rfl rfl cal_66 rfl (spec_DrawGiniOf_w _ _ H wx44 r3 ex50) ?_
  rintro _ wx51 ⟨r47, vx53, hx54, H, rfl, x52, o55, ex56, f57⟩
  obtain ⟨a58, c59, rfl⟩ := o55.shape
  refine LP_ev ok 2 [(11, .slice a58 (List.length r47) c59)] 3 rfl rfl ?_
  refine LP_end _ rfl ?_
  refine W_seq ?_
  refine W_region ?_
  refine LP_ev ok 0 [(59, .slice a58 (List.length r47) c59)] 1 rfl rfl ?_
  refine LP_call 1 rfl rfl rfl cal_31 rfl (impl_GiniOf_w _ _ H wx51 o55.readf ex56) ?_
  rintro _ wx62 ⟨r60, r61, H, rfl, x63⟩
  refine LP_ev ok 2 [(58, .tuple #[.agg #[I r60.Num, I r60.Den], .bool r61]), (61, .agg #[I r60.Num, I r60.Den]), (62, .bool r61)] 5 rfl rfl ?_
  refine LP_alloc 5 rfl rfl rfl ti_34 rfl fun b64 wx65 x66 ex67 f68 => ?_
  refine LP_stbox 6 (vs := [I r60.Num, I r60.Den]) (cs' := [I r60.Num, I r60.Den]) rfl rfl rfl ti_34 rfl rfl rfl rfl rfl ex67 rfl rfl fun wx69 ex70 y71 => ?_
  refine LP_ev ok 7 [(13, .bool r61)] 8 rfl rfl ?_
  refine LP_end _ rfl ?_
  refine W_seq ?_
  refine W_region ?_
  refine LP_ev ok 0 [(64, .slice a58 (List.length r47) c59)] 1 rfl rfl ?_
  have ex74 := (ex56.ext x63)
  have ex75 := (((ex56.ext x63).ext x66).but y71 (Dj.of_fresh ex74 f68).symm)
  refine LP_call 1 rfl rfl rfl cal_30 rfl (spec_GiniOf_w _ _ H wx69 o55.readf ex75) ?_
  rintro _ wx76 ⟨r72, r73, H, rfl, x77⟩
  refine LP_ev ok 2 [(63, .tuple #[.agg #[I r72.Num, I r72.Den], .bool r73]), (66, .agg #[I r72.Num, I r72.Den]), (67, .bool r73)] 5 rfl rfl ?_
  refine LP_alloc 5 rfl rfl rfl ti_34 rfl fun b78 wx79 x80 ex81 f82 => ?_
  refine LP_stbox 6 (vs := [I r72.Num, I r72.Den]) (cs' := [I r72.Num, I r72.Den]) rfl rfl rfl ti_34 rfl rfl rfl rfl rfl ex81 rfl rfl fun wx83 ex84 y85 => ?_
  refine LP_ev ok 7 [(15, .bool r73)] 8 rfl rfl ?_
  refine LP_end _ rfl ?_
  refine W_seq ?_
  refine W_region ?_
  refine LP_ev ok 0 [(69, .slice a58 (List.length r47) c59)] 1 rfl rfl ?_
  have ex88 := (ex75.ext x77)
  have ex89 := (((ex75.ext x77).ext x80).but y85 (Dj.of_fresh ex88 f82).symm)
  refine LP_call 1 rfl rfl rfl cal_54 rfl (impl_ConcentrationOf_w _ _ H wx83 o55.readf ex89) ?_
  rintro _ wx90 ⟨r86, r87, H, rfl, x91⟩
  refine LP_ev ok 2 [(68, .tuple #[.agg #[I r86.Num, I r86.Den], .bool r87]), (71, .agg #[I r86.Num, I r86.Den]), (72, .bool r87)] 5 rfl rfl ?_
  refine LP_alloc 5 rfl rfl rfl ti_34 rfl fun b92 wx93 x94 ex95 f96 => ?_
  refine LP_stbox 6 (vs := [I r86.Num, I r86.Den]) (cs' := [I r86.Num, I r86.Den]) rfl rfl rfl ti_34 rfl rfl rfl rfl rfl ex95 rfl rfl fun wx97 ex98 y99 => ?_
  refine LP_ev ok 7 [(17, .bool r87)] 8 rfl rfl ?_
  refine LP_end _ rfl ?_
  try refine W_forget [(1, .slice a5 (List.length more) c6), (5, .slice a17 (List.length r7) c18), (6, .slice a19 (List.length r8) c20), (7, .pointer (some ⟨b, 0, none⟩)), (8, .bool r22), (9, .pointer (some ⟨b39, 0, none⟩)), (10, .bool r32), (11, .slice a58 (List.length r47) c59), (12, .pointer (some ⟨b64, 0, none⟩)), (13, .bool r61), (14, .pointer (some ⟨b78, 0, none⟩)), (15, .bool r73), (16, .pointer (some ⟨b92, 0, none⟩)), (17, .bool r87)] ⟨rfl, rfl, rfl, rfl, rfl, rfl, rfl, rfl, rfl, rfl, rfl, rfl, rfl, rfl, trivial⟩ fun ρ => ?_
  refine W_seq ?_
  refine W_region ?_
  refine LP_ev ok 0 [(74, .slice a58 (List.length r47) c59)] 1 rfl rfl ?_
  have ex102 := (ex89.ext x91)
  have ex103 := (((ex89.ext x91).ext x94).but y99 (Dj.of_fresh ex102 f96).symm)
  refine LP_call 1 rfl rfl rfl cal_53 rfl (spec_ConcentrationOf_w _ _ H wx97 o55.readf ex103) ?_
  rintro _ wx104 ⟨r100, r101, H, rfl, x105⟩
  refine LP_ev ok 2 [(73, .tuple #[.agg #[I r100.Num, I r100.Den], .bool r101]), (76, .agg #[I r100.Num, I r100.Den]), (77, .bool r101)] 5 rfl rfl ?_
  refine LP_alloc 5 rfl rfl rfl ti_34 rfl fun b106 wx107 x108 ex109 f110 => ?_
  refine LP_stbox 6 (vs := [I r100.Num, I r100.Den]) (cs' := [I r100.Num, I r100.Den]) rfl rfl rfl ti_34 rfl rfl rfl rfl rfl ex109 rfl rfl fun wx111 ex112 y113 => ?_
  refine LP_ev ok 7 [(19, .bool r101)] 8 rfl rfl ?_
  refine LP_end _ rfl ?_
  refine W_seq ?_
  refine W_region ?_
  refine LP_ev ok 0 [(79, .slice a5 (List.length more) c6)] 1 rfl rfl ?_
  have ex117 := ((ex50.ext x52).ext x63)
  have ex118 := (((ex117.ext x66).but y71 (Dj.of_fresh ex117 f68).symm).ext x77)
  have ex119 := (((ex118.ext x80).but y85 (Dj.of_fresh ex118 f82).symm).ext x91)
  have ex120 := (((ex119.ext x94).but y99 (Dj.of_fresh ex119 f96).symm).ext x105)
  have ex121 := (((((((((((((ex50.ext x52).ext x63).ext x66).but y71 (Dj.of_fresh ex117 f68).symm).ext x77).ext x80).but y85 (Dj.of_fresh ex118 f82).symm).ext x91).ext x94).but y99 (Dj.of_fresh ex119 f96).symm).ext x105).ext x108).but y113 (Dj.of_fresh ex120 f110).symm)
  refine LP_call 1 rfl rfl rfl cal_67 rfl (spec_DrawQuotientOf_w _ _ H wx111 r3 ex121) ?_
  rintro _ wx122 ⟨r114, r115, r116, vx124, hx125, vx129, hx130, H, rfl, x123, o126, ex127, f128, o131, ex132, f133⟩
  obtain ⟨a134, c135, rfl⟩ := o126.shape
  obtain ⟨a136, c137, rfl⟩ := o131.shape
  refine LP_ev ok 2 [(78, .tuple #[.slice a134 (List.length r114) c135, .slice a136 (List.length r115) c137, I r116]), (81, .slice a134 (List.length r114) c135), (82, .slice a136 (List.length r115) c137), (83, I r116), (20, .slice a134 (List.length r114) c135), (21, .slice a136 (List.length r115) c137), (22, I r116)] 9 rfl rfl ?_
  refine LP_end _ rfl ?_
  refine W_seq ?_
  refine W_region ?_
  refine LP_ev ok 0 [(85, .slice a134 (List.length r114) c135), (86, .slice a136 (List.length r115) c137), (87, I r116)] 3 rfl rfl ?_
  refine LP_call 3 rfl rfl rfl cal_46 rfl (impl_QuotientOf_w _ _ _ _ H wx122 o126.readf ex127 o131.readf ex132) ?_
  rintro _ wx140 ⟨r138, r139, H, rfl, x141⟩
  refine LP_ev ok 4 [(84, .tuple #[.agg #[I r138.Num, I r138.Den], .bool r139]), (89, .agg #[I r138.Num, I r138.Den]), (90, .bool r139)] 7 rfl rfl ?_
  refine LP_alloc 7 rfl rfl rfl ti_34 rfl fun b142 wx143 x144 ex145 f146 => ?_
  refine LP_stbox 8 (vs := [I r138.Num, I r138.Den]) (cs' := [I r138.Num, I r138.Den]) rfl rfl rfl ti_34 rfl rfl rfl rfl rfl ex145 rfl rfl fun wx147 ex148 y149 => ?_
  refine LP_ev ok 9 [(24, .bool r139)] 10 rfl rfl ?_
  refine LP_end _ rfl ?_
  try refine W_forget [(5, .slice a17 (List.length r7) c18), (6, .slice a19 (List.length r8) c20), (7, .pointer (some ⟨b, 0, none⟩)), (8, .bool r22), (9, .pointer (some ⟨b39, 0, none⟩)), (10, .bool r32), (11, .slice a58 (List.length r47) c59), (12, .pointer (some ⟨b64, 0, none⟩)), (13, .bool r61), (14, .pointer (some ⟨b78, 0, none⟩)), (15, .bool r73), (16, .pointer (some ⟨b92, 0, none⟩)), (17, .bool r87), (18, .pointer (some ⟨b106, 0, none⟩)), (19, .bool r101), (20, .slice a134 (List.length r114) c135), (21, .slice a136 (List.length r115) c137), (22, I r116), (23, .pointer (some ⟨b142, 0, none⟩)), (24, .bool r139)] ⟨rfl, rfl, rfl, rfl, rfl, rfl, rfl, rfl, rfl, rfl, rfl, rfl, rfl, rfl, rfl, rfl, rfl, rfl, rfl, rfl, trivial⟩ fun ρ => ?_
  refine W_seq ?_
  refine W_region ?_
  refine LP_ev ok 0 [(92, .slice a134 (List.length r114) c135), (93, .slice a136 (List.length r115) c137), (94, I r116)] 3 rfl rfl ?_
  have ex152 := (ex127.ext x141)
  have ex153 := (((ex127.ext x141).ext x144).but y149 (Dj.of_fresh ex152 f146).symm)
  have ex154 := (ex132.ext x141)
  have ex155 := (((ex132.ext x141).ext x144).but y149 (Dj.of_fresh ex154 f146).symm)
  refine LP_call 3 rfl rfl rfl cal_45 rfl (spec_QuotientOf_w _ _ _ _ H wx147 o126.readf ex153 o131.readf ex155) ?_
  rintro _ wx156 ⟨r150, r151, H, rfl, x157⟩
  refine LP_ev ok 4 [(91, .tuple #[.agg #[I r150.Num, I r150.Den], .bool r151]), (96, .agg #[I r150.Num, I r150.Den]), (97, .bool r151)] 7 rfl rfl ?_
  refine LP_alloc 7 rfl rfl rfl ti_34 rfl fun b158 wx159 x160 ex161 f162 => ?_
  refine LP_stbox 8 (vs := [I r150.Num, I r150.Den]) (cs' := [I r150.Num, I r150.Den]) rfl rfl rfl ti_34 rfl rfl rfl rfl rfl ex161 rfl rfl fun wx163 ex164 y165 => ?_
  refine LP_ev ok 9 [(26, .bool r151)] 10 rfl rfl ?_
  refine LP_end _ rfl ?_
  refine W_seq ?_
  obtain ⟨k, hk, H⟩ := jn_elim H
  refine W_join2 (S := Bool) (fun s ρ' w' => k s ∧ ∃ (ρ : Env), ρ' = setAll [(5, .slice a17 (List.length r7) c18), (6, .slice a19 (List.length r8) c20), (7, .pointer (some ⟨b, 0, none⟩)), (8, .bool r22), (11, .slice a58 (List.length r47) c59), (12, .pointer (some ⟨b64, 0, none⟩)), (13, .bool r61), (135, .bool s)] ρ ∧ wx163 = w') ?_ ?_
  · refine W_region ?_
    refine LP_ev ok 0 [(98, .bool r22), (99, .bool r32), (100, .bool (r22 != r32)), (101, .bool (r22 != r32))] 4 rfl rfl ?_
    refine LP_split 101 (r22 != r32) rfl (fun hc168 => ?_) (fun hc168 => ?_)
    · have H := H.1 hc168
      refine LP_ev ok 4 [(102, undef), (103, undef), (104, undef), (105, .bool true), (106, .bool true), (107, undef), (108, undef), (109, undef), (110, .bool true), (111, .bool true), (112, undef), (113, undef), (114, undef), (115, .bool true), (116, .bool true), (117, undef), (118, undef), (119, undef), (120, .bool true), (121, .bool true), (122, undef), (123, undef), (124, undef), (125, .bool true), (126, .bool true), (127, undef), (128, undef), (129, undef), (130, .bool true), (131, .bool true), (132, undef), (133, undef), (134, undef), (135, .bool true)] 38 rfl rfl ?_
      refine LP_end _ rfl ?_
      try refine W_forget [(5, .slice a17 (List.length r7) c18), (6, .slice a19 (List.length r8) c20), (7, .pointer (some ⟨b, 0, none⟩)), (8, .bool r22), (11, .slice a58 (List.length r47) c59), (12, .pointer (some ⟨b64, 0, none⟩)), (13, .bool r61), (135, .bool true)] ⟨rfl, rfl, rfl, rfl, rfl, rfl, rfl, rfl, trivial⟩ fun ρ => ?_
      exact ⟨true, H, _, env_eq ⟨rfl, rfl, rfl, rfl, rfl, rfl, rfl, rfl, trivial⟩, rfl⟩
    have H := H.2 hc168
    have ex169 := (ex30.ext x38)
    have ex170 := ((((ex169.ext x41).but y46 (Dj.of_fresh ex169 f43).symm).ext x52).ext x63)
    have ex171 := (((ex170.ext x66).but y71 (Dj.of_fresh ex170 f68).symm).ext x77)
    have ex172 := (((ex171.ext x80).but y85 (Dj.of_fresh ex171 f82).symm).ext x91)
    have ex173 := (((ex172.ext x94).but y99 (Dj.of_fresh ex172 f96).symm).ext x105)
    have ex174 := ((((ex173.ext x108).but y113 (Dj.of_fresh ex173 f110).symm).ext x123).ext x141)
    have ex175 := (((ex174.ext x144).but y149 (Dj.of_fresh ex174 f146).symm).ext x157)
    have ex176 := (((((((((((((((((((((((ex30.ext x38).ext x41).but y46 (Dj.of_fresh ex169 f43).symm).ext x52).ext x63).ext x66).but y71 (Dj.of_fresh ex170 f68).symm).ext x77).ext x80).but y85 (Dj.of_fresh ex171 f82).symm).ext x91).ext x94).but y99 (Dj.of_fresh ex172 f96).symm).ext x105).ext x108).but y113 (Dj.of_fresh ex173 f110).symm).ext x123).ext x141).ext x144).but y149 (Dj.of_fresh ex174 f146).symm).ext x157).ext x160).but y165 (Dj.of_fresh ex175 f162).symm)
    refine LP_ldbox 4 (v := .agg #[I r21.Num, I r21.Den]) rfl rfl rfl ti_34 ag_34 (fun h => by cases h) rfl ex176 rfl rfl ?_
    have ex177 := ((ex45.ext x52).ext x63)
    have ex178 := (((ex177.ext x66).but y71 (Dj.of_fresh ex177 f68).symm).ext x77)
    have ex179 := (((ex178.ext x80).but y85 (Dj.of_fresh ex178 f82).symm).ext x91)
    have ex180 := (((ex179.ext x94).but y99 (Dj.of_fresh ex179 f96).symm).ext x105)
    have ex181 := ((((ex180.ext x108).but y113 (Dj.of_fresh ex180 f110).symm).ext x123).ext x141)
    have ex182 := (((ex181.ext x144).but y149 (Dj.of_fresh ex181 f146).symm).ext x157)
    have ex183 := ((((((((((((((((((((ex45.ext x52).ext x63).ext x66).but y71 (Dj.of_fresh ex177 f68).symm).ext x77).ext x80).but y85 (Dj.of_fresh ex178 f82).symm).ext x91).ext x94).but y99 (Dj.of_fresh ex179 f96).symm).ext x105).ext x108).but y113 (Dj.of_fresh ex180 f110).symm).ext x123).ext x141).ext x144).but y149 (Dj.of_fresh ex181 f146).symm).ext x157).ext x160).but y165 (Dj.of_fresh ex182 f162).symm)
    refine LP_ldbox 5 (v := .agg #[I r31.Num, I r31.Den]) rfl rfl rfl ti_34 ag_34 (fun h => by cases h) rfl ex183 rfl rfl ?_
    refine LP_val 6 _ rfl rfl (ex_eq2n eq_34 rfl rfl rfl _) ?_
    refine LP_ev ok 7 [(105, .bool (!((r21.Num == r31.Num) && (r21.Den == r31.Den)))), (106, .bool (!((r21.Num == r31.Num) && (r21.Den == r31.Den))))] 9 rfl rfl ?_
    refine LP_split 106 (!((r21.Num == r31.Num) && (r21.Den == r31.Den))) rfl (fun hc184 => ?_) (fun hc184 => ?_)
    · have H := H.1 hc184
      refine LP_ev ok 9 [(107, undef), (108, undef), (109, undef), (110, .bool true), (111, .bool true), (112, undef), (113, undef), (114, undef), (115, .bool true), (116, .bool true), (117, undef), (118, undef), (119, undef), (120, .bool true), (121, .bool true), (122, undef), (123, undef), (124, undef), (125, .bool true), (126, .bool true), (127, undef), (128, undef), (129, undef), (130, .bool true), (131, .bool true), (132, undef), (133, undef), (134, undef), (135, .bool true)] 38 rfl rfl ?_
      refine LP_end _ rfl ?_
      try refine W_forget [(5, .slice a17 (List.length r7) c18), (6, .slice a19 (List.length r8) c20), (7, .pointer (some ⟨b, 0, none⟩)), (8, .bool r22), (11, .slice a58 (List.length r47) c59), (12, .pointer (some ⟨b64, 0, none⟩)), (13, .bool r61), (135, .bool true)] ⟨rfl, rfl, rfl, rfl, rfl, rfl, rfl, rfl, trivial⟩ fun ρ => ?_
      exact ⟨true, H, _, env_eq ⟨rfl, rfl, rfl, rfl, rfl, rfl, rfl, rfl, trivial⟩, rfl⟩
    have H := H.2 hc184
    refine LP_ev ok 9 [(107, .bool r61), (108, .bool r73), (109, .bool (r61 != r73)), (110, .bool (r61 != r73)), (111, .bool (r61 != r73))] 14 rfl rfl ?_
    refine LP_split 111 (r61 != r73) rfl (fun hc185 => ?_) (fun hc185 => ?_)
    · have H := H.1 hc185
      refine LP_ev ok 14 [(112, undef), (113, undef), (114, undef), (115, .bool true), (116, .bool true), (117, undef), (118, undef), (119, undef), (120, .bool true), (121, .bool true), (122, undef), (123, undef), (124, undef), (125, .bool true), (126, .bool true), (127, undef), (128, undef), (129, undef), (130, .bool true), (131, .bool true), (132, undef), (133, undef), (134, undef), (135, .bool true)] 38 rfl rfl ?_
      refine LP_end _ rfl ?_
      try refine W_forget [(5, .slice a17 (List.length r7) c18), (6, .slice a19 (List.length r8) c20), (7, .pointer (some ⟨b, 0, none⟩)), (8, .bool r22), (11, .slice a58 (List.length r47) c59), (12, .pointer (some ⟨b64, 0, none⟩)), (13, .bool r61), (135, .bool true)] ⟨rfl, rfl, rfl, rfl, rfl, rfl, rfl, rfl, trivial⟩ fun ρ => ?_
      exact ⟨true, H, _, env_eq ⟨rfl, rfl, rfl, rfl, rfl, rfl, rfl, rfl, trivial⟩, rfl⟩
    have H := H.2 hc185
    have ex186 := (ex70.ext x77)
    have ex187 := (((ex186.ext x80).but y85 (Dj.of_fresh ex186 f82).symm).ext x91)
    have ex188 := (((ex187.ext x94).but y99 (Dj.of_fresh ex187 f96).symm).ext x105)
    have ex189 := ((((ex188.ext x108).but y113 (Dj.of_fresh ex188 f110).symm).ext x123).ext x141)
    have ex190 := (((ex189.ext x144).but y149 (Dj.of_fresh ex189 f146).symm).ext x157)
    have ex191 := ((((((((((((((((ex70.ext x77).ext x80).but y85 (Dj.of_fresh ex186 f82).symm).ext x91).ext x94).but y99 (Dj.of_fresh ex187 f96).symm).ext x105).ext x108).but y113 (Dj.of_fresh ex188 f110).symm).ext x123).ext x141).ext x144).but y149 (Dj.of_fresh ex189 f146).symm).ext x157).ext x160).but y165 (Dj.of_fresh ex190 f162).symm)
    refine LP_ldbox 14 (v := .agg #[I r60.Num, I r60.Den]) rfl rfl rfl ti_34 ag_34 (fun h => by cases h) rfl ex191 rfl rfl ?_
    have ex192 := (ex84.ext x91)
    have ex193 := (((ex192.ext x94).but y99 (Dj.of_fresh ex192 f96).symm).ext x105)
    have ex194 := ((((ex193.ext x108).but y113 (Dj.of_fresh ex193 f110).symm).ext x123).ext x141)
    have ex195 := (((ex194.ext x144).but y149 (Dj.of_fresh ex194 f146).symm).ext x157)
    have ex196 := (((((((((((((ex84.ext x91).ext x94).but y99 (Dj.of_fresh ex192 f96).symm).ext x105).ext x108).but y113 (Dj.of_fresh ex193 f110).symm).ext x123).ext x141).ext x144).but y149 (Dj.of_fresh ex194 f146).symm).ext x157).ext x160).but y165 (Dj.of_fresh ex195 f162).symm)
    refine LP_ldbox 15 (v := .agg #[I r72.Num, I r72.Den]) rfl rfl rfl ti_34 ag_34 (fun h => by cases h) rfl ex196 rfl rfl ?_
    refine LP_val 16 _ rfl rfl (ex_eq2n eq_34 rfl rfl rfl _) ?_
    refine LP_ev ok 17 [(115, .bool (!((r60.Num == r72.Num) && (r60.Den == r72.Den)))), (116, .bool (!((r60.Num == r72.Num) && (r60.Den == r72.Den))))] 19 rfl rfl ?_
    refine LP_split 116 (!((r60.Num == r72.Num) && (r60.Den == r72.Den))) rfl (fun hc197 => ?_) (fun hc197 => ?_)
    · have H := H.1 hc197
      refine LP_ev ok 19 [(117, undef), (118, undef), (119, undef), (120, .bool true), (121, .bool true), (122, undef), (123, undef), (124, undef), (125, .bool true), (126, .bool true), (127, undef), (128, undef), (129, undef), (130, .bool true), (131, .bool true), (132, undef), (133, undef), (134, undef), (135, .bool true)] 38 rfl rfl ?_
      refine LP_end _ rfl ?_
      try refine W_forget [(5, .slice a17 (List.length r7) c18), (6, .slice a19 (List.length r8) c20), (7, .pointer (some ⟨b, 0, none⟩)), (8, .bool r22), (11, .slice a58 (List.length r47) c59), (12, .pointer (some ⟨b64, 0, none⟩)), (13, .bool r61), (135, .bool true)] ⟨rfl, rfl, rfl, rfl, rfl, rfl, rfl, rfl, trivial⟩ fun ρ => ?_
      exact ⟨true, H, _, env_eq ⟨rfl, rfl, rfl, rfl, rfl, rfl, rfl, rfl, trivial⟩, rfl⟩
    have H := H.2 hc197
    refine LP_ev ok 19 [(117, .bool r87), (118, .bool r101), (119, .bool (r87 != r101)), (120, .bool (r87 != r101)), (121, .bool (r87 != r101))] 24 rfl rfl ?_
    refine LP_split 121 (r87 != r101) rfl (fun hc198 => ?_) (fun hc198 => ?_)
    · have H := H.1 hc198
      refine LP_ev ok 24 [(122, undef), (123, undef), (124, undef), (125, .bool true), (126, .bool true), (127, undef), (128, undef), (129, undef), (130, .bool true), (131, .bool true), (132, undef), (133, undef), (134, undef), (135, .bool true)] 38 rfl rfl ?_
      refine LP_end _ rfl ?_
      try refine W_forget [(5, .slice a17 (List.length r7) c18), (6, .slice a19 (List.length r8) c20), (7, .pointer (some ⟨b, 0, none⟩)), (8, .bool r22), (11, .slice a58 (List.length r47) c59), (12, .pointer (some ⟨b64, 0, none⟩)), (13, .bool r61), (135, .bool true)] ⟨rfl, rfl, rfl, rfl, rfl, rfl, rfl, rfl, trivial⟩ fun ρ => ?_
      exact ⟨true, H, _, env_eq ⟨rfl, rfl, rfl, rfl, rfl, rfl, rfl, rfl, trivial⟩, rfl⟩
    have H := H.2 hc198
    have ex199 := (ex98.ext x105)
    have ex200 := ((((ex199.ext x108).but y113 (Dj.of_fresh ex199 f110).symm).ext x123).ext x141)
    have ex201 := (((ex200.ext x144).but y149 (Dj.of_fresh ex200 f146).symm).ext x157)
    have ex202 := ((((((((((ex98.ext x105).ext x108).but y113 (Dj.of_fresh ex199 f110).symm).ext x123).ext x141).ext x144).but y149 (Dj.of_fresh ex200 f146).symm).ext x157).ext x160).but y165 (Dj.of_fresh ex201 f162).symm)
    refine LP_ldbox 24 (v := .agg #[I r86.Num, I r86.Den]) rfl rfl rfl ti_34 ag_34 (fun h => by cases h) rfl ex202 rfl rfl ?_
    have ex203 := ((ex112.ext x123).ext x141)
    have ex204 := (((ex203.ext x144).but y149 (Dj.of_fresh ex203 f146).symm).ext x157)
    have ex205 := (((((((ex112.ext x123).ext x141).ext x144).but y149 (Dj.of_fresh ex203 f146).symm).ext x157).ext x160).but y165 (Dj.of_fresh ex204 f162).symm)
    refine LP_ldbox 25 (v := .agg #[I r100.Num, I r100.Den]) rfl rfl rfl ti_34 ag_34 (fun h => by cases h) rfl ex205 rfl rfl ?_
    refine LP_val 26 _ rfl rfl (ex_eq2n eq_34 rfl rfl rfl _) ?_
    refine LP_ev ok 27 [(125, .bool (!((r86.Num == r100.Num) && (r86.Den == r100.Den)))), (126, .bool (!((r86.Num == r100.Num) && (r86.Den == r100.Den))))] 29 rfl rfl ?_
    refine LP_split 126 (!((r86.Num == r100.Num) && (r86.Den == r100.Den))) rfl (fun hc206 => ?_) (fun hc206 => ?_)
    · have H := H.1 hc206
      refine LP_ev ok 29 [(127, undef), (128, undef), (129, undef), (130, .bool true), (131, .bool true), (132, undef), (133, undef), (134, undef), (135, .bool true)] 38 rfl rfl ?_
      refine LP_end _ rfl ?_
      try refine W_forget [(5, .slice a17 (List.length r7) c18), (6, .slice a19 (List.length r8) c20), (7, .pointer (some ⟨b, 0, none⟩)), (8, .bool r22), (11, .slice a58 (List.length r47) c59), (12, .pointer (some ⟨b64, 0, none⟩)), (13, .bool r61), (135, .bool true)] ⟨rfl, rfl, rfl, rfl, rfl, rfl, rfl, rfl, trivial⟩ fun ρ => ?_
      exact ⟨true, H, _, env_eq ⟨rfl, rfl, rfl, rfl, rfl, rfl, rfl, rfl, trivial⟩, rfl⟩
    have H := H.2 hc206
    refine LP_ev ok 29 [(127, .bool r139), (128, .bool r151), (129, .bool (r139 != r151)), (130, .bool (r139 != r151)), (131, .bool (r139 != r151))] 34 rfl rfl ?_
    refine LP_split 131 (r139 != r151) rfl (fun hc207 => ?_) (fun hc207 => ?_)
    · have H := H.1 hc207
      refine LP_ev ok 34 [(132, undef), (133, undef), (134, undef), (135, .bool true)] 38 rfl rfl ?_
      refine LP_end _ rfl ?_
      try refine W_forget [(5, .slice a17 (List.length r7) c18), (6, .slice a19 (List.length r8) c20), (7, .pointer (some ⟨b, 0, none⟩)), (8, .bool r22), (11, .slice a58 (List.length r47) c59), (12, .pointer (some ⟨b64, 0, none⟩)), (13, .bool r61), (135, .bool true)] ⟨rfl, rfl, rfl, rfl, rfl, rfl, rfl, rfl, trivial⟩ fun ρ => ?_
      exact ⟨true, H, _, env_eq ⟨rfl, rfl, rfl, rfl, rfl, rfl, rfl, rfl, trivial⟩, rfl⟩
    have H := H.2 hc207
    have ex208 := (ex148.ext x157)
    have ex209 := (((ex148.ext x157).ext x160).but y165 (Dj.of_fresh ex208 f162).symm)
    refine LP_ldbox 34 (v := .agg #[I r138.Num, I r138.Den]) rfl rfl rfl ti_34 ag_34 (fun h => by cases h) rfl ex209 rfl rfl ?_
    refine LP_ldbox 35 (v := .agg #[I r150.Num, I r150.Den]) rfl rfl rfl ti_34 ag_34 (fun h => by cases h) rfl ex164 rfl rfl ?_
    refine LP_val 36 _ rfl rfl (ex_eq2n eq_34 rfl rfl rfl _) ?_
    refine LP_ev ok 37 [(135, .bool (!((r138.Num == r150.Num) && (r138.Den == r150.Den))))] 38 rfl rfl ?_
    refine LP_end _ rfl ?_
    try refine W_forget [(5, .slice a17 (List.length r7) c18), (6, .slice a19 (List.length r8) c20), (7, .pointer (some ⟨b, 0, none⟩)), (8, .bool r22), (11, .slice a58 (List.length r47) c59), (12, .pointer (some ⟨b64, 0, none⟩)), (13, .bool r61), (135, .bool (!((r138.Num == r150.Num) && (r138.Den == r150.Den))))] ⟨rfl, rfl, rfl, rfl, rfl, rfl, rfl, rfl, trivial⟩ fun ρ => ?_
    exact ⟨!((r138.Num == r150.Num) && (r138.Den == r150.Den)), H, _, env_eq ⟨rfl, rfl, rfl, rfl, rfl, rfl, rfl, rfl, trivial⟩, rfl⟩
  rintro x166 _ _ ⟨H, ρ, rfl, rfl⟩
  subst hk
  refine W_cond (x166) rfl (fun hc210 => ?_) (fun hc210 => ?_)
  · have H := H.1 hc210
    refine W_seq ?_
    refine W_region ?_
    refine LP_ev ok 0 [(4, .bool false)] 1 rfl rfl ?_
    refine LP_end _ rfl ?_
    refine W_ret ?_
    have X212 := ((X.stepx x).stepx x24)
    have f211 := f28.mono X212.size
    have X214 := (((X212.stepx x26).step y (f211.dom _)).stepx x38)
    have f213 := f43.mono X214.size
    have X216 := ((((X214.stepx x41).step y46 (f213.dom _)).stepx x52).stepx x63)
    have f215 := f68.mono X216.size
    have X218 := (((X216.stepx x66).step y71 (f215.dom _)).stepx x77)
    have f217 := f82.mono X218.size
    have X220 := (((X218.stepx x80).step y85 (f217.dom _)).stepx x91)
    have f219 := f96.mono X220.size
    have X222 := (((X220.stepx x94).step y99 (f219.dom _)).stepx x105)
    have f221 := f110.mono X222.size
    have X224 := ((((X222.stepx x108).step y113 (f221.dom _)).stepx x123).stepx x141)
    have f223 := f146.mono X224.size
    have X226 := (((X224.stepx x144).step y149 (f223.dom _)).stepx x157)
    have f225 := f162.mono X226.size
    have X227 := (((((((((((((((((((((((((((X.stepx x).stepx x24).stepx x26).step y (f211.dom _)).stepx x38).stepx x41).step y46 (f213.dom _)).stepx x52).stepx x63).stepx x66).step y71 (f215.dom _)).stepx x77).stepx x80).step y85 (f217.dom _)).stepx x91).stepx x94).step y99 (f219.dom _)).stepx x105).stepx x108).step y113 (f221.dom _)).stepx x123).stepx x141).stepx x144).step y149 (f223.dom _)).stepx x157).stepx x160).step y165 (f225.dom _))
    exact ⟨_, Ret_of [.bool false] ⟨⟨rfl, rfl⟩, trivial⟩, _, H, rfl, X227.ext⟩
  have H := H.2 hc210
  refine W_skip ?_
  obtain ⟨k233, hk234, H⟩ := jn_elim H
  refine W_join2 (S := Unit) (fun s ρ' w' => k233 ∧ ∃ (ρ : Env), ρ' = setAll [(5, .slice a17 (List.length r7) c18), (6, .slice a19 (List.length r8) c20), (7, .pointer (some ⟨b, 0, none⟩)), (8, .bool r22)] ρ ∧ But emp w w' ∧ Sub hx10 w' ∧ Sub hx13 w' ∧ Sub (bx b 34 [I r21.Num, I r21.Den]) w') ?_ ?_
  · refine W_seq ?_
    refine W_region ?_
    refine LP_ev ok 0 [(136, .bool r61)] 1 rfl rfl ?_
    refine LP_end _ rfl ?_
    refine W_cond (r61) rfl (fun hc235 => ?_) (fun hc235 => ?_)
    · have H := H.1 hc235
      refine W_seq ?_
      refine W_region ?_
      refine LP_ev ok 0 [(138, .slice a58 (List.length r47) c59)] 1 rfl rfl ?_
      have ex238 := (ex103.ext x105)
      have ex239 := ((((ex238.ext x108).but y113 (Dj.of_fresh ex238 f110).symm).ext x123).ext x141)
      have ex240 := (((ex239.ext x144).but y149 (Dj.of_fresh ex239 f146).symm).ext x157)
      have ex241 := ((((((((((ex103.ext x105).ext x108).but y113 (Dj.of_fresh ex238 f110).symm).ext x123).ext x141).ext x144).but y149 (Dj.of_fresh ex239 f146).symm).ext x157).ext x160).but y165 (Dj.of_fresh ex240 f162).symm)
      refine LP_call 1 rfl rfl rfl cal_51 rfl (impl_CountShares_w _ _ H wx163 o55.readf ex241) ?_
      rintro _ wx242 ⟨r236, r237, vx244, hx245, H, rfl, x243, o246, ex247, f248⟩
      obtain ⟨a249, c250, rfl⟩ := o246.shape
      refine LP_ev ok 2 [(137, .tuple #[.slice a249 (List.length r236) c250, .bool r237]), (140, .slice a249 (List.length r236) c250), (141, .bool r237), (27, .slice a249 (List.length r236) c250), (28, .bool r237)] 7 rfl rfl ?_
      refine LP_end _ rfl ?_
      refine W_seq ?_
      refine W_region ?_
      refine LP_ev ok 0 [(143, .slice a249 (List.length r236) c250)] 1 rfl rfl ?_
      refine LP_call 1 rfl rfl rfl cal_68 rfl (impl_SumFracs_w _ _ H wx242 o246.readf ex247) ?_
      rintro _ wx253 ⟨r251, r252, H, rfl, x254⟩
      refine LP_ev ok 2 [(142, .tuple #[.agg #[I r251.Num, I r251.Den], .bool r252]), (145, .agg #[I r251.Num, I r251.Den]), (146, .bool r252)] 5 rfl rfl ?_
      refine LP_alloc 5 rfl rfl rfl ti_34 rfl fun b255 wx256 x257 ex258 f259 => ?_
      refine LP_stbox 6 (vs := [I r251.Num, I r251.Den]) (cs' := [I r251.Num, I r251.Den]) rfl rfl rfl ti_34 rfl rfl rfl rfl rfl ex258 rfl rfl fun wx260 ex261 y262 => ?_
      refine LP_ev ok 7 [(30, .bool r252)] 8 rfl rfl ?_
      refine LP_end _ rfl ?_
      obtain ⟨k265, hk266, H⟩ := jn_elim H
      refine W_join2 (S := Bool) (fun s ρ' w' => k265 s ∧ ∃ (ρ : Env), ρ' = setAll [(5, .slice a17 (List.length r7) c18), (6, .slice a19 (List.length r8) c20), (7, .pointer (some ⟨b, 0, none⟩)), (8, .bool r22), (168, .bool s)] ρ ∧ wx260 = w') ?_ ?_
      · refine W_region ?_
        refine LP_ev ok 0 [(147, .bool r237), (148, .bool (!r237)), (149, .bool (!r237))] 3 rfl rfl ?_
        refine LP_split 149 (!r237) rfl (fun hc267 => ?_) (fun hc267 => ?_)
        · have H := H.1 hc267
          refine LP_ev ok 3 [(150, undef), (151, undef), (152, undef), (153, undef), (154, undef), (155, undef), (156, .bool true), (157, .bool true), (158, undef), (159, undef), (160, undef), (161, .bool true), (162, .bool true), (163, undef), (164, undef), (165, undef), (166, undef), (167, undef), (168, .bool true)] 22 rfl rfl ?_
          refine LP_end _ rfl ?_
          try refine W_forget [(5, .slice a17 (List.length r7) c18), (6, .slice a19 (List.length r8) c20), (7, .pointer (some ⟨b, 0, none⟩)), (8, .bool r22), (168, .bool true)] ⟨rfl, rfl, rfl, rfl, rfl, trivial⟩ fun ρ => ?_
          exact ⟨true, H, _, env_eq ⟨rfl, rfl, rfl, rfl, rfl, trivial⟩, rfl⟩
        have H := H.2 hc267
        refine LP_ev ok 3 [(150, .bool r252), (151, .bool r252)] 5 rfl rfl ?_
        refine LP_split 151 (r252) rfl (fun hc268 => ?_) (fun hc268 => ?_)
        · have H := H.1 hc268
          refine LP_ldbox 5 (v := .agg #[I r251.Num, I r251.Den]) rfl rfl rfl ti_34 ag_34 (fun h => by cases h) rfl ex261 rfl rfl ?_
          refine LP_ev ok 6 [(153, .agg #[I 1, I 1])] 7 rfl rfl ?_
          refine LP_val 7 _ rfl rfl (ex_eq2n eq_34 rfl rfl rfl _) ?_
          refine LP_ev ok 8 [(155, .bool (!((r251.Num == 1) && (r251.Den == 1)))), (156, .bool (!((r251.Num == 1) && (r251.Den == 1)))), (157, .bool (!((r251.Num == 1) && (r251.Den == 1))))] 11 rfl rfl ?_
          refine LP_split 157 (!((r251.Num == 1) && (r251.Den == 1))) rfl (fun hc269 => ?_) (fun hc269 => ?_)
          · have H := H.1 hc269
            refine LP_ev ok 11 [(158, undef), (159, undef), (160, undef), (161, .bool true), (162, .bool true), (163, undef), (164, undef), (165, undef), (166, undef), (167, undef), (168, .bool true)] 22 rfl rfl ?_
            refine LP_end _ rfl ?_
            try refine W_forget [(5, .slice a17 (List.length r7) c18), (6, .slice a19 (List.length r8) c20), (7, .pointer (some ⟨b, 0, none⟩)), (8, .bool r22), (168, .bool true)] ⟨rfl, rfl, rfl, rfl, rfl, trivial⟩ fun ρ => ?_
            exact ⟨true, H, _, env_eq ⟨rfl, rfl, rfl, rfl, rfl, trivial⟩, rfl⟩
          have H := H.2 hc269
          refine LP_ev ok 11 [(158, .pointer (some ⟨b64, 0, none⟩))] 12 rfl rfl ?_
          have ex270 := (ex70.ext x77)
          have ex271 := (((ex270.ext x80).but y85 (Dj.of_fresh ex270 f82).symm).ext x91)
          have ex272 := (((ex271.ext x94).but y99 (Dj.of_fresh ex271 f96).symm).ext x105)
          have ex273 := ((((ex272.ext x108).but y113 (Dj.of_fresh ex272 f110).symm).ext x123).ext x141)
          have ex274 := (((ex273.ext x144).but y149 (Dj.of_fresh ex273 f146).symm).ext x157)
          have ex275 := ((((ex274.ext x160).but y165 (Dj.of_fresh ex274 f162).symm).ext x243).ext x254)
          have ex276 := ((((((((((((((((((((ex70.ext x77).ext x80).but y85 (Dj.of_fresh ex270 f82).symm).ext x91).ext x94).but y99 (Dj.of_fresh ex271 f96).symm).ext x105).ext x108).but y113 (Dj.of_fresh ex272 f110).symm).ext x123).ext x141).ext x144).but y149 (Dj.of_fresh ex273 f146).symm).ext x157).ext x160).but y165 (Dj.of_fresh ex274 f162).symm).ext x243).ext x254).ext x257).but y262 (Dj.of_fresh ex275 f259).symm)
          refine LP_ldbox 12 (v := I r60.Num) rfl rfl rfl ti_3 ag_3 (fun _ => rfl) rfl ex276 rfl rfl ?_
          refine LP_ev ok 13 [(160, .bool (decide (r60.Num < 0))), (161, .bool (decide (r60.Num < 0))), (162, .bool (decide (r60.Num < 0)))] 16 rfl rfl ?_
          refine LP_split 162 (decide (r60.Num < 0)) rfl (fun hc277 => ?_) (fun hc277 => ?_)
          · have H := H.1 hc277
            refine LP_ev ok 16 [(163, undef), (164, undef), (165, undef), (166, undef), (167, undef), (168, .bool true)] 22 rfl rfl ?_
            refine LP_end _ rfl ?_
            try refine W_forget [(5, .slice a17 (List.length r7) c18), (6, .slice a19 (List.length r8) c20), (7, .pointer (some ⟨b, 0, none⟩)), (8, .bool r22), (168, .bool true)] ⟨rfl, rfl, rfl, rfl, rfl, trivial⟩ fun ρ => ?_
            exact ⟨true, H, _, env_eq ⟨rfl, rfl, rfl, rfl, rfl, trivial⟩, rfl⟩
          have H := H.2 hc277
          refine LP_ev ok 16 [(163, .pointer (some ⟨b64, 0, none⟩))] 17 rfl rfl ?_
          refine LP_ldbox 17 (v := I r60.Num) rfl rfl rfl ti_3 ag_3 (fun _ => rfl) rfl ex276 rfl rfl ?_
          refine LP_ev ok 18 [(165, .pointer (some ⟨b64, 1, none⟩))] 19 rfl rfl ?_
          refine LP_ldbox 19 (v := I r60.Den) rfl rfl rfl ti_3 ag_3 (fun _ => rfl) rfl ex276 rfl rfl ?_
          refine LP_ev ok 20 [(167, .bool (decide (r60.Num ≥ r60.Den))), (168, .bool (decide (r60.Num ≥ r60.Den)))] 22 rfl rfl ?_
          refine LP_end _ rfl ?_
          try refine W_forget [(5, .slice a17 (List.length r7) c18), (6, .slice a19 (List.length r8) c20), (7, .pointer (some ⟨b, 0, none⟩)), (8, .bool r22), (168, .bool (decide (r60.Num ≥ r60.Den)))] ⟨rfl, rfl, rfl, rfl, rfl, trivial⟩ fun ρ => ?_
          exact ⟨decide (r60.Num ≥ r60.Den), H, _, env_eq ⟨rfl, rfl, rfl, rfl, rfl, trivial⟩, rfl⟩
        have H := H.2 hc268
        refine LP_ev ok 5 [(152, undef), (153, undef), (154, undef), (155, .bool false), (156, .bool false), (157, .bool false), (158, .pointer (some ⟨b64, 0, none⟩))] 12 rfl rfl ?_
        have ex278 := (ex70.ext x77)
        have ex279 := (((ex278.ext x80).but y85 (Dj.of_fresh ex278 f82).symm).ext x91)
        have ex280 := (((ex279.ext x94).but y99 (Dj.of_fresh ex279 f96).symm).ext x105)
        have ex281 := ((((ex280.ext x108).but y113 (Dj.of_fresh ex280 f110).symm).ext x123).ext x141)
        have ex282 := (((ex281.ext x144).but y149 (Dj.of_fresh ex281 f146).symm).ext x157)
        have ex283 := ((((ex282.ext x160).but y165 (Dj.of_fresh ex282 f162).symm).ext x243).ext x254)
        have ex284 := ((((((((((((((((((((ex70.ext x77).ext x80).but y85 (Dj.of_fresh ex278 f82).symm).ext x91).ext x94).but y99 (Dj.of_fresh ex279 f96).symm).ext x105).ext x108).but y113 (Dj.of_fresh ex280 f110).symm).ext x123).ext x141).ext x144).but y149 (Dj.of_fresh ex281 f146).symm).ext x157).ext x160).but y165 (Dj.of_fresh ex282 f162).symm).ext x243).ext x254).ext x257).but y262 (Dj.of_fresh ex283 f259).symm)
        refine LP_ldbox 12 (v := I r60.Num) rfl rfl rfl ti_3 ag_3 (fun _ => rfl) rfl ex284 rfl rfl ?_
        refine LP_ev ok 13 [(160, .bool (decide (r60.Num < 0))), (161, .bool (decide (r60.Num < 0))), (162, .bool (decide (r60.Num < 0)))] 16 rfl rfl ?_
        refine LP_split 162 (decide (r60.Num < 0)) rfl (fun hc285 => ?_) (fun hc285 => ?_)
        · have H := H.1 hc285
          refine LP_ev ok 16 [(163, undef), (164, undef), (165, undef), (166, undef), (167, undef), (168, .bool true)] 22 rfl rfl ?_
          refine LP_end _ rfl ?_
          try refine W_forget [(5, .slice a17 (List.length r7) c18), (6, .slice a19 (List.length r8) c20), (7, .pointer (some ⟨b, 0, none⟩)), (8, .bool r22), (168, .bool true)] ⟨rfl, rfl, rfl, rfl, rfl, trivial⟩ fun ρ => ?_
          exact ⟨true, H, _, env_eq ⟨rfl, rfl, rfl, rfl, rfl, trivial⟩, rfl⟩
        have H := H.2 hc285
        refine LP_ev ok 16 [(163, .pointer (some ⟨b64, 0, none⟩))] 17 rfl rfl ?_
        refine LP_ldbox 17 (v := I r60.Num) rfl rfl rfl ti_3 ag_3 (fun _ => rfl) rfl ex284 rfl rfl ?_
        refine LP_ev ok 18 [(165, .pointer (some ⟨b64, 1, none⟩))] 19 rfl rfl ?_
        refine LP_ldbox 19 (v := I r60.Den) rfl rfl rfl ti_3 ag_3 (fun _ => rfl) rfl ex284 rfl rfl ?_
        refine LP_ev ok 20 [(167, .bool (decide (r60.Num ≥ r60.Den))), (168, .bool (decide (r60.Num ≥ r60.Den)))] 22 rfl rfl ?_
        refine LP_end _ rfl ?_
        try refine W_forget [(5, .slice a17 (List.length r7) c18), (6, .slice a19 (List.length r8) c20), (7, .pointer (some ⟨b, 0, none⟩)), (8, .bool r22), (168, .bool (decide (r60.Num ≥ r60.Den)))] ⟨rfl, rfl, rfl, rfl, rfl, trivial⟩ fun ρ => ?_
        exact ⟨decide (r60.Num ≥ r60.Den), H, _, env_eq ⟨rfl, rfl, rfl, rfl, rfl, trivial⟩, rfl⟩
      rintro x263 _ _ ⟨H, ρ, rfl, rfl⟩
      subst hk266
      refine W_cond (x263) rfl (fun hc286 => ?_) (fun hc286 => ?_)
      · have H := H.1 hc286
        refine W_seq ?_
        refine W_region ?_
        refine LP_ev ok 0 [(4, .bool false)] 1 rfl rfl ?_
        refine LP_end _ rfl ?_
        refine W_ret ?_
        have X288 := ((X.stepx x).stepx x24)
        have f287 := f28.mono X288.size
        have X290 := (((X288.stepx x26).step y (f287.dom _)).stepx x38)
        have f289 := f43.mono X290.size
        have X292 := ((((X290.stepx x41).step y46 (f289.dom _)).stepx x52).stepx x63)
        have f291 := f68.mono X292.size
        have X294 := (((X292.stepx x66).step y71 (f291.dom _)).stepx x77)
        have f293 := f82.mono X294.size
        have X296 := (((X294.stepx x80).step y85 (f293.dom _)).stepx x91)
        have f295 := f96.mono X296.size
        have X298 := (((X296.stepx x94).step y99 (f295.dom _)).stepx x105)
        have f297 := f110.mono X298.size
        have X300 := ((((X298.stepx x108).step y113 (f297.dom _)).stepx x123).stepx x141)
        have f299 := f146.mono X300.size
        have X302 := (((X300.stepx x144).step y149 (f299.dom _)).stepx x157)
        have f301 := f162.mono X302.size
        have X304 := ((((X302.stepx x160).step y165 (f301.dom _)).stepx x243).stepx x254)
        have f303 := f259.mono X304.size
        have X305 := (((((((((((((((((((((((((((((((X.stepx x).stepx x24).stepx x26).step y (f287.dom _)).stepx x38).stepx x41).step y46 (f289.dom _)).stepx x52).stepx x63).stepx x66).step y71 (f291.dom _)).stepx x77).stepx x80).step y85 (f293.dom _)).stepx x91).stepx x94).step y99 (f295.dom _)).stepx x105).stepx x108).step y113 (f297.dom _)).stepx x123).stepx x141).stepx x144).step y149 (f299.dom _)).stepx x157).stepx x160).step y165 (f301.dom _)).stepx x243).stepx x254).stepx x257).step y262 (f303.dom _))
        exact ⟨_, Ret_of [.bool false] ⟨⟨rfl, rfl⟩, trivial⟩, _, H, rfl, X305.ext⟩
      have H := H.2 hc286
      refine W_skip ?_
      have X307 := ((X.stepx x).stepx x24)
      have f306 := f28.mono X307.size
      have X309 := (((X307.stepx x26).step y (f306.dom _)).stepx x38)
      have f308 := f43.mono X309.size
      have X311 := ((((X309.stepx x41).step y46 (f308.dom _)).stepx x52).stepx x63)
      have f310 := f68.mono X311.size
      have X313 := (((X311.stepx x66).step y71 (f310.dom _)).stepx x77)
      have f312 := f82.mono X313.size
      have X315 := (((X313.stepx x80).step y85 (f312.dom _)).stepx x91)
      have f314 := f96.mono X315.size
      have X317 := (((X315.stepx x94).step y99 (f314.dom _)).stepx x105)
      have f316 := f110.mono X317.size
      have X319 := ((((X317.stepx x108).step y113 (f316.dom _)).stepx x123).stepx x141)
      have f318 := f146.mono X319.size
      have X321 := (((X319.stepx x144).step y149 (f318.dom _)).stepx x157)
      have f320 := f162.mono X321.size
      have X323 := ((((X321.stepx x160).step y165 (f320.dom _)).stepx x243).stepx x254)
      have f322 := f259.mono X323.size
      have X324 := (((((((((((((((((((((((((((((((X.stepx x).stepx x24).stepx x26).step y (f306.dom _)).stepx x38).stepx x41).step y46 (f308.dom _)).stepx x52).stepx x63).stepx x66).step y71 (f310.dom _)).stepx x77).stepx x80).step y85 (f312.dom _)).stepx x91).stepx x94).step y99 (f314.dom _)).stepx x105).stepx x108).step y113 (f316.dom _)).stepx x123).stepx x141).stepx x144).step y149 (f318.dom _)).stepx x157).stepx x160).step y165 (f320.dom _)).stepx x243).stepx x254).stepx x257).step y262 (f322.dom _))
      have ex325 := (ex34.ext x38)
      have ex326 := ((((ex325.ext x41).but y46 (Dj.of_fresh ex325 f43).symm).ext x52).ext x63)
      have ex327 := (((ex326.ext x66).but y71 (Dj.of_fresh ex326 f68).symm).ext x77)
      have ex328 := (((ex327.ext x80).but y85 (Dj.of_fresh ex327 f82).symm).ext x91)
      have ex329 := (((ex328.ext x94).but y99 (Dj.of_fresh ex328 f96).symm).ext x105)
      have ex330 := ((((ex329.ext x108).but y113 (Dj.of_fresh ex329 f110).symm).ext x123).ext x141)
      have ex331 := (((ex330.ext x144).but y149 (Dj.of_fresh ex330 f146).symm).ext x157)
      have ex332 := ((((ex331.ext x160).but y165 (Dj.of_fresh ex331 f162).symm).ext x243).ext x254)
      have ex333 := (((((((((((((((((((((((((((ex34.ext x38).ext x41).but y46 (Dj.of_fresh ex325 f43).symm).ext x52).ext x63).ext x66).but y71 (Dj.of_fresh ex326 f68).symm).ext x77).ext x80).but y85 (Dj.of_fresh ex327 f82).symm).ext x91).ext x94).but y99 (Dj.of_fresh ex328 f96).symm).ext x105).ext x108).but y113 (Dj.of_fresh ex329 f110).symm).ext x123).ext x141).ext x144).but y149 (Dj.of_fresh ex330 f146).symm).ext x157).ext x160).but y165 (Dj.of_fresh ex331 f162).symm).ext x243).ext x254).ext x257).but y262 (Dj.of_fresh ex332 f259).symm)
      have ex334 := (ex36.ext x38)
      have ex335 := ((((ex334.ext x41).but y46 (Dj.of_fresh ex334 f43).symm).ext x52).ext x63)
      have ex336 := (((ex335.ext x66).but y71 (Dj.of_fresh ex335 f68).symm).ext x77)
      have ex337 := (((ex336.ext x80).but y85 (Dj.of_fresh ex336 f82).symm).ext x91)
      have ex338 := (((ex337.ext x94).but y99 (Dj.of_fresh ex337 f96).symm).ext x105)
      have ex339 := ((((ex338.ext x108).but y113 (Dj.of_fresh ex338 f110).symm).ext x123).ext x141)
      have ex340 := (((ex339.ext x144).but y149 (Dj.of_fresh ex339 f146).symm).ext x157)
      have ex341 := ((((ex340.ext x160).but y165 (Dj.of_fresh ex340 f162).symm).ext x243).ext x254)
      have ex342 := (((((((((((((((((((((((((((ex36.ext x38).ext x41).but y46 (Dj.of_fresh ex334 f43).symm).ext x52).ext x63).ext x66).but y71 (Dj.of_fresh ex335 f68).symm).ext x77).ext x80).but y85 (Dj.of_fresh ex336 f82).symm).ext x91).ext x94).but y99 (Dj.of_fresh ex337 f96).symm).ext x105).ext x108).but y113 (Dj.of_fresh ex338 f110).symm).ext x123).ext x141).ext x144).but y149 (Dj.of_fresh ex339 f146).symm).ext x157).ext x160).but y165 (Dj.of_fresh ex340 f162).symm).ext x243).ext x254).ext x257).but y262 (Dj.of_fresh ex341 f259).symm)
      have ex343 := (ex30.ext x38)
      have ex344 := ((((ex343.ext x41).but y46 (Dj.of_fresh ex343 f43).symm).ext x52).ext x63)
      have ex345 := (((ex344.ext x66).but y71 (Dj.of_fresh ex344 f68).symm).ext x77)
      have ex346 := (((ex345.ext x80).but y85 (Dj.of_fresh ex345 f82).symm).ext x91)
      have ex347 := (((ex346.ext x94).but y99 (Dj.of_fresh ex346 f96).symm).ext x105)
      have ex348 := ((((ex347.ext x108).but y113 (Dj.of_fresh ex347 f110).symm).ext x123).ext x141)
      have ex349 := (((ex348.ext x144).but y149 (Dj.of_fresh ex348 f146).symm).ext x157)
      have ex350 := ((((ex349.ext x160).but y165 (Dj.of_fresh ex349 f162).symm).ext x243).ext x254)
      have ex351 := (((((((((((((((((((((((((((ex30.ext x38).ext x41).but y46 (Dj.of_fresh ex343 f43).symm).ext x52).ext x63).ext x66).but y71 (Dj.of_fresh ex344 f68).symm).ext x77).ext x80).but y85 (Dj.of_fresh ex345 f82).symm).ext x91).ext x94).but y99 (Dj.of_fresh ex346 f96).symm).ext x105).ext x108).but y113 (Dj.of_fresh ex347 f110).symm).ext x123).ext x141).ext x144).but y149 (Dj.of_fresh ex348 f146).symm).ext x157).ext x160).but y165 (Dj.of_fresh ex349 f162).symm).ext x243).ext x254).ext x257).but y262 (Dj.of_fresh ex350 f259).symm)
      exact ⟨(), H, _, env_eq ⟨rfl, rfl, rfl, rfl, trivial⟩, X324, ex333, ex342, ex351⟩
    have H := H.2 hc235
    refine W_skip ?_
    have X353 := ((X.stepx x).stepx x24)
    have f352 := f28.mono X353.size
    have X355 := (((X353.stepx x26).step y (f352.dom _)).stepx x38)
    have f354 := f43.mono X355.size
    have X357 := ((((X355.stepx x41).step y46 (f354.dom _)).stepx x52).stepx x63)
    have f356 := f68.mono X357.size
    have X359 := (((X357.stepx x66).step y71 (f356.dom _)).stepx x77)
    have f358 := f82.mono X359.size
    have X361 := (((X359.stepx x80).step y85 (f358.dom _)).stepx x91)
    have f360 := f96.mono X361.size
    have X363 := (((X361.stepx x94).step y99 (f360.dom _)).stepx x105)
    have f362 := f110.mono X363.size
    have X365 := ((((X363.stepx x108).step y113 (f362.dom _)).stepx x123).stepx x141)
    have f364 := f146.mono X365.size
    have X367 := (((X365.stepx x144).step y149 (f364.dom _)).stepx x157)
    have f366 := f162.mono X367.size
    have X368 := (((((((((((((((((((((((((((X.stepx x).stepx x24).stepx x26).step y (f352.dom _)).stepx x38).stepx x41).step y46 (f354.dom _)).stepx x52).stepx x63).stepx x66).step y71 (f356.dom _)).stepx x77).stepx x80).step y85 (f358.dom _)).stepx x91).stepx x94).step y99 (f360.dom _)).stepx x105).stepx x108).step y113 (f362.dom _)).stepx x123).stepx x141).stepx x144).step y149 (f364.dom _)).stepx x157).stepx x160).step y165 (f366.dom _))
    have ex369 := (ex34.ext x38)
    have ex370 := ((((ex369.ext x41).but y46 (Dj.of_fresh ex369 f43).symm).ext x52).ext x63)
    have ex371 := (((ex370.ext x66).but y71 (Dj.of_fresh ex370 f68).symm).ext x77)
    have ex372 := (((ex371.ext x80).but y85 (Dj.of_fresh ex371 f82).symm).ext x91)
    have ex373 := (((ex372.ext x94).but y99 (Dj.of_fresh ex372 f96).symm).ext x105)
    have ex374 := ((((ex373.ext x108).but y113 (Dj.of_fresh ex373 f110).symm).ext x123).ext x141)
    have ex375 := (((ex374.ext x144).but y149 (Dj.of_fresh ex374 f146).symm).ext x157)
    have ex376 := (((((((((((((((((((((((ex34.ext x38).ext x41).but y46 (Dj.of_fresh ex369 f43).symm).ext x52).ext x63).ext x66).but y71 (Dj.of_fresh ex370 f68).symm).ext x77).ext x80).but y85 (Dj.of_fresh ex371 f82).symm).ext x91).ext x94).but y99 (Dj.of_fresh ex372 f96).symm).ext x105).ext x108).but y113 (Dj.of_fresh ex373 f110).symm).ext x123).ext x141).ext x144).but y149 (Dj.of_fresh ex374 f146).symm).ext x157).ext x160).but y165 (Dj.of_fresh ex375 f162).symm)
    have ex377 := (ex36.ext x38)
    have ex378 := ((((ex377.ext x41).but y46 (Dj.of_fresh ex377 f43).symm).ext x52).ext x63)
    have ex379 := (((ex378.ext x66).but y71 (Dj.of_fresh ex378 f68).symm).ext x77)
    have ex380 := (((ex379.ext x80).but y85 (Dj.of_fresh ex379 f82).symm).ext x91)
    have ex381 := (((ex380.ext x94).but y99 (Dj.of_fresh ex380 f96).symm).ext x105)
    have ex382 := ((((ex381.ext x108).but y113 (Dj.of_fresh ex381 f110).symm).ext x123).ext x141)
    have ex383 := (((ex382.ext x144).but y149 (Dj.of_fresh ex382 f146).symm).ext x157)
    have ex384 := (((((((((((((((((((((((ex36.ext x38).ext x41).but y46 (Dj.of_fresh ex377 f43).symm).ext x52).ext x63).ext x66).but y71 (Dj.of_fresh ex378 f68).symm).ext x77).ext x80).but y85 (Dj.of_fresh ex379 f82).symm).ext x91).ext x94).but y99 (Dj.of_fresh ex380 f96).symm).ext x105).ext x108).but y113 (Dj.of_fresh ex381 f110).symm).ext x123).ext x141).ext x144).but y149 (Dj.of_fresh ex382 f146).symm).ext x157).ext x160).but y165 (Dj.of_fresh ex383 f162).symm)
    have ex385 := (ex30.ext x38)
    have ex386 := ((((ex385.ext x41).but y46 (Dj.of_fresh ex385 f43).symm).ext x52).ext x63)
    have ex387 := (((ex386.ext x66).but y71 (Dj.of_fresh ex386 f68).symm).ext x77)
    have ex388 := (((ex387.ext x80).but y85 (Dj.of_fresh ex387 f82).symm).ext x91)
    have ex389 := (((ex388.ext x94).but y99 (Dj.of_fresh ex388 f96).symm).ext x105)
    have ex390 := ((((ex389.ext x108).but y113 (Dj.of_fresh ex389 f110).symm).ext x123).ext x141)
    have ex391 := (((ex390.ext x144).but y149 (Dj.of_fresh ex390 f146).symm).ext x157)
    have ex392 := (((((((((((((((((((((((ex30.ext x38).ext x41).but y46 (Dj.of_fresh ex385 f43).symm).ext x52).ext x63).ext x66).but y71 (Dj.of_fresh ex386 f68).symm).ext x77).ext x80).but y85 (Dj.of_fresh ex387 f82).symm).ext x91).ext x94).but y99 (Dj.of_fresh ex388 f96).symm).ext x105).ext x108).but y113 (Dj.of_fresh ex389 f110).symm).ext x123).ext x141).ext x144).but y149 (Dj.of_fresh ex390 f146).symm).ext x157).ext x160).but y165 (Dj.of_fresh ex391 f162).symm)
    exact ⟨(), H, _, env_eq ⟨rfl, rfl, rfl, rfl, trivial⟩, X368, ex376, ex384, ex392⟩
  rintro ⟨⟩ _ wx228 ⟨H, ρ, rfl, X232, ex229, ex230, ex231⟩
  subst hk234
  refine W_seq ?_
  refine W_seq ?_
  refine W_region ?_
  refine LP_ev ok 0 [(169, .bool r22), (170, .bool (!r22))] 2 rfl rfl ?_
  refine LP_end _ rfl ?_
  refine W_cond (!r22) rfl (fun hc393 => ?_) (fun hc393 => ?_)
  · have H := H.1 hc393
    refine W_seq ?_
    refine W_region ?_
    refine LP_ev ok 0 [(4, .bool true)] 1 rfl rfl ?_
    refine LP_end _ rfl ?_
    refine W_ret ?_
    exact ⟨_, Ret_of [.bool true] ⟨⟨rfl, rfl⟩, trivial⟩, _, H, rfl, X232.ext⟩
  have H := H.2 hc393
  refine W_skip ?_
  refine W_seq ?_
  refine W_region ?_
  refine LP_ev ok 0 [(172, .slice a19 (List.length r8) c20), (173, .slice a17 (List.length r7) c18)] 2 rfl rfl ?_
  refine LP_call 2 rfl rfl rfl cal_56 rfl (impl_DissimilarityOf_w _ _ _ H wx228 o14.readf ex230 o.readf ex229) ?_
  rintro _ wx396 ⟨r394, r395, H, rfl, x397⟩
  refine LP_ev ok 3 [(171, .tuple #[.agg #[I r394.Num, I r394.Den], .bool r395]), (175, .agg #[I r394.Num, I r394.Den]), (176, .bool r395)] 6 rfl rfl ?_
  refine LP_alloc 6 rfl rfl rfl ti_34 rfl fun b398 wx399 x400 ex401 f402 => ?_
  refine LP_stbox 7 (vs := [I r394.Num, I r394.Den]) (cs' := [I r394.Num, I r394.Den]) rfl rfl rfl ti_34 rfl rfl rfl rfl rfl ex401 rfl rfl fun wx403 ex404 y405 => ?_
  refine LP_ev ok 8 [(32, .bool r395)] 9 rfl rfl ?_
  refine LP_end _ rfl ?_
  obtain ⟨k408, hk409, H⟩ := jn_elim H
  refine W_join2 (S := Bool) (fun s ρ' w' => k408 s ∧ ∃ (ρ : Env), ρ' = setAll [(4, .bool s)] ρ ∧ wx403 = w') ?_ ?_
  · refine W_region ?_
    refine LP_ev ok 0 [(177, .pointer (some ⟨b, 0, none⟩))] 1 rfl rfl ?_
    have ex410 := (ex231.ext x397)
    have ex411 := (((ex231.ext x397).ext x400).but y405 (Dj.of_fresh ex410 f402).symm)
    refine LP_ldbox 1 (v := I r21.Num) rfl rfl rfl ti_3 ag_3 (fun _ => rfl) rfl ex411 rfl rfl ?_
    refine LP_ev ok 2 [(179, .bool (decide (r21.Num ≥ 0))), (180, .bool (decide (r21.Num ≥ 0)))] 4 rfl rfl ?_
    refine LP_split 180 (decide (r21.Num ≥ 0)) rfl (fun hc412 => ?_) (fun hc412 => ?_)
    · have H := H.1 hc412
      refine LP_ev ok 4 [(181, .pointer (some ⟨b, 0, none⟩))] 5 rfl rfl ?_
      refine LP_ldbox 5 (v := I r21.Num) rfl rfl rfl ti_3 ag_3 (fun _ => rfl) rfl ex411 rfl rfl ?_
      refine LP_ev ok 6 [(183, .pointer (some ⟨b, 1, none⟩))] 7 rfl rfl ?_
      refine LP_ldbox 7 (v := I r21.Den) rfl rfl rfl ti_3 ag_3 (fun _ => rfl) rfl ex411 rfl rfl ?_
      refine LP_ev ok 8 [(185, .bool (decide (r21.Num ≤ r21.Den))), (186, .bool (decide (r21.Num ≤ r21.Den))), (187, .bool (decide (r21.Num ≤ r21.Den)))] 11 rfl rfl ?_
      refine LP_split 187 (decide (r21.Num ≤ r21.Den)) rfl (fun hc413 => ?_) (fun hc413 => ?_)
      · have H := H.1 hc413
        refine LP_ev ok 11 [(188, .bool r395), (189, .bool r395), (190, .bool r395)] 14 rfl rfl ?_
        refine LP_split 190 (r395) rfl (fun hc414 => ?_) (fun hc414 => ?_)
        · have H := H.1 hc414
          refine LP_ldbox 14 (v := .agg #[I r394.Num, I r394.Den]) rfl rfl rfl ti_34 ag_34 (fun h => by cases h) rfl ex404 rfl rfl ?_
          refine LP_ldbox 15 (v := .agg #[I r21.Num, I r21.Den]) rfl rfl rfl ti_34 ag_34 (fun h => by cases h) rfl ex411 rfl rfl ?_
          refine LP_val 16 _ rfl rfl (ex_eq2 eq_34 rfl rfl rfl _) ?_
          refine LP_ev ok 17 [(194, .bool (((r394.Num == r21.Num) && (r394.Den == r21.Den)))), (4, .bool (((r394.Num == r21.Num) && (r394.Den == r21.Den))))] 19 rfl rfl ?_
          refine LP_end _ rfl ?_
          try refine W_forget [(4, .bool (((r394.Num == r21.Num) && (r394.Den == r21.Den))))] ⟨rfl, trivial⟩ fun ρ => ?_
          exact ⟨((r394.Num == r21.Num) && (r394.Den == r21.Den)), H, _, env_eq ⟨rfl, trivial⟩, rfl⟩
        have H := H.2 hc414
        refine LP_ev ok 14 [(191, undef), (192, undef), (193, undef), (194, .bool false), (4, .bool false)] 19 rfl rfl ?_
        refine LP_end _ rfl ?_
        try refine W_forget [(4, .bool false)] ⟨rfl, trivial⟩ fun ρ => ?_
        exact ⟨false, H, _, env_eq ⟨rfl, trivial⟩, rfl⟩
      have H := H.2 hc413
      refine LP_ev ok 11 [(188, undef), (189, .bool false), (190, .bool false), (191, undef), (192, undef), (193, undef), (194, .bool false), (4, .bool false)] 19 rfl rfl ?_
      refine LP_end _ rfl ?_
      try refine W_forget [(4, .bool false)] ⟨rfl, trivial⟩ fun ρ => ?_
      exact ⟨false, H, _, env_eq ⟨rfl, trivial⟩, rfl⟩
    have H := H.2 hc412
    refine LP_ev ok 4 [(181, undef), (182, undef), (183, undef), (184, undef), (185, undef), (186, .bool false), (187, .bool false), (188, undef), (189, .bool false), (190, .bool false), (191, undef), (192, undef), (193, undef), (194, .bool false), (4, .bool false)] 19 rfl rfl ?_
    refine LP_end _ rfl ?_
    try refine W_forget [(4, .bool false)] ⟨rfl, trivial⟩ fun ρ => ?_
    exact ⟨false, H, _, env_eq ⟨rfl, trivial⟩, rfl⟩
  rintro x406 _ _ ⟨H, ρ, rfl, rfl⟩
  subst hk409
  refine W_ret ?_
  have X416 := (X232.stepx x397)
  have f415 := f402.mono X416.size
  have X417 := (((X232.stepx x397).stepx x400).step y405 (f415.dom _))
  exact ⟨_, Ret_of [.bool x406] ⟨⟨rfl, rfl⟩, trivial⟩, _, H, rfl, X417.ext⟩

end Go.Proofs.Ytbegmfmabcpofaa
