/- The walks, further. -/
import Derived.Test.YtkebfmobfeponaaGreatTWalk3
set_option linter.unusedVariables false
set_option autoImplicit false
namespace Go.Proofs.YtkebfmobfeponaaGreat
open Go Go.RowKit Go.Gv

open Go.Proofs
set_option maxRecDepth 8000
set_option maxHeartbeats 4000000
theorem laws_FnExactTypeRanges_w (aG : Geo) (aS : List Variable) (aPubs : List Published) (aN : Int) (Q : Bool → Prop) (H : laws_FnExactTypeRanges aG aS aPubs aN Q) (w : World) {vx : Value} {hx : PH} (r : RS hx vx aG.Parents) (ex : Sub hx w) {vx1 : Value} {hx2 : PH} (r3 : RS hx2 vx1 aS) (ex4 : Sub hx2 w) {vx7 : Value} {hx8 : PH} (r9 : RS hx8 vx7 aPubs) (ex10 : Sub hx8 w) :
  CallsTo Tryz.prog 4 #[.agg #[vx], vx1, vx7, I aN] w fun v w' => ∃ r0, Q r0 ∧ v = .bool r0 ∧ Ext w w' := by
 obtain ⟨a, c, rfl⟩ := r.shape
 obtain ⟨a5, c6, rfl⟩ := r3.shape
 obtain ⟨a11, c12, rfl⟩ := r9.shape
 refine enter (args := [.agg #[sl a aG.Parents c], sl a5 aS c6, sl a11 aPubs c12, I aN]) 184 Tryz.func4 rfl rfl rfl ?_
 refine W_forget [(0, .agg #[sl a aG.Parents c]), (1, sl a5 aS c6), (2, sl a11 aPubs c12), (3, I aN)] ⟨rfl, rfl, rfl, rfl, trivial⟩ fun ρ => ?_
 have X := But.refl emp w
 refine W_seq ?_
 refine W_region ?_
 refine LP_box 0 (cs := [sl a aG.Parents c]) rfl rfl rfl rfl rfl fun b wx x ex13 f => ?_
 refine LP_ev ok 1 [(8, .bool false)] 2 rfl rfl ?_
 refine LP_end _ rfl ?_
 refine W_seq ?_
 refine W_region ?_
 refine LP_ev ok 0 [(9, I 1048576)] 1 rfl rfl ?_
 refine LP_end _ rfl ?_
 refine W_seq ?_
 refine W_region ?_
 refine LP_ldbox 0 (v := .agg #[sl a aG.Parents c]) rfl rfl rfl ti_24 ag_24 (fun h => by cases h) rfl ex13 rfl rfl ?_
 refine LP_ev ok 1 [(26, I 1048576)] 2 rfl rfl ?_
 have ex15 := (ex.ext x)
 refine LP_call 2 rfl rfl rfl cal_9 rfl (laws_szGeo_w _ _ _ H wx r ex15) ?_
 rintro _ wx16 ⟨r14, H, rfl, x17⟩
 refine LP_ev ok 3 [(9, I r14)] 4 rfl rfl ?_
 refine LP_end _ rfl ?_
 refine W_seq ?_
 refine W_seq ?_
 refine W_region ?_
 refine LP_ev ok 0 [(28, I r14), (29, .bool (decide (r14 < 0)))] 2 rfl rfl ?_
 refine LP_end _ rfl ?_
 refine W_cond (decide (r14 < 0)) rfl (fun hc => ?_) (fun hc => ?_)
 ·have H := H.1 hc
  refine W_seq ?_
  refine W_region ?_
  refine LP_ev ok 0 [(8, .bool true)] 1 rfl rfl ?_
  refine LP_end _ rfl ?_
  refine W_ret ?_
  have X18 := ((X.stepx x).stepx x17)
  exact ⟨_, Ret_of [.bool true] ⟨⟨rfl, rfl⟩, trivial⟩, _, H, rfl, X18.ext⟩
 have H := H.2 hc
 refine W_skip ?_
 refine W_seq ?_
 refine W_region ?_
 refine LP_ev ok 0 [(30, sl a5 aS c6), (31, I r14)] 2 rfl rfl ?_
 have ex20 := ((ex4.ext x).ext x17)
 refine LP_call 2 rfl rfl rfl cal_10 rfl (laws_szVariableS_w _ _ _ H wx16 r3 ex20) ?_
 rintro _ wx21 ⟨r19, H, rfl, x22⟩
 refine LP_ev ok 3 [(9, I r19)] 4 rfl rfl ?_
 refine LP_end _ rfl ?_
 refine W_seq ?_
 refine W_seq ?_
 refine W_region ?_
 refine LP_ev ok 0 [(33, I r19), (34, .bool (decide (r19 < 0)))] 2 rfl rfl ?_
 refine LP_end _ rfl ?_
 refine W_cond (decide (r19 < 0)) rfl (fun hc23 => ?_) (fun hc23 => ?_)
 ·have H := H.1 hc23
  refine W_seq ?_
  refine W_region ?_
  refine LP_ev ok 0 [(8, .bool true)] 1 rfl rfl ?_
  refine LP_end _ rfl ?_
  refine W_ret ?_
  have X24 := (((X.stepx x).stepx x17).stepx x22)
  exact ⟨_, Ret_of [.bool true] ⟨⟨rfl, rfl⟩, trivial⟩, _, H, rfl, X24.ext⟩
 have H := H.2 hc23
 refine W_skip ?_
 refine W_seq ?_
 refine W_region ?_
 refine LP_ev ok 0 [(35, sl a11 aPubs c12), (36, I r19)] 2 rfl rfl ?_
 have ex26 := (((ex10.ext x).ext x17).ext x22)
 refine LP_call 2 rfl rfl rfl cal_11 rfl (laws_szPublishedS_w _ _ _ H wx21 r9 ex26) ?_
 rintro _ wx27 ⟨r25, H, rfl, x28⟩
 refine LP_ev ok 3 [(9, I r25)] 4 rfl rfl ?_
 refine LP_end _ rfl ?_
 refine W_seq ?_
 refine W_seq ?_
 refine W_region ?_
 refine LP_ev ok 0 [(38, I r25), (39, .bool (decide (r25 < 0)))] 2 rfl rfl ?_
 refine LP_end _ rfl ?_
 refine W_cond (decide (r25 < 0)) rfl (fun hc29 => ?_) (fun hc29 => ?_)
 ·have H := H.1 hc29
  refine W_seq ?_
  refine W_region ?_
  refine LP_ev ok 0 [(8, .bool true)] 1 rfl rfl ?_
  refine LP_end _ rfl ?_
  refine W_ret ?_
  have X30 := ((((X.stepx x).stepx x17).stepx x22).stepx x28)
  exact ⟨_, Ret_of [.bool true] ⟨⟨rfl, rfl⟩, trivial⟩, _, H, rfl, X30.ext⟩
 have H := H.2 hc29
 refine W_skip ?_
 refine W_seq ?_
 refine W_region ?_
 have ex31 := (((ex13.ext x17).ext x22).ext x28)
 refine LP_ldbox 0 (v := .agg #[sl a aG.Parents c]) rfl rfl rfl ti_24 ag_24 (fun h => by cases h) rfl ex31 rfl rfl ?_
 have ex33 := (((ex15.ext x17).ext x22).ext x28)
 refine LP_call 1 rfl rfl rfl cal_13 rfl (laws_toGeo_w _ _ H wx27 r ex33) ?_
 rintro _ wx34 ⟨r32, vx36, hx37, H, rfl, x35, o, ex38, f39⟩
 obtain ⟨a40, c41, rfl⟩ := o.shape
 refine LP_ev ok 2 [(43, sl a5 aS c6)] 3 rfl rfl ?_
 have ex43 := (((ex20.ext x22).ext x28).ext x35)
 refine LP_call 3 rfl rfl rfl cal_14 rfl (laws_toVariableS_w _ _ H wx34 r3 ex43) ?_
 rintro _ wx44 ⟨r42, vx46, hx47, H, rfl, x45, o48, ex49, f50⟩
 obtain ⟨a51, c52, rfl⟩ := o48.shape
 refine LP_ev ok 4 [(45, sl a11 aPubs c12)] 5 rfl rfl ?_
 have ex54 := (((ex26.ext x28).ext x35).ext x45)
 refine LP_call 5 rfl rfl rfl cal_15 rfl (laws_toPublishedS_w _ _ H wx44 r9 ex54) ?_
 rintro _ wx55 ⟨r53, vx57, hx58, H, rfl, x56, o59, ex60, f61⟩
 obtain ⟨a62, c63, rfl⟩ := o59.shape
 refine LP_ev ok 6 [(47, I aN)] 7 rfl rfl ?_
 have ex67 := ((ex38.ext x45).ext x56)
 have ex68 := (ex49.ext x56)
 refine LP_call 7 rfl rfl rfl cal_26 rfl (spec_TypeRanges_w _ _ _ _ _ H wx55 o.readf ex67 o48.readf ex68 o59.readf ex60) ?_
 rintro _ wx69 ⟨r64, r65, r66, vx71, hx72, vx76, hx77, H, rfl, x70, HF⟩
 revert HF
 refine bb7 fun o73 ex74 f75 o78 ex79 f80 d => ?_
 obtain ⟨a81, c82, rfl⟩ := o73.shape
 obtain ⟨a83, c84, rfl⟩ := o78.shape
 refine LP_ev ok 8 [(40, .tuple #[sl a81 r64 c82, sl a83 r65 c84, .bool r66]), (49, sl a81 r64 c82), (50, sl a83 r65 c84), (51, .bool r66), (10, sl a81 r64 c82), (11, sl a83 r65 c84), (12, .bool r66)] 15 rfl rfl ?_
 refine LP_end _ rfl ?_
 try refine W_forget [(1, sl a5 aS c6), (2, sl a11 aPubs c12), (3, I aN), (4, pb b), (10, sl a81 r64 c82), (11, sl a83 r65 c84), (12, .bool r66)] ⟨rfl, rfl, rfl, rfl, rfl, rfl, rfl, trivial⟩ fun ρ => ?_
 refine W_seq ?_
 refine W_region ?_
 have ex85 := ((((ex31.ext x35).ext x45).ext x56).ext x70)
 refine LP_ldbox 0 (v := .agg #[sl a aG.Parents c]) rfl rfl rfl ti_24 ag_24 (fun h => by cases h) rfl ex85 rfl rfl ?_
 have ex87 := ((((ex33.ext x35).ext x45).ext x56).ext x70)
 refine LP_call 1 rfl rfl rfl cal_13 rfl (laws_toGeo_w _ _ H wx69 r ex87) ?_
 rintro _ wx88 ⟨r86, vx90, hx91, H, rfl, x89, o92, ex93, f94⟩
 obtain ⟨a95, c96, rfl⟩ := o92.shape
 refine LP_alloc 2 rfl rfl rfl ti_32 rfl fun b97 wx98 x99 ex100 f101 => ?_
 refine LP_stbox 3 (vs := [sl a95 r86.Parents c96]) (cs' := [sl a95 r86.Parents c96]) rfl rfl rfl ti_32 rfl rfl rfl rfl rfl ex100 rfl rfl fun wx102 ex103 y => ?_
 refine LP_end _ rfl ?_
 refine W_seq ?_
 refine W_region ?_
 refine LP_ev ok 0 [(54, sl a5 aS c6)] 1 rfl rfl ?_
 have ex105 := ((((ex43.ext x45).ext x56).ext x70).ext x89)
 have ex106 := ((((((ex43.ext x45).ext x56).ext x70).ext x89).ext x99).but y (Dj.of_fresh ex105 f101).symm)
 refine LP_call 1 rfl rfl rfl cal_14 rfl (laws_toVariableS_w _ _ H wx102 r3 ex106) ?_
 rintro _ wx107 ⟨r104, vx109, hx110, H, rfl, x108, o111, ex112, f113⟩
 obtain ⟨a114, c115, rfl⟩ := o111.shape
 refine LP_ev ok 2 [(14, sl a114 r104 c115)] 3 rfl rfl ?_
 refine LP_end _ rfl ?_
 refine W_seq ?_
 refine W_region ?_
 refine LP_ev ok 0 [(56, sl a11 aPubs c12)] 1 rfl rfl ?_
 have ex117 := (((ex54.ext x56).ext x70).ext x89)
 have ex118 := ((((((ex54.ext x56).ext x70).ext x89).ext x99).but y (Dj.of_fresh ex117 f101).symm).ext x108)
 refine LP_call 1 rfl rfl rfl cal_15 rfl (laws_toPublishedS_w _ _ H wx107 r9 ex118) ?_
 rintro _ wx119 ⟨r116, vx121, hx122, H, rfl, x120, o123, ex124, f125⟩
 obtain ⟨a126, c127, rfl⟩ := o123.shape
 refine LP_ev ok 2 [(15, sl a126 r116 c127)] 3 rfl rfl ?_
 refine LP_end _ rfl ?_
 refine W_seq ?_
 refine W_region ?_
 have ex128 := ((ex103.ext x108).ext x120)
 refine LP_ldbox 0 (v := .agg #[sl a95 r86.Parents c96]) rfl rfl rfl ti_32 ag_32 (fun h => by cases h) rfl ex128 rfl rfl ?_
 refine LP_ev ok 1 [(60, sl a114 r104 c115), (61, sl a126 r116 c127), (62, I aN)] 4 rfl rfl ?_
 have ex132 := ((((ex93.ext x99).but y (Dj.of_fresh ex93 f101).symm).ext x108).ext x120)
 have ex133 := (ex112.ext x120)
 refine LP_call 4 rfl rfl rfl cal_27 rfl (impl_TypeRanges_w _ _ _ _ _ H wx119 o92.readf ex132 o111.readf ex133 o123.readf ex124) ?_
 rintro _ wx134 ⟨r129, r130, r131, vx136, hx137, vx141, hx142, H, rfl, x135, HF⟩
 revert HF
 refine bb7 fun o138 ex139 f140 o143 ex144 f145 d146 => ?_
 obtain ⟨a147, c148, rfl⟩ := o138.shape
 obtain ⟨a149, c150, rfl⟩ := o143.shape
 refine LP_ev ok 5 [(58, .tuple #[sl a147 r129 c148, sl a149 r130 c150, .bool r131]), (64, sl a147 r129 c148), (65, sl a149 r130 c150), (66, .bool r131), (16, sl a147 r129 c148), (17, sl a149 r130 c150), (18, .bool r131)] 12 rfl rfl ?_
 refine LP_end _ rfl ?_
 refine W_seq ?_
 obtain ⟨k, hk, H⟩ := jn_elim H
 refine W_join2 (S := Bool) (fun s ρ' w' => k s ∧ ∃ (ρ : Env), ρ' = setAll [(1, sl a5 aS c6), (2, sl a11 aPubs c12), (3, I aN), (4, pb b), (10, sl a81 r64 c82), (11, sl a83 r65 c84), (12, .bool r66), (13, pb b97), (14, sl a114 r104 c115), (15, sl a126 r116 c127), (16, sl a147 r129 c148), (17, sl a149 r130 c150), (18, .bool r131), (81, .bool s)] ρ ∧ But emp w w' ∧ Sub hx w' ∧ Sub hx2 w' ∧ Sub hx8 w' ∧ Sub (bx b 24 [sl a aG.Parents c]) w' ∧ Sub hx72 w' ∧ Sub hx77 w' ∧ Sub hx91 w' ∧ Sub (bx b97 32 [sl a95 r86.Parents c96]) w' ∧ Sub hx110 w' ∧ Sub hx122 w' ∧ Sub hx137 w' ∧ Sub hx142 w') ?_ ?_
 ·refine W_region ?_
  refine LP_ev ok 0 [(67, sl a147 r129 c148), (68, sl a81 r64 c82)] 2 rfl rfl ?_
  have ex167 := (ex74.ext x89)
  have ex168 := ((((((ex74.ext x89).ext x99).but y (Dj.of_fresh ex167 f101).symm).ext x108).ext x120).ext x135)
  refine LP_call 2 rfl rfl rfl cal_17 rfl (laws_eqIntS_w _ _ _ H wx134 o138.readf ex139 o73.readf ex168) ?_
  rintro _ wx169 ⟨r166, H, rfl, x170⟩
  refine LP_ev ok 3 [(70, .bool (!r166)), (71, .bool (!r166))] 5 rfl rfl ?_
  refine LP_split 71 (!r166) rfl (fun hc171 => ?_) (fun hc171 => ?_)
  ·have H := H.1 hc171
   refine LP_ev ok 5 [(72, undef), (73, undef), (74, undef), (75, undef), (76, .bool true), (77, .bool true), (78, undef), (79, undef), (80, undef), (81, .bool true)] 15 rfl rfl ?_
   refine LP_end _ rfl ?_
   try refine W_forget [(1, sl a5 aS c6), (2, sl a11 aPubs c12), (3, I aN), (4, pb b), (10, sl a81 r64 c82), (11, sl a83 r65 c84), (12, .bool r66), (13, pb b97), (14, sl a114 r104 c115), (15, sl a126 r116 c127), (16, sl a147 r129 c148), (17, sl a149 r130 c150), (18, .bool r131), (81, .bool true)] ⟨rfl, rfl, rfl, rfl, rfl, rfl, rfl, rfl, rfl, rfl, rfl, rfl, rfl, rfl, trivial⟩ fun ρ => ?_
   have X173 := (((((((((X.stepx x).stepx x17).stepx x22).stepx x28).stepx x35).stepx x45).stepx x56).stepx x70).stepx x89)
   have f172 := f101.mono X173.size
   have X174 := (((((((((((((((X.stepx x).stepx x17).stepx x22).stepx x28).stepx x35).stepx x45).stepx x56).stepx x70).stepx x89).stepx x99).step y (f172.dom _)).stepx x108).stepx x120).stepx x135).stepx x170)
   have ex175 := (ex87.ext x89)
   have ex176 := (((((((ex87.ext x89).ext x99).but y (Dj.of_fresh ex175 f101).symm).ext x108).ext x120).ext x135).ext x170)
   have ex177 := ((((ex106.ext x108).ext x120).ext x135).ext x170)
   have ex178 := (((ex118.ext x120).ext x135).ext x170)
   have ex179 := (ex85.ext x89)
   have ex180 := (((((((ex85.ext x89).ext x99).but y (Dj.of_fresh ex179 f101).symm).ext x108).ext x120).ext x135).ext x170)
   have ex181 := (ex168.ext x170)
   have ex182 := (ex79.ext x89)
   have ex183 := (((((((ex79.ext x89).ext x99).but y (Dj.of_fresh ex182 f101).symm).ext x108).ext x120).ext x135).ext x170)
   have ex184 := ((ex132.ext x135).ext x170)
   have ex185 := ((ex128.ext x135).ext x170)
   have ex186 := ((ex133.ext x135).ext x170)
   have ex187 := ((ex124.ext x135).ext x170)
   have ex188 := (ex139.ext x170)
   have ex189 := (ex144.ext x170)
   exact ⟨true, H, _, env_eq ⟨rfl, rfl, rfl, rfl, rfl, rfl, rfl, rfl, rfl, rfl, rfl, rfl, rfl, rfl, trivial⟩, X174, ex176, ex177, ex178, ex180, ex181, ex183, ex184, ex185, ex186, ex187, ex188, ex189⟩
  have H := H.2 hc171
  refine LP_ev ok 5 [(72, sl a149 r130 c150), (73, sl a83 r65 c84)] 7 rfl rfl ?_
  have ex191 := (ex144.ext x170)
  have ex192 := (ex79.ext x89)
  have ex193 := (((((((ex79.ext x89).ext x99).but y (Dj.of_fresh ex192 f101).symm).ext x108).ext x120).ext x135).ext x170)
  refine LP_call 7 rfl rfl rfl cal_17 rfl (laws_eqIntS_w _ _ _ H wx169 o143.readf ex191 o78.readf ex193) ?_
  rintro _ wx194 ⟨r190, H, rfl, x195⟩
  refine LP_ev ok 8 [(75, .bool (!r190)), (76, .bool (!r190)), (77, .bool (!r190))] 11 rfl rfl ?_
  refine LP_split 77 (!r190) rfl (fun hc196 => ?_) (fun hc196 => ?_)
  ·have H := H.1 hc196
   refine LP_ev ok 11 [(78, undef), (79, undef), (80, undef), (81, .bool true)] 15 rfl rfl ?_
   refine LP_end _ rfl ?_
   try refine W_forget [(1, sl a5 aS c6), (2, sl a11 aPubs c12), (3, I aN), (4, pb b), (10, sl a81 r64 c82), (11, sl a83 r65 c84), (12, .bool r66), (13, pb b97), (14, sl a114 r104 c115), (15, sl a126 r116 c127), (16, sl a147 r129 c148), (17, sl a149 r130 c150), (18, .bool r131), (81, .bool true)] ⟨rfl, rfl, rfl, rfl, rfl, rfl, rfl, rfl, rfl, rfl, rfl, rfl, rfl, rfl, trivial⟩ fun ρ => ?_
   have X198 := (((((((((X.stepx x).stepx x17).stepx x22).stepx x28).stepx x35).stepx x45).stepx x56).stepx x70).stepx x89)
   have f197 := f101.mono X198.size
   have X199 := ((((((((((((((((X.stepx x).stepx x17).stepx x22).stepx x28).stepx x35).stepx x45).stepx x56).stepx x70).stepx x89).stepx x99).step y (f197.dom _)).stepx x108).stepx x120).stepx x135).stepx x170).stepx x195)
   have ex200 := (ex87.ext x89)
   have ex201 := ((((((((ex87.ext x89).ext x99).but y (Dj.of_fresh ex200 f101).symm).ext x108).ext x120).ext x135).ext x170).ext x195)
   have ex202 := (((((ex106.ext x108).ext x120).ext x135).ext x170).ext x195)
   have ex203 := ((((ex118.ext x120).ext x135).ext x170).ext x195)
   have ex204 := (ex85.ext x89)
   have ex205 := ((((((((ex85.ext x89).ext x99).but y (Dj.of_fresh ex204 f101).symm).ext x108).ext x120).ext x135).ext x170).ext x195)
   have ex206 := ((ex168.ext x170).ext x195)
   have ex207 := (ex193.ext x195)
   have ex208 := (((ex132.ext x135).ext x170).ext x195)
   have ex209 := (((ex128.ext x135).ext x170).ext x195)
   have ex210 := (((ex133.ext x135).ext x170).ext x195)
   have ex211 := (((ex124.ext x135).ext x170).ext x195)
   have ex212 := ((ex139.ext x170).ext x195)
   have ex213 := (ex191.ext x195)
   exact ⟨true, H, _, env_eq ⟨rfl, rfl, rfl, rfl, rfl, rfl, rfl, rfl, rfl, rfl, rfl, rfl, rfl, rfl, trivial⟩, X199, ex201, ex202, ex203, ex205, ex206, ex207, ex208, ex209, ex210, ex211, ex212, ex213⟩
  have H := H.2 hc196
  refine LP_ev ok 11 [(78, .bool r131), (79, .bool r66), (80, .bool (r131 != r66)), (81, .bool (r131 != r66))] 15 rfl rfl ?_
  refine LP_end _ rfl ?_
  try refine W_forget [(1, sl a5 aS c6), (2, sl a11 aPubs c12), (3, I aN), (4, pb b), (10, sl a81 r64 c82), (11, sl a83 r65 c84), (12, .bool r66), (13, pb b97), (14, sl a114 r104 c115), (15, sl a126 r116 c127), (16, sl a147 r129 c148), (17, sl a149 r130 c150), (18, .bool r131), (81, .bool (r131 != r66))] ⟨rfl, rfl, rfl, rfl, rfl, rfl, rfl, rfl, rfl, rfl, rfl, rfl, rfl, rfl, trivial⟩ fun ρ => ?_
  have X215 := (((((((((X.stepx x).stepx x17).stepx x22).stepx x28).stepx x35).stepx x45).stepx x56).stepx x70).stepx x89)
  have f214 := f101.mono X215.size
  have X216 := ((((((((((((((((X.stepx x).stepx x17).stepx x22).stepx x28).stepx x35).stepx x45).stepx x56).stepx x70).stepx x89).stepx x99).step y (f214.dom _)).stepx x108).stepx x120).stepx x135).stepx x170).stepx x195)
  have ex217 := (ex87.ext x89)
  have ex218 := ((((((((ex87.ext x89).ext x99).but y (Dj.of_fresh ex217 f101).symm).ext x108).ext x120).ext x135).ext x170).ext x195)
  have ex219 := (((((ex106.ext x108).ext x120).ext x135).ext x170).ext x195)
  have ex220 := ((((ex118.ext x120).ext x135).ext x170).ext x195)
  have ex221 := (ex85.ext x89)
  have ex222 := ((((((((ex85.ext x89).ext x99).but y (Dj.of_fresh ex221 f101).symm).ext x108).ext x120).ext x135).ext x170).ext x195)
  have ex223 := ((ex168.ext x170).ext x195)
  have ex224 := (ex193.ext x195)
  have ex225 := (((ex132.ext x135).ext x170).ext x195)
  have ex226 := (((ex128.ext x135).ext x170).ext x195)
  have ex227 := (((ex133.ext x135).ext x170).ext x195)
  have ex228 := (((ex124.ext x135).ext x170).ext x195)
  have ex229 := ((ex139.ext x170).ext x195)
  have ex230 := (ex191.ext x195)
  exact ⟨r131 != r66, H, _, env_eq ⟨rfl, rfl, rfl, rfl, rfl, rfl, rfl, rfl, rfl, rfl, rfl, rfl, rfl, rfl, trivial⟩, X216, ex218, ex219, ex220, ex222, ex223, ex224, ex225, ex226, ex227, ex228, ex229, ex230⟩
 rintro x151 _ wx152 ⟨H, ρ, rfl, HF⟩
 revert HF
 refine bb9 fun X165 ex153 ex154 ex155 ex156 ex157 ex158 ex159 => ?_
 refine bb5 fun ex160 ex161 ex162 ex163 ex164 => ?_
 subst hk
 refine W_cond (x151) rfl (fun hc231 => ?_) (fun hc231 => ?_)
 ·have H := H.1 hc231
  refine W_seq ?_
  refine W_region ?_
  refine LP_ev ok 0 [(8, .bool false)] 1 rfl rfl ?_
  refine LP_end _ rfl ?_
  refine W_ret ?_
  exact ⟨_, Ret_of [.bool false] ⟨⟨rfl, rfl⟩, trivial⟩, _, H, rfl, X165.ext⟩
 have H := H.2 hc231
 refine W_skip ?_
 refine W_seq ?_
 refine W_seq ?_
 refine W_open mix fun wx232 x233 => ?_
 refine AP_game 3 [[], [], [1], [0, 1, 2], [0, 1, 2, 3]] [[(13, none)], [(4, none)], [(83, some 1)]] [(1, none), (2, none), (3, none), (4, none), (10, none), (11, none), (12, none), (13, none), (14, none), (15, none), (16, none), (17, none), (18, none), (82, some 0), (84, some 2)] [(0, false), (1, false), (2, true)] (by kernel_rfl) (by kernel_rfl) ?_
 have ex234 := (ex160.ext x233)
 refine GS_r1 [(13, pb b97)] (.agg #[sl a95 r86.Parents c96]) rfl rfl (fun _ h => h) (fun _ w e => ex_ldbox rfl ti_32 ag_32 (fun h => by cases h) rfl e rfl rfl) ex234 ?_
 have ex235 := (ex156.ext x233)
 refine GS_r1 [(4, pb b)] (.agg #[sl a aG.Parents c]) rfl rfl (fun _ h => h) (fun _ w e => ex_ldbox rfl ti_24 ag_24 (fun h => by cases h) rfl e rfl rfl) ex235 ?_
 refine GS_lp [(83, .agg #[sl a aG.Parents c])] rfl rfl (fun _ h => h) rfl fun ρ wx236 x237 => ?_
 have ex239 := ((ex153.ext x233).ext x237)
 refine LP_call 0 rfl rfl rfl cal_13 rfl (laws_toGeo_w _ _ H wx236 r ex239) ?_
 rintro _ wx240 ⟨r238, vx242, hx243, H, rfl, x241, o244, ex245, f246⟩
 obtain ⟨a247, c248, rfl⟩ := o244.shape
 have ex249 := ((ex234.ext x237).ext x241)
 refine LP_gs ⟨⟨.inl rfl, .inr ex249, trivial⟩, ?_⟩
 intro wx250 x251 ρ hn
 refine AP_forget [(1, sl a5 aS c6), (2, sl a11 aPubs c12), (3, I aN), (4, pb b), (10, sl a81 r64 c82), (11, sl a83 r65 c84), (12, .bool r66), (13, pb b97), (14, sl a114 r104 c115), (15, sl a126 r116 c127), (16, sl a147 r129 c148), (17, sl a149 r130 c150), (18, .bool r131), (82, .agg #[sl a95 r86.Parents c96]), (84, .agg #[sl a247 r238.Parents c248])] (by exact hn) fun ρ => ?_
 refine AP_tail 3 [[], [], [1], [0, 1, 2], [0, 1, 2, 3]] (by kernel_rfl) ?_
 have ex253 := ((((ex159.ext x233).ext x237).ext x241).ext x251)
 have ex254 := (ex245.ext x251)
 refine LP_call 3 rfl rfl rfl cal_18 rfl (laws_eqGeo_w _ _ _ H wx250 o92.readf ex253 o244.readf ex254) ?_
 rintro _ wx255 ⟨r252, H, rfl, x256⟩
 refine LP_ev ok 4 [(86, .bool (!r252))] 5 rfl rfl ?_
 refine LP_end _ rfl ?_
 refine W_cond (!r252) rfl (fun hc257 => ?_) (fun hc257 => ?_)
 ·have H := H.1 hc257
  refine W_seq ?_
  refine W_region ?_
  refine LP_ev ok 0 [(8, .bool false)] 1 rfl rfl ?_
  refine LP_end _ rfl ?_
  refine W_ret ?_
  have X258 := (((((X165.stepx x233).stepx x237).stepx x241).stepx x251).stepx x256)
  exact ⟨_, Ret_of [.bool false] ⟨⟨rfl, rfl⟩, trivial⟩, _, H, rfl, X258.ext⟩
 have H := H.2 hc257
 refine W_skip ?_
 refine W_seq ?_
 refine W_seq ?_
 refine W_region ?_
 refine LP_ev ok 0 [(87, sl a114 r104 c115), (88, sl a5 aS c6)] 2 rfl rfl ?_
 have ex260 := (((((ex154.ext x233).ext x237).ext x241).ext x251).ext x256)
 refine LP_call 2 rfl rfl rfl cal_14 rfl (laws_toVariableS_w _ _ H wx255 r3 ex260) ?_
 rintro _ wx261 ⟨r259, vx263, hx264, H, rfl, x262, o265, ex266, f267⟩
 obtain ⟨a268, c269, rfl⟩ := o265.shape
 have ex271 := ((((((ex161.ext x233).ext x237).ext x241).ext x251).ext x256).ext x262)
 refine LP_call 3 rfl rfl rfl cal_19 rfl (laws_eqVariableS_w _ _ _ H wx261 o111.readf ex271 o265.readf ex266) ?_
 rintro _ wx272 ⟨r270, H, rfl, x273⟩
 refine LP_ev ok 4 [(91, .bool (!r270))] 5 rfl rfl ?_
 refine LP_end _ rfl ?_
 refine W_cond (!r270) rfl (fun hc274 => ?_) (fun hc274 => ?_)
 ·have H := H.1 hc274
  refine W_seq ?_
  refine W_region ?_
  refine LP_ev ok 0 [(8, .bool false)] 1 rfl rfl ?_
  refine LP_end _ rfl ?_
  refine W_ret ?_
  have X275 := (((((((X165.stepx x233).stepx x237).stepx x241).stepx x251).stepx x256).stepx x262).stepx x273)
  exact ⟨_, Ret_of [.bool false] ⟨⟨rfl, rfl⟩, trivial⟩, _, H, rfl, X275.ext⟩
 have H := H.2 hc274
 refine W_skip ?_
 refine W_seq ?_
 refine W_seq ?_
 refine W_region ?_
 refine LP_ev ok 0 [(92, sl a126 r116 c127), (93, sl a11 aPubs c12)] 2 rfl rfl ?_
 have ex277 := (((((((ex155.ext x233).ext x237).ext x241).ext x251).ext x256).ext x262).ext x273)
 refine LP_call 2 rfl rfl rfl cal_15 rfl (laws_toPublishedS_w _ _ H wx272 r9 ex277) ?_
 rintro _ wx278 ⟨r276, vx280, hx281, H, rfl, x279, o282, ex283, f284⟩
 obtain ⟨a285, c286, rfl⟩ := o282.shape
 have ex288 := ((((((((ex162.ext x233).ext x237).ext x241).ext x251).ext x256).ext x262).ext x273).ext x279)
 refine LP_call 3 rfl rfl rfl cal_20 rfl (laws_eqPublishedS_w _ _ _ H wx278 o123.readf ex288 o282.readf ex283) ?_
 rintro _ wx289 ⟨r287, H, rfl, x290⟩
 refine LP_ev ok 4 [(96, .bool (!r287))] 5 rfl rfl ?_
 refine LP_end _ rfl ?_
 refine W_cond (!r287) rfl (fun hc291 => ?_) (fun hc291 => ?_)
 ·have H := H.1 hc291
  refine W_seq ?_
  refine W_region ?_
  refine LP_ev ok 0 [(8, .bool false)] 1 rfl rfl ?_
  refine LP_end _ rfl ?_
  refine W_ret ?_
  have X292 := (((((((((X165.stepx x233).stepx x237).stepx x241).stepx x251).stepx x256).stepx x262).stepx x273).stepx x279).stepx x290)
  exact ⟨_, Ret_of [.bool false] ⟨⟨rfl, rfl⟩, trivial⟩, _, H, rfl, X292.ext⟩
 have H := H.2 hc291
 refine W_skip ?_
 refine W_seq ?_
 refine W_region ?_
 refine LP_ev ok 0 [(19, I 1)] 1 rfl rfl ?_
 refine LP_end _ rfl ?_
 refine W_seq ?_
 refine W_region ?_
 have ex293 := ((((((((ex234.ext x237).ext x241).ext x251).ext x256).ext x262).ext x273).ext x279).ext x290)
 refine LP_ldbox 0 (v := .agg #[sl a95 r86.Parents c96]) rfl rfl rfl ti_32 ag_32 (fun h => by cases h) rfl ex293 rfl rfl ?_
 refine LP_ev ok 1 [(98, I 1)] 2 rfl rfl ?_
 have ex296 := (((((ex253.ext x256).ext x262).ext x273).ext x279).ext x290)
 refine LP_call 2 rfl rfl rfl cal_21 rfl (laws_markGeo_w _ _ _ H wx289 o92 ex296) ?_
 rintro _ wx297 ⟨r294, r295, hx299, H, rfl, x298, o300, ex301, dm⟩
 refine LP_ev ok 3 [(19, I r294)] 4 rfl rfl ?_
 refine LP_end _ rfl ?_
 refine W_seq ?_
 refine W_region ?_
 refine LP_ev ok 0 [(100, sl a114 r104 c115), (101, I r294)] 2 rfl rfl ?_
 have ex304 := ((ex93.ext x99).but y (Dj.of_fresh ex93 f101).symm)
 have ex305 := ((((ex271.ext x273).ext x279).ext x290).but x298 (Dj.of_fresh ex304 f113))
 refine LP_call 2 rfl rfl rfl cal_22 rfl (laws_markVariableS_w _ _ _ H wx297 o111 ex305) ?_
 rintro _ wx306 ⟨r302, r303, hx308, H, rfl, x307, o309, ex310, dm311⟩
 refine LP_ev ok 3 [(19, I r302)] 4 rfl rfl ?_
 refine LP_end _ rfl ?_
 refine W_seq ?_
 refine W_region ?_
 refine LP_ev ok 0 [(103, sl a126 r116 c127), (104, I r302)] 2 rfl rfl ?_
 have ex314 := (ex304.ext x108)
 have ex315 := (((ex288.ext x290).but x298 (Dj.of_fresh ex314 f125)).but x307 (Dj.of_fresh ex112 f125))
 refine LP_call 2 rfl rfl rfl cal_23 rfl (laws_markPublishedS_w _ _ _ H wx306 o123 ex315) ?_
 rintro _ wx316 ⟨r312, r313, hx318, H, rfl, x317, o319, ex320, dm321⟩
 refine LP_ev ok 3 [(19, I r312)] 4 rfl rfl ?_
 refine LP_end _ rfl ?_
 try refine W_forget [(1, sl a5 aS c6), (2, sl a11 aPubs c12), (3, I aN), (4, pb b), (10, sl a81 r64 c82), (11, sl a83 r65 c84), (12, .bool r66), (16, sl a147 r129 c148), (17, sl a149 r130 c150), (18, .bool r131), (19, I r312)] ⟨rfl, rfl, rfl, rfl, rfl, rfl, rfl, rfl, rfl, rfl, rfl, trivial⟩ fun ρ => ?_
 refine W_seq ?_
 obtain ⟨k333, hk334, H⟩ := jn_elim H
 refine W_join2 (S := Bool) (fun s ρ' w' => k333 s ∧ ∃ (ρ : Env), ρ' = setAll [(1, sl a5 aS c6), (2, sl a11 aPubs c12), (3, I aN), (4, pb b), (10, sl a81 r64 c82), (11, sl a83 r65 c84), (12, .bool r66), (16, sl a147 r129 c148), (17, sl a149 r130 c150), (124, .bool s)] ρ ∧ But emp w w' ∧ Sub hx w' ∧ Sub hx2 w' ∧ Sub hx8 w' ∧ Sub (bx b 24 [sl a aG.Parents c]) w' ∧ Sub hx72 w' ∧ Sub hx77 w' ∧ Sub hx137 w' ∧ Sub hx142 w') ?_ ?_
 ·refine W_region ?_
  refine LP_ev ok 0 [(106, I r312), (107, .bool (decide (r312 < 0))), (108, .bool (decide (r312 < 0)))] 3 rfl rfl ?_
  refine LP_split 108 (decide (r312 < 0)) rfl (fun hc335 => ?_) (fun hc335 => ?_)
  ·have H := H.1 hc335
   refine LP_ev ok 3 [(109, undef), (110, undef), (111, undef), (112, undef), (113, .bool true), (114, .bool true), (115, undef), (116, undef), (117, undef), (118, undef), (119, .bool true), (120, .bool true), (121, undef), (122, undef), (123, undef), (124, .bool true)] 19 rfl rfl ?_
   refine LP_end _ rfl ?_
   have X337 := ((((((((X.stepx x).stepx x17).stepx x22).stepx x28).stepx x35).stepx x45).stepx x56).stepx x70)
   have f336 := f94.mono X337.size
   have X340 := (X337.stepx x89)
   have f339 := f101.mono X340.size
   have X341 := (((X337.stepx x89).stepx x99).step y (f339.dom _))
   have f338 := f113.mono X341.size
   have X343 := (X341.stepx x108)
   have f342 := f125.mono X343.size
   have X344 := ((((((((((((X165.stepx x233).stepx x237).stepx x241).stepx x251).stepx x256).stepx x262).stepx x273).stepx x279).stepx x290).step x298 (f336.dom _)).step x307 (f338.dom _)).step x317 (f342.dom _))
   have ex345 := (ex87.ext x89)
   have ex346 := (((ex87.ext x89).ext x99).but y (Dj.of_fresh ex345 f101).symm)
   have ex347 := (ex346.ext x108)
   have ex348 := ((((((((((ex239.ext x241).ext x251).ext x256).ext x262).ext x273).ext x279).ext x290).but x298 (Dj.of_fresh ex87 f94).symm).but x307 (Dj.of_fresh ex346 f113).symm).but x317 (Dj.of_fresh ex347 f125).symm)
   have ex349 := (((ex43.ext x45).ext x56).ext x70)
   have ex350 := (ex106.ext x108)
   have ex351 := (((((((ex260.ext x262).ext x273).ext x279).ext x290).but x298 (Dj.of_fresh ex349 f94).symm).but x307 (Dj.of_fresh ex106 f113).symm).but x317 (Dj.of_fresh ex350 f125).symm)
   have ex352 := ((ex54.ext x56).ext x70)
   have ex353 := ((ex117.ext x99).but y (Dj.of_fresh ex117 f101).symm)
   have ex354 := (((((ex277.ext x279).ext x290).but x298 (Dj.of_fresh ex352 f94).symm).but x307 (Dj.of_fresh ex353 f113).symm).but x317 (Dj.of_fresh ex118 f125).symm)
   have ex355 := (ex85.ext x89)
   have ex356 := (((ex85.ext x89).ext x99).but y (Dj.of_fresh ex355 f101).symm)
   have ex357 := (ex356.ext x108)
   have ex358 := (((((((((((ex235.ext x237).ext x241).ext x251).ext x256).ext x262).ext x273).ext x279).ext x290).but x298 (Dj.of_fresh ex85 f94).symm).but x307 (Dj.of_fresh ex356 f113).symm).but x317 (Dj.of_fresh ex357 f125).symm)
   have ex359 := (ex74.ext x89)
   have ex360 := (((ex74.ext x89).ext x99).but y (Dj.of_fresh ex359 f101).symm)
   have ex361 := (ex360.ext x108)
   have ex362 := ((((((((((((ex157.ext x233).ext x237).ext x241).ext x251).ext x256).ext x262).ext x273).ext x279).ext x290).but x298 (Dj.of_fresh ex74 f94).symm).but x307 (Dj.of_fresh ex360 f113).symm).but x317 (Dj.of_fresh ex361 f125).symm)
   have ex363 := (ex79.ext x89)
   have ex364 := (((ex79.ext x89).ext x99).but y (Dj.of_fresh ex363 f101).symm)
   have ex365 := (ex364.ext x108)
   have ex366 := ((((((((((((ex158.ext x233).ext x237).ext x241).ext x251).ext x256).ext x262).ext x273).ext x279).ext x290).but x298 (Dj.of_fresh ex79 f94).symm).but x307 (Dj.of_fresh ex364 f113).symm).but x317 (Dj.of_fresh ex365 f125).symm)
   have ex367 := ((((((((((((ex163.ext x233).ext x237).ext x241).ext x251).ext x256).ext x262).ext x273).ext x279).ext x290).but x298 (Dj.of_fresh ex132 f140)).but x307 (Dj.of_fresh ex133 f140)).but x317 (Dj.of_fresh ex124 f140))
   have ex368 := ((((((((((((ex164.ext x233).ext x237).ext x241).ext x251).ext x256).ext x262).ext x273).ext x279).ext x290).but x298 (Dj.of_fresh ex132 f145)).but x307 (Dj.of_fresh ex133 f145)).but x317 (Dj.of_fresh ex124 f145))
   exact ⟨true, H, _, env_eq ⟨rfl, rfl, rfl, rfl, rfl, rfl, rfl, rfl, rfl, rfl, trivial⟩, X344, ex348, ex351, ex354, ex358, ex362, ex366, ex367, ex368⟩
  have H := H.2 hc335
  refine LP_ev ok 3 [(109, sl a147 r129 c148), (110, sl a81 r64 c82)] 5 rfl rfl ?_
  have ex370 := ((((((((((((ex163.ext x233).ext x237).ext x241).ext x251).ext x256).ext x262).ext x273).ext x279).ext x290).but x298 (Dj.of_fresh ex132 f140)).but x307 (Dj.of_fresh ex133 f140)).but x317 (Dj.of_fresh ex124 f140))
  have ex371 := (ex74.ext x89)
  have ex372 := (((ex74.ext x89).ext x99).but y (Dj.of_fresh ex371 f101).symm)
  have ex373 := (ex372.ext x108)
  have ex374 := ((((((((((((ex157.ext x233).ext x237).ext x241).ext x251).ext x256).ext x262).ext x273).ext x279).ext x290).but x298 (Dj.of_fresh ex74 f94).symm).but x307 (Dj.of_fresh ex372 f113).symm).but x317 (Dj.of_fresh ex373 f125).symm)
  refine LP_call 5 rfl rfl rfl cal_17 rfl (laws_eqIntS_w _ _ _ H wx316 o138.readf ex370 o73.readf ex374) ?_
  rintro _ wx375 ⟨r369, H, rfl, x376⟩
  refine LP_ev ok 6 [(112, .bool (!r369)), (113, .bool (!r369)), (114, .bool (!r369))] 9 rfl rfl ?_
  refine LP_split 114 (!r369) rfl (fun hc377 => ?_) (fun hc377 => ?_)
  ·have H := H.1 hc377
   refine LP_ev ok 9 [(115, undef), (116, undef), (117, undef), (118, undef), (119, .bool true), (120, .bool true), (121, undef), (122, undef), (123, undef), (124, .bool true)] 19 rfl rfl ?_
   refine LP_end _ rfl ?_
   have X379 := ((((((((X.stepx x).stepx x17).stepx x22).stepx x28).stepx x35).stepx x45).stepx x56).stepx x70)
   have f378 := f94.mono X379.size
   have X382 := (X379.stepx x89)
   have f381 := f101.mono X382.size
   have X383 := (((X379.stepx x89).stepx x99).step y (f381.dom _))
   have f380 := f113.mono X383.size
   have X385 := (X383.stepx x108)
   have f384 := f125.mono X385.size
   have X386 := (((((((((((((X165.stepx x233).stepx x237).stepx x241).stepx x251).stepx x256).stepx x262).stepx x273).stepx x279).stepx x290).step x298 (f378.dom _)).step x307 (f380.dom _)).step x317 (f384.dom _)).stepx x376)
   have ex387 := (ex87.ext x89)
   have ex388 := (((ex87.ext x89).ext x99).but y (Dj.of_fresh ex387 f101).symm)
   have ex389 := (ex388.ext x108)
   have ex390 := (((((((((((ex239.ext x241).ext x251).ext x256).ext x262).ext x273).ext x279).ext x290).but x298 (Dj.of_fresh ex87 f94).symm).but x307 (Dj.of_fresh ex388 f113).symm).but x317 (Dj.of_fresh ex389 f125).symm).ext x376)
   have ex391 := (((ex43.ext x45).ext x56).ext x70)
   have ex392 := (ex106.ext x108)
   have ex393 := ((((((((ex260.ext x262).ext x273).ext x279).ext x290).but x298 (Dj.of_fresh ex391 f94).symm).but x307 (Dj.of_fresh ex106 f113).symm).but x317 (Dj.of_fresh ex392 f125).symm).ext x376)
   have ex394 := ((ex54.ext x56).ext x70)
   have ex395 := ((ex117.ext x99).but y (Dj.of_fresh ex117 f101).symm)
   have ex396 := ((((((ex277.ext x279).ext x290).but x298 (Dj.of_fresh ex394 f94).symm).but x307 (Dj.of_fresh ex395 f113).symm).but x317 (Dj.of_fresh ex118 f125).symm).ext x376)
   have ex397 := (ex85.ext x89)
   have ex398 := (((ex85.ext x89).ext x99).but y (Dj.of_fresh ex397 f101).symm)
   have ex399 := (ex398.ext x108)
   have ex400 := ((((((((((((ex235.ext x237).ext x241).ext x251).ext x256).ext x262).ext x273).ext x279).ext x290).but x298 (Dj.of_fresh ex85 f94).symm).but x307 (Dj.of_fresh ex398 f113).symm).but x317 (Dj.of_fresh ex399 f125).symm).ext x376)
   have ex401 := (ex374.ext x376)
   have ex402 := (ex79.ext x89)
   have ex403 := (((ex79.ext x89).ext x99).but y (Dj.of_fresh ex402 f101).symm)
   have ex404 := (ex403.ext x108)
   have ex405 := (((((((((((((ex158.ext x233).ext x237).ext x241).ext x251).ext x256).ext x262).ext x273).ext x279).ext x290).but x298 (Dj.of_fresh ex79 f94).symm).but x307 (Dj.of_fresh ex403 f113).symm).but x317 (Dj.of_fresh ex404 f125).symm).ext x376)
   have ex406 := (ex370.ext x376)
   have ex407 := (((((((((((((ex164.ext x233).ext x237).ext x241).ext x251).ext x256).ext x262).ext x273).ext x279).ext x290).but x298 (Dj.of_fresh ex132 f145)).but x307 (Dj.of_fresh ex133 f145)).but x317 (Dj.of_fresh ex124 f145)).ext x376)
   exact ⟨true, H, _, env_eq ⟨rfl, rfl, rfl, rfl, rfl, rfl, rfl, rfl, rfl, rfl, trivial⟩, X386, ex390, ex393, ex396, ex400, ex401, ex405, ex406, ex407⟩
  have H := H.2 hc377
  refine LP_ev ok 9 [(115, sl a149 r130 c150), (116, sl a83 r65 c84)] 11 rfl rfl ?_
  have ex409 := (((((((((((((ex164.ext x233).ext x237).ext x241).ext x251).ext x256).ext x262).ext x273).ext x279).ext x290).but x298 (Dj.of_fresh ex132 f145)).but x307 (Dj.of_fresh ex133 f145)).but x317 (Dj.of_fresh ex124 f145)).ext x376)
  have ex410 := (ex79.ext x89)
  have ex411 := (((ex79.ext x89).ext x99).but y (Dj.of_fresh ex410 f101).symm)
  have ex412 := (ex411.ext x108)
  have ex413 := (((((((((((((ex158.ext x233).ext x237).ext x241).ext x251).ext x256).ext x262).ext x273).ext x279).ext x290).but x298 (Dj.of_fresh ex79 f94).symm).but x307 (Dj.of_fresh ex411 f113).symm).but x317 (Dj.of_fresh ex412 f125).symm).ext x376)
  refine LP_call 11 rfl rfl rfl cal_17 rfl (laws_eqIntS_w _ _ _ H wx375 o143.readf ex409 o78.readf ex413) ?_
  rintro _ wx414 ⟨r408, H, rfl, x415⟩
  refine LP_ev ok 12 [(118, .bool (!r408)), (119, .bool (!r408)), (120, .bool (!r408))] 15 rfl rfl ?_
  refine LP_split 120 (!r408) rfl (fun hc416 => ?_) (fun hc416 => ?_)
  ·have H := H.1 hc416
   refine LP_ev ok 15 [(121, undef), (122, undef), (123, undef), (124, .bool true)] 19 rfl rfl ?_
   refine LP_end _ rfl ?_
   have X418 := ((((((((X.stepx x).stepx x17).stepx x22).stepx x28).stepx x35).stepx x45).stepx x56).stepx x70)
   have f417 := f94.mono X418.size
   have X421 := (X418.stepx x89)
   have f420 := f101.mono X421.size
   have X422 := (((X418.stepx x89).stepx x99).step y (f420.dom _))
   have f419 := f113.mono X422.size
   have X424 := (X422.stepx x108)
   have f423 := f125.mono X424.size
   have X425 := ((((((((((((((X165.stepx x233).stepx x237).stepx x241).stepx x251).stepx x256).stepx x262).stepx x273).stepx x279).stepx x290).step x298 (f417.dom _)).step x307 (f419.dom _)).step x317 (f423.dom _)).stepx x376).stepx x415)
   have ex426 := (ex87.ext x89)
   have ex427 := (((ex87.ext x89).ext x99).but y (Dj.of_fresh ex426 f101).symm)
   have ex428 := (ex427.ext x108)
   have ex429 := ((((((((((((ex239.ext x241).ext x251).ext x256).ext x262).ext x273).ext x279).ext x290).but x298 (Dj.of_fresh ex87 f94).symm).but x307 (Dj.of_fresh ex427 f113).symm).but x317 (Dj.of_fresh ex428 f125).symm).ext x376).ext x415)
   have ex430 := (((ex43.ext x45).ext x56).ext x70)
   have ex431 := (ex106.ext x108)
   have ex432 := (((((((((ex260.ext x262).ext x273).ext x279).ext x290).but x298 (Dj.of_fresh ex430 f94).symm).but x307 (Dj.of_fresh ex106 f113).symm).but x317 (Dj.of_fresh ex431 f125).symm).ext x376).ext x415)
   have ex433 := ((ex54.ext x56).ext x70)
   have ex434 := ((ex117.ext x99).but y (Dj.of_fresh ex117 f101).symm)
   have ex435 := (((((((ex277.ext x279).ext x290).but x298 (Dj.of_fresh ex433 f94).symm).but x307 (Dj.of_fresh ex434 f113).symm).but x317 (Dj.of_fresh ex118 f125).symm).ext x376).ext x415)
   have ex436 := (ex85.ext x89)
   have ex437 := (((ex85.ext x89).ext x99).but y (Dj.of_fresh ex436 f101).symm)
   have ex438 := (ex437.ext x108)
   have ex439 := (((((((((((((ex235.ext x237).ext x241).ext x251).ext x256).ext x262).ext x273).ext x279).ext x290).but x298 (Dj.of_fresh ex85 f94).symm).but x307 (Dj.of_fresh ex437 f113).symm).but x317 (Dj.of_fresh ex438 f125).symm).ext x376).ext x415)
   have ex440 := ((ex374.ext x376).ext x415)
   have ex441 := (ex413.ext x415)
   have ex442 := ((ex370.ext x376).ext x415)
   have ex443 := (ex409.ext x415)
   exact ⟨true, H, _, env_eq ⟨rfl, rfl, rfl, rfl, rfl, rfl, rfl, rfl, rfl, rfl, trivial⟩, X425, ex429, ex432, ex435, ex439, ex440, ex441, ex442, ex443⟩
  have H := H.2 hc416
  refine LP_ev ok 15 [(121, .bool r131), (122, .bool r66), (123, .bool (r131 != r66)), (124, .bool (r131 != r66))] 19 rfl rfl ?_
  refine LP_end _ rfl ?_
  have X445 := ((((((((X.stepx x).stepx x17).stepx x22).stepx x28).stepx x35).stepx x45).stepx x56).stepx x70)
  have f444 := f94.mono X445.size
  have X448 := (X445.stepx x89)
  have f447 := f101.mono X448.size
  have X449 := (((X445.stepx x89).stepx x99).step y (f447.dom _))
  have f446 := f113.mono X449.size
  have X451 := (X449.stepx x108)
  have f450 := f125.mono X451.size
  have X452 := ((((((((((((((X165.stepx x233).stepx x237).stepx x241).stepx x251).stepx x256).stepx x262).stepx x273).stepx x279).stepx x290).step x298 (f444.dom _)).step x307 (f446.dom _)).step x317 (f450.dom _)).stepx x376).stepx x415)
  have ex453 := (ex87.ext x89)
  have ex454 := (((ex87.ext x89).ext x99).but y (Dj.of_fresh ex453 f101).symm)
  have ex455 := (ex454.ext x108)
  have ex456 := ((((((((((((ex239.ext x241).ext x251).ext x256).ext x262).ext x273).ext x279).ext x290).but x298 (Dj.of_fresh ex87 f94).symm).but x307 (Dj.of_fresh ex454 f113).symm).but x317 (Dj.of_fresh ex455 f125).symm).ext x376).ext x415)
  have ex457 := (((ex43.ext x45).ext x56).ext x70)
  have ex458 := (ex106.ext x108)
  have ex459 := (((((((((ex260.ext x262).ext x273).ext x279).ext x290).but x298 (Dj.of_fresh ex457 f94).symm).but x307 (Dj.of_fresh ex106 f113).symm).but x317 (Dj.of_fresh ex458 f125).symm).ext x376).ext x415)
  have ex460 := ((ex54.ext x56).ext x70)
  have ex461 := ((ex117.ext x99).but y (Dj.of_fresh ex117 f101).symm)
  have ex462 := (((((((ex277.ext x279).ext x290).but x298 (Dj.of_fresh ex460 f94).symm).but x307 (Dj.of_fresh ex461 f113).symm).but x317 (Dj.of_fresh ex118 f125).symm).ext x376).ext x415)
  have ex463 := (ex85.ext x89)
  have ex464 := (((ex85.ext x89).ext x99).but y (Dj.of_fresh ex463 f101).symm)
  have ex465 := (ex464.ext x108)
  have ex466 := (((((((((((((ex235.ext x237).ext x241).ext x251).ext x256).ext x262).ext x273).ext x279).ext x290).but x298 (Dj.of_fresh ex85 f94).symm).but x307 (Dj.of_fresh ex464 f113).symm).but x317 (Dj.of_fresh ex465 f125).symm).ext x376).ext x415)
  have ex467 := ((ex374.ext x376).ext x415)
  have ex468 := (ex413.ext x415)
  have ex469 := ((ex370.ext x376).ext x415)
  have ex470 := (ex409.ext x415)
  exact ⟨r131 != r66, H, _, env_eq ⟨rfl, rfl, rfl, rfl, rfl, rfl, rfl, rfl, rfl, rfl, trivial⟩, X452, ex456, ex459, ex462, ex466, ex467, ex468, ex469, ex470⟩
 rintro x322 _ wx323 ⟨H, ρ, rfl, HF⟩
 revert HF
 refine bb9 fun X332 ex324 ex325 ex326 ex327 ex328 ex329 ex330 ex331 => ?_
 subst hk334
 refine W_cond (x322) rfl (fun hc471 => ?_) (fun hc471 => ?_)
 ·have H := H.1 hc471
  refine W_seq ?_
  refine W_region ?_
  refine LP_ev ok 0 [(8, .bool false)] 1 rfl rfl ?_
  refine LP_end _ rfl ?_
  refine W_ret ?_
  exact ⟨_, Ret_of [.bool false] ⟨⟨rfl, rfl⟩, trivial⟩, _, H, rfl, X332.ext⟩
 have H := H.2 hc471
 refine W_skip ?_
 refine W_seq ?_
 refine W_region ?_
 refine LP_ev ok 0 [(20, I 1)] 1 rfl rfl ?_
 refine LP_end _ rfl ?_
 refine W_seq ?_
 refine W_region ?_
 refine LP_ev ok 0 [(125, sl a147 r129 c148), (126, I 1)] 2 rfl rfl ?_
 refine LP_call 2 rfl rfl rfl cal_24 rfl (laws_markIntS_w _ _ _ H wx323 o138 ex330) ?_
 rintro _ wx474 ⟨r472, r473, hx476, H, rfl, x475, o477, ex478, dm479⟩
 refine LP_ev ok 3 [(20, I r472)] 4 rfl rfl ?_
 refine LP_end _ rfl ?_
 refine W_seq ?_
 refine W_region ?_
 refine LP_ev ok 0 [(128, sl a149 r130 c150), (129, I r472)] 2 rfl rfl ?_
 have ex482 := (ex331.but x475 d146)
 refine LP_call 2 rfl rfl rfl cal_24 rfl (laws_markIntS_w _ _ _ H wx474 o143 ex482) ?_
 rintro _ wx483 ⟨r480, r481, hx485, H, rfl, x484, o486, ex487, dm488⟩
 refine LP_ev ok 3 [(20, I r480)] 4 rfl rfl ?_
 refine LP_end _ rfl ?_
 refine W_seq ?_
 refine W_region ?_
 refine LP_ev ok 0 [(21, I 1)] 1 rfl rfl ?_
 refine LP_end _ rfl ?_
 refine W_seq ?_
 refine W_region ?_
 refine LP_ev ok 0 [(131, sl a147 r129 c148), (132, I 1)] 2 rfl rfl ?_
 have ex490 := (ex478.but x484 (DomLe.dj (dm479 _) d146 ex331).symm)
 refine LP_call 2 rfl rfl rfl cal_25 rfl (laws_heldIntS_w _ _ _ H wx483 o477.readf ex490) ?_
 rintro _ wx491 ⟨r489, H, rfl, x492⟩
 refine LP_ev ok 3 [(21, I r489)] 4 rfl rfl ?_
 refine LP_end _ rfl ?_
 refine W_seq ?_
 refine W_seq ?_
 refine W_region ?_
 refine LP_ev ok 0 [(134, I r489), (135, .bool (decide (r489 < 0)))] 2 rfl rfl ?_
 refine LP_end _ rfl ?_
 refine W_cond (decide (r489 < 0)) rfl (fun hc493 => ?_) (fun hc493 => ?_)
 ·have H := H.1 hc493
  refine W_seq ?_
  refine W_region ?_
  refine LP_ev ok 0 [(8, .bool false)] 1 rfl rfl ?_
  refine LP_end _ rfl ?_
  refine W_ret ?_
  have X496 := (((((((((X.stepx x).stepx x17).stepx x22).stepx x28).stepx x35).stepx x45).stepx x56).stepx x70).stepx x89)
  have f495 := f101.mono X496.size
  have X497 := (((((((((((((X.stepx x).stepx x17).stepx x22).stepx x28).stepx x35).stepx x45).stepx x56).stepx x70).stepx x89).stepx x99).step y (f495.dom _)).stepx x108).stepx x120)
  have f494 := f140.mono X497.size
  have f498 := f145.mono X497.size
  have X499 := (((X332.step x475 (f494.dom _)).step x484 (f498.dom _)).stepx x492)
  exact ⟨_, Ret_of [.bool false] ⟨⟨rfl, rfl⟩, trivial⟩, _, H, rfl, X499.ext⟩
 have H := H.2 hc493
 refine W_skip ?_
 refine W_seq ?_
 refine W_region ?_
 refine LP_ev ok 0 [(136, sl a149 r130 c150), (137, I r489)] 2 rfl rfl ?_
 have ex501 := (ex487.ext x492)
 refine LP_call 2 rfl rfl rfl cal_25 rfl (laws_heldIntS_w _ _ _ H wx491 o486.readf ex501) ?_
 rintro _ wx502 ⟨r500, H, rfl, x503⟩
 refine LP_ev ok 3 [(21, I r500)] 4 rfl rfl ?_
 refine LP_end _ rfl ?_
 refine W_seq ?_
 refine W_seq ?_
 refine W_region ?_
 refine LP_ev ok 0 [(139, I r500), (140, .bool (decide (r500 < 0)))] 2 rfl rfl ?_
 refine LP_end _ rfl ?_
 refine W_cond (decide (r500 < 0)) rfl (fun hc504 => ?_) (fun hc504 => ?_)
 ·have H := H.1 hc504
  refine W_seq ?_
  refine W_region ?_
  refine LP_ev ok 0 [(8, .bool false)] 1 rfl rfl ?_
  refine LP_end _ rfl ?_
  refine W_ret ?_
  have X507 := (((((((((X.stepx x).stepx x17).stepx x22).stepx x28).stepx x35).stepx x45).stepx x56).stepx x70).stepx x89)
  have f506 := f101.mono X507.size
  have X508 := (((((((((((((X.stepx x).stepx x17).stepx x22).stepx x28).stepx x35).stepx x45).stepx x56).stepx x70).stepx x89).stepx x99).step y (f506.dom _)).stepx x108).stepx x120)
  have f505 := f140.mono X508.size
  have f509 := f145.mono X508.size
  have X510 := ((((X332.step x475 (f505.dom _)).step x484 (f509.dom _)).stepx x492).stepx x503)
  exact ⟨_, Ret_of [.bool false] ⟨⟨rfl, rfl⟩, trivial⟩, _, H, rfl, X510.ext⟩
 have H := H.2 hc504
 refine W_skip ?_
 refine W_seq ?_
 refine W_seq ?_
 refine W_region ?_
 refine LP_ev ok 0 [(141, I r500), (142, I r480), (143, .bool (r500 != r480))] 3 rfl rfl ?_
 refine LP_end _ rfl ?_
 try refine W_forget [(1, sl a5 aS c6), (2, sl a11 aPubs c12), (3, I aN), (4, pb b), (10, sl a81 r64 c82), (11, sl a83 r65 c84), (12, .bool r66), (16, sl a147 r129 c148), (17, sl a149 r130 c150), (20, I r480), (143, .bool (r500 != r480))] ⟨rfl, rfl, rfl, rfl, rfl, rfl, rfl, rfl, rfl, rfl, rfl, trivial⟩ fun ρ => ?_
 refine W_cond (r500 != r480) rfl (fun hc511 => ?_) (fun hc511 => ?_)
 ·have H := H.1 hc511
  refine W_seq ?_
  refine W_region ?_
  refine LP_ev ok 0 [(8, .bool false)] 1 rfl rfl ?_
  refine LP_end _ rfl ?_
  refine W_ret ?_
  have X514 := (((((((((X.stepx x).stepx x17).stepx x22).stepx x28).stepx x35).stepx x45).stepx x56).stepx x70).stepx x89)
  have f513 := f101.mono X514.size
  have X515 := (((((((((((((X.stepx x).stepx x17).stepx x22).stepx x28).stepx x35).stepx x45).stepx x56).stepx x70).stepx x89).stepx x99).step y (f513.dom _)).stepx x108).stepx x120)
  have f512 := f140.mono X515.size
  have f516 := f145.mono X515.size
  have X517 := ((((X332.step x475 (f512.dom _)).step x484 (f516.dom _)).stepx x492).stepx x503)
  exact ⟨_, Ret_of [.bool false] ⟨⟨rfl, rfl⟩, trivial⟩, _, H, rfl, X517.ext⟩
 have H := H.2 hc511
 refine W_skip ?_
 refine W_seq ?_
 refine W_region ?_
 have ex518 := (ex85.ext x89)
 have ex519 := (((((ex85.ext x89).ext x99).but y (Dj.of_fresh ex518 f101).symm).ext x108).ext x120)
 have ex520 := ((((ex327.but x475 (Dj.of_fresh ex519 f140).symm).but x484 (Dj.of_fresh ex519 f145).symm).ext x492).ext x503)
 refine LP_ldbox 0 (v := .agg #[sl a aG.Parents c]) rfl rfl rfl ti_24 ag_24 (fun h => by cases h) rfl ex520 rfl rfl ?_
 have ex522 := (ex87.ext x89)
 have ex523 := (((((ex87.ext x89).ext x99).but y (Dj.of_fresh ex522 f101).symm).ext x108).ext x120)
 have ex524 := ((((ex324.but x475 (Dj.of_fresh ex523 f140).symm).but x484 (Dj.of_fresh ex523 f145).symm).ext x492).ext x503)
 refine LP_call 1 rfl rfl rfl cal_13 rfl (laws_toGeo_w _ _ H wx502 r ex524) ?_
 rintro _ wx525 ⟨r521, vx527, hx528, H, rfl, x526, o529, ex530, f531⟩
 obtain ⟨a532, c533, rfl⟩ := o529.shape
 refine LP_ev ok 2 [(147, sl a5 aS c6)] 3 rfl rfl ?_
 have ex535 := ((ex106.ext x108).ext x120)
 have ex536 := (((((ex325.but x475 (Dj.of_fresh ex535 f140).symm).but x484 (Dj.of_fresh ex535 f145).symm).ext x492).ext x503).ext x526)
 refine LP_call 3 rfl rfl rfl cal_14 rfl (laws_toVariableS_w _ _ H wx525 r3 ex536) ?_
 rintro _ wx537 ⟨r534, vx539, hx540, H, rfl, x538, o541, ex542, f543⟩
 obtain ⟨a544, c545, rfl⟩ := o541.shape
 refine LP_ev ok 4 [(149, sl a11 aPubs c12)] 5 rfl rfl ?_
 have ex547 := (ex118.ext x120)
 have ex548 := ((((((ex326.but x475 (Dj.of_fresh ex547 f140).symm).but x484 (Dj.of_fresh ex547 f145).symm).ext x492).ext x503).ext x526).ext x538)
 refine LP_call 5 rfl rfl rfl cal_15 rfl (laws_toPublishedS_w _ _ H wx537 r9 ex548) ?_
 rintro _ wx549 ⟨r546, vx551, hx552, H, rfl, x550, o553, ex554, f555⟩
 obtain ⟨a556, c557, rfl⟩ := o553.shape
 refine LP_ev ok 6 [(151, I aN)] 7 rfl rfl ?_
 have ex561 := ((ex530.ext x538).ext x550)
 have ex562 := (ex542.ext x550)
 refine LP_call 7 rfl rfl rfl cal_27 rfl (impl_TypeRanges_w _ _ _ _ _ H wx549 o529.readf ex561 o541.readf ex562 o553.readf ex554) ?_
 rintro _ wx563 ⟨r558, r559, r560, vx565, hx566, vx570, hx571, H, rfl, x564, HF⟩
 revert HF
 refine bb7 fun o567 ex568 f569 o572 ex573 f574 d575 => ?_
 obtain ⟨a576, c577, rfl⟩ := o567.shape
 obtain ⟨a578, c579, rfl⟩ := o572.shape
 refine LP_ev ok 8 [(144, .tuple #[sl a576 r558 c577, sl a578 r559 c579, .bool r560]), (153, sl a576 r558 c577), (154, sl a578 r559 c579), (155, .bool r560), (22, sl a576 r558 c577), (23, sl a578 r559 c579), (24, .bool r560)] 15 rfl rfl ?_
 refine LP_end _ rfl ?_
 refine W_seq ?_
 obtain ⟨k585, hk586, H⟩ := jn_elim H
 refine W_join2 (S := Bool) (fun s ρ' w' => k585 s ∧ ∃ (ρ : Env), ρ' = setAll [(16, sl a147 r129 c148), (17, sl a149 r130 c150), (20, I r480), (170, .bool s)] ρ ∧ But emp w w' ∧ Sub hx476 w' ∧ Sub hx485 w') ?_ ?_
 ·refine W_region ?_
  refine LP_ev ok 0 [(156, sl a576 r558 c577), (157, sl a81 r64 c82)] 2 rfl rfl ?_
  have ex588 := (ex74.ext x89)
  have ex589 := (((((ex74.ext x89).ext x99).but y (Dj.of_fresh ex588 f101).symm).ext x108).ext x120)
  have ex590 := ((((((((ex328.but x475 (Dj.of_fresh ex589 f140).symm).but x484 (Dj.of_fresh ex589 f145).symm).ext x492).ext x503).ext x526).ext x538).ext x550).ext x564)
  refine LP_call 2 rfl rfl rfl cal_17 rfl (laws_eqIntS_w _ _ _ H wx563 o567.readf ex568 o73.readf ex590) ?_
  rintro _ wx591 ⟨r587, H, rfl, x592⟩
  refine LP_ev ok 3 [(159, .bool (!r587)), (160, .bool (!r587))] 5 rfl rfl ?_
  refine LP_split 160 (!r587) rfl (fun hc593 => ?_) (fun hc593 => ?_)
  ·have H := H.1 hc593
   refine LP_ev ok 5 [(161, undef), (162, undef), (163, undef), (164, undef), (165, .bool true), (166, .bool true), (167, undef), (168, undef), (169, undef), (170, .bool true)] 15 rfl rfl ?_
   refine LP_end _ rfl ?_
   try refine W_forget [(16, sl a147 r129 c148), (17, sl a149 r130 c150), (20, I r480), (170, .bool true)] ⟨rfl, rfl, rfl, rfl, trivial⟩ fun ρ => ?_
   have X596 := (((((((((X.stepx x).stepx x17).stepx x22).stepx x28).stepx x35).stepx x45).stepx x56).stepx x70).stepx x89)
   have f595 := f101.mono X596.size
   have X597 := (((((((((((((X.stepx x).stepx x17).stepx x22).stepx x28).stepx x35).stepx x45).stepx x56).stepx x70).stepx x89).stepx x99).step y (f595.dom _)).stepx x108).stepx x120)
   have f594 := f140.mono X597.size
   have f598 := f145.mono X597.size
   have X599 := (((((((((X332.step x475 (f594.dom _)).step x484 (f598.dom _)).stepx x492).stepx x503).stepx x526).stepx x538).stepx x550).stepx x564).stepx x592)
   have ex600 := (((((((ex490.ext x492).ext x503).ext x526).ext x538).ext x550).ext x564).ext x592)
   have ex601 := ((((((ex501.ext x503).ext x526).ext x538).ext x550).ext x564).ext x592)
   exact ⟨true, H, _, env_eq ⟨rfl, rfl, rfl, rfl, trivial⟩, X599, ex600, ex601⟩
  have H := H.2 hc593
  refine LP_ev ok 5 [(161, sl a578 r559 c579), (162, sl a83 r65 c84)] 7 rfl rfl ?_
  have ex603 := (ex573.ext x592)
  have ex604 := (ex79.ext x89)
  have ex605 := (((((ex79.ext x89).ext x99).but y (Dj.of_fresh ex604 f101).symm).ext x108).ext x120)
  have ex606 := (((((((((ex329.but x475 (Dj.of_fresh ex605 f140).symm).but x484 (Dj.of_fresh ex605 f145).symm).ext x492).ext x503).ext x526).ext x538).ext x550).ext x564).ext x592)
  refine LP_call 7 rfl rfl rfl cal_17 rfl (laws_eqIntS_w _ _ _ H wx591 o572.readf ex603 o78.readf ex606) ?_
  rintro _ wx607 ⟨r602, H, rfl, x608⟩
  refine LP_ev ok 8 [(164, .bool (!r602)), (165, .bool (!r602)), (166, .bool (!r602))] 11 rfl rfl ?_
  refine LP_split 166 (!r602) rfl (fun hc609 => ?_) (fun hc609 => ?_)
  ·have H := H.1 hc609
   refine LP_ev ok 11 [(167, undef), (168, undef), (169, undef), (170, .bool true)] 15 rfl rfl ?_
   refine LP_end _ rfl ?_
   try refine W_forget [(16, sl a147 r129 c148), (17, sl a149 r130 c150), (20, I r480), (170, .bool true)] ⟨rfl, rfl, rfl, rfl, trivial⟩ fun ρ => ?_
   have X612 := (((((((((X.stepx x).stepx x17).stepx x22).stepx x28).stepx x35).stepx x45).stepx x56).stepx x70).stepx x89)
   have f611 := f101.mono X612.size
   have X613 := (((((((((((((X.stepx x).stepx x17).stepx x22).stepx x28).stepx x35).stepx x45).stepx x56).stepx x70).stepx x89).stepx x99).step y (f611.dom _)).stepx x108).stepx x120)
   have f610 := f140.mono X613.size
   have f614 := f145.mono X613.size
   have X615 := ((((((((((X332.step x475 (f610.dom _)).step x484 (f614.dom _)).stepx x492).stepx x503).stepx x526).stepx x538).stepx x550).stepx x564).stepx x592).stepx x608)
   have ex616 := ((((((((ex490.ext x492).ext x503).ext x526).ext x538).ext x550).ext x564).ext x592).ext x608)
   have ex617 := (((((((ex501.ext x503).ext x526).ext x538).ext x550).ext x564).ext x592).ext x608)
   exact ⟨true, H, _, env_eq ⟨rfl, rfl, rfl, rfl, trivial⟩, X615, ex616, ex617⟩
  have H := H.2 hc609
  refine LP_ev ok 11 [(167, .bool r560), (168, .bool r66), (169, .bool (r560 != r66)), (170, .bool (r560 != r66))] 15 rfl rfl ?_
  refine LP_end _ rfl ?_
  try refine W_forget [(16, sl a147 r129 c148), (17, sl a149 r130 c150), (20, I r480), (170, .bool (r560 != r66))] ⟨rfl, rfl, rfl, rfl, trivial⟩ fun ρ => ?_
  have X620 := (((((((((X.stepx x).stepx x17).stepx x22).stepx x28).stepx x35).stepx x45).stepx x56).stepx x70).stepx x89)
  have f619 := f101.mono X620.size
  have X621 := (((((((((((((X.stepx x).stepx x17).stepx x22).stepx x28).stepx x35).stepx x45).stepx x56).stepx x70).stepx x89).stepx x99).step y (f619.dom _)).stepx x108).stepx x120)
  have f618 := f140.mono X621.size
  have f622 := f145.mono X621.size
  have X623 := ((((((((((X332.step x475 (f618.dom _)).step x484 (f622.dom _)).stepx x492).stepx x503).stepx x526).stepx x538).stepx x550).stepx x564).stepx x592).stepx x608)
  have ex624 := ((((((((ex490.ext x492).ext x503).ext x526).ext x538).ext x550).ext x564).ext x592).ext x608)
  have ex625 := (((((((ex501.ext x503).ext x526).ext x538).ext x550).ext x564).ext x592).ext x608)
  exact ⟨r560 != r66, H, _, env_eq ⟨rfl, rfl, rfl, rfl, trivial⟩, X623, ex624, ex625⟩
 rintro x580 _ wx581 ⟨H, ρ, rfl, X584, ex582, ex583⟩
 subst hk586
 refine W_cond (x580) rfl (fun hc626 => ?_) (fun hc626 => ?_)
 ·have H := H.1 hc626
  refine W_seq ?_
  refine W_region ?_
  refine LP_ev ok 0 [(8, .bool false)] 1 rfl rfl ?_
  refine LP_end _ rfl ?_
  refine W_ret ?_
  exact ⟨_, Ret_of [.bool false] ⟨⟨rfl, rfl⟩, trivial⟩, _, H, rfl, X584.ext⟩
 have H := H.2 hc626
 refine W_skip ?_
 refine W_seq ?_
 refine W_region ?_
 refine LP_ev ok 0 [(21, I 1)] 1 rfl rfl ?_
 refine LP_end _ rfl ?_
 refine W_seq ?_
 refine W_region ?_
 refine LP_ev ok 0 [(171, sl a147 r129 c148), (172, I 1)] 2 rfl rfl ?_
 refine LP_call 2 rfl rfl rfl cal_25 rfl (laws_heldIntS_w _ _ _ H wx581 o477.readf ex582) ?_
 rintro _ wx628 ⟨r627, H, rfl, x629⟩
 refine LP_ev ok 3 [(21, I r627)] 4 rfl rfl ?_
 refine LP_end _ rfl ?_
 refine W_seq ?_
 refine W_seq ?_
 refine W_region ?_
 refine LP_ev ok 0 [(174, I r627), (175, .bool (decide (r627 < 0)))] 2 rfl rfl ?_
 refine LP_end _ rfl ?_
 refine W_cond (decide (r627 < 0)) rfl (fun hc630 => ?_) (fun hc630 => ?_)
 ·have H := H.1 hc630
  refine W_seq ?_
  refine W_region ?_
  refine LP_ev ok 0 [(8, .bool false)] 1 rfl rfl ?_
  refine LP_end _ rfl ?_
  refine W_ret ?_
  have X631 := (X584.stepx x629)
  exact ⟨_, Ret_of [.bool false] ⟨⟨rfl, rfl⟩, trivial⟩, _, H, rfl, X631.ext⟩
 have H := H.2 hc630
 refine W_skip ?_
 refine W_seq ?_
 refine W_region ?_
 refine LP_ev ok 0 [(176, sl a149 r130 c150), (177, I r627)] 2 rfl rfl ?_
 have ex633 := (ex583.ext x629)
 refine LP_call 2 rfl rfl rfl cal_25 rfl (laws_heldIntS_w _ _ _ H wx628 o486.readf ex633) ?_
 rintro _ wx634 ⟨r632, H, rfl, x635⟩
 refine LP_ev ok 3 [(21, I r632)] 4 rfl rfl ?_
 refine LP_end _ rfl ?_
 refine W_seq ?_
 refine W_seq ?_
 refine W_region ?_
 refine LP_ev ok 0 [(179, I r632), (180, .bool (decide (r632 < 0)))] 2 rfl rfl ?_
 refine LP_end _ rfl ?_
 refine W_cond (decide (r632 < 0)) rfl (fun hc636 => ?_) (fun hc636 => ?_)
 ·have H := H.1 hc636
  refine W_seq ?_
  refine W_region ?_
  refine LP_ev ok 0 [(8, .bool false)] 1 rfl rfl ?_
  refine LP_end _ rfl ?_
  refine W_ret ?_
  have X637 := ((X584.stepx x629).stepx x635)
  exact ⟨_, Ret_of [.bool false] ⟨⟨rfl, rfl⟩, trivial⟩, _, H, rfl, X637.ext⟩
 have H := H.2 hc636
 refine W_skip ?_
 refine W_seq ?_
 refine W_seq ?_
 refine W_region ?_
 refine LP_ev ok 0 [(181, I r632), (182, I r480), (183, .bool (r632 != r480))] 3 rfl rfl ?_
 refine LP_end _ rfl ?_
 refine W_cond (r632 != r480) rfl (fun hc638 => ?_) (fun hc638 => ?_)
 ·have H := H.1 hc638
  refine W_seq ?_
  refine W_region ?_
  refine LP_ev ok 0 [(8, .bool false)] 1 rfl rfl ?_
  refine LP_end _ rfl ?_
  refine W_ret ?_
  have X639 := ((X584.stepx x629).stepx x635)
  exact ⟨_, Ret_of [.bool false] ⟨⟨rfl, rfl⟩, trivial⟩, _, H, rfl, X639.ext⟩
 have H := H.2 hc638
 refine W_skip ?_
 refine W_seq ?_
 refine W_region ?_
 refine LP_ev ok 0 [(8, .bool true)] 1 rfl rfl ?_
 refine LP_end _ rfl ?_
 refine W_ret ?_
 have X640 := ((X584.stepx x629).stepx x635)
 exact ⟨_, Ret_of [.bool true] ⟨⟨rfl, rfl⟩, trivial⟩, _, H, rfl, X640.ext⟩

theorem spec_CertainTypes_w (g : Geo) (sx : List Variable) (pubs : List Published) (n : Int) (Q : (List Int) → Bool → Prop) (H : spec_CertainTypes g sx pubs n Q) (w : World) {vx : Value} {hx : PH} (r : RS hx vx g.Parents) (ex : Sub hx w) {vx1 : Value} {hx2 : PH} (r3 : RS hx2 vx1 sx) (ex4 : Sub hx2 w) {vx7 : Value} {hx8 : PH} (r9 : RS hx8 vx7 pubs) (ex10 : Sub hx8 w) :
  CallsTo Tryz.prog 28 #[.agg #[vx], vx1, vx7, I n] w fun v w' => ∃ r0 r1 u0 g0, Q r0 r1 ∧ v = .tuple #[u0, .bool r1] ∧ Ext w w' ∧ OS 3 g0 emp u0 r0 ∧ Sub g0 w' ∧ Fresh w.heap.size g0 := by
 obtain ⟨a, c, rfl⟩ := r.shape
 obtain ⟨a5, c6, rfl⟩ := r3.shape
 obtain ⟨a11, c12, rfl⟩ := r9.shape
 refine enter (args := [.agg #[sl a g.Parents c], sl a5 sx c6, sl a11 pubs c12, I n]) 50 Tryz.func28 rfl rfl rfl ?_
 refine W_forget [(0, .agg #[sl a g.Parents c]), (1, sl a5 sx c6), (2, sl a11 pubs c12), (3, I n)] ⟨rfl, rfl, rfl, rfl, trivial⟩ fun ρ => ?_
 have X := But.refl emp w
 refine W_seq ?_
 refine W_region ?_
 refine LP_box 0 (cs := [sl a g.Parents c]) rfl rfl rfl rfl rfl fun b wx x ex13 f => ?_
 refine LP_ev ok 1 [(8, .slice none 0 0), (9, .bool false)] 3 rfl rfl ?_
 refine LP_end _ rfl ?_
 refine W_seq ?_
 refine W_region ?_
 refine LP_ldbox 0 (v := .agg #[sl a g.Parents c]) rfl rfl rfl ti_32 ag_32 (fun h => by cases h) rfl ex13 rfl rfl ?_
 refine LP_ev ok 1 [(18, sl a5 sx c6), (19, sl a11 pubs c12), (20, I n)] 4 rfl rfl ?_
 have ex17 := (ex.ext x)
 have ex18 := (ex4.ext x)
 have ex19 := (ex10.ext x)
 refine LP_call 4 rfl rfl rfl cal_26 rfl (spec_TypeRanges_w _ _ _ _ _ H wx r ex17 r3 ex18 r9 ex19) ?_
 rintro _ wx20 ⟨r14, r15, r16, vx22, hx23, vx26, hx27, H, rfl, x21, HF⟩
 revert HF
 refine bb7 fun o ex24 f25 o28 ex29 f30 d => ?_
 obtain ⟨a31, c32, rfl⟩ := o.shape
 obtain ⟨a33, c34, rfl⟩ := o28.shape
 refine LP_ev ok 5 [(16, .tuple #[sl a31 r14 c32, sl a33 r15 c34, .bool r16]), (22, sl a31 r14 c32), (23, sl a33 r15 c34), (24, .bool r16), (10, sl a31 r14 c32), (11, sl a33 r15 c34), (12, .bool r16)] 12 rfl rfl ?_
 refine LP_end _ rfl ?_
 refine W_seq ?_
 refine W_seq ?_
 refine W_region ?_
 refine LP_ev ok 0 [(25, .bool r16), (26, .bool (!r16))] 2 rfl rfl ?_
 refine LP_end _ rfl ?_
 refine W_cond (!r16) rfl (fun hc => ?_) (fun hc => ?_)
 ·have H := H.1 hc
  refine W_seq ?_
  refine W_region ?_
  refine LP_ev ok 0 [(8, .slice none 0 0), (9, .bool false)] 2 rfl rfl ?_
  refine LP_end _ rfl ?_
  refine W_ret ?_
  have X35 := ((X.stepx x).stepx x21)
  exact ⟨_, Ret_of [.slice none 0 0, .bool false] ⟨⟨rfl, rfl⟩, ⟨rfl, rfl⟩, trivial⟩, _, _, _, emp, H, rfl, X35.ext, OS.nil, (emp_sub _), (emp_fresh _)⟩
 have H := H.2 hc
 refine W_skip ?_
 refine W_seq ?_
 refine W_region ?_
 refine LP_ev ok 0 [(13, .slice none 0 0)] 1 rfl rfl ?_
 refine LP_end _ rfl ?_
 refine W_seq ?_
 refine W_seq ?_
 refine W_region ?_
 refine LP_ev ok 0 [(27, sl a31 r14 c32), (28, I (ln r14)), (29, I 0)] 3 rfl rfl ?_
 refine LP_end _ rfl ?_
 refine W_block ?_
 have X50 := ((X.stepx x).stepx x21)
 obtain ⟨J, m, Hx, H⟩ := H
 refine W_loop (S := (List Int) × Int) (fun s ρ' w' => J s.1 s.2 ∧ ∃ (ρ : Env) (vx36 : Value) (hx37 : PH), ρ' = setAll [(11, sl a33 r15 c34), (13, vx36), (27, sl a31 r14 c32), (28, I (ln r14)), (29, I s.2)] ρ ∧ But emp w w' ∧ OS 3 hx37 emp vx36 s.1 ∧ Sub hx37 w' ∧ Fresh w.heap.size hx37 ∧ Sub hx23 w' ∧ Sub hx27 w' ∧ Dj hx37 hx23 ∧ Dj hx37 hx27) (fun s => m s.1 s.2) ([], 0) ⟨Hx, _, .slice none 0 0, emp, env_eq ⟨rfl, rfl, rfl, rfl, rfl, trivial⟩, X50, OS.nil, (emp_sub _), (emp_fresh _), ex24, ex29, (fun _ => .inl rfl), (fun _ => .inl rfl)⟩ ?_
 rintro ⟨out, x41⟩ _ wx42 ⟨Hi, ρ, vx36, hx37, rfl, HF⟩
 revert HF
 refine bb8 fun X49 o38 ex39 f40 ex43 ex44 d47 d48 => ?_
 have H := H out x41 Hi
 obtain ⟨a45, c46, rfl⟩ := o38.shape
 refine W_seq ?_
 refine W_region ?_
 refine LP_ev ok 0 [(30, .bool (decide (x41 < (ln r14))))] 1 rfl rfl ?_
 refine LP_end _ rfl ?_
 refine W_seq ?_
 refine W_cond (decide (x41 < (ln r14))) rfl (fun hc51 => ?_) (fun hc51 => ?_)
 ·have H := H.1 hc51
  refine W_skip ?_
  obtain ⟨k, hk, H⟩ := jn_elim H
  refine W_join2 (S := (List Int)) (fun s ρ' w' => k s ∧ ∃ (ρ : Env) (vx53 : Value) (hx54 : PH), ρ' = setAll [(11, sl a33 r15 c34), (13, vx53), (27, sl a31 r14 c32), (28, I (ln r14)), (29, I x41)] ρ ∧ But emp w w' ∧ OS 3 hx54 emp vx53 s ∧ Sub hx54 w' ∧ Fresh w.heap.size hx54 ∧ Sub hx23 w' ∧ Sub hx27 w' ∧ Dj hx54 hx23 ∧ Dj hx54 hx27) ?_ ?_
  ·refine W_block ?_
   refine W_seq ?_
   refine W_region ?_
   refine LP_ev ok 0 [(31, I x41)] 1 rfl rfl ?_
   obtain ⟨x66, hi, hx67, H⟩ := H
   refine LP_index 1 rfl rfl rfl Tryz.underlying22 ti_3 rfl rfl o.readf hi hx67 fun a68 cs r69 d70 => ?_
   refine LP_load 2 rfl rfl rfl ti_3 ag_3 rfl r69 d70 ex43 fun vx71 r72 => ?_
   obtain rfl := r72.int
   refine LP_ev ok 3 [(14, I x41), (15, I x66)] 5 rfl rfl ?_
   refine LP_end _ rfl ?_
   obtain ⟨k75, hk76, H⟩ := jn_elim H
   refine W_join2 (S := Bool) (fun s ρ' w' => k75 s ∧ ∃ (ρ : Env), ρ' = setAll [(11, sl a33 r15 c34), (13, sl a45 out c46), (14, I x41), (27, sl a31 r14 c32), (28, I (ln r14)), (29, I x41), (43, .bool s)] ρ ∧ wx42 = w') ?_ ?_
   ·refine W_region ?_
    refine LP_ev ok 0 [(34, I x66), (35, .bool (decide (x66 > 0))), (36, .bool (decide (x66 > 0)))] 3 rfl rfl ?_
    refine LP_split 36 (decide (x66 > 0)) rfl (fun hc77 => ?_) (fun hc77 => ?_)
    ·have H := H.1 hc77
     refine LP_ev ok 3 [(37, sl a33 r15 c34), (38, I x41)] 5 rfl rfl ?_
     obtain ⟨x78, hi79, hx80, H⟩ := H
     refine LP_index 5 rfl rfl rfl Tryz.underlying22 ti_3 rfl rfl o28.readf hi79 hx80 fun a81 cs82 r83 d84 => ?_
     refine LP_load 6 rfl rfl rfl ti_3 ag_3 rfl r83 d84 ex44 fun vx85 r86 => ?_
     obtain rfl := r86.int
     refine LP_ev ok 7 [(41, I x66), (42, .bool (x78 == x66)), (43, .bool (x78 == x66))] 10 rfl rfl ?_
     refine LP_end _ rfl ?_
     exact ⟨x78 == x66, H, _, env_eq ⟨rfl, rfl, rfl, rfl, rfl, rfl, rfl, trivial⟩, rfl⟩
    have H := H.2 hc77
    refine LP_ev ok 3 [(37, undef), (38, undef), (39, undef), (40, undef), (41, undef), (42, undef), (43, .bool false)] 10 rfl rfl ?_
    refine LP_end _ rfl ?_
    exact ⟨false, H, _, env_eq ⟨rfl, rfl, rfl, rfl, rfl, rfl, rfl, trivial⟩, rfl⟩
   rintro x73 _ _ ⟨H, ρ, rfl, rfl⟩
   subst hk76
   refine W_cond (x73) rfl (fun hc87 => ?_) (fun hc87 => ?_)
   ·have H := H.1 hc87
    refine W_region ?_
    refine LP_ev ok 0 [(44, sl a45 out c46), (45, I x41)] 2 rfl rfl ?_
    refine LP_lit (α := Int) (g := emp) 2 (vs := [I x41]) (xs := [x41]) rfl rfl rfl Tryz.underlying22 ti_3 rfl rfl ⟨⟨_, rfl, rfl⟩, trivial⟩ rfl rfl fun hx88 vx89 wx90 x91 o92 ex93 f94 => ?_
    obtain ⟨a95, c96, rfl⟩ := o92.shape
    have ex97 := (ex39.ext x91)
    obtain ⟨hb, H⟩ := H
    refine LP_appendf (α := Int) 3 rfl rfl rfl Tryz.underlying22 ti_3 rfl rfl rfl o38 ex97 o92.readf ex93 (by first | omega | (simp only [ln] at *; omega)) (by first | omega | (simp only [ln] at *; omega)) fun hx98 vx99 wx100 o101 ex102 y dm => ?_
    obtain ⟨a103, c104, rfl⟩ := o101.shape
    refine LP_ev ok 4 [(13, .slice a103 (List.length (out ++ ([x41]))) c104)] 5 rfl rfl ?_
    refine LP_end _ rfl ?_
    have X105 := ((X49.stepx x91).step y (f40.dom _))
    have X107 := (X49.stepx x91)
    have f106 := dm.fresh f40 X107.size
    have ex108 := ((ex43.ext x91).but y d47)
    have ex109 := ((ex44.ext x91).but y d48)
    have ex110 := (ex43.ext x91)
    have ex111 := (ex44.ext x91)
    exact ⟨out ++ ([x41]), H, _, .slice a103 (List.length (out ++ ([x41]))) c104, hx98, env_eq ⟨rfl, rfl, rfl, rfl, rfl, trivial⟩, X105, o101, ex102, f106, ex108, ex109, (DomLe.dj dm d47 ex110), (DomLe.dj dm d48 ex111)⟩
   have H := H.2 hc87
   refine W_skip ?_
   exact ⟨out, H, _, sl a45 out c46, hx37, env_eq ⟨rfl, rfl, rfl, rfl, rfl, trivial⟩, X49, o38, ex39, f40, ex43, ex44, d47, d48⟩
  rintro out52 _ wx58 ⟨H, ρ, vx53, hx54, rfl, HF⟩
  revert HF
  refine bb8 fun X65 o55 ex56 f57 ex59 ex60 d63 d64 => ?_
  subst hk
  obtain ⟨a61, c62, rfl⟩ := o55.shape
  refine W_region ?_
  refine LP_ev ok 0 [(48, I (wr (x41 + 1))), (29, I (wr (x41 + 1)))] 2 rfl rfl ?_
  refine LP_end _ rfl ?_
  exact ⟨(out52, wr (x41 + 1)), ⟨H.1, _, sl a61 out52 c62, hx54, env_eq ⟨rfl, rfl, rfl, rfl, rfl, trivial⟩, X65, o55, ex56, f57, ex59, ex60, d63, d64⟩, H.2⟩
 have H := H.2 hc51
 refine W_exit ?_
 refine (if_pos rfl).mpr ?_
 refine W_seq ?_
 refine W_region ?_
 refine LP_ev ok 0 [(49, sl a45 out c46), (8, sl a45 out c46), (9, .bool true)] 3 rfl rfl ?_
 refine LP_end _ rfl ?_
 refine W_ret ?_
 exact ⟨_, Ret_of [sl a45 out c46, .bool true] ⟨⟨rfl, rfl⟩, ⟨rfl, rfl⟩, trivial⟩, _, _, _, _, H, rfl, X49.ext, o38, ex39, f40⟩

theorem impl_CertainTypes_w (g : Geo) (sx : List Variable) (pubs : List Published) (n : Int) (Q : (List Int) → Bool → Prop) (H : impl_CertainTypes g sx pubs n Q) (w : World) {vx : Value} {hx : PH} (r : RS hx vx g.Parents) (ex : Sub hx w) {vx1 : Value} {hx2 : PH} (r3 : RS hx2 vx1 sx) (ex4 : Sub hx2 w) {vx7 : Value} {hx8 : PH} (r9 : RS hx8 vx7 pubs) (ex10 : Sub hx8 w) :
  CallsTo Tryz.prog 29 #[.agg #[vx], vx1, vx7, I n] w fun v w' => ∃ r0 r1 u0 g0, Q r0 r1 ∧ v = .tuple #[u0, .bool r1] ∧ Ext w w' ∧ OS 3 g0 emp u0 r0 ∧ Sub g0 w' ∧ Fresh w.heap.size g0 := by
 obtain ⟨a, c, rfl⟩ := r.shape
 obtain ⟨a5, c6, rfl⟩ := r3.shape
 obtain ⟨a11, c12, rfl⟩ := r9.shape
 refine enter (args := [.agg #[sl a g.Parents c], sl a5 sx c6, sl a11 pubs c12, I n]) 50 Tryz.func29 rfl rfl rfl ?_
 refine W_forget [(0, .agg #[sl a g.Parents c]), (1, sl a5 sx c6), (2, sl a11 pubs c12), (3, I n)] ⟨rfl, rfl, rfl, rfl, trivial⟩ fun ρ => ?_
 have X := But.refl emp w
 refine W_seq ?_
 refine W_region ?_
 refine LP_box 0 (cs := [sl a g.Parents c]) rfl rfl rfl rfl rfl fun b wx x ex13 f => ?_
 refine LP_ev ok 1 [(8, .slice none 0 0), (9, .bool false)] 3 rfl rfl ?_
 refine LP_end _ rfl ?_
 refine W_seq ?_
 refine W_region ?_
 refine LP_ldbox 0 (v := .agg #[sl a g.Parents c]) rfl rfl rfl ti_32 ag_32 (fun h => by cases h) rfl ex13 rfl rfl ?_
 refine LP_ev ok 1 [(18, sl a5 sx c6), (19, sl a11 pubs c12), (20, I n)] 4 rfl rfl ?_
 have ex17 := (ex.ext x)
 have ex18 := (ex4.ext x)
 have ex19 := (ex10.ext x)
 refine LP_call 4 rfl rfl rfl cal_27 rfl (impl_TypeRanges_w _ _ _ _ _ H wx r ex17 r3 ex18 r9 ex19) ?_
 rintro _ wx20 ⟨r14, r15, r16, vx22, hx23, vx26, hx27, H, rfl, x21, HF⟩
 revert HF
 refine bb7 fun o ex24 f25 o28 ex29 f30 d => ?_
 obtain ⟨a31, c32, rfl⟩ := o.shape
 obtain ⟨a33, c34, rfl⟩ := o28.shape
 refine LP_ev ok 5 [(16, .tuple #[sl a31 r14 c32, sl a33 r15 c34, .bool r16]), (22, sl a31 r14 c32), (23, sl a33 r15 c34), (24, .bool r16), (10, sl a31 r14 c32), (11, sl a33 r15 c34), (12, .bool r16)] 12 rfl rfl ?_
 refine LP_end _ rfl ?_
 refine W_seq ?_
 refine W_seq ?_
 refine W_region ?_
 refine LP_ev ok 0 [(25, .bool r16), (26, .bool (!r16))] 2 rfl rfl ?_
 refine LP_end _ rfl ?_
 refine W_cond (!r16) rfl (fun hc => ?_) (fun hc => ?_)
 ·have H := H.1 hc
  refine W_seq ?_
  refine W_region ?_
  refine LP_ev ok 0 [(8, .slice none 0 0), (9, .bool false)] 2 rfl rfl ?_
  refine LP_end _ rfl ?_
  refine W_ret ?_
  have X35 := ((X.stepx x).stepx x21)
  exact ⟨_, Ret_of [.slice none 0 0, .bool false] ⟨⟨rfl, rfl⟩, ⟨rfl, rfl⟩, trivial⟩, _, _, _, emp, H, rfl, X35.ext, OS.nil, (emp_sub _), (emp_fresh _)⟩
 have H := H.2 hc
 refine W_skip ?_
 refine W_seq ?_
 refine W_region ?_
 refine LP_ev ok 0 [(13, .slice none 0 0)] 1 rfl rfl ?_
 refine LP_end _ rfl ?_
 refine W_seq ?_
 refine W_seq ?_
 refine W_region ?_
 refine LP_ev ok 0 [(27, sl a31 r14 c32), (28, I (ln r14)), (29, I 0)] 3 rfl rfl ?_
 refine LP_end _ rfl ?_
 refine W_block ?_
 have X50 := ((X.stepx x).stepx x21)
 obtain ⟨J, m, Hx, H⟩ := H
 refine W_loop (S := (List Int) × Int) (fun s ρ' w' => J s.1 s.2 ∧ ∃ (ρ : Env) (vx36 : Value) (hx37 : PH), ρ' = setAll [(11, sl a33 r15 c34), (13, vx36), (27, sl a31 r14 c32), (28, I (ln r14)), (29, I s.2)] ρ ∧ But emp w w' ∧ OS 3 hx37 emp vx36 s.1 ∧ Sub hx37 w' ∧ Fresh w.heap.size hx37 ∧ Sub hx23 w' ∧ Sub hx27 w' ∧ Dj hx37 hx23 ∧ Dj hx37 hx27) (fun s => m s.1 s.2) ([], 0) ⟨Hx, _, .slice none 0 0, emp, env_eq ⟨rfl, rfl, rfl, rfl, rfl, trivial⟩, X50, OS.nil, (emp_sub _), (emp_fresh _), ex24, ex29, (fun _ => .inl rfl), (fun _ => .inl rfl)⟩ ?_
 rintro ⟨out, x41⟩ _ wx42 ⟨Hi, ρ, vx36, hx37, rfl, HF⟩
 revert HF
 refine bb8 fun X49 o38 ex39 f40 ex43 ex44 d47 d48 => ?_
 have H := H out x41 Hi
 obtain ⟨a45, c46, rfl⟩ := o38.shape
 refine W_seq ?_
 refine W_region ?_
 refine LP_ev ok 0 [(30, .bool (decide (x41 < (ln r14))))] 1 rfl rfl ?_
 refine LP_end _ rfl ?_
 refine W_seq ?_
 refine W_cond (decide (x41 < (ln r14))) rfl (fun hc51 => ?_) (fun hc51 => ?_)
 ·have H := H.1 hc51
  refine W_skip ?_
  obtain ⟨k, hk, H⟩ := jn_elim H
  refine W_join2 (S := (List Int)) (fun s ρ' w' => k s ∧ ∃ (ρ : Env) (vx53 : Value) (hx54 : PH), ρ' = setAll [(11, sl a33 r15 c34), (13, vx53), (27, sl a31 r14 c32), (28, I (ln r14)), (29, I x41)] ρ ∧ But emp w w' ∧ OS 3 hx54 emp vx53 s ∧ Sub hx54 w' ∧ Fresh w.heap.size hx54 ∧ Sub hx23 w' ∧ Sub hx27 w' ∧ Dj hx54 hx23 ∧ Dj hx54 hx27) ?_ ?_
  ·refine W_block ?_
   refine W_seq ?_
   refine W_region ?_
   refine LP_ev ok 0 [(31, I x41)] 1 rfl rfl ?_
   obtain ⟨x66, hi, hx67, H⟩ := H
   refine LP_index 1 rfl rfl rfl Tryz.underlying22 ti_3 rfl rfl o.readf hi hx67 fun a68 cs r69 d70 => ?_
   refine LP_load 2 rfl rfl rfl ti_3 ag_3 rfl r69 d70 ex43 fun vx71 r72 => ?_
   obtain rfl := r72.int
   refine LP_ev ok 3 [(14, I x41), (15, I x66)] 5 rfl rfl ?_
   refine LP_end _ rfl ?_
   obtain ⟨k75, hk76, H⟩ := jn_elim H
   refine W_join2 (S := Bool) (fun s ρ' w' => k75 s ∧ ∃ (ρ : Env), ρ' = setAll [(11, sl a33 r15 c34), (13, sl a45 out c46), (14, I x41), (27, sl a31 r14 c32), (28, I (ln r14)), (29, I x41), (43, .bool s)] ρ ∧ wx42 = w') ?_ ?_
   ·refine W_region ?_
    refine LP_ev ok 0 [(34, I x66), (35, .bool (decide (x66 > 0))), (36, .bool (decide (x66 > 0)))] 3 rfl rfl ?_
    refine LP_split 36 (decide (x66 > 0)) rfl (fun hc77 => ?_) (fun hc77 => ?_)
    ·have H := H.1 hc77
     refine LP_ev ok 3 [(37, I x66), (38, sl a33 r15 c34), (39, I x41)] 6 rfl rfl ?_
     obtain ⟨x78, hi79, hx80, H⟩ := H
     refine LP_index 6 rfl rfl rfl Tryz.underlying22 ti_3 rfl rfl o28.readf hi79 hx80 fun a81 cs82 r83 d84 => ?_
     refine LP_load 7 rfl rfl rfl ti_3 ag_3 rfl r83 d84 ex44 fun vx85 r86 => ?_
     obtain rfl := r86.int
     refine LP_ev ok 8 [(42, .bool (x66 == x78)), (43, .bool (x66 == x78))] 10 rfl rfl ?_
     refine LP_end _ rfl ?_
     exact ⟨x66 == x78, H, _, env_eq ⟨rfl, rfl, rfl, rfl, rfl, rfl, rfl, trivial⟩, rfl⟩
    have H := H.2 hc77
    refine LP_ev ok 3 [(37, undef), (38, undef), (39, undef), (40, undef), (41, undef), (42, undef), (43, .bool false)] 10 rfl rfl ?_
    refine LP_end _ rfl ?_
    exact ⟨false, H, _, env_eq ⟨rfl, rfl, rfl, rfl, rfl, rfl, rfl, trivial⟩, rfl⟩
   rintro x73 _ _ ⟨H, ρ, rfl, rfl⟩
   subst hk76
   refine W_cond (x73) rfl (fun hc87 => ?_) (fun hc87 => ?_)
   ·have H := H.1 hc87
    refine W_region ?_
    refine LP_ev ok 0 [(44, sl a45 out c46), (45, I x41)] 2 rfl rfl ?_
    refine LP_lit (α := Int) (g := emp) 2 (vs := [I x41]) (xs := [x41]) rfl rfl rfl Tryz.underlying22 ti_3 rfl rfl ⟨⟨_, rfl, rfl⟩, trivial⟩ rfl rfl fun hx88 vx89 wx90 x91 o92 ex93 f94 => ?_
    obtain ⟨a95, c96, rfl⟩ := o92.shape
    have ex97 := (ex39.ext x91)
    obtain ⟨hb, H⟩ := H
    refine LP_appendf (α := Int) 3 rfl rfl rfl Tryz.underlying22 ti_3 rfl rfl rfl o38 ex97 o92.readf ex93 (by first | omega | (simp only [ln] at *; omega)) (by first | omega | (simp only [ln] at *; omega)) fun hx98 vx99 wx100 o101 ex102 y dm => ?_
    obtain ⟨a103, c104, rfl⟩ := o101.shape
    refine LP_ev ok 4 [(13, .slice a103 (List.length (out ++ ([x41]))) c104)] 5 rfl rfl ?_
    refine LP_end _ rfl ?_
    have X105 := ((X49.stepx x91).step y (f40.dom _))
    have X107 := (X49.stepx x91)
    have f106 := dm.fresh f40 X107.size
    have ex108 := ((ex43.ext x91).but y d47)
    have ex109 := ((ex44.ext x91).but y d48)
    have ex110 := (ex43.ext x91)
    have ex111 := (ex44.ext x91)
    exact ⟨out ++ ([x41]), H, _, .slice a103 (List.length (out ++ ([x41]))) c104, hx98, env_eq ⟨rfl, rfl, rfl, rfl, rfl, trivial⟩, X105, o101, ex102, f106, ex108, ex109, (DomLe.dj dm d47 ex110), (DomLe.dj dm d48 ex111)⟩
   have H := H.2 hc87
   refine W_skip ?_
   exact ⟨out, H, _, sl a45 out c46, hx37, env_eq ⟨rfl, rfl, rfl, rfl, rfl, trivial⟩, X49, o38, ex39, f40, ex43, ex44, d47, d48⟩
  rintro out52 _ wx58 ⟨H, ρ, vx53, hx54, rfl, HF⟩
  revert HF
  refine bb8 fun X65 o55 ex56 f57 ex59 ex60 d63 d64 => ?_
  subst hk
  obtain ⟨a61, c62, rfl⟩ := o55.shape
  refine W_region ?_
  refine LP_ev ok 0 [(48, I (wr (x41 + 1))), (29, I (wr (x41 + 1)))] 2 rfl rfl ?_
  refine LP_end _ rfl ?_
  exact ⟨(out52, wr (x41 + 1)), ⟨H.1, _, sl a61 out52 c62, hx54, env_eq ⟨rfl, rfl, rfl, rfl, rfl, trivial⟩, X65, o55, ex56, f57, ex59, ex60, d63, d64⟩, H.2⟩
 have H := H.2 hc51
 refine W_exit ?_
 refine (if_pos rfl).mpr ?_
 refine W_seq ?_
 refine W_region ?_
 refine LP_ev ok 0 [(49, sl a45 out c46), (8, sl a45 out c46), (9, .bool true)] 3 rfl rfl ?_
 refine LP_end _ rfl ?_
 refine W_ret ?_
 exact ⟨_, Ret_of [sl a45 out c46, .bool true] ⟨⟨rfl, rfl⟩, ⟨rfl, rfl⟩, trivial⟩, _, _, _, _, H, rfl, X49.ext, o38, ex39, f40⟩

theorem laws_FnExactCertainTypes_w (aG : Geo) (aS : List Variable) (aPubs : List Published) (aN : Int) (Q : Bool → Prop) (H : laws_FnExactCertainTypes aG aS aPubs aN Q) (w : World) {vx : Value} {hx : PH} (r : RS hx vx aG.Parents) (ex : Sub hx w) {vx1 : Value} {hx2 : PH} (r3 : RS hx2 vx1 aS) (ex4 : Sub hx2 w) {vx7 : Value} {hx8 : PH} (r9 : RS hx8 vx7 aPubs) (ex10 : Sub hx8 w) :
  CallsTo Tryz.prog 5 #[.agg #[vx], vx1, vx7, I aN] w fun v w' => ∃ r0, Q r0 ∧ v = .bool r0 ∧ Ext w w' := by
 obtain ⟨a, c, rfl⟩ := r.shape
 obtain ⟨a5, c6, rfl⟩ := r3.shape
 obtain ⟨a11, c12, rfl⟩ := r9.shape
 refine enter (args := [.agg #[sl a aG.Parents c], sl a5 aS c6, sl a11 aPubs c12, I aN]) 147 Tryz.func5 rfl rfl rfl ?_
 refine W_forget [(0, .agg #[sl a aG.Parents c]), (1, sl a5 aS c6), (2, sl a11 aPubs c12), (3, I aN)] ⟨rfl, rfl, rfl, rfl, trivial⟩ fun ρ => ?_
 have X := But.refl emp w
 refine W_seq ?_
 refine W_region ?_
 refine LP_box 0 (cs := [sl a aG.Parents c]) rfl rfl rfl rfl rfl fun b wx x ex13 f => ?_
 refine LP_ev ok 1 [(8, .bool false)] 2 rfl rfl ?_
 refine LP_end _ rfl ?_
 refine W_seq ?_
 refine W_region ?_
 refine LP_ev ok 0 [(9, I 1048576)] 1 rfl rfl ?_
 refine LP_end _ rfl ?_
 refine W_seq ?_
 refine W_region ?_
 refine LP_ldbox 0 (v := .agg #[sl a aG.Parents c]) rfl rfl rfl ti_24 ag_24 (fun h => by cases h) rfl ex13 rfl rfl ?_
 refine LP_ev ok 1 [(23, I 1048576)] 2 rfl rfl ?_
 have ex15 := (ex.ext x)
 refine LP_call 2 rfl rfl rfl cal_9 rfl (laws_szGeo_w _ _ _ H wx r ex15) ?_
 rintro _ wx16 ⟨r14, H, rfl, x17⟩
 refine LP_ev ok 3 [(9, I r14)] 4 rfl rfl ?_
 refine LP_end _ rfl ?_
 refine W_seq ?_
 refine W_seq ?_
 refine W_region ?_
 refine LP_ev ok 0 [(25, I r14), (26, .bool (decide (r14 < 0)))] 2 rfl rfl ?_
 refine LP_end _ rfl ?_
 refine W_cond (decide (r14 < 0)) rfl (fun hc => ?_) (fun hc => ?_)
 ·have H := H.1 hc
  refine W_seq ?_
  refine W_region ?_
  refine LP_ev ok 0 [(8, .bool true)] 1 rfl rfl ?_
  refine LP_end _ rfl ?_
  refine W_ret ?_
  have X18 := ((X.stepx x).stepx x17)
  exact ⟨_, Ret_of [.bool true] ⟨⟨rfl, rfl⟩, trivial⟩, _, H, rfl, X18.ext⟩
 have H := H.2 hc
 refine W_skip ?_
 refine W_seq ?_
 refine W_region ?_
 refine LP_ev ok 0 [(27, sl a5 aS c6), (28, I r14)] 2 rfl rfl ?_
 have ex20 := ((ex4.ext x).ext x17)
 refine LP_call 2 rfl rfl rfl cal_10 rfl (laws_szVariableS_w _ _ _ H wx16 r3 ex20) ?_
 rintro _ wx21 ⟨r19, H, rfl, x22⟩
 refine LP_ev ok 3 [(9, I r19)] 4 rfl rfl ?_
 refine LP_end _ rfl ?_
 refine W_seq ?_
 refine W_seq ?_
 refine W_region ?_
 refine LP_ev ok 0 [(30, I r19), (31, .bool (decide (r19 < 0)))] 2 rfl rfl ?_
 refine LP_end _ rfl ?_
 refine W_cond (decide (r19 < 0)) rfl (fun hc23 => ?_) (fun hc23 => ?_)
 ·have H := H.1 hc23
  refine W_seq ?_
  refine W_region ?_
  refine LP_ev ok 0 [(8, .bool true)] 1 rfl rfl ?_
  refine LP_end _ rfl ?_
  refine W_ret ?_
  have X24 := (((X.stepx x).stepx x17).stepx x22)
  exact ⟨_, Ret_of [.bool true] ⟨⟨rfl, rfl⟩, trivial⟩, _, H, rfl, X24.ext⟩
 have H := H.2 hc23
 refine W_skip ?_
 refine W_seq ?_
 refine W_region ?_
 refine LP_ev ok 0 [(32, sl a11 aPubs c12), (33, I r19)] 2 rfl rfl ?_
 have ex26 := (((ex10.ext x).ext x17).ext x22)
 refine LP_call 2 rfl rfl rfl cal_11 rfl (laws_szPublishedS_w _ _ _ H wx21 r9 ex26) ?_
 rintro _ wx27 ⟨r25, H, rfl, x28⟩
 refine LP_ev ok 3 [(9, I r25)] 4 rfl rfl ?_
 refine LP_end _ rfl ?_
 refine W_seq ?_
 refine W_seq ?_
 refine W_region ?_
 refine LP_ev ok 0 [(35, I r25), (36, .bool (decide (r25 < 0)))] 2 rfl rfl ?_
 refine LP_end _ rfl ?_
 refine W_cond (decide (r25 < 0)) rfl (fun hc29 => ?_) (fun hc29 => ?_)
 ·have H := H.1 hc29
  refine W_seq ?_
  refine W_region ?_
  refine LP_ev ok 0 [(8, .bool true)] 1 rfl rfl ?_
  refine LP_end _ rfl ?_
  refine W_ret ?_
  have X30 := ((((X.stepx x).stepx x17).stepx x22).stepx x28)
  exact ⟨_, Ret_of [.bool true] ⟨⟨rfl, rfl⟩, trivial⟩, _, H, rfl, X30.ext⟩
 have H := H.2 hc29
 refine W_skip ?_
 refine W_seq ?_
 refine W_region ?_
 have ex31 := (((ex13.ext x17).ext x22).ext x28)
 refine LP_ldbox 0 (v := .agg #[sl a aG.Parents c]) rfl rfl rfl ti_24 ag_24 (fun h => by cases h) rfl ex31 rfl rfl ?_
 have ex33 := (((ex15.ext x17).ext x22).ext x28)
 refine LP_call 1 rfl rfl rfl cal_13 rfl (laws_toGeo_w _ _ H wx27 r ex33) ?_
 rintro _ wx34 ⟨r32, vx36, hx37, H, rfl, x35, o, ex38, f39⟩
 obtain ⟨a40, c41, rfl⟩ := o.shape
 refine LP_ev ok 2 [(40, sl a5 aS c6)] 3 rfl rfl ?_
 have ex43 := (((ex20.ext x22).ext x28).ext x35)
 refine LP_call 3 rfl rfl rfl cal_14 rfl (laws_toVariableS_w _ _ H wx34 r3 ex43) ?_
 rintro _ wx44 ⟨r42, vx46, hx47, H, rfl, x45, o48, ex49, f50⟩
 obtain ⟨a51, c52, rfl⟩ := o48.shape
 refine LP_ev ok 4 [(42, sl a11 aPubs c12)] 5 rfl rfl ?_
 have ex54 := (((ex26.ext x28).ext x35).ext x45)
 refine LP_call 5 rfl rfl rfl cal_15 rfl (laws_toPublishedS_w _ _ H wx44 r9 ex54) ?_
 rintro _ wx55 ⟨r53, vx57, hx58, H, rfl, x56, o59, ex60, f61⟩
 obtain ⟨a62, c63, rfl⟩ := o59.shape
 refine LP_ev ok 6 [(44, I aN)] 7 rfl rfl ?_
 have ex66 := ((ex38.ext x45).ext x56)
 have ex67 := (ex49.ext x56)
 refine LP_call 7 rfl rfl rfl cal_28 rfl (spec_CertainTypes_w _ _ _ _ _ H wx55 o.readf ex66 o48.readf ex67 o59.readf ex60) ?_
 rintro _ wx68 ⟨r64, r65, vx70, hx71, H, rfl, x69, o72, ex73, f74⟩
 obtain ⟨a75, c76, rfl⟩ := o72.shape
 refine LP_ev ok 8 [(37, .tuple #[sl a75 r64 c76, .bool r65]), (46, sl a75 r64 c76), (47, .bool r65), (10, sl a75 r64 c76), (11, .bool r65)] 13 rfl rfl ?_
 refine LP_end _ rfl ?_
 try refine W_forget [(1, sl a5 aS c6), (2, sl a11 aPubs c12), (3, I aN), (4, pb b), (10, sl a75 r64 c76), (11, .bool r65)] ⟨rfl, rfl, rfl, rfl, rfl, rfl, trivial⟩ fun ρ => ?_
 refine W_seq ?_
 refine W_region ?_
 have ex77 := ((((ex31.ext x35).ext x45).ext x56).ext x69)
 refine LP_ldbox 0 (v := .agg #[sl a aG.Parents c]) rfl rfl rfl ti_24 ag_24 (fun h => by cases h) rfl ex77 rfl rfl ?_
 have ex79 := ((((ex33.ext x35).ext x45).ext x56).ext x69)
 refine LP_call 1 rfl rfl rfl cal_13 rfl (laws_toGeo_w _ _ H wx68 r ex79) ?_
 rintro _ wx80 ⟨r78, vx82, hx83, H, rfl, x81, o84, ex85, f86⟩
 obtain ⟨a87, c88, rfl⟩ := o84.shape
 refine LP_alloc 2 rfl rfl rfl ti_32 rfl fun b89 wx90 x91 ex92 f93 => ?_
 refine LP_stbox 3 (vs := [sl a87 r78.Parents c88]) (cs' := [sl a87 r78.Parents c88]) rfl rfl rfl ti_32 rfl rfl rfl rfl rfl ex92 rfl rfl fun wx94 ex95 y => ?_
 refine LP_end _ rfl ?_
 refine W_seq ?_
 refine W_region ?_
 refine LP_ev ok 0 [(50, sl a5 aS c6)] 1 rfl rfl ?_
 have ex97 := ((((ex43.ext x45).ext x56).ext x69).ext x81)
 have ex98 := ((((((ex43.ext x45).ext x56).ext x69).ext x81).ext x91).but y (Dj.of_fresh ex97 f93).symm)
 refine LP_call 1 rfl rfl rfl cal_14 rfl (laws_toVariableS_w _ _ H wx94 r3 ex98) ?_
 rintro _ wx99 ⟨r96, vx101, hx102, H, rfl, x100, o103, ex104, f105⟩
 obtain ⟨a106, c107, rfl⟩ := o103.shape
 refine LP_ev ok 2 [(13, sl a106 r96 c107)] 3 rfl rfl ?_
 refine LP_end _ rfl ?_
 refine W_seq ?_
 refine W_region ?_
 refine LP_ev ok 0 [(52, sl a11 aPubs c12)] 1 rfl rfl ?_
 have ex109 := (((ex54.ext x56).ext x69).ext x81)
 have ex110 := ((((((ex54.ext x56).ext x69).ext x81).ext x91).but y (Dj.of_fresh ex109 f93).symm).ext x100)
 refine LP_call 1 rfl rfl rfl cal_15 rfl (laws_toPublishedS_w _ _ H wx99 r9 ex110) ?_
 rintro _ wx111 ⟨r108, vx113, hx114, H, rfl, x112, o115, ex116, f117⟩
 obtain ⟨a118, c119, rfl⟩ := o115.shape
 refine LP_ev ok 2 [(14, sl a118 r108 c119)] 3 rfl rfl ?_
 refine LP_end _ rfl ?_
 refine W_seq ?_
 refine W_region ?_
 have ex120 := ((ex95.ext x100).ext x112)
 refine LP_ldbox 0 (v := .agg #[sl a87 r78.Parents c88]) rfl rfl rfl ti_32 ag_32 (fun h => by cases h) rfl ex120 rfl rfl ?_
 refine LP_ev ok 1 [(56, sl a106 r96 c107), (57, sl a118 r108 c119), (58, I aN)] 4 rfl rfl ?_
 have ex123 := ((((ex85.ext x91).but y (Dj.of_fresh ex85 f93).symm).ext x100).ext x112)
 have ex124 := (ex104.ext x112)
 refine LP_call 4 rfl rfl rfl cal_29 rfl (impl_CertainTypes_w _ _ _ _ _ H wx111 o84.readf ex123 o103.readf ex124 o115.readf ex116) ?_
 rintro _ wx125 ⟨r121, r122, vx127, hx128, H, rfl, x126, o129, ex130, f131⟩
 obtain ⟨a132, c133, rfl⟩ := o129.shape
 refine LP_ev ok 5 [(54, .tuple #[sl a132 r121 c133, .bool r122]), (60, sl a132 r121 c133), (61, .bool r122), (15, sl a132 r121 c133), (16, .bool r122)] 10 rfl rfl ?_
 refine LP_end _ rfl ?_
 refine W_seq ?_
 obtain ⟨k, hk, H⟩ := jn_elim H
 refine W_join2 (S := Bool) (fun s ρ' w' => k s ∧ ∃ (ρ : Env), ρ' = setAll [(1, sl a5 aS c6), (2, sl a11 aPubs c12), (3, I aN), (4, pb b), (10, sl a75 r64 c76), (11, .bool r65), (12, pb b89), (13, sl a106 r96 c107), (14, sl a118 r108 c119), (15, sl a132 r121 c133), (16, .bool r122), (70, .bool s)] ρ ∧ But emp w w' ∧ Sub hx w' ∧ Sub hx2 w' ∧ Sub hx8 w' ∧ Sub (bx b 24 [sl a aG.Parents c]) w' ∧ Sub hx71 w' ∧ Sub hx83 w' ∧ Sub (bx b89 32 [sl a87 r78.Parents c88]) w' ∧ Sub hx102 w' ∧ Sub hx114 w' ∧ Sub hx128 w') ?_ ?_
 ·refine W_region ?_
  refine LP_ev ok 0 [(62, sl a132 r121 c133), (63, sl a75 r64 c76)] 2 rfl rfl ?_
  have ex148 := (ex73.ext x81)
  have ex149 := ((((((ex73.ext x81).ext x91).but y (Dj.of_fresh ex148 f93).symm).ext x100).ext x112).ext x126)
  refine LP_call 2 rfl rfl rfl cal_17 rfl (laws_eqIntS_w _ _ _ H wx125 o129.readf ex130 o72.readf ex149) ?_
  rintro _ wx150 ⟨r147, H, rfl, x151⟩
  refine LP_ev ok 3 [(65, .bool (!r147)), (66, .bool (!r147))] 5 rfl rfl ?_
  refine LP_split 66 (!r147) rfl (fun hc152 => ?_) (fun hc152 => ?_)
  ·have H := H.1 hc152
   refine LP_ev ok 5 [(67, undef), (68, undef), (69, undef), (70, .bool true)] 9 rfl rfl ?_
   refine LP_end _ rfl ?_
   try refine W_forget [(1, sl a5 aS c6), (2, sl a11 aPubs c12), (3, I aN), (4, pb b), (10, sl a75 r64 c76), (11, .bool r65), (12, pb b89), (13, sl a106 r96 c107), (14, sl a118 r108 c119), (15, sl a132 r121 c133), (16, .bool r122), (70, .bool true)] ⟨rfl, rfl, rfl, rfl, rfl, rfl, rfl, rfl, rfl, rfl, rfl, rfl, trivial⟩ fun ρ => ?_
   have X154 := (((((((((X.stepx x).stepx x17).stepx x22).stepx x28).stepx x35).stepx x45).stepx x56).stepx x69).stepx x81)
   have f153 := f93.mono X154.size
   have X155 := (((((((((((((((X.stepx x).stepx x17).stepx x22).stepx x28).stepx x35).stepx x45).stepx x56).stepx x69).stepx x81).stepx x91).step y (f153.dom _)).stepx x100).stepx x112).stepx x126).stepx x151)
   have ex156 := (ex79.ext x81)
   have ex157 := (((((((ex79.ext x81).ext x91).but y (Dj.of_fresh ex156 f93).symm).ext x100).ext x112).ext x126).ext x151)
   have ex158 := ((((ex98.ext x100).ext x112).ext x126).ext x151)
   have ex159 := (((ex110.ext x112).ext x126).ext x151)
   have ex160 := (ex77.ext x81)
   have ex161 := (((((((ex77.ext x81).ext x91).but y (Dj.of_fresh ex160 f93).symm).ext x100).ext x112).ext x126).ext x151)
   have ex162 := (ex149.ext x151)
   have ex163 := ((ex123.ext x126).ext x151)
   have ex164 := ((ex120.ext x126).ext x151)
   have ex165 := ((ex124.ext x126).ext x151)
   have ex166 := ((ex116.ext x126).ext x151)
   have ex167 := (ex130.ext x151)
   exact ⟨true, H, _, env_eq ⟨rfl, rfl, rfl, rfl, rfl, rfl, rfl, rfl, rfl, rfl, rfl, rfl, trivial⟩, X155, ex157, ex158, ex159, ex161, ex162, ex163, ex164, ex165, ex166, ex167⟩
  have H := H.2 hc152
  refine LP_ev ok 5 [(67, .bool r122), (68, .bool r65), (69, .bool (r122 != r65)), (70, .bool (r122 != r65))] 9 rfl rfl ?_
  refine LP_end _ rfl ?_
  try refine W_forget [(1, sl a5 aS c6), (2, sl a11 aPubs c12), (3, I aN), (4, pb b), (10, sl a75 r64 c76), (11, .bool r65), (12, pb b89), (13, sl a106 r96 c107), (14, sl a118 r108 c119), (15, sl a132 r121 c133), (16, .bool r122), (70, .bool (r122 != r65))] ⟨rfl, rfl, rfl, rfl, rfl, rfl, rfl, rfl, rfl, rfl, rfl, rfl, trivial⟩ fun ρ => ?_
  have X169 := (((((((((X.stepx x).stepx x17).stepx x22).stepx x28).stepx x35).stepx x45).stepx x56).stepx x69).stepx x81)
  have f168 := f93.mono X169.size
  have X170 := (((((((((((((((X.stepx x).stepx x17).stepx x22).stepx x28).stepx x35).stepx x45).stepx x56).stepx x69).stepx x81).stepx x91).step y (f168.dom _)).stepx x100).stepx x112).stepx x126).stepx x151)
  have ex171 := (ex79.ext x81)
  have ex172 := (((((((ex79.ext x81).ext x91).but y (Dj.of_fresh ex171 f93).symm).ext x100).ext x112).ext x126).ext x151)
  have ex173 := ((((ex98.ext x100).ext x112).ext x126).ext x151)
  have ex174 := (((ex110.ext x112).ext x126).ext x151)
  have ex175 := (ex77.ext x81)
  have ex176 := (((((((ex77.ext x81).ext x91).but y (Dj.of_fresh ex175 f93).symm).ext x100).ext x112).ext x126).ext x151)
  have ex177 := (ex149.ext x151)
  have ex178 := ((ex123.ext x126).ext x151)
  have ex179 := ((ex120.ext x126).ext x151)
  have ex180 := ((ex124.ext x126).ext x151)
  have ex181 := ((ex116.ext x126).ext x151)
  have ex182 := (ex130.ext x151)
  exact ⟨r122 != r65, H, _, env_eq ⟨rfl, rfl, rfl, rfl, rfl, rfl, rfl, rfl, rfl, rfl, rfl, rfl, trivial⟩, X170, ex172, ex173, ex174, ex176, ex177, ex178, ex179, ex180, ex181, ex182⟩
 rintro x134 _ wx135 ⟨H, ρ, rfl, HF⟩
 revert HF
 refine bb9 fun X146 ex136 ex137 ex138 ex139 ex140 ex141 ex142 => ?_
 refine bb3 fun ex143 ex144 ex145 => ?_
 subst hk
 refine W_cond (x134) rfl (fun hc183 => ?_) (fun hc183 => ?_)
 ·have H := H.1 hc183
  refine W_seq ?_
  refine W_region ?_
  refine LP_ev ok 0 [(8, .bool false)] 1 rfl rfl ?_
  refine LP_end _ rfl ?_
  refine W_ret ?_
  exact ⟨_, Ret_of [.bool false] ⟨⟨rfl, rfl⟩, trivial⟩, _, H, rfl, X146.ext⟩
 have H := H.2 hc183
 refine W_skip ?_
 refine W_seq ?_
 refine W_seq ?_
 refine W_open mix fun wx184 x185 => ?_
 refine AP_game 3 [[], [], [1], [0, 1, 2], [0, 1, 2, 3]] [[(12, none)], [(4, none)], [(72, some 1)]] [(1, none), (2, none), (3, none), (4, none), (10, none), (11, none), (12, none), (13, none), (14, none), (15, none), (16, none), (71, some 0), (73, some 2)] [(0, false), (1, false), (2, true)] (by kernel_rfl) (by kernel_rfl) ?_
 have ex186 := (ex142.ext x185)
 refine GS_r1 [(12, pb b89)] (.agg #[sl a87 r78.Parents c88]) rfl rfl (fun _ h => h) (fun _ w e => ex_ldbox rfl ti_32 ag_32 (fun h => by cases h) rfl e rfl rfl) ex186 ?_
 have ex187 := (ex139.ext x185)
 refine GS_r1 [(4, pb b)] (.agg #[sl a aG.Parents c]) rfl rfl (fun _ h => h) (fun _ w e => ex_ldbox rfl ti_24 ag_24 (fun h => by cases h) rfl e rfl rfl) ex187 ?_
 refine GS_lp [(72, .agg #[sl a aG.Parents c])] rfl rfl (fun _ h => h) rfl fun ρ wx188 x189 => ?_
 have ex191 := ((ex136.ext x185).ext x189)
 refine LP_call 0 rfl rfl rfl cal_13 rfl (laws_toGeo_w _ _ H wx188 r ex191) ?_
 rintro _ wx192 ⟨r190, vx194, hx195, H, rfl, x193, o196, ex197, f198⟩
 obtain ⟨a199, c200, rfl⟩ := o196.shape
 have ex201 := ((ex186.ext x189).ext x193)
 refine LP_gs ⟨⟨.inl rfl, .inr ex201, trivial⟩, ?_⟩
 intro wx202 x203 ρ hn
 refine AP_forget [(1, sl a5 aS c6), (2, sl a11 aPubs c12), (3, I aN), (4, pb b), (10, sl a75 r64 c76), (11, .bool r65), (12, pb b89), (13, sl a106 r96 c107), (14, sl a118 r108 c119), (15, sl a132 r121 c133), (16, .bool r122), (71, .agg #[sl a87 r78.Parents c88]), (73, .agg #[sl a199 r190.Parents c200])] (by exact hn) fun ρ => ?_
 refine AP_tail 3 [[], [], [1], [0, 1, 2], [0, 1, 2, 3]] (by kernel_rfl) ?_
 have ex205 := ((((ex141.ext x185).ext x189).ext x193).ext x203)
 have ex206 := (ex197.ext x203)
 refine LP_call 3 rfl rfl rfl cal_18 rfl (laws_eqGeo_w _ _ _ H wx202 o84.readf ex205 o196.readf ex206) ?_
 rintro _ wx207 ⟨r204, H, rfl, x208⟩
 refine LP_ev ok 4 [(75, .bool (!r204))] 5 rfl rfl ?_
 refine LP_end _ rfl ?_
 refine W_cond (!r204) rfl (fun hc209 => ?_) (fun hc209 => ?_)
 ·have H := H.1 hc209
  refine W_seq ?_
  refine W_region ?_
  refine LP_ev ok 0 [(8, .bool false)] 1 rfl rfl ?_
  refine LP_end _ rfl ?_
  refine W_ret ?_
  have X210 := (((((X146.stepx x185).stepx x189).stepx x193).stepx x203).stepx x208)
  exact ⟨_, Ret_of [.bool false] ⟨⟨rfl, rfl⟩, trivial⟩, _, H, rfl, X210.ext⟩
 have H := H.2 hc209
 refine W_skip ?_
 refine W_seq ?_
 refine W_seq ?_
 refine W_region ?_
 refine LP_ev ok 0 [(76, sl a106 r96 c107), (77, sl a5 aS c6)] 2 rfl rfl ?_
 have ex212 := (((((ex137.ext x185).ext x189).ext x193).ext x203).ext x208)
 refine LP_call 2 rfl rfl rfl cal_14 rfl (laws_toVariableS_w _ _ H wx207 r3 ex212) ?_
 rintro _ wx213 ⟨r211, vx215, hx216, H, rfl, x214, o217, ex218, f219⟩
 obtain ⟨a220, c221, rfl⟩ := o217.shape
 have ex223 := ((((((ex143.ext x185).ext x189).ext x193).ext x203).ext x208).ext x214)
 refine LP_call 3 rfl rfl rfl cal_19 rfl (laws_eqVariableS_w _ _ _ H wx213 o103.readf ex223 o217.readf ex218) ?_
 rintro _ wx224 ⟨r222, H, rfl, x225⟩
 refine LP_ev ok 4 [(80, .bool (!r222))] 5 rfl rfl ?_
 refine LP_end _ rfl ?_
 refine W_cond (!r222) rfl (fun hc226 => ?_) (fun hc226 => ?_)
 ·have H := H.1 hc226
  refine W_seq ?_
  refine W_region ?_
  refine LP_ev ok 0 [(8, .bool false)] 1 rfl rfl ?_
  refine LP_end _ rfl ?_
  refine W_ret ?_
  have X227 := (((((((X146.stepx x185).stepx x189).stepx x193).stepx x203).stepx x208).stepx x214).stepx x225)
  exact ⟨_, Ret_of [.bool false] ⟨⟨rfl, rfl⟩, trivial⟩, _, H, rfl, X227.ext⟩
 have H := H.2 hc226
 refine W_skip ?_
 refine W_seq ?_
 refine W_seq ?_
 refine W_region ?_
 refine LP_ev ok 0 [(81, sl a118 r108 c119), (82, sl a11 aPubs c12)] 2 rfl rfl ?_
 have ex229 := (((((((ex138.ext x185).ext x189).ext x193).ext x203).ext x208).ext x214).ext x225)
 refine LP_call 2 rfl rfl rfl cal_15 rfl (laws_toPublishedS_w _ _ H wx224 r9 ex229) ?_
 rintro _ wx230 ⟨r228, vx232, hx233, H, rfl, x231, o234, ex235, f236⟩
 obtain ⟨a237, c238, rfl⟩ := o234.shape
 have ex240 := ((((((((ex144.ext x185).ext x189).ext x193).ext x203).ext x208).ext x214).ext x225).ext x231)
 refine LP_call 3 rfl rfl rfl cal_20 rfl (laws_eqPublishedS_w _ _ _ H wx230 o115.readf ex240 o234.readf ex235) ?_
 rintro _ wx241 ⟨r239, H, rfl, x242⟩
 refine LP_ev ok 4 [(85, .bool (!r239))] 5 rfl rfl ?_
 refine LP_end _ rfl ?_
 refine W_cond (!r239) rfl (fun hc243 => ?_) (fun hc243 => ?_)
 ·have H := H.1 hc243
  refine W_seq ?_
  refine W_region ?_
  refine LP_ev ok 0 [(8, .bool false)] 1 rfl rfl ?_
  refine LP_end _ rfl ?_
  refine W_ret ?_
  have X244 := (((((((((X146.stepx x185).stepx x189).stepx x193).stepx x203).stepx x208).stepx x214).stepx x225).stepx x231).stepx x242)
  exact ⟨_, Ret_of [.bool false] ⟨⟨rfl, rfl⟩, trivial⟩, _, H, rfl, X244.ext⟩
 have H := H.2 hc243
 refine W_skip ?_
 refine W_seq ?_
 refine W_region ?_
 refine LP_ev ok 0 [(17, I 1)] 1 rfl rfl ?_
 refine LP_end _ rfl ?_
 refine W_seq ?_
 refine W_region ?_
 have ex245 := ((((((((ex186.ext x189).ext x193).ext x203).ext x208).ext x214).ext x225).ext x231).ext x242)
 refine LP_ldbox 0 (v := .agg #[sl a87 r78.Parents c88]) rfl rfl rfl ti_32 ag_32 (fun h => by cases h) rfl ex245 rfl rfl ?_
 refine LP_ev ok 1 [(87, I 1)] 2 rfl rfl ?_
 have ex248 := (((((ex205.ext x208).ext x214).ext x225).ext x231).ext x242)
 refine LP_call 2 rfl rfl rfl cal_21 rfl (laws_markGeo_w _ _ _ H wx241 o84 ex248) ?_
 rintro _ wx249 ⟨r246, r247, hx251, H, rfl, x250, o252, ex253, dm⟩
 refine LP_ev ok 3 [(17, I r246)] 4 rfl rfl ?_
 refine LP_end _ rfl ?_
 refine W_seq ?_
 refine W_region ?_
 refine LP_ev ok 0 [(89, sl a106 r96 c107), (90, I r246)] 2 rfl rfl ?_
 have ex256 := ((ex85.ext x91).but y (Dj.of_fresh ex85 f93).symm)
 have ex257 := ((((ex223.ext x225).ext x231).ext x242).but x250 (Dj.of_fresh ex256 f105))
 refine LP_call 2 rfl rfl rfl cal_22 rfl (laws_markVariableS_w _ _ _ H wx249 o103 ex257) ?_
 rintro _ wx258 ⟨r254, r255, hx260, H, rfl, x259, o261, ex262, dm263⟩
 refine LP_ev ok 3 [(17, I r254)] 4 rfl rfl ?_
 refine LP_end _ rfl ?_
 refine W_seq ?_
 refine W_region ?_
 refine LP_ev ok 0 [(92, sl a118 r108 c119), (93, I r254)] 2 rfl rfl ?_
 have ex266 := (ex256.ext x100)
 have ex267 := (((ex240.ext x242).but x250 (Dj.of_fresh ex266 f117)).but x259 (Dj.of_fresh ex104 f117))
 refine LP_call 2 rfl rfl rfl cal_23 rfl (laws_markPublishedS_w _ _ _ H wx258 o115 ex267) ?_
 rintro _ wx268 ⟨r264, r265, hx270, H, rfl, x269, o271, ex272, dm273⟩
 refine LP_ev ok 3 [(17, I r264)] 4 rfl rfl ?_
 refine LP_end _ rfl ?_
 try refine W_forget [(1, sl a5 aS c6), (2, sl a11 aPubs c12), (3, I aN), (4, pb b), (10, sl a75 r64 c76), (11, .bool r65), (15, sl a132 r121 c133), (16, .bool r122), (17, I r264)] ⟨rfl, rfl, rfl, rfl, rfl, rfl, rfl, rfl, rfl, trivial⟩ fun ρ => ?_
 refine W_seq ?_
 obtain ⟨k283, hk284, H⟩ := jn_elim H
 refine W_join2 (S := Bool) (fun s ρ' w' => k283 s ∧ ∃ (ρ : Env), ρ' = setAll [(1, sl a5 aS c6), (2, sl a11 aPubs c12), (3, I aN), (4, pb b), (10, sl a75 r64 c76), (11, .bool r65), (15, sl a132 r121 c133), (107, .bool s)] ρ ∧ But emp w w' ∧ Sub hx w' ∧ Sub hx2 w' ∧ Sub hx8 w' ∧ Sub (bx b 24 [sl a aG.Parents c]) w' ∧ Sub hx71 w' ∧ Sub hx128 w') ?_ ?_
 ·refine W_region ?_
  refine LP_ev ok 0 [(95, I r264), (96, .bool (decide (r264 < 0))), (97, .bool (decide (r264 < 0)))] 3 rfl rfl ?_
  refine LP_split 97 (decide (r264 < 0)) rfl (fun hc285 => ?_) (fun hc285 => ?_)
  ·have H := H.1 hc285
   refine LP_ev ok 3 [(98, undef), (99, undef), (100, undef), (101, undef), (102, .bool true), (103, .bool true), (104, undef), (105, undef), (106, undef), (107, .bool true)] 13 rfl rfl ?_
   refine LP_end _ rfl ?_
   have X287 := ((((((((X.stepx x).stepx x17).stepx x22).stepx x28).stepx x35).stepx x45).stepx x56).stepx x69)
   have f286 := f86.mono X287.size
   have X290 := (X287.stepx x81)
   have f289 := f93.mono X290.size
   have X291 := (((X287.stepx x81).stepx x91).step y (f289.dom _))
   have f288 := f105.mono X291.size
   have X293 := (X291.stepx x100)
   have f292 := f117.mono X293.size
   have X294 := ((((((((((((X146.stepx x185).stepx x189).stepx x193).stepx x203).stepx x208).stepx x214).stepx x225).stepx x231).stepx x242).step x250 (f286.dom _)).step x259 (f288.dom _)).step x269 (f292.dom _))
   have ex295 := (ex79.ext x81)
   have ex296 := (((ex79.ext x81).ext x91).but y (Dj.of_fresh ex295 f93).symm)
   have ex297 := (ex296.ext x100)
   have ex298 := ((((((((((ex191.ext x193).ext x203).ext x208).ext x214).ext x225).ext x231).ext x242).but x250 (Dj.of_fresh ex79 f86).symm).but x259 (Dj.of_fresh ex296 f105).symm).but x269 (Dj.of_fresh ex297 f117).symm)
   have ex299 := (((ex43.ext x45).ext x56).ext x69)
   have ex300 := (ex98.ext x100)
   have ex301 := (((((((ex212.ext x214).ext x225).ext x231).ext x242).but x250 (Dj.of_fresh ex299 f86).symm).but x259 (Dj.of_fresh ex98 f105).symm).but x269 (Dj.of_fresh ex300 f117).symm)
   have ex302 := ((ex54.ext x56).ext x69)
   have ex303 := ((ex109.ext x91).but y (Dj.of_fresh ex109 f93).symm)
   have ex304 := (((((ex229.ext x231).ext x242).but x250 (Dj.of_fresh ex302 f86).symm).but x259 (Dj.of_fresh ex303 f105).symm).but x269 (Dj.of_fresh ex110 f117).symm)
   have ex305 := (ex77.ext x81)
   have ex306 := (((ex77.ext x81).ext x91).but y (Dj.of_fresh ex305 f93).symm)
   have ex307 := (ex306.ext x100)
   have ex308 := (((((((((((ex187.ext x189).ext x193).ext x203).ext x208).ext x214).ext x225).ext x231).ext x242).but x250 (Dj.of_fresh ex77 f86).symm).but x259 (Dj.of_fresh ex306 f105).symm).but x269 (Dj.of_fresh ex307 f117).symm)
   have ex309 := (ex73.ext x81)
   have ex310 := (((ex73.ext x81).ext x91).but y (Dj.of_fresh ex309 f93).symm)
   have ex311 := (ex310.ext x100)
   have ex312 := ((((((((((((ex140.ext x185).ext x189).ext x193).ext x203).ext x208).ext x214).ext x225).ext x231).ext x242).but x250 (Dj.of_fresh ex73 f86).symm).but x259 (Dj.of_fresh ex310 f105).symm).but x269 (Dj.of_fresh ex311 f117).symm)
   have ex313 := ((((((((((((ex145.ext x185).ext x189).ext x193).ext x203).ext x208).ext x214).ext x225).ext x231).ext x242).but x250 (Dj.of_fresh ex123 f131)).but x259 (Dj.of_fresh ex124 f131)).but x269 (Dj.of_fresh ex116 f131))
   exact ⟨true, H, _, env_eq ⟨rfl, rfl, rfl, rfl, rfl, rfl, rfl, rfl, trivial⟩, X294, ex298, ex301, ex304, ex308, ex312, ex313⟩
  have H := H.2 hc285
  refine LP_ev ok 3 [(98, sl a132 r121 c133), (99, sl a75 r64 c76)] 5 rfl rfl ?_
  have ex315 := ((((((((((((ex145.ext x185).ext x189).ext x193).ext x203).ext x208).ext x214).ext x225).ext x231).ext x242).but x250 (Dj.of_fresh ex123 f131)).but x259 (Dj.of_fresh ex124 f131)).but x269 (Dj.of_fresh ex116 f131))
  have ex316 := (ex73.ext x81)
  have ex317 := (((ex73.ext x81).ext x91).but y (Dj.of_fresh ex316 f93).symm)
  have ex318 := (ex317.ext x100)
  have ex319 := ((((((((((((ex140.ext x185).ext x189).ext x193).ext x203).ext x208).ext x214).ext x225).ext x231).ext x242).but x250 (Dj.of_fresh ex73 f86).symm).but x259 (Dj.of_fresh ex317 f105).symm).but x269 (Dj.of_fresh ex318 f117).symm)
  refine LP_call 5 rfl rfl rfl cal_17 rfl (laws_eqIntS_w _ _ _ H wx268 o129.readf ex315 o72.readf ex319) ?_
  rintro _ wx320 ⟨r314, H, rfl, x321⟩
  refine LP_ev ok 6 [(101, .bool (!r314)), (102, .bool (!r314)), (103, .bool (!r314))] 9 rfl rfl ?_
  refine LP_split 103 (!r314) rfl (fun hc322 => ?_) (fun hc322 => ?_)
  ·have H := H.1 hc322
   refine LP_ev ok 9 [(104, undef), (105, undef), (106, undef), (107, .bool true)] 13 rfl rfl ?_
   refine LP_end _ rfl ?_
   have X324 := ((((((((X.stepx x).stepx x17).stepx x22).stepx x28).stepx x35).stepx x45).stepx x56).stepx x69)
   have f323 := f86.mono X324.size
   have X327 := (X324.stepx x81)
   have f326 := f93.mono X327.size
   have X328 := (((X324.stepx x81).stepx x91).step y (f326.dom _))
   have f325 := f105.mono X328.size
   have X330 := (X328.stepx x100)
   have f329 := f117.mono X330.size
   have X331 := (((((((((((((X146.stepx x185).stepx x189).stepx x193).stepx x203).stepx x208).stepx x214).stepx x225).stepx x231).stepx x242).step x250 (f323.dom _)).step x259 (f325.dom _)).step x269 (f329.dom _)).stepx x321)
   have ex332 := (ex79.ext x81)
   have ex333 := (((ex79.ext x81).ext x91).but y (Dj.of_fresh ex332 f93).symm)
   have ex334 := (ex333.ext x100)
   have ex335 := (((((((((((ex191.ext x193).ext x203).ext x208).ext x214).ext x225).ext x231).ext x242).but x250 (Dj.of_fresh ex79 f86).symm).but x259 (Dj.of_fresh ex333 f105).symm).but x269 (Dj.of_fresh ex334 f117).symm).ext x321)
   have ex336 := (((ex43.ext x45).ext x56).ext x69)
   have ex337 := (ex98.ext x100)
   have ex338 := ((((((((ex212.ext x214).ext x225).ext x231).ext x242).but x250 (Dj.of_fresh ex336 f86).symm).but x259 (Dj.of_fresh ex98 f105).symm).but x269 (Dj.of_fresh ex337 f117).symm).ext x321)
   have ex339 := ((ex54.ext x56).ext x69)
   have ex340 := ((ex109.ext x91).but y (Dj.of_fresh ex109 f93).symm)
   have ex341 := ((((((ex229.ext x231).ext x242).but x250 (Dj.of_fresh ex339 f86).symm).but x259 (Dj.of_fresh ex340 f105).symm).but x269 (Dj.of_fresh ex110 f117).symm).ext x321)
   have ex342 := (ex77.ext x81)
   have ex343 := (((ex77.ext x81).ext x91).but y (Dj.of_fresh ex342 f93).symm)
   have ex344 := (ex343.ext x100)
   have ex345 := ((((((((((((ex187.ext x189).ext x193).ext x203).ext x208).ext x214).ext x225).ext x231).ext x242).but x250 (Dj.of_fresh ex77 f86).symm).but x259 (Dj.of_fresh ex343 f105).symm).but x269 (Dj.of_fresh ex344 f117).symm).ext x321)
   have ex346 := (ex319.ext x321)
   have ex347 := (ex315.ext x321)
   exact ⟨true, H, _, env_eq ⟨rfl, rfl, rfl, rfl, rfl, rfl, rfl, rfl, trivial⟩, X331, ex335, ex338, ex341, ex345, ex346, ex347⟩
  have H := H.2 hc322
  refine LP_ev ok 9 [(104, .bool r122), (105, .bool r65), (106, .bool (r122 != r65)), (107, .bool (r122 != r65))] 13 rfl rfl ?_
  refine LP_end _ rfl ?_
  have X349 := ((((((((X.stepx x).stepx x17).stepx x22).stepx x28).stepx x35).stepx x45).stepx x56).stepx x69)
  have f348 := f86.mono X349.size
  have X352 := (X349.stepx x81)
  have f351 := f93.mono X352.size
  have X353 := (((X349.stepx x81).stepx x91).step y (f351.dom _))
  have f350 := f105.mono X353.size
  have X355 := (X353.stepx x100)
  have f354 := f117.mono X355.size
  have X356 := (((((((((((((X146.stepx x185).stepx x189).stepx x193).stepx x203).stepx x208).stepx x214).stepx x225).stepx x231).stepx x242).step x250 (f348.dom _)).step x259 (f350.dom _)).step x269 (f354.dom _)).stepx x321)
  have ex357 := (ex79.ext x81)
  have ex358 := (((ex79.ext x81).ext x91).but y (Dj.of_fresh ex357 f93).symm)
  have ex359 := (ex358.ext x100)
  have ex360 := (((((((((((ex191.ext x193).ext x203).ext x208).ext x214).ext x225).ext x231).ext x242).but x250 (Dj.of_fresh ex79 f86).symm).but x259 (Dj.of_fresh ex358 f105).symm).but x269 (Dj.of_fresh ex359 f117).symm).ext x321)
  have ex361 := (((ex43.ext x45).ext x56).ext x69)
  have ex362 := (ex98.ext x100)
  have ex363 := ((((((((ex212.ext x214).ext x225).ext x231).ext x242).but x250 (Dj.of_fresh ex361 f86).symm).but x259 (Dj.of_fresh ex98 f105).symm).but x269 (Dj.of_fresh ex362 f117).symm).ext x321)
  have ex364 := ((ex54.ext x56).ext x69)
  have ex365 := ((ex109.ext x91).but y (Dj.of_fresh ex109 f93).symm)
  have ex366 := ((((((ex229.ext x231).ext x242).but x250 (Dj.of_fresh ex364 f86).symm).but x259 (Dj.of_fresh ex365 f105).symm).but x269 (Dj.of_fresh ex110 f117).symm).ext x321)
  have ex367 := (ex77.ext x81)
  have ex368 := (((ex77.ext x81).ext x91).but y (Dj.of_fresh ex367 f93).symm)
  have ex369 := (ex368.ext x100)
  have ex370 := ((((((((((((ex187.ext x189).ext x193).ext x203).ext x208).ext x214).ext x225).ext x231).ext x242).but x250 (Dj.of_fresh ex77 f86).symm).but x259 (Dj.of_fresh ex368 f105).symm).but x269 (Dj.of_fresh ex369 f117).symm).ext x321)
  have ex371 := (ex319.ext x321)
  have ex372 := (ex315.ext x321)
  exact ⟨r122 != r65, H, _, env_eq ⟨rfl, rfl, rfl, rfl, rfl, rfl, rfl, rfl, trivial⟩, X356, ex360, ex363, ex366, ex370, ex371, ex372⟩
 rintro x274 _ wx275 ⟨H, ρ, rfl, HF⟩
 revert HF
 refine bb7 fun X282 ex276 ex277 ex278 ex279 ex280 ex281 => ?_
 subst hk284
 refine W_cond (x274) rfl (fun hc373 => ?_) (fun hc373 => ?_)
 ·have H := H.1 hc373
  refine W_seq ?_
  refine W_region ?_
  refine LP_ev ok 0 [(8, .bool false)] 1 rfl rfl ?_
  refine LP_end _ rfl ?_
  refine W_ret ?_
  exact ⟨_, Ret_of [.bool false] ⟨⟨rfl, rfl⟩, trivial⟩, _, H, rfl, X282.ext⟩
 have H := H.2 hc373
 refine W_skip ?_
 refine W_seq ?_
 refine W_region ?_
 refine LP_ev ok 0 [(18, I 1)] 1 rfl rfl ?_
 refine LP_end _ rfl ?_
 refine W_seq ?_
 refine W_region ?_
 refine LP_ev ok 0 [(108, sl a132 r121 c133), (109, I 1)] 2 rfl rfl ?_
 refine LP_call 2 rfl rfl rfl cal_24 rfl (laws_markIntS_w _ _ _ H wx275 o129 ex281) ?_
 rintro _ wx376 ⟨r374, r375, hx378, H, rfl, x377, o379, ex380, dm381⟩
 refine LP_ev ok 3 [(18, I r374)] 4 rfl rfl ?_
 refine LP_end _ rfl ?_
 refine W_seq ?_
 refine W_region ?_
 refine LP_ev ok 0 [(19, I 1)] 1 rfl rfl ?_
 refine LP_end _ rfl ?_
 refine W_seq ?_
 refine W_region ?_
 refine LP_ev ok 0 [(111, sl a132 r121 c133), (112, I 1)] 2 rfl rfl ?_
 refine LP_call 2 rfl rfl rfl cal_25 rfl (laws_heldIntS_w _ _ _ H wx376 o379.readf ex380) ?_
 rintro _ wx383 ⟨r382, H, rfl, x384⟩
 refine LP_ev ok 3 [(19, I r382)] 4 rfl rfl ?_
 refine LP_end _ rfl ?_
 refine W_seq ?_
 refine W_seq ?_
 refine W_region ?_
 refine LP_ev ok 0 [(114, I r382), (115, .bool (decide (r382 < 0)))] 2 rfl rfl ?_
 refine LP_end _ rfl ?_
 refine W_cond (decide (r382 < 0)) rfl (fun hc385 => ?_) (fun hc385 => ?_)
 ·have H := H.1 hc385
  refine W_seq ?_
  refine W_region ?_
  refine LP_ev ok 0 [(8, .bool false)] 1 rfl rfl ?_
  refine LP_end _ rfl ?_
  refine W_ret ?_
  have X388 := (((((((((X.stepx x).stepx x17).stepx x22).stepx x28).stepx x35).stepx x45).stepx x56).stepx x69).stepx x81)
  have f387 := f93.mono X388.size
  have X389 := (((((((((((((X.stepx x).stepx x17).stepx x22).stepx x28).stepx x35).stepx x45).stepx x56).stepx x69).stepx x81).stepx x91).step y (f387.dom _)).stepx x100).stepx x112)
  have f386 := f131.mono X389.size
  have X390 := ((X282.step x377 (f386.dom _)).stepx x384)
  exact ⟨_, Ret_of [.bool false] ⟨⟨rfl, rfl⟩, trivial⟩, _, H, rfl, X390.ext⟩
 have H := H.2 hc385
 refine W_skip ?_
 refine W_seq ?_
 refine W_seq ?_
 refine W_region ?_
 refine LP_ev ok 0 [(116, I r382), (117, I r374), (118, .bool (r382 != r374))] 3 rfl rfl ?_
 refine LP_end _ rfl ?_
 refine W_cond (r382 != r374) rfl (fun hc391 => ?_) (fun hc391 => ?_)
 ·have H := H.1 hc391
  refine W_seq ?_
  refine W_region ?_
  refine LP_ev ok 0 [(8, .bool false)] 1 rfl rfl ?_
  refine LP_end _ rfl ?_
  refine W_ret ?_
  have X394 := (((((((((X.stepx x).stepx x17).stepx x22).stepx x28).stepx x35).stepx x45).stepx x56).stepx x69).stepx x81)
  have f393 := f93.mono X394.size
  have X395 := (((((((((((((X.stepx x).stepx x17).stepx x22).stepx x28).stepx x35).stepx x45).stepx x56).stepx x69).stepx x81).stepx x91).step y (f393.dom _)).stepx x100).stepx x112)
  have f392 := f131.mono X395.size
  have X396 := ((X282.step x377 (f392.dom _)).stepx x384)
  exact ⟨_, Ret_of [.bool false] ⟨⟨rfl, rfl⟩, trivial⟩, _, H, rfl, X396.ext⟩
 have H := H.2 hc391
 refine W_skip ?_
 refine W_seq ?_
 refine W_region ?_
 have ex397 := (ex77.ext x81)
 have ex398 := (((((ex77.ext x81).ext x91).but y (Dj.of_fresh ex397 f93).symm).ext x100).ext x112)
 have ex399 := ((ex279.but x377 (Dj.of_fresh ex398 f131).symm).ext x384)
 refine LP_ldbox 0 (v := .agg #[sl a aG.Parents c]) rfl rfl rfl ti_24 ag_24 (fun h => by cases h) rfl ex399 rfl rfl ?_
 have ex401 := (ex79.ext x81)
 have ex402 := (((((ex79.ext x81).ext x91).but y (Dj.of_fresh ex401 f93).symm).ext x100).ext x112)
 have ex403 := ((ex276.but x377 (Dj.of_fresh ex402 f131).symm).ext x384)
 refine LP_call 1 rfl rfl rfl cal_13 rfl (laws_toGeo_w _ _ H wx383 r ex403) ?_
 rintro _ wx404 ⟨r400, vx406, hx407, H, rfl, x405, o408, ex409, f410⟩
 obtain ⟨a411, c412, rfl⟩ := o408.shape
 refine LP_ev ok 2 [(122, sl a5 aS c6)] 3 rfl rfl ?_
 have ex414 := ((ex98.ext x100).ext x112)
 have ex415 := (((ex277.but x377 (Dj.of_fresh ex414 f131).symm).ext x384).ext x405)
 refine LP_call 3 rfl rfl rfl cal_14 rfl (laws_toVariableS_w _ _ H wx404 r3 ex415) ?_
 rintro _ wx416 ⟨r413, vx418, hx419, H, rfl, x417, o420, ex421, f422⟩
 obtain ⟨a423, c424, rfl⟩ := o420.shape
 refine LP_ev ok 4 [(124, sl a11 aPubs c12)] 5 rfl rfl ?_
 have ex426 := (ex110.ext x112)
 have ex427 := ((((ex278.but x377 (Dj.of_fresh ex426 f131).symm).ext x384).ext x405).ext x417)
 refine LP_call 5 rfl rfl rfl cal_15 rfl (laws_toPublishedS_w _ _ H wx416 r9 ex427) ?_
 rintro _ wx428 ⟨r425, vx430, hx431, H, rfl, x429, o432, ex433, f434⟩
 obtain ⟨a435, c436, rfl⟩ := o432.shape
 refine LP_ev ok 6 [(126, I aN)] 7 rfl rfl ?_
 have ex439 := ((ex409.ext x417).ext x429)
 have ex440 := (ex421.ext x429)
 refine LP_call 7 rfl rfl rfl cal_29 rfl (impl_CertainTypes_w _ _ _ _ _ H wx428 o408.readf ex439 o420.readf ex440 o432.readf ex433) ?_
 rintro _ wx441 ⟨r437, r438, vx443, hx444, H, rfl, x442, o445, ex446, f447⟩
 obtain ⟨a448, c449, rfl⟩ := o445.shape
 refine LP_ev ok 8 [(119, .tuple #[sl a448 r437 c449, .bool r438]), (128, sl a448 r437 c449), (129, .bool r438), (20, sl a448 r437 c449), (21, .bool r438)] 13 rfl rfl ?_
 refine LP_end _ rfl ?_
 try refine W_forget [(10, sl a75 r64 c76), (11, .bool r65), (15, sl a132 r121 c133), (18, I r374), (20, sl a448 r437 c449), (21, .bool r438)] ⟨rfl, rfl, rfl, rfl, rfl, rfl, trivial⟩ fun ρ => ?_
 refine W_seq ?_
 obtain ⟨k454, hk455, H⟩ := jn_elim H
 refine W_join2 (S := Bool) (fun s ρ' w' => k454 s ∧ ∃ (ρ : Env), ρ' = setAll [(15, sl a132 r121 c133), (18, I r374), (138, .bool s)] ρ ∧ But emp w w' ∧ Sub hx378 w') ?_ ?_
 ·refine W_region ?_
  refine LP_ev ok 0 [(130, sl a448 r437 c449), (131, sl a75 r64 c76)] 2 rfl rfl ?_
  have ex457 := (ex73.ext x81)
  have ex458 := (((((ex73.ext x81).ext x91).but y (Dj.of_fresh ex457 f93).symm).ext x100).ext x112)
  have ex459 := ((((((ex280.but x377 (Dj.of_fresh ex458 f131).symm).ext x384).ext x405).ext x417).ext x429).ext x442)
  refine LP_call 2 rfl rfl rfl cal_17 rfl (laws_eqIntS_w _ _ _ H wx441 o445.readf ex446 o72.readf ex459) ?_
  rintro _ wx460 ⟨r456, H, rfl, x461⟩
  refine LP_ev ok 3 [(133, .bool (!r456)), (134, .bool (!r456))] 5 rfl rfl ?_
  refine LP_split 134 (!r456) rfl (fun hc462 => ?_) (fun hc462 => ?_)
  ·have H := H.1 hc462
   refine LP_ev ok 5 [(135, undef), (136, undef), (137, undef), (138, .bool true)] 9 rfl rfl ?_
   refine LP_end _ rfl ?_
   have X465 := (((((((((X.stepx x).stepx x17).stepx x22).stepx x28).stepx x35).stepx x45).stepx x56).stepx x69).stepx x81)
   have f464 := f93.mono X465.size
   have X466 := (((((((((((((X.stepx x).stepx x17).stepx x22).stepx x28).stepx x35).stepx x45).stepx x56).stepx x69).stepx x81).stepx x91).step y (f464.dom _)).stepx x100).stepx x112)
   have f463 := f131.mono X466.size
   have X467 := (((((((X282.step x377 (f463.dom _)).stepx x384).stepx x405).stepx x417).stepx x429).stepx x442).stepx x461)
   have ex468 := ((((((ex380.ext x384).ext x405).ext x417).ext x429).ext x442).ext x461)
   exact ⟨true, H, _, env_eq ⟨rfl, rfl, rfl, trivial⟩, X467, ex468⟩
  have H := H.2 hc462
  refine LP_ev ok 5 [(135, .bool r438), (136, .bool r65), (137, .bool (r438 != r65)), (138, .bool (r438 != r65))] 9 rfl rfl ?_
  refine LP_end _ rfl ?_
  have X471 := (((((((((X.stepx x).stepx x17).stepx x22).stepx x28).stepx x35).stepx x45).stepx x56).stepx x69).stepx x81)
  have f470 := f93.mono X471.size
  have X472 := (((((((((((((X.stepx x).stepx x17).stepx x22).stepx x28).stepx x35).stepx x45).stepx x56).stepx x69).stepx x81).stepx x91).step y (f470.dom _)).stepx x100).stepx x112)
  have f469 := f131.mono X472.size
  have X473 := (((((((X282.step x377 (f469.dom _)).stepx x384).stepx x405).stepx x417).stepx x429).stepx x442).stepx x461)
  have ex474 := ((((((ex380.ext x384).ext x405).ext x417).ext x429).ext x442).ext x461)
  exact ⟨r438 != r65, H, _, env_eq ⟨rfl, rfl, rfl, trivial⟩, X473, ex474⟩
 rintro x450 _ wx451 ⟨H, ρ, rfl, X453, ex452⟩
 subst hk455
 refine W_cond (x450) rfl (fun hc475 => ?_) (fun hc475 => ?_)
 ·have H := H.1 hc475
  refine W_seq ?_
  refine W_region ?_
  refine LP_ev ok 0 [(8, .bool false)] 1 rfl rfl ?_
  refine LP_end _ rfl ?_
  refine W_ret ?_
  exact ⟨_, Ret_of [.bool false] ⟨⟨rfl, rfl⟩, trivial⟩, _, H, rfl, X453.ext⟩
 have H := H.2 hc475
 refine W_skip ?_
 refine W_seq ?_
 refine W_region ?_
 refine LP_ev ok 0 [(19, I 1)] 1 rfl rfl ?_
 refine LP_end _ rfl ?_
 refine W_seq ?_
 refine W_region ?_
 refine LP_ev ok 0 [(139, sl a132 r121 c133), (140, I 1)] 2 rfl rfl ?_
 refine LP_call 2 rfl rfl rfl cal_25 rfl (laws_heldIntS_w _ _ _ H wx451 o379.readf ex452) ?_
 rintro _ wx477 ⟨r476, H, rfl, x478⟩
 refine LP_ev ok 3 [(19, I r476)] 4 rfl rfl ?_
 refine LP_end _ rfl ?_
 refine W_seq ?_
 refine W_seq ?_
 refine W_region ?_
 refine LP_ev ok 0 [(142, I r476), (143, .bool (decide (r476 < 0)))] 2 rfl rfl ?_
 refine LP_end _ rfl ?_
 refine W_cond (decide (r476 < 0)) rfl (fun hc479 => ?_) (fun hc479 => ?_)
 ·have H := H.1 hc479
  refine W_seq ?_
  refine W_region ?_
  refine LP_ev ok 0 [(8, .bool false)] 1 rfl rfl ?_
  refine LP_end _ rfl ?_
  refine W_ret ?_
  have X480 := (X453.stepx x478)
  exact ⟨_, Ret_of [.bool false] ⟨⟨rfl, rfl⟩, trivial⟩, _, H, rfl, X480.ext⟩
 have H := H.2 hc479
 refine W_skip ?_
 refine W_seq ?_
 refine W_seq ?_
 refine W_region ?_
 refine LP_ev ok 0 [(144, I r476), (145, I r374), (146, .bool (r476 != r374))] 3 rfl rfl ?_
 refine LP_end _ rfl ?_
 refine W_cond (r476 != r374) rfl (fun hc481 => ?_) (fun hc481 => ?_)
 ·have H := H.1 hc481
  refine W_seq ?_
  refine W_region ?_
  refine LP_ev ok 0 [(8, .bool false)] 1 rfl rfl ?_
  refine LP_end _ rfl ?_
  refine W_ret ?_
  have X482 := (X453.stepx x478)
  exact ⟨_, Ret_of [.bool false] ⟨⟨rfl, rfl⟩, trivial⟩, _, H, rfl, X482.ext⟩
 have H := H.2 hc481
 refine W_skip ?_
 refine W_seq ?_
 refine W_region ?_
 refine LP_ev ok 0 [(8, .bool true)] 1 rfl rfl ?_
 refine LP_end _ rfl ?_
 refine W_ret ?_
 have X483 := (X453.stepx x478)
 exact ⟨_, Ret_of [.bool true] ⟨⟨rfl, rfl⟩, trivial⟩, _, H, rfl, X483.ext⟩

end Go.Proofs.YtkebfmobfeponaaGreat
