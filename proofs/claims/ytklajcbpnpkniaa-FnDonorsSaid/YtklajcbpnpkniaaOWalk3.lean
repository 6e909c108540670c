/- The walks, further. -/
import Derived.Test.YtklajcbpnpkniaaOWalk2
set_option linter.unusedVariables false
set_option autoImplicit false
namespace Go.Proofs.Ytklajcbpnpkniaa
open Go Go.RowKit Go.Gv

open Go.Proofs
set_option maxRecDepth 8000
set_option maxHeartbeats 4000000
theorem laws_FnDonors_w (code : List B8) (more : List B8) (Q : Bool → Prop) (H : laws_FnDonors code more Q) (w : World) {vx : Value} {hx : PH} (r : RS hx vx code) (ex : Sub hx w) {vx1 : Value} {hx2 : PH} (r3 : RS hx2 vx1 more) (ex4 : Sub hx2 w) :
  CallsTo Try.prog 3 #[vx, vx1] w fun v w' => ∃ r0, Q r0 ∧ v = .bool r0 ∧ Ext w w' := by
 obtain ⟨a, c, rfl⟩ := r.shape
 obtain ⟨a5, c6, rfl⟩ := r3.shape
 refine enter (args := [sl a code c, sl a5 more c6]) 187 Try.func3 rfl rfl rfl ?_
 refine W_forget [(0, sl a code c), (1, sl a5 more c6)] ⟨rfl, rfl, trivial⟩ fun ρ => ?_
 have X := But.refl emp w
 refine W_seq (W_region ?_)
 refine LP_ev ok 0 [(4, .bool false)] 1 rfl rfl ?_
 refine LP_end _ rfl (W_seq ?_)
 refine W_seq (W_region ?_)
 refine LP_ev ok 0 [(33, sl a code c), (34, I (ln code)), (35, sl a5 more c6), (36, I (ln more)), (37, I (wr ((ln code) + (ln more)))), (38, .bool (decide ((wr ((ln code) + (ln more))) > 1048576)))] 6 rfl rfl ?_
 refine LP_end _ rfl ?_
 refine W_cond (decide ((wr ((ln code) + (ln more))) > 1048576)) rfl (fun hc => ?_) (fun hc => ?_)
 ·have H := H.1 hc
  refine W_seq (W_region ?_)
  refine LP_ev ok 0 [(4, .bool true)] 1 rfl rfl ?_
  refine LP_end _ rfl (W_ret ?_)
  exact ⟨_, Ret_of [.bool true] ⟨⟨rfl, rfl⟩, trivial⟩, _, H, rfl, X.ext⟩
 have H := H.2 hc
 refine W_skip ?_
 refine W_seq (W_region ?_)
 refine LP_ev ok 0 [(40, sl a code c)] 1 rfl rfl ?_
 refine LP_call 1 rfl rfl rfl cal_5 rfl (spec_DrawMendData_w _ _ H w r ex) ?_
 rintro _ wx ⟨r7, r8, r9, r10, vx11, hx12, vx14, hx15, vx19, hx20, vx24, hx25, H, rfl, x, HF⟩
 revert HF
 refine bb9 fun o ex13 f o16 ex17 f18 o21 ex22 => ?_
 refine bb9 fun f23 o26 ex27 f28 d d29 d30 d31 => ?_
 refine bb2 fun d32 d33 => ?_
 obtain ⟨a34, c35, rfl⟩ := o.shape
 obtain ⟨a36, c37, rfl⟩ := o16.shape
 obtain ⟨a38, c39, rfl⟩ := o21.shape
 obtain ⟨a40, c41, rfl⟩ := o26.shape
 refine LP_ev ok 2 [(39, .tuple #[sl a34 r7 c35, sl a36 r8 c37, sl a38 r9 c39, sl a40 r10 c41]), (42, sl a34 r7 c35), (43, sl a36 r8 c37), (44, sl a38 r9 c39), (45, sl a40 r10 c41), (5, sl a34 r7 c35), (6, sl a36 r8 c37), (7, sl a38 r9 c39), (8, sl a40 r10 c41)] 11 rfl rfl ?_
 refine LP_end _ rfl (W_seq (W_region ?_))
 refine LP_ev ok 0 [(47, sl a34 r7 c35), (48, sl a36 r8 c37), (49, sl a38 r9 c39), (50, sl a40 r10 c41)] 4 rfl rfl ?_
 refine LP_call 4 rfl rfl rfl cal_6 rfl (impl_MendData_w _ _ _ _ _ H wx o.readf ex13 o16.readf ex17 o21.readf ex22 o26.readf ex27) ?_
 rintro _ wx45 ⟨r42, r43, r44, vx47, hx48, vx52, hx53, H, rfl, x46, HF⟩
 revert HF
 refine bb7 fun o49 ex50 f51 o54 ex55 f56 d57 => ?_
 obtain ⟨a58, c59, rfl⟩ := o49.shape
 obtain ⟨a60, c61, rfl⟩ := o54.shape
 refine LP_ev ok 5 [(46, .tuple #[sl a58 r42 c59, sl a60 r43 c61, .bool r44]), (52, sl a58 r42 c59), (53, sl a60 r43 c61), (54, .bool r44), (9, sl a58 r42 c59), (10, sl a60 r43 c61), (11, .bool r44)] 12 rfl rfl ?_
 refine LP_end _ rfl ?_
 try refine W_forget [(1, sl a5 more c6), (5, sl a34 r7 c35), (6, sl a36 r8 c37), (7, sl a38 r9 c39), (8, sl a40 r10 c41), (9, sl a58 r42 c59), (10, sl a60 r43 c61), (11, .bool r44)] ⟨rfl, rfl, rfl, rfl, rfl, rfl, rfl, rfl, trivial⟩ fun ρ => ?_
 refine W_seq (W_region ?_)
 refine LP_ev ok 0 [(56, sl a34 r7 c35), (57, sl a36 r8 c37), (58, sl a38 r9 c39), (59, sl a40 r10 c41)] 4 rfl rfl ?_
 have ex65 := (ex13.ext x46)
 have ex66 := (ex17.ext x46)
 have ex68 := (ex27.ext x46)
 refine LP_call 4 rfl rfl rfl cal_7 rfl (spec_MendData_w _ _ _ _ _ H wx45 o.readf ex65 o16.readf ex66 o21.readf (ex22.ext x46) o26.readf ex68) ?_
 rintro _ wx69 ⟨r62, r63, r64, vx71, hx72, vx76, hx77, H, rfl, x70, HF⟩
 revert HF
 refine bb7 fun o73 ex74 f75 o78 ex79 f80 d81 => ?_
 obtain ⟨a82, c83, rfl⟩ := o73.shape
 obtain ⟨a84, c85, rfl⟩ := o78.shape
 refine LP_ev ok 5 [(55, .tuple #[sl a82 r62 c83, sl a84 r63 c85, .bool r64]), (61, sl a82 r62 c83), (62, sl a84 r63 c85), (63, .bool r64), (12, sl a82 r62 c83), (13, sl a84 r63 c85), (14, .bool r64)] 12 rfl rfl ?_
 refine LP_end _ rfl (W_seq (W_region ?_))
 refine LP_ev ok 0 [(65, sl a5 more c6)] 1 rfl rfl ?_
 refine LP_call 1 rfl rfl rfl cal_8 rfl (spec_DrawNearestDonor_w _ _ H wx69 r3 (ex4.ext ((x.trans x46).trans x70))) ?_
 rintro _ wx92 ⟨r86, r87, r88, r89, r90, vx94, hx95, vx99, hx100, vx104, hx105, vx109, hx110, vx114, hx115, H, rfl, x93, HF⟩
 revert HF
 refine bb9 fun o96 ex97 f98 o101 ex102 f103 o106 ex107 => ?_
 refine bb9 fun f108 o111 ex112 f113 o116 ex117 f118 d119 => ?_
 refine bb9 fun d120 d121 d122 d123 d124 d125 d126 d127 d128 => ?_
 obtain ⟨a129, c130, rfl⟩ := o96.shape
 obtain ⟨a131, c132, rfl⟩ := o101.shape
 obtain ⟨a133, c134, rfl⟩ := o106.shape
 obtain ⟨a135, c136, rfl⟩ := o111.shape
 obtain ⟨a137, c138, rfl⟩ := o116.shape
 refine LP_ev ok 2 [(64, .tuple #[sl a129 r86 c130, sl a131 r87 c132, sl a133 r88 c134, sl a135 r89 c136, sl a137 r90 c138]), (67, sl a129 r86 c130), (68, sl a131 r87 c132), (69, sl a133 r88 c134), (70, sl a135 r89 c136), (71, sl a137 r90 c138), (15, sl a129 r86 c130), (16, sl a131 r87 c132), (17, sl a133 r88 c134), (18, sl a135 r89 c136), (19, sl a137 r90 c138)] 13 rfl rfl ?_
 refine LP_end _ rfl ?_
 try refine W_forget [(5, sl a34 r7 c35), (6, sl a36 r8 c37), (8, sl a40 r10 c41), (9, sl a58 r42 c59), (10, sl a60 r43 c61), (11, .bool r44), (12, sl a82 r62 c83), (13, sl a84 r63 c85), (14, .bool r64), (15, sl a129 r86 c130), (16, sl a131 r87 c132), (17, sl a133 r88 c134), (18, sl a135 r89 c136), (19, sl a137 r90 c138)] ⟨rfl, rfl, rfl, rfl, rfl, rfl, rfl, rfl, rfl, rfl, rfl, rfl, rfl, rfl, trivial⟩ fun ρ => ?_
 refine W_seq (W_region ?_)
 refine LP_ev ok 0 [(73, sl a129 r86 c130), (74, sl a131 r87 c132), (75, sl a133 r88 c134), (76, sl a135 r89 c136), (77, sl a137 r90 c138)] 5 rfl rfl ?_
 refine LP_call 5 rfl rfl rfl cal_9 rfl (impl_NearestDonor_w _ _ _ _ _ _ H wx92 o96.readf ex97 o101.readf ex102 o106.readf ex107 o111.readf ex112 o116.readf ex117) ?_
 rintro _ wx141 ⟨r139, r140, H, rfl, x142⟩
 refine LP_ev ok 6 [(72, .tuple #[I r139, .bool r140]), (79, I r139), (80, .bool r140), (20, I r139), (21, .bool r140)] 11 rfl rfl ?_
 refine LP_end _ rfl (W_seq (W_region ?_))
 refine LP_ev ok 0 [(82, sl a129 r86 c130), (83, sl a131 r87 c132), (84, sl a133 r88 c134), (85, sl a135 r89 c136), (86, sl a137 r90 c138)] 5 rfl rfl ?_
 have ex145 := (ex97.ext x142)
 have ex146 := (ex102.ext x142)
 have ex147 := (ex107.ext x142)
 have ex148 := (ex112.ext x142)
 have ex149 := (ex117.ext x142)
 refine LP_call 5 rfl rfl rfl cal_10 rfl (spec_NearestDonor_w _ _ _ _ _ _ H wx141 o96.readf ex145 o101.readf ex146 o106.readf ex147 o111.readf ex148 o116.readf ex149) ?_
 rintro _ wx150 ⟨r143, r144, H, rfl, x151⟩
 refine LP_ev ok 6 [(81, .tuple #[I r143, .bool r144]), (88, I r143), (89, .bool r144), (22, I r143), (23, .bool r144)] 11 rfl rfl ?_
 refine LP_end _ rfl (W_seq ?_)
 have X153 := (X.stepx (((((x.trans x46).trans x70).trans x93).trans x142).trans x151))
 have xc154 := (((x70.trans x93).trans x142).trans x151)
 have ex155 := (ex65.ext xc154)
 have ex157 := (ex66.ext xc154)
 have ex159 := (ex68.ext xc154)
 have ex161 := (ex50.ext xc154)
 have ex164 := (ex55.ext xc154)
 have xc166 := ((x93.trans x142).trans x151)
 have ex172 := (ex145.ext x151)
 have ex175 := (ex146.ext x151)
 have ex177 := (ex147.ext x151)
 have ex179 := (ex148.ext x151)
 have ex181 := (ex149.ext x151)
 obtain ⟨k, hk, H⟩ := jn_elim H
 refine W_join2 (S := Bool) (fun s ρ' w' => k s ∧ ∃ (ρ : Env), ρ' = setAll [(5, sl a34 r7 c35), (6, sl a36 r8 c37), (8, sl a40 r10 c41), (9, sl a58 r42 c59), (10, sl a60 r43 c61), (11, .bool r44), (15, sl a129 r86 c130), (16, sl a131 r87 c132), (17, sl a133 r88 c134), (18, sl a135 r89 c136), (19, sl a137 r90 c138), (20, I r139), (21, .bool r140), (114, .bool s)] ρ ∧ But emp w w' ∧ Sub hx12 w' ∧ Sub hx15 w' ∧ Sub hx25 w' ∧ Sub hx48 w' ∧ Sub hx53 w' ∧ Sub hx95 w' ∧ Sub hx100 w' ∧ Sub hx105 w' ∧ Sub hx110 w' ∧ Sub hx115 w') ?_ ?_
 ·refine W_region ?_
  refine LP_ev ok 0 [(90, .bool r44), (91, .bool r64), (92, .bool (r44 != r64)), (93, .bool (r44 != r64))] 4 rfl rfl ?_
  refine LP_split 93 (r44 != r64) rfl (fun hc196 => ?_) (fun hc196 => ?_)
  ·have H := H.1 hc196
   refine LP_ev ok 4 [(94, undef), (95, undef), (96, undef), (97, undef), (98, .bool true), (99, .bool true), (100, undef), (101, undef), (102, undef), (103, undef), (104, .bool true), (105, .bool true), (106, undef), (107, undef), (108, undef), (109, .bool true), (110, .bool true), (111, undef), (112, undef), (113, undef), (114, .bool true)] 25 rfl rfl ?_
   refine LP_end _ rfl ?_
   try refine W_forget [(5, sl a34 r7 c35), (6, sl a36 r8 c37), (8, sl a40 r10 c41), (9, sl a58 r42 c59), (10, sl a60 r43 c61), (11, .bool r44), (15, sl a129 r86 c130), (16, sl a131 r87 c132), (17, sl a133 r88 c134), (18, sl a135 r89 c136), (19, sl a137 r90 c138), (20, I r139), (21, .bool r140), (114, .bool true)] ⟨rfl, rfl, rfl, rfl, rfl, rfl, rfl, rfl, rfl, rfl, rfl, rfl, rfl, rfl, trivial⟩ fun ρ => ?_
   exact ⟨true, H, _, env_eq ⟨rfl, rfl, rfl, rfl, rfl, rfl, rfl, rfl, rfl, rfl, rfl, rfl, rfl, rfl, trivial⟩, X153, ex155, ex157, ex159, ex161, ex164, ex172, ex175, ex177, ex179, ex181⟩
  have H := H.2 hc196
  refine LP_ev ok 4 [(94, sl a58 r42 c59), (95, sl a82 r62 c83)] 6 rfl rfl ?_
  refine LP_call 6 rfl rfl rfl cal_11 rfl (laws_qData_w _ _ _ H wx150 o49.readf ex161 o73.readf (ex74.ext xc166)) ?_
  rintro _ wx198 ⟨r197, H, rfl, x199⟩
  refine LP_ev ok 7 [(97, .bool (!r197)), (98, .bool (!r197)), (99, .bool (!r197))] 10 rfl rfl ?_
  refine LP_split 99 (!r197) rfl (fun hc200 => ?_) (fun hc200 => ?_)
  ·have H := H.1 hc200
   refine LP_ev ok 10 [(100, undef), (101, undef), (102, undef), (103, undef), (104, .bool true), (105, .bool true), (106, undef), (107, undef), (108, undef), (109, .bool true), (110, .bool true), (111, undef), (112, undef), (113, undef), (114, .bool true)] 25 rfl rfl ?_
   refine LP_end _ rfl ?_
   try refine W_forget [(5, sl a34 r7 c35), (6, sl a36 r8 c37), (8, sl a40 r10 c41), (9, sl a58 r42 c59), (10, sl a60 r43 c61), (11, .bool r44), (15, sl a129 r86 c130), (16, sl a131 r87 c132), (17, sl a133 r88 c134), (18, sl a135 r89 c136), (19, sl a137 r90 c138), (20, I r139), (21, .bool r140), (114, .bool true)] ⟨rfl, rfl, rfl, rfl, rfl, rfl, rfl, rfl, rfl, rfl, rfl, rfl, rfl, rfl, trivial⟩ fun ρ => ?_
   exact ⟨true, H, _, env_eq ⟨rfl, rfl, rfl, rfl, rfl, rfl, rfl, rfl, rfl, rfl, rfl, rfl, rfl, rfl, trivial⟩, (X153.stepx x199), (ex155.ext x199), (ex157.ext x199), (ex159.ext x199), (ex161.ext x199), (ex164.ext x199), (ex172.ext x199), (ex175.ext x199), (ex177.ext x199), (ex179.ext x199), (ex181.ext x199)⟩
  have H := H.2 hc200
  refine LP_ev ok 10 [(100, sl a60 r43 c61), (101, sl a84 r63 c85)] 12 rfl rfl ?_
  have ex213 := (ex164.ext x199)
  refine LP_call 12 rfl rfl rfl cal_12 rfl (laws_qInts_w _ _ _ H wx198 o54.readf ex213 o78.readf ((ex79.ext xc166).ext x199)) ?_
  rintro _ wx215 ⟨r212, H, rfl, x216⟩
  refine LP_ev ok 13 [(103, .bool (!r212)), (104, .bool (!r212)), (105, .bool (!r212))] 16 rfl rfl ?_
  refine LP_split 105 (!r212) rfl (fun hc217 => ?_) (fun hc217 => ?_)
  ·have H := H.1 hc217
   refine LP_ev ok 16 [(106, undef), (107, undef), (108, undef), (109, .bool true), (110, .bool true), (111, undef), (112, undef), (113, undef), (114, .bool true)] 25 rfl rfl ?_
   refine LP_end _ rfl ?_
   try refine W_forget [(5, sl a34 r7 c35), (6, sl a36 r8 c37), (8, sl a40 r10 c41), (9, sl a58 r42 c59), (10, sl a60 r43 c61), (11, .bool r44), (15, sl a129 r86 c130), (16, sl a131 r87 c132), (17, sl a133 r88 c134), (18, sl a135 r89 c136), (19, sl a137 r90 c138), (20, I r139), (21, .bool r140), (114, .bool true)] ⟨rfl, rfl, rfl, rfl, rfl, rfl, rfl, rfl, rfl, rfl, rfl, rfl, rfl, rfl, trivial⟩ fun ρ => ?_
   have xc218 := (x199.trans x216)
   exact ⟨true, H, _, env_eq ⟨rfl, rfl, rfl, rfl, rfl, rfl, rfl, rfl, rfl, rfl, rfl, rfl, rfl, rfl, trivial⟩, (X153.stepx xc218), (ex155.ext xc218), (ex157.ext xc218), (ex159.ext xc218), (ex161.ext xc218), (ex213.ext x216), (ex172.ext xc218), (ex175.ext xc218), (ex177.ext xc218), (ex179.ext xc218), (ex181.ext xc218)⟩
  have H := H.2 hc217
  refine LP_ev ok 16 [(106, .bool r140), (107, .bool r144), (108, .bool (r140 != r144)), (109, .bool (r140 != r144)), (110, .bool (r140 != r144))] 21 rfl rfl ?_
  refine LP_split 110 (r140 != r144) rfl (fun hc230 => ?_) (fun hc230 => ?_)
  ·have H := H.1 hc230
   refine LP_ev ok 21 [(111, undef), (112, undef), (113, undef), (114, .bool true)] 25 rfl rfl ?_
   refine LP_end _ rfl ?_
   try refine W_forget [(5, sl a34 r7 c35), (6, sl a36 r8 c37), (8, sl a40 r10 c41), (9, sl a58 r42 c59), (10, sl a60 r43 c61), (11, .bool r44), (15, sl a129 r86 c130), (16, sl a131 r87 c132), (17, sl a133 r88 c134), (18, sl a135 r89 c136), (19, sl a137 r90 c138), (20, I r139), (21, .bool r140), (114, .bool true)] ⟨rfl, rfl, rfl, rfl, rfl, rfl, rfl, rfl, rfl, rfl, rfl, rfl, rfl, rfl, trivial⟩ fun ρ => ?_
   have xc231 := (x199.trans x216)
   exact ⟨true, H, _, env_eq ⟨rfl, rfl, rfl, rfl, rfl, rfl, rfl, rfl, rfl, rfl, rfl, rfl, rfl, rfl, trivial⟩, (X153.stepx xc231), (ex155.ext xc231), (ex157.ext xc231), (ex159.ext xc231), (ex161.ext xc231), (ex213.ext x216), (ex172.ext xc231), (ex175.ext xc231), (ex177.ext xc231), (ex179.ext xc231), (ex181.ext xc231)⟩
  have H := H.2 hc230
  refine LP_ev ok 21 [(111, I r139), (112, I r143), (113, .bool (r139 != r143)), (114, .bool (r139 != r143))] 25 rfl rfl ?_
  refine LP_end _ rfl ?_
  try refine W_forget [(5, sl a34 r7 c35), (6, sl a36 r8 c37), (8, sl a40 r10 c41), (9, sl a58 r42 c59), (10, sl a60 r43 c61), (11, .bool r44), (15, sl a129 r86 c130), (16, sl a131 r87 c132), (17, sl a133 r88 c134), (18, sl a135 r89 c136), (19, sl a137 r90 c138), (20, I r139), (21, .bool r140), (114, .bool (r139 != r143))] ⟨rfl, rfl, rfl, rfl, rfl, rfl, rfl, rfl, rfl, rfl, rfl, rfl, rfl, rfl, trivial⟩ fun ρ => ?_
  have xc243 := (x199.trans x216)
  exact ⟨r139 != r143, H, _, env_eq ⟨rfl, rfl, rfl, rfl, rfl, rfl, rfl, rfl, rfl, rfl, rfl, rfl, rfl, rfl, trivial⟩, (X153.stepx xc243), (ex155.ext xc243), (ex157.ext xc243), (ex159.ext xc243), (ex161.ext xc243), (ex213.ext x216), (ex172.ext xc243), (ex175.ext xc243), (ex177.ext xc243), (ex179.ext xc243), (ex181.ext xc243)⟩
 rintro x183 _ wx184 ⟨H, ρ, rfl, HF⟩
 revert HF
 refine bb9 fun X195 ex185 ex186 ex187 ex188 ex189 ex190 ex191 => ?_
 refine bb3 fun ex192 ex193 ex194 => ?_
 subst hk
 refine W_cond (x183) rfl (fun hc255 => ?_) (fun hc255 => ?_)
 ·have H := H.1 hc255
  refine W_seq (W_region ?_)
  refine LP_ev ok 0 [(4, .bool false)] 1 rfl rfl ?_
  refine LP_end _ rfl (W_ret ?_)
  exact ⟨_, Ret_of [.bool false] ⟨⟨rfl, rfl⟩, trivial⟩, _, H, rfl, X195.ext⟩
 have H := H.2 hc255
 refine W_skip ?_
 obtain ⟨k263, hk264, H⟩ := jn_elim H
 refine W_join2 (S := Unit) (fun s ρ' w' => k263 ∧ ∃ (ρ : Env), ρ' = setAll [(5, sl a34 r7 c35), (6, sl a36 r8 c37), (8, sl a40 r10 c41), (9, sl a58 r42 c59), (10, sl a60 r43 c61), (11, .bool r44)] ρ ∧ But emp w w' ∧ Sub hx12 w' ∧ Sub hx15 w' ∧ Sub hx25 w' ∧ Sub hx48 w' ∧ Sub hx53 w') ?_ ?_
 ·refine W_seq (W_region ?_)
  refine LP_ev ok 0 [(115, .bool r140)] 1 rfl rfl ?_
  refine LP_end _ rfl ?_
  refine W_cond (r140) rfl (fun hc265 => ?_) (fun hc265 => ?_)
  ·have H := H.1 hc265
   refine W_seq (W_region ?_)
   refine LP_ev ok 0 [(117, sl a129 r86 c130), (118, sl a131 r87 c132), (119, sl a133 r88 c134), (120, sl a137 r90 c138), (121, sl a135 r89 c136), (122, I r139)] 6 rfl rfl ?_
   obtain ⟨x266, hi, hx267, H⟩ := H
   refine LP_index 6 rfl rfl rfl Try.underlying26 ti_40 rfl rfl o111.readf hi hx267 fun a268 cs r269 d270 => ?_
   have d271 := d270
   obtain ⟨u, rfl, r272⟩ := Record_rd d271
   obtain ⟨a273, c274, rfl⟩ := r272.shape
   refine LP_ev ok 7 [(124, .pointer (some (Addr.add a268 2)))] 8 rfl rfl ?_
   refine LP_ldpart (off := 2) 8 (v := sl a273 x266.Values c274) rfl rfl rfl ti_25 ag_25 (fun _ => rfl) rfl r269 ex193 rfl rfl ?_
   refine LP_call 9 rfl rfl rfl cal_13 rfl (impl_DonorMend_w _ _ _ _ _ _ H wx184 o96.readf ex190 o101.readf ex191 o106.readf ex192 o116.readf ex194 r272 ex193) ?_
   rintro _ wx278 ⟨r275, r276, r277, vx280, hx281, H, rfl, x279, o282, ex283, f284⟩
   obtain ⟨a285, c286, rfl⟩ := o282.shape
   refine LP_ev ok 10 [(116, .tuple #[sl a285 r275 c286, .bool r276, .bool r277]), (127, sl a285 r275 c286), (128, .bool r276), (129, .bool r277), (24, sl a285 r275 c286), (25, .bool r276), (26, .bool r277)] 17 rfl rfl ?_
   refine LP_end _ rfl (W_seq (W_region ?_))
   refine LP_ev ok 0 [(131, sl a129 r86 c130), (132, sl a131 r87 c132), (133, sl a285 r275 c286)] 3 rfl rfl ?_
   refine LP_call 3 rfl rfl rfl cal_14 rfl (impl_FailedEdits_w _ _ _ _ H wx278 o96.readf (ex190.ext x279) o101.readf (ex191.ext x279) o282.readf ex283) ?_
   rintro _ wx291 ⟨r287, r288, vx293, hx294, H, rfl, x292, o295, ex296, f297⟩
   obtain ⟨a298, c299, rfl⟩ := o295.shape
   refine LP_ev ok 4 [(130, .tuple #[sl a298 r287 c299, .bool r288]), (135, sl a298 r287 c299), (136, .bool r288), (27, sl a298 r287 c299), (28, .bool r288)] 9 rfl rfl ?_
   refine LP_end _ rfl ?_
   try refine W_forget [(5, sl a34 r7 c35), (6, sl a36 r8 c37), (8, sl a40 r10 c41), (9, sl a58 r42 c59), (10, sl a60 r43 c61), (11, .bool r44), (26, .bool r277), (27, sl a298 r287 c299), (28, .bool r288)] ⟨rfl, rfl, rfl, rfl, rfl, rfl, rfl, rfl, rfl, trivial⟩ fun ρ => ?_
   have xc300 := (x279.trans x292)
   have X301 := (X195.stepx xc300)
   obtain ⟨k311, hk312, H⟩ := jn_elim H
   refine W_join2 (S := Bool) (fun s ρ' w' => k311 s ∧ ∃ (ρ : Env), ρ' = setAll [(5, sl a34 r7 c35), (6, sl a36 r8 c37), (8, sl a40 r10 c41), (9, sl a58 r42 c59), (10, sl a60 r43 c61), (11, .bool r44), (147, .bool s)] ρ ∧ wx291 = w') ?_ ?_
   ·refine W_region ?_
    refine LP_ev ok 0 [(137, .bool r277), (138, .bool (!r277)), (139, .bool (!r277))] 3 rfl rfl ?_
    refine LP_split 139 (!r277) rfl (fun hc313 => ?_) (fun hc313 => ?_)
    ·have H := H.1 hc313
     refine LP_ev ok 3 [(140, undef), (141, undef), (142, .bool true), (143, .bool true), (144, undef), (145, undef), (146, undef), (147, .bool true)] 11 rfl rfl ?_
     exact LP_end _ rfl ⟨true, H, _, env_eq ⟨rfl, rfl, rfl, rfl, rfl, rfl, rfl, trivial⟩, rfl⟩
    have H := H.2 hc313
    refine LP_ev ok 3 [(140, .bool r288), (141, .bool (!r288)), (142, .bool (!r288)), (143, .bool (!r288))] 7 rfl rfl ?_
    refine LP_split 143 (!r288) rfl (fun hc314 => ?_) (fun hc314 => ?_)
    ·have H := H.1 hc314
     refine LP_ev ok 7 [(144, undef), (145, undef), (146, undef), (147, .bool true)] 11 rfl rfl ?_
     exact LP_end _ rfl ⟨true, H, _, env_eq ⟨rfl, rfl, rfl, rfl, rfl, rfl, rfl, trivial⟩, rfl⟩
    have H := H.2 hc314
    refine LP_ev ok 7 [(144, sl a298 r287 c299), (145, I (ln r287)), (146, .bool (decide ((ln r287) > 0))), (147, .bool (decide ((ln r287) > 0)))] 11 rfl rfl ?_
    exact LP_end _ rfl ⟨decide ((ln r287) > 0), H, _, env_eq ⟨rfl, rfl, rfl, rfl, rfl, rfl, rfl, trivial⟩, rfl⟩
   rintro x309 _ _ ⟨H, ρ, rfl, rfl⟩
   subst hk312
   refine W_cond (x309) rfl (fun hc315 => ?_) (fun hc315 => ?_)
   ·have H := H.1 hc315
    refine W_seq (W_region ?_)
    refine LP_ev ok 0 [(4, .bool false)] 1 rfl rfl ?_
    refine LP_end _ rfl (W_ret ?_)
    exact ⟨_, Ret_of [.bool false] ⟨⟨rfl, rfl⟩, trivial⟩, _, H, rfl, X301.ext⟩
   have H := H.2 hc315
   exact W_skip ⟨(), H, _, env_eq ⟨rfl, rfl, rfl, rfl, rfl, rfl, trivial⟩, X301, (ex185.ext xc300), (ex186.ext xc300), (ex187.ext xc300), (ex188.ext xc300), (ex189.ext xc300)⟩
  have H := H.2 hc265
  exact W_skip ⟨(), H, _, env_eq ⟨rfl, rfl, rfl, rfl, rfl, rfl, trivial⟩, X195, ex185, ex186, ex187, ex188, ex189⟩
 rintro ⟨⟩ _ wx256 ⟨H, ρ, rfl, HF⟩
 revert HF
 refine bb6 fun X262 ex257 ex258 ex259 ex260 ex261 => ?_
 subst hk264
 refine W_seq ?_
 refine W_seq (W_region ?_)
 refine LP_ev ok 0 [(148, .bool r44), (149, .bool (!r44))] 2 rfl rfl ?_
 refine LP_end _ rfl ?_
 refine W_cond (!r44) rfl (fun hc316 => ?_) (fun hc316 => ?_)
 ·have H := H.1 hc316
  refine W_seq (W_region ?_)
  refine LP_ev ok 0 [(4, .bool true)] 1 rfl rfl ?_
  refine LP_end _ rfl (W_ret ?_)
  exact ⟨_, Ret_of [.bool true] ⟨⟨rfl, rfl⟩, trivial⟩, _, H, rfl, X262.ext⟩
 have H := H.2 hc316
 refine W_skip ?_
 refine W_seq (W_region ?_)
 refine LP_ev ok 0 [(151, sl a34 r7 c35), (152, sl a36 r8 c37), (153, sl a58 r42 c59)] 3 rfl rfl ?_
 refine LP_call 3 rfl rfl rfl cal_15 rfl (impl_FailingRecords_w _ _ _ _ H wx256 o.readf ex257 o16.readf ex258 o49.readf ex260) ?_
 rintro _ wx319 ⟨r317, r318, vx321, hx322, H, rfl, x320, o323, ex324, f325⟩
 obtain ⟨a326, c327, rfl⟩ := o323.shape
 refine LP_ev ok 4 [(150, .tuple #[sl a326 r317 c327, .bool r318]), (155, sl a326 r317 c327), (156, .bool r318), (29, sl a326 r317 c327), (30, .bool r318)] 9 rfl rfl ?_
 refine LP_end _ rfl (W_seq (W_region ?_))
 refine LP_ev ok 0 [(158, sl a34 r7 c35), (159, sl a36 r8 c37), (160, sl a40 r10 c41)] 3 rfl rfl ?_
 refine LP_call 3 rfl rfl rfl cal_15 rfl (impl_FailingRecords_w _ _ _ _ H wx319 o.readf (ex257.ext x320) o16.readf (ex258.ext x320) o26.readf (ex259.ext x320)) ?_
 rintro _ wx333 ⟨r328, r329, vx335, hx336, H, rfl, x334, o337, ex338, f339⟩
 obtain ⟨a340, c341, rfl⟩ := o337.shape
 refine LP_ev ok 4 [(157, .tuple #[sl a340 r328 c341, .bool r329]), (162, sl a340 r328 c341), (163, .bool r329), (31, sl a340 r328 c341), (32, .bool r329)] 9 rfl rfl ?_
 refine LP_end _ rfl ?_
 obtain ⟨k352, hk353, H⟩ := jn_elim H
 refine W_join2 (S := Bool) (fun s ρ' w' => k352 s ∧ ∃ (ρ : Env), ρ' = setAll [(4, .bool s)] ρ ∧ wx333 = w') ?_ ?_
 ·refine W_region ?_
  refine LP_ev ok 0 [(164, .bool r318), (165, .bool r318)] 2 rfl rfl ?_
  refine LP_split 165 (r318) rfl (fun hc354 => ?_) (fun hc354 => ?_)
  ·have H := H.1 hc354
   refine LP_ev ok 2 [(166, .bool r329), (167, .bool r329), (168, .bool r329)] 5 rfl rfl ?_
   refine LP_split 168 (r329) rfl (fun hc355 => ?_) (fun hc355 => ?_)
   ·have H := H.1 hc355
    refine LP_ev ok 5 [(169, sl a326 r317 c327), (170, I (ln r317)), (171, .bool ((ln r317) == 0)), (172, .bool ((ln r317) == 0)), (173, .bool ((ln r317) == 0))] 10 rfl rfl ?_
    refine LP_split 173 ((ln r317) == 0) rfl (fun hc356 => ?_) (fun hc356 => ?_)
    ·have H := H.1 hc356
     refine LP_ev ok 10 [(174, sl a340 r328 c341), (175, I (ln r328)), (176, sl a40 r10 c41), (177, I (ln r10)), (178, .bool (decide ((ln r328) ≤ (ln r10)))), (179, .bool (decide ((ln r328) ≤ (ln r10)))), (180, .bool (decide ((ln r328) ≤ (ln r10))))] 17 rfl rfl ?_
     refine LP_split 180 (decide ((ln r328) ≤ (ln r10))) rfl (fun hc357 => ?_) (fun hc357 => ?_)
     ·have H := H.1 hc357
      refine LP_ev ok 17 [(181, sl a60 r43 c61), (182, I (ln r43)), (183, sl a40 r10 c41), (184, I (ln r10)), (185, .bool ((ln r43) == (ln r10))), (186, .bool ((ln r43) == (ln r10))), (4, .bool ((ln r43) == (ln r10)))] 24 rfl rfl ?_
      refine LP_end _ rfl ?_
      try refine W_forget [(4, .bool ((ln r43) == (ln r10)))] ⟨rfl, trivial⟩ fun ρ => ?_
      exact ⟨(ln r43) == (ln r10), H, _, env_eq ⟨rfl, trivial⟩, rfl⟩
     have H := H.2 hc357
     refine LP_ev ok 17 [(181, undef), (182, undef), (183, undef), (184, undef), (185, undef), (186, .bool false), (4, .bool false)] 24 rfl rfl ?_
     refine LP_end _ rfl ?_
     try refine W_forget [(4, .bool false)] ⟨rfl, trivial⟩ fun ρ => ?_
     exact ⟨false, H, _, env_eq ⟨rfl, trivial⟩, rfl⟩
    have H := H.2 hc356
    refine LP_ev ok 10 [(174, undef), (175, undef), (176, undef), (177, undef), (178, undef), (179, .bool false), (180, .bool false), (181, undef), (182, undef), (183, undef), (184, undef), (185, undef), (186, .bool false), (4, .bool false)] 24 rfl rfl ?_
    refine LP_end _ rfl ?_
    try refine W_forget [(4, .bool false)] ⟨rfl, trivial⟩ fun ρ => ?_
    exact ⟨false, H, _, env_eq ⟨rfl, trivial⟩, rfl⟩
   have H := H.2 hc355
   refine LP_ev ok 5 [(169, undef), (170, undef), (171, undef), (172, .bool false), (173, .bool false), (174, undef), (175, undef), (176, undef), (177, undef), (178, undef), (179, .bool false), (180, .bool false), (181, undef), (182, undef), (183, undef), (184, undef), (185, undef), (186, .bool false), (4, .bool false)] 24 rfl rfl ?_
   refine LP_end _ rfl ?_
   try refine W_forget [(4, .bool false)] ⟨rfl, trivial⟩ fun ρ => ?_
   exact ⟨false, H, _, env_eq ⟨rfl, trivial⟩, rfl⟩
  have H := H.2 hc354
  refine LP_ev ok 2 [(166, undef), (167, .bool false), (168, .bool false), (169, undef), (170, undef), (171, undef), (172, .bool false), (173, .bool false), (174, undef), (175, undef), (176, undef), (177, undef), (178, undef), (179, .bool false), (180, .bool false), (181, undef), (182, undef), (183, undef), (184, undef), (185, undef), (186, .bool false), (4, .bool false)] 24 rfl rfl ?_
  refine LP_end _ rfl ?_
  try refine W_forget [(4, .bool false)] ⟨rfl, trivial⟩ fun ρ => ?_
  exact ⟨false, H, _, env_eq ⟨rfl, trivial⟩, rfl⟩
 rintro x350 _ _ ⟨H, ρ, rfl, rfl⟩
 subst hk353
 refine W_ret ?_
 exact ⟨_, Ret_of [.bool x350] ⟨⟨rfl, rfl⟩, trivial⟩, _, H, rfl, (X262.stepx (x320.trans x334)).ext⟩

end Go.Proofs.Ytklajcbpnpkniaa
