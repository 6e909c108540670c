/- The walks, further. -/
import Derived.Test.YtkebfmobfeponaaGreatFWalk2
set_option linter.unusedVariables false
set_option autoImplicit false
namespace Go.Proofs.YtkebfmobfeponaaGreat
open Go Go.RowKit Go.Gv

open Go.Proofs
set_option maxRecDepth 8000
set_option maxHeartbeats 4000000
theorem impl_solutions_impl_FirstSurvey_1_w (g : Geo) (sx : List Variable) (pubs : List Published) (n : Int) (most : Int) (c13 : List Int) (Q : Int → (List Int) → Prop) (H : impl_solutions_impl_FirstSurvey_1 g sx pubs n most c13 Q) (w : World) {vx : Value} {hx : PH} (r : RS hx vx g.Parents) (ex : Sub hx w) {vx1 : Value} {hx2 : PH} (r3 : RS hx2 vx1 sx) (ex4 : Sub hx2 w) {vx7 : Value} {hx8 : PH} (r9 : RS hx8 vx7 pubs) (ex10 : Sub hx8 w) {vx14 : Value} {hx15 : PH} (r16 : OS 3 hx15 emp vx14 c13) (ex17 : Sub hx15 w) (cn : CanV vx14 c13) {b : Nat} (ex20 : Sub (bx b 22 [vx14]) w) (d : Dj hx15 (bx b 22 [vx14])) (d21 : Dj hx15 hx) (d22 : Dj hx15 hx2) (d23 : Dj hx15 hx8) (d24 : Dj (bx b 22 [vx14]) hx) (d25 : Dj (bx b 22 [vx14]) hx2) (d26 : Dj (bx b 22 [vx14]) hx8) :
  CallsTo Tryz.prog 65 #[.agg #[vx], vx1, vx7, I n, I most, .func (.func 66) #[] #[pb b]] w fun v w' => ∃ r0 m1 v1_ k1, Q r0 m1 ∧ v = I r0 ∧ But (un hx15 (bx b 22 [vx14])) w w' ∧ OS 3 k1 emp v1_ m1 ∧ Sub k1 w' ∧ DomLe (un hx15 (bx b 22 [vx14])) w.heap.size k1 ∧ Sub (bx b 22 [v1_]) w' ∧ Dj k1 (bx b 22 [v1_]) ∧ CanV v1_ m1 := by
 obtain ⟨a, c, rfl⟩ := r.shape
 obtain ⟨a5, c6, rfl⟩ := r3.shape
 obtain ⟨a11, c12, rfl⟩ := r9.shape
 obtain ⟨a18, c19, rfl⟩ := r16.shape
 refine enter (args := [.agg #[sl a g.Parents c], sl a5 sx c6, sl a11 pubs c12, I n, I most, .func (.func 66) #[] #[pb b]]) 33 Tryz.func65 rfl rfl rfl ?_
 refine W_forget [(0, .agg #[sl a g.Parents c]), (1, sl a5 sx c6), (2, sl a11 pubs c12), (3, I n), (4, I most), (5, .func (.func 66) #[] #[pb b])] ⟨rfl, rfl, rfl, rfl, rfl, rfl, trivial⟩ fun ρ => ?_
 obtain ⟨M, hM⟩ : ∃ M : PH, M = (un hx15 (bx b 22 [sl a18 c13 c19])) := ⟨_, rfl⟩
 have D : Dom M hx15 := by subst hM; exact (Dom.l _ _)
 have D27 : Dom M (bx b 22 [sl a18 c13 c19]) := by subst hM; exact (Dom.trans (Dom.r _ _) (Dom.refl _))
 have X := But.refl M w
 refine W_seq ?_
 refine W_region ?_
 refine LP_box 0 (cs := [sl a g.Parents c]) rfl rfl rfl rfl rfl fun b28 wx x ex29 f => ?_
 refine LP_box 1 (cs := [I most]) rfl rfl rfl rfl rfl fun b30 wx31 x32 ex33 f34 => ?_
 refine LP_box 2 (cs := [.func (.func 66) #[] #[pb b]]) rfl rfl rfl rfl rfl fun b35 wx36 x37 ex38 f39 => ?_
 refine LP_ev ok 3 [(12, I 0)] 4 rfl rfl ?_
 refine LP_end _ rfl ?_
 refine W_seq ?_
 refine W_region ?_
 have ex40 := ((ex29.ext x32).ext x37)
 refine LP_ldbox 0 (v := .agg #[sl a g.Parents c]) rfl rfl rfl ti_32 ag_32 (fun h => by cases h) rfl ex40 rfl rfl ?_
 refine LP_ev ok 1 [(17, sl a5 sx c6), (18, sl a11 pubs c12)] 3 rfl rfl ?_
 have ex42 := (((ex.ext x).ext x32).ext x37)
 have ex43 := (((ex4.ext x).ext x32).ext x37)
 have ex44 := (((ex10.ext x).ext x32).ext x37)
 refine LP_call 3 rfl rfl rfl cal_84 rfl (impl_conditionsOf_w _ _ _ _ H wx36 r ex42 r3 ex43 r9 ex44) ?_
 rintro _ wx45 ⟨r41, vx47, hx48, H, rfl, x46, o, ex49, f50⟩
 obtain ⟨a51, c52, rfl⟩ := o.shape
 refine LP_ev ok 4 [(13, sl a51 r41 c52)] 5 rfl rfl ?_
 refine LP_end _ rfl ?_
 refine W_seq ?_
 refine W_region ?_
 refine LP_alloc 0 rfl rfl rfl ti_3 rfl fun b53 wx54 x55 ex56 f57 => ?_
 refine LP_stbox 1 (vs := [I 0]) (cs' := [I 0]) rfl rfl rfl ti_3 rfl rfl rfl rfl rfl ex56 rfl rfl fun wx58 ex59 y => ?_
 refine LP_end _ rfl ?_
 refine W_seq ?_
 refine W_open mix fun wx60 x61 => ?_
 refine AP_gameT 11 [[], [], [], [1, 2], [1, 2, 3], [], [5], [5, 6], [], [0, 1, 2, 3, 4, 5, 6, 7, 8], [], [0, 1, 2, 3, 4, 5, 6, 7, 8, 9, 10]] [[(13, none)], [(6, none)], [(1, none)], [(21, some 1), (22, some 2)], [(23, some 3)], [(13, none)], [(25, some 5)], [(26, some 6)], [(10, none), (11, none), (14, none)], [(20, some 0), (24, some 4), (27, some 7), (28, some 8)], []] [(3, none), (14, none), (15, some 10), (29, some 9)] [0, 1, 2, 3, 4, 5, 6, 7, 8, 9, 10] (by kernel_rfl) (by kernel_rfl) 11 ?_
 refine GT_ev 0 ok [(13, sl a51 r41 c52)] (sl a51 r41 c52) rfl (by kernel_rfl) rfl (fun _ h => h) (fun _ => rfl) ?_
 have ex62 := (ex40.ext x46)
 have ex63 := ((((ex40.ext x46).ext x55).but y (Dj.of_fresh ex62 f57).symm).ext x61)
 refine GT_r1 1 [(6, pb b28)] (.agg #[sl a g.Parents c]) rfl (by kernel_rfl) rfl (fun _ h => h) (fun _ w e => ex_ldbox rfl ti_32 ag_32 (fun h => by cases h) rfl e rfl rfl) ex63 ?_
 refine GT_ev 2 ok [(1, sl a5 sx c6)] (sl a5 sx c6) rfl (by kernel_rfl) rfl (fun _ h => h) (fun _ => rfl) ?_
 obtain ⟨r64, Hd, H⟩ := H
 have ex65 := (ex42.ext x46)
 have ex66 := ((((ex42.ext x46).ext x55).but y (Dj.of_fresh ex65 f57).symm).ext x61)
 have ex67 := (ex43.ext x46)
 have ex68 := ((((ex43.ext x46).ext x55).but y (Dj.of_fresh ex67 f57).symm).ext x61)
 refine GT_q 3 [(21, .agg #[sl a g.Parents c]), (22, sl a5 sx c6)] (I r64) [hx, hx2] [.agg #[sl a g.Parents c], sl a5 sx c6] rfl (by kernel_rfl) rfl (fun _ h => h) rfl cal_81 (fun _ => rfl) (fun w e => (impl_typeCount_w _ _ _ Hd w r e.1 r3 e.2.1).mono (fun _ _ h => by obtain ⟨_, rfl, rfl, x⟩ := h; exact ⟨rfl, x⟩)) ⟨ex66, ex68, trivial⟩ ?_
 refine GT_ev 5 ok [(13, sl a51 r41 c52)] (sl a51 r41 c52) rfl (by kernel_rfl) rfl (fun _ h => h) (fun _ => rfl) ?_
 refine GT_ev 6 ok [(25, sl a51 r41 c52)] (I (ln r41)) rfl (by kernel_rfl) rfl (fun _ h => h) (fun _ => rfl) ?_
 refine GT_ev 8 ok [(10, pb b30), (11, pb b35), (14, pb b53)] (.func (.func 121) #[] #[pb b53, pb b35, pb b30]) rfl (by kernel_rfl) rfl (fun _ h => h) (fun _ => rfl) ?_
 refine GT_hd [4, 7, 10] (by kernel_rfl) ⟨?_, ?_, ?_, trivial⟩
 ·have H := H.1
  refine GT_lp [(23, I r64)] rfl (by kernel_rfl) rfl (fun _ h => h) rfl fun ρ wx69 x70 => ?_
  obtain ⟨hn, hb, H⟩ := H
  refine LP_make (α := Int) 0 rfl rfl rfl Tryz.underlying22 ti_3 (x0 := (0 : Int)) rfl rfl hn (by first | omega | (simp only [ln] at *; omega)) (by first | omega | (simp only [ln] at *; omega)) fun hx71 vx72 wx73 x74 o75 ex76 f77 => ?_
  obtain ⟨a78, c79, rfl⟩ := o75.shape
  refine LP_gs ⟨⟨.inl rfl, .inl rfl, .inl rfl, trivial⟩, ?_⟩
  refine GT_hd [7, 10] (by kernel_rfl) ⟨?_, ?_, trivial⟩
  ·have H := H
   refine GT_lp [(26, I (ln r41))] rfl (by kernel_rfl) rfl (fun _ h => h) rfl fun ρ wx80 x81 => ?_
   obtain ⟨hn82, hb83, H⟩ := H
   refine LP_make (α := Int) 0 rfl rfl rfl Tryz.underlying22 ti_3 (x0 := (0 : Int)) rfl rfl hn82 (by first | omega | (simp only [ln] at *; omega)) (by first | omega | (simp only [ln] at *; omega)) fun hx84 vx85 wx86 x87 o88 ex89 f90 => ?_
   obtain ⟨a91, c92, rfl⟩ := o88.shape
   have ex93 := ((((ex66.ext x70).ext x74).ext x81).ext x87)
   have ex94 := ((((ex68.ext x70).ext x74).ext x81).ext x87)
   have ex95 := ((((ex63.ext x70).ext x74).ext x81).ext x87)
   refine LP_gs ⟨⟨.inr ex93, .inr ex94, .inr ex95, trivial⟩, ?_⟩
   refine GT_ev 9 ok [(20, sl a51 r41 c52), (24, .slice a78 (List.length (List.replicate (Int.toNat r64) ((0 : Int)))) c79), (27, .slice a91 (List.length (List.replicate (Int.toNat (ln r41)) ((0 : Int)))) c92), (28, .func (.func 121) #[] #[pb b53, pb b35, pb b30])] (.agg #[sl a51 r41 c52, .slice a78 (List.length (List.replicate (Int.toNat r64) ((0 : Int)))) c79, .slice a91 (List.length (List.replicate (Int.toNat (ln r41)) ((0 : Int)))) c92, .func (.func 121) #[] #[pb b53, pb b35, pb b30]]) rfl (by kernel_rfl) rfl (fun _ h => h) (fun _ => rfl) ?_
   refine GT_hd [10] (by kernel_rfl) ⟨GT_lp [] rfl (by kernel_rfl) rfl (fun _ h => h) rfl fun ρ wx96 x97 => ?_, trivial⟩
   refine LP_alloc 0 rfl rfl rfl ti_153 rfl fun b98 wx99 x100 ex101 f102 => ?_
   have ex103 := ((ex93.ext x97).ext x100)
   have ex104 := ((ex94.ext x97).ext x100)
   have ex105 := ((ex95.ext x97).ext x100)
   refine LP_gs ⟨⟨.inr ex103, .inr ex104, .inr ex105, trivial⟩, ?_⟩
   refine GT_end (by kernel_rfl) ?_
   intro wx106 x107 ρ hn108
   refine AP_forget [(3, I n), (14, pb b53), (15, pb b98), (29, .agg #[sl a51 r41 c52, .slice a78 (List.length (List.replicate (Int.toNat r64) ((0 : Int)))) c79, .slice a91 (List.length (List.replicate (Int.toNat (ln r41)) ((0 : Int)))) c92, .func (.func 121) #[] #[pb b53, pb b35, pb b30]])] (by exact hn108) fun ρ => ?_
   refine AP_tail 11 [[], [], [], [1, 2], [1, 2, 3], [], [5], [5, 6], [], [0, 1, 2, 3, 4, 5, 6, 7, 8], [], [0, 1, 2, 3, 4, 5, 6, 7, 8, 9, 10]] (by kernel_rfl) ?_
   have ex112 := (ex101.ext x107)
   refine LP_stbox 11 (vs := [sl a51 r41 c52, .slice a78 (List.length (List.replicate (Int.toNat r64) ((0 : Int)))) c79, .slice a91 (List.length (List.replicate (Int.toNat (ln r41)) ((0 : Int)))) c92, .func (.func 121) #[] #[pb b53, pb b35, pb b30]]) (cs' := [sl a51 r41 c52, .slice a78 (List.length (List.replicate (Int.toNat r64) ((0 : Int)))) c79, .slice a91 (List.length (List.replicate (Int.toNat (ln r41)) ((0 : Int)))) c92, .func (.func 121) #[] #[pb b53, pb b35, pb b30]]) rfl rfl rfl ti_153 rfl rfl rfl rfl rfl ex112 rfl rfl fun wx109 ex110 y111 => ?_
   refine LP_end _ rfl ?_
   refine W_seq ?_
   refine W_region ?_
   refine LP_ev ok 0 [(30, I n)] 1 rfl rfl ?_
   have ex113 := (ex76.ext x81)
   have ex114 := ((ex59.ext x61).ext x70)
   have ex115 := ((((ex17.ext x).ext x32).ext x37).ext x46)
   have ex116 := ((((((((ex17.ext x).ext x32).ext x37).ext x46).ext x55).but y (Dj.of_fresh ex115 f57).symm).ext x61).ext x70)
   have ex117 := ((((ex20.ext x).ext x32).ext x37).ext x46)
   have ex118 := ((((((((ex20.ext x).ext x32).ext x37).ext x46).ext x55).but y (Dj.of_fresh ex117 f57).symm).ext x61).ext x70)
   have ex119 := ((ex113.ext x87).ext x97)
   have ex120 := ((ex114.ext x74).ext x81)
   have ex121 := ((ex116.ext x74).ext x81)
   have ex122 := ((ex118.ext x74).ext x81)
   have ex123 := (ex89.ext x97)
   have ex124 := ((ex120.ext x87).ext x97)
   have ex125 := ((ex121.ext x87).ext x97)
   have ex126 := ((ex122.ext x87).ext x97)
   have ex127 := ((((ex49.ext x55).but y (Dj.of_fresh ex49 f57).symm).ext x61).ext x70)
   have ex128 := (ex38.ext x46)
   have ex129 := (((((ex38.ext x46).ext x55).but y (Dj.of_fresh ex128 f57).symm).ext x61).ext x70)
   have ex130 := ((ex33.ext x37).ext x46)
   have ex131 := ((((((ex33.ext x37).ext x46).ext x55).but y (Dj.of_fresh ex130 f57).symm).ext x61).ext x70)
   have ex132 := ((ex127.ext x74).ext x81)
   have ex133 := ((ex129.ext x74).ext x81)
   have ex134 := ((ex131.ext x74).ext x81)
   have ex135 := (((ex17.ext x).ext x32).ext x37)
   have ex136 := ((ex17.ext x).ext x32)
   have ex137 := (ex17.ext x)
   have ex138 := (((ex20.ext x).ext x32).ext x37)
   have ex139 := ((ex20.ext x).ext x32)
   have ex140 := (ex20.ext x)
   have ex141 := ((ex132.ext x87).ext x97)
   have ex142 := ((ex133.ext x87).ext x97)
   have ex143 := ((ex134.ext x87).ext x97)
   have ex149 := (((ex141.ext x100).ext x107).but y111 (Dj.of_fresh ex141 f102).symm)
   have ex150 := (((ex119.ext x100).ext x107).but y111 (Dj.of_fresh ex119 f102).symm)
   have ex151 := (((ex123.ext x100).ext x107).but y111 (Dj.of_fresh ex123 f102).symm)
   have ex152 := (((ex124.ext x100).ext x107).but y111 (Dj.of_fresh ex124 f102).symm)
   have ex153 := (((ex125.ext x100).ext x107).but y111 (Dj.of_fresh ex125 f102).symm)
   have ex154 := (((ex126.ext x100).ext x107).but y111 (Dj.of_fresh ex126 f102).symm)
   have ex155 := (((ex142.ext x100).ext x107).but y111 (Dj.of_fresh ex142 f102).symm)
   have ex156 := (((ex143.ext x100).ext x107).but y111 (Dj.of_fresh ex143 f102).symm)
   refine LP_call 1 rfl rfl rfl cal_122 rfl (impl_search_from_impl_solutions_1_impl_FirstSurvey_1_w _ _ _ _ _ _ _ H wx109 o.readf ex149 o75 ex150 o88 ex151 ex152 r16 ex153 cn ex154 ex155 ex156 ex110 (Dj.of_fresh ex113 f90) (Dj.of_fresh ex114 f77).symm (Dj.of_fresh ex116 f77).symm (Dj.of_fresh ex118 f77).symm (Dj.box (Dj.of_fresh ex119 f102).symm).symm (Dj.of_fresh ex120 f90).symm (Dj.of_fresh ex121 f90).symm (Dj.of_fresh ex122 f90).symm (Dj.box (Dj.of_fresh ex123 f102).symm).symm (Dj.box (Dj.of_fresh ex115 f57).symm) (Dj.box (Dj.of_fresh ex117 f57).symm) (Dj.box (Dj.of_fresh ex124 f102).symm).symm d (Dj.box (Dj.of_fresh ex125 f102).symm).symm (Dj.box (Dj.of_fresh ex126 f102).symm).symm (Dj.of_fresh ex127 f77).symm (Dj.of_fresh ex129 f77).symm (Dj.of_fresh ex131 f77).symm (Dj.of_fresh ex132 f90).symm (Dj.of_fresh ex133 f90).symm (Dj.of_fresh ex134 f90).symm (Dj.box (Dj.of_fresh ex49 f57).symm) (Dj.box (Dj.of_fresh ex128 f57).symm) (Dj.box (Dj.of_fresh ex130 f57).symm) (Dj.of_fresh ex135 f50) (Dj.of_fresh ex136 f39) (Dj.of_fresh ex137 f34) (Dj.of_fresh ex138 f50) (Dj.of_fresh ex139 f39) (Dj.of_fresh ex140 f34) (Dj.box (Dj.of_fresh ex141 f102).symm) (Dj.box (Dj.of_fresh ex142 f102).symm) (Dj.box (Dj.of_fresh ex143 f102).symm)) ?_
   rintro _ wx157 ⟨r144, r145, r146, r147, r148, vx162, hx159, vx167, hx163, vx173, hx169, H, rfl, x158, HF⟩
   revert HF
   refine bb9 fun o160 ex161 dm o164 ex165 dm166 ex168 o170 => ?_
   refine bb9 fun ex171 dm172 ex174 ex175 d176 d177 d178 d179 => ?_
   refine bb9 fun d180 d181 d182 d183 d184 d185 d186 d187 cn188 => ?_
   obtain ⟨a189, c190, rfl⟩ := o160.shape
   obtain ⟨a191, c192, rfl⟩ := o164.shape
   obtain ⟨a193, c194, rfl⟩ := o170.shape
   refine LP_end _ rfl ?_
   refine W_seq ?_
   refine W_region ?_
   refine LP_ldbox 0 (v := I r147) rfl rfl rfl ti_3 ag_3 (fun _ => rfl) rfl ex168 rfl rfl ?_
   refine LP_ev ok 1 [(12, I r147)] 2 rfl rfl ?_
   refine LP_end _ rfl ?_
   refine W_ret ?_
   have X197 := ((((X.stepx x).stepx x32).stepx x37).stepx x46)
   have f196 := f57.mono X197.size
   have X198 := ((((((((X.stepx x).stepx x32).stepx x37).stepx x46).stepx x55).step y (f196.dom _)).stepx x61).stepx x70)
   have f195 := f77.mono X198.size
   have X200 := ((X198.stepx x74).stepx x81)
   have f199 := f90.mono X200.size
   have X202 := ((X200.stepx x87).stepx x97)
   have f201 := f102.mono X202.size
   have X203 := (((X202.stepx x100).stepx x107).step y111 (f201.dom _))
   have X204 := (X203.step x158 (DomLe.un (f195.dom _) (DomLe.un (f199.dom _) (DomLe.un ((Fresh.box f196).dom _) (DomLe.un (Dom.le D _) (DomLe.un (Dom.le D27 _) ((Fresh.box f201).dom _)))))))
   subst hM
   exact ⟨_, Ret_of [I r147] ⟨⟨rfl, rfl⟩, trivial⟩, _, _, _, _, H, rfl, X204, o170, ex171, (DomLe.trans (DomLe.un (f195.dom _) (DomLe.un (f199.dom _) (DomLe.un ((Fresh.box f196).dom _) (DomLe.un (Dom.le D _) (DomLe.un (Dom.le D27 _) ((Fresh.box f201).dom _)))))) dm172 X203.size), ex174, d186, cn188⟩
  ·have H := H
   refine GT_lp [] rfl (by kernel_rfl) rfl (fun _ h => h) rfl fun ρ wx80 x81 => ?_
   refine LP_alloc 0 rfl rfl rfl ti_153 rfl fun b82 wx83 x84 ex85 f86 => ?_
   have ex87 := ((((ex66.ext x70).ext x74).ext x81).ext x84)
   have ex88 := ((((ex68.ext x70).ext x74).ext x81).ext x84)
   have ex89 := ((((ex63.ext x70).ext x74).ext x81).ext x84)
   refine LP_gs ⟨⟨.inr ex87, .inr ex88, .inr ex89, trivial⟩, ?_⟩
   refine GT_hd [7] (by kernel_rfl) ⟨GT_lp [(26, I (ln r41))] rfl (by kernel_rfl) rfl (fun _ h => h) rfl fun ρ wx90 x91 => ?_, trivial⟩
   obtain ⟨hn92, hb93, H⟩ := H
   refine LP_make (α := Int) 0 rfl rfl rfl Tryz.underlying22 ti_3 (x0 := (0 : Int)) rfl rfl hn92 (by first | omega | (simp only [ln] at *; omega)) (by first | omega | (simp only [ln] at *; omega)) fun hx94 vx95 wx96 x97 o98 ex99 f100 => ?_
   obtain ⟨a101, c102, rfl⟩ := o98.shape
   have ex103 := ((ex87.ext x91).ext x97)
   have ex104 := ((ex88.ext x91).ext x97)
   have ex105 := ((ex89.ext x91).ext x97)
   refine LP_gs ⟨⟨.inr ex103, .inr ex104, .inr ex105, trivial⟩, ?_⟩
   refine GT_ev 9 ok [(20, sl a51 r41 c52), (24, .slice a78 (List.length (List.replicate (Int.toNat r64) ((0 : Int)))) c79), (27, .slice a101 (List.length (List.replicate (Int.toNat (ln r41)) ((0 : Int)))) c102), (28, .func (.func 121) #[] #[pb b53, pb b35, pb b30])] (.agg #[sl a51 r41 c52, .slice a78 (List.length (List.replicate (Int.toNat r64) ((0 : Int)))) c79, .slice a101 (List.length (List.replicate (Int.toNat (ln r41)) ((0 : Int)))) c102, .func (.func 121) #[] #[pb b53, pb b35, pb b30]]) rfl (by kernel_rfl) rfl (fun _ h => h) (fun _ => rfl) ?_
   refine GT_end (by kernel_rfl) ?_
   intro wx106 x107 ρ hn108
   refine AP_forget [(3, I n), (14, pb b53), (15, pb b82), (29, .agg #[sl a51 r41 c52, .slice a78 (List.length (List.replicate (Int.toNat r64) ((0 : Int)))) c79, .slice a101 (List.length (List.replicate (Int.toNat (ln r41)) ((0 : Int)))) c102, .func (.func 121) #[] #[pb b53, pb b35, pb b30]])] (by exact hn108) fun ρ => ?_
   refine AP_tail 11 [[], [], [], [1, 2], [1, 2, 3], [], [5], [5, 6], [], [0, 1, 2, 3, 4, 5, 6, 7, 8], [], [0, 1, 2, 3, 4, 5, 6, 7, 8, 9, 10]] (by kernel_rfl) ?_
   have ex112 := (((ex85.ext x91).ext x97).ext x107)
   refine LP_stbox 11 (vs := [sl a51 r41 c52, .slice a78 (List.length (List.replicate (Int.toNat r64) ((0 : Int)))) c79, .slice a101 (List.length (List.replicate (Int.toNat (ln r41)) ((0 : Int)))) c102, .func (.func 121) #[] #[pb b53, pb b35, pb b30]]) (cs' := [sl a51 r41 c52, .slice a78 (List.length (List.replicate (Int.toNat r64) ((0 : Int)))) c79, .slice a101 (List.length (List.replicate (Int.toNat (ln r41)) ((0 : Int)))) c102, .func (.func 121) #[] #[pb b53, pb b35, pb b30]]) rfl rfl rfl ti_153 rfl rfl rfl rfl rfl ex112 rfl rfl fun wx109 ex110 y111 => ?_
   refine LP_end _ rfl ?_
   refine W_seq ?_
   refine W_region ?_
   refine LP_ev ok 0 [(30, I n)] 1 rfl rfl ?_
   have ex113 := (((ex76.ext x81).ext x84).ext x91)
   have ex114 := ((ex59.ext x61).ext x70)
   have ex115 := ((((ex17.ext x).ext x32).ext x37).ext x46)
   have ex116 := ((((((((ex17.ext x).ext x32).ext x37).ext x46).ext x55).but y (Dj.of_fresh ex115 f57).symm).ext x61).ext x70)
   have ex117 := ((((ex20.ext x).ext x32).ext x37).ext x46)
   have ex118 := ((((((((ex20.ext x).ext x32).ext x37).ext x46).ext x55).but y (Dj.of_fresh ex117 f57).symm).ext x61).ext x70)
   have ex119 := (ex76.ext x81)
   have ex120 := ((((ex114.ext x74).ext x81).ext x84).ext x91)
   have ex121 := ((((ex116.ext x74).ext x81).ext x84).ext x91)
   have ex122 := ((((ex118.ext x74).ext x81).ext x84).ext x91)
   have ex123 := (ex85.ext x91)
   have ex124 := ((ex114.ext x74).ext x81)
   have ex125 := ((ex116.ext x74).ext x81)
   have ex126 := ((ex118.ext x74).ext x81)
   have ex127 := ((((ex49.ext x55).but y (Dj.of_fresh ex49 f57).symm).ext x61).ext x70)
   have ex128 := (ex38.ext x46)
   have ex129 := (((((ex38.ext x46).ext x55).but y (Dj.of_fresh ex128 f57).symm).ext x61).ext x70)
   have ex130 := ((ex33.ext x37).ext x46)
   have ex131 := ((((((ex33.ext x37).ext x46).ext x55).but y (Dj.of_fresh ex130 f57).symm).ext x61).ext x70)
   have ex132 := ((((ex127.ext x74).ext x81).ext x84).ext x91)
   have ex133 := ((((ex129.ext x74).ext x81).ext x84).ext x91)
   have ex134 := ((((ex131.ext x74).ext x81).ext x84).ext x91)
   have ex135 := (((ex17.ext x).ext x32).ext x37)
   have ex136 := ((ex17.ext x).ext x32)
   have ex137 := (ex17.ext x)
   have ex138 := (((ex20.ext x).ext x32).ext x37)
   have ex139 := ((ex20.ext x).ext x32)
   have ex140 := (ex20.ext x)
   have ex141 := ((ex127.ext x74).ext x81)
   have ex142 := ((ex129.ext x74).ext x81)
   have ex143 := ((ex131.ext x74).ext x81)
   have ex149 := (((ex132.ext x97).ext x107).but y111 (Dj.of_fresh ex141 f86).symm)
   have ex150 := (((ex113.ext x97).ext x107).but y111 (Dj.of_fresh ex119 f86).symm)
   have ex151 := ((ex99.ext x107).but y111 (Dj.of_fresh ex123 f100))
   have ex152 := (((ex120.ext x97).ext x107).but y111 (Dj.of_fresh ex124 f86).symm)
   have ex153 := (((ex121.ext x97).ext x107).but y111 (Dj.of_fresh ex125 f86).symm)
   have ex154 := (((ex122.ext x97).ext x107).but y111 (Dj.of_fresh ex126 f86).symm)
   have ex155 := (((ex133.ext x97).ext x107).but y111 (Dj.of_fresh ex142 f86).symm)
   have ex156 := (((ex134.ext x97).ext x107).but y111 (Dj.of_fresh ex143 f86).symm)
   refine LP_call 1 rfl rfl rfl cal_122 rfl (impl_search_from_impl_solutions_1_impl_FirstSurvey_1_w _ _ _ _ _ _ _ H wx109 o.readf ex149 o75 ex150 o98 ex151 ex152 r16 ex153 cn ex154 ex155 ex156 ex110 (Dj.of_fresh ex113 f100) (Dj.of_fresh ex114 f77).symm (Dj.of_fresh ex116 f77).symm (Dj.of_fresh ex118 f77).symm (Dj.box (Dj.of_fresh ex119 f86).symm).symm (Dj.of_fresh ex120 f100).symm (Dj.of_fresh ex121 f100).symm (Dj.of_fresh ex122 f100).symm (Dj.box (Dj.of_fresh ex123 f100).symm.symm).symm (Dj.box (Dj.of_fresh ex115 f57).symm) (Dj.box (Dj.of_fresh ex117 f57).symm) (Dj.box (Dj.of_fresh ex124 f86).symm).symm d (Dj.box (Dj.of_fresh ex125 f86).symm).symm (Dj.box (Dj.of_fresh ex126 f86).symm).symm (Dj.of_fresh ex127 f77).symm (Dj.of_fresh ex129 f77).symm (Dj.of_fresh ex131 f77).symm (Dj.of_fresh ex132 f100).symm (Dj.of_fresh ex133 f100).symm (Dj.of_fresh ex134 f100).symm (Dj.box (Dj.of_fresh ex49 f57).symm) (Dj.box (Dj.of_fresh ex128 f57).symm) (Dj.box (Dj.of_fresh ex130 f57).symm) (Dj.of_fresh ex135 f50) (Dj.of_fresh ex136 f39) (Dj.of_fresh ex137 f34) (Dj.of_fresh ex138 f50) (Dj.of_fresh ex139 f39) (Dj.of_fresh ex140 f34) (Dj.box (Dj.of_fresh ex141 f86).symm) (Dj.box (Dj.of_fresh ex142 f86).symm) (Dj.box (Dj.of_fresh ex143 f86).symm)) ?_
   rintro _ wx157 ⟨r144, r145, r146, r147, r148, vx162, hx159, vx167, hx163, vx173, hx169, H, rfl, x158, HF⟩
   revert HF
   refine bb9 fun o160 ex161 dm o164 ex165 dm166 ex168 o170 => ?_
   refine bb9 fun ex171 dm172 ex174 ex175 d176 d177 d178 d179 => ?_
   refine bb9 fun d180 d181 d182 d183 d184 d185 d186 d187 cn188 => ?_
   obtain ⟨a189, c190, rfl⟩ := o160.shape
   obtain ⟨a191, c192, rfl⟩ := o164.shape
   obtain ⟨a193, c194, rfl⟩ := o170.shape
   refine LP_end _ rfl ?_
   refine W_seq ?_
   refine W_region ?_
   refine LP_ldbox 0 (v := I r147) rfl rfl rfl ti_3 ag_3 (fun _ => rfl) rfl ex168 rfl rfl ?_
   refine LP_ev ok 1 [(12, I r147)] 2 rfl rfl ?_
   refine LP_end _ rfl ?_
   refine W_ret ?_
   have X197 := ((((X.stepx x).stepx x32).stepx x37).stepx x46)
   have f196 := f57.mono X197.size
   have X198 := ((((((((X.stepx x).stepx x32).stepx x37).stepx x46).stepx x55).step y (f196.dom _)).stepx x61).stepx x70)
   have f195 := f77.mono X198.size
   have X200 := ((((X198.stepx x74).stepx x81).stepx x84).stepx x91)
   have f199 := f100.mono X200.size
   have X202 := ((X198.stepx x74).stepx x81)
   have f201 := f86.mono X202.size
   have X203 := (((X200.stepx x97).stepx x107).step y111 (f201.dom _))
   have X204 := (X203.step x158 (DomLe.un (f195.dom _) (DomLe.un (f199.dom _) (DomLe.un ((Fresh.box f196).dom _) (DomLe.un (Dom.le D _) (DomLe.un (Dom.le D27 _) ((Fresh.box f201).dom _)))))))
   subst hM
   exact ⟨_, Ret_of [I r147] ⟨⟨rfl, rfl⟩, trivial⟩, _, _, _, _, H, rfl, X204, o170, ex171, (DomLe.trans (DomLe.un (f195.dom _) (DomLe.un (f199.dom _) (DomLe.un ((Fresh.box f196).dom _) (DomLe.un (Dom.le D _) (DomLe.un (Dom.le D27 _) ((Fresh.box f201).dom _)))))) dm172 X203.size), ex174, d186, cn188⟩
 ·have H := H.2.1
  refine GT_lp [(26, I (ln r41))] rfl (by kernel_rfl) rfl (fun _ h => h) rfl fun ρ wx205 x206 => ?_
  obtain ⟨hn207, hb208, H⟩ := H
  refine LP_make (α := Int) 0 rfl rfl rfl Tryz.underlying22 ti_3 (x0 := (0 : Int)) rfl rfl hn207 (by first | omega | (simp only [ln] at *; omega)) (by first | omega | (simp only [ln] at *; omega)) fun hx209 vx210 wx211 x212 o213 ex214 f215 => ?_
  obtain ⟨a216, c217, rfl⟩ := o213.shape
  have ex218 := ((ex66.ext x206).ext x212)
  have ex219 := ((ex68.ext x206).ext x212)
  have ex220 := ((ex63.ext x206).ext x212)
  refine LP_gs ⟨⟨.inr ex218, .inr ex219, .inr ex220, trivial⟩, ?_⟩
  refine GT_hd [4, 10] (by kernel_rfl) ⟨?_, ?_, trivial⟩
  ·have H := H
   refine GT_lp [(23, I r64)] rfl (by kernel_rfl) rfl (fun _ h => h) rfl fun ρ wx221 x222 => ?_
   obtain ⟨hn223, hb224, H⟩ := H
   refine LP_make (α := Int) 0 rfl rfl rfl Tryz.underlying22 ti_3 (x0 := (0 : Int)) rfl rfl hn223 (by first | omega | (simp only [ln] at *; omega)) (by first | omega | (simp only [ln] at *; omega)) fun hx225 vx226 wx227 x228 o229 ex230 f231 => ?_
   obtain ⟨a232, c233, rfl⟩ := o229.shape
   refine LP_gs ⟨⟨.inl rfl, .inl rfl, .inl rfl, trivial⟩, ?_⟩
   refine GT_ev 9 ok [(20, sl a51 r41 c52), (24, .slice a232 (List.length (List.replicate (Int.toNat r64) ((0 : Int)))) c233), (27, .slice a216 (List.length (List.replicate (Int.toNat (ln r41)) ((0 : Int)))) c217), (28, .func (.func 121) #[] #[pb b53, pb b35, pb b30])] (.agg #[sl a51 r41 c52, .slice a232 (List.length (List.replicate (Int.toNat r64) ((0 : Int)))) c233, .slice a216 (List.length (List.replicate (Int.toNat (ln r41)) ((0 : Int)))) c217, .func (.func 121) #[] #[pb b53, pb b35, pb b30]]) rfl (by kernel_rfl) rfl (fun _ h => h) (fun _ => rfl) ?_
   refine GT_hd [10] (by kernel_rfl) ⟨GT_lp [] rfl (by kernel_rfl) rfl (fun _ h => h) rfl fun ρ wx234 x235 => ?_, trivial⟩
   refine LP_alloc 0 rfl rfl rfl ti_153 rfl fun b236 wx237 x238 ex239 f240 => ?_
   have ex241 := ((((ex218.ext x222).ext x228).ext x235).ext x238)
   have ex242 := ((((ex219.ext x222).ext x228).ext x235).ext x238)
   have ex243 := ((((ex220.ext x222).ext x228).ext x235).ext x238)
   refine LP_gs ⟨⟨.inr ex241, .inr ex242, .inr ex243, trivial⟩, ?_⟩
   refine GT_end (by kernel_rfl) ?_
   intro wx244 x245 ρ hn246
   refine AP_forget [(3, I n), (14, pb b53), (15, pb b236), (29, .agg #[sl a51 r41 c52, .slice a232 (List.length (List.replicate (Int.toNat r64) ((0 : Int)))) c233, .slice a216 (List.length (List.replicate (Int.toNat (ln r41)) ((0 : Int)))) c217, .func (.func 121) #[] #[pb b53, pb b35, pb b30]])] (by exact hn246) fun ρ => ?_
   refine AP_tail 11 [[], [], [], [1, 2], [1, 2, 3], [], [5], [5, 6], [], [0, 1, 2, 3, 4, 5, 6, 7, 8], [], [0, 1, 2, 3, 4, 5, 6, 7, 8, 9, 10]] (by kernel_rfl) ?_
   have ex250 := (ex239.ext x245)
   refine LP_stbox 11 (vs := [sl a51 r41 c52, .slice a232 (List.length (List.replicate (Int.toNat r64) ((0 : Int)))) c233, .slice a216 (List.length (List.replicate (Int.toNat (ln r41)) ((0 : Int)))) c217, .func (.func 121) #[] #[pb b53, pb b35, pb b30]]) (cs' := [sl a51 r41 c52, .slice a232 (List.length (List.replicate (Int.toNat r64) ((0 : Int)))) c233, .slice a216 (List.length (List.replicate (Int.toNat (ln r41)) ((0 : Int)))) c217, .func (.func 121) #[] #[pb b53, pb b35, pb b30]]) rfl rfl rfl ti_153 rfl rfl rfl rfl rfl ex250 rfl rfl fun wx247 ex248 y249 => ?_
   refine LP_end _ rfl ?_
   refine W_seq ?_
   refine W_region ?_
   refine LP_ev ok 0 [(30, I n)] 1 rfl rfl ?_
   have ex251 := (ex214.ext x222)
   have ex252 := ((((ex59.ext x61).ext x206).ext x212).ext x222)
   have ex253 := ((((ex17.ext x).ext x32).ext x37).ext x46)
   have ex254 := ((((((((((ex17.ext x).ext x32).ext x37).ext x46).ext x55).but y (Dj.of_fresh ex253 f57).symm).ext x61).ext x206).ext x212).ext x222)
   have ex255 := ((((ex20.ext x).ext x32).ext x37).ext x46)
   have ex256 := ((((((((((ex20.ext x).ext x32).ext x37).ext x46).ext x55).but y (Dj.of_fresh ex255 f57).symm).ext x61).ext x206).ext x212).ext x222)
   have ex257 := (ex230.ext x235)
   have ex258 := ((ex59.ext x61).ext x206)
   have ex259 := ((((ex253.ext x55).but y (Dj.of_fresh ex253 f57).symm).ext x61).ext x206)
   have ex260 := ((((ex255.ext x55).but y (Dj.of_fresh ex255 f57).symm).ext x61).ext x206)
   have ex261 := ((ex251.ext x228).ext x235)
   have ex262 := ((ex252.ext x228).ext x235)
   have ex263 := ((ex254.ext x228).ext x235)
   have ex264 := ((ex256.ext x228).ext x235)
   have ex265 := ((((((ex49.ext x55).but y (Dj.of_fresh ex49 f57).symm).ext x61).ext x206).ext x212).ext x222)
   have ex266 := (ex38.ext x46)
   have ex267 := (((((((ex38.ext x46).ext x55).but y (Dj.of_fresh ex266 f57).symm).ext x61).ext x206).ext x212).ext x222)
   have ex268 := ((ex33.ext x37).ext x46)
   have ex269 := ((((((((ex33.ext x37).ext x46).ext x55).but y (Dj.of_fresh ex268 f57).symm).ext x61).ext x206).ext x212).ext x222)
   have ex270 := ((((ex49.ext x55).but y (Dj.of_fresh ex49 f57).symm).ext x61).ext x206)
   have ex271 := ((((ex266.ext x55).but y (Dj.of_fresh ex266 f57).symm).ext x61).ext x206)
   have ex272 := ((((ex268.ext x55).but y (Dj.of_fresh ex268 f57).symm).ext x61).ext x206)
   have ex273 := (((ex17.ext x).ext x32).ext x37)
   have ex274 := ((ex17.ext x).ext x32)
   have ex275 := (ex17.ext x)
   have ex276 := (((ex20.ext x).ext x32).ext x37)
   have ex277 := ((ex20.ext x).ext x32)
   have ex278 := (ex20.ext x)
   have ex279 := ((ex265.ext x228).ext x235)
   have ex280 := ((ex267.ext x228).ext x235)
   have ex281 := ((ex269.ext x228).ext x235)
   have ex287 := (((ex279.ext x238).ext x245).but y249 (Dj.of_fresh ex279 f240).symm)
   have ex288 := (((ex257.ext x238).ext x245).but y249 (Dj.of_fresh ex257 f240).symm)
   have ex289 := (((ex261.ext x238).ext x245).but y249 (Dj.of_fresh ex261 f240).symm)
   have ex290 := (((ex262.ext x238).ext x245).but y249 (Dj.of_fresh ex262 f240).symm)
   have ex291 := (((ex263.ext x238).ext x245).but y249 (Dj.of_fresh ex263 f240).symm)
   have ex292 := (((ex264.ext x238).ext x245).but y249 (Dj.of_fresh ex264 f240).symm)
   have ex293 := (((ex280.ext x238).ext x245).but y249 (Dj.of_fresh ex280 f240).symm)
   have ex294 := (((ex281.ext x238).ext x245).but y249 (Dj.of_fresh ex281 f240).symm)
   refine LP_call 1 rfl rfl rfl cal_122 rfl (impl_search_from_impl_solutions_1_impl_FirstSurvey_1_w _ _ _ _ _ _ _ H wx247 o.readf ex287 o229 ex288 o213 ex289 ex290 r16 ex291 cn ex292 ex293 ex294 ex248 (Dj.of_fresh ex251 f231).symm (Dj.of_fresh ex252 f231).symm (Dj.of_fresh ex254 f231).symm (Dj.of_fresh ex256 f231).symm (Dj.box (Dj.of_fresh ex257 f240).symm).symm (Dj.of_fresh ex258 f215).symm (Dj.of_fresh ex259 f215).symm (Dj.of_fresh ex260 f215).symm (Dj.box (Dj.of_fresh ex261 f240).symm).symm (Dj.box (Dj.of_fresh ex253 f57).symm) (Dj.box (Dj.of_fresh ex255 f57).symm) (Dj.box (Dj.of_fresh ex262 f240).symm).symm d (Dj.box (Dj.of_fresh ex263 f240).symm).symm (Dj.box (Dj.of_fresh ex264 f240).symm).symm (Dj.of_fresh ex265 f231).symm (Dj.of_fresh ex267 f231).symm (Dj.of_fresh ex269 f231).symm (Dj.of_fresh ex270 f215).symm (Dj.of_fresh ex271 f215).symm (Dj.of_fresh ex272 f215).symm (Dj.box (Dj.of_fresh ex49 f57).symm) (Dj.box (Dj.of_fresh ex266 f57).symm) (Dj.box (Dj.of_fresh ex268 f57).symm) (Dj.of_fresh ex273 f50) (Dj.of_fresh ex274 f39) (Dj.of_fresh ex275 f34) (Dj.of_fresh ex276 f50) (Dj.of_fresh ex277 f39) (Dj.of_fresh ex278 f34) (Dj.box (Dj.of_fresh ex279 f240).symm) (Dj.box (Dj.of_fresh ex280 f240).symm) (Dj.box (Dj.of_fresh ex281 f240).symm)) ?_
   rintro _ wx295 ⟨r282, r283, r284, r285, r286, vx301, hx297, vx306, hx302, vx312, hx308, H, rfl, x296, HF⟩
   revert HF
   refine bb9 fun o298 ex299 dm300 o303 ex304 dm305 ex307 o309 => ?_
   refine bb9 fun ex310 dm311 ex313 ex314 d315 d316 d317 d318 => ?_
   refine bb9 fun d319 d320 d321 d322 d323 d324 d325 d326 cn327 => ?_
   obtain ⟨a328, c329, rfl⟩ := o298.shape
   obtain ⟨a330, c331, rfl⟩ := o303.shape
   obtain ⟨a332, c333, rfl⟩ := o309.shape
   refine LP_end _ rfl ?_
   refine W_seq ?_
   refine W_region ?_
   refine LP_ldbox 0 (v := I r285) rfl rfl rfl ti_3 ag_3 (fun _ => rfl) rfl ex307 rfl rfl ?_
   refine LP_ev ok 1 [(12, I r285)] 2 rfl rfl ?_
   refine LP_end _ rfl ?_
   refine W_ret ?_
   have X336 := ((((X.stepx x).stepx x32).stepx x37).stepx x46)
   have f335 := f57.mono X336.size
   have X337 := ((((((((((X.stepx x).stepx x32).stepx x37).stepx x46).stepx x55).step y (f335.dom _)).stepx x61).stepx x206).stepx x212).stepx x222)
   have f334 := f231.mono X337.size
   have X339 := ((((X336.stepx x55).step y (f335.dom _)).stepx x61).stepx x206)
   have f338 := f215.mono X339.size
   have X341 := ((X337.stepx x228).stepx x235)
   have f340 := f240.mono X341.size
   have X342 := (((X341.stepx x238).stepx x245).step y249 (f340.dom _))
   have X343 := (X342.step x296 (DomLe.un (f334.dom _) (DomLe.un (f338.dom _) (DomLe.un ((Fresh.box f335).dom _) (DomLe.un (Dom.le D _) (DomLe.un (Dom.le D27 _) ((Fresh.box f340).dom _)))))))
   subst hM
   exact ⟨_, Ret_of [I r285] ⟨⟨rfl, rfl⟩, trivial⟩, _, _, _, _, H, rfl, X343, o309, ex310, (DomLe.trans (DomLe.un (f334.dom _) (DomLe.un (f338.dom _) (DomLe.un ((Fresh.box f335).dom _) (DomLe.un (Dom.le D _) (DomLe.un (Dom.le D27 _) ((Fresh.box f340).dom _)))))) dm311 X342.size), ex313, d325, cn327⟩
  ·have H := H
   refine GT_lp [] rfl (by kernel_rfl) rfl (fun _ h => h) rfl fun ρ wx221 x222 => ?_
   refine LP_alloc 0 rfl rfl rfl ti_153 rfl fun b223 wx224 x225 ex226 f227 => ?_
   have ex228 := ((ex218.ext x222).ext x225)
   have ex229 := ((ex219.ext x222).ext x225)
   have ex230 := ((ex220.ext x222).ext x225)
   refine LP_gs ⟨⟨.inr ex228, .inr ex229, .inr ex230, trivial⟩, ?_⟩
   refine GT_hd [4] (by kernel_rfl) ⟨GT_lp [(23, I r64)] rfl (by kernel_rfl) rfl (fun _ h => h) rfl fun ρ wx231 x232 => ?_, trivial⟩
   obtain ⟨hn233, hb234, H⟩ := H
   refine LP_make (α := Int) 0 rfl rfl rfl Tryz.underlying22 ti_3 (x0 := (0 : Int)) rfl rfl hn233 (by first | omega | (simp only [ln] at *; omega)) (by first | omega | (simp only [ln] at *; omega)) fun hx235 vx236 wx237 x238 o239 ex240 f241 => ?_
   obtain ⟨a242, c243, rfl⟩ := o239.shape
   refine LP_gs ⟨⟨.inl rfl, .inl rfl, .inl rfl, trivial⟩, ?_⟩
   refine GT_ev 9 ok [(20, sl a51 r41 c52), (24, .slice a242 (List.length (List.replicate (Int.toNat r64) ((0 : Int)))) c243), (27, .slice a216 (List.length (List.replicate (Int.toNat (ln r41)) ((0 : Int)))) c217), (28, .func (.func 121) #[] #[pb b53, pb b35, pb b30])] (.agg #[sl a51 r41 c52, .slice a242 (List.length (List.replicate (Int.toNat r64) ((0 : Int)))) c243, .slice a216 (List.length (List.replicate (Int.toNat (ln r41)) ((0 : Int)))) c217, .func (.func 121) #[] #[pb b53, pb b35, pb b30]]) rfl (by kernel_rfl) rfl (fun _ h => h) (fun _ => rfl) ?_
   refine GT_end (by kernel_rfl) ?_
   intro wx244 x245 ρ hn246
   refine AP_forget [(3, I n), (14, pb b53), (15, pb b223), (29, .agg #[sl a51 r41 c52, .slice a242 (List.length (List.replicate (Int.toNat r64) ((0 : Int)))) c243, .slice a216 (List.length (List.replicate (Int.toNat (ln r41)) ((0 : Int)))) c217, .func (.func 121) #[] #[pb b53, pb b35, pb b30]])] (by exact hn246) fun ρ => ?_
   refine AP_tail 11 [[], [], [], [1, 2], [1, 2, 3], [], [5], [5, 6], [], [0, 1, 2, 3, 4, 5, 6, 7, 8], [], [0, 1, 2, 3, 4, 5, 6, 7, 8, 9, 10]] (by kernel_rfl) ?_
   have ex250 := (((ex226.ext x232).ext x238).ext x245)
   refine LP_stbox 11 (vs := [sl a51 r41 c52, .slice a242 (List.length (List.replicate (Int.toNat r64) ((0 : Int)))) c243, .slice a216 (List.length (List.replicate (Int.toNat (ln r41)) ((0 : Int)))) c217, .func (.func 121) #[] #[pb b53, pb b35, pb b30]]) (cs' := [sl a51 r41 c52, .slice a242 (List.length (List.replicate (Int.toNat r64) ((0 : Int)))) c243, .slice a216 (List.length (List.replicate (Int.toNat (ln r41)) ((0 : Int)))) c217, .func (.func 121) #[] #[pb b53, pb b35, pb b30]]) rfl rfl rfl ti_153 rfl rfl rfl rfl rfl ex250 rfl rfl fun wx247 ex248 y249 => ?_
   refine LP_end _ rfl ?_
   refine W_seq ?_
   refine W_region ?_
   refine LP_ev ok 0 [(30, I n)] 1 rfl rfl ?_
   have ex251 := (((ex214.ext x222).ext x225).ext x232)
   have ex252 := ((((((ex59.ext x61).ext x206).ext x212).ext x222).ext x225).ext x232)
   have ex253 := ((((ex17.ext x).ext x32).ext x37).ext x46)
   have ex254 := ((((((((((((ex17.ext x).ext x32).ext x37).ext x46).ext x55).but y (Dj.of_fresh ex253 f57).symm).ext x61).ext x206).ext x212).ext x222).ext x225).ext x232)
   have ex255 := ((((ex20.ext x).ext x32).ext x37).ext x46)
   have ex256 := ((((((((((((ex20.ext x).ext x32).ext x37).ext x46).ext x55).but y (Dj.of_fresh ex255 f57).symm).ext x61).ext x206).ext x212).ext x222).ext x225).ext x232)
   have ex257 := (ex226.ext x232)
   have ex258 := ((ex59.ext x61).ext x206)
   have ex259 := ((((ex253.ext x55).but y (Dj.of_fresh ex253 f57).symm).ext x61).ext x206)
   have ex260 := ((((ex255.ext x55).but y (Dj.of_fresh ex255 f57).symm).ext x61).ext x206)
   have ex261 := (ex214.ext x222)
   have ex262 := ((ex258.ext x212).ext x222)
   have ex263 := ((ex259.ext x212).ext x222)
   have ex264 := ((ex260.ext x212).ext x222)
   have ex265 := ((((((((ex49.ext x55).but y (Dj.of_fresh ex49 f57).symm).ext x61).ext x206).ext x212).ext x222).ext x225).ext x232)
   have ex266 := (ex38.ext x46)
   have ex267 := (((((((((ex38.ext x46).ext x55).but y (Dj.of_fresh ex266 f57).symm).ext x61).ext x206).ext x212).ext x222).ext x225).ext x232)
   have ex268 := ((ex33.ext x37).ext x46)
   have ex269 := ((((((((((ex33.ext x37).ext x46).ext x55).but y (Dj.of_fresh ex268 f57).symm).ext x61).ext x206).ext x212).ext x222).ext x225).ext x232)
   have ex270 := ((((ex49.ext x55).but y (Dj.of_fresh ex49 f57).symm).ext x61).ext x206)
   have ex271 := ((((ex266.ext x55).but y (Dj.of_fresh ex266 f57).symm).ext x61).ext x206)
   have ex272 := ((((ex268.ext x55).but y (Dj.of_fresh ex268 f57).symm).ext x61).ext x206)
   have ex273 := (((ex17.ext x).ext x32).ext x37)
   have ex274 := ((ex17.ext x).ext x32)
   have ex275 := (ex17.ext x)
   have ex276 := (((ex20.ext x).ext x32).ext x37)
   have ex277 := ((ex20.ext x).ext x32)
   have ex278 := (ex20.ext x)
   have ex279 := ((ex270.ext x212).ext x222)
   have ex280 := ((ex271.ext x212).ext x222)
   have ex281 := ((ex272.ext x212).ext x222)
   have ex287 := (((ex265.ext x238).ext x245).but y249 (Dj.of_fresh ex279 f227).symm)
   have ex288 := ((ex240.ext x245).but y249 (Dj.of_fresh ex257 f241))
   have ex289 := (((ex251.ext x238).ext x245).but y249 (Dj.of_fresh ex261 f227).symm)
   have ex290 := (((ex252.ext x238).ext x245).but y249 (Dj.of_fresh ex262 f227).symm)
   have ex291 := (((ex254.ext x238).ext x245).but y249 (Dj.of_fresh ex263 f227).symm)
   have ex292 := (((ex256.ext x238).ext x245).but y249 (Dj.of_fresh ex264 f227).symm)
   have ex293 := (((ex267.ext x238).ext x245).but y249 (Dj.of_fresh ex280 f227).symm)
   have ex294 := (((ex269.ext x238).ext x245).but y249 (Dj.of_fresh ex281 f227).symm)
   refine LP_call 1 rfl rfl rfl cal_122 rfl (impl_search_from_impl_solutions_1_impl_FirstSurvey_1_w _ _ _ _ _ _ _ H wx247 o.readf ex287 o239 ex288 o213 ex289 ex290 r16 ex291 cn ex292 ex293 ex294 ex248 (Dj.of_fresh ex251 f241).symm (Dj.of_fresh ex252 f241).symm (Dj.of_fresh ex254 f241).symm (Dj.of_fresh ex256 f241).symm (Dj.box (Dj.of_fresh ex257 f241).symm.symm).symm (Dj.of_fresh ex258 f215).symm (Dj.of_fresh ex259 f215).symm (Dj.of_fresh ex260 f215).symm (Dj.box (Dj.of_fresh ex261 f227).symm).symm (Dj.box (Dj.of_fresh ex253 f57).symm) (Dj.box (Dj.of_fresh ex255 f57).symm) (Dj.box (Dj.of_fresh ex262 f227).symm).symm d (Dj.box (Dj.of_fresh ex263 f227).symm).symm (Dj.box (Dj.of_fresh ex264 f227).symm).symm (Dj.of_fresh ex265 f241).symm (Dj.of_fresh ex267 f241).symm (Dj.of_fresh ex269 f241).symm (Dj.of_fresh ex270 f215).symm (Dj.of_fresh ex271 f215).symm (Dj.of_fresh ex272 f215).symm (Dj.box (Dj.of_fresh ex49 f57).symm) (Dj.box (Dj.of_fresh ex266 f57).symm) (Dj.box (Dj.of_fresh ex268 f57).symm) (Dj.of_fresh ex273 f50) (Dj.of_fresh ex274 f39) (Dj.of_fresh ex275 f34) (Dj.of_fresh ex276 f50) (Dj.of_fresh ex277 f39) (Dj.of_fresh ex278 f34) (Dj.box (Dj.of_fresh ex279 f227).symm) (Dj.box (Dj.of_fresh ex280 f227).symm) (Dj.box (Dj.of_fresh ex281 f227).symm)) ?_
   rintro _ wx295 ⟨r282, r283, r284, r285, r286, vx301, hx297, vx306, hx302, vx312, hx308, H, rfl, x296, HF⟩
   revert HF
   refine bb9 fun o298 ex299 dm300 o303 ex304 dm305 ex307 o309 => ?_
   refine bb9 fun ex310 dm311 ex313 ex314 d315 d316 d317 d318 => ?_
   refine bb9 fun d319 d320 d321 d322 d323 d324 d325 d326 cn327 => ?_
   obtain ⟨a328, c329, rfl⟩ := o298.shape
   obtain ⟨a330, c331, rfl⟩ := o303.shape
   obtain ⟨a332, c333, rfl⟩ := o309.shape
   refine LP_end _ rfl ?_
   refine W_seq ?_
   refine W_region ?_
   refine LP_ldbox 0 (v := I r285) rfl rfl rfl ti_3 ag_3 (fun _ => rfl) rfl ex307 rfl rfl ?_
   refine LP_ev ok 1 [(12, I r285)] 2 rfl rfl ?_
   refine LP_end _ rfl ?_
   refine W_ret ?_
   have X336 := ((((X.stepx x).stepx x32).stepx x37).stepx x46)
   have f335 := f57.mono X336.size
   have X337 := ((((((((((((X.stepx x).stepx x32).stepx x37).stepx x46).stepx x55).step y (f335.dom _)).stepx x61).stepx x206).stepx x212).stepx x222).stepx x225).stepx x232)
   have f334 := f241.mono X337.size
   have X339 := ((((X336.stepx x55).step y (f335.dom _)).stepx x61).stepx x206)
   have f338 := f215.mono X339.size
   have X341 := ((X339.stepx x212).stepx x222)
   have f340 := f227.mono X341.size
   have X342 := (((X337.stepx x238).stepx x245).step y249 (f340.dom _))
   have X343 := (X342.step x296 (DomLe.un (f334.dom _) (DomLe.un (f338.dom _) (DomLe.un ((Fresh.box f335).dom _) (DomLe.un (Dom.le D _) (DomLe.un (Dom.le D27 _) ((Fresh.box f340).dom _)))))))
   subst hM
   exact ⟨_, Ret_of [I r285] ⟨⟨rfl, rfl⟩, trivial⟩, _, _, _, _, H, rfl, X343, o309, ex310, (DomLe.trans (DomLe.un (f334.dom _) (DomLe.un (f338.dom _) (DomLe.un ((Fresh.box f335).dom _) (DomLe.un (Dom.le D _) (DomLe.un (Dom.le D27 _) ((Fresh.box f340).dom _)))))) dm311 X342.size), ex313, d325, cn327⟩
 ·have H := H.2.2
  refine GT_lp [] rfl (by kernel_rfl) rfl (fun _ h => h) rfl fun ρ wx344 x345 => ?_
  refine LP_alloc 0 rfl rfl rfl ti_153 rfl fun b346 wx347 x348 ex349 f350 => ?_
  have ex351 := ((ex66.ext x345).ext x348)
  have ex352 := ((ex68.ext x345).ext x348)
  have ex353 := ((ex63.ext x345).ext x348)
  refine LP_gs ⟨⟨.inr ex351, .inr ex352, .inr ex353, trivial⟩, ?_⟩
  refine GT_hd [4, 7] (by kernel_rfl) ⟨?_, ?_, trivial⟩
  ·have H := H.1
   refine GT_lp [(23, I r64)] rfl (by kernel_rfl) rfl (fun _ h => h) rfl fun ρ wx354 x355 => ?_
   obtain ⟨hn356, hb357, H⟩ := H
   refine LP_make (α := Int) 0 rfl rfl rfl Tryz.underlying22 ti_3 (x0 := (0 : Int)) rfl rfl hn356 (by first | omega | (simp only [ln] at *; omega)) (by first | omega | (simp only [ln] at *; omega)) fun hx358 vx359 wx360 x361 o362 ex363 f364 => ?_
   obtain ⟨a365, c366, rfl⟩ := o362.shape
   refine LP_gs ⟨⟨.inl rfl, .inl rfl, .inl rfl, trivial⟩, ?_⟩
   refine GT_hd [7] (by kernel_rfl) ⟨GT_lp [(26, I (ln r41))] rfl (by kernel_rfl) rfl (fun _ h => h) rfl fun ρ wx367 x368 => ?_, trivial⟩
   obtain ⟨hn369, hb370, H⟩ := H
   refine LP_make (α := Int) 0 rfl rfl rfl Tryz.underlying22 ti_3 (x0 := (0 : Int)) rfl rfl hn369 (by first | omega | (simp only [ln] at *; omega)) (by first | omega | (simp only [ln] at *; omega)) fun hx371 vx372 wx373 x374 o375 ex376 f377 => ?_
   obtain ⟨a378, c379, rfl⟩ := o375.shape
   have ex380 := ((((ex351.ext x355).ext x361).ext x368).ext x374)
   have ex381 := ((((ex352.ext x355).ext x361).ext x368).ext x374)
   have ex382 := ((((ex353.ext x355).ext x361).ext x368).ext x374)
   refine LP_gs ⟨⟨.inr ex380, .inr ex381, .inr ex382, trivial⟩, ?_⟩
   refine GT_ev 9 ok [(20, sl a51 r41 c52), (24, .slice a365 (List.length (List.replicate (Int.toNat r64) ((0 : Int)))) c366), (27, .slice a378 (List.length (List.replicate (Int.toNat (ln r41)) ((0 : Int)))) c379), (28, .func (.func 121) #[] #[pb b53, pb b35, pb b30])] (.agg #[sl a51 r41 c52, .slice a365 (List.length (List.replicate (Int.toNat r64) ((0 : Int)))) c366, .slice a378 (List.length (List.replicate (Int.toNat (ln r41)) ((0 : Int)))) c379, .func (.func 121) #[] #[pb b53, pb b35, pb b30]]) rfl (by kernel_rfl) rfl (fun _ h => h) (fun _ => rfl) ?_
   refine GT_end (by kernel_rfl) ?_
   intro wx383 x384 ρ hn385
   refine AP_forget [(3, I n), (14, pb b53), (15, pb b346), (29, .agg #[sl a51 r41 c52, .slice a365 (List.length (List.replicate (Int.toNat r64) ((0 : Int)))) c366, .slice a378 (List.length (List.replicate (Int.toNat (ln r41)) ((0 : Int)))) c379, .func (.func 121) #[] #[pb b53, pb b35, pb b30]])] (by exact hn385) fun ρ => ?_
   refine AP_tail 11 [[], [], [], [1, 2], [1, 2, 3], [], [5], [5, 6], [], [0, 1, 2, 3, 4, 5, 6, 7, 8], [], [0, 1, 2, 3, 4, 5, 6, 7, 8, 9, 10]] (by kernel_rfl) ?_
   have ex389 := (((((ex349.ext x355).ext x361).ext x368).ext x374).ext x384)
   refine LP_stbox 11 (vs := [sl a51 r41 c52, .slice a365 (List.length (List.replicate (Int.toNat r64) ((0 : Int)))) c366, .slice a378 (List.length (List.replicate (Int.toNat (ln r41)) ((0 : Int)))) c379, .func (.func 121) #[] #[pb b53, pb b35, pb b30]]) (cs' := [sl a51 r41 c52, .slice a365 (List.length (List.replicate (Int.toNat r64) ((0 : Int)))) c366, .slice a378 (List.length (List.replicate (Int.toNat (ln r41)) ((0 : Int)))) c379, .func (.func 121) #[] #[pb b53, pb b35, pb b30]]) rfl rfl rfl ti_153 rfl rfl rfl rfl rfl ex389 rfl rfl fun wx386 ex387 y388 => ?_
   refine LP_end _ rfl ?_
   refine W_seq ?_
   refine W_region ?_
   refine LP_ev ok 0 [(30, I n)] 1 rfl rfl ?_
   have ex390 := (ex363.ext x368)
   have ex391 := ((((ex59.ext x61).ext x345).ext x348).ext x355)
   have ex392 := ((((ex17.ext x).ext x32).ext x37).ext x46)
   have ex393 := ((((((((((ex17.ext x).ext x32).ext x37).ext x46).ext x55).but y (Dj.of_fresh ex392 f57).symm).ext x61).ext x345).ext x348).ext x355)
   have ex394 := ((((ex20.ext x).ext x32).ext x37).ext x46)
   have ex395 := ((((((((((ex20.ext x).ext x32).ext x37).ext x46).ext x55).but y (Dj.of_fresh ex394 f57).symm).ext x61).ext x345).ext x348).ext x355)
   have ex396 := (ex349.ext x355)
   have ex397 := ((ex391.ext x361).ext x368)
   have ex398 := ((ex393.ext x361).ext x368)
   have ex399 := ((ex395.ext x361).ext x368)
   have ex400 := ((ex396.ext x361).ext x368)
   have ex401 := ((ex59.ext x61).ext x345)
   have ex402 := ((((ex392.ext x55).but y (Dj.of_fresh ex392 f57).symm).ext x61).ext x345)
   have ex403 := ((((ex394.ext x55).but y (Dj.of_fresh ex394 f57).symm).ext x61).ext x345)
   have ex404 := ((((((ex49.ext x55).but y (Dj.of_fresh ex49 f57).symm).ext x61).ext x345).ext x348).ext x355)
   have ex405 := (ex38.ext x46)
   have ex406 := (((((((ex38.ext x46).ext x55).but y (Dj.of_fresh ex405 f57).symm).ext x61).ext x345).ext x348).ext x355)
   have ex407 := ((ex33.ext x37).ext x46)
   have ex408 := ((((((((ex33.ext x37).ext x46).ext x55).but y (Dj.of_fresh ex407 f57).symm).ext x61).ext x345).ext x348).ext x355)
   have ex409 := ((ex404.ext x361).ext x368)
   have ex410 := ((ex406.ext x361).ext x368)
   have ex411 := ((ex408.ext x361).ext x368)
   have ex412 := (((ex17.ext x).ext x32).ext x37)
   have ex413 := ((ex17.ext x).ext x32)
   have ex414 := (ex17.ext x)
   have ex415 := (((ex20.ext x).ext x32).ext x37)
   have ex416 := ((ex20.ext x).ext x32)
   have ex417 := (ex20.ext x)
   have ex418 := ((((ex49.ext x55).but y (Dj.of_fresh ex49 f57).symm).ext x61).ext x345)
   have ex419 := ((((ex405.ext x55).but y (Dj.of_fresh ex405 f57).symm).ext x61).ext x345)
   have ex420 := ((((ex407.ext x55).but y (Dj.of_fresh ex407 f57).symm).ext x61).ext x345)
   have ex426 := (((ex409.ext x374).ext x384).but y388 (Dj.of_fresh ex418 f350).symm)
   have ex427 := (((ex390.ext x374).ext x384).but y388 (Dj.of_fresh ex396 f364))
   have ex428 := ((ex376.ext x384).but y388 (Dj.of_fresh ex400 f377))
   have ex429 := (((ex397.ext x374).ext x384).but y388 (Dj.of_fresh ex401 f350).symm)
   have ex430 := (((ex398.ext x374).ext x384).but y388 (Dj.of_fresh ex402 f350).symm)
   have ex431 := (((ex399.ext x374).ext x384).but y388 (Dj.of_fresh ex403 f350).symm)
   have ex432 := (((ex410.ext x374).ext x384).but y388 (Dj.of_fresh ex419 f350).symm)
   have ex433 := (((ex411.ext x374).ext x384).but y388 (Dj.of_fresh ex420 f350).symm)
   refine LP_call 1 rfl rfl rfl cal_122 rfl (impl_search_from_impl_solutions_1_impl_FirstSurvey_1_w _ _ _ _ _ _ _ H wx386 o.readf ex426 o362 ex427 o375 ex428 ex429 r16 ex430 cn ex431 ex432 ex433 ex387 (Dj.of_fresh ex390 f377) (Dj.of_fresh ex391 f364).symm (Dj.of_fresh ex393 f364).symm (Dj.of_fresh ex395 f364).symm (Dj.box (Dj.of_fresh ex396 f364).symm.symm).symm (Dj.of_fresh ex397 f377).symm (Dj.of_fresh ex398 f377).symm (Dj.of_fresh ex399 f377).symm (Dj.box (Dj.of_fresh ex400 f377).symm.symm).symm (Dj.box (Dj.of_fresh ex392 f57).symm) (Dj.box (Dj.of_fresh ex394 f57).symm) (Dj.box (Dj.of_fresh ex401 f350).symm).symm d (Dj.box (Dj.of_fresh ex402 f350).symm).symm (Dj.box (Dj.of_fresh ex403 f350).symm).symm (Dj.of_fresh ex404 f364).symm (Dj.of_fresh ex406 f364).symm (Dj.of_fresh ex408 f364).symm (Dj.of_fresh ex409 f377).symm (Dj.of_fresh ex410 f377).symm (Dj.of_fresh ex411 f377).symm (Dj.box (Dj.of_fresh ex49 f57).symm) (Dj.box (Dj.of_fresh ex405 f57).symm) (Dj.box (Dj.of_fresh ex407 f57).symm) (Dj.of_fresh ex412 f50) (Dj.of_fresh ex413 f39) (Dj.of_fresh ex414 f34) (Dj.of_fresh ex415 f50) (Dj.of_fresh ex416 f39) (Dj.of_fresh ex417 f34) (Dj.box (Dj.of_fresh ex418 f350).symm) (Dj.box (Dj.of_fresh ex419 f350).symm) (Dj.box (Dj.of_fresh ex420 f350).symm)) ?_
   rintro _ wx434 ⟨r421, r422, r423, r424, r425, vx440, hx436, vx445, hx441, vx451, hx447, H, rfl, x435, HF⟩
   revert HF
   refine bb9 fun o437 ex438 dm439 o442 ex443 dm444 ex446 o448 => ?_
   refine bb9 fun ex449 dm450 ex452 ex453 d454 d455 d456 d457 => ?_
   refine bb9 fun d458 d459 d460 d461 d462 d463 d464 d465 cn466 => ?_
   obtain ⟨a467, c468, rfl⟩ := o437.shape
   obtain ⟨a469, c470, rfl⟩ := o442.shape
   obtain ⟨a471, c472, rfl⟩ := o448.shape
   refine LP_end _ rfl ?_
   refine W_seq ?_
   refine W_region ?_
   refine LP_ldbox 0 (v := I r424) rfl rfl rfl ti_3 ag_3 (fun _ => rfl) rfl ex446 rfl rfl ?_
   refine LP_ev ok 1 [(12, I r424)] 2 rfl rfl ?_
   refine LP_end _ rfl ?_
   refine W_ret ?_
   have X475 := ((((X.stepx x).stepx x32).stepx x37).stepx x46)
   have f474 := f57.mono X475.size
   have X476 := ((((((((((X.stepx x).stepx x32).stepx x37).stepx x46).stepx x55).step y (f474.dom _)).stepx x61).stepx x345).stepx x348).stepx x355)
   have f473 := f364.mono X476.size
   have X478 := ((X476.stepx x361).stepx x368)
   have f477 := f377.mono X478.size
   have X480 := ((((X475.stepx x55).step y (f474.dom _)).stepx x61).stepx x345)
   have f479 := f350.mono X480.size
   have X481 := (((X478.stepx x374).stepx x384).step y388 (f479.dom _))
   have X482 := (X481.step x435 (DomLe.un (f473.dom _) (DomLe.un (f477.dom _) (DomLe.un ((Fresh.box f474).dom _) (DomLe.un (Dom.le D _) (DomLe.un (Dom.le D27 _) ((Fresh.box f479).dom _)))))))
   subst hM
   exact ⟨_, Ret_of [I r424] ⟨⟨rfl, rfl⟩, trivial⟩, _, _, _, _, H, rfl, X482, o448, ex449, (DomLe.trans (DomLe.un (f473.dom _) (DomLe.un (f477.dom _) (DomLe.un ((Fresh.box f474).dom _) (DomLe.un (Dom.le D _) (DomLe.un (Dom.le D27 _) ((Fresh.box f479).dom _)))))) dm450 X481.size), ex452, d464, cn466⟩
  ·have H := H.2
   refine GT_lp [(26, I (ln r41))] rfl (by kernel_rfl) rfl (fun _ h => h) rfl fun ρ wx483 x484 => ?_
   obtain ⟨hn485, hb486, H⟩ := H
   refine LP_make (α := Int) 0 rfl rfl rfl Tryz.underlying22 ti_3 (x0 := (0 : Int)) rfl rfl hn485 (by first | omega | (simp only [ln] at *; omega)) (by first | omega | (simp only [ln] at *; omega)) fun hx487 vx488 wx489 x490 o491 ex492 f493 => ?_
   obtain ⟨a494, c495, rfl⟩ := o491.shape
   have ex496 := ((ex351.ext x484).ext x490)
   have ex497 := ((ex352.ext x484).ext x490)
   have ex498 := ((ex353.ext x484).ext x490)
   refine LP_gs ⟨⟨.inr ex496, .inr ex497, .inr ex498, trivial⟩, ?_⟩
   refine GT_hd [4] (by kernel_rfl) ⟨GT_lp [(23, I r64)] rfl (by kernel_rfl) rfl (fun _ h => h) rfl fun ρ wx499 x500 => ?_, trivial⟩
   obtain ⟨hn501, hb502, H⟩ := H
   refine LP_make (α := Int) 0 rfl rfl rfl Tryz.underlying22 ti_3 (x0 := (0 : Int)) rfl rfl hn501 (by first | omega | (simp only [ln] at *; omega)) (by first | omega | (simp only [ln] at *; omega)) fun hx503 vx504 wx505 x506 o507 ex508 f509 => ?_
   obtain ⟨a510, c511, rfl⟩ := o507.shape
   refine LP_gs ⟨⟨.inl rfl, .inl rfl, .inl rfl, trivial⟩, ?_⟩
   refine GT_ev 9 ok [(20, sl a51 r41 c52), (24, .slice a510 (List.length (List.replicate (Int.toNat r64) ((0 : Int)))) c511), (27, .slice a494 (List.length (List.replicate (Int.toNat (ln r41)) ((0 : Int)))) c495), (28, .func (.func 121) #[] #[pb b53, pb b35, pb b30])] (.agg #[sl a51 r41 c52, .slice a510 (List.length (List.replicate (Int.toNat r64) ((0 : Int)))) c511, .slice a494 (List.length (List.replicate (Int.toNat (ln r41)) ((0 : Int)))) c495, .func (.func 121) #[] #[pb b53, pb b35, pb b30]]) rfl (by kernel_rfl) rfl (fun _ h => h) (fun _ => rfl) ?_
   refine GT_end (by kernel_rfl) ?_
   intro wx512 x513 ρ hn514
   refine AP_forget [(3, I n), (14, pb b53), (15, pb b346), (29, .agg #[sl a51 r41 c52, .slice a510 (List.length (List.replicate (Int.toNat r64) ((0 : Int)))) c511, .slice a494 (List.length (List.replicate (Int.toNat (ln r41)) ((0 : Int)))) c495, .func (.func 121) #[] #[pb b53, pb b35, pb b30]])] (by exact hn514) fun ρ => ?_
   refine AP_tail 11 [[], [], [], [1, 2], [1, 2, 3], [], [5], [5, 6], [], [0, 1, 2, 3, 4, 5, 6, 7, 8], [], [0, 1, 2, 3, 4, 5, 6, 7, 8, 9, 10]] (by kernel_rfl) ?_
   have ex518 := (((((ex349.ext x484).ext x490).ext x500).ext x506).ext x513)
   refine LP_stbox 11 (vs := [sl a51 r41 c52, .slice a510 (List.length (List.replicate (Int.toNat r64) ((0 : Int)))) c511, .slice a494 (List.length (List.replicate (Int.toNat (ln r41)) ((0 : Int)))) c495, .func (.func 121) #[] #[pb b53, pb b35, pb b30]]) (cs' := [sl a51 r41 c52, .slice a510 (List.length (List.replicate (Int.toNat r64) ((0 : Int)))) c511, .slice a494 (List.length (List.replicate (Int.toNat (ln r41)) ((0 : Int)))) c495, .func (.func 121) #[] #[pb b53, pb b35, pb b30]]) rfl rfl rfl ti_153 rfl rfl rfl rfl rfl ex518 rfl rfl fun wx515 ex516 y517 => ?_
   refine LP_end _ rfl ?_
   refine W_seq ?_
   refine W_region ?_
   refine LP_ev ok 0 [(30, I n)] 1 rfl rfl ?_
   have ex519 := (ex492.ext x500)
   have ex520 := ((((((ex59.ext x61).ext x345).ext x348).ext x484).ext x490).ext x500)
   have ex521 := ((((ex17.ext x).ext x32).ext x37).ext x46)
   have ex522 := ((((((((((((ex17.ext x).ext x32).ext x37).ext x46).ext x55).but y (Dj.of_fresh ex521 f57).symm).ext x61).ext x345).ext x348).ext x484).ext x490).ext x500)
   have ex523 := ((((ex20.ext x).ext x32).ext x37).ext x46)
   have ex524 := ((((((((((((ex20.ext x).ext x32).ext x37).ext x46).ext x55).but y (Dj.of_fresh ex523 f57).symm).ext x61).ext x345).ext x348).ext x484).ext x490).ext x500)
   have ex525 := (((ex349.ext x484).ext x490).ext x500)
   have ex526 := ((((ex59.ext x61).ext x345).ext x348).ext x484)
   have ex527 := ((((((ex521.ext x55).but y (Dj.of_fresh ex521 f57).symm).ext x61).ext x345).ext x348).ext x484)
   have ex528 := ((((((ex523.ext x55).but y (Dj.of_fresh ex523 f57).symm).ext x61).ext x345).ext x348).ext x484)
   have ex529 := (ex349.ext x484)
   have ex530 := ((ex59.ext x61).ext x345)
   have ex531 := ((((ex521.ext x55).but y (Dj.of_fresh ex521 f57).symm).ext x61).ext x345)
   have ex532 := ((((ex523.ext x55).but y (Dj.of_fresh ex523 f57).symm).ext x61).ext x345)
   have ex533 := ((((((((ex49.ext x55).but y (Dj.of_fresh ex49 f57).symm).ext x61).ext x345).ext x348).ext x484).ext x490).ext x500)
   have ex534 := (ex38.ext x46)
   have ex535 := (((((((((ex38.ext x46).ext x55).but y (Dj.of_fresh ex534 f57).symm).ext x61).ext x345).ext x348).ext x484).ext x490).ext x500)
   have ex536 := ((ex33.ext x37).ext x46)
   have ex537 := ((((((((((ex33.ext x37).ext x46).ext x55).but y (Dj.of_fresh ex536 f57).symm).ext x61).ext x345).ext x348).ext x484).ext x490).ext x500)
   have ex538 := ((((((ex49.ext x55).but y (Dj.of_fresh ex49 f57).symm).ext x61).ext x345).ext x348).ext x484)
   have ex539 := ((((((ex534.ext x55).but y (Dj.of_fresh ex534 f57).symm).ext x61).ext x345).ext x348).ext x484)
   have ex540 := ((((((ex536.ext x55).but y (Dj.of_fresh ex536 f57).symm).ext x61).ext x345).ext x348).ext x484)
   have ex541 := (((ex17.ext x).ext x32).ext x37)
   have ex542 := ((ex17.ext x).ext x32)
   have ex543 := (ex17.ext x)
   have ex544 := (((ex20.ext x).ext x32).ext x37)
   have ex545 := ((ex20.ext x).ext x32)
   have ex546 := (ex20.ext x)
   have ex547 := ((((ex49.ext x55).but y (Dj.of_fresh ex49 f57).symm).ext x61).ext x345)
   have ex548 := ((((ex534.ext x55).but y (Dj.of_fresh ex534 f57).symm).ext x61).ext x345)
   have ex549 := ((((ex536.ext x55).but y (Dj.of_fresh ex536 f57).symm).ext x61).ext x345)
   have ex555 := (((ex533.ext x506).ext x513).but y517 (Dj.of_fresh ex547 f350).symm)
   have ex556 := ((ex508.ext x513).but y517 (Dj.of_fresh ex525 f509))
   have ex557 := (((ex519.ext x506).ext x513).but y517 (Dj.of_fresh ex529 f493))
   have ex558 := (((ex520.ext x506).ext x513).but y517 (Dj.of_fresh ex530 f350).symm)
   have ex559 := (((ex522.ext x506).ext x513).but y517 (Dj.of_fresh ex531 f350).symm)
   have ex560 := (((ex524.ext x506).ext x513).but y517 (Dj.of_fresh ex532 f350).symm)
   have ex561 := (((ex535.ext x506).ext x513).but y517 (Dj.of_fresh ex548 f350).symm)
   have ex562 := (((ex537.ext x506).ext x513).but y517 (Dj.of_fresh ex549 f350).symm)
   refine LP_call 1 rfl rfl rfl cal_122 rfl (impl_search_from_impl_solutions_1_impl_FirstSurvey_1_w _ _ _ _ _ _ _ H wx515 o.readf ex555 o507 ex556 o491 ex557 ex558 r16 ex559 cn ex560 ex561 ex562 ex516 (Dj.of_fresh ex519 f509).symm (Dj.of_fresh ex520 f509).symm (Dj.of_fresh ex522 f509).symm (Dj.of_fresh ex524 f509).symm (Dj.box (Dj.of_fresh ex525 f509).symm.symm).symm (Dj.of_fresh ex526 f493).symm (Dj.of_fresh ex527 f493).symm (Dj.of_fresh ex528 f493).symm (Dj.box (Dj.of_fresh ex529 f493).symm.symm).symm (Dj.box (Dj.of_fresh ex521 f57).symm) (Dj.box (Dj.of_fresh ex523 f57).symm) (Dj.box (Dj.of_fresh ex530 f350).symm).symm d (Dj.box (Dj.of_fresh ex531 f350).symm).symm (Dj.box (Dj.of_fresh ex532 f350).symm).symm (Dj.of_fresh ex533 f509).symm (Dj.of_fresh ex535 f509).symm (Dj.of_fresh ex537 f509).symm (Dj.of_fresh ex538 f493).symm (Dj.of_fresh ex539 f493).symm (Dj.of_fresh ex540 f493).symm (Dj.box (Dj.of_fresh ex49 f57).symm) (Dj.box (Dj.of_fresh ex534 f57).symm) (Dj.box (Dj.of_fresh ex536 f57).symm) (Dj.of_fresh ex541 f50) (Dj.of_fresh ex542 f39) (Dj.of_fresh ex543 f34) (Dj.of_fresh ex544 f50) (Dj.of_fresh ex545 f39) (Dj.of_fresh ex546 f34) (Dj.box (Dj.of_fresh ex547 f350).symm) (Dj.box (Dj.of_fresh ex548 f350).symm) (Dj.box (Dj.of_fresh ex549 f350).symm)) ?_
   rintro _ wx563 ⟨r550, r551, r552, r553, r554, vx569, hx565, vx574, hx570, vx580, hx576, H, rfl, x564, HF⟩
   revert HF
   refine bb9 fun o566 ex567 dm568 o571 ex572 dm573 ex575 o577 => ?_
   refine bb9 fun ex578 dm579 ex581 ex582 d583 d584 d585 d586 => ?_
   refine bb9 fun d587 d588 d589 d590 d591 d592 d593 d594 cn595 => ?_
   obtain ⟨a596, c597, rfl⟩ := o566.shape
   obtain ⟨a598, c599, rfl⟩ := o571.shape
   obtain ⟨a600, c601, rfl⟩ := o577.shape
   refine LP_end _ rfl ?_
   refine W_seq ?_
   refine W_region ?_
   refine LP_ldbox 0 (v := I r553) rfl rfl rfl ti_3 ag_3 (fun _ => rfl) rfl ex575 rfl rfl ?_
   refine LP_ev ok 1 [(12, I r553)] 2 rfl rfl ?_
   refine LP_end _ rfl ?_
   refine W_ret ?_
   have X604 := ((((X.stepx x).stepx x32).stepx x37).stepx x46)
   have f603 := f57.mono X604.size
   have X605 := ((((((((((((X.stepx x).stepx x32).stepx x37).stepx x46).stepx x55).step y (f603.dom _)).stepx x61).stepx x345).stepx x348).stepx x484).stepx x490).stepx x500)
   have f602 := f509.mono X605.size
   have X607 := ((((((X604.stepx x55).step y (f603.dom _)).stepx x61).stepx x345).stepx x348).stepx x484)
   have f606 := f493.mono X607.size
   have X609 := ((((X604.stepx x55).step y (f603.dom _)).stepx x61).stepx x345)
   have f608 := f350.mono X609.size
   have X610 := (((X605.stepx x506).stepx x513).step y517 (f608.dom _))
   have X611 := (X610.step x564 (DomLe.un (f602.dom _) (DomLe.un (f606.dom _) (DomLe.un ((Fresh.box f603).dom _) (DomLe.un (Dom.le D _) (DomLe.un (Dom.le D27 _) ((Fresh.box f608).dom _)))))))
   subst hM
   exact ⟨_, Ret_of [I r553] ⟨⟨rfl, rfl⟩, trivial⟩, _, _, _, _, H, rfl, X611, o577, ex578, (DomLe.trans (DomLe.un (f602.dom _) (DomLe.un (f606.dom _) (DomLe.un ((Fresh.box f603).dom _) (DomLe.un (Dom.le D _) (DomLe.un (Dom.le D27 _) ((Fresh.box f608).dom _)))))) dm579 X610.size), ex581, d593, cn595⟩

theorem impl_FirstSurvey_w (g : Geo) (sx : List Variable) (pubs : List Published) (n : Int) (Q : (List Int) → Bool → Prop) (H : impl_FirstSurvey g sx pubs n Q) (w : World) {vx : Value} {hx : PH} (r : RS hx vx g.Parents) (ex : Sub hx w) {vx1 : Value} {hx2 : PH} (r3 : RS hx2 vx1 sx) (ex4 : Sub hx2 w) {vx7 : Value} {hx8 : PH} (r9 : RS hx8 vx7 pubs) (ex10 : Sub hx8 w) :
  CallsTo Tryz.prog 16 #[.agg #[vx], vx1, vx7, I n] w fun v w' => ∃ r0 r1 u0 g0, Q r0 r1 ∧ v = .tuple #[u0, .bool r1] ∧ Ext w w' ∧ OS 3 g0 emp u0 r0 ∧ Sub g0 w' ∧ Fresh w.heap.size g0 := by
 obtain ⟨a, c, rfl⟩ := r.shape
 obtain ⟨a5, c6, rfl⟩ := r3.shape
 obtain ⟨a11, c12, rfl⟩ := r9.shape
 refine enter (args := [.agg #[sl a g.Parents c], sl a5 sx c6, sl a11 pubs c12, I n]) 30 Tryz.func16 rfl rfl rfl ?_
 refine W_forget [(0, .agg #[sl a g.Parents c]), (1, sl a5 sx c6), (2, sl a11 pubs c12), (3, I n)] ⟨rfl, rfl, rfl, rfl, trivial⟩ fun ρ => ?_
 have X := But.refl emp w
 refine W_seq ?_
 refine W_region ?_
 refine LP_box 0 (cs := [sl a g.Parents c]) rfl rfl rfl rfl rfl fun b wx x ex13 f => ?_
 refine LP_ev ok 1 [(8, .slice none 0 0), (9, .bool false)] 3 rfl rfl ?_
 refine LP_end _ rfl ?_
 refine W_seq ?_
 obtain ⟨k, hk, H⟩ := jn_elim H
 refine W_join2 (S := Bool) (fun s ρ' w' => k s ∧ ∃ (ρ : Env), ρ' = setAll [(1, sl a5 sx c6), (2, sl a11 pubs c12), (3, I n), (4, pb b), (20, .bool s)] ρ ∧ But emp w w' ∧ Sub hx w' ∧ Sub hx2 w' ∧ Sub hx8 w' ∧ Sub (bx b 32 [sl a g.Parents c]) w') ?_ ?_
 ·refine W_region ?_
  refine LP_ldbox 0 (v := .agg #[sl a g.Parents c]) rfl rfl rfl ti_32 ag_32 (fun h => by cases h) rfl ex13 rfl rfl ?_
  refine LP_ev ok 1 [(12, sl a5 sx c6), (13, sl a11 pubs c12)] 3 rfl rfl ?_
  have ex22 := (ex.ext x)
  have ex23 := (ex4.ext x)
  have ex24 := (ex10.ext x)
  refine LP_call 3 rfl rfl rfl cal_63 rfl (impl_areAttacked_w _ _ _ _ H wx r ex22 r3 ex23 r9 ex24) ?_
  rintro _ wx25 ⟨r21, H, rfl, x26⟩
  refine LP_ev ok 4 [(15, .bool (!r21)), (16, .bool (!r21))] 6 rfl rfl ?_
  refine LP_split 16 (!r21) rfl (fun hc => ?_) (fun hc => ?_)
  ·have H := H.1 hc
   refine LP_ev ok 6 [(17, undef), (18, undef), (19, undef), (20, .bool true)] 10 rfl rfl ?_
   refine LP_end _ rfl ?_
   have X27 := ((X.stepx x).stepx x26)
   have ex28 := (ex22.ext x26)
   have ex29 := (ex23.ext x26)
   have ex30 := (ex24.ext x26)
   have ex31 := (ex13.ext x26)
   exact ⟨true, H, _, env_eq ⟨rfl, rfl, rfl, rfl, rfl, trivial⟩, X27, ex28, ex29, ex30, ex31⟩
  have H := H.2 hc
  refine LP_ev ok 6 [(17, I n)] 7 rfl rfl ?_
  refine LP_call 7 rfl rfl rfl cal_64 rfl (impl_isPersons_w _ _ H wx25 ) ?_
  rintro _ wx33 ⟨r32, H, rfl, x34⟩
  refine LP_ev ok 8 [(19, .bool (!r32)), (20, .bool (!r32))] 10 rfl rfl ?_
  refine LP_end _ rfl ?_
  have X35 := (((X.stepx x).stepx x26).stepx x34)
  have ex36 := ((ex22.ext x26).ext x34)
  have ex37 := ((ex23.ext x26).ext x34)
  have ex38 := ((ex24.ext x26).ext x34)
  have ex39 := ((ex13.ext x26).ext x34)
  exact ⟨!r32, H, _, env_eq ⟨rfl, rfl, rfl, rfl, rfl, trivial⟩, X35, ex36, ex37, ex38, ex39⟩
 rintro x14 _ wx15 ⟨H, ρ, rfl, HF⟩
 revert HF
 refine bb5 fun X20 ex16 ex17 ex18 ex19 => ?_
 subst hk
 refine W_cond (x14) rfl (fun hc40 => ?_) (fun hc40 => ?_)
 ·have H := H.1 hc40
  refine W_seq ?_
  refine W_region ?_
  refine LP_ev ok 0 [(8, .slice none 0 0), (9, .bool false)] 2 rfl rfl ?_
  refine LP_end _ rfl ?_
  refine W_ret ?_
  exact ⟨_, Ret_of [.slice none 0 0, .bool false] ⟨⟨rfl, rfl⟩, ⟨rfl, rfl⟩, trivial⟩, _, _, _, emp, H, rfl, X20.ext, OS.nil, (emp_sub _), (emp_fresh _)⟩
 have H := H.2 hc40
 refine W_skip ?_
 refine W_seq ?_
 refine W_region ?_
 refine LP_alloc 0 rfl rfl rfl ti_22 rfl fun b41 wx42 x43 ex44 f45 => ?_
 refine LP_end _ rfl ?_
 refine W_seq ?_
 refine W_region ?_
 have ex46 := (ex19.ext x43)
 refine LP_ldbox 0 (v := .agg #[sl a g.Parents c]) rfl rfl rfl ti_32 ag_32 (fun h => by cases h) rfl ex46 rfl rfl ?_
 refine LP_ev ok 1 [(22, sl a5 sx c6), (23, sl a11 pubs c12), (24, I n), (25, .func (.func 66) #[] #[pb b41])] 5 rfl rfl ?_
 have ex49 := (ex16.ext x43)
 have ex50 := (ex17.ext x43)
 have ex51 := (ex18.ext x43)
 refine LP_call 5 rfl rfl rfl cal_65 rfl (impl_solutions_impl_FirstSurvey_1_w _ _ _ _ _ _ _ H wx42 r ex49 r3 ex50 r9 ex51 (OS.nil (E := 3) (g := emp)) (emp_sub _) CanV.nil ex44 (Dj.emp_l _) (Dj.emp_l _) (Dj.emp_l _) (Dj.emp_l _) (Dj.of_fresh ex16 f45).symm (Dj.of_fresh ex17 f45).symm (Dj.of_fresh ex18 f45).symm) ?_
 rintro _ wx52 ⟨r47, r48, vx56, hx54, H, rfl, x53, HF⟩
 revert HF
 refine bb6 fun o ex55 dm ex57 d cn => ?_
 obtain ⟨a58, c59, rfl⟩ := o.shape
 refine LP_end _ rfl ?_
 refine W_seq ?_
 refine W_quiet mix (by kernel_rfl) ?_
 refine QP_ldbox 0 (v := sl a58 r48 c59) rfl rfl rfl ti_22 ag_22 (fun _ => rfl) rfl ex57 rfl rfl ?_
 refine QP_ldbox 1 (v := sl a58 r48 c59) rfl rfl rfl ti_22 ag_22 (fun _ => rfl) rfl ex57 rfl rfl ?_
 refine QP_val 2 _ rfl rfl (fun _ _ => ex_nenilc rfl Tryz.underlying22 rfl rfl (cn _ _ _ rfl) _) ?_
 refine QP_ev ok 3 [(8, sl a58 r48 c59), (9, .bool (!(ln r48 == 0)))] 5 rfl rfl ?_
 refine QP_end _ rfl fun wx60 x61 => ?_
 refine W_ret ?_
 have ex62 := (ex55.ext x61)
 have f63 := f45.mono X20.size
 have X65 := (X20.stepx x43)
 have f64 := DomLe.fresh dm (Fresh.un (emp_fresh _) f63) X65.size
 have X66 := ((X65.step x53 (DomLe.un (fun _ _ _ => rfl) (f63.dom _))).stepx x61)
 exact ⟨_, Ret_of [sl a58 r48 c59, .bool (!(ln r48 == 0))] ⟨⟨rfl, rfl⟩, ⟨rfl, rfl⟩, trivial⟩, _, _, _, _, H, rfl, X66.ext, o, ex62, f64⟩

theorem laws_eqIntS_w (a : List Int) (b : List Int) (Q : Bool → Prop) (H : laws_eqIntS a b Q) (w : World) {vx : Value} {hx : PH} (r : RS hx vx a) (ex : Sub hx w) {vx2 : Value} {hx3 : PH} (r4 : RS hx3 vx2 b) (ex5 : Sub hx3 w) :
  CallsTo Tryz.prog 17 #[vx, vx2] w fun v w' => ∃ r0, Q r0 ∧ v = .bool r0 ∧ Ext w w' := by
 obtain ⟨a1, c, rfl⟩ := r.shape
 obtain ⟨a6, c7, rfl⟩ := r4.shape
 refine enter (args := [sl a1 a c, sl a6 b c7]) 26 Tryz.func17 rfl rfl rfl ?_
 refine W_forget [(0, sl a1 a c), (1, sl a6 b c7)] ⟨rfl, rfl, trivial⟩ fun ρ => ?_
 have X := But.refl emp w
 refine W_seq ?_
 refine W_region ?_
 refine LP_ev ok 0 [(4, .bool false)] 1 rfl rfl ?_
 refine LP_end _ rfl ?_
 refine W_seq ?_
 refine W_seq ?_
 refine W_region ?_
 refine LP_ev ok 0 [(6, sl a1 a c), (7, I (ln a)), (8, sl a6 b c7), (9, I (ln b)), (10, .bool ((ln a) != (ln b)))] 5 rfl rfl ?_
 refine LP_end _ rfl ?_
 refine W_cond ((ln a) != (ln b)) rfl (fun hc => ?_) (fun hc => ?_)
 ·have H := H.1 hc
  refine W_seq ?_
  refine W_region ?_
  refine LP_ev ok 0 [(4, .bool false)] 1 rfl rfl ?_
  refine LP_end _ rfl ?_
  refine W_ret ?_
  exact ⟨_, Ret_of [.bool false] ⟨⟨rfl, rfl⟩, trivial⟩, _, H, rfl, X.ext⟩
 have H := H.2 hc
 refine W_skip ?_
 refine W_seq ?_
 refine W_seq ?_
 refine W_region ?_
 refine LP_ev ok 0 [(5, I 0)] 1 rfl rfl ?_
 refine LP_end _ rfl ?_
 refine W_block ?_
 obtain ⟨J, m, Hx, H⟩ := H
 refine W_loop (S := Int) (fun s ρ' w' => J s ∧ ∃ (ρ : Env), ρ' = setAll [(0, sl a1 a c), (1, sl a6 b c7), (5, I s)] ρ ∧ But emp w w' ∧ Sub hx w' ∧ Sub hx3 w') (fun s => m s) 0 ⟨Hx, _, env_eq ⟨rfl, rfl, rfl, trivial⟩, X, ex, ex5⟩ ?_
 rintro i _ wx ⟨Hi, ρ, rfl, X10, ex8, ex9⟩
 have H := H i Hi
 refine W_seq ?_
 refine W_seq ?_
 refine W_region ?_
 refine LP_ev ok 0 [(11, I i), (12, sl a1 a c), (13, I (ln a)), (14, .bool (decide (i < (ln a))))] 4 rfl rfl ?_
 refine LP_end _ rfl ?_
 refine W_cond (decide (i < (ln a))) rfl (fun hc11 => ?_) (fun hc11 => ?_)
 ·have H := H.1 hc11
  refine W_skip ?_
  refine W_seq ?_
  refine W_block ?_
  refine W_seq ?_
  refine W_quiet mix (by kernel_rfl) ?_
  refine QP_ev ok 0 [(17, sl a1 a c), (18, I i)] 2 rfl rfl ?_
  obtain ⟨x, hi, hx12, H⟩ := H
  refine QP_index 2 rfl rfl rfl Tryz.underlying22 ti_3 rfl rfl r hi hx12 fun a13 cs r14 d => ?_
  refine QP_load 3 rfl rfl rfl ti_3 ag_3 rfl r14 d ex8 fun vx15 r16 => ?_
  obtain rfl := r16.int
  refine QP_ev ok 4 [(21, sl a6 b c7), (22, I i)] 6 rfl rfl ?_
  obtain ⟨x17, hi18, hx19, H⟩ := H
  refine QP_index 6 rfl rfl rfl Tryz.underlying22 ti_3 rfl rfl r4 hi18 hx19 fun a20 cs21 r22 d23 => ?_
  refine QP_load 7 rfl rfl rfl ti_3 ag_3 rfl r22 d23 ex9 fun vx24 r25 => ?_
  obtain rfl := r25.int
  refine QP_ev ok 8 [(25, .bool (x != x17))] 9 rfl rfl ?_
  refine QP_end _ rfl fun wx26 x27 => ?_
  refine W_cond (x != x17) rfl (fun hc28 => ?_) (fun hc28 => ?_)
  ·have H := H.1 hc28
   refine W_seq ?_
   refine W_region ?_
   refine LP_ev ok 0 [(4, .bool false)] 1 rfl rfl ?_
   refine LP_end _ rfl ?_
   refine W_ret ?_
   have X29 := (X10.stepx x27)
   exact ⟨_, Ret_of [.bool false] ⟨⟨rfl, rfl⟩, trivial⟩, _, H, rfl, X29.ext⟩
  have H := H.2 hc28
  refine W_skip ?_
  refine W_region ?_
  refine LP_ev ok 0 [(15, I i), (16, I (wr (i + 1))), (5, I (wr (i + 1)))] 3 rfl rfl ?_
  refine LP_end _ rfl ?_
  have X30 := (X10.stepx x27)
  have ex31 := (ex8.ext x27)
  have ex32 := (ex9.ext x27)
  exact ⟨wr (i + 1), ⟨H.1, _, env_eq ⟨rfl, rfl, rfl, trivial⟩, X30, ex31, ex32⟩, H.2⟩
 have H := H.2 hc11
 refine W_exit ?_
 refine (if_pos rfl).mpr ?_
 refine W_seq ?_
 refine W_region ?_
 refine LP_ev ok 0 [(4, .bool true)] 1 rfl rfl ?_
 refine LP_end _ rfl ?_
 refine W_ret ?_
 exact ⟨_, Ret_of [.bool true] ⟨⟨rfl, rfl⟩, trivial⟩, _, H, rfl, X10.ext⟩

theorem laws_eqGeo_w (a : Geo) (b : Geo) (Q : Bool → Prop) (H : laws_eqGeo a b Q) (w : World) {vx : Value} {hx : PH} (r : RS hx vx a.Parents) (ex : Sub hx w) {vx2 : Value} {hx3 : PH} (r4 : RS hx3 vx2 b.Parents) (ex5 : Sub hx3 w) :
  CallsTo Tryz.prog 18 #[.agg #[vx], .agg #[vx2]] w fun v w' => ∃ r0, Q r0 ∧ v = .bool r0 ∧ Ext w w' := by
 obtain ⟨a1, c, rfl⟩ := r.shape
 obtain ⟨a6, c7, rfl⟩ := r4.shape
 refine enter (args := [.agg #[sl a1 a.Parents c], .agg #[sl a6 b.Parents c7]]) 11 Tryz.func18 rfl rfl rfl ?_
 refine W_forget [(0, .agg #[sl a1 a.Parents c]), (1, .agg #[sl a6 b.Parents c7])] ⟨rfl, rfl, trivial⟩ fun ρ => ?_
 have X := But.refl emp w
 refine W_seq ?_
 refine W_region ?_
 refine LP_box 0 (cs := [sl a1 a.Parents c]) rfl rfl rfl rfl rfl fun b8 wx x ex9 f => ?_
 refine LP_box 1 (cs := [sl a6 b.Parents c7]) rfl rfl rfl rfl rfl fun b10 wx11 x12 ex13 f14 => ?_
 refine LP_ev ok 2 [(4, .bool false)] 3 rfl rfl ?_
 refine LP_end _ rfl ?_
 refine W_seq ?_
 refine W_seq ?_
 refine W_region ?_
 refine LP_ev ok 0 [(5, pb b8)] 1 rfl rfl ?_
 have ex15 := (ex9.ext x12)
 refine LP_ldbox 1 (v := sl a1 a.Parents c) rfl rfl rfl ti_22 ag_22 (fun _ => rfl) rfl ex15 rfl rfl ?_
 refine LP_ev ok 2 [(7, pb b10)] 3 rfl rfl ?_
 refine LP_ldbox 3 (v := sl a6 b.Parents c7) rfl rfl rfl ti_22 ag_22 (fun _ => rfl) rfl ex13 rfl rfl ?_
 have ex17 := ((ex.ext x).ext x12)
 have ex18 := ((ex5.ext x).ext x12)
 refine LP_call 4 rfl rfl rfl cal_17 rfl (laws_eqIntS_w _ _ _ H wx11 r ex17 r4 ex18) ?_
 rintro _ wx19 ⟨r16, H, rfl, x20⟩
 refine LP_ev ok 5 [(10, .bool (!r16))] 6 rfl rfl ?_
 refine LP_end _ rfl ?_
 refine W_cond (!r16) rfl (fun hc => ?_) (fun hc => ?_)
 ·have H := H.1 hc
  refine W_seq ?_
  refine W_region ?_
  refine LP_ev ok 0 [(4, .bool false)] 1 rfl rfl ?_
  refine LP_end _ rfl ?_
  refine W_ret ?_
  have X21 := (((X.stepx x).stepx x12).stepx x20)
  exact ⟨_, Ret_of [.bool false] ⟨⟨rfl, rfl⟩, trivial⟩, _, H, rfl, X21.ext⟩
 have H := H.2 hc
 refine W_skip ?_
 refine W_seq ?_
 refine W_region ?_
 refine LP_ev ok 0 [(4, .bool true)] 1 rfl rfl ?_
 refine LP_end _ rfl ?_
 refine W_ret ?_
 have X22 := (((X.stepx x).stepx x12).stepx x20)
 exact ⟨_, Ret_of [.bool true] ⟨⟨rfl, rfl⟩, trivial⟩, _, H, rfl, X22.ext⟩

theorem laws_eqVariable_w (a : Variable) (b : Variable) (Q : Bool → Prop) (H : laws_eqVariable a b Q) (w : World)  :
  CallsTo Tryz.prog 67 #[.agg #[.string a.Name, I a.Levels], .agg #[.string b.Name, I b.Levels]] w fun v w' => ∃ r0, Q r0 ∧ v = .bool r0 ∧ Ext w w' := by
 refine enter (args := [.agg #[.string a.Name, I a.Levels], .agg #[.string b.Name, I b.Levels]]) 15 Tryz.func67 rfl rfl rfl ?_
 refine W_forget [(0, .agg #[.string a.Name, I a.Levels]), (1, .agg #[.string b.Name, I b.Levels])] ⟨rfl, rfl, trivial⟩ fun ρ => ?_
 have X := But.refl emp w
 refine W_seq ?_
 refine W_region ?_
 refine LP_box 0 (cs := [.string a.Name, I a.Levels]) rfl rfl rfl rfl rfl fun b1 wx x ex f => ?_
 refine LP_box 1 (cs := [.string b.Name, I b.Levels]) rfl rfl rfl rfl rfl fun b2 wx3 x4 ex5 f6 => ?_
 refine LP_ev ok 2 [(4, .bool false)] 3 rfl rfl ?_
 refine LP_end _ rfl ?_
 refine W_seq ?_
 refine W_seq ?_
 refine W_region ?_
 refine LP_ev ok 0 [(5, pb b1)] 1 rfl rfl ?_
 have ex7 := (ex.ext x4)
 refine LP_ldbox 1 (v := .string a.Name) rfl rfl rfl ti_9 ag_9 (fun _ => rfl) rfl ex7 rfl rfl ?_
 refine LP_ev ok 2 [(7, pb b2)] 3 rfl rfl ?_
 refine LP_ldbox 3 (v := .string b.Name) rfl rfl rfl ti_9 ag_9 (fun _ => rfl) rfl ex5 rfl rfl ?_
 refine LP_ev ok 4 [(9, .bool (!streq a.Name b.Name))] 5 rfl rfl ?_
 refine LP_end _ rfl ?_
 refine W_cond (!streq a.Name b.Name) rfl (fun hc => ?_) (fun hc => ?_)
 ·have H := H.1 hc
  refine W_seq ?_
  refine W_region ?_
  refine LP_ev ok 0 [(4, .bool false)] 1 rfl rfl ?_
  refine LP_end _ rfl ?_
  refine W_ret ?_
  have X8 := ((X.stepx x).stepx x4)
  exact ⟨_, Ret_of [.bool false] ⟨⟨rfl, rfl⟩, trivial⟩, _, H, rfl, X8.ext⟩
 have H := H.2 hc
 refine W_skip ?_
 refine W_seq ?_
 refine W_seq ?_
 refine W_region ?_
 refine LP_ev ok 0 [(10, .pointer (some ⟨b1, 1, none⟩))] 1 rfl rfl ?_
 refine LP_ldbox 1 (v := I a.Levels) rfl rfl rfl ti_3 ag_3 (fun _ => rfl) rfl ex7 rfl rfl ?_
 refine LP_ev ok 2 [(12, .pointer (some ⟨b2, 1, none⟩))] 3 rfl rfl ?_
 refine LP_ldbox 3 (v := I b.Levels) rfl rfl rfl ti_3 ag_3 (fun _ => rfl) rfl ex5 rfl rfl ?_
 refine LP_ev ok 4 [(14, .bool (a.Levels != b.Levels))] 5 rfl rfl ?_
 refine LP_end _ rfl ?_
 refine W_cond (a.Levels != b.Levels) rfl (fun hc9 => ?_) (fun hc9 => ?_)
 ·have H := H.1 hc9
  refine W_seq ?_
  refine W_region ?_
  refine LP_ev ok 0 [(4, .bool false)] 1 rfl rfl ?_
  refine LP_end _ rfl ?_
  refine W_ret ?_
  have X10 := ((X.stepx x).stepx x4)
  exact ⟨_, Ret_of [.bool false] ⟨⟨rfl, rfl⟩, trivial⟩, _, H, rfl, X10.ext⟩
 have H := H.2 hc9
 refine W_skip ?_
 refine W_seq ?_
 refine W_region ?_
 refine LP_ev ok 0 [(4, .bool true)] 1 rfl rfl ?_
 refine LP_end _ rfl ?_
 refine W_ret ?_
 have X11 := ((X.stepx x).stepx x4)
 exact ⟨_, Ret_of [.bool true] ⟨⟨rfl, rfl⟩, trivial⟩, _, H, rfl, X11.ext⟩

theorem laws_eqVariableS_w (a : List Variable) (b : List Variable) (Q : Bool → Prop) (H : laws_eqVariableS a b Q) (w : World) {vx : Value} {hx : PH} (r : RS hx vx a) (ex : Sub hx w) {vx2 : Value} {hx3 : PH} (r4 : RS hx3 vx2 b) (ex5 : Sub hx3 w) :
  CallsTo Tryz.prog 19 #[vx, vx2] w fun v w' => ∃ r0, Q r0 ∧ v = .bool r0 ∧ Ext w w' := by
 obtain ⟨a1, c, rfl⟩ := r.shape
 obtain ⟨a6, c7, rfl⟩ := r4.shape
 refine enter (args := [sl a1 a c, sl a6 b c7]) 27 Tryz.func19 rfl rfl rfl ?_
 refine W_forget [(0, sl a1 a c), (1, sl a6 b c7)] ⟨rfl, rfl, trivial⟩ fun ρ => ?_
 have X := But.refl emp w
 refine W_seq ?_
 refine W_region ?_
 refine LP_ev ok 0 [(4, .bool false)] 1 rfl rfl ?_
 refine LP_end _ rfl ?_
 refine W_seq ?_
 refine W_seq ?_
 refine W_region ?_
 refine LP_ev ok 0 [(6, sl a1 a c), (7, I (ln a)), (8, sl a6 b c7), (9, I (ln b)), (10, .bool ((ln a) != (ln b)))] 5 rfl rfl ?_
 refine LP_end _ rfl ?_
 refine W_cond ((ln a) != (ln b)) rfl (fun hc => ?_) (fun hc => ?_)
 ·have H := H.1 hc
  refine W_seq ?_
  refine W_region ?_
  refine LP_ev ok 0 [(4, .bool false)] 1 rfl rfl ?_
  refine LP_end _ rfl ?_
  refine W_ret ?_
  exact ⟨_, Ret_of [.bool false] ⟨⟨rfl, rfl⟩, trivial⟩, _, H, rfl, X.ext⟩
 have H := H.2 hc
 refine W_skip ?_
 refine W_seq ?_
 refine W_seq ?_
 refine W_region ?_
 refine LP_ev ok 0 [(5, I 0)] 1 rfl rfl ?_
 refine LP_end _ rfl ?_
 refine W_block ?_
 obtain ⟨J, m, Hx, H⟩ := H
 refine W_loop (S := Int) (fun s ρ' w' => J s ∧ ∃ (ρ : Env), ρ' = setAll [(0, sl a1 a c), (1, sl a6 b c7), (5, I s)] ρ ∧ But emp w w' ∧ Sub hx w' ∧ Sub hx3 w') (fun s => m s) 0 ⟨Hx, _, env_eq ⟨rfl, rfl, rfl, trivial⟩, X, ex, ex5⟩ ?_
 rintro i _ wx ⟨Hi, ρ, rfl, X10, ex8, ex9⟩
 have H := H i Hi
 refine W_seq ?_
 refine W_seq ?_
 refine W_region ?_
 refine LP_ev ok 0 [(11, I i), (12, sl a1 a c), (13, I (ln a)), (14, .bool (decide (i < (ln a))))] 4 rfl rfl ?_
 refine LP_end _ rfl ?_
 refine W_cond (decide (i < (ln a))) rfl (fun hc11 => ?_) (fun hc11 => ?_)
 ·have H := H.1 hc11
  refine W_skip ?_
  refine W_seq ?_
  refine W_block ?_
  refine W_seq ?_
  refine W_quiet mix (by kernel_rfl) ?_
  refine QP_ev ok 0 [(17, sl a1 a c), (18, I i)] 2 rfl rfl ?_
  obtain ⟨x, hi, hx12, H⟩ := H
  refine QP_index 2 rfl rfl rfl Tryz.underlying34 ti_98 rfl rfl r hi hx12 fun a13 cs r14 d => ?_
  refine QP_load 3 rfl rfl rfl ti_98 ag_98 rfl r14 d ex8 fun vx15 r16 => ?_
  obtain rfl := Variable_rv r16
  refine QP_ev ok 4 [(21, sl a6 b c7), (22, I i)] 6 rfl rfl ?_
  obtain ⟨x17, hi18, hx19, H⟩ := H
  refine QP_index 6 rfl rfl rfl Tryz.underlying34 ti_98 rfl rfl r4 hi18 hx19 fun a20 cs21 r22 d23 => ?_
  refine QP_load 7 rfl rfl rfl ti_98 ag_98 rfl r22 d23 ex9 fun vx24 r25 => ?_
  obtain rfl := Variable_rv r25
  obtain ⟨r26, Hd, H⟩ := H
  refine QP_call (.bool r26) 8 rfl rfl rfl cal_67 rfl (fun wx27 x28 => (laws_eqVariable_w _ _ _ Hd wx27 ).mono ?_) ?_
  ·rintro _ _ ⟨_, rfl, rfl, x⟩; exact ⟨rfl, x⟩
  refine QP_ev ok 9 [(26, .bool (!r26))] 10 rfl rfl ?_
  refine QP_end _ rfl fun wx29 x30 => ?_
  refine W_cond (!r26) rfl (fun hc31 => ?_) (fun hc31 => ?_)
  ·have H := H.1 hc31
   refine W_seq ?_
   refine W_region ?_
   refine LP_ev ok 0 [(4, .bool false)] 1 rfl rfl ?_
   refine LP_end _ rfl ?_
   refine W_ret ?_
   have X32 := (X10.stepx x30)
   exact ⟨_, Ret_of [.bool false] ⟨⟨rfl, rfl⟩, trivial⟩, _, H, rfl, X32.ext⟩
  have H := H.2 hc31
  refine W_skip ?_
  refine W_region ?_
  refine LP_ev ok 0 [(15, I i), (16, I (wr (i + 1))), (5, I (wr (i + 1)))] 3 rfl rfl ?_
  refine LP_end _ rfl ?_
  have X33 := (X10.stepx x30)
  have ex34 := (ex8.ext x30)
  have ex35 := (ex9.ext x30)
  exact ⟨wr (i + 1), ⟨H.1, _, env_eq ⟨rfl, rfl, rfl, trivial⟩, X33, ex34, ex35⟩, H.2⟩
 have H := H.2 hc11
 refine W_exit ?_
 refine (if_pos rfl).mpr ?_
 refine W_seq ?_
 refine W_region ?_
 refine LP_ev ok 0 [(4, .bool true)] 1 rfl rfl ?_
 refine LP_end _ rfl ?_
 refine W_ret ?_
 exact ⟨_, Ret_of [.bool true] ⟨⟨rfl, rfl⟩, trivial⟩, _, H, rfl, X10.ext⟩

theorem laws_eqTable_w (a : Table) (b : Table) (Q : Bool → Prop) (H : laws_eqTable a b Q) (w : World) {vx : Value} {hx : PH} (r : RS hx vx a.Vars) (ex : Sub hx w) {vx2 : Value} {hx3 : PH} (r4 : RS hx3 vx2 a.Where) (ex5 : Sub hx3 w) {vx8 : Value} {hx9 : PH} (r10 : RS hx9 vx8 b.Vars) (ex11 : Sub hx9 w) {vx14 : Value} {hx15 : PH} (r16 : RS hx15 vx14 b.Where) (ex17 : Sub hx15 w) :
  CallsTo Tryz.prog 123 #[.agg #[I a.Level, vx, vx2, I a.Sum], .agg #[I b.Level, vx8, vx14, I b.Sum]] w fun v w' => ∃ r0, Q r0 ∧ v = .bool r0 ∧ Ext w w' := by
 obtain ⟨a1, c, rfl⟩ := r.shape
 obtain ⟨a6, c7, rfl⟩ := r4.shape
 obtain ⟨a12, c13, rfl⟩ := r10.shape
 obtain ⟨a18, c19, rfl⟩ := r16.shape
 refine enter (args := [.agg #[I a.Level, sl a1 a.Vars c, sl a6 a.Where c7, I a.Sum], .agg #[I b.Level, sl a12 b.Vars c13, sl a18 b.Where c19, I b.Sum]]) 27 Tryz.func123 rfl rfl rfl ?_
 refine W_forget [(0, .agg #[I a.Level, sl a1 a.Vars c, sl a6 a.Where c7, I a.Sum]), (1, .agg #[I b.Level, sl a12 b.Vars c13, sl a18 b.Where c19, I b.Sum])] ⟨rfl, rfl, trivial⟩ fun ρ => ?_
 have X := But.refl emp w
 refine W_seq ?_
 refine W_region ?_
 refine LP_box 0 (cs := [I a.Level, sl a1 a.Vars c, sl a6 a.Where c7, I a.Sum]) rfl rfl rfl rfl rfl fun b20 wx x ex21 f => ?_
 refine LP_box 1 (cs := [I b.Level, sl a12 b.Vars c13, sl a18 b.Where c19, I b.Sum]) rfl rfl rfl rfl rfl fun b22 wx23 x24 ex25 f26 => ?_
 refine LP_ev ok 2 [(4, .bool false)] 3 rfl rfl ?_
 refine LP_end _ rfl ?_
 refine W_seq ?_
 refine W_seq ?_
 refine W_region ?_
 refine LP_ev ok 0 [(5, pb b20)] 1 rfl rfl ?_
 have ex27 := (ex21.ext x24)
 refine LP_ldbox 1 (v := I a.Level) rfl rfl rfl ti_3 ag_3 (fun _ => rfl) rfl ex27 rfl rfl ?_
 refine LP_ev ok 2 [(7, pb b22)] 3 rfl rfl ?_
 refine LP_ldbox 3 (v := I b.Level) rfl rfl rfl ti_3 ag_3 (fun _ => rfl) rfl ex25 rfl rfl ?_
 refine LP_ev ok 4 [(9, .bool (a.Level != b.Level))] 5 rfl rfl ?_
 refine LP_end _ rfl ?_
 refine W_cond (a.Level != b.Level) rfl (fun hc => ?_) (fun hc => ?_)
 ·have H := H.1 hc
  refine W_seq ?_
  refine W_region ?_
  refine LP_ev ok 0 [(4, .bool false)] 1 rfl rfl ?_
  refine LP_end _ rfl ?_
  refine W_ret ?_
  have X28 := ((X.stepx x).stepx x24)
  exact ⟨_, Ret_of [.bool false] ⟨⟨rfl, rfl⟩, trivial⟩, _, H, rfl, X28.ext⟩
 have H := H.2 hc
 refine W_skip ?_
 refine W_seq ?_
 refine W_seq ?_
 refine W_region ?_
 refine LP_ev ok 0 [(10, .pointer (some ⟨b20, 1, none⟩))] 1 rfl rfl ?_
 refine LP_ldbox 1 (v := sl a1 a.Vars c) rfl rfl rfl ti_22 ag_22 (fun _ => rfl) rfl ex27 rfl rfl ?_
 refine LP_ev ok 2 [(12, .pointer (some ⟨b22, 1, none⟩))] 3 rfl rfl ?_
 refine LP_ldbox 3 (v := sl a12 b.Vars c13) rfl rfl rfl ti_22 ag_22 (fun _ => rfl) rfl ex25 rfl rfl ?_
 have ex30 := ((ex.ext x).ext x24)
 have ex31 := ((ex11.ext x).ext x24)
 refine LP_call 4 rfl rfl rfl cal_17 rfl (laws_eqIntS_w _ _ _ H wx23 r ex30 r10 ex31) ?_
 rintro _ wx32 ⟨r29, H, rfl, x33⟩
 refine LP_ev ok 5 [(15, .bool (!r29))] 6 rfl rfl ?_
 refine LP_end _ rfl ?_
 refine W_cond (!r29) rfl (fun hc34 => ?_) (fun hc34 => ?_)
 ·have H := H.1 hc34
  refine W_seq ?_
  refine W_region ?_
  refine LP_ev ok 0 [(4, .bool false)] 1 rfl rfl ?_
  refine LP_end _ rfl ?_
  refine W_ret ?_
  have X35 := (((X.stepx x).stepx x24).stepx x33)
  exact ⟨_, Ret_of [.bool false] ⟨⟨rfl, rfl⟩, trivial⟩, _, H, rfl, X35.ext⟩
 have H := H.2 hc34
 refine W_skip ?_
 refine W_seq ?_
 refine W_seq ?_
 refine W_region ?_
 refine LP_ev ok 0 [(16, .pointer (some ⟨b20, 2, none⟩))] 1 rfl rfl ?_
 have ex36 := (ex27.ext x33)
 refine LP_ldbox 1 (v := sl a6 a.Where c7) rfl rfl rfl ti_22 ag_22 (fun _ => rfl) rfl ex36 rfl rfl ?_
 refine LP_ev ok 2 [(18, .pointer (some ⟨b22, 2, none⟩))] 3 rfl rfl ?_
 have ex37 := (ex25.ext x33)
 refine LP_ldbox 3 (v := sl a18 b.Where c19) rfl rfl rfl ti_22 ag_22 (fun _ => rfl) rfl ex37 rfl rfl ?_
 have ex39 := (((ex5.ext x).ext x24).ext x33)
 have ex40 := (((ex17.ext x).ext x24).ext x33)
 refine LP_call 4 rfl rfl rfl cal_17 rfl (laws_eqIntS_w _ _ _ H wx32 r4 ex39 r16 ex40) ?_
 rintro _ wx41 ⟨r38, H, rfl, x42⟩
 refine LP_ev ok 5 [(21, .bool (!r38))] 6 rfl rfl ?_
 refine LP_end _ rfl ?_
 refine W_cond (!r38) rfl (fun hc43 => ?_) (fun hc43 => ?_)
 ·have H := H.1 hc43
  refine W_seq ?_
  refine W_region ?_
  refine LP_ev ok 0 [(4, .bool false)] 1 rfl rfl ?_
  refine LP_end _ rfl ?_
  refine W_ret ?_
  have X44 := ((((X.stepx x).stepx x24).stepx x33).stepx x42)
  exact ⟨_, Ret_of [.bool false] ⟨⟨rfl, rfl⟩, trivial⟩, _, H, rfl, X44.ext⟩
 have H := H.2 hc43
 refine W_skip ?_
 refine W_seq ?_
 refine W_seq ?_
 refine W_region ?_
 refine LP_ev ok 0 [(22, .pointer (some ⟨b20, 3, none⟩))] 1 rfl rfl ?_
 have ex45 := (ex36.ext x42)
 refine LP_ldbox 1 (v := I a.Sum) rfl rfl rfl ti_3 ag_3 (fun _ => rfl) rfl ex45 rfl rfl ?_
 refine LP_ev ok 2 [(24, .pointer (some ⟨b22, 3, none⟩))] 3 rfl rfl ?_
 have ex46 := (ex37.ext x42)
 refine LP_ldbox 3 (v := I b.Sum) rfl rfl rfl ti_3 ag_3 (fun _ => rfl) rfl ex46 rfl rfl ?_
 refine LP_ev ok 4 [(26, .bool (a.Sum != b.Sum))] 5 rfl rfl ?_
 refine LP_end _ rfl ?_
 try refine W_forget [(26, .bool (a.Sum != b.Sum))] ⟨rfl, trivial⟩ fun ρ => ?_
 refine W_cond (a.Sum != b.Sum) rfl (fun hc47 => ?_) (fun hc47 => ?_)
 ·have H := H.1 hc47
  refine W_seq ?_
  refine W_region ?_
  refine LP_ev ok 0 [(4, .bool false)] 1 rfl rfl ?_
  refine LP_end _ rfl ?_
  refine W_ret ?_
  have X48 := ((((X.stepx x).stepx x24).stepx x33).stepx x42)
  exact ⟨_, Ret_of [.bool false] ⟨⟨rfl, rfl⟩, trivial⟩, _, H, rfl, X48.ext⟩
 have H := H.2 hc47
 refine W_skip ?_
 refine W_seq ?_
 refine W_region ?_
 refine LP_ev ok 0 [(4, .bool true)] 1 rfl rfl ?_
 refine LP_end _ rfl ?_
 refine W_ret ?_
 have X49 := ((((X.stepx x).stepx x24).stepx x33).stepx x42)
 exact ⟨_, Ret_of [.bool true] ⟨⟨rfl, rfl⟩, trivial⟩, _, H, rfl, X49.ext⟩

theorem laws_eqPublished_w (a : Published) (b : Published) (Q : Bool → Prop) (H : laws_eqPublished a b Q) (w : World) {vx : Value} {hx : PH} (r : RS hx vx a.Table.Vars) (ex : Sub hx w) {vx2 : Value} {hx3 : PH} (r4 : RS hx3 vx2 a.Table.Where) (ex5 : Sub hx3 w) {vx8 : Value} {hx9 : PH} (r10 : RS hx9 vx8 a.Cells) (ex11 : Sub hx9 w) {vx14 : Value} {hx15 : PH} (r16 : RS hx15 vx14 b.Table.Vars) (ex17 : Sub hx15 w) {vx20 : Value} {hx21 : PH} (r22 : RS hx21 vx20 b.Table.Where) (ex23 : Sub hx21 w) {vx26 : Value} {hx27 : PH} (r28 : RS hx27 vx26 b.Cells) (ex29 : Sub hx27 w) :
  CallsTo Tryz.prog 68 #[.agg #[I a.Table.Level, vx, vx2, I a.Table.Sum, vx8], .agg #[I b.Table.Level, vx14, vx20, I b.Table.Sum, vx26]] w fun v w' => ∃ r0, Q r0 ∧ v = .bool r0 ∧ Ext w w' := by
 obtain ⟨a1, c, rfl⟩ := r.shape
 obtain ⟨a6, c7, rfl⟩ := r4.shape
 obtain ⟨a12, c13, rfl⟩ := r10.shape
 obtain ⟨a18, c19, rfl⟩ := r16.shape
 obtain ⟨a24, c25, rfl⟩ := r22.shape
 obtain ⟨a30, c31, rfl⟩ := r28.shape
 refine enter (args := [.agg #[I a.Table.Level, sl a1 a.Table.Vars c, sl a6 a.Table.Where c7, I a.Table.Sum, sl a12 a.Cells c13], .agg #[I b.Table.Level, sl a18 b.Table.Vars c19, sl a24 b.Table.Where c25, I b.Table.Sum, sl a30 b.Cells c31]]) 17 Tryz.func68 rfl rfl rfl ?_
 refine W_forget [(0, .agg #[I a.Table.Level, sl a1 a.Table.Vars c, sl a6 a.Table.Where c7, I a.Table.Sum, sl a12 a.Cells c13]), (1, .agg #[I b.Table.Level, sl a18 b.Table.Vars c19, sl a24 b.Table.Where c25, I b.Table.Sum, sl a30 b.Cells c31])] ⟨rfl, rfl, trivial⟩ fun ρ => ?_
 have X := But.refl emp w
 refine W_seq ?_
 refine W_region ?_
 refine LP_box 0 (cs := [I a.Table.Level, sl a1 a.Table.Vars c, sl a6 a.Table.Where c7, I a.Table.Sum, sl a12 a.Cells c13]) rfl rfl rfl rfl rfl fun b32 wx x ex33 f => ?_
 refine LP_box 1 (cs := [I b.Table.Level, sl a18 b.Table.Vars c19, sl a24 b.Table.Where c25, I b.Table.Sum, sl a30 b.Cells c31]) rfl rfl rfl rfl rfl fun b34 wx35 x36 ex37 f38 => ?_
 refine LP_ev ok 2 [(4, .bool false)] 3 rfl rfl ?_
 refine LP_end _ rfl ?_
 refine W_seq ?_
 refine W_seq ?_
 refine W_region ?_
 refine LP_ev ok 0 [(5, pb b32)] 1 rfl rfl ?_
 have ex39 := (ex33.ext x36)
 refine LP_ldbox 1 (v := .agg #[I a.Table.Level, sl a1 a.Table.Vars c, sl a6 a.Table.Where c7, I a.Table.Sum]) rfl rfl rfl ti_62 ag_62 (fun h => by cases h) rfl ex39 rfl rfl ?_
 refine LP_ev ok 2 [(7, pb b34)] 3 rfl rfl ?_
 refine LP_ldbox 3 (v := .agg #[I b.Table.Level, sl a18 b.Table.Vars c19, sl a24 b.Table.Where c25, I b.Table.Sum]) rfl rfl rfl ti_62 ag_62 (fun h => by cases h) rfl ex37 rfl rfl ?_
 have ex41 := ((ex.ext x).ext x36)
 have ex42 := ((ex5.ext x).ext x36)
 have ex43 := ((ex17.ext x).ext x36)
 have ex44 := ((ex23.ext x).ext x36)
 refine LP_call 4 rfl rfl rfl cal_123 rfl (laws_eqTable_w _ _ _ H wx35 r ex41 r4 ex42 r16 ex43 r22 ex44) ?_
 rintro _ wx45 ⟨r40, H, rfl, x46⟩
 refine LP_ev ok 5 [(10, .bool (!r40))] 6 rfl rfl ?_
 refine LP_end _ rfl ?_
 refine W_cond (!r40) rfl (fun hc => ?_) (fun hc => ?_)
 ·have H := H.1 hc
  refine W_seq ?_
  refine W_region ?_
  refine LP_ev ok 0 [(4, .bool false)] 1 rfl rfl ?_
  refine LP_end _ rfl ?_
  refine W_ret ?_
  have X47 := (((X.stepx x).stepx x36).stepx x46)
  exact ⟨_, Ret_of [.bool false] ⟨⟨rfl, rfl⟩, trivial⟩, _, H, rfl, X47.ext⟩
 have H := H.2 hc
 refine W_skip ?_
 refine W_seq ?_
 refine W_seq ?_
 refine W_region ?_
 refine LP_ev ok 0 [(11, .pointer (some ⟨b32, 4, none⟩))] 1 rfl rfl ?_
 have ex48 := (ex39.ext x46)
 refine LP_ldbox 1 (v := sl a12 a.Cells c13) rfl rfl rfl ti_22 ag_22 (fun _ => rfl) rfl ex48 rfl rfl ?_
 refine LP_ev ok 2 [(13, .pointer (some ⟨b34, 4, none⟩))] 3 rfl rfl ?_
 have ex49 := (ex37.ext x46)
 refine LP_ldbox 3 (v := sl a30 b.Cells c31) rfl rfl rfl ti_22 ag_22 (fun _ => rfl) rfl ex49 rfl rfl ?_
 have ex51 := (((ex11.ext x).ext x36).ext x46)
 have ex52 := (((ex29.ext x).ext x36).ext x46)
 refine LP_call 4 rfl rfl rfl cal_17 rfl (laws_eqIntS_w _ _ _ H wx45 r10 ex51 r28 ex52) ?_
 rintro _ wx53 ⟨r50, H, rfl, x54⟩
 refine LP_ev ok 5 [(16, .bool (!r50))] 6 rfl rfl ?_
 refine LP_end _ rfl ?_
 refine W_cond (!r50) rfl (fun hc55 => ?_) (fun hc55 => ?_)
 ·have H := H.1 hc55
  refine W_seq ?_
  refine W_region ?_
  refine LP_ev ok 0 [(4, .bool false)] 1 rfl rfl ?_
  refine LP_end _ rfl ?_
  refine W_ret ?_
  have X56 := ((((X.stepx x).stepx x36).stepx x46).stepx x54)
  exact ⟨_, Ret_of [.bool false] ⟨⟨rfl, rfl⟩, trivial⟩, _, H, rfl, X56.ext⟩
 have H := H.2 hc55
 refine W_skip ?_
 refine W_seq ?_
 refine W_region ?_
 refine LP_ev ok 0 [(4, .bool true)] 1 rfl rfl ?_
 refine LP_end _ rfl ?_
 refine W_ret ?_
 have X57 := ((((X.stepx x).stepx x36).stepx x46).stepx x54)
 exact ⟨_, Ret_of [.bool true] ⟨⟨rfl, rfl⟩, trivial⟩, _, H, rfl, X57.ext⟩

theorem laws_eqPublishedS_w (a : List Published) (b : List Published) (Q : Bool → Prop) (H : laws_eqPublishedS a b Q) (w : World) {vx : Value} {hx : PH} (r : RS hx vx a) (ex : Sub hx w) {vx2 : Value} {hx3 : PH} (r4 : RS hx3 vx2 b) (ex5 : Sub hx3 w) :
  CallsTo Tryz.prog 20 #[vx, vx2] w fun v w' => ∃ r0, Q r0 ∧ v = .bool r0 ∧ Ext w w' := by
 obtain ⟨a1, c, rfl⟩ := r.shape
 obtain ⟨a6, c7, rfl⟩ := r4.shape
 refine enter (args := [sl a1 a c, sl a6 b c7]) 27 Tryz.func20 rfl rfl rfl ?_
 refine W_forget [(0, sl a1 a c), (1, sl a6 b c7)] ⟨rfl, rfl, trivial⟩ fun ρ => ?_
 have X := But.refl emp w
 refine W_seq ?_
 refine W_region ?_
 refine LP_ev ok 0 [(4, .bool false)] 1 rfl rfl ?_
 refine LP_end _ rfl ?_
 refine W_seq ?_
 refine W_seq ?_
 refine W_region ?_
 refine LP_ev ok 0 [(6, sl a1 a c), (7, I (ln a)), (8, sl a6 b c7), (9, I (ln b)), (10, .bool ((ln a) != (ln b)))] 5 rfl rfl ?_
 refine LP_end _ rfl ?_
 refine W_cond ((ln a) != (ln b)) rfl (fun hc => ?_) (fun hc => ?_)
 ·have H := H.1 hc
  refine W_seq ?_
  refine W_region ?_
  refine LP_ev ok 0 [(4, .bool false)] 1 rfl rfl ?_
  refine LP_end _ rfl ?_
  refine W_ret ?_
  exact ⟨_, Ret_of [.bool false] ⟨⟨rfl, rfl⟩, trivial⟩, _, H, rfl, X.ext⟩
 have H := H.2 hc
 refine W_skip ?_
 refine W_seq ?_
 refine W_seq ?_
 refine W_region ?_
 refine LP_ev ok 0 [(5, I 0)] 1 rfl rfl ?_
 refine LP_end _ rfl ?_
 refine W_block ?_
 obtain ⟨J, m, Hx, H⟩ := H
 refine W_loop (S := Int) (fun s ρ' w' => J s ∧ ∃ (ρ : Env), ρ' = setAll [(0, sl a1 a c), (1, sl a6 b c7), (5, I s)] ρ ∧ But emp w w' ∧ Sub hx w' ∧ Sub hx3 w') (fun s => m s) 0 ⟨Hx, _, env_eq ⟨rfl, rfl, rfl, trivial⟩, X, ex, ex5⟩ ?_
 rintro i _ wx ⟨Hi, ρ, rfl, X10, ex8, ex9⟩
 have H := H i Hi
 refine W_seq ?_
 refine W_seq ?_
 refine W_region ?_
 refine LP_ev ok 0 [(11, I i), (12, sl a1 a c), (13, I (ln a)), (14, .bool (decide (i < (ln a))))] 4 rfl rfl ?_
 refine LP_end _ rfl ?_
 refine W_cond (decide (i < (ln a))) rfl (fun hc11 => ?_) (fun hc11 => ?_)
 ·have H := H.1 hc11
  refine W_skip ?_
  refine W_seq ?_
  refine W_block ?_
  refine W_seq ?_
  refine W_quiet mix (by kernel_rfl) ?_
  refine QP_ev ok 0 [(17, sl a1 a c), (18, I i)] 2 rfl rfl ?_
  obtain ⟨x, hi, hx12, H⟩ := H
  refine QP_index 2 rfl rfl rfl Tryz.underlying36 ti_81 rfl rfl r hi hx12 fun a13 cs r14 d => ?_
  have d15 := d
  obtain ⟨u, u17, u19, rfl, r16, r18, r20⟩ := Published_rd d15
  obtain ⟨a21, c22, rfl⟩ := r16.shape
  obtain ⟨a23, c24, rfl⟩ := r18.shape
  obtain ⟨a25, c26, rfl⟩ := r20.shape
  refine QP_load 3 rfl rfl rfl ti_81 ag_81 rfl r14 d ex8 fun vx27 r28 => ?_
  obtain ⟨u29, u31, u33, rfl, r30, r32, r34⟩ := Published_rv r28
  obtain ⟨a35, c36, rfl⟩ := r30.shape
  obtain ⟨a37, c38, rfl⟩ := r32.shape
  obtain ⟨a39, c40, rfl⟩ := r34.shape
  refine QP_ev ok 4 [(21, sl a6 b c7), (22, I i)] 6 rfl rfl ?_
  obtain ⟨x41, hi42, hx43, H⟩ := H
  refine QP_index 6 rfl rfl rfl Tryz.underlying36 ti_81 rfl rfl r4 hi42 hx43 fun a44 cs45 r46 d47 => ?_
  have d48 := d47
  obtain ⟨u49, u51, u53, rfl, r50, r52, r54⟩ := Published_rd d48
  obtain ⟨a55, c56, rfl⟩ := r50.shape
  obtain ⟨a57, c58, rfl⟩ := r52.shape
  obtain ⟨a59, c60, rfl⟩ := r54.shape
  refine QP_load 7 rfl rfl rfl ti_81 ag_81 rfl r46 d47 ex9 fun vx61 r62 => ?_
  obtain ⟨u63, u65, u67, rfl, r64, r66, r68⟩ := Published_rv r62
  obtain ⟨a69, c70, rfl⟩ := r64.shape
  obtain ⟨a71, c72, rfl⟩ := r66.shape
  obtain ⟨a73, c74, rfl⟩ := r68.shape
  obtain ⟨r75, Hd, H⟩ := H
  refine QP_call (.bool r75) 8 rfl rfl rfl cal_68 rfl (fun wx76 x77 => (laws_eqPublished_w _ _ _ Hd wx76 r30 (ex8.ext x77) r32 (ex8.ext x77) r34 (ex8.ext x77) r64 (ex9.ext x77) r66 (ex9.ext x77) r68 (ex9.ext x77)).mono ?_) ?_
  ·rintro _ _ ⟨_, rfl, rfl, x⟩; exact ⟨rfl, x⟩
  refine QP_ev ok 9 [(26, .bool (!r75))] 10 rfl rfl ?_
  refine QP_end _ rfl fun wx78 x79 => ?_
  refine W_cond (!r75) rfl (fun hc80 => ?_) (fun hc80 => ?_)
  ·have H := H.1 hc80
   refine W_seq ?_
   refine W_region ?_
   refine LP_ev ok 0 [(4, .bool false)] 1 rfl rfl ?_
   refine LP_end _ rfl ?_
   refine W_ret ?_
   have X81 := (X10.stepx x79)
   exact ⟨_, Ret_of [.bool false] ⟨⟨rfl, rfl⟩, trivial⟩, _, H, rfl, X81.ext⟩
  have H := H.2 hc80
  refine W_skip ?_
  refine W_region ?_
  refine LP_ev ok 0 [(15, I i), (16, I (wr (i + 1))), (5, I (wr (i + 1)))] 3 rfl rfl ?_
  refine LP_end _ rfl ?_
  have X82 := (X10.stepx x79)
  have ex83 := (ex8.ext x79)
  have ex84 := (ex9.ext x79)
  exact ⟨wr (i + 1), ⟨H.1, _, env_eq ⟨rfl, rfl, rfl, trivial⟩, X82, ex83, ex84⟩, H.2⟩
 have H := H.2 hc11
 refine W_exit ?_
 refine (if_pos rfl).mpr ?_
 refine W_seq ?_
 refine W_region ?_
 refine LP_ev ok 0 [(4, .bool true)] 1 rfl rfl ?_
 refine LP_end _ rfl ?_
 refine W_ret ?_
 exact ⟨_, Ret_of [.bool true] ⟨⟨rfl, rfl⟩, trivial⟩, _, H, rfl, X10.ext⟩

theorem laws_markIntS_w (a : List Int) (k : Int) (Q : Int → (List Int) → Prop) (H : laws_markIntS a k Q) (w : World) {vx : Value} {hx : PH} (r : OS 3 hx emp vx a) (ex : Sub hx w) :
  CallsTo Tryz.prog 24 #[vx, I k] w fun v w' => ∃ r0 m1 k1, Q r0 m1 ∧ v = I r0 ∧ But hx w w' ∧ OS 3 k1 emp vx m1 ∧ Sub k1 w' ∧ (∀ n, DomLe hx n k1) := by
 obtain ⟨a1, c, rfl⟩ := r.shape
 refine enter (args := [sl a1 a c, I k]) 19 Tryz.func24 rfl rfl rfl ?_
 refine W_forget [(0, sl a1 a c), (1, I k)] ⟨rfl, rfl, trivial⟩ fun ρ => ?_
 have D : Dom hx hx := (Dom.refl _)
 have X := But.refl hx w
 refine W_seq ?_
 refine W_region ?_
 refine LP_ev ok 0 [(4, I 0)] 1 rfl rfl ?_
 refine LP_end _ rfl ?_
 refine W_seq ?_
 refine W_seq ?_
 refine W_region ?_
 refine LP_ev ok 0 [(5, I 0)] 1 rfl rfl ?_
 refine LP_end _ rfl ?_
 refine W_block ?_
 obtain ⟨J, m, Hx, H⟩ := H
 refine W_loop (S := (List Int) × Int × Int) (fun s ρ' w' => J s.1 s.2.1 s.2.2 ∧ ∃ (ρ : Env) (hx4 : PH), ρ' = setAll [(0, sl a1 a c), (1, I s.2.1), (5, I s.2.2)] ρ ∧ But hx w w' ∧ OS 3 hx4 emp (sl a1 a c) s.1 ∧ Sub hx4 w' ∧ (∀ n, DomLe hx n hx4)) (fun s => m s.1 s.2.1 s.2.2) (a, k, 0) ⟨Hx, _, hx, env_eq ⟨rfl, rfl, rfl, trivial⟩, X, r, ex, (fun _ => DomLe.refl _ _)⟩ ?_
 rintro ⟨a2, k6, i⟩ _ wx ⟨Hi, ρ, hx4, rfl, X7, o, ex5, f⟩
 have H := H a2 k6 i Hi
 refine W_seq ?_
 refine W_seq ?_
 refine W_region ?_
 refine LP_ev ok 0 [(6, I i), (7, sl a1 a c), (8, I (ln a)), (9, .bool (decide (i < (ln a))))] 4 rfl rfl ?_
 refine LP_end _ rfl ?_
 refine W_cond (decide (i < (ln a))) rfl (fun hc => ?_) (fun hc => ?_)
 ·have H := H.1 hc
  refine W_skip ?_
  refine W_seq ?_
  refine W_block ?_
  refine W_seq ?_
  refine W_region ?_
  refine LP_ev ok 0 [(12, sl a1 a c), (13, I i), (14, I k6)] 3 rfl rfl ?_
  obtain ⟨hi, hl, H⟩ := H
  refine LP_indexw (v := sl a1 a c) 3 rfl rfl rfl Tryz.underlying22 ti_3 rfl rfl o hi hl fun a8 wa => ?_
  refine LP_set 4 rfl rfl rfl rfl rfl wa (Le.refl emp) ⟨_, rfl, rfl⟩ ex5 fun hx9 wx10 o11 ex12 y dm => ?_
  refine LP_end _ rfl ?_
  refine W_region ?_
  refine LP_ev ok 0 [(16, I k6), (17, I (wr (k6 + 1))), (1, I (wr (k6 + 1)))] 3 rfl rfl ?_
  refine LP_end _ rfl ?_
  refine W_region ?_
  refine LP_ev ok 0 [(10, I i), (11, I (wr (i + 1))), (5, I (wr (i + 1)))] 3 rfl rfl ?_
  refine LP_end _ rfl ?_
  have X13 := (X7.step y (DomLe.dom D (f _)))
  exact ⟨(List.set a2 (Int.toNat i) k6, wr (k6 + 1), wr (i + 1)), ⟨H.1, _, hx9, env_eq ⟨rfl, rfl, rfl, trivial⟩, X13, o11, ex12, (fun _ => DomLe.trans (f _) ((dm _)) (Nat.le_refl _))⟩, H.2⟩
 have H := H.2 hc
 refine W_exit ?_
 refine (if_pos rfl).mpr ?_
 refine W_seq ?_
 refine W_region ?_
 refine LP_ev ok 0 [(18, I k6), (4, I k6)] 2 rfl rfl ?_
 refine LP_end _ rfl ?_
 refine W_ret ?_
 exact ⟨_, Ret_of [I k6] ⟨⟨rfl, rfl⟩, trivial⟩, _, _, _, H, rfl, X7, o, ex5, (fun _ => f _)⟩

theorem laws_markGeo_w (a : Geo) (k : Int) (Q : Int → (List Int) → Prop) (H : laws_markGeo a k Q) (w : World) {vx : Value} {hx : PH} (r : OS 3 hx emp vx a.Parents) (ex : Sub hx w) :
  CallsTo Tryz.prog 21 #[.agg #[vx], I k] w fun v w' => ∃ r0 m1 k1, Q r0 m1 ∧ v = I r0 ∧ But hx w w' ∧ OS 3 k1 emp vx m1 ∧ Sub k1 w' ∧ (∀ n, DomLe hx n k1) := by
 obtain ⟨a1, c, rfl⟩ := r.shape
 refine enter (args := [.agg #[sl a1 a.Parents c], I k]) 10 Tryz.func21 rfl rfl rfl ?_
 refine W_forget [(0, .agg #[sl a1 a.Parents c]), (1, I k)] ⟨rfl, rfl, trivial⟩ fun ρ => ?_
 have D : Dom hx hx := (Dom.refl _)
 have X := But.refl hx w
 refine W_seq ?_
 refine W_region ?_
 refine LP_box 0 (cs := [sl a1 a.Parents c]) rfl rfl rfl rfl rfl fun b wx x ex2 f => ?_
 refine LP_ev ok 1 [(4, I 0)] 2 rfl rfl ?_
 refine LP_end _ rfl ?_
 refine W_seq ?_
 refine W_region ?_
 refine LP_ev ok 0 [(5, pb b)] 1 rfl rfl ?_
 refine LP_ldbox 1 (v := sl a1 a.Parents c) rfl rfl rfl ti_22 ag_22 (fun _ => rfl) rfl ex2 rfl rfl ?_
 refine LP_ev ok 2 [(7, I k)] 3 rfl rfl ?_
 have ex5 := (ex.ext x)
 refine LP_call 3 rfl rfl rfl cal_24 rfl (laws_markIntS_w _ _ _ H wx r ex5) ?_
 rintro _ wx6 ⟨r3, r4, hx8, H, rfl, x7, o, ex9, dm⟩
 refine LP_ev ok 4 [(1, I r3)] 5 rfl rfl ?_
 refine LP_end _ rfl ?_
 refine W_seq ?_
 refine W_region ?_
 refine LP_ev ok 0 [(9, I r3), (4, I r3)] 2 rfl rfl ?_
 refine LP_end _ rfl ?_
 refine W_ret ?_
 have X10 := ((X.stepx x).step x7 (Dom.le D _))
 exact ⟨_, Ret_of [I r3] ⟨⟨rfl, rfl⟩, trivial⟩, _, _, _, H, rfl, X10, o, ex9, (fun _ => DomLe.trans (DomLe.refl _ _) ((dm _)) (Nat.le_refl _))⟩

theorem laws_markText_w (k : Int) (Q : ByteArray → Prop) (H : laws_markText k Q) (w : World)  :
  CallsTo Tryz.prog 69 #[I k] w fun v w' => ∃ r0, Q r0 ∧ v = .string r0 ∧ Ext w w' := by
 refine enter (args := [I k]) 20 Tryz.func69 rfl rfl rfl ?_
 refine W_forget [(0, I k)] ⟨rfl, trivial⟩ fun ρ => ?_
 have X := But.refl emp w
 refine W_seq ?_
 refine W_region ?_
 refine LP_ev ok 0 [(2, .string ((ByteArray.mk #[])))] 1 rfl rfl ?_
 refine LP_end _ rfl ?_
 refine W_seq ?_
 refine W_seq ?_
 refine W_region ?_
 refine LP_ev ok 0 [(4, I k), (5, .bool (decide (k ≤ 0)))] 2 rfl rfl ?_
 refine LP_end _ rfl ?_
 refine W_cond (decide (k ≤ 0)) rfl (fun hc => ?_) (fun hc => ?_)
 ·have H := H.1 hc
  refine W_seq ?_
  refine W_region ?_
  refine LP_ev ok 0 [(2, .string ((ByteArray.mk #[109, 48])))] 1 rfl rfl ?_
  refine LP_end _ rfl ?_
  refine W_ret ?_
  exact ⟨_, Ret_of [.string ((ByteArray.mk #[109, 48]))] ⟨⟨rfl, rfl⟩, trivial⟩, _, H, rfl, X.ext⟩
 have H := H.2 hc
 refine W_skip ?_
 refine W_seq ?_
 refine W_region ?_
 refine LP_ev ok 0 [(3, .string ((ByteArray.mk #[])))] 1 rfl rfl ?_
 refine LP_end _ rfl ?_
 refine W_seq ?_
 refine W_block ?_
 obtain ⟨J, m, Hx, H⟩ := H
 refine W_loop (S := Int × ByteArray) (fun s ρ' w' => J s.1 s.2 ∧ ∃ (ρ : Env), ρ' = setAll [(0, I s.1), (3, .string s.2)] ρ ∧ But emp w w') (fun s => m s.1 s.2) (k, (ByteArray.mk #[])) ⟨Hx, _, env_eq ⟨rfl, rfl, trivial⟩, X⟩ ?_
 rintro ⟨k1, out⟩ _ wx ⟨Hi, ρ, rfl, X2⟩
 have H := H k1 out Hi
 refine W_seq ?_
 refine W_seq ?_
 refine W_region ?_
 refine LP_ev ok 0 [(6, I k1), (7, .bool (decide (k1 > 0)))] 2 rfl rfl ?_
 refine LP_end _ rfl ?_
 refine W_cond (decide (k1 > 0)) rfl (fun hc3 => ?_) (fun hc3 => ?_)
 ·have H := H.1 hc3
  refine W_skip ?_
  refine W_block ?_
  refine W_seq ?_
  refine W_region ?_
  refine LP_ev ok 0 [(8, I k1)] 1 rfl rfl ?_
  refine LP_val 1 _ rfl rfl (ex_rem rfl rfl rfl (by decide) _) ?_
  refine LP_ev ok 2 [(10, I (wr (48 + (Int.tmod k1 10)))), (11, .int .u8 (IntKind.u8.wrap (wr (48 + (Int.tmod k1 10)))))] 4 rfl rfl ?_
  refine LP_lit (α := B8) (g := emp) 4 (vs := [.int .u8 (IntKind.u8.wrap (wr (48 + (Int.tmod k1 10))))]) (xs := [(B8.mk (IntKind.u8.wrap (wr (48 + (Int.tmod k1 10)))))]) rfl rfl rfl Tryz.underlying49 ti_5 rfl rfl ⟨⟨_, rfl, rfl⟩, trivial⟩ rfl rfl fun hx vx wx4 x o ex f => ?_
  obtain ⟨a, c, rfl⟩ := o.shape
  refine LP_val 5 _ rfl rfl (ex_b2s rfl Tryz.underlying49 Tryz.underlying5 Tryz.underlying9 rfl o.readf _ ex) ?_
  refine LP_ev ok 6 [(14, .string out)] 7 rfl rfl ?_
  obtain ⟨hz, H⟩ := H
  refine LP_val 7 _ rfl rfl (ex_sadd rfl rfl rfl hz _) ?_
  refine LP_ev ok 8 [(3, .string ((b2s ([(B8.mk (IntKind.u8.wrap (wr (48 + (Int.tmod k1 10)))))])) ++ out))] 9 rfl rfl ?_
  refine LP_end _ rfl ?_
  refine W_region ?_
  refine LP_ev ok 0 [(16, I k1)] 1 rfl rfl ?_
  refine LP_val 1 _ rfl rfl (ex_quo rfl rfl rfl (by decide) _) ?_
  refine LP_ev ok 2 [(0, I (wr (Int.tdiv k1 10)))] 3 rfl rfl ?_
  refine LP_end _ rfl ?_
  have X5 := (X2.stepx x)
  exact ⟨(wr (Int.tdiv k1 10), (b2s ([(B8.mk (IntKind.u8.wrap (wr (48 + (Int.tmod k1 10)))))])) ++ out), ⟨H.1, _, env_eq ⟨rfl, rfl, trivial⟩, X5⟩, H.2⟩
 have H := H.2 hc3
 refine W_exit ?_
 refine (if_pos rfl).mpr ?_
 refine W_seq ?_
 refine W_region ?_
 refine LP_ev ok 0 [(18, .string out)] 1 rfl rfl ?_
 obtain ⟨hz6, H⟩ := H
 refine LP_val 1 _ rfl rfl (ex_sadd rfl rfl rfl hz6 _) ?_
 refine LP_ev ok 2 [(2, .string (((ByteArray.mk #[109])) ++ out))] 3 rfl rfl ?_
 refine LP_end _ rfl ?_
 refine W_ret ?_
 exact ⟨_, Ret_of [.string (((ByteArray.mk #[109])) ++ out)] ⟨⟨rfl, rfl⟩, trivial⟩, _, H, rfl, X2.ext⟩

theorem laws_markVariableS_w (a : List Variable) (k : Int) (Q : Int → (List Variable) → Prop) (H : laws_markVariableS a k Q) (w : World) {vx : Value} {hx : PH} (r : OS 98 hx emp vx a) (ex : Sub hx w) :
  CallsTo Tryz.prog 22 #[vx, I k] w fun v w' => ∃ r0 m1 k1, Q r0 m1 ∧ v = I r0 ∧ But hx w w' ∧ OS 98 k1 emp vx m1 ∧ Sub k1 w' ∧ (∀ n, DomLe hx n k1) := by
 obtain ⟨a1, c, rfl⟩ := r.shape
 refine enter (args := [sl a1 a c, I k]) 28 Tryz.func22 rfl rfl rfl ?_
 refine W_forget [(0, sl a1 a c), (1, I k)] ⟨rfl, rfl, trivial⟩ fun ρ => ?_
 have D : Dom hx hx := (Dom.refl _)
 have X := But.refl hx w
 refine W_seq ?_
 refine W_region ?_
 refine LP_ev ok 0 [(4, I 0)] 1 rfl rfl ?_
 refine LP_end _ rfl ?_
 refine W_seq ?_
 refine W_seq ?_
 refine W_region ?_
 refine LP_ev ok 0 [(5, I 0)] 1 rfl rfl ?_
 refine LP_end _ rfl ?_
 refine W_block ?_
 obtain ⟨J, m, Hx, H⟩ := H
 refine W_loop (S := (List Variable) × Int × Int) (fun s ρ' w' => J s.1 s.2.1 s.2.2 ∧ ∃ (ρ : Env) (hx4 : PH), ρ' = setAll [(0, sl a1 a c), (1, I s.2.1), (5, I s.2.2)] ρ ∧ But hx w w' ∧ OS 98 hx4 emp (sl a1 a c) s.1 ∧ Sub hx4 w' ∧ (∀ n, DomLe hx n hx4)) (fun s => m s.1 s.2.1 s.2.2) (a, k, 0) ⟨Hx, _, hx, env_eq ⟨rfl, rfl, rfl, trivial⟩, X, r, ex, (fun _ => DomLe.refl _ _)⟩ ?_
 rintro ⟨a2, k6, i⟩ _ wx ⟨Hi, ρ, hx4, rfl, X7, o, ex5, f⟩
 have H := H a2 k6 i Hi
 refine W_seq ?_
 refine W_seq ?_
 refine W_region ?_
 refine LP_ev ok 0 [(6, I i), (7, sl a1 a c), (8, I (ln a)), (9, .bool (decide (i < (ln a))))] 4 rfl rfl ?_
 refine LP_end _ rfl ?_
 refine W_cond (decide (i < (ln a))) rfl (fun hc => ?_) (fun hc => ?_)
 ·have H := H.1 hc
  refine W_skip ?_
  refine W_seq ?_
  refine W_block ?_
  refine W_seq ?_
  refine W_region ?_
  refine LP_ev ok 0 [(12, sl a1 a c), (13, I i), (14, I k6)] 3 rfl rfl ?_
  refine LP_call 3 rfl rfl rfl cal_69 rfl (laws_markText_w _ _ H wx ) ?_
  rintro _ wx9 ⟨r8, H, rfl, x⟩
  obtain ⟨x10, hi, hx11, H⟩ := H
  refine LP_indexf (v := sl a1 a c) 4 rfl rfl rfl Tryz.underlying34 ti_98 rfl rfl o hi hx11 fun a12 wa => ?_
  refine LP_ev ok 5 [(17, .pointer (some (Addr.add a12 0)))] 6 rfl rfl ?_
  have ex17 := (ex5.ext x)
  refine LP_setf 6 (x := x10) (vs := [.string r8]) (y := ({x10 with Name := r8} : Variable)) rfl rfl rfl ti_9 rfl rfl rfl rfl rfl rfl wa ex17 rfl fun hx13 wx14 o15 ex16 y dm => ?_
  refine LP_end _ rfl ?_
  refine W_seq ?_
  refine W_region ?_
  refine LP_ev ok 0 [(18, I k6), (19, I (wr (k6 + 1))), (1, I (wr (k6 + 1)))] 3 rfl rfl ?_
  refine LP_end _ rfl ?_
  refine W_seq ?_
  refine W_region ?_
  refine LP_ev ok 0 [(20, sl a1 a c), (21, I i), (22, I (wr (k6 + 1)))] 3 rfl rfl ?_
  obtain ⟨x18, hi19, hx20, H⟩ := H
  refine LP_indexf (v := sl a1 a c) 3 rfl rfl rfl Tryz.underlying34 ti_98 rfl rfl o15 hi19 hx20 fun a21 wa22 => ?_
  refine LP_ev ok 4 [(24, .pointer (some (Addr.add a21 1)))] 5 rfl rfl ?_
  refine LP_setf 5 (x := x18) (vs := [I (wr (k6 + 1))]) (y := ({x18 with Levels := wr (k6 + 1)} : Variable)) rfl rfl rfl ti_3 rfl rfl rfl rfl rfl rfl wa22 ex16 rfl fun hx23 wx24 o25 ex26 y27 dm28 => ?_
  refine LP_end _ rfl ?_
  refine W_region ?_
  refine LP_ev ok 0 [(25, I (wr (k6 + 1))), (26, I (wr ((wr (k6 + 1)) + 1))), (1, I (wr ((wr (k6 + 1)) + 1)))] 3 rfl rfl ?_
  refine LP_end _ rfl ?_
  refine W_region ?_
  refine LP_ev ok 0 [(10, I i), (11, I (wr (i + 1))), (5, I (wr (i + 1)))] 3 rfl rfl ?_
  refine LP_end _ rfl ?_
  try refine W_forget [(0, sl a1 a c), (1, I (wr ((wr (k6 + 1)) + 1))), (5, I (wr (i + 1)))] ⟨rfl, rfl, rfl, trivial⟩ fun ρ => ?_
  have X29 := (X7.stepx x)
  have X30 := (((X7.stepx x).step y (DomLe.dom D (f _))).step y27 (DomLe.trans (DomLe.dom D (f _)) (dm _) X29.size))
  exact ⟨(List.set (List.set a2 (Int.toNat i) ({x10 with Name := r8} : Variable)) (Int.toNat i) ({x18 with Levels := wr (k6 + 1)} : Variable), wr ((wr (k6 + 1)) + 1), wr (i + 1)), ⟨H.1, _, hx23, env_eq ⟨rfl, rfl, rfl, trivial⟩, X30, o25, ex26, (fun _ => DomLe.trans (DomLe.trans (f _) ((dm _)) (Nat.le_refl _)) ((dm28 _)) (Nat.le_refl _))⟩, H.2⟩
 have H := H.2 hc
 refine W_exit ?_
 refine (if_pos rfl).mpr ?_
 refine W_seq ?_
 refine W_region ?_
 refine LP_ev ok 0 [(27, I k6), (4, I k6)] 2 rfl rfl ?_
 refine LP_end _ rfl ?_
 refine W_ret ?_
 exact ⟨_, Ret_of [I k6] ⟨⟨rfl, rfl⟩, trivial⟩, _, _, _, H, rfl, X7, o, ex5, (fun _ => f _)⟩

theorem laws_markPublishedS_w (a : List Published) (k : Int) (Q : Int → (List Published) → Prop) (H : laws_markPublishedS a k Q) (w : World) {vx : Value} {hx : PH} (r : OD hx vx a) (ex : Sub hx w) :
  CallsTo Tryz.prog 23 #[vx, I k] w fun v w' => ∃ r0 m1 k1, Q r0 m1 ∧ v = I r0 ∧ But hx w w' ∧ OD k1 vx m1 ∧ Sub k1 w' ∧ (∀ n, DomLe hx n k1) := by
 obtain ⟨a1, c, rfl⟩ := r.shape
 refine enter (args := [sl a1 a c, I k]) 52 Tryz.func23 rfl rfl rfl ?_
 refine W_forget [(0, sl a1 a c), (1, I k)] ⟨rfl, rfl, trivial⟩ fun ρ => ?_
 have D : Dom hx hx := (Dom.refl _)
 have X := But.refl hx w
 refine W_seq ?_
 refine W_region ?_
 refine LP_ev ok 0 [(4, I 0)] 1 rfl rfl ?_
 refine LP_end _ rfl ?_
 refine W_seq ?_
 refine W_seq ?_
 refine W_region ?_
 refine LP_ev ok 0 [(5, I 0)] 1 rfl rfl ?_
 refine LP_end _ rfl ?_
 refine W_block ?_
 obtain ⟨J, m, Hx, H⟩ := H
 refine W_loop (S := (List Published) × Int × Int) (fun s ρ' w' => J s.1 s.2.1 s.2.2 ∧ ∃ (ρ : Env) (hx4 : PH), ρ' = setAll [(0, sl a1 a c), (1, I s.2.1), (5, I s.2.2)] ρ ∧ But hx w w' ∧ OD hx4 (sl a1 a c) s.1 ∧ Sub hx4 w' ∧ (∀ n, DomLe hx n hx4)) (fun s => m s.1 s.2.1 s.2.2) (a, k, 0) ⟨Hx, _, hx, env_eq ⟨rfl, rfl, rfl, trivial⟩, X, r, ex, (fun _ => DomLe.refl _ _)⟩ ?_
 rintro ⟨a2, k6, i⟩ _ wx ⟨Hi, ρ, hx4, rfl, X7, o, ex5, f⟩
 have H := H a2 k6 i Hi
 refine W_seq ?_
 refine W_seq ?_
 refine W_region ?_
 refine LP_ev ok 0 [(6, I i), (7, sl a1 a c), (8, I (ln a)), (9, .bool (decide (i < (ln a))))] 4 rfl rfl ?_
 refine LP_end _ rfl ?_
 refine W_cond (decide (i < (ln a))) rfl (fun hc => ?_) (fun hc => ?_)
 ·have H := H.1 hc
  refine W_skip ?_
  refine W_seq ?_
  refine W_block ?_
  refine W_seq ?_
  refine W_region ?_
  refine LP_ev ok 0 [(12, sl a1 a c), (13, I i), (14, I k6)] 3 rfl rfl ?_
  obtain ⟨x, hi, hx8, H⟩ := H
  refine LP_indexF (v := sl a1 a c) 3 rfl rfl rfl Tryz.underlying36 ti_81 rfl rfl o hi hx8 fun a9 wa => ?_
  refine LP_ev ok 4 [(16, .pointer (some (Addr.add a9 0))), (17, .pointer (some (Addr.add (Addr.add a9 0) 0)))] 6 rfl rfl ?_
  refine LP_setfD2 (o1 := 0) (o2 := 0) 6 (x := x) (vs := [I k6]) (y := ({x with Table.Level := k6} : Published)) rfl rfl rfl ti_3 rfl rfl rfl rfl rfl Published_ft0 wa ex5 rfl fun hx10 wx11 o12 ex13 y dm => ?_
  refine LP_end _ rfl ?_
  refine W_seq ?_
  refine W_region ?_
  refine LP_ev ok 0 [(18, I k6), (19, I (wr (k6 + 1))), (1, I (wr (k6 + 1)))] 3 rfl rfl ?_
  refine LP_end _ rfl ?_
  refine W_seq ?_
  refine W_region ?_
  refine LP_ev ok 0 [(20, sl a1 a c), (21, I i)] 2 rfl rfl ?_
  obtain ⟨x14, hi15, hx16, H⟩ := H
  refine LP_indexB (v := sl a1 a c) 2 rfl rfl rfl Tryz.underlying36 ti_81 rfl rfl o12 hi15 hx16 fun a17 c18 hx19 rest r20 bw => ?_
  refine LP_ev ok 3 [(23, .pointer (some (Addr.add a17 0))), (24, .pointer (some (Addr.add (Addr.add a17 0) 1)))] 5 rfl rfl ?_
  obtain ⟨u, u21, u22, hx23, rest24, rfl, bw25⟩ := Published_bw1 bw
  have o26 := bw25.od
  obtain ⟨a27, c28, rfl⟩ := o26.shape
  refine LP_ldpart2 (o1 := 0) (o2 := 1) 5 (v := sl a27 x14.Table.Vars c28) rfl rfl rfl ti_22 ag_22 (fun _ => rfl) rfl r20 ex13 rfl rfl ?_
  have ex29 := Sub.le ex13 bw25.le
  have o30 : OS 3 hx23 emp (sl a27 x14.Table.Vars c28) x14.Table.Vars := OD.flat o26
  refine LP_ev ok 6 [(26, I (wr (k6 + 1)))] 7 rfl rfl ?_
  refine LP_call 7 rfl rfl rfl cal_24 rfl (laws_markIntS_w _ _ _ H wx11 o30 ex29) ?_
  rintro _ wx33 ⟨r31, r32, hx35, H, rfl, x34, o36, ex37, dm38⟩
  obtain ⟨bw39, o40, dd⟩ := BwG.turn bw25 (OS.od o36) (Dom.of dm38)
  have ex41 := BwG.sub bw25 ex13 ex37 x34
  have y42 := BwG.but bw25 x34
  refine LP_ev ok 8 [(1, I r31)] 9 rfl rfl ?_
  refine LP_end _ rfl ?_
  refine W_seq ?_
  refine W_region ?_
  refine LP_ev ok 0 [(28, sl a1 a c), (29, I i)] 2 rfl rfl ?_
  obtain ⟨x43, hi44, hx45, H⟩ := H
  refine LP_indexB (v := sl a1 a c) 2 rfl rfl rfl Tryz.underlying36 ti_81 rfl rfl o40 hi44 hx45 fun a46 c47 hx48 rest49 r50 bw51 => ?_
  refine LP_ev ok 3 [(31, .pointer (some (Addr.add a46 0))), (32, .pointer (some (Addr.add (Addr.add a46 0) 2)))] 5 rfl rfl ?_
  obtain ⟨u52, u53, u54, hx55, rest56, rfl, bw57⟩ := Published_bw2 bw51
  have o58 := bw57.od
  obtain ⟨a59, c60, rfl⟩ := o58.shape
  refine LP_ldpart2 (o1 := 0) (o2 := 2) 5 (v := sl a59 x43.Table.Where c60) rfl rfl rfl ti_22 ag_22 (fun _ => rfl) rfl r50 ex41 rfl rfl ?_
  have ex61 := Sub.le ex41 bw57.le
  have o62 : OS 3 hx55 emp (sl a59 x43.Table.Where c60) x43.Table.Where := OD.flat o58
  refine LP_ev ok 6 [(34, I r31)] 7 rfl rfl ?_
  refine LP_call 7 rfl rfl rfl cal_24 rfl (laws_markIntS_w _ _ _ H wx33 o62 ex61) ?_
  rintro _ wx65 ⟨r63, r64, hx67, H, rfl, x66, o68, ex69, dm70⟩
  obtain ⟨bw71, o72, dd73⟩ := BwG.turn bw57 (OS.od o68) (Dom.of dm70)
  have ex74 := BwG.sub bw57 ex41 ex69 x66
  have y75 := BwG.but bw57 x66
  refine LP_ev ok 8 [(1, I r63)] 9 rfl rfl ?_
  refine LP_end _ rfl ?_
  try refine W_forget [(0, sl a1 a c), (1, I r63), (5, I i)] ⟨rfl, rfl, rfl, trivial⟩ fun ρ => ?_
  refine W_seq ?_
  refine W_region ?_
  refine LP_ev ok 0 [(36, sl a1 a c), (37, I i), (38, I r63)] 3 rfl rfl ?_
  obtain ⟨x76, hi77, hx78, H⟩ := H
  refine LP_indexF (v := sl a1 a c) 3 rfl rfl rfl Tryz.underlying36 ti_81 rfl rfl o72 hi77 hx78 fun a79 wa80 => ?_
  refine LP_ev ok 4 [(40, .pointer (some (Addr.add a79 0))), (41, .pointer (some (Addr.add (Addr.add a79 0) 3)))] 6 rfl rfl ?_
  refine LP_setfD2 (o1 := 0) (o2 := 3) 6 (x := x76) (vs := [I r63]) (y := ({x76 with Table.Sum := r63} : Published)) rfl rfl rfl ti_3 rfl rfl rfl rfl rfl Published_ft3 wa80 ex74 rfl fun hx81 wx82 o83 ex84 y85 dm86 => ?_
  refine LP_end _ rfl ?_
  refine W_seq ?_
  refine W_region ?_
  refine LP_ev ok 0 [(42, I r63), (43, I (wr (r63 + 1))), (1, I (wr (r63 + 1)))] 3 rfl rfl ?_
  refine LP_end _ rfl ?_
  refine W_region ?_
  refine LP_ev ok 0 [(44, sl a1 a c), (45, I i)] 2 rfl rfl ?_
  obtain ⟨x87, hi88, hx89, H⟩ := H
  refine LP_indexB (v := sl a1 a c) 2 rfl rfl rfl Tryz.underlying36 ti_81 rfl rfl o83 hi88 hx89 fun a90 c91 hx92 rest93 r94 bw95 => ?_
  refine LP_ev ok 3 [(47, .pointer (some (Addr.add a90 4)))] 4 rfl rfl ?_
  obtain ⟨u96, u97, u98, hx99, rest100, rfl, bw101⟩ := Published_bw4 bw95
  have o102 := bw101.od
  obtain ⟨a103, c104, rfl⟩ := o102.shape
  refine LP_ldpart (off := 4) 4 (v := sl a103 x87.Cells c104) rfl rfl rfl ti_22 ag_22 (fun _ => rfl) rfl r94 ex84 rfl rfl ?_
  have ex105 := Sub.le ex84 bw101.le
  have o106 : OS 3 hx99 emp (sl a103 x87.Cells c104) x87.Cells := OD.flat o102
  refine LP_ev ok 5 [(49, I (wr (r63 + 1)))] 6 rfl rfl ?_
  refine LP_call 6 rfl rfl rfl cal_24 rfl (laws_markIntS_w _ _ _ H wx82 o106 ex105) ?_
  rintro _ wx109 ⟨r107, r108, hx111, H, rfl, x110, o112, ex113, dm114⟩
  obtain ⟨bw115, o116, dd117⟩ := BwG.turn bw101 (OS.od o112) (Dom.of dm114)
  have ex118 := BwG.sub bw101 ex84 ex113 x110
  have y119 := BwG.but bw101 x110
  refine LP_ev ok 7 [(1, I r107)] 8 rfl rfl ?_
  refine LP_end _ rfl ?_
  refine W_region ?_
  refine LP_ev ok 0 [(10, I i), (11, I (wr (i + 1))), (5, I (wr (i + 1)))] 3 rfl rfl ?_
  refine LP_end _ rfl ?_
  have X120 := (X7.step y (DomLe.dom D (f _)))
  have X121 := (X120.step y42 (DomLe.trans (DomLe.dom D (f _)) (dm _) X7.size))
  have X122 := (X121.step y75 (DomLe.trans (DomLe.trans (DomLe.dom D (f _)) (dm _) X7.size) ((fun n => Dom.le dd n) _) X120.size))
  have X123 := (((((X7.step y (DomLe.dom D (f _))).step y42 (DomLe.trans (DomLe.dom D (f _)) (dm _) X7.size)).step y75 (DomLe.trans (DomLe.trans (DomLe.dom D (f _)) (dm _) X7.size) ((fun n => Dom.le dd n) _) X120.size)).step y85 (DomLe.trans (DomLe.trans (DomLe.trans (DomLe.dom D (f _)) (dm _) X7.size) ((fun n => Dom.le dd n) _) X120.size) ((fun n => Dom.le dd73 n) _) X121.size)).step y119 (DomLe.trans (DomLe.trans (DomLe.trans (DomLe.trans (DomLe.dom D (f _)) (dm _) X7.size) ((fun n => Dom.le dd n) _) X120.size) ((fun n => Dom.le dd73 n) _) X121.size) (dm86 _) X122.size))
  exact ⟨(List.set (List.set (List.set (List.set (List.set a2 (Int.toNat i) ({x with Table.Level := k6} : Published)) (Int.toNat i) ({x14 with Table.Vars := r32} : Published)) (Int.toNat i) ({x43 with Table.Where := r64} : Published)) (Int.toNat i) ({x76 with Table.Sum := r63} : Published)) (Int.toNat i) ({x87 with Cells := r108} : Published), r107, wr (i + 1)), ⟨H.1, _, (un hx111 rest100), env_eq ⟨rfl, rfl, rfl, trivial⟩, X123, o116, ex118, (fun _ => DomLe.trans (DomLe.trans (DomLe.trans (DomLe.trans (DomLe.trans (f _) ((dm _)) (Nat.le_refl _)) (((fun n => Dom.le dd n) _)) (Nat.le_refl _)) (((fun n => Dom.le dd73 n) _)) (Nat.le_refl _)) ((dm86 _)) (Nat.le_refl _)) (((fun n => Dom.le dd117 n) _)) (Nat.le_refl _))⟩, H.2⟩
 have H := H.2 hc
 refine W_exit ?_
 refine (if_pos rfl).mpr ?_
 refine W_seq ?_
 refine W_region ?_
 refine LP_ev ok 0 [(51, I k6), (4, I k6)] 2 rfl rfl ?_
 refine LP_end _ rfl ?_
 refine W_ret ?_
 exact ⟨_, Ret_of [I k6] ⟨⟨rfl, rfl⟩, trivial⟩, _, _, _, H, rfl, X7, o, ex5, (fun _ => f _)⟩

theorem laws_heldIntS_w (a : List Int) (k : Int) (Q : Int → Prop) (H : laws_heldIntS a k Q) (w : World) {vx : Value} {hx : PH} (r : RS hx vx a) (ex : Sub hx w) :
  CallsTo Tryz.prog 25 #[vx, I k] w fun v w' => ∃ r0, Q r0 ∧ v = I r0 ∧ Ext w w' := by
 obtain ⟨a1, c, rfl⟩ := r.shape
 refine enter (args := [sl a1 a c, I k]) 21 Tryz.func25 rfl rfl rfl ?_
 refine W_forget [(0, sl a1 a c), (1, I k)] ⟨rfl, rfl, trivial⟩ fun ρ => ?_
 have X := But.refl emp w
 refine W_seq ?_
 refine W_region ?_
 refine LP_ev ok 0 [(4, I 0)] 1 rfl rfl ?_
 refine LP_end _ rfl ?_
 refine W_seq ?_
 refine W_seq ?_
 refine W_region ?_
 refine LP_ev ok 0 [(5, I 0)] 1 rfl rfl ?_
 refine LP_end _ rfl ?_
 refine W_block ?_
 obtain ⟨J, m, Hx, H⟩ := H
 refine W_loop (S := Int × Int) (fun s ρ' w' => J s.1 s.2 ∧ ∃ (ρ : Env), ρ' = setAll [(0, sl a1 a c), (1, I s.1), (5, I s.2)] ρ ∧ w = w') (fun s => m s.1 s.2) (k, 0) ⟨Hx, _, env_eq ⟨rfl, rfl, rfl, trivial⟩, rfl⟩ ?_
 rintro ⟨k2, i⟩ _ _ ⟨Hi, ρ, rfl, rfl⟩
 have H := H k2 i Hi
 refine W_seq ?_
 refine W_seq ?_
 refine W_region ?_
 refine LP_ev ok 0 [(6, I i), (7, sl a1 a c), (8, I (ln a)), (9, .bool (decide (i < (ln a))))] 4 rfl rfl ?_
 refine LP_end _ rfl ?_
 refine W_cond (decide (i < (ln a))) rfl (fun hc => ?_) (fun hc => ?_)
 ·have H := H.1 hc
  refine W_skip ?_
  refine W_seq ?_
  refine W_block ?_
  refine W_seq ?_
  refine W_seq ?_
  refine W_region ?_
  refine LP_ev ok 0 [(12, sl a1 a c), (13, I i)] 2 rfl rfl ?_
  obtain ⟨x, hi, hx3, H⟩ := H
  refine LP_index 2 rfl rfl rfl Tryz.underlying22 ti_3 rfl rfl r hi hx3 fun a4 cs r5 d => ?_
  refine LP_load 3 rfl rfl rfl ti_3 ag_3 rfl r5 d ex fun vx6 r7 => ?_
  obtain rfl := r7.int
  refine LP_ev ok 4 [(16, I k2), (17, .bool (x != k2))] 6 rfl rfl ?_
  refine LP_end _ rfl ?_
  refine W_cond (x != k2) rfl (fun hc8 => ?_) (fun hc8 => ?_)
  ·have H := H.1 hc8
   refine W_seq ?_
   refine W_region ?_
   refine LP_ev ok 0 [(4, I ((-1)))] 1 rfl rfl ?_
   refine LP_end _ rfl ?_
   refine W_ret ?_
   exact ⟨_, Ret_of [I ((-1))] ⟨⟨rfl, rfl⟩, trivial⟩, _, H, rfl, X.ext⟩
  have H := H.2 hc8
  refine W_skip ?_
  refine W_region ?_
  refine LP_ev ok 0 [(18, I k2), (19, I (wr (k2 + 1))), (1, I (wr (k2 + 1)))] 3 rfl rfl ?_
  refine LP_end _ rfl ?_
  refine W_region ?_
  refine LP_ev ok 0 [(10, I i), (11, I (wr (i + 1))), (5, I (wr (i + 1)))] 3 rfl rfl ?_
  refine LP_end _ rfl ?_
  exact ⟨(wr (k2 + 1), wr (i + 1)), ⟨H.1, _, env_eq ⟨rfl, rfl, rfl, trivial⟩, rfl⟩, H.2⟩
 have H := H.2 hc
 refine W_exit ?_
 refine (if_pos rfl).mpr ?_
 refine W_seq ?_
 refine W_region ?_
 refine LP_ev ok 0 [(20, I k2), (4, I k2)] 2 rfl rfl ?_
 refine LP_end _ rfl ?_
 refine W_ret ?_
 exact ⟨_, Ret_of [I k2] ⟨⟨rfl, rfl⟩, trivial⟩, _, H, rfl, X.ext⟩

theorem laws_FnExactFirstSurvey_w (aG : Geo) (aS : List Variable) (aPubs : List Published) (aN : Int) (Q : Bool → Prop) (H : laws_FnExactFirstSurvey aG aS aPubs aN Q) (w : World) {vx : Value} {hx : PH} (r : RS hx vx aG.Parents) (ex : Sub hx w) {vx1 : Value} {hx2 : PH} (r3 : RS hx2 vx1 aS) (ex4 : Sub hx2 w) {vx7 : Value} {hx8 : PH} (r9 : RS hx8 vx7 aPubs) (ex10 : Sub hx8 w) :
  CallsTo Tryz.prog 3 #[.agg #[vx], vx1, vx7, I aN] w fun v w' => ∃ r0, Q r0 ∧ v = .bool r0 ∧ Ext w w' := by
 obtain ⟨a, c, rfl⟩ := r.shape
 obtain ⟨a5, c6, rfl⟩ := r3.shape
 obtain ⟨a11, c12, rfl⟩ := r9.shape
 refine enter (args := [.agg #[sl a aG.Parents c], sl a5 aS c6, sl a11 aPubs c12, I aN]) 147 Tryz.func3 rfl rfl rfl ?_
 refine W_forget [(0, .agg #[sl a aG.Parents c]), (1, sl a5 aS c6), (2, sl a11 aPubs c12), (3, I aN)] ⟨rfl, rfl, rfl, rfl, trivial⟩ fun ρ => ?_
 have X := But.refl emp w
 refine W_seq ?_
 refine W_region ?_
 refine LP_box 0 (cs := [sl a aG.Parents c]) rfl rfl rfl rfl rfl fun b wx x ex13 f => ?_
 refine LP_ev ok 1 [(8, .bool false)] 2 rfl rfl ?_
 refine LP_end _ rfl ?_
 refine W_seq ?_
 refine W_region ?_
 refine LP_ev ok 0 [(9, I 1048576)] 1 rfl rfl ?_
 refine LP_end _ rfl ?_
 refine W_seq ?_
 refine W_region ?_
 refine LP_ldbox 0 (v := .agg #[sl a aG.Parents c]) rfl rfl rfl ti_24 ag_24 (fun h => by cases h) rfl ex13 rfl rfl ?_
 refine LP_ev ok 1 [(23, I 1048576)] 2 rfl rfl ?_
 have ex15 := (ex.ext x)
 refine LP_call 2 rfl rfl rfl cal_9 rfl (laws_szGeo_w _ _ _ H wx r ex15) ?_
 rintro _ wx16 ⟨r14, H, rfl, x17⟩
 refine LP_ev ok 3 [(9, I r14)] 4 rfl rfl ?_
 refine LP_end _ rfl ?_
 refine W_seq ?_
 refine W_seq ?_
 refine W_region ?_
 refine LP_ev ok 0 [(25, I r14), (26, .bool (decide (r14 < 0)))] 2 rfl rfl ?_
 refine LP_end _ rfl ?_
 refine W_cond (decide (r14 < 0)) rfl (fun hc => ?_) (fun hc => ?_)
 ·have H := H.1 hc
  refine W_seq ?_
  refine W_region ?_
  refine LP_ev ok 0 [(8, .bool true)] 1 rfl rfl ?_
  refine LP_end _ rfl ?_
  refine W_ret ?_
  have X18 := ((X.stepx x).stepx x17)
  exact ⟨_, Ret_of [.bool true] ⟨⟨rfl, rfl⟩, trivial⟩, _, H, rfl, X18.ext⟩
 have H := H.2 hc
 refine W_skip ?_
 refine W_seq ?_
 refine W_region ?_
 refine LP_ev ok 0 [(27, sl a5 aS c6), (28, I r14)] 2 rfl rfl ?_
 have ex20 := ((ex4.ext x).ext x17)
 refine LP_call 2 rfl rfl rfl cal_10 rfl (laws_szVariableS_w _ _ _ H wx16 r3 ex20) ?_
 rintro _ wx21 ⟨r19, H, rfl, x22⟩
 refine LP_ev ok 3 [(9, I r19)] 4 rfl rfl ?_
 refine LP_end _ rfl ?_
 refine W_seq ?_
 refine W_seq ?_
 refine W_region ?_
 refine LP_ev ok 0 [(30, I r19), (31, .bool (decide (r19 < 0)))] 2 rfl rfl ?_
 refine LP_end _ rfl ?_
 refine W_cond (decide (r19 < 0)) rfl (fun hc23 => ?_) (fun hc23 => ?_)
 ·have H := H.1 hc23
  refine W_seq ?_
  refine W_region ?_
  refine LP_ev ok 0 [(8, .bool true)] 1 rfl rfl ?_
  refine LP_end _ rfl ?_
  refine W_ret ?_
  have X24 := (((X.stepx x).stepx x17).stepx x22)
  exact ⟨_, Ret_of [.bool true] ⟨⟨rfl, rfl⟩, trivial⟩, _, H, rfl, X24.ext⟩
 have H := H.2 hc23
 refine W_skip ?_
 refine W_seq ?_
 refine W_region ?_
 refine LP_ev ok 0 [(32, sl a11 aPubs c12), (33, I r19)] 2 rfl rfl ?_
 have ex26 := (((ex10.ext x).ext x17).ext x22)
 refine LP_call 2 rfl rfl rfl cal_11 rfl (laws_szPublishedS_w _ _ _ H wx21 r9 ex26) ?_
 rintro _ wx27 ⟨r25, H, rfl, x28⟩
 refine LP_ev ok 3 [(9, I r25)] 4 rfl rfl ?_
 refine LP_end _ rfl ?_
 refine W_seq ?_
 refine W_seq ?_
 refine W_region ?_
 refine LP_ev ok 0 [(35, I r25), (36, .bool (decide (r25 < 0)))] 2 rfl rfl ?_
 refine LP_end _ rfl ?_
 refine W_cond (decide (r25 < 0)) rfl (fun hc29 => ?_) (fun hc29 => ?_)
 ·have H := H.1 hc29
  refine W_seq ?_
  refine W_region ?_
  refine LP_ev ok 0 [(8, .bool true)] 1 rfl rfl ?_
  refine LP_end _ rfl ?_
  refine W_ret ?_
  have X30 := ((((X.stepx x).stepx x17).stepx x22).stepx x28)
  exact ⟨_, Ret_of [.bool true] ⟨⟨rfl, rfl⟩, trivial⟩, _, H, rfl, X30.ext⟩
 have H := H.2 hc29
 refine W_skip ?_
 refine W_seq ?_
 refine W_region ?_
 have ex31 := (((ex13.ext x17).ext x22).ext x28)
 refine LP_ldbox 0 (v := .agg #[sl a aG.Parents c]) rfl rfl rfl ti_24 ag_24 (fun h => by cases h) rfl ex31 rfl rfl ?_
 have ex33 := (((ex15.ext x17).ext x22).ext x28)
 refine LP_call 1 rfl rfl rfl cal_13 rfl (laws_toGeo_w _ _ H wx27 r ex33) ?_
 rintro _ wx34 ⟨r32, vx36, hx37, H, rfl, x35, o, ex38, f39⟩
 obtain ⟨a40, c41, rfl⟩ := o.shape
 refine LP_ev ok 2 [(40, sl a5 aS c6)] 3 rfl rfl ?_
 have ex43 := (((ex20.ext x22).ext x28).ext x35)
 refine LP_call 3 rfl rfl rfl cal_14 rfl (laws_toVariableS_w _ _ H wx34 r3 ex43) ?_
 rintro _ wx44 ⟨r42, vx46, hx47, H, rfl, x45, o48, ex49, f50⟩
 obtain ⟨a51, c52, rfl⟩ := o48.shape
 refine LP_ev ok 4 [(42, sl a11 aPubs c12)] 5 rfl rfl ?_
 have ex54 := (((ex26.ext x28).ext x35).ext x45)
 refine LP_call 5 rfl rfl rfl cal_15 rfl (laws_toPublishedS_w _ _ H wx44 r9 ex54) ?_
 rintro _ wx55 ⟨r53, vx57, hx58, H, rfl, x56, o59, ex60, f61⟩
 obtain ⟨a62, c63, rfl⟩ := o59.shape
 refine LP_ev ok 6 [(44, I aN)] 7 rfl rfl ?_
 have ex66 := ((ex38.ext x45).ext x56)
 have ex67 := (ex49.ext x56)
 refine LP_call 7 rfl rfl rfl cal_12 rfl (spec_FirstSurvey_w _ _ _ _ _ H wx55 o.readf ex66 o48.readf ex67 o59.readf ex60) ?_
 rintro _ wx68 ⟨r64, r65, vx70, hx71, H, rfl, x69, o72, ex73, f74⟩
 obtain ⟨a75, c76, rfl⟩ := o72.shape
 refine LP_ev ok 8 [(37, .tuple #[sl a75 r64 c76, .bool r65]), (46, sl a75 r64 c76), (47, .bool r65), (10, sl a75 r64 c76), (11, .bool r65)] 13 rfl rfl ?_
 refine LP_end _ rfl ?_
 try refine W_forget [(1, sl a5 aS c6), (2, sl a11 aPubs c12), (3, I aN), (4, pb b), (10, sl a75 r64 c76), (11, .bool r65)] ⟨rfl, rfl, rfl, rfl, rfl, rfl, trivial⟩ fun ρ => ?_
 refine W_seq ?_
 refine W_region ?_
 have ex77 := ((((ex31.ext x35).ext x45).ext x56).ext x69)
 refine LP_ldbox 0 (v := .agg #[sl a aG.Parents c]) rfl rfl rfl ti_24 ag_24 (fun h => by cases h) rfl ex77 rfl rfl ?_
 have ex79 := ((((ex33.ext x35).ext x45).ext x56).ext x69)
 refine LP_call 1 rfl rfl rfl cal_13 rfl (laws_toGeo_w _ _ H wx68 r ex79) ?_
 rintro _ wx80 ⟨r78, vx82, hx83, H, rfl, x81, o84, ex85, f86⟩
 obtain ⟨a87, c88, rfl⟩ := o84.shape
 refine LP_alloc 2 rfl rfl rfl ti_32 rfl fun b89 wx90 x91 ex92 f93 => ?_
 refine LP_stbox 3 (vs := [sl a87 r78.Parents c88]) (cs' := [sl a87 r78.Parents c88]) rfl rfl rfl ti_32 rfl rfl rfl rfl rfl ex92 rfl rfl fun wx94 ex95 y => ?_
 refine LP_end _ rfl ?_
 refine W_seq ?_
 refine W_region ?_
 refine LP_ev ok 0 [(50, sl a5 aS c6)] 1 rfl rfl ?_
 have ex97 := ((((ex43.ext x45).ext x56).ext x69).ext x81)
 have ex98 := ((((((ex43.ext x45).ext x56).ext x69).ext x81).ext x91).but y (Dj.of_fresh ex97 f93).symm)
 refine LP_call 1 rfl rfl rfl cal_14 rfl (laws_toVariableS_w _ _ H wx94 r3 ex98) ?_
 rintro _ wx99 ⟨r96, vx101, hx102, H, rfl, x100, o103, ex104, f105⟩
 obtain ⟨a106, c107, rfl⟩ := o103.shape
 refine LP_ev ok 2 [(13, sl a106 r96 c107)] 3 rfl rfl ?_
 refine LP_end _ rfl ?_
 refine W_seq ?_
 refine W_region ?_
 refine LP_ev ok 0 [(52, sl a11 aPubs c12)] 1 rfl rfl ?_
 have ex109 := (((ex54.ext x56).ext x69).ext x81)
 have ex110 := ((((((ex54.ext x56).ext x69).ext x81).ext x91).but y (Dj.of_fresh ex109 f93).symm).ext x100)
 refine LP_call 1 rfl rfl rfl cal_15 rfl (laws_toPublishedS_w _ _ H wx99 r9 ex110) ?_
 rintro _ wx111 ⟨r108, vx113, hx114, H, rfl, x112, o115, ex116, f117⟩
 obtain ⟨a118, c119, rfl⟩ := o115.shape
 refine LP_ev ok 2 [(14, sl a118 r108 c119)] 3 rfl rfl ?_
 refine LP_end _ rfl ?_
 refine W_seq ?_
 refine W_region ?_
 have ex120 := ((ex95.ext x100).ext x112)
 refine LP_ldbox 0 (v := .agg #[sl a87 r78.Parents c88]) rfl rfl rfl ti_32 ag_32 (fun h => by cases h) rfl ex120 rfl rfl ?_
 refine LP_ev ok 1 [(56, sl a106 r96 c107), (57, sl a118 r108 c119), (58, I aN)] 4 rfl rfl ?_
 have ex123 := ((((ex85.ext x91).but y (Dj.of_fresh ex85 f93).symm).ext x100).ext x112)
 have ex124 := (ex104.ext x112)
 refine LP_call 4 rfl rfl rfl cal_16 rfl (impl_FirstSurvey_w _ _ _ _ _ H wx111 o84.readf ex123 o103.readf ex124 o115.readf ex116) ?_
 rintro _ wx125 ⟨r121, r122, vx127, hx128, H, rfl, x126, o129, ex130, f131⟩
 obtain ⟨a132, c133, rfl⟩ := o129.shape
 refine LP_ev ok 5 [(54, .tuple #[sl a132 r121 c133, .bool r122]), (60, sl a132 r121 c133), (61, .bool r122), (15, sl a132 r121 c133), (16, .bool r122)] 10 rfl rfl ?_
 refine LP_end _ rfl ?_
 refine W_seq ?_
 obtain ⟨k, hk, H⟩ := jn_elim H
 refine W_join2 (S := Bool) (fun s ρ' w' => k s ∧ ∃ (ρ : Env), ρ' = setAll [(1, sl a5 aS c6), (2, sl a11 aPubs c12), (3, I aN), (4, pb b), (10, sl a75 r64 c76), (11, .bool r65), (12, pb b89), (13, sl a106 r96 c107), (14, sl a118 r108 c119), (15, sl a132 r121 c133), (16, .bool r122), (70, .bool s)] ρ ∧ But emp w w' ∧ Sub hx w' ∧ Sub hx2 w' ∧ Sub hx8 w' ∧ Sub (bx b 24 [sl a aG.Parents c]) w' ∧ Sub hx71 w' ∧ Sub hx83 w' ∧ Sub (bx b89 32 [sl a87 r78.Parents c88]) w' ∧ Sub hx102 w' ∧ Sub hx114 w' ∧ Sub hx128 w') ?_ ?_
 ·refine W_region ?_
  refine LP_ev ok 0 [(62, sl a132 r121 c133), (63, sl a75 r64 c76)] 2 rfl rfl ?_
  have ex148 := (ex73.ext x81)
  have ex149 := ((((((ex73.ext x81).ext x91).but y (Dj.of_fresh ex148 f93).symm).ext x100).ext x112).ext x126)
  refine LP_call 2 rfl rfl rfl cal_17 rfl (laws_eqIntS_w _ _ _ H wx125 o129.readf ex130 o72 ex149) ?_
  rintro _ wx150 ⟨r147, H, rfl, x151⟩
  refine LP_ev ok 3 [(65, .bool (!r147)), (66, .bool (!r147))] 5 rfl rfl ?_
  refine LP_split 66 (!r147) rfl (fun hc152 => ?_) (fun hc152 => ?_)
  ·have H := H.1 hc152
   refine LP_ev ok 5 [(67, undef), (68, undef), (69, undef), (70, .bool true)] 9 rfl rfl ?_
   refine LP_end _ rfl ?_
   try refine W_forget [(1, sl a5 aS c6), (2, sl a11 aPubs c12), (3, I aN), (4, pb b), (10, sl a75 r64 c76), (11, .bool r65), (12, pb b89), (13, sl a106 r96 c107), (14, sl a118 r108 c119), (15, sl a132 r121 c133), (16, .bool r122), (70, .bool true)] ⟨rfl, rfl, rfl, rfl, rfl, rfl, rfl, rfl, rfl, rfl, rfl, rfl, trivial⟩ fun ρ => ?_
   have X154 := (((((((((X.stepx x).stepx x17).stepx x22).stepx x28).stepx x35).stepx x45).stepx x56).stepx x69).stepx x81)
   have f153 := f93.mono X154.size
   have X155 := (((((((((((((((X.stepx x).stepx x17).stepx x22).stepx x28).stepx x35).stepx x45).stepx x56).stepx x69).stepx x81).stepx x91).step y (f153.dom _)).stepx x100).stepx x112).stepx x126).stepx x151)
   have ex156 := (ex79.ext x81)
   have ex157 := (((((((ex79.ext x81).ext x91).but y (Dj.of_fresh ex156 f93).symm).ext x100).ext x112).ext x126).ext x151)
   have ex158 := ((((ex98.ext x100).ext x112).ext x126).ext x151)
   have ex159 := (((ex110.ext x112).ext x126).ext x151)
   have ex160 := (ex77.ext x81)
   have ex161 := (((((((ex77.ext x81).ext x91).but y (Dj.of_fresh ex160 f93).symm).ext x100).ext x112).ext x126).ext x151)
   have ex162 := (ex149.ext x151)
   have ex163 := ((ex123.ext x126).ext x151)
   have ex164 := ((ex120.ext x126).ext x151)
   have ex165 := ((ex124.ext x126).ext x151)
   have ex166 := ((ex116.ext x126).ext x151)
   have ex167 := (ex130.ext x151)
   exact ⟨true, H, _, env_eq ⟨rfl, rfl, rfl, rfl, rfl, rfl, rfl, rfl, rfl, rfl, rfl, rfl, trivial⟩, X155, ex157, ex158, ex159, ex161, ex162, ex163, ex164, ex165, ex166, ex167⟩
  have H := H.2 hc152
  refine LP_ev ok 5 [(67, .bool r122), (68, .bool r65), (69, .bool (r122 != r65)), (70, .bool (r122 != r65))] 9 rfl rfl ?_
  refine LP_end _ rfl ?_
  try refine W_forget [(1, sl a5 aS c6), (2, sl a11 aPubs c12), (3, I aN), (4, pb b), (10, sl a75 r64 c76), (11, .bool r65), (12, pb b89), (13, sl a106 r96 c107), (14, sl a118 r108 c119), (15, sl a132 r121 c133), (16, .bool r122), (70, .bool (r122 != r65))] ⟨rfl, rfl, rfl, rfl, rfl, rfl, rfl, rfl, rfl, rfl, rfl, rfl, trivial⟩ fun ρ => ?_
  have X169 := (((((((((X.stepx x).stepx x17).stepx x22).stepx x28).stepx x35).stepx x45).stepx x56).stepx x69).stepx x81)
  have f168 := f93.mono X169.size
  have X170 := (((((((((((((((X.stepx x).stepx x17).stepx x22).stepx x28).stepx x35).stepx x45).stepx x56).stepx x69).stepx x81).stepx x91).step y (f168.dom _)).stepx x100).stepx x112).stepx x126).stepx x151)
  have ex171 := (ex79.ext x81)
  have ex172 := (((((((ex79.ext x81).ext x91).but y (Dj.of_fresh ex171 f93).symm).ext x100).ext x112).ext x126).ext x151)
  have ex173 := ((((ex98.ext x100).ext x112).ext x126).ext x151)
  have ex174 := (((ex110.ext x112).ext x126).ext x151)
  have ex175 := (ex77.ext x81)
  have ex176 := (((((((ex77.ext x81).ext x91).but y (Dj.of_fresh ex175 f93).symm).ext x100).ext x112).ext x126).ext x151)
  have ex177 := (ex149.ext x151)
  have ex178 := ((ex123.ext x126).ext x151)
  have ex179 := ((ex120.ext x126).ext x151)
  have ex180 := ((ex124.ext x126).ext x151)
  have ex181 := ((ex116.ext x126).ext x151)
  have ex182 := (ex130.ext x151)
  exact ⟨r122 != r65, H, _, env_eq ⟨rfl, rfl, rfl, rfl, rfl, rfl, rfl, rfl, rfl, rfl, rfl, rfl, trivial⟩, X170, ex172, ex173, ex174, ex176, ex177, ex178, ex179, ex180, ex181, ex182⟩
 rintro x134 _ wx135 ⟨H, ρ, rfl, HF⟩
 revert HF
 refine bb9 fun X146 ex136 ex137 ex138 ex139 ex140 ex141 ex142 => ?_
 refine bb3 fun ex143 ex144 ex145 => ?_
 subst hk
 refine W_cond (x134) rfl (fun hc183 => ?_) (fun hc183 => ?_)
 ·have H := H.1 hc183
  refine W_seq ?_
  refine W_region ?_
  refine LP_ev ok 0 [(8, .bool false)] 1 rfl rfl ?_
  refine LP_end _ rfl ?_
  refine W_ret ?_
  exact ⟨_, Ret_of [.bool false] ⟨⟨rfl, rfl⟩, trivial⟩, _, H, rfl, X146.ext⟩
 have H := H.2 hc183
 refine W_skip ?_
 refine W_seq ?_
 refine W_seq ?_
 refine W_open mix fun wx184 x185 => ?_
 refine AP_game 3 [[], [], [1], [0, 1, 2], [0, 1, 2, 3]] [[(12, none)], [(4, none)], [(72, some 1)]] [(1, none), (2, none), (3, none), (4, none), (10, none), (11, none), (12, none), (13, none), (14, none), (15, none), (16, none), (71, some 0), (73, some 2)] [(0, false), (1, false), (2, true)] (by kernel_rfl) (by kernel_rfl) ?_
 have ex186 := (ex142.ext x185)
 refine GS_r1 [(12, pb b89)] (.agg #[sl a87 r78.Parents c88]) rfl rfl (fun _ h => h) (fun _ w e => ex_ldbox rfl ti_32 ag_32 (fun h => by cases h) rfl e rfl rfl) ex186 ?_
 have ex187 := (ex139.ext x185)
 refine GS_r1 [(4, pb b)] (.agg #[sl a aG.Parents c]) rfl rfl (fun _ h => h) (fun _ w e => ex_ldbox rfl ti_24 ag_24 (fun h => by cases h) rfl e rfl rfl) ex187 ?_
 refine GS_lp [(72, .agg #[sl a aG.Parents c])] rfl rfl (fun _ h => h) rfl fun ρ wx188 x189 => ?_
 have ex191 := ((ex136.ext x185).ext x189)
 refine LP_call 0 rfl rfl rfl cal_13 rfl (laws_toGeo_w _ _ H wx188 r ex191) ?_
 rintro _ wx192 ⟨r190, vx194, hx195, H, rfl, x193, o196, ex197, f198⟩
 obtain ⟨a199, c200, rfl⟩ := o196.shape
 have ex201 := ((ex186.ext x189).ext x193)
 refine LP_gs ⟨⟨.inl rfl, .inr ex201, trivial⟩, ?_⟩
 intro wx202 x203 ρ hn
 refine AP_forget [(1, sl a5 aS c6), (2, sl a11 aPubs c12), (3, I aN), (4, pb b), (10, sl a75 r64 c76), (11, .bool r65), (12, pb b89), (13, sl a106 r96 c107), (14, sl a118 r108 c119), (15, sl a132 r121 c133), (16, .bool r122), (71, .agg #[sl a87 r78.Parents c88]), (73, .agg #[sl a199 r190.Parents c200])] (by exact hn) fun ρ => ?_
 refine AP_tail 3 [[], [], [1], [0, 1, 2], [0, 1, 2, 3]] (by kernel_rfl) ?_
 have ex205 := ((((ex141.ext x185).ext x189).ext x193).ext x203)
 have ex206 := (ex197.ext x203)
 refine LP_call 3 rfl rfl rfl cal_18 rfl (laws_eqGeo_w _ _ _ H wx202 o84.readf ex205 o196.readf ex206) ?_
 rintro _ wx207 ⟨r204, H, rfl, x208⟩
 refine LP_ev ok 4 [(75, .bool (!r204))] 5 rfl rfl ?_
 refine LP_end _ rfl ?_
 refine W_cond (!r204) rfl (fun hc209 => ?_) (fun hc209 => ?_)
 ·have H := H.1 hc209
  refine W_seq ?_
  refine W_region ?_
  refine LP_ev ok 0 [(8, .bool false)] 1 rfl rfl ?_
  refine LP_end _ rfl ?_
  refine W_ret ?_
  have X210 := (((((X146.stepx x185).stepx x189).stepx x193).stepx x203).stepx x208)
  exact ⟨_, Ret_of [.bool false] ⟨⟨rfl, rfl⟩, trivial⟩, _, H, rfl, X210.ext⟩
 have H := H.2 hc209
 refine W_skip ?_
 refine W_seq ?_
 refine W_seq ?_
 refine W_region ?_
 refine LP_ev ok 0 [(76, sl a106 r96 c107), (77, sl a5 aS c6)] 2 rfl rfl ?_
 have ex212 := (((((ex137.ext x185).ext x189).ext x193).ext x203).ext x208)
 refine LP_call 2 rfl rfl rfl cal_14 rfl (laws_toVariableS_w _ _ H wx207 r3 ex212) ?_
 rintro _ wx213 ⟨r211, vx215, hx216, H, rfl, x214, o217, ex218, f219⟩
 obtain ⟨a220, c221, rfl⟩ := o217.shape
 have ex223 := ((((((ex143.ext x185).ext x189).ext x193).ext x203).ext x208).ext x214)
 refine LP_call 3 rfl rfl rfl cal_19 rfl (laws_eqVariableS_w _ _ _ H wx213 o103.readf ex223 o217.readf ex218) ?_
 rintro _ wx224 ⟨r222, H, rfl, x225⟩
 refine LP_ev ok 4 [(80, .bool (!r222))] 5 rfl rfl ?_
 refine LP_end _ rfl ?_
 refine W_cond (!r222) rfl (fun hc226 => ?_) (fun hc226 => ?_)
 ·have H := H.1 hc226
  refine W_seq ?_
  refine W_region ?_
  refine LP_ev ok 0 [(8, .bool false)] 1 rfl rfl ?_
  refine LP_end _ rfl ?_
  refine W_ret ?_
  have X227 := (((((((X146.stepx x185).stepx x189).stepx x193).stepx x203).stepx x208).stepx x214).stepx x225)
  exact ⟨_, Ret_of [.bool false] ⟨⟨rfl, rfl⟩, trivial⟩, _, H, rfl, X227.ext⟩
 have H := H.2 hc226
 refine W_skip ?_
 refine W_seq ?_
 refine W_seq ?_
 refine W_region ?_
 refine LP_ev ok 0 [(81, sl a118 r108 c119), (82, sl a11 aPubs c12)] 2 rfl rfl ?_
 have ex229 := (((((((ex138.ext x185).ext x189).ext x193).ext x203).ext x208).ext x214).ext x225)
 refine LP_call 2 rfl rfl rfl cal_15 rfl (laws_toPublishedS_w _ _ H wx224 r9 ex229) ?_
 rintro _ wx230 ⟨r228, vx232, hx233, H, rfl, x231, o234, ex235, f236⟩
 obtain ⟨a237, c238, rfl⟩ := o234.shape
 have ex240 := ((((((((ex144.ext x185).ext x189).ext x193).ext x203).ext x208).ext x214).ext x225).ext x231)
 refine LP_call 3 rfl rfl rfl cal_20 rfl (laws_eqPublishedS_w _ _ _ H wx230 o115.readf ex240 o234.readf ex235) ?_
 rintro _ wx241 ⟨r239, H, rfl, x242⟩
 refine LP_ev ok 4 [(85, .bool (!r239))] 5 rfl rfl ?_
 refine LP_end _ rfl ?_
 refine W_cond (!r239) rfl (fun hc243 => ?_) (fun hc243 => ?_)
 ·have H := H.1 hc243
  refine W_seq ?_
  refine W_region ?_
  refine LP_ev ok 0 [(8, .bool false)] 1 rfl rfl ?_
  refine LP_end _ rfl ?_
  refine W_ret ?_
  have X244 := (((((((((X146.stepx x185).stepx x189).stepx x193).stepx x203).stepx x208).stepx x214).stepx x225).stepx x231).stepx x242)
  exact ⟨_, Ret_of [.bool false] ⟨⟨rfl, rfl⟩, trivial⟩, _, H, rfl, X244.ext⟩
 have H := H.2 hc243
 refine W_skip ?_
 refine W_seq ?_
 refine W_region ?_
 refine LP_ev ok 0 [(17, I 1)] 1 rfl rfl ?_
 refine LP_end _ rfl ?_
 refine W_seq ?_
 refine W_region ?_
 have ex245 := ((((((((ex186.ext x189).ext x193).ext x203).ext x208).ext x214).ext x225).ext x231).ext x242)
 refine LP_ldbox 0 (v := .agg #[sl a87 r78.Parents c88]) rfl rfl rfl ti_32 ag_32 (fun h => by cases h) rfl ex245 rfl rfl ?_
 refine LP_ev ok 1 [(87, I 1)] 2 rfl rfl ?_
 have ex248 := (((((ex205.ext x208).ext x214).ext x225).ext x231).ext x242)
 refine LP_call 2 rfl rfl rfl cal_21 rfl (laws_markGeo_w _ _ _ H wx241 o84 ex248) ?_
 rintro _ wx249 ⟨r246, r247, hx251, H, rfl, x250, o252, ex253, dm⟩
 refine LP_ev ok 3 [(17, I r246)] 4 rfl rfl ?_
 refine LP_end _ rfl ?_
 refine W_seq ?_
 refine W_region ?_
 refine LP_ev ok 0 [(89, sl a106 r96 c107), (90, I r246)] 2 rfl rfl ?_
 have ex256 := ((ex85.ext x91).but y (Dj.of_fresh ex85 f93).symm)
 have ex257 := ((((ex223.ext x225).ext x231).ext x242).but x250 (Dj.of_fresh ex256 f105))
 refine LP_call 2 rfl rfl rfl cal_22 rfl (laws_markVariableS_w _ _ _ H wx249 o103 ex257) ?_
 rintro _ wx258 ⟨r254, r255, hx260, H, rfl, x259, o261, ex262, dm263⟩
 refine LP_ev ok 3 [(17, I r254)] 4 rfl rfl ?_
 refine LP_end _ rfl ?_
 refine W_seq ?_
 refine W_region ?_
 refine LP_ev ok 0 [(92, sl a118 r108 c119), (93, I r254)] 2 rfl rfl ?_
 have ex266 := (ex256.ext x100)
 have ex267 := (((ex240.ext x242).but x250 (Dj.of_fresh ex266 f117)).but x259 (Dj.of_fresh ex104 f117))
 refine LP_call 2 rfl rfl rfl cal_23 rfl (laws_markPublishedS_w _ _ _ H wx258 o115 ex267) ?_
 rintro _ wx268 ⟨r264, r265, hx270, H, rfl, x269, o271, ex272, dm273⟩
 refine LP_ev ok 3 [(17, I r264)] 4 rfl rfl ?_
 refine LP_end _ rfl ?_
 try refine W_forget [(1, sl a5 aS c6), (2, sl a11 aPubs c12), (3, I aN), (4, pb b), (10, sl a75 r64 c76), (11, .bool r65), (15, sl a132 r121 c133), (16, .bool r122), (17, I r264)] ⟨rfl, rfl, rfl, rfl, rfl, rfl, rfl, rfl, rfl, trivial⟩ fun ρ => ?_
 refine W_seq ?_
 obtain ⟨k283, hk284, H⟩ := jn_elim H
 refine W_join2 (S := Bool) (fun s ρ' w' => k283 s ∧ ∃ (ρ : Env), ρ' = setAll [(1, sl a5 aS c6), (2, sl a11 aPubs c12), (3, I aN), (4, pb b), (10, sl a75 r64 c76), (11, .bool r65), (15, sl a132 r121 c133), (107, .bool s)] ρ ∧ But emp w w' ∧ Sub hx w' ∧ Sub hx2 w' ∧ Sub hx8 w' ∧ Sub (bx b 24 [sl a aG.Parents c]) w' ∧ Sub hx71 w' ∧ Sub hx128 w') ?_ ?_
 ·refine W_region ?_
  refine LP_ev ok 0 [(95, I r264), (96, .bool (decide (r264 < 0))), (97, .bool (decide (r264 < 0)))] 3 rfl rfl ?_
  refine LP_split 97 (decide (r264 < 0)) rfl (fun hc285 => ?_) (fun hc285 => ?_)
  ·have H := H.1 hc285
   refine LP_ev ok 3 [(98, undef), (99, undef), (100, undef), (101, undef), (102, .bool true), (103, .bool true), (104, undef), (105, undef), (106, undef), (107, .bool true)] 13 rfl rfl ?_
   refine LP_end _ rfl ?_
   have X287 := ((((((((X.stepx x).stepx x17).stepx x22).stepx x28).stepx x35).stepx x45).stepx x56).stepx x69)
   have f286 := f86.mono X287.size
   have X290 := (X287.stepx x81)
   have f289 := f93.mono X290.size
   have X291 := (((X287.stepx x81).stepx x91).step y (f289.dom _))
   have f288 := f105.mono X291.size
   have X293 := (X291.stepx x100)
   have f292 := f117.mono X293.size
   have X294 := ((((((((((((X146.stepx x185).stepx x189).stepx x193).stepx x203).stepx x208).stepx x214).stepx x225).stepx x231).stepx x242).step x250 (f286.dom _)).step x259 (f288.dom _)).step x269 (f292.dom _))
   have ex295 := (ex79.ext x81)
   have ex296 := (((ex79.ext x81).ext x91).but y (Dj.of_fresh ex295 f93).symm)
   have ex297 := (ex296.ext x100)
   have ex298 := ((((((((((ex191.ext x193).ext x203).ext x208).ext x214).ext x225).ext x231).ext x242).but x250 (Dj.of_fresh ex79 f86).symm).but x259 (Dj.of_fresh ex296 f105).symm).but x269 (Dj.of_fresh ex297 f117).symm)
   have ex299 := (((ex43.ext x45).ext x56).ext x69)
   have ex300 := (ex98.ext x100)
   have ex301 := (((((((ex212.ext x214).ext x225).ext x231).ext x242).but x250 (Dj.of_fresh ex299 f86).symm).but x259 (Dj.of_fresh ex98 f105).symm).but x269 (Dj.of_fresh ex300 f117).symm)
   have ex302 := ((ex54.ext x56).ext x69)
   have ex303 := ((ex109.ext x91).but y (Dj.of_fresh ex109 f93).symm)
   have ex304 := (((((ex229.ext x231).ext x242).but x250 (Dj.of_fresh ex302 f86).symm).but x259 (Dj.of_fresh ex303 f105).symm).but x269 (Dj.of_fresh ex110 f117).symm)
   have ex305 := (ex77.ext x81)
   have ex306 := (((ex77.ext x81).ext x91).but y (Dj.of_fresh ex305 f93).symm)
   have ex307 := (ex306.ext x100)
   have ex308 := (((((((((((ex187.ext x189).ext x193).ext x203).ext x208).ext x214).ext x225).ext x231).ext x242).but x250 (Dj.of_fresh ex77 f86).symm).but x259 (Dj.of_fresh ex306 f105).symm).but x269 (Dj.of_fresh ex307 f117).symm)
   have ex309 := (ex73.ext x81)
   have ex310 := (((ex73.ext x81).ext x91).but y (Dj.of_fresh ex309 f93).symm)
   have ex311 := (ex310.ext x100)
   have ex312 := ((((((((((((ex140.ext x185).ext x189).ext x193).ext x203).ext x208).ext x214).ext x225).ext x231).ext x242).but x250 (Dj.of_fresh ex73 f86).symm).but x259 (Dj.of_fresh ex310 f105).symm).but x269 (Dj.of_fresh ex311 f117).symm)
   have ex313 := ((((((((((((ex145.ext x185).ext x189).ext x193).ext x203).ext x208).ext x214).ext x225).ext x231).ext x242).but x250 (Dj.of_fresh ex123 f131)).but x259 (Dj.of_fresh ex124 f131)).but x269 (Dj.of_fresh ex116 f131))
   exact ⟨true, H, _, env_eq ⟨rfl, rfl, rfl, rfl, rfl, rfl, rfl, rfl, trivial⟩, X294, ex298, ex301, ex304, ex308, ex312, ex313⟩
  have H := H.2 hc285
  refine LP_ev ok 3 [(98, sl a132 r121 c133), (99, sl a75 r64 c76)] 5 rfl rfl ?_
  have ex315 := ((((((((((((ex145.ext x185).ext x189).ext x193).ext x203).ext x208).ext x214).ext x225).ext x231).ext x242).but x250 (Dj.of_fresh ex123 f131)).but x259 (Dj.of_fresh ex124 f131)).but x269 (Dj.of_fresh ex116 f131))
  have ex316 := (ex73.ext x81)
  have ex317 := (((ex73.ext x81).ext x91).but y (Dj.of_fresh ex316 f93).symm)
  have ex318 := (ex317.ext x100)
  have ex319 := ((((((((((((ex140.ext x185).ext x189).ext x193).ext x203).ext x208).ext x214).ext x225).ext x231).ext x242).but x250 (Dj.of_fresh ex73 f86).symm).but x259 (Dj.of_fresh ex317 f105).symm).but x269 (Dj.of_fresh ex318 f117).symm)
  refine LP_call 5 rfl rfl rfl cal_17 rfl (laws_eqIntS_w _ _ _ H wx268 o129.readf ex315 o72 ex319) ?_
  rintro _ wx320 ⟨r314, H, rfl, x321⟩
  refine LP_ev ok 6 [(101, .bool (!r314)), (102, .bool (!r314)), (103, .bool (!r314))] 9 rfl rfl ?_
  refine LP_split 103 (!r314) rfl (fun hc322 => ?_) (fun hc322 => ?_)
  ·have H := H.1 hc322
   refine LP_ev ok 9 [(104, undef), (105, undef), (106, undef), (107, .bool true)] 13 rfl rfl ?_
   refine LP_end _ rfl ?_
   have X324 := ((((((((X.stepx x).stepx x17).stepx x22).stepx x28).stepx x35).stepx x45).stepx x56).stepx x69)
   have f323 := f86.mono X324.size
   have X327 := (X324.stepx x81)
   have f326 := f93.mono X327.size
   have X328 := (((X324.stepx x81).stepx x91).step y (f326.dom _))
   have f325 := f105.mono X328.size
   have X330 := (X328.stepx x100)
   have f329 := f117.mono X330.size
   have X331 := (((((((((((((X146.stepx x185).stepx x189).stepx x193).stepx x203).stepx x208).stepx x214).stepx x225).stepx x231).stepx x242).step x250 (f323.dom _)).step x259 (f325.dom _)).step x269 (f329.dom _)).stepx x321)
   have ex332 := (ex79.ext x81)
   have ex333 := (((ex79.ext x81).ext x91).but y (Dj.of_fresh ex332 f93).symm)
   have ex334 := (ex333.ext x100)
   have ex335 := (((((((((((ex191.ext x193).ext x203).ext x208).ext x214).ext x225).ext x231).ext x242).but x250 (Dj.of_fresh ex79 f86).symm).but x259 (Dj.of_fresh ex333 f105).symm).but x269 (Dj.of_fresh ex334 f117).symm).ext x321)
   have ex336 := (((ex43.ext x45).ext x56).ext x69)
   have ex337 := (ex98.ext x100)
   have ex338 := ((((((((ex212.ext x214).ext x225).ext x231).ext x242).but x250 (Dj.of_fresh ex336 f86).symm).but x259 (Dj.of_fresh ex98 f105).symm).but x269 (Dj.of_fresh ex337 f117).symm).ext x321)
   have ex339 := ((ex54.ext x56).ext x69)
   have ex340 := ((ex109.ext x91).but y (Dj.of_fresh ex109 f93).symm)
   have ex341 := ((((((ex229.ext x231).ext x242).but x250 (Dj.of_fresh ex339 f86).symm).but x259 (Dj.of_fresh ex340 f105).symm).but x269 (Dj.of_fresh ex110 f117).symm).ext x321)
   have ex342 := (ex77.ext x81)
   have ex343 := (((ex77.ext x81).ext x91).but y (Dj.of_fresh ex342 f93).symm)
   have ex344 := (ex343.ext x100)
   have ex345 := ((((((((((((ex187.ext x189).ext x193).ext x203).ext x208).ext x214).ext x225).ext x231).ext x242).but x250 (Dj.of_fresh ex77 f86).symm).but x259 (Dj.of_fresh ex343 f105).symm).but x269 (Dj.of_fresh ex344 f117).symm).ext x321)
   have ex346 := (ex319.ext x321)
   have ex347 := (ex315.ext x321)
   exact ⟨true, H, _, env_eq ⟨rfl, rfl, rfl, rfl, rfl, rfl, rfl, rfl, trivial⟩, X331, ex335, ex338, ex341, ex345, ex346, ex347⟩
  have H := H.2 hc322
  refine LP_ev ok 9 [(104, .bool r122), (105, .bool r65), (106, .bool (r122 != r65)), (107, .bool (r122 != r65))] 13 rfl rfl ?_
  refine LP_end _ rfl ?_
  have X349 := ((((((((X.stepx x).stepx x17).stepx x22).stepx x28).stepx x35).stepx x45).stepx x56).stepx x69)
  have f348 := f86.mono X349.size
  have X352 := (X349.stepx x81)
  have f351 := f93.mono X352.size
  have X353 := (((X349.stepx x81).stepx x91).step y (f351.dom _))
  have f350 := f105.mono X353.size
  have X355 := (X353.stepx x100)
  have f354 := f117.mono X355.size
  have X356 := (((((((((((((X146.stepx x185).stepx x189).stepx x193).stepx x203).stepx x208).stepx x214).stepx x225).stepx x231).stepx x242).step x250 (f348.dom _)).step x259 (f350.dom _)).step x269 (f354.dom _)).stepx x321)
  have ex357 := (ex79.ext x81)
  have ex358 := (((ex79.ext x81).ext x91).but y (Dj.of_fresh ex357 f93).symm)
  have ex359 := (ex358.ext x100)
  have ex360 := (((((((((((ex191.ext x193).ext x203).ext x208).ext x214).ext x225).ext x231).ext x242).but x250 (Dj.of_fresh ex79 f86).symm).but x259 (Dj.of_fresh ex358 f105).symm).but x269 (Dj.of_fresh ex359 f117).symm).ext x321)
  have ex361 := (((ex43.ext x45).ext x56).ext x69)
  have ex362 := (ex98.ext x100)
  have ex363 := ((((((((ex212.ext x214).ext x225).ext x231).ext x242).but x250 (Dj.of_fresh ex361 f86).symm).but x259 (Dj.of_fresh ex98 f105).symm).but x269 (Dj.of_fresh ex362 f117).symm).ext x321)
  have ex364 := ((ex54.ext x56).ext x69)
  have ex365 := ((ex109.ext x91).but y (Dj.of_fresh ex109 f93).symm)
  have ex366 := ((((((ex229.ext x231).ext x242).but x250 (Dj.of_fresh ex364 f86).symm).but x259 (Dj.of_fresh ex365 f105).symm).but x269 (Dj.of_fresh ex110 f117).symm).ext x321)
  have ex367 := (ex77.ext x81)
  have ex368 := (((ex77.ext x81).ext x91).but y (Dj.of_fresh ex367 f93).symm)
  have ex369 := (ex368.ext x100)
  have ex370 := ((((((((((((ex187.ext x189).ext x193).ext x203).ext x208).ext x214).ext x225).ext x231).ext x242).but x250 (Dj.of_fresh ex77 f86).symm).but x259 (Dj.of_fresh ex368 f105).symm).but x269 (Dj.of_fresh ex369 f117).symm).ext x321)
  have ex371 := (ex319.ext x321)
  have ex372 := (ex315.ext x321)
  exact ⟨r122 != r65, H, _, env_eq ⟨rfl, rfl, rfl, rfl, rfl, rfl, rfl, rfl, trivial⟩, X356, ex360, ex363, ex366, ex370, ex371, ex372⟩
 rintro x274 _ wx275 ⟨H, ρ, rfl, HF⟩
 revert HF
 refine bb7 fun X282 ex276 ex277 ex278 ex279 ex280 ex281 => ?_
 subst hk284
 refine W_cond (x274) rfl (fun hc373 => ?_) (fun hc373 => ?_)
 ·have H := H.1 hc373
  refine W_seq ?_
  refine W_region ?_
  refine LP_ev ok 0 [(8, .bool false)] 1 rfl rfl ?_
  refine LP_end _ rfl ?_
  refine W_ret ?_
  exact ⟨_, Ret_of [.bool false] ⟨⟨rfl, rfl⟩, trivial⟩, _, H, rfl, X282.ext⟩
 have H := H.2 hc373
 refine W_skip ?_
 refine W_seq ?_
 refine W_region ?_
 refine LP_ev ok 0 [(18, I 1)] 1 rfl rfl ?_
 refine LP_end _ rfl ?_
 refine W_seq ?_
 refine W_region ?_
 refine LP_ev ok 0 [(108, sl a132 r121 c133), (109, I 1)] 2 rfl rfl ?_
 refine LP_call 2 rfl rfl rfl cal_24 rfl (laws_markIntS_w _ _ _ H wx275 o129 ex281) ?_
 rintro _ wx376 ⟨r374, r375, hx378, H, rfl, x377, o379, ex380, dm381⟩
 refine LP_ev ok 3 [(18, I r374)] 4 rfl rfl ?_
 refine LP_end _ rfl ?_
 refine W_seq ?_
 refine W_region ?_
 refine LP_ev ok 0 [(19, I 1)] 1 rfl rfl ?_
 refine LP_end _ rfl ?_
 refine W_seq ?_
 refine W_region ?_
 refine LP_ev ok 0 [(111, sl a132 r121 c133), (112, I 1)] 2 rfl rfl ?_
 refine LP_call 2 rfl rfl rfl cal_25 rfl (laws_heldIntS_w _ _ _ H wx376 o379.readf ex380) ?_
 rintro _ wx383 ⟨r382, H, rfl, x384⟩
 refine LP_ev ok 3 [(19, I r382)] 4 rfl rfl ?_
 refine LP_end _ rfl ?_
 refine W_seq ?_
 refine W_seq ?_
 refine W_region ?_
 refine LP_ev ok 0 [(114, I r382), (115, .bool (decide (r382 < 0)))] 2 rfl rfl ?_
 refine LP_end _ rfl ?_
 refine W_cond (decide (r382 < 0)) rfl (fun hc385 => ?_) (fun hc385 => ?_)
 ·have H := H.1 hc385
  refine W_seq ?_
  refine W_region ?_
  refine LP_ev ok 0 [(8, .bool false)] 1 rfl rfl ?_
  refine LP_end _ rfl ?_
  refine W_ret ?_
  have X388 := (((((((((X.stepx x).stepx x17).stepx x22).stepx x28).stepx x35).stepx x45).stepx x56).stepx x69).stepx x81)
  have f387 := f93.mono X388.size
  have X389 := (((((((((((((X.stepx x).stepx x17).stepx x22).stepx x28).stepx x35).stepx x45).stepx x56).stepx x69).stepx x81).stepx x91).step y (f387.dom _)).stepx x100).stepx x112)
  have f386 := f131.mono X389.size
  have X390 := ((X282.step x377 (f386.dom _)).stepx x384)
  exact ⟨_, Ret_of [.bool false] ⟨⟨rfl, rfl⟩, trivial⟩, _, H, rfl, X390.ext⟩
 have H := H.2 hc385
 refine W_skip ?_
 refine W_seq ?_
 refine W_seq ?_
 refine W_region ?_
 refine LP_ev ok 0 [(116, I r382), (117, I r374), (118, .bool (r382 != r374))] 3 rfl rfl ?_
 refine LP_end _ rfl ?_
 refine W_cond (r382 != r374) rfl (fun hc391 => ?_) (fun hc391 => ?_)
 ·have H := H.1 hc391
  refine W_seq ?_
  refine W_region ?_
  refine LP_ev ok 0 [(8, .bool false)] 1 rfl rfl ?_
  refine LP_end _ rfl ?_
  refine W_ret ?_
  have X394 := (((((((((X.stepx x).stepx x17).stepx x22).stepx x28).stepx x35).stepx x45).stepx x56).stepx x69).stepx x81)
  have f393 := f93.mono X394.size
  have X395 := (((((((((((((X.stepx x).stepx x17).stepx x22).stepx x28).stepx x35).stepx x45).stepx x56).stepx x69).stepx x81).stepx x91).step y (f393.dom _)).stepx x100).stepx x112)
  have f392 := f131.mono X395.size
  have X396 := ((X282.step x377 (f392.dom _)).stepx x384)
  exact ⟨_, Ret_of [.bool false] ⟨⟨rfl, rfl⟩, trivial⟩, _, H, rfl, X396.ext⟩
 have H := H.2 hc391
 refine W_skip ?_
 refine W_seq ?_
 refine W_region ?_
 have ex397 := (ex77.ext x81)
 have ex398 := (((((ex77.ext x81).ext x91).but y (Dj.of_fresh ex397 f93).symm).ext x100).ext x112)
 have ex399 := ((ex279.but x377 (Dj.of_fresh ex398 f131).symm).ext x384)
 refine LP_ldbox 0 (v := .agg #[sl a aG.Parents c]) rfl rfl rfl ti_24 ag_24 (fun h => by cases h) rfl ex399 rfl rfl ?_
 have ex401 := (ex79.ext x81)
 have ex402 := (((((ex79.ext x81).ext x91).but y (Dj.of_fresh ex401 f93).symm).ext x100).ext x112)
 have ex403 := ((ex276.but x377 (Dj.of_fresh ex402 f131).symm).ext x384)
 refine LP_call 1 rfl rfl rfl cal_13 rfl (laws_toGeo_w _ _ H wx383 r ex403) ?_
 rintro _ wx404 ⟨r400, vx406, hx407, H, rfl, x405, o408, ex409, f410⟩
 obtain ⟨a411, c412, rfl⟩ := o408.shape
 refine LP_ev ok 2 [(122, sl a5 aS c6)] 3 rfl rfl ?_
 have ex414 := ((ex98.ext x100).ext x112)
 have ex415 := (((ex277.but x377 (Dj.of_fresh ex414 f131).symm).ext x384).ext x405)
 refine LP_call 3 rfl rfl rfl cal_14 rfl (laws_toVariableS_w _ _ H wx404 r3 ex415) ?_
 rintro _ wx416 ⟨r413, vx418, hx419, H, rfl, x417, o420, ex421, f422⟩
 obtain ⟨a423, c424, rfl⟩ := o420.shape
 refine LP_ev ok 4 [(124, sl a11 aPubs c12)] 5 rfl rfl ?_
 have ex426 := (ex110.ext x112)
 have ex427 := ((((ex278.but x377 (Dj.of_fresh ex426 f131).symm).ext x384).ext x405).ext x417)
 refine LP_call 5 rfl rfl rfl cal_15 rfl (laws_toPublishedS_w _ _ H wx416 r9 ex427) ?_
 rintro _ wx428 ⟨r425, vx430, hx431, H, rfl, x429, o432, ex433, f434⟩
 obtain ⟨a435, c436, rfl⟩ := o432.shape
 refine LP_ev ok 6 [(126, I aN)] 7 rfl rfl ?_
 have ex439 := ((ex409.ext x417).ext x429)
 have ex440 := (ex421.ext x429)
 refine LP_call 7 rfl rfl rfl cal_16 rfl (impl_FirstSurvey_w _ _ _ _ _ H wx428 o408.readf ex439 o420.readf ex440 o432.readf ex433) ?_
 rintro _ wx441 ⟨r437, r438, vx443, hx444, H, rfl, x442, o445, ex446, f447⟩
 obtain ⟨a448, c449, rfl⟩ := o445.shape
 refine LP_ev ok 8 [(119, .tuple #[sl a448 r437 c449, .bool r438]), (128, sl a448 r437 c449), (129, .bool r438), (20, sl a448 r437 c449), (21, .bool r438)] 13 rfl rfl ?_
 refine LP_end _ rfl ?_
 try refine W_forget [(10, sl a75 r64 c76), (11, .bool r65), (15, sl a132 r121 c133), (18, I r374), (20, sl a448 r437 c449), (21, .bool r438)] ⟨rfl, rfl, rfl, rfl, rfl, rfl, trivial⟩ fun ρ => ?_
 refine W_seq ?_
 obtain ⟨k454, hk455, H⟩ := jn_elim H
 refine W_join2 (S := Bool) (fun s ρ' w' => k454 s ∧ ∃ (ρ : Env), ρ' = setAll [(15, sl a132 r121 c133), (18, I r374), (138, .bool s)] ρ ∧ But emp w w' ∧ Sub hx378 w') ?_ ?_
 ·refine W_region ?_
  refine LP_ev ok 0 [(130, sl a448 r437 c449), (131, sl a75 r64 c76)] 2 rfl rfl ?_
  have ex457 := (ex73.ext x81)
  have ex458 := (((((ex73.ext x81).ext x91).but y (Dj.of_fresh ex457 f93).symm).ext x100).ext x112)
  have ex459 := ((((((ex280.but x377 (Dj.of_fresh ex458 f131).symm).ext x384).ext x405).ext x417).ext x429).ext x442)
  refine LP_call 2 rfl rfl rfl cal_17 rfl (laws_eqIntS_w _ _ _ H wx441 o445.readf ex446 o72 ex459) ?_
  rintro _ wx460 ⟨r456, H, rfl, x461⟩
  refine LP_ev ok 3 [(133, .bool (!r456)), (134, .bool (!r456))] 5 rfl rfl ?_
  refine LP_split 134 (!r456) rfl (fun hc462 => ?_) (fun hc462 => ?_)
  ·have H := H.1 hc462
   refine LP_ev ok 5 [(135, undef), (136, undef), (137, undef), (138, .bool true)] 9 rfl rfl ?_
   refine LP_end _ rfl ?_
   have X465 := (((((((((X.stepx x).stepx x17).stepx x22).stepx x28).stepx x35).stepx x45).stepx x56).stepx x69).stepx x81)
   have f464 := f93.mono X465.size
   have X466 := (((((((((((((X.stepx x).stepx x17).stepx x22).stepx x28).stepx x35).stepx x45).stepx x56).stepx x69).stepx x81).stepx x91).step y (f464.dom _)).stepx x100).stepx x112)
   have f463 := f131.mono X466.size
   have X467 := (((((((X282.step x377 (f463.dom _)).stepx x384).stepx x405).stepx x417).stepx x429).stepx x442).stepx x461)
   have ex468 := ((((((ex380.ext x384).ext x405).ext x417).ext x429).ext x442).ext x461)
   exact ⟨true, H, _, env_eq ⟨rfl, rfl, rfl, trivial⟩, X467, ex468⟩
  have H := H.2 hc462
  refine LP_ev ok 5 [(135, .bool r438), (136, .bool r65), (137, .bool (r438 != r65)), (138, .bool (r438 != r65))] 9 rfl rfl ?_
  refine LP_end _ rfl ?_
  have X471 := (((((((((X.stepx x).stepx x17).stepx x22).stepx x28).stepx x35).stepx x45).stepx x56).stepx x69).stepx x81)
  have f470 := f93.mono X471.size
  have X472 := (((((((((((((X.stepx x).stepx x17).stepx x22).stepx x28).stepx x35).stepx x45).stepx x56).stepx x69).stepx x81).stepx x91).step y (f470.dom _)).stepx x100).stepx x112)
  have f469 := f131.mono X472.size
  have X473 := (((((((X282.step x377 (f469.dom _)).stepx x384).stepx x405).stepx x417).stepx x429).stepx x442).stepx x461)
  have ex474 := ((((((ex380.ext x384).ext x405).ext x417).ext x429).ext x442).ext x461)
  exact ⟨r438 != r65, H, _, env_eq ⟨rfl, rfl, rfl, trivial⟩, X473, ex474⟩
 rintro x450 _ wx451 ⟨H, ρ, rfl, X453, ex452⟩
 subst hk455
 refine W_cond (x450) rfl (fun hc475 => ?_) (fun hc475 => ?_)
 ·have H := H.1 hc475
  refine W_seq ?_
  refine W_region ?_
  refine LP_ev ok 0 [(8, .bool false)] 1 rfl rfl ?_
  refine LP_end _ rfl ?_
  refine W_ret ?_
  exact ⟨_, Ret_of [.bool false] ⟨⟨rfl, rfl⟩, trivial⟩, _, H, rfl, X453.ext⟩
 have H := H.2 hc475
 refine W_skip ?_
 refine W_seq ?_
 refine W_region ?_
 refine LP_ev ok 0 [(19, I 1)] 1 rfl rfl ?_
 refine LP_end _ rfl ?_
 refine W_seq ?_
 refine W_region ?_
 refine LP_ev ok 0 [(139, sl a132 r121 c133), (140, I 1)] 2 rfl rfl ?_
 refine LP_call 2 rfl rfl rfl cal_25 rfl (laws_heldIntS_w _ _ _ H wx451 o379.readf ex452) ?_
 rintro _ wx477 ⟨r476, H, rfl, x478⟩
 refine LP_ev ok 3 [(19, I r476)] 4 rfl rfl ?_
 refine LP_end _ rfl ?_
 refine W_seq ?_
 refine W_seq ?_
 refine W_region ?_
 refine LP_ev ok 0 [(142, I r476), (143, .bool (decide (r476 < 0)))] 2 rfl rfl ?_
 refine LP_end _ rfl ?_
 refine W_cond (decide (r476 < 0)) rfl (fun hc479 => ?_) (fun hc479 => ?_)
 ·have H := H.1 hc479
  refine W_seq ?_
  refine W_region ?_
  refine LP_ev ok 0 [(8, .bool false)] 1 rfl rfl ?_
  refine LP_end _ rfl ?_
  refine W_ret ?_
  have X480 := (X453.stepx x478)
  exact ⟨_, Ret_of [.bool false] ⟨⟨rfl, rfl⟩, trivial⟩, _, H, rfl, X480.ext⟩
 have H := H.2 hc479
 refine W_skip ?_
 refine W_seq ?_
 refine W_seq ?_
 refine W_region ?_
 refine LP_ev ok 0 [(144, I r476), (145, I r374), (146, .bool (r476 != r374))] 3 rfl rfl ?_
 refine LP_end _ rfl ?_
 refine W_cond (r476 != r374) rfl (fun hc481 => ?_) (fun hc481 => ?_)
 ·have H := H.1 hc481
  refine W_seq ?_
  refine W_region ?_
  refine LP_ev ok 0 [(8, .bool false)] 1 rfl rfl ?_
  refine LP_end _ rfl ?_
  refine W_ret ?_
  have X482 := (X453.stepx x478)
  exact ⟨_, Ret_of [.bool false] ⟨⟨rfl, rfl⟩, trivial⟩, _, H, rfl, X482.ext⟩
 have H := H.2 hc481
 refine W_skip ?_
 refine W_seq ?_
 refine W_region ?_
 refine LP_ev ok 0 [(8, .bool true)] 1 rfl rfl ?_
 refine LP_end _ rfl ?_
 refine W_ret ?_
 have X483 := (X453.stepx x478)
 exact ⟨_, Ret_of [.bool true] ⟨⟨rfl, rfl⟩, trivial⟩, _, H, rfl, X483.ext⟩

end Go.Proofs.YtkebfmobfeponaaGreat
