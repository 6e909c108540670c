/- The walks, further. -/
import Derived.Test.YtkebfmobfeponaaSWalk3
set_option linter.unusedVariables false
set_option autoImplicit false
namespace Go.Proofs.Ytkebfmobfeponaa
open Go Go.RowKit Go.Gv

open Go.Proofs
set_option maxRecDepth 8000 in
set_option maxHeartbeats 4000000 in
theorem impl_solutions_impl_CountSurveys_1_w (g : Geo) (sx : List Variable) (pubs : List Published) (n : Int) (most : Int) (Q : Int → Prop) (H : impl_solutions_impl_CountSurveys_1 g sx pubs n most Q) (w : World) {vx : Value} {hx : PH} (r : RS hx vx g.Parents) (ex : Sub hx w) {vx1 : Value} {hx2 : PH} (r3 : RS hx2 vx1 sx) (ex4 : Sub hx2 w) {vx7 : Value} {hx8 : PH} (r9 : RS hx8 vx7 pubs) (ex10 : Sub hx8 w) :
    CallsTo Try.prog 35 #[.agg #[vx], vx1, vx7, I n, I most, .func (.func 40) #[] #[]] w fun v w' => ∃ r0, Q r0 ∧ v = I r0 ∧ Ext w w' := by
  obtain ⟨a, c, rfl⟩ := r.shape
  obtain ⟨a5, c6, rfl⟩ := r3.shape
  obtain ⟨a11, c12, rfl⟩ := r9.shape
  refine enter (args := [.agg #[.slice a (List.length g.Parents) c], .slice a5 (List.length sx) c6, .slice a11 (List.length pubs) c12, I n, I most, .func (.func 40) #[] #[]]) 33 Try.func35 rfl rfl rfl ?_
  refine W_forget [(0, .agg #[.slice a (List.length g.Parents) c]), (1, .slice a5 (List.length sx) c6), (2, .slice a11 (List.length pubs) c12), (3, I n), (4, I most), (5, .func (.func 40) #[] #[])] ⟨rfl, rfl, rfl, rfl, rfl, rfl, trivial⟩ fun ρ => ?_
  have X := But.refl emp w
  refine W_seq ?_
  refine W_region ?_
  refine LP_box 0 (cs := [.slice a (List.length g.Parents) c]) rfl rfl rfl rfl rfl fun b wx x ex13 f => ?_
  refine LP_box 1 (cs := [I most]) rfl rfl rfl rfl rfl fun b14 wx15 x16 ex17 f18 => ?_
  refine LP_box 2 (cs := [.func (.func 40) #[] #[]]) rfl rfl rfl rfl rfl fun b19 wx20 x21 ex22 f23 => ?_
  refine LP_ev ok 3 [(12, I 0)] 4 rfl rfl ?_
  refine LP_end _ rfl ?_
  refine W_seq ?_
  refine W_region ?_
  have ex24 := ((ex13.ext x16).ext x21)
  refine LP_ldbox 0 (v := .agg #[.slice a (List.length g.Parents) c]) rfl rfl rfl ti_32 ag_32 (fun h => by cases h) rfl ex24 rfl rfl ?_
  refine LP_ev ok 1 [(17, .slice a5 (List.length sx) c6), (18, .slice a11 (List.length pubs) c12)] 3 rfl rfl ?_
  have ex26 := (((ex.ext x).ext x16).ext x21)
  have ex27 := (((ex4.ext x).ext x16).ext x21)
  have ex28 := (((ex10.ext x).ext x16).ext x21)
  refine LP_call 3 rfl rfl rfl cal_63 rfl (impl_conditionsOf_w _ _ _ _ H wx20 r ex26 r3 ex27 r9 ex28) ?_
  rintro _ wx29 ⟨r25, vx31, hx32, H, rfl, x30, o, ex33, f34⟩
  obtain ⟨a35, c36, rfl⟩ := o.shape
  refine LP_ev ok 4 [(13, .slice a35 (List.length r25) c36)] 5 rfl rfl ?_
  refine LP_end _ rfl ?_
  refine W_seq ?_
  refine W_region ?_
  refine LP_alloc 0 rfl rfl rfl ti_3 rfl fun b37 wx38 x39 ex40 f41 => ?_
  refine LP_stbox 1 (vs := [I 0]) (cs' := [I 0]) rfl rfl rfl ti_3 rfl rfl rfl rfl rfl ex40 rfl rfl fun wx42 ex43 y => ?_
  refine LP_end _ rfl ?_
  refine W_seq ?_
  refine W_open mix fun wx44 x45 => ?_
  refine AP_gameT 11 [[], [], [], [1, 2], [1, 2, 3], [], [5], [5, 6], [], [0, 1, 2, 3, 4, 5, 6, 7, 8], [], [0, 1, 2, 3, 4, 5, 6, 7, 8, 9, 10]] [[(13, none)], [(6, none)], [(1, none)], [(21, some 1), (22, some 2)], [(23, some 3)], [(13, none)], [(25, some 5)], [(26, some 6)], [(10, none), (11, none), (14, none)], [(20, some 0), (24, some 4), (27, some 7), (28, some 8)], []] [(3, none), (14, none), (15, some 10), (29, some 9)] [0, 1, 2, 3, 4, 5, 6, 7, 8, 9, 10] (by kernel_rfl) (by kernel_rfl) 11 ?_
  refine GT_ev 0 ok [(13, .slice a35 (List.length r25) c36)] (.slice a35 (List.length r25) c36) rfl (by kernel_rfl) rfl (fun _ h => h) (fun _ => rfl) ?_
  have ex46 := (ex24.ext x30)
  have ex47 := ((((ex24.ext x30).ext x39).but y (Dj.of_fresh ex46 f41).symm).ext x45)
  refine GT_r1 1 [(6, .pointer (some ⟨b, 0, none⟩))] (.agg #[.slice a (List.length g.Parents) c]) rfl (by kernel_rfl) rfl (fun _ h => h) (fun _ w e => ex_ldbox rfl ti_32 ag_32 (fun h => by cases h) rfl e rfl rfl) ex47 ?_
  refine GT_ev 2 ok [(1, .slice a5 (List.length sx) c6)] (.slice a5 (List.length sx) c6) rfl (by kernel_rfl) rfl (fun _ h => h) (fun _ => rfl) ?_
  obtain ⟨r48, Hd, H⟩ := H
  have ex49 := (ex26.ext x30)
  have ex50 := ((((ex26.ext x30).ext x39).but y (Dj.of_fresh ex49 f41).symm).ext x45)
  have ex51 := (ex27.ext x30)
  have ex52 := ((((ex27.ext x30).ext x39).but y (Dj.of_fresh ex51 f41).symm).ext x45)
  refine GT_q 3 [(21, .agg #[.slice a (List.length g.Parents) c]), (22, .slice a5 (List.length sx) c6)] (I r48) [hx, hx2] [.agg #[.slice a (List.length g.Parents) c], .slice a5 (List.length sx) c6] rfl (by kernel_rfl) rfl (fun _ h => h) rfl cal_52 (fun _ => rfl) (fun w e => (impl_typeCount_w _ _ _ Hd w r e.1 r3 e.2.1).mono (fun _ _ h => by obtain ⟨_, rfl, rfl, x⟩ := h; exact ⟨rfl, x⟩)) ⟨ex50, ex52, trivial⟩ ?_
  refine GT_ev 5 ok [(13, .slice a35 (List.length r25) c36)] (.slice a35 (List.length r25) c36) rfl (by kernel_rfl) rfl (fun _ h => h) (fun _ => rfl) ?_
  refine GT_ev 6 ok [(25, .slice a35 (List.length r25) c36)] (I (ln r25)) rfl (by kernel_rfl) rfl (fun _ h => h) (fun _ => rfl) ?_
  refine GT_ev 8 ok [(10, .pointer (some ⟨b14, 0, none⟩)), (11, .pointer (some ⟨b19, 0, none⟩)), (14, .pointer (some ⟨b37, 0, none⟩))] (.func (.func 64) #[] #[.pointer (some ⟨b37, 0, none⟩), .pointer (some ⟨b19, 0, none⟩), .pointer (some ⟨b14, 0, none⟩)]) rfl (by kernel_rfl) rfl (fun _ h => h) (fun _ => rfl) ?_
  refine GT_hd [4, 7, 10] (by kernel_rfl) ⟨?_, ?_, ?_, trivial⟩
  · have H := H.1
    refine GT_lp [(23, I r48)] rfl (by kernel_rfl) rfl (fun _ h => h) rfl fun ρ wx53 x54 => ?_
    obtain ⟨hn, hb, H⟩ := H
    refine LP_make (α := Int) 0 rfl rfl rfl Try.underlying22 ti_3 (x0 := (0 : Int)) rfl rfl hn (by first | omega | (simp only [ln] at *; omega)) (by first | omega | (simp only [ln] at *; omega)) fun hx55 vx56 wx57 x58 o59 ex60 f61 => ?_
    obtain ⟨a62, c63, rfl⟩ := o59.shape
    refine LP_gs ⟨⟨.inl rfl, .inl rfl, .inl rfl, trivial⟩, ?_⟩
    refine GT_hd [7, 10] (by kernel_rfl) ⟨?_, ?_, trivial⟩
    · have H := H
      refine GT_lp [(26, I (ln r25))] rfl (by kernel_rfl) rfl (fun _ h => h) rfl fun ρ wx64 x65 => ?_
      obtain ⟨hn66, hb67, H⟩ := H
      refine LP_make (α := Int) 0 rfl rfl rfl Try.underlying22 ti_3 (x0 := (0 : Int)) rfl rfl hn66 (by first | omega | (simp only [ln] at *; omega)) (by first | omega | (simp only [ln] at *; omega)) fun hx68 vx69 wx70 x71 o72 ex73 f74 => ?_
      obtain ⟨a75, c76, rfl⟩ := o72.shape
      have ex77 := ((((ex50.ext x54).ext x58).ext x65).ext x71)
      have ex78 := ((((ex52.ext x54).ext x58).ext x65).ext x71)
      have ex79 := ((((ex47.ext x54).ext x58).ext x65).ext x71)
      refine LP_gs ⟨⟨.inr ex77, .inr ex78, .inr ex79, trivial⟩, ?_⟩
      refine GT_ev 9 ok [(20, .slice a35 (List.length r25) c36), (24, .slice a62 (List.length (List.replicate (Int.toNat r48) ((0 : Int)))) c63), (27, .slice a75 (List.length (List.replicate (Int.toNat (ln r25)) ((0 : Int)))) c76), (28, .func (.func 64) #[] #[.pointer (some ⟨b37, 0, none⟩), .pointer (some ⟨b19, 0, none⟩), .pointer (some ⟨b14, 0, none⟩)])] (.agg #[.slice a35 (List.length r25) c36, .slice a62 (List.length (List.replicate (Int.toNat r48) ((0 : Int)))) c63, .slice a75 (List.length (List.replicate (Int.toNat (ln r25)) ((0 : Int)))) c76, .func (.func 64) #[] #[.pointer (some ⟨b37, 0, none⟩), .pointer (some ⟨b19, 0, none⟩), .pointer (some ⟨b14, 0, none⟩)]]) rfl (by kernel_rfl) rfl (fun _ h => h) (fun _ => rfl) ?_
      refine GT_hd [10] (by kernel_rfl) ⟨GT_lp [] rfl (by kernel_rfl) rfl (fun _ h => h) rfl fun ρ wx80 x81 => ?_, trivial⟩
      refine LP_alloc 0 rfl rfl rfl ti_103 rfl fun b82 wx83 x84 ex85 f86 => ?_
      have ex87 := ((ex77.ext x81).ext x84)
      have ex88 := ((ex78.ext x81).ext x84)
      have ex89 := ((ex79.ext x81).ext x84)
      refine LP_gs ⟨⟨.inr ex87, .inr ex88, .inr ex89, trivial⟩, ?_⟩
      refine GT_end (by kernel_rfl) ?_
      intro wx90 x91 ρ hn92
      refine AP_forget [(3, I n), (14, .pointer (some ⟨b37, 0, none⟩)), (15, .pointer (some ⟨b82, 0, none⟩)), (29, .agg #[.slice a35 (List.length r25) c36, .slice a62 (List.length (List.replicate (Int.toNat r48) ((0 : Int)))) c63, .slice a75 (List.length (List.replicate (Int.toNat (ln r25)) ((0 : Int)))) c76, .func (.func 64) #[] #[.pointer (some ⟨b37, 0, none⟩), .pointer (some ⟨b19, 0, none⟩), .pointer (some ⟨b14, 0, none⟩)]])] (by exact hn92) fun ρ => ?_
      refine AP_tail 11 [[], [], [], [1, 2], [1, 2, 3], [], [5], [5, 6], [], [0, 1, 2, 3, 4, 5, 6, 7, 8], [], [0, 1, 2, 3, 4, 5, 6, 7, 8, 9, 10]] (by kernel_rfl) ?_
      have ex96 := (ex85.ext x91)
      refine LP_stbox 11 (vs := [.slice a35 (List.length r25) c36, .slice a62 (List.length (List.replicate (Int.toNat r48) ((0 : Int)))) c63, .slice a75 (List.length (List.replicate (Int.toNat (ln r25)) ((0 : Int)))) c76, .func (.func 64) #[] #[.pointer (some ⟨b37, 0, none⟩), .pointer (some ⟨b19, 0, none⟩), .pointer (some ⟨b14, 0, none⟩)]]) (cs' := [.slice a35 (List.length r25) c36, .slice a62 (List.length (List.replicate (Int.toNat r48) ((0 : Int)))) c63, .slice a75 (List.length (List.replicate (Int.toNat (ln r25)) ((0 : Int)))) c76, .func (.func 64) #[] #[.pointer (some ⟨b37, 0, none⟩), .pointer (some ⟨b19, 0, none⟩), .pointer (some ⟨b14, 0, none⟩)]]) rfl rfl rfl ti_103 rfl rfl rfl rfl rfl ex96 rfl rfl fun wx93 ex94 y95 => ?_
      refine LP_end _ rfl ?_
      refine W_seq ?_
      refine W_region ?_
      refine LP_ev ok 0 [(30, I n)] 1 rfl rfl ?_
      have ex97 := (ex60.ext x65)
      have ex98 := ((ex43.ext x45).ext x54)
      have ex99 := ((ex97.ext x71).ext x81)
      have ex100 := ((ex98.ext x58).ext x65)
      have ex101 := (ex73.ext x81)
      have ex102 := ((ex100.ext x71).ext x81)
      have ex103 := ((((ex33.ext x39).but y (Dj.of_fresh ex33 f41).symm).ext x45).ext x54)
      have ex104 := (ex22.ext x30)
      have ex105 := (((((ex22.ext x30).ext x39).but y (Dj.of_fresh ex104 f41).symm).ext x45).ext x54)
      have ex106 := ((ex17.ext x21).ext x30)
      have ex107 := ((((((ex17.ext x21).ext x30).ext x39).but y (Dj.of_fresh ex106 f41).symm).ext x45).ext x54)
      have ex108 := ((ex103.ext x58).ext x65)
      have ex109 := ((ex105.ext x58).ext x65)
      have ex110 := ((ex107.ext x58).ext x65)
      have ex111 := ((ex108.ext x71).ext x81)
      have ex112 := ((ex109.ext x71).ext x81)
      have ex113 := ((ex110.ext x71).ext x81)
      have ex118 := (((ex111.ext x84).ext x91).but y95 (Dj.of_fresh ex111 f86).symm)
      have ex119 := (((ex99.ext x84).ext x91).but y95 (Dj.of_fresh ex99 f86).symm)
      have ex120 := (((ex101.ext x84).ext x91).but y95 (Dj.of_fresh ex101 f86).symm)
      have ex121 := (((ex102.ext x84).ext x91).but y95 (Dj.of_fresh ex102 f86).symm)
      have ex122 := (((ex112.ext x84).ext x91).but y95 (Dj.of_fresh ex112 f86).symm)
      have ex123 := (((ex113.ext x84).ext x91).but y95 (Dj.of_fresh ex113 f86).symm)
      refine LP_call 1 rfl rfl rfl cal_65 rfl (impl_search_from_impl_solutions_1_impl_CountSurveys_1_w _ _ _ _ _ _ H wx93 o.readf ex118 o59 ex119 o72 ex120 ex121 ex122 ex123 ex94 (Dj.of_fresh ex97 f74) (Dj.of_fresh ex98 f61).symm (Dj.box (Dj.of_fresh ex99 f86).symm).symm (Dj.of_fresh ex100 f74).symm (Dj.box (Dj.of_fresh ex101 f86).symm).symm (Dj.box (Dj.of_fresh ex102 f86).symm).symm (Dj.of_fresh ex103 f61).symm (Dj.of_fresh ex105 f61).symm (Dj.of_fresh ex107 f61).symm (Dj.of_fresh ex108 f74).symm (Dj.of_fresh ex109 f74).symm (Dj.of_fresh ex110 f74).symm (Dj.box (Dj.of_fresh ex33 f41).symm) (Dj.box (Dj.of_fresh ex104 f41).symm) (Dj.box (Dj.of_fresh ex106 f41).symm) (Dj.box (Dj.of_fresh ex111 f86).symm) (Dj.box (Dj.of_fresh ex112 f86).symm) (Dj.box (Dj.of_fresh ex113 f86).symm)) ?_
      rintro _ wx124 ⟨r114, r115, r116, r117, vx129, hx126, vx134, hx130, H, rfl, x125, o127, ex128, dm, o131, ex132, dm133, ex135, ex136, d, d137, d138, d139, d140⟩
      obtain ⟨a141, c142, rfl⟩ := o127.shape
      obtain ⟨a143, c144, rfl⟩ := o131.shape
      refine LP_end _ rfl ?_
      refine W_seq ?_
      refine W_region ?_
      refine LP_ldbox 0 (v := I r117) rfl rfl rfl ti_3 ag_3 (fun _ => rfl) rfl ex135 rfl rfl ?_
      refine LP_ev ok 1 [(12, I r117)] 2 rfl rfl ?_
      refine LP_end _ rfl ?_
      refine W_ret ?_
      have X146 := ((((X.stepx x).stepx x16).stepx x21).stepx x30)
      have f145 := f41.mono X146.size
      have X148 := ((((((((X146.stepx x39).step y (f145.dom _)).stepx x45).stepx x54).stepx x58).stepx x65).stepx x71).stepx x81)
      have f147 := f86.mono X148.size
      have X150 := ((((X146.stepx x39).step y (f145.dom _)).stepx x45).stepx x54)
      have f149 := f61.mono X150.size
      have X152 := ((X150.stepx x58).stepx x65)
      have f151 := f74.mono X152.size
      have X153 := ((((((((((((((((X.stepx x).stepx x16).stepx x21).stepx x30).stepx x39).step y (f145.dom _)).stepx x45).stepx x54).stepx x58).stepx x65).stepx x71).stepx x81).stepx x84).stepx x91).step y95 (f147.dom _)).step x125 (DomLe.un (f149.dom _) (DomLe.un (f151.dom _) (DomLe.un ((Fresh.box f145).dom _) ((Fresh.box f147).dom _)))))
      exact ⟨_, Ret_of [I r117] ⟨⟨rfl, rfl⟩, trivial⟩, _, H, rfl, X153.ext⟩
    · have H := H
      refine GT_lp [] rfl (by kernel_rfl) rfl (fun _ h => h) rfl fun ρ wx64 x65 => ?_
      refine LP_alloc 0 rfl rfl rfl ti_103 rfl fun b66 wx67 x68 ex69 f70 => ?_
      have ex71 := ((((ex50.ext x54).ext x58).ext x65).ext x68)
      have ex72 := ((((ex52.ext x54).ext x58).ext x65).ext x68)
      have ex73 := ((((ex47.ext x54).ext x58).ext x65).ext x68)
      refine LP_gs ⟨⟨.inr ex71, .inr ex72, .inr ex73, trivial⟩, ?_⟩
      refine GT_hd [7] (by kernel_rfl) ⟨GT_lp [(26, I (ln r25))] rfl (by kernel_rfl) rfl (fun _ h => h) rfl fun ρ wx74 x75 => ?_, trivial⟩
      obtain ⟨hn76, hb77, H⟩ := H
      refine LP_make (α := Int) 0 rfl rfl rfl Try.underlying22 ti_3 (x0 := (0 : Int)) rfl rfl hn76 (by first | omega | (simp only [ln] at *; omega)) (by first | omega | (simp only [ln] at *; omega)) fun hx78 vx79 wx80 x81 o82 ex83 f84 => ?_
      obtain ⟨a85, c86, rfl⟩ := o82.shape
      have ex87 := ((ex71.ext x75).ext x81)
      have ex88 := ((ex72.ext x75).ext x81)
      have ex89 := ((ex73.ext x75).ext x81)
      refine LP_gs ⟨⟨.inr ex87, .inr ex88, .inr ex89, trivial⟩, ?_⟩
      refine GT_ev 9 ok [(20, .slice a35 (List.length r25) c36), (24, .slice a62 (List.length (List.replicate (Int.toNat r48) ((0 : Int)))) c63), (27, .slice a85 (List.length (List.replicate (Int.toNat (ln r25)) ((0 : Int)))) c86), (28, .func (.func 64) #[] #[.pointer (some ⟨b37, 0, none⟩), .pointer (some ⟨b19, 0, none⟩), .pointer (some ⟨b14, 0, none⟩)])] (.agg #[.slice a35 (List.length r25) c36, .slice a62 (List.length (List.replicate (Int.toNat r48) ((0 : Int)))) c63, .slice a85 (List.length (List.replicate (Int.toNat (ln r25)) ((0 : Int)))) c86, .func (.func 64) #[] #[.pointer (some ⟨b37, 0, none⟩), .pointer (some ⟨b19, 0, none⟩), .pointer (some ⟨b14, 0, none⟩)]]) rfl (by kernel_rfl) rfl (fun _ h => h) (fun _ => rfl) ?_
      refine GT_end (by kernel_rfl) ?_
      intro wx90 x91 ρ hn92
      refine AP_forget [(3, I n), (14, .pointer (some ⟨b37, 0, none⟩)), (15, .pointer (some ⟨b66, 0, none⟩)), (29, .agg #[.slice a35 (List.length r25) c36, .slice a62 (List.length (List.replicate (Int.toNat r48) ((0 : Int)))) c63, .slice a85 (List.length (List.replicate (Int.toNat (ln r25)) ((0 : Int)))) c86, .func (.func 64) #[] #[.pointer (some ⟨b37, 0, none⟩), .pointer (some ⟨b19, 0, none⟩), .pointer (some ⟨b14, 0, none⟩)]])] (by exact hn92) fun ρ => ?_
      refine AP_tail 11 [[], [], [], [1, 2], [1, 2, 3], [], [5], [5, 6], [], [0, 1, 2, 3, 4, 5, 6, 7, 8], [], [0, 1, 2, 3, 4, 5, 6, 7, 8, 9, 10]] (by kernel_rfl) ?_
      have ex96 := (((ex69.ext x75).ext x81).ext x91)
      refine LP_stbox 11 (vs := [.slice a35 (List.length r25) c36, .slice a62 (List.length (List.replicate (Int.toNat r48) ((0 : Int)))) c63, .slice a85 (List.length (List.replicate (Int.toNat (ln r25)) ((0 : Int)))) c86, .func (.func 64) #[] #[.pointer (some ⟨b37, 0, none⟩), .pointer (some ⟨b19, 0, none⟩), .pointer (some ⟨b14, 0, none⟩)]]) (cs' := [.slice a35 (List.length r25) c36, .slice a62 (List.length (List.replicate (Int.toNat r48) ((0 : Int)))) c63, .slice a85 (List.length (List.replicate (Int.toNat (ln r25)) ((0 : Int)))) c86, .func (.func 64) #[] #[.pointer (some ⟨b37, 0, none⟩), .pointer (some ⟨b19, 0, none⟩), .pointer (some ⟨b14, 0, none⟩)]]) rfl rfl rfl ti_103 rfl rfl rfl rfl rfl ex96 rfl rfl fun wx93 ex94 y95 => ?_
      refine LP_end _ rfl ?_
      refine W_seq ?_
      refine W_region ?_
      refine LP_ev ok 0 [(30, I n)] 1 rfl rfl ?_
      have ex97 := (((ex60.ext x65).ext x68).ext x75)
      have ex98 := ((ex43.ext x45).ext x54)
      have ex99 := (ex60.ext x65)
      have ex100 := ((((ex98.ext x58).ext x65).ext x68).ext x75)
      have ex101 := (ex69.ext x75)
      have ex102 := ((ex98.ext x58).ext x65)
      have ex103 := ((((ex33.ext x39).but y (Dj.of_fresh ex33 f41).symm).ext x45).ext x54)
      have ex104 := (ex22.ext x30)
      have ex105 := (((((ex22.ext x30).ext x39).but y (Dj.of_fresh ex104 f41).symm).ext x45).ext x54)
      have ex106 := ((ex17.ext x21).ext x30)
      have ex107 := ((((((ex17.ext x21).ext x30).ext x39).but y (Dj.of_fresh ex106 f41).symm).ext x45).ext x54)
      have ex108 := ((((ex103.ext x58).ext x65).ext x68).ext x75)
      have ex109 := ((((ex105.ext x58).ext x65).ext x68).ext x75)
      have ex110 := ((((ex107.ext x58).ext x65).ext x68).ext x75)
      have ex111 := ((ex103.ext x58).ext x65)
      have ex112 := ((ex105.ext x58).ext x65)
      have ex113 := ((ex107.ext x58).ext x65)
      have ex118 := (((ex108.ext x81).ext x91).but y95 (Dj.of_fresh ex111 f70).symm)
      have ex119 := (((ex97.ext x81).ext x91).but y95 (Dj.of_fresh ex99 f70).symm)
      have ex120 := ((ex83.ext x91).but y95 (Dj.of_fresh ex101 f84))
      have ex121 := (((ex100.ext x81).ext x91).but y95 (Dj.of_fresh ex102 f70).symm)
      have ex122 := (((ex109.ext x81).ext x91).but y95 (Dj.of_fresh ex112 f70).symm)
      have ex123 := (((ex110.ext x81).ext x91).but y95 (Dj.of_fresh ex113 f70).symm)
      refine LP_call 1 rfl rfl rfl cal_65 rfl (impl_search_from_impl_solutions_1_impl_CountSurveys_1_w _ _ _ _ _ _ H wx93 o.readf ex118 o59 ex119 o82 ex120 ex121 ex122 ex123 ex94 (Dj.of_fresh ex97 f84) (Dj.of_fresh ex98 f61).symm (Dj.box (Dj.of_fresh ex99 f70).symm).symm (Dj.of_fresh ex100 f84).symm (Dj.box (Dj.of_fresh ex101 f84).symm.symm).symm (Dj.box (Dj.of_fresh ex102 f70).symm).symm (Dj.of_fresh ex103 f61).symm (Dj.of_fresh ex105 f61).symm (Dj.of_fresh ex107 f61).symm (Dj.of_fresh ex108 f84).symm (Dj.of_fresh ex109 f84).symm (Dj.of_fresh ex110 f84).symm (Dj.box (Dj.of_fresh ex33 f41).symm) (Dj.box (Dj.of_fresh ex104 f41).symm) (Dj.box (Dj.of_fresh ex106 f41).symm) (Dj.box (Dj.of_fresh ex111 f70).symm) (Dj.box (Dj.of_fresh ex112 f70).symm) (Dj.box (Dj.of_fresh ex113 f70).symm)) ?_
      rintro _ wx124 ⟨r114, r115, r116, r117, vx129, hx126, vx134, hx130, H, rfl, x125, o127, ex128, dm, o131, ex132, dm133, ex135, ex136, d, d137, d138, d139, d140⟩
      obtain ⟨a141, c142, rfl⟩ := o127.shape
      obtain ⟨a143, c144, rfl⟩ := o131.shape
      refine LP_end _ rfl ?_
      refine W_seq ?_
      refine W_region ?_
      refine LP_ldbox 0 (v := I r117) rfl rfl rfl ti_3 ag_3 (fun _ => rfl) rfl ex135 rfl rfl ?_
      refine LP_ev ok 1 [(12, I r117)] 2 rfl rfl ?_
      refine LP_end _ rfl ?_
      refine W_ret ?_
      have X146 := ((((X.stepx x).stepx x16).stepx x21).stepx x30)
      have f145 := f41.mono X146.size
      have X148 := ((((((X146.stepx x39).step y (f145.dom _)).stepx x45).stepx x54).stepx x58).stepx x65)
      have f147 := f70.mono X148.size
      have X150 := ((((X146.stepx x39).step y (f145.dom _)).stepx x45).stepx x54)
      have f149 := f61.mono X150.size
      have X152 := ((X148.stepx x68).stepx x75)
      have f151 := f84.mono X152.size
      have X153 := ((((((((((((((((X.stepx x).stepx x16).stepx x21).stepx x30).stepx x39).step y (f145.dom _)).stepx x45).stepx x54).stepx x58).stepx x65).stepx x68).stepx x75).stepx x81).stepx x91).step y95 (f147.dom _)).step x125 (DomLe.un (f149.dom _) (DomLe.un (f151.dom _) (DomLe.un ((Fresh.box f145).dom _) ((Fresh.box f147).dom _)))))
      exact ⟨_, Ret_of [I r117] ⟨⟨rfl, rfl⟩, trivial⟩, _, H, rfl, X153.ext⟩
  · have H := H.2.1
    refine GT_lp [(26, I (ln r25))] rfl (by kernel_rfl) rfl (fun _ h => h) rfl fun ρ wx154 x155 => ?_
    obtain ⟨hn156, hb157, H⟩ := H
    refine LP_make (α := Int) 0 rfl rfl rfl Try.underlying22 ti_3 (x0 := (0 : Int)) rfl rfl hn156 (by first | omega | (simp only [ln] at *; omega)) (by first | omega | (simp only [ln] at *; omega)) fun hx158 vx159 wx160 x161 o162 ex163 f164 => ?_
    obtain ⟨a165, c166, rfl⟩ := o162.shape
    have ex167 := ((ex50.ext x155).ext x161)
    have ex168 := ((ex52.ext x155).ext x161)
    have ex169 := ((ex47.ext x155).ext x161)
    refine LP_gs ⟨⟨.inr ex167, .inr ex168, .inr ex169, trivial⟩, ?_⟩
    refine GT_hd [4, 10] (by kernel_rfl) ⟨?_, ?_, trivial⟩
    · have H := H
      refine GT_lp [(23, I r48)] rfl (by kernel_rfl) rfl (fun _ h => h) rfl fun ρ wx170 x171 => ?_
      obtain ⟨hn172, hb173, H⟩ := H
      refine LP_make (α := Int) 0 rfl rfl rfl Try.underlying22 ti_3 (x0 := (0 : Int)) rfl rfl hn172 (by first | omega | (simp only [ln] at *; omega)) (by first | omega | (simp only [ln] at *; omega)) fun hx174 vx175 wx176 x177 o178 ex179 f180 => ?_
      obtain ⟨a181, c182, rfl⟩ := o178.shape
      refine LP_gs ⟨⟨.inl rfl, .inl rfl, .inl rfl, trivial⟩, ?_⟩
      refine GT_ev 9 ok [(20, .slice a35 (List.length r25) c36), (24, .slice a181 (List.length (List.replicate (Int.toNat r48) ((0 : Int)))) c182), (27, .slice a165 (List.length (List.replicate (Int.toNat (ln r25)) ((0 : Int)))) c166), (28, .func (.func 64) #[] #[.pointer (some ⟨b37, 0, none⟩), .pointer (some ⟨b19, 0, none⟩), .pointer (some ⟨b14, 0, none⟩)])] (.agg #[.slice a35 (List.length r25) c36, .slice a181 (List.length (List.replicate (Int.toNat r48) ((0 : Int)))) c182, .slice a165 (List.length (List.replicate (Int.toNat (ln r25)) ((0 : Int)))) c166, .func (.func 64) #[] #[.pointer (some ⟨b37, 0, none⟩), .pointer (some ⟨b19, 0, none⟩), .pointer (some ⟨b14, 0, none⟩)]]) rfl (by kernel_rfl) rfl (fun _ h => h) (fun _ => rfl) ?_
      refine GT_hd [10] (by kernel_rfl) ⟨GT_lp [] rfl (by kernel_rfl) rfl (fun _ h => h) rfl fun ρ wx183 x184 => ?_, trivial⟩
      refine LP_alloc 0 rfl rfl rfl ti_103 rfl fun b185 wx186 x187 ex188 f189 => ?_
      have ex190 := ((((ex167.ext x171).ext x177).ext x184).ext x187)
      have ex191 := ((((ex168.ext x171).ext x177).ext x184).ext x187)
      have ex192 := ((((ex169.ext x171).ext x177).ext x184).ext x187)
      refine LP_gs ⟨⟨.inr ex190, .inr ex191, .inr ex192, trivial⟩, ?_⟩
      refine GT_end (by kernel_rfl) ?_
      intro wx193 x194 ρ hn195
      refine AP_forget [(3, I n), (14, .pointer (some ⟨b37, 0, none⟩)), (15, .pointer (some ⟨b185, 0, none⟩)), (29, .agg #[.slice a35 (List.length r25) c36, .slice a181 (List.length (List.replicate (Int.toNat r48) ((0 : Int)))) c182, .slice a165 (List.length (List.replicate (Int.toNat (ln r25)) ((0 : Int)))) c166, .func (.func 64) #[] #[.pointer (some ⟨b37, 0, none⟩), .pointer (some ⟨b19, 0, none⟩), .pointer (some ⟨b14, 0, none⟩)]])] (by exact hn195) fun ρ => ?_
      refine AP_tail 11 [[], [], [], [1, 2], [1, 2, 3], [], [5], [5, 6], [], [0, 1, 2, 3, 4, 5, 6, 7, 8], [], [0, 1, 2, 3, 4, 5, 6, 7, 8, 9, 10]] (by kernel_rfl) ?_
      have ex199 := (ex188.ext x194)
      refine LP_stbox 11 (vs := [.slice a35 (List.length r25) c36, .slice a181 (List.length (List.replicate (Int.toNat r48) ((0 : Int)))) c182, .slice a165 (List.length (List.replicate (Int.toNat (ln r25)) ((0 : Int)))) c166, .func (.func 64) #[] #[.pointer (some ⟨b37, 0, none⟩), .pointer (some ⟨b19, 0, none⟩), .pointer (some ⟨b14, 0, none⟩)]]) (cs' := [.slice a35 (List.length r25) c36, .slice a181 (List.length (List.replicate (Int.toNat r48) ((0 : Int)))) c182, .slice a165 (List.length (List.replicate (Int.toNat (ln r25)) ((0 : Int)))) c166, .func (.func 64) #[] #[.pointer (some ⟨b37, 0, none⟩), .pointer (some ⟨b19, 0, none⟩), .pointer (some ⟨b14, 0, none⟩)]]) rfl rfl rfl ti_103 rfl rfl rfl rfl rfl ex199 rfl rfl fun wx196 ex197 y198 => ?_
      refine LP_end _ rfl ?_
      refine W_seq ?_
      refine W_region ?_
      refine LP_ev ok 0 [(30, I n)] 1 rfl rfl ?_
      have ex200 := (ex163.ext x171)
      have ex201 := ((((ex43.ext x45).ext x155).ext x161).ext x171)
      have ex202 := (ex179.ext x184)
      have ex203 := ((ex43.ext x45).ext x155)
      have ex204 := ((ex200.ext x177).ext x184)
      have ex205 := ((ex201.ext x177).ext x184)
      have ex206 := ((((((ex33.ext x39).but y (Dj.of_fresh ex33 f41).symm).ext x45).ext x155).ext x161).ext x171)
      have ex207 := (ex22.ext x30)
      have ex208 := (((((((ex22.ext x30).ext x39).but y (Dj.of_fresh ex207 f41).symm).ext x45).ext x155).ext x161).ext x171)
      have ex209 := ((ex17.ext x21).ext x30)
      have ex210 := ((((((((ex17.ext x21).ext x30).ext x39).but y (Dj.of_fresh ex209 f41).symm).ext x45).ext x155).ext x161).ext x171)
      have ex211 := ((((ex33.ext x39).but y (Dj.of_fresh ex33 f41).symm).ext x45).ext x155)
      have ex212 := ((((ex207.ext x39).but y (Dj.of_fresh ex207 f41).symm).ext x45).ext x155)
      have ex213 := ((((ex209.ext x39).but y (Dj.of_fresh ex209 f41).symm).ext x45).ext x155)
      have ex214 := ((ex206.ext x177).ext x184)
      have ex215 := ((ex208.ext x177).ext x184)
      have ex216 := ((ex210.ext x177).ext x184)
      have ex221 := (((ex214.ext x187).ext x194).but y198 (Dj.of_fresh ex214 f189).symm)
      have ex222 := (((ex202.ext x187).ext x194).but y198 (Dj.of_fresh ex202 f189).symm)
      have ex223 := (((ex204.ext x187).ext x194).but y198 (Dj.of_fresh ex204 f189).symm)
      have ex224 := (((ex205.ext x187).ext x194).but y198 (Dj.of_fresh ex205 f189).symm)
      have ex225 := (((ex215.ext x187).ext x194).but y198 (Dj.of_fresh ex215 f189).symm)
      have ex226 := (((ex216.ext x187).ext x194).but y198 (Dj.of_fresh ex216 f189).symm)
      refine LP_call 1 rfl rfl rfl cal_65 rfl (impl_search_from_impl_solutions_1_impl_CountSurveys_1_w _ _ _ _ _ _ H wx196 o.readf ex221 o178 ex222 o162 ex223 ex224 ex225 ex226 ex197 (Dj.of_fresh ex200 f180).symm (Dj.of_fresh ex201 f180).symm (Dj.box (Dj.of_fresh ex202 f189).symm).symm (Dj.of_fresh ex203 f164).symm (Dj.box (Dj.of_fresh ex204 f189).symm).symm (Dj.box (Dj.of_fresh ex205 f189).symm).symm (Dj.of_fresh ex206 f180).symm (Dj.of_fresh ex208 f180).symm (Dj.of_fresh ex210 f180).symm (Dj.of_fresh ex211 f164).symm (Dj.of_fresh ex212 f164).symm (Dj.of_fresh ex213 f164).symm (Dj.box (Dj.of_fresh ex33 f41).symm) (Dj.box (Dj.of_fresh ex207 f41).symm) (Dj.box (Dj.of_fresh ex209 f41).symm) (Dj.box (Dj.of_fresh ex214 f189).symm) (Dj.box (Dj.of_fresh ex215 f189).symm) (Dj.box (Dj.of_fresh ex216 f189).symm)) ?_
      rintro _ wx227 ⟨r217, r218, r219, r220, vx233, hx229, vx238, hx234, H, rfl, x228, o230, ex231, dm232, o235, ex236, dm237, ex239, ex240, d241, d242, d243, d244, d245⟩
      obtain ⟨a246, c247, rfl⟩ := o230.shape
      obtain ⟨a248, c249, rfl⟩ := o235.shape
      refine LP_end _ rfl ?_
      refine W_seq ?_
      refine W_region ?_
      refine LP_ldbox 0 (v := I r220) rfl rfl rfl ti_3 ag_3 (fun _ => rfl) rfl ex239 rfl rfl ?_
      refine LP_ev ok 1 [(12, I r220)] 2 rfl rfl ?_
      refine LP_end _ rfl ?_
      refine W_ret ?_
      have X251 := ((((X.stepx x).stepx x16).stepx x21).stepx x30)
      have f250 := f41.mono X251.size
      have X253 := ((((((((X251.stepx x39).step y (f250.dom _)).stepx x45).stepx x155).stepx x161).stepx x171).stepx x177).stepx x184)
      have f252 := f189.mono X253.size
      have X255 := ((((((X251.stepx x39).step y (f250.dom _)).stepx x45).stepx x155).stepx x161).stepx x171)
      have f254 := f180.mono X255.size
      have X257 := ((((X251.stepx x39).step y (f250.dom _)).stepx x45).stepx x155)
      have f256 := f164.mono X257.size
      have X258 := ((((((((((((((((X.stepx x).stepx x16).stepx x21).stepx x30).stepx x39).step y (f250.dom _)).stepx x45).stepx x155).stepx x161).stepx x171).stepx x177).stepx x184).stepx x187).stepx x194).step y198 (f252.dom _)).step x228 (DomLe.un (f254.dom _) (DomLe.un (f256.dom _) (DomLe.un ((Fresh.box f250).dom _) ((Fresh.box f252).dom _)))))
      exact ⟨_, Ret_of [I r220] ⟨⟨rfl, rfl⟩, trivial⟩, _, H, rfl, X258.ext⟩
    · have H := H
      refine GT_lp [] rfl (by kernel_rfl) rfl (fun _ h => h) rfl fun ρ wx170 x171 => ?_
      refine LP_alloc 0 rfl rfl rfl ti_103 rfl fun b172 wx173 x174 ex175 f176 => ?_
      have ex177 := ((ex167.ext x171).ext x174)
      have ex178 := ((ex168.ext x171).ext x174)
      have ex179 := ((ex169.ext x171).ext x174)
      refine LP_gs ⟨⟨.inr ex177, .inr ex178, .inr ex179, trivial⟩, ?_⟩
      refine GT_hd [4] (by kernel_rfl) ⟨GT_lp [(23, I r48)] rfl (by kernel_rfl) rfl (fun _ h => h) rfl fun ρ wx180 x181 => ?_, trivial⟩
      obtain ⟨hn182, hb183, H⟩ := H
      refine LP_make (α := Int) 0 rfl rfl rfl Try.underlying22 ti_3 (x0 := (0 : Int)) rfl rfl hn182 (by first | omega | (simp only [ln] at *; omega)) (by first | omega | (simp only [ln] at *; omega)) fun hx184 vx185 wx186 x187 o188 ex189 f190 => ?_
      obtain ⟨a191, c192, rfl⟩ := o188.shape
      refine LP_gs ⟨⟨.inl rfl, .inl rfl, .inl rfl, trivial⟩, ?_⟩
      refine GT_ev 9 ok [(20, .slice a35 (List.length r25) c36), (24, .slice a191 (List.length (List.replicate (Int.toNat r48) ((0 : Int)))) c192), (27, .slice a165 (List.length (List.replicate (Int.toNat (ln r25)) ((0 : Int)))) c166), (28, .func (.func 64) #[] #[.pointer (some ⟨b37, 0, none⟩), .pointer (some ⟨b19, 0, none⟩), .pointer (some ⟨b14, 0, none⟩)])] (.agg #[.slice a35 (List.length r25) c36, .slice a191 (List.length (List.replicate (Int.toNat r48) ((0 : Int)))) c192, .slice a165 (List.length (List.replicate (Int.toNat (ln r25)) ((0 : Int)))) c166, .func (.func 64) #[] #[.pointer (some ⟨b37, 0, none⟩), .pointer (some ⟨b19, 0, none⟩), .pointer (some ⟨b14, 0, none⟩)]]) rfl (by kernel_rfl) rfl (fun _ h => h) (fun _ => rfl) ?_
      refine GT_end (by kernel_rfl) ?_
      intro wx193 x194 ρ hn195
      refine AP_forget [(3, I n), (14, .pointer (some ⟨b37, 0, none⟩)), (15, .pointer (some ⟨b172, 0, none⟩)), (29, .agg #[.slice a35 (List.length r25) c36, .slice a191 (List.length (List.replicate (Int.toNat r48) ((0 : Int)))) c192, .slice a165 (List.length (List.replicate (Int.toNat (ln r25)) ((0 : Int)))) c166, .func (.func 64) #[] #[.pointer (some ⟨b37, 0, none⟩), .pointer (some ⟨b19, 0, none⟩), .pointer (some ⟨b14, 0, none⟩)]])] (by exact hn195) fun ρ => ?_
      refine AP_tail 11 [[], [], [], [1, 2], [1, 2, 3], [], [5], [5, 6], [], [0, 1, 2, 3, 4, 5, 6, 7, 8], [], [0, 1, 2, 3, 4, 5, 6, 7, 8, 9, 10]] (by kernel_rfl) ?_
      have ex199 := (((ex175.ext x181).ext x187).ext x194)
      refine LP_stbox 11 (vs := [.slice a35 (List.length r25) c36, .slice a191 (List.length (List.replicate (Int.toNat r48) ((0 : Int)))) c192, .slice a165 (List.length (List.replicate (Int.toNat (ln r25)) ((0 : Int)))) c166, .func (.func 64) #[] #[.pointer (some ⟨b37, 0, none⟩), .pointer (some ⟨b19, 0, none⟩), .pointer (some ⟨b14, 0, none⟩)]]) (cs' := [.slice a35 (List.length r25) c36, .slice a191 (List.length (List.replicate (Int.toNat r48) ((0 : Int)))) c192, .slice a165 (List.length (List.replicate (Int.toNat (ln r25)) ((0 : Int)))) c166, .func (.func 64) #[] #[.pointer (some ⟨b37, 0, none⟩), .pointer (some ⟨b19, 0, none⟩), .pointer (some ⟨b14, 0, none⟩)]]) rfl rfl rfl ti_103 rfl rfl rfl rfl rfl ex199 rfl rfl fun wx196 ex197 y198 => ?_
      refine LP_end _ rfl ?_
      refine W_seq ?_
      refine W_region ?_
      refine LP_ev ok 0 [(30, I n)] 1 rfl rfl ?_
      have ex200 := (((ex163.ext x171).ext x174).ext x181)
      have ex201 := ((((((ex43.ext x45).ext x155).ext x161).ext x171).ext x174).ext x181)
      have ex202 := (ex175.ext x181)
      have ex203 := ((ex43.ext x45).ext x155)
      have ex204 := (ex163.ext x171)
      have ex205 := ((ex203.ext x161).ext x171)
      have ex206 := ((((((((ex33.ext x39).but y (Dj.of_fresh ex33 f41).symm).ext x45).ext x155).ext x161).ext x171).ext x174).ext x181)
      have ex207 := (ex22.ext x30)
      have ex208 := (((((((((ex22.ext x30).ext x39).but y (Dj.of_fresh ex207 f41).symm).ext x45).ext x155).ext x161).ext x171).ext x174).ext x181)
      have ex209 := ((ex17.ext x21).ext x30)
      have ex210 := ((((((((((ex17.ext x21).ext x30).ext x39).but y (Dj.of_fresh ex209 f41).symm).ext x45).ext x155).ext x161).ext x171).ext x174).ext x181)
      have ex211 := ((((ex33.ext x39).but y (Dj.of_fresh ex33 f41).symm).ext x45).ext x155)
      have ex212 := ((((ex207.ext x39).but y (Dj.of_fresh ex207 f41).symm).ext x45).ext x155)
      have ex213 := ((((ex209.ext x39).but y (Dj.of_fresh ex209 f41).symm).ext x45).ext x155)
      have ex214 := ((ex211.ext x161).ext x171)
      have ex215 := ((ex212.ext x161).ext x171)
      have ex216 := ((ex213.ext x161).ext x171)
      have ex221 := (((ex206.ext x187).ext x194).but y198 (Dj.of_fresh ex214 f176).symm)
      have ex222 := ((ex189.ext x194).but y198 (Dj.of_fresh ex202 f190))
      have ex223 := (((ex200.ext x187).ext x194).but y198 (Dj.of_fresh ex204 f176).symm)
      have ex224 := (((ex201.ext x187).ext x194).but y198 (Dj.of_fresh ex205 f176).symm)
      have ex225 := (((ex208.ext x187).ext x194).but y198 (Dj.of_fresh ex215 f176).symm)
      have ex226 := (((ex210.ext x187).ext x194).but y198 (Dj.of_fresh ex216 f176).symm)
      refine LP_call 1 rfl rfl rfl cal_65 rfl (impl_search_from_impl_solutions_1_impl_CountSurveys_1_w _ _ _ _ _ _ H wx196 o.readf ex221 o188 ex222 o162 ex223 ex224 ex225 ex226 ex197 (Dj.of_fresh ex200 f190).symm (Dj.of_fresh ex201 f190).symm (Dj.box (Dj.of_fresh ex202 f190).symm.symm).symm (Dj.of_fresh ex203 f164).symm (Dj.box (Dj.of_fresh ex204 f176).symm).symm (Dj.box (Dj.of_fresh ex205 f176).symm).symm (Dj.of_fresh ex206 f190).symm (Dj.of_fresh ex208 f190).symm (Dj.of_fresh ex210 f190).symm (Dj.of_fresh ex211 f164).symm (Dj.of_fresh ex212 f164).symm (Dj.of_fresh ex213 f164).symm (Dj.box (Dj.of_fresh ex33 f41).symm) (Dj.box (Dj.of_fresh ex207 f41).symm) (Dj.box (Dj.of_fresh ex209 f41).symm) (Dj.box (Dj.of_fresh ex214 f176).symm) (Dj.box (Dj.of_fresh ex215 f176).symm) (Dj.box (Dj.of_fresh ex216 f176).symm)) ?_
      rintro _ wx227 ⟨r217, r218, r219, r220, vx233, hx229, vx238, hx234, H, rfl, x228, o230, ex231, dm232, o235, ex236, dm237, ex239, ex240, d241, d242, d243, d244, d245⟩
      obtain ⟨a246, c247, rfl⟩ := o230.shape
      obtain ⟨a248, c249, rfl⟩ := o235.shape
      refine LP_end _ rfl ?_
      refine W_seq ?_
      refine W_region ?_
      refine LP_ldbox 0 (v := I r220) rfl rfl rfl ti_3 ag_3 (fun _ => rfl) rfl ex239 rfl rfl ?_
      refine LP_ev ok 1 [(12, I r220)] 2 rfl rfl ?_
      refine LP_end _ rfl ?_
      refine W_ret ?_
      have X251 := ((((X.stepx x).stepx x16).stepx x21).stepx x30)
      have f250 := f41.mono X251.size
      have X253 := ((((((X251.stepx x39).step y (f250.dom _)).stepx x45).stepx x155).stepx x161).stepx x171)
      have f252 := f176.mono X253.size
      have X255 := ((X253.stepx x174).stepx x181)
      have f254 := f190.mono X255.size
      have X257 := ((((X251.stepx x39).step y (f250.dom _)).stepx x45).stepx x155)
      have f256 := f164.mono X257.size
      have X258 := ((((((((((((((((X.stepx x).stepx x16).stepx x21).stepx x30).stepx x39).step y (f250.dom _)).stepx x45).stepx x155).stepx x161).stepx x171).stepx x174).stepx x181).stepx x187).stepx x194).step y198 (f252.dom _)).step x228 (DomLe.un (f254.dom _) (DomLe.un (f256.dom _) (DomLe.un ((Fresh.box f250).dom _) ((Fresh.box f252).dom _)))))
      exact ⟨_, Ret_of [I r220] ⟨⟨rfl, rfl⟩, trivial⟩, _, H, rfl, X258.ext⟩
  · have H := H.2.2
    refine GT_lp [] rfl (by kernel_rfl) rfl (fun _ h => h) rfl fun ρ wx259 x260 => ?_
    refine LP_alloc 0 rfl rfl rfl ti_103 rfl fun b261 wx262 x263 ex264 f265 => ?_
    have ex266 := ((ex50.ext x260).ext x263)
    have ex267 := ((ex52.ext x260).ext x263)
    have ex268 := ((ex47.ext x260).ext x263)
    refine LP_gs ⟨⟨.inr ex266, .inr ex267, .inr ex268, trivial⟩, ?_⟩
    refine GT_hd [4, 7] (by kernel_rfl) ⟨?_, ?_, trivial⟩
    · have H := H.1
      refine GT_lp [(23, I r48)] rfl (by kernel_rfl) rfl (fun _ h => h) rfl fun ρ wx269 x270 => ?_
      obtain ⟨hn271, hb272, H⟩ := H
      refine LP_make (α := Int) 0 rfl rfl rfl Try.underlying22 ti_3 (x0 := (0 : Int)) rfl rfl hn271 (by first | omega | (simp only [ln] at *; omega)) (by first | omega | (simp only [ln] at *; omega)) fun hx273 vx274 wx275 x276 o277 ex278 f279 => ?_
      obtain ⟨a280, c281, rfl⟩ := o277.shape
      refine LP_gs ⟨⟨.inl rfl, .inl rfl, .inl rfl, trivial⟩, ?_⟩
      refine GT_hd [7] (by kernel_rfl) ⟨GT_lp [(26, I (ln r25))] rfl (by kernel_rfl) rfl (fun _ h => h) rfl fun ρ wx282 x283 => ?_, trivial⟩
      obtain ⟨hn284, hb285, H⟩ := H
      refine LP_make (α := Int) 0 rfl rfl rfl Try.underlying22 ti_3 (x0 := (0 : Int)) rfl rfl hn284 (by first | omega | (simp only [ln] at *; omega)) (by first | omega | (simp only [ln] at *; omega)) fun hx286 vx287 wx288 x289 o290 ex291 f292 => ?_
      obtain ⟨a293, c294, rfl⟩ := o290.shape
      have ex295 := ((((ex266.ext x270).ext x276).ext x283).ext x289)
      have ex296 := ((((ex267.ext x270).ext x276).ext x283).ext x289)
      have ex297 := ((((ex268.ext x270).ext x276).ext x283).ext x289)
      refine LP_gs ⟨⟨.inr ex295, .inr ex296, .inr ex297, trivial⟩, ?_⟩
      refine GT_ev 9 ok [(20, .slice a35 (List.length r25) c36), (24, .slice a280 (List.length (List.replicate (Int.toNat r48) ((0 : Int)))) c281), (27, .slice a293 (List.length (List.replicate (Int.toNat (ln r25)) ((0 : Int)))) c294), (28, .func (.func 64) #[] #[.pointer (some ⟨b37, 0, none⟩), .pointer (some ⟨b19, 0, none⟩), .pointer (some ⟨b14, 0, none⟩)])] (.agg #[.slice a35 (List.length r25) c36, .slice a280 (List.length (List.replicate (Int.toNat r48) ((0 : Int)))) c281, .slice a293 (List.length (List.replicate (Int.toNat (ln r25)) ((0 : Int)))) c294, .func (.func 64) #[] #[.pointer (some ⟨b37, 0, none⟩), .pointer (some ⟨b19, 0, none⟩), .pointer (some ⟨b14, 0, none⟩)]]) rfl (by kernel_rfl) rfl (fun _ h => h) (fun _ => rfl) ?_
      refine GT_end (by kernel_rfl) ?_
      intro wx298 x299 ρ hn300
      refine AP_forget [(3, I n), (14, .pointer (some ⟨b37, 0, none⟩)), (15, .pointer (some ⟨b261, 0, none⟩)), (29, .agg #[.slice a35 (List.length r25) c36, .slice a280 (List.length (List.replicate (Int.toNat r48) ((0 : Int)))) c281, .slice a293 (List.length (List.replicate (Int.toNat (ln r25)) ((0 : Int)))) c294, .func (.func 64) #[] #[.pointer (some ⟨b37, 0, none⟩), .pointer (some ⟨b19, 0, none⟩), .pointer (some ⟨b14, 0, none⟩)]])] (by exact hn300) fun ρ => ?_
      refine AP_tail 11 [[], [], [], [1, 2], [1, 2, 3], [], [5], [5, 6], [], [0, 1, 2, 3, 4, 5, 6, 7, 8], [], [0, 1, 2, 3, 4, 5, 6, 7, 8, 9, 10]] (by kernel_rfl) ?_
      have ex304 := (((((ex264.ext x270).ext x276).ext x283).ext x289).ext x299)
      refine LP_stbox 11 (vs := [.slice a35 (List.length r25) c36, .slice a280 (List.length (List.replicate (Int.toNat r48) ((0 : Int)))) c281, .slice a293 (List.length (List.replicate (Int.toNat (ln r25)) ((0 : Int)))) c294, .func (.func 64) #[] #[.pointer (some ⟨b37, 0, none⟩), .pointer (some ⟨b19, 0, none⟩), .pointer (some ⟨b14, 0, none⟩)]]) (cs' := [.slice a35 (List.length r25) c36, .slice a280 (List.length (List.replicate (Int.toNat r48) ((0 : Int)))) c281, .slice a293 (List.length (List.replicate (Int.toNat (ln r25)) ((0 : Int)))) c294, .func (.func 64) #[] #[.pointer (some ⟨b37, 0, none⟩), .pointer (some ⟨b19, 0, none⟩), .pointer (some ⟨b14, 0, none⟩)]]) rfl rfl rfl ti_103 rfl rfl rfl rfl rfl ex304 rfl rfl fun wx301 ex302 y303 => ?_
      refine LP_end _ rfl ?_
      refine W_seq ?_
      refine W_region ?_
      refine LP_ev ok 0 [(30, I n)] 1 rfl rfl ?_
      have ex305 := (ex278.ext x283)
      have ex306 := ((((ex43.ext x45).ext x260).ext x263).ext x270)
      have ex307 := (ex264.ext x270)
      have ex308 := ((ex306.ext x276).ext x283)
      have ex309 := ((ex307.ext x276).ext x283)
      have ex310 := ((ex43.ext x45).ext x260)
      have ex311 := ((((((ex33.ext x39).but y (Dj.of_fresh ex33 f41).symm).ext x45).ext x260).ext x263).ext x270)
      have ex312 := (ex22.ext x30)
      have ex313 := (((((((ex22.ext x30).ext x39).but y (Dj.of_fresh ex312 f41).symm).ext x45).ext x260).ext x263).ext x270)
      have ex314 := ((ex17.ext x21).ext x30)
      have ex315 := ((((((((ex17.ext x21).ext x30).ext x39).but y (Dj.of_fresh ex314 f41).symm).ext x45).ext x260).ext x263).ext x270)
      have ex316 := ((ex311.ext x276).ext x283)
      have ex317 := ((ex313.ext x276).ext x283)
      have ex318 := ((ex315.ext x276).ext x283)
      have ex319 := ((((ex33.ext x39).but y (Dj.of_fresh ex33 f41).symm).ext x45).ext x260)
      have ex320 := ((((ex312.ext x39).but y (Dj.of_fresh ex312 f41).symm).ext x45).ext x260)
      have ex321 := ((((ex314.ext x39).but y (Dj.of_fresh ex314 f41).symm).ext x45).ext x260)
      have ex326 := (((ex316.ext x289).ext x299).but y303 (Dj.of_fresh ex319 f265).symm)
      have ex327 := (((ex305.ext x289).ext x299).but y303 (Dj.of_fresh ex307 f279))
      have ex328 := ((ex291.ext x299).but y303 (Dj.of_fresh ex309 f292))
      have ex329 := (((ex308.ext x289).ext x299).but y303 (Dj.of_fresh ex310 f265).symm)
      have ex330 := (((ex317.ext x289).ext x299).but y303 (Dj.of_fresh ex320 f265).symm)
      have ex331 := (((ex318.ext x289).ext x299).but y303 (Dj.of_fresh ex321 f265).symm)
      refine LP_call 1 rfl rfl rfl cal_65 rfl (impl_search_from_impl_solutions_1_impl_CountSurveys_1_w _ _ _ _ _ _ H wx301 o.readf ex326 o277 ex327 o290 ex328 ex329 ex330 ex331 ex302 (Dj.of_fresh ex305 f292) (Dj.of_fresh ex306 f279).symm (Dj.box (Dj.of_fresh ex307 f279).symm.symm).symm (Dj.of_fresh ex308 f292).symm (Dj.box (Dj.of_fresh ex309 f292).symm.symm).symm (Dj.box (Dj.of_fresh ex310 f265).symm).symm (Dj.of_fresh ex311 f279).symm (Dj.of_fresh ex313 f279).symm (Dj.of_fresh ex315 f279).symm (Dj.of_fresh ex316 f292).symm (Dj.of_fresh ex317 f292).symm (Dj.of_fresh ex318 f292).symm (Dj.box (Dj.of_fresh ex33 f41).symm) (Dj.box (Dj.of_fresh ex312 f41).symm) (Dj.box (Dj.of_fresh ex314 f41).symm) (Dj.box (Dj.of_fresh ex319 f265).symm) (Dj.box (Dj.of_fresh ex320 f265).symm) (Dj.box (Dj.of_fresh ex321 f265).symm)) ?_
      rintro _ wx332 ⟨r322, r323, r324, r325, vx338, hx334, vx343, hx339, H, rfl, x333, o335, ex336, dm337, o340, ex341, dm342, ex344, ex345, d346, d347, d348, d349, d350⟩
      obtain ⟨a351, c352, rfl⟩ := o335.shape
      obtain ⟨a353, c354, rfl⟩ := o340.shape
      refine LP_end _ rfl ?_
      refine W_seq ?_
      refine W_region ?_
      refine LP_ldbox 0 (v := I r325) rfl rfl rfl ti_3 ag_3 (fun _ => rfl) rfl ex344 rfl rfl ?_
      refine LP_ev ok 1 [(12, I r325)] 2 rfl rfl ?_
      refine LP_end _ rfl ?_
      refine W_ret ?_
      have X356 := ((((X.stepx x).stepx x16).stepx x21).stepx x30)
      have f355 := f41.mono X356.size
      have X358 := ((((X356.stepx x39).step y (f355.dom _)).stepx x45).stepx x260)
      have f357 := f265.mono X358.size
      have X360 := ((X358.stepx x263).stepx x270)
      have f359 := f279.mono X360.size
      have X362 := ((X360.stepx x276).stepx x283)
      have f361 := f292.mono X362.size
      have X363 := ((((((((((((((((X.stepx x).stepx x16).stepx x21).stepx x30).stepx x39).step y (f355.dom _)).stepx x45).stepx x260).stepx x263).stepx x270).stepx x276).stepx x283).stepx x289).stepx x299).step y303 (f357.dom _)).step x333 (DomLe.un (f359.dom _) (DomLe.un (f361.dom _) (DomLe.un ((Fresh.box f355).dom _) ((Fresh.box f357).dom _)))))
      exact ⟨_, Ret_of [I r325] ⟨⟨rfl, rfl⟩, trivial⟩, _, H, rfl, X363.ext⟩
    · have H := H.2
      refine GT_lp [(26, I (ln r25))] rfl (by kernel_rfl) rfl (fun _ h => h) rfl fun ρ wx364 x365 => ?_
      obtain ⟨hn366, hb367, H⟩ := H
      refine LP_make (α := Int) 0 rfl rfl rfl Try.underlying22 ti_3 (x0 := (0 : Int)) rfl rfl hn366 (by first | omega | (simp only [ln] at *; omega)) (by first | omega | (simp only [ln] at *; omega)) fun hx368 vx369 wx370 x371 o372 ex373 f374 => ?_
      obtain ⟨a375, c376, rfl⟩ := o372.shape
      have ex377 := ((ex266.ext x365).ext x371)
      have ex378 := ((ex267.ext x365).ext x371)
      have ex379 := ((ex268.ext x365).ext x371)
      refine LP_gs ⟨⟨.inr ex377, .inr ex378, .inr ex379, trivial⟩, ?_⟩
      refine GT_hd [4] (by kernel_rfl) ⟨GT_lp [(23, I r48)] rfl (by kernel_rfl) rfl (fun _ h => h) rfl fun ρ wx380 x381 => ?_, trivial⟩
      obtain ⟨hn382, hb383, H⟩ := H
      refine LP_make (α := Int) 0 rfl rfl rfl Try.underlying22 ti_3 (x0 := (0 : Int)) rfl rfl hn382 (by first | omega | (simp only [ln] at *; omega)) (by first | omega | (simp only [ln] at *; omega)) fun hx384 vx385 wx386 x387 o388 ex389 f390 => ?_
      obtain ⟨a391, c392, rfl⟩ := o388.shape
      refine LP_gs ⟨⟨.inl rfl, .inl rfl, .inl rfl, trivial⟩, ?_⟩
      refine GT_ev 9 ok [(20, .slice a35 (List.length r25) c36), (24, .slice a391 (List.length (List.replicate (Int.toNat r48) ((0 : Int)))) c392), (27, .slice a375 (List.length (List.replicate (Int.toNat (ln r25)) ((0 : Int)))) c376), (28, .func (.func 64) #[] #[.pointer (some ⟨b37, 0, none⟩), .pointer (some ⟨b19, 0, none⟩), .pointer (some ⟨b14, 0, none⟩)])] (.agg #[.slice a35 (List.length r25) c36, .slice a391 (List.length (List.replicate (Int.toNat r48) ((0 : Int)))) c392, .slice a375 (List.length (List.replicate (Int.toNat (ln r25)) ((0 : Int)))) c376, .func (.func 64) #[] #[.pointer (some ⟨b37, 0, none⟩), .pointer (some ⟨b19, 0, none⟩), .pointer (some ⟨b14, 0, none⟩)]]) rfl (by kernel_rfl) rfl (fun _ h => h) (fun _ => rfl) ?_
      refine GT_end (by kernel_rfl) ?_
      intro wx393 x394 ρ hn395
      refine AP_forget [(3, I n), (14, .pointer (some ⟨b37, 0, none⟩)), (15, .pointer (some ⟨b261, 0, none⟩)), (29, .agg #[.slice a35 (List.length r25) c36, .slice a391 (List.length (List.replicate (Int.toNat r48) ((0 : Int)))) c392, .slice a375 (List.length (List.replicate (Int.toNat (ln r25)) ((0 : Int)))) c376, .func (.func 64) #[] #[.pointer (some ⟨b37, 0, none⟩), .pointer (some ⟨b19, 0, none⟩), .pointer (some ⟨b14, 0, none⟩)]])] (by exact hn395) fun ρ => ?_
      refine AP_tail 11 [[], [], [], [1, 2], [1, 2, 3], [], [5], [5, 6], [], [0, 1, 2, 3, 4, 5, 6, 7, 8], [], [0, 1, 2, 3, 4, 5, 6, 7, 8, 9, 10]] (by kernel_rfl) ?_
      have ex399 := (((((ex264.ext x365).ext x371).ext x381).ext x387).ext x394)
      refine LP_stbox 11 (vs := [.slice a35 (List.length r25) c36, .slice a391 (List.length (List.replicate (Int.toNat r48) ((0 : Int)))) c392, .slice a375 (List.length (List.replicate (Int.toNat (ln r25)) ((0 : Int)))) c376, .func (.func 64) #[] #[.pointer (some ⟨b37, 0, none⟩), .pointer (some ⟨b19, 0, none⟩), .pointer (some ⟨b14, 0, none⟩)]]) (cs' := [.slice a35 (List.length r25) c36, .slice a391 (List.length (List.replicate (Int.toNat r48) ((0 : Int)))) c392, .slice a375 (List.length (List.replicate (Int.toNat (ln r25)) ((0 : Int)))) c376, .func (.func 64) #[] #[.pointer (some ⟨b37, 0, none⟩), .pointer (some ⟨b19, 0, none⟩), .pointer (some ⟨b14, 0, none⟩)]]) rfl rfl rfl ti_103 rfl rfl rfl rfl rfl ex399 rfl rfl fun wx396 ex397 y398 => ?_
      refine LP_end _ rfl ?_
      refine W_seq ?_
      refine W_region ?_
      refine LP_ev ok 0 [(30, I n)] 1 rfl rfl ?_
      have ex400 := (ex373.ext x381)
      have ex401 := ((((((ex43.ext x45).ext x260).ext x263).ext x365).ext x371).ext x381)
      have ex402 := (((ex264.ext x365).ext x371).ext x381)
      have ex403 := ((((ex43.ext x45).ext x260).ext x263).ext x365)
      have ex404 := (ex264.ext x365)
      have ex405 := ((ex43.ext x45).ext x260)
      have ex406 := ((((((((ex33.ext x39).but y (Dj.of_fresh ex33 f41).symm).ext x45).ext x260).ext x263).ext x365).ext x371).ext x381)
      have ex407 := (ex22.ext x30)
      have ex408 := (((((((((ex22.ext x30).ext x39).but y (Dj.of_fresh ex407 f41).symm).ext x45).ext x260).ext x263).ext x365).ext x371).ext x381)
      have ex409 := ((ex17.ext x21).ext x30)
      have ex410 := ((((((((((ex17.ext x21).ext x30).ext x39).but y (Dj.of_fresh ex409 f41).symm).ext x45).ext x260).ext x263).ext x365).ext x371).ext x381)
      have ex411 := ((((((ex33.ext x39).but y (Dj.of_fresh ex33 f41).symm).ext x45).ext x260).ext x263).ext x365)
      have ex412 := ((((((ex407.ext x39).but y (Dj.of_fresh ex407 f41).symm).ext x45).ext x260).ext x263).ext x365)
      have ex413 := ((((((ex409.ext x39).but y (Dj.of_fresh ex409 f41).symm).ext x45).ext x260).ext x263).ext x365)
      have ex414 := ((((ex33.ext x39).but y (Dj.of_fresh ex33 f41).symm).ext x45).ext x260)
      have ex415 := ((((ex407.ext x39).but y (Dj.of_fresh ex407 f41).symm).ext x45).ext x260)
      have ex416 := ((((ex409.ext x39).but y (Dj.of_fresh ex409 f41).symm).ext x45).ext x260)
      have ex421 := (((ex406.ext x387).ext x394).but y398 (Dj.of_fresh ex414 f265).symm)
      have ex422 := ((ex389.ext x394).but y398 (Dj.of_fresh ex402 f390))
      have ex423 := (((ex400.ext x387).ext x394).but y398 (Dj.of_fresh ex404 f374))
      have ex424 := (((ex401.ext x387).ext x394).but y398 (Dj.of_fresh ex405 f265).symm)
      have ex425 := (((ex408.ext x387).ext x394).but y398 (Dj.of_fresh ex415 f265).symm)
      have ex426 := (((ex410.ext x387).ext x394).but y398 (Dj.of_fresh ex416 f265).symm)
      refine LP_call 1 rfl rfl rfl cal_65 rfl (impl_search_from_impl_solutions_1_impl_CountSurveys_1_w _ _ _ _ _ _ H wx396 o.readf ex421 o388 ex422 o372 ex423 ex424 ex425 ex426 ex397 (Dj.of_fresh ex400 f390).symm (Dj.of_fresh ex401 f390).symm (Dj.box (Dj.of_fresh ex402 f390).symm.symm).symm (Dj.of_fresh ex403 f374).symm (Dj.box (Dj.of_fresh ex404 f374).symm.symm).symm (Dj.box (Dj.of_fresh ex405 f265).symm).symm (Dj.of_fresh ex406 f390).symm (Dj.of_fresh ex408 f390).symm (Dj.of_fresh ex410 f390).symm (Dj.of_fresh ex411 f374).symm (Dj.of_fresh ex412 f374).symm (Dj.of_fresh ex413 f374).symm (Dj.box (Dj.of_fresh ex33 f41).symm) (Dj.box (Dj.of_fresh ex407 f41).symm) (Dj.box (Dj.of_fresh ex409 f41).symm) (Dj.box (Dj.of_fresh ex414 f265).symm) (Dj.box (Dj.of_fresh ex415 f265).symm) (Dj.box (Dj.of_fresh ex416 f265).symm)) ?_
      rintro _ wx427 ⟨r417, r418, r419, r420, vx433, hx429, vx438, hx434, H, rfl, x428, o430, ex431, dm432, o435, ex436, dm437, ex439, ex440, d441, d442, d443, d444, d445⟩
      obtain ⟨a446, c447, rfl⟩ := o430.shape
      obtain ⟨a448, c449, rfl⟩ := o435.shape
      refine LP_end _ rfl ?_
      refine W_seq ?_
      refine W_region ?_
      refine LP_ldbox 0 (v := I r420) rfl rfl rfl ti_3 ag_3 (fun _ => rfl) rfl ex439 rfl rfl ?_
      refine LP_ev ok 1 [(12, I r420)] 2 rfl rfl ?_
      refine LP_end _ rfl ?_
      refine W_ret ?_
      have X451 := ((((X.stepx x).stepx x16).stepx x21).stepx x30)
      have f450 := f41.mono X451.size
      have X453 := ((((X451.stepx x39).step y (f450.dom _)).stepx x45).stepx x260)
      have f452 := f265.mono X453.size
      have X455 := ((((X453.stepx x263).stepx x365).stepx x371).stepx x381)
      have f454 := f390.mono X455.size
      have X457 := ((X453.stepx x263).stepx x365)
      have f456 := f374.mono X457.size
      have X458 := ((((((((((((((((X.stepx x).stepx x16).stepx x21).stepx x30).stepx x39).step y (f450.dom _)).stepx x45).stepx x260).stepx x263).stepx x365).stepx x371).stepx x381).stepx x387).stepx x394).step y398 (f452.dom _)).step x428 (DomLe.un (f454.dom _) (DomLe.un (f456.dom _) (DomLe.un ((Fresh.box f450).dom _) ((Fresh.box f452).dom _)))))
      exact ⟨_, Ret_of [I r420] ⟨⟨rfl, rfl⟩, trivial⟩, _, H, rfl, X458.ext⟩

set_option maxRecDepth 8000 in
set_option maxHeartbeats 4000000 in
theorem impl_CountSurveys_w (g : Geo) (sx : List Variable) (pubs : List Published) (n : Int) (Q : Int → Bool → Prop) (H : impl_CountSurveys g sx pubs n Q) (w : World) {vx : Value} {hx : PH} (r : RS hx vx g.Parents) (ex : Sub hx w) {vx1 : Value} {hx2 : PH} (r3 : RS hx2 vx1 sx) (ex4 : Sub hx2 w) {vx7 : Value} {hx8 : PH} (r9 : RS hx8 vx7 pubs) (ex10 : Sub hx8 w) :
    CallsTo Try.prog 18 #[.agg #[vx], vx1, vx7, I n] w fun v w' => ∃ r0 r1, Q r0 r1 ∧ v = .tuple #[I r0, .bool r1] ∧ Ext w w' := by
  obtain ⟨a, c, rfl⟩ := r.shape
  obtain ⟨a5, c6, rfl⟩ := r3.shape
  obtain ⟨a11, c12, rfl⟩ := r9.shape
  refine enter (args := [.agg #[.slice a (List.length g.Parents) c], .slice a5 (List.length sx) c6, .slice a11 (List.length pubs) c12, I n]) 29 Try.func18 rfl rfl rfl ?_
  refine W_forget [(0, .agg #[.slice a (List.length g.Parents) c]), (1, .slice a5 (List.length sx) c6), (2, .slice a11 (List.length pubs) c12), (3, I n)] ⟨rfl, rfl, rfl, rfl, trivial⟩ fun ρ => ?_
  have X := But.refl emp w
  refine W_seq ?_
  refine W_region ?_
  refine LP_box 0 (cs := [.slice a (List.length g.Parents) c]) rfl rfl rfl rfl rfl fun b wx x ex13 f => ?_
  refine LP_ev ok 1 [(8, I 0), (9, .bool false)] 3 rfl rfl ?_
  refine LP_end _ rfl ?_
  refine W_seq ?_
  obtain ⟨k, hk, H⟩ := jn_elim H
  refine W_join2 (S := Bool) (fun s ρ' w' => k s ∧ ∃ (ρ : Env), ρ' = setAll [(1, .slice a5 (List.length sx) c6), (2, .slice a11 (List.length pubs) c12), (3, I n), (4, .pointer (some ⟨b, 0, none⟩)), (20, .bool s)] ρ ∧ But emp w w' ∧ Sub hx w' ∧ Sub hx2 w' ∧ Sub hx8 w' ∧ Sub (bx b 32 [.slice a (List.length g.Parents) c]) w') ?_ ?_
  · refine W_region ?_
    refine LP_ldbox 0 (v := .agg #[.slice a (List.length g.Parents) c]) rfl rfl rfl ti_32 ag_32 (fun h => by cases h) rfl ex13 rfl rfl ?_
    refine LP_ev ok 1 [(12, .slice a5 (List.length sx) c6), (13, .slice a11 (List.length pubs) c12)] 3 rfl rfl ?_
    have ex22 := (ex.ext x)
    have ex23 := (ex4.ext x)
    have ex24 := (ex10.ext x)
    refine LP_call 3 rfl rfl rfl cal_33 rfl (impl_areAttacked_w _ _ _ _ H wx r ex22 r3 ex23 r9 ex24) ?_
    rintro _ wx25 ⟨r21, H, rfl, x26⟩
    refine LP_ev ok 4 [(15, .bool (!r21)), (16, .bool (!r21))] 6 rfl rfl ?_
    refine LP_split 16 (!r21) rfl (fun hc => ?_) (fun hc => ?_)
    · have H := H.1 hc
      refine LP_ev ok 6 [(17, undef), (18, undef), (19, undef), (20, .bool true)] 10 rfl rfl ?_
      refine LP_end _ rfl ?_
      have X27 := ((X.stepx x).stepx x26)
      have ex28 := (ex22.ext x26)
      have ex29 := (ex23.ext x26)
      have ex30 := (ex24.ext x26)
      have ex31 := (ex13.ext x26)
      exact ⟨true, H, _, env_eq ⟨rfl, rfl, rfl, rfl, rfl, trivial⟩, X27, ex28, ex29, ex30, ex31⟩
    have H := H.2 hc
    refine LP_ev ok 6 [(17, I n)] 7 rfl rfl ?_
    refine LP_call 7 rfl rfl rfl cal_34 rfl (impl_isPersons_w _ _ H wx25 ) ?_
    rintro _ wx33 ⟨r32, H, rfl, x34⟩
    refine LP_ev ok 8 [(19, .bool (!r32)), (20, .bool (!r32))] 10 rfl rfl ?_
    refine LP_end _ rfl ?_
    have X35 := (((X.stepx x).stepx x26).stepx x34)
    have ex36 := ((ex22.ext x26).ext x34)
    have ex37 := ((ex23.ext x26).ext x34)
    have ex38 := ((ex24.ext x26).ext x34)
    have ex39 := ((ex13.ext x26).ext x34)
    exact ⟨!r32, H, _, env_eq ⟨rfl, rfl, rfl, rfl, rfl, trivial⟩, X35, ex36, ex37, ex38, ex39⟩
  rintro x14 _ wx15 ⟨H, ρ, rfl, X20, ex16, ex17, ex18, ex19⟩
  subst hk
  refine W_cond (x14) rfl (fun hc40 => ?_) (fun hc40 => ?_)
  · have H := H.1 hc40
    refine W_seq ?_
    refine W_region ?_
    refine LP_ev ok 0 [(8, I 0), (9, .bool false)] 2 rfl rfl ?_
    refine LP_end _ rfl ?_
    refine W_ret ?_
    exact ⟨_, Ret_of [I 0, .bool false] ⟨⟨rfl, rfl⟩, ⟨rfl, rfl⟩, trivial⟩, _, _, H, rfl, X20.ext⟩
  have H := H.2 hc40
  refine W_skip ?_
  refine W_seq ?_
  refine W_region ?_
  refine LP_ldbox 0 (v := .agg #[.slice a (List.length g.Parents) c]) rfl rfl rfl ti_32 ag_32 (fun h => by cases h) rfl ex19 rfl rfl ?_
  refine LP_ev ok 1 [(22, .slice a5 (List.length sx) c6), (23, .slice a11 (List.length pubs) c12), (24, I n)] 4 rfl rfl ?_
  refine LP_call 4 rfl rfl rfl cal_35 rfl (impl_solutions_impl_CountSurveys_1_w _ _ _ _ _ _ H wx15 r ex16 r3 ex17 r9 ex18) ?_
  rintro _ wx42 ⟨r41, H, rfl, x43⟩
  refine LP_ev ok 5 [(10, I r41)] 6 rfl rfl ?_
  refine LP_end _ rfl ?_
  refine W_seq ?_
  refine W_seq ?_
  refine W_region ?_
  refine LP_ev ok 0 [(26, I r41), (27, .bool (decide (r41 > 20000)))] 2 rfl rfl ?_
  refine LP_end _ rfl ?_
  refine W_cond (decide (r41 > 20000)) rfl (fun hc44 => ?_) (fun hc44 => ?_)
  · have H := H.1 hc44
    refine W_seq ?_
    refine W_region ?_
    refine LP_ev ok 0 [(8, I 0), (9, .bool false)] 2 rfl rfl ?_
    refine LP_end _ rfl ?_
    refine W_ret ?_
    have X45 := (X20.stepx x43)
    exact ⟨_, Ret_of [I 0, .bool false] ⟨⟨rfl, rfl⟩, ⟨rfl, rfl⟩, trivial⟩, _, _, H, rfl, X45.ext⟩
  have H := H.2 hc44
  refine W_skip ?_
  refine W_seq ?_
  refine W_region ?_
  refine LP_ev ok 0 [(28, I r41), (8, I r41), (9, .bool true)] 3 rfl rfl ?_
  refine LP_end _ rfl ?_
  refine W_ret ?_
  have X46 := (X20.stepx x43)
  exact ⟨_, Ret_of [I r41, .bool true] ⟨⟨rfl, rfl⟩, ⟨rfl, rfl⟩, trivial⟩, _, _, H, rfl, X46.ext⟩

set_option maxRecDepth 8000 in
set_option maxHeartbeats 4000000 in
theorem laws_FnExactCountSurveys_w (aG : Geo) (aS : List Variable) (aPubs : List Published) (aN : Int) (Q : Bool → Prop) (H : laws_FnExactCountSurveys aG aS aPubs aN Q) (w : World) {vx : Value} {hx : PH} (r : RS hx vx aG.Parents) (ex : Sub hx w) {vx1 : Value} {hx2 : PH} (r3 : RS hx2 vx1 aS) (ex4 : Sub hx2 w) {vx7 : Value} {hx8 : PH} (r9 : RS hx8 vx7 aPubs) (ex10 : Sub hx8 w) :
    CallsTo Try.prog 4 #[.agg #[vx], vx1, vx7, I aN] w fun v w' => ∃ r0, Q r0 ∧ v = .bool r0 ∧ Ext w w' := by
  obtain ⟨a, c, rfl⟩ := r.shape
  obtain ⟨a5, c6, rfl⟩ := r3.shape
  obtain ⟨a11, c12, rfl⟩ := r9.shape
  refine enter (args := [.agg #[.slice a (List.length aG.Parents) c], .slice a5 (List.length aS) c6, .slice a11 (List.length aPubs) c12, I aN]) 80 Try.func4 rfl rfl rfl ?_
  refine W_forget [(0, .agg #[.slice a (List.length aG.Parents) c]), (1, .slice a5 (List.length aS) c6), (2, .slice a11 (List.length aPubs) c12), (3, I aN)] ⟨rfl, rfl, rfl, rfl, trivial⟩ fun ρ => ?_
  have X := But.refl emp w
  refine W_seq ?_
  refine W_region ?_
  refine LP_box 0 (cs := [.slice a (List.length aG.Parents) c]) rfl rfl rfl rfl rfl fun b wx x ex13 f => ?_
  refine LP_ev ok 1 [(8, .bool false)] 2 rfl rfl ?_
  refine LP_end _ rfl ?_
  refine W_seq ?_
  refine W_region ?_
  refine LP_ev ok 0 [(9, I 1048576)] 1 rfl rfl ?_
  refine LP_end _ rfl ?_
  refine W_seq ?_
  refine W_region ?_
  refine LP_ldbox 0 (v := .agg #[.slice a (List.length aG.Parents) c]) rfl rfl rfl ti_24 ag_24 (fun h => by cases h) rfl ex13 rfl rfl ?_
  refine LP_ev ok 1 [(18, I 1048576)] 2 rfl rfl ?_
  have ex15 := (ex.ext x)
  refine LP_call 2 rfl rfl rfl cal_6 rfl (laws_szGeo_w _ _ _ H wx r ex15) ?_
  rintro _ wx16 ⟨r14, H, rfl, x17⟩
  refine LP_ev ok 3 [(9, I r14)] 4 rfl rfl ?_
  refine LP_end _ rfl ?_
  refine W_seq ?_
  refine W_seq ?_
  refine W_region ?_
  refine LP_ev ok 0 [(20, I r14), (21, .bool (decide (r14 < 0)))] 2 rfl rfl ?_
  refine LP_end _ rfl ?_
  refine W_cond (decide (r14 < 0)) rfl (fun hc => ?_) (fun hc => ?_)
  · have H := H.1 hc
    refine W_seq ?_
    refine W_region ?_
    refine LP_ev ok 0 [(8, .bool true)] 1 rfl rfl ?_
    refine LP_end _ rfl ?_
    refine W_ret ?_
    have X18 := ((X.stepx x).stepx x17)
    exact ⟨_, Ret_of [.bool true] ⟨⟨rfl, rfl⟩, trivial⟩, _, H, rfl, X18.ext⟩
  have H := H.2 hc
  refine W_skip ?_
  refine W_seq ?_
  refine W_region ?_
  refine LP_ev ok 0 [(22, .slice a5 (List.length aS) c6), (23, I r14)] 2 rfl rfl ?_
  have ex20 := ((ex4.ext x).ext x17)
  refine LP_call 2 rfl rfl rfl cal_7 rfl (laws_szVariableS_w _ _ _ H wx16 r3 ex20) ?_
  rintro _ wx21 ⟨r19, H, rfl, x22⟩
  refine LP_ev ok 3 [(9, I r19)] 4 rfl rfl ?_
  refine LP_end _ rfl ?_
  refine W_seq ?_
  refine W_seq ?_
  refine W_region ?_
  refine LP_ev ok 0 [(25, I r19), (26, .bool (decide (r19 < 0)))] 2 rfl rfl ?_
  refine LP_end _ rfl ?_
  refine W_cond (decide (r19 < 0)) rfl (fun hc23 => ?_) (fun hc23 => ?_)
  · have H := H.1 hc23
    refine W_seq ?_
    refine W_region ?_
    refine LP_ev ok 0 [(8, .bool true)] 1 rfl rfl ?_
    refine LP_end _ rfl ?_
    refine W_ret ?_
    have X24 := (((X.stepx x).stepx x17).stepx x22)
    exact ⟨_, Ret_of [.bool true] ⟨⟨rfl, rfl⟩, trivial⟩, _, H, rfl, X24.ext⟩
  have H := H.2 hc23
  refine W_skip ?_
  refine W_seq ?_
  refine W_region ?_
  refine LP_ev ok 0 [(27, .slice a11 (List.length aPubs) c12), (28, I r19)] 2 rfl rfl ?_
  have ex26 := (((ex10.ext x).ext x17).ext x22)
  refine LP_call 2 rfl rfl rfl cal_8 rfl (laws_szPublishedS_w _ _ _ H wx21 r9 ex26) ?_
  rintro _ wx27 ⟨r25, H, rfl, x28⟩
  refine LP_ev ok 3 [(9, I r25)] 4 rfl rfl ?_
  refine LP_end _ rfl ?_
  refine W_seq ?_
  refine W_seq ?_
  refine W_region ?_
  refine LP_ev ok 0 [(30, I r25), (31, .bool (decide (r25 < 0)))] 2 rfl rfl ?_
  refine LP_end _ rfl ?_
  refine W_cond (decide (r25 < 0)) rfl (fun hc29 => ?_) (fun hc29 => ?_)
  · have H := H.1 hc29
    refine W_seq ?_
    refine W_region ?_
    refine LP_ev ok 0 [(8, .bool true)] 1 rfl rfl ?_
    refine LP_end _ rfl ?_
    refine W_ret ?_
    have X30 := ((((X.stepx x).stepx x17).stepx x22).stepx x28)
    exact ⟨_, Ret_of [.bool true] ⟨⟨rfl, rfl⟩, trivial⟩, _, H, rfl, X30.ext⟩
  have H := H.2 hc29
  refine W_skip ?_
  refine W_seq ?_
  refine W_region ?_
  have ex31 := (((ex13.ext x17).ext x22).ext x28)
  refine LP_ldbox 0 (v := .agg #[.slice a (List.length aG.Parents) c]) rfl rfl rfl ti_24 ag_24 (fun h => by cases h) rfl ex31 rfl rfl ?_
  have ex33 := (((ex15.ext x17).ext x22).ext x28)
  refine LP_call 1 rfl rfl rfl cal_10 rfl (laws_toGeo_w _ _ H wx27 r ex33) ?_
  rintro _ wx34 ⟨r32, vx36, hx37, H, rfl, x35, o, ex38, f39⟩
  obtain ⟨a40, c41, rfl⟩ := o.shape
  refine LP_ev ok 2 [(35, .slice a5 (List.length aS) c6)] 3 rfl rfl ?_
  have ex43 := (((ex20.ext x22).ext x28).ext x35)
  refine LP_call 3 rfl rfl rfl cal_11 rfl (laws_toVariableS_w _ _ H wx34 r3 ex43) ?_
  rintro _ wx44 ⟨r42, vx46, hx47, H, rfl, x45, o48, ex49, f50⟩
  obtain ⟨a51, c52, rfl⟩ := o48.shape
  refine LP_ev ok 4 [(37, .slice a11 (List.length aPubs) c12)] 5 rfl rfl ?_
  have ex54 := (((ex26.ext x28).ext x35).ext x45)
  refine LP_call 5 rfl rfl rfl cal_12 rfl (laws_toPublishedS_w _ _ H wx44 r9 ex54) ?_
  rintro _ wx55 ⟨r53, vx57, hx58, H, rfl, x56, o59, ex60, f61⟩
  obtain ⟨a62, c63, rfl⟩ := o59.shape
  refine LP_ev ok 6 [(39, I aN)] 7 rfl rfl ?_
  have ex66 := ((ex38.ext x45).ext x56)
  have ex67 := (ex49.ext x56)
  refine LP_call 7 rfl rfl rfl cal_17 rfl (spec_CountSurveys_w _ _ _ _ _ H wx55 o.readf ex66 o48.readf ex67 o59.readf ex60) ?_
  rintro _ wx68 ⟨r64, r65, H, rfl, x69⟩
  refine LP_ev ok 8 [(32, .tuple #[I r64, .bool r65]), (41, I r64), (42, .bool r65), (10, I r64), (11, .bool r65)] 13 rfl rfl ?_
  refine LP_end _ rfl ?_
  try refine W_forget [(1, .slice a5 (List.length aS) c6), (2, .slice a11 (List.length aPubs) c12), (3, I aN), (4, .pointer (some ⟨b, 0, none⟩)), (10, I r64), (11, .bool r65)] ⟨rfl, rfl, rfl, rfl, rfl, rfl, trivial⟩ fun ρ => ?_
  refine W_seq ?_
  refine W_region ?_
  have ex70 := ((((ex31.ext x35).ext x45).ext x56).ext x69)
  refine LP_ldbox 0 (v := .agg #[.slice a (List.length aG.Parents) c]) rfl rfl rfl ti_24 ag_24 (fun h => by cases h) rfl ex70 rfl rfl ?_
  have ex72 := ((((ex33.ext x35).ext x45).ext x56).ext x69)
  refine LP_call 1 rfl rfl rfl cal_10 rfl (laws_toGeo_w _ _ H wx68 r ex72) ?_
  rintro _ wx73 ⟨r71, vx75, hx76, H, rfl, x74, o77, ex78, f79⟩
  obtain ⟨a80, c81, rfl⟩ := o77.shape
  refine LP_alloc 2 rfl rfl rfl ti_32 rfl fun b82 wx83 x84 ex85 f86 => ?_
  refine LP_stbox 3 (vs := [.slice a80 (List.length r71.Parents) c81]) (cs' := [.slice a80 (List.length r71.Parents) c81]) rfl rfl rfl ti_32 rfl rfl rfl rfl rfl ex85 rfl rfl fun wx87 ex88 y => ?_
  refine LP_end _ rfl ?_
  refine W_seq ?_
  refine W_region ?_
  refine LP_ev ok 0 [(45, .slice a5 (List.length aS) c6)] 1 rfl rfl ?_
  have ex90 := ((((ex43.ext x45).ext x56).ext x69).ext x74)
  have ex91 := ((((((ex43.ext x45).ext x56).ext x69).ext x74).ext x84).but y (Dj.of_fresh ex90 f86).symm)
  refine LP_call 1 rfl rfl rfl cal_11 rfl (laws_toVariableS_w _ _ H wx87 r3 ex91) ?_
  rintro _ wx92 ⟨r89, vx94, hx95, H, rfl, x93, o96, ex97, f98⟩
  obtain ⟨a99, c100, rfl⟩ := o96.shape
  refine LP_ev ok 2 [(13, .slice a99 (List.length r89) c100)] 3 rfl rfl ?_
  refine LP_end _ rfl ?_
  refine W_seq ?_
  refine W_region ?_
  refine LP_ev ok 0 [(47, .slice a11 (List.length aPubs) c12)] 1 rfl rfl ?_
  have ex102 := (((ex54.ext x56).ext x69).ext x74)
  have ex103 := ((((((ex54.ext x56).ext x69).ext x74).ext x84).but y (Dj.of_fresh ex102 f86).symm).ext x93)
  refine LP_call 1 rfl rfl rfl cal_12 rfl (laws_toPublishedS_w _ _ H wx92 r9 ex103) ?_
  rintro _ wx104 ⟨r101, vx106, hx107, H, rfl, x105, o108, ex109, f110⟩
  obtain ⟨a111, c112, rfl⟩ := o108.shape
  refine LP_ev ok 2 [(14, .slice a111 (List.length r101) c112)] 3 rfl rfl ?_
  refine LP_end _ rfl ?_
  refine W_seq ?_
  refine W_region ?_
  have ex113 := ((ex88.ext x93).ext x105)
  refine LP_ldbox 0 (v := .agg #[.slice a80 (List.length r71.Parents) c81]) rfl rfl rfl ti_32 ag_32 (fun h => by cases h) rfl ex113 rfl rfl ?_
  refine LP_ev ok 1 [(51, .slice a99 (List.length r89) c100), (52, .slice a111 (List.length r101) c112), (53, I aN)] 4 rfl rfl ?_
  have ex116 := ((((ex78.ext x84).but y (Dj.of_fresh ex78 f86).symm).ext x93).ext x105)
  have ex117 := (ex97.ext x105)
  refine LP_call 4 rfl rfl rfl cal_18 rfl (impl_CountSurveys_w _ _ _ _ _ H wx104 o77.readf ex116 o96.readf ex117 o108.readf ex109) ?_
  rintro _ wx118 ⟨r114, r115, H, rfl, x119⟩
  refine LP_ev ok 5 [(49, .tuple #[I r114, .bool r115]), (55, I r114), (56, .bool r115), (15, I r114), (16, .bool r115)] 10 rfl rfl ?_
  refine LP_end _ rfl ?_
  refine W_seq ?_
  obtain ⟨k, hk, H⟩ := jn_elim H
  refine W_join2 (S := Bool) (fun s ρ' w' => k s ∧ ∃ (ρ : Env), ρ' = setAll [(1, .slice a5 (List.length aS) c6), (2, .slice a11 (List.length aPubs) c12), (4, .pointer (some ⟨b, 0, none⟩)), (12, .pointer (some ⟨b82, 0, none⟩)), (13, .slice a99 (List.length r89) c100), (14, .slice a111 (List.length r101) c112), (64, .bool s)] ρ ∧ wx118 = w') ?_ ?_
  · refine W_region ?_
    refine LP_ev ok 0 [(57, I r114), (58, I r64), (59, .bool (r114 != r64)), (60, .bool (r114 != r64))] 4 rfl rfl ?_
    refine LP_split 60 (r114 != r64) rfl (fun hc122 => ?_) (fun hc122 => ?_)
    · have H := H.1 hc122
      refine LP_ev ok 4 [(61, undef), (62, undef), (63, undef), (64, .bool true)] 8 rfl rfl ?_
      refine LP_end _ rfl ?_
      try refine W_forget [(1, .slice a5 (List.length aS) c6), (2, .slice a11 (List.length aPubs) c12), (4, .pointer (some ⟨b, 0, none⟩)), (12, .pointer (some ⟨b82, 0, none⟩)), (13, .slice a99 (List.length r89) c100), (14, .slice a111 (List.length r101) c112), (64, .bool true)] ⟨rfl, rfl, rfl, rfl, rfl, rfl, rfl, trivial⟩ fun ρ => ?_
      exact ⟨true, H, _, env_eq ⟨rfl, rfl, rfl, rfl, rfl, rfl, rfl, trivial⟩, rfl⟩
    have H := H.2 hc122
    refine LP_ev ok 4 [(61, .bool r115), (62, .bool r65), (63, .bool (r115 != r65)), (64, .bool (r115 != r65))] 8 rfl rfl ?_
    refine LP_end _ rfl ?_
    try refine W_forget [(1, .slice a5 (List.length aS) c6), (2, .slice a11 (List.length aPubs) c12), (4, .pointer (some ⟨b, 0, none⟩)), (12, .pointer (some ⟨b82, 0, none⟩)), (13, .slice a99 (List.length r89) c100), (14, .slice a111 (List.length r101) c112), (64, .bool (r115 != r65))] ⟨rfl, rfl, rfl, rfl, rfl, rfl, rfl, trivial⟩ fun ρ => ?_
    exact ⟨r115 != r65, H, _, env_eq ⟨rfl, rfl, rfl, rfl, rfl, rfl, rfl, trivial⟩, rfl⟩
  rintro x120 _ _ ⟨H, ρ, rfl, rfl⟩
  subst hk
  refine W_cond (x120) rfl (fun hc123 => ?_) (fun hc123 => ?_)
  · have H := H.1 hc123
    refine W_seq ?_
    refine W_region ?_
    refine LP_ev ok 0 [(8, .bool false)] 1 rfl rfl ?_
    refine LP_end _ rfl ?_
    refine W_ret ?_
    have X125 := (((((((((X.stepx x).stepx x17).stepx x22).stepx x28).stepx x35).stepx x45).stepx x56).stepx x69).stepx x74)
    have f124 := f86.mono X125.size
    have X126 := ((((((((((((((X.stepx x).stepx x17).stepx x22).stepx x28).stepx x35).stepx x45).stepx x56).stepx x69).stepx x74).stepx x84).step y (f124.dom _)).stepx x93).stepx x105).stepx x119)
    exact ⟨_, Ret_of [.bool false] ⟨⟨rfl, rfl⟩, trivial⟩, _, H, rfl, X126.ext⟩
  have H := H.2 hc123
  refine W_skip ?_
  refine W_seq ?_
  refine W_seq ?_
  refine W_open mix fun wx127 x128 => ?_
  refine AP_game 3 [[], [], [1], [0, 1, 2], [0, 1, 2, 3]] [[(12, none)], [(4, none)], [(66, some 1)]] [(1, none), (2, none), (13, none), (14, none), (65, some 0), (67, some 2)] [(0, false), (1, false), (2, true)] (by kernel_rfl) (by kernel_rfl) ?_
  have ex129 := ((ex113.ext x119).ext x128)
  refine GS_r1 [(12, .pointer (some ⟨b82, 0, none⟩))] (.agg #[.slice a80 (List.length r71.Parents) c81]) rfl rfl (fun _ h => h) (fun _ w e => ex_ldbox rfl ti_32 ag_32 (fun h => by cases h) rfl e rfl rfl) ex129 ?_
  have ex130 := (ex70.ext x74)
  have ex131 := (((((((ex70.ext x74).ext x84).but y (Dj.of_fresh ex130 f86).symm).ext x93).ext x105).ext x119).ext x128)
  refine GS_r1 [(4, .pointer (some ⟨b, 0, none⟩))] (.agg #[.slice a (List.length aG.Parents) c]) rfl rfl (fun _ h => h) (fun _ w e => ex_ldbox rfl ti_24 ag_24 (fun h => by cases h) rfl e rfl rfl) ex131 ?_
  refine GS_lp [(66, .agg #[.slice a (List.length aG.Parents) c])] rfl rfl (fun _ h => h) rfl fun ρ wx132 x133 => ?_
  have ex135 := (ex72.ext x74)
  have ex136 := ((((((((ex72.ext x74).ext x84).but y (Dj.of_fresh ex135 f86).symm).ext x93).ext x105).ext x119).ext x128).ext x133)
  refine LP_call 0 rfl rfl rfl cal_10 rfl (laws_toGeo_w _ _ H wx132 r ex136) ?_
  rintro _ wx137 ⟨r134, vx139, hx140, H, rfl, x138, o141, ex142, f143⟩
  obtain ⟨a144, c145, rfl⟩ := o141.shape
  have ex146 := ((ex129.ext x133).ext x138)
  refine LP_gs ⟨⟨.inl rfl, .inr ex146, trivial⟩, ?_⟩
  intro wx147 x148 ρ hn
  refine AP_forget [(1, .slice a5 (List.length aS) c6), (2, .slice a11 (List.length aPubs) c12), (13, .slice a99 (List.length r89) c100), (14, .slice a111 (List.length r101) c112), (65, .agg #[.slice a80 (List.length r71.Parents) c81]), (67, .agg #[.slice a144 (List.length r134.Parents) c145])] (by exact hn) fun ρ => ?_
  refine AP_tail 3 [[], [], [1], [0, 1, 2], [0, 1, 2, 3]] (by kernel_rfl) ?_
  have ex150 := (((((ex116.ext x119).ext x128).ext x133).ext x138).ext x148)
  have ex151 := (ex142.ext x148)
  refine LP_call 3 rfl rfl rfl cal_14 rfl (laws_eqGeo_w _ _ _ H wx147 o77.readf ex150 o141.readf ex151) ?_
  rintro _ wx152 ⟨r149, H, rfl, x153⟩
  refine LP_ev ok 4 [(69, .bool (!r149))] 5 rfl rfl ?_
  refine LP_end _ rfl ?_
  refine W_cond (!r149) rfl (fun hc154 => ?_) (fun hc154 => ?_)
  · have H := H.1 hc154
    refine W_seq ?_
    refine W_region ?_
    refine LP_ev ok 0 [(8, .bool false)] 1 rfl rfl ?_
    refine LP_end _ rfl ?_
    refine W_ret ?_
    have X156 := (((((((((X.stepx x).stepx x17).stepx x22).stepx x28).stepx x35).stepx x45).stepx x56).stepx x69).stepx x74)
    have f155 := f86.mono X156.size
    have X157 := (((((((((((((((((((X.stepx x).stepx x17).stepx x22).stepx x28).stepx x35).stepx x45).stepx x56).stepx x69).stepx x74).stepx x84).step y (f155.dom _)).stepx x93).stepx x105).stepx x119).stepx x128).stepx x133).stepx x138).stepx x148).stepx x153)
    exact ⟨_, Ret_of [.bool false] ⟨⟨rfl, rfl⟩, trivial⟩, _, H, rfl, X157.ext⟩
  have H := H.2 hc154
  refine W_skip ?_
  refine W_seq ?_
  refine W_seq ?_
  refine W_region ?_
  refine LP_ev ok 0 [(70, .slice a99 (List.length r89) c100), (71, .slice a5 (List.length aS) c6)] 2 rfl rfl ?_
  have ex159 := ((((((((ex91.ext x93).ext x105).ext x119).ext x128).ext x133).ext x138).ext x148).ext x153)
  refine LP_call 2 rfl rfl rfl cal_11 rfl (laws_toVariableS_w _ _ H wx152 r3 ex159) ?_
  rintro _ wx160 ⟨r158, vx162, hx163, H, rfl, x161, o164, ex165, f166⟩
  obtain ⟨a167, c168, rfl⟩ := o164.shape
  have ex170 := (((((((ex117.ext x119).ext x128).ext x133).ext x138).ext x148).ext x153).ext x161)
  refine LP_call 3 rfl rfl rfl cal_15 rfl (laws_eqVariableS_w _ _ _ H wx160 o96.readf ex170 o164.readf ex165) ?_
  rintro _ wx171 ⟨r169, H, rfl, x172⟩
  refine LP_ev ok 4 [(74, .bool (!r169))] 5 rfl rfl ?_
  refine LP_end _ rfl ?_
  refine W_cond (!r169) rfl (fun hc173 => ?_) (fun hc173 => ?_)
  · have H := H.1 hc173
    refine W_seq ?_
    refine W_region ?_
    refine LP_ev ok 0 [(8, .bool false)] 1 rfl rfl ?_
    refine LP_end _ rfl ?_
    refine W_ret ?_
    have X175 := (((((((((X.stepx x).stepx x17).stepx x22).stepx x28).stepx x35).stepx x45).stepx x56).stepx x69).stepx x74)
    have f174 := f86.mono X175.size
    have X176 := (((((((((((((((((((((X.stepx x).stepx x17).stepx x22).stepx x28).stepx x35).stepx x45).stepx x56).stepx x69).stepx x74).stepx x84).step y (f174.dom _)).stepx x93).stepx x105).stepx x119).stepx x128).stepx x133).stepx x138).stepx x148).stepx x153).stepx x161).stepx x172)
    exact ⟨_, Ret_of [.bool false] ⟨⟨rfl, rfl⟩, trivial⟩, _, H, rfl, X176.ext⟩
  have H := H.2 hc173
  refine W_skip ?_
  refine W_seq ?_
  refine W_seq ?_
  refine W_region ?_
  refine LP_ev ok 0 [(75, .slice a111 (List.length r101) c112), (76, .slice a11 (List.length aPubs) c12)] 2 rfl rfl ?_
  have ex178 := (((((((((ex103.ext x105).ext x119).ext x128).ext x133).ext x138).ext x148).ext x153).ext x161).ext x172)
  refine LP_call 2 rfl rfl rfl cal_12 rfl (laws_toPublishedS_w _ _ H wx171 r9 ex178) ?_
  rintro _ wx179 ⟨r177, vx181, hx182, H, rfl, x180, o183, ex184, f185⟩
  obtain ⟨a186, c187, rfl⟩ := o183.shape
  have ex189 := (((((((((ex109.ext x119).ext x128).ext x133).ext x138).ext x148).ext x153).ext x161).ext x172).ext x180)
  refine LP_call 3 rfl rfl rfl cal_16 rfl (laws_eqPublishedS_w _ _ _ H wx179 o108.readf ex189 o183.readf ex184) ?_
  rintro _ wx190 ⟨r188, H, rfl, x191⟩
  refine LP_ev ok 4 [(79, .bool (!r188))] 5 rfl rfl ?_
  refine LP_end _ rfl ?_
  refine W_cond (!r188) rfl (fun hc192 => ?_) (fun hc192 => ?_)
  · have H := H.1 hc192
    refine W_seq ?_
    refine W_region ?_
    refine LP_ev ok 0 [(8, .bool false)] 1 rfl rfl ?_
    refine LP_end _ rfl ?_
    refine W_ret ?_
    have X194 := (((((((((X.stepx x).stepx x17).stepx x22).stepx x28).stepx x35).stepx x45).stepx x56).stepx x69).stepx x74)
    have f193 := f86.mono X194.size
    have X195 := (((((((((((((((((((((((X.stepx x).stepx x17).stepx x22).stepx x28).stepx x35).stepx x45).stepx x56).stepx x69).stepx x74).stepx x84).step y (f193.dom _)).stepx x93).stepx x105).stepx x119).stepx x128).stepx x133).stepx x138).stepx x148).stepx x153).stepx x161).stepx x172).stepx x180).stepx x191)
    exact ⟨_, Ret_of [.bool false] ⟨⟨rfl, rfl⟩, trivial⟩, _, H, rfl, X195.ext⟩
  have H := H.2 hc192
  refine W_skip ?_
  refine W_seq ?_
  refine W_region ?_
  refine LP_ev ok 0 [(8, .bool true)] 1 rfl rfl ?_
  refine LP_end _ rfl ?_
  refine W_ret ?_
  have X197 := (((((((((X.stepx x).stepx x17).stepx x22).stepx x28).stepx x35).stepx x45).stepx x56).stepx x69).stepx x74)
  have f196 := f86.mono X197.size
  have X198 := (((((((((((((((((((((((X.stepx x).stepx x17).stepx x22).stepx x28).stepx x35).stepx x45).stepx x56).stepx x69).stepx x74).stepx x84).step y (f196.dom _)).stepx x93).stepx x105).stepx x119).stepx x128).stepx x133).stepx x138).stepx x148).stepx x153).stepx x161).stepx x172).stepx x180).stepx x191)
  exact ⟨_, Ret_of [.bool true] ⟨⟨rfl, rfl⟩, trivial⟩, _, H, rfl, X198.ext⟩

end Go.Proofs.Ytkebfmobfeponaa
