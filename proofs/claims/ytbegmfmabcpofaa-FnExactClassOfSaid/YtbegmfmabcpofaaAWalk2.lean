/- The walks, further. -/
import Derived.Test.YtbegmfmabcpofaaAWalk
set_option linter.unusedVariables false
set_option autoImplicit false
namespace Go.Proofs.Ytbegmfmabcpofaa
open Go Go.RowKit Go.Gv

open Go.Proofs
set_option maxRecDepth 8000 in
set_option maxHeartbeats 4000000 in
theorem laws_FnExactQuotientOf_w (aA : List Int) (aB : List Int) (aI : Int) (Q : Bool → Prop) (H : laws_FnExactQuotientOf aA aB aI Q) (w : World) {vx : Value} {hx : PH} (r : RS hx vx aA) (ex : Sub hx w) {vx1 : Value} {hx2 : PH} (r3 : RS hx2 vx1 aB) (ex4 : Sub hx2 w) :
    CallsTo Try.prog 9 #[vx, vx1, I aI] w fun v w' => ∃ r0, Q r0 ∧ v = .bool r0 ∧ Ext w w' := by
  obtain ⟨a, c, rfl⟩ := r.shape
  obtain ⟨a5, c6, rfl⟩ := r3.shape
  refine enter (args := [.slice a (List.length aA) c, .slice a5 (List.length aB) c6, I aI]) 58 Try.func9 rfl rfl rfl ?_
  refine W_forget [(0, .slice a (List.length aA) c), (1, .slice a5 (List.length aB) c6), (2, I aI)] ⟨rfl, rfl, rfl, trivial⟩ fun ρ => ?_
  have X := But.refl emp w
  refine W_seq ?_
  refine W_region ?_
  refine LP_ev ok 0 [(6, .bool false)] 1 rfl rfl ?_
  refine LP_end _ rfl ?_
  refine W_seq ?_
  refine W_seq ?_
  refine W_region ?_
  refine LP_ev ok 0 [(13, .slice a (List.length aA) c), (14, I (ln aA)), (15, .bool (decide ((ln aA) > 1048576)))] 3 rfl rfl ?_
  refine LP_end _ rfl ?_
  refine W_cond (decide ((ln aA) > 1048576)) rfl (fun hc => ?_) (fun hc => ?_)
  · have H := H.1 hc
    refine W_seq ?_
    refine W_region ?_
    refine LP_ev ok 0 [(6, .bool true)] 1 rfl rfl ?_
    refine LP_end _ rfl ?_
    refine W_ret ?_
    exact ⟨_, Ret_of [.bool true] ⟨⟨rfl, rfl⟩, trivial⟩, _, H, rfl, X.ext⟩
  have H := H.2 hc
  refine W_skip ?_
  refine W_seq ?_
  refine W_seq ?_
  refine W_region ?_
  refine LP_ev ok 0 [(16, .slice a5 (List.length aB) c6), (17, I (ln aB)), (18, .bool (decide ((ln aB) > 1048576)))] 3 rfl rfl ?_
  refine LP_end _ rfl ?_
  refine W_cond (decide ((ln aB) > 1048576)) rfl (fun hc7 => ?_) (fun hc7 => ?_)
  · have H := H.1 hc7
    refine W_seq ?_
    refine W_region ?_
    refine LP_ev ok 0 [(6, .bool true)] 1 rfl rfl ?_
    refine LP_end _ rfl ?_
    refine W_ret ?_
    exact ⟨_, Ret_of [.bool true] ⟨⟨rfl, rfl⟩, trivial⟩, _, H, rfl, X.ext⟩
  have H := H.2 hc7
  refine W_skip ?_
  refine W_seq ?_
  refine W_region ?_
  refine LP_ev ok 0 [(20, .slice a (List.length aA) c)] 1 rfl rfl ?_
  refine LP_call 1 rfl rfl rfl cal_26 rfl (laws_toIntS_w _ _ H w r ex) ?_
  rintro _ wx ⟨r8, vx9, hx10, H, rfl, x, o, ex11, f⟩
  obtain ⟨a12, c13, rfl⟩ := o.shape
  refine LP_ev ok 2 [(22, .slice a5 (List.length aB) c6)] 3 rfl rfl ?_
  have ex15 := (ex4.ext x)
  refine LP_call 3 rfl rfl rfl cal_26 rfl (laws_toIntS_w _ _ H wx r3 ex15) ?_
  rintro _ wx16 ⟨r14, vx18, hx19, H, rfl, x17, o20, ex21, f22⟩
  obtain ⟨a23, c24, rfl⟩ := o20.shape
  refine LP_ev ok 4 [(24, I aI)] 5 rfl rfl ?_
  have ex27 := (ex11.ext x17)
  refine LP_call 5 rfl rfl rfl cal_45 rfl (spec_QuotientOf_w _ _ _ _ H wx16 o.readf ex27 o20.readf ex21) ?_
  rintro _ wx28 ⟨r25, r26, H, rfl, x29⟩
  refine LP_ev ok 6 [(19, .tuple #[.agg #[I r25.Num, I r25.Den], .bool r26]), (26, .agg #[I r25.Num, I r25.Den]), (27, .bool r26)] 9 rfl rfl ?_
  refine LP_alloc 9 rfl rfl rfl ti_34 rfl fun b wx30 x31 ex32 f33 => ?_
  refine LP_stbox 10 (vs := [I r25.Num, I r25.Den]) (cs' := [I r25.Num, I r25.Den]) rfl rfl rfl ti_34 rfl rfl rfl rfl rfl ex32 rfl rfl fun wx34 ex35 y => ?_
  refine LP_ev ok 11 [(8, .bool r26)] 12 rfl rfl ?_
  refine LP_end _ rfl ?_
  refine W_seq ?_
  refine W_region ?_
  refine LP_ev ok 0 [(28, .slice a (List.length aA) c)] 1 rfl rfl ?_
  have ex37 := (((ex.ext x).ext x17).ext x29)
  have ex38 := (((((ex.ext x).ext x17).ext x29).ext x31).but y (Dj.of_fresh ex37 f33).symm)
  refine LP_call 1 rfl rfl rfl cal_26 rfl (laws_toIntS_w _ _ H wx34 r ex38) ?_
  rintro _ wx39 ⟨r36, vx41, hx42, H, rfl, x40, o43, ex44, f45⟩
  obtain ⟨a46, c47, rfl⟩ := o43.shape
  refine LP_ev ok 2 [(9, .slice a46 (List.length r36) c47)] 3 rfl rfl ?_
  refine LP_end _ rfl ?_
  refine W_seq ?_
  refine W_region ?_
  refine LP_ev ok 0 [(30, .slice a5 (List.length aB) c6)] 1 rfl rfl ?_
  have ex49 := ((ex15.ext x17).ext x29)
  have ex50 := (((((ex15.ext x17).ext x29).ext x31).but y (Dj.of_fresh ex49 f33).symm).ext x40)
  refine LP_call 1 rfl rfl rfl cal_26 rfl (laws_toIntS_w _ _ H wx39 r3 ex50) ?_
  rintro _ wx51 ⟨r48, vx53, hx54, H, rfl, x52, o55, ex56, f57⟩
  obtain ⟨a58, c59, rfl⟩ := o55.shape
  refine LP_ev ok 2 [(10, .slice a58 (List.length r48) c59)] 3 rfl rfl ?_
  refine LP_end _ rfl ?_
  try refine W_forget [(0, .slice a (List.length aA) c), (1, .slice a5 (List.length aB) c6), (2, I aI), (7, .pointer (some ⟨b, 0, none⟩)), (8, .bool r26), (9, .slice a46 (List.length r36) c47), (10, .slice a58 (List.length r48) c59)] ⟨rfl, rfl, rfl, rfl, rfl, rfl, rfl, trivial⟩ fun ρ => ?_
  refine W_seq ?_
  refine W_region ?_
  refine LP_ev ok 0 [(33, .slice a46 (List.length r36) c47), (34, .slice a58 (List.length r48) c59), (35, I aI)] 3 rfl rfl ?_
  have ex62 := (ex44.ext x52)
  refine LP_call 3 rfl rfl rfl cal_46 rfl (impl_QuotientOf_w _ _ _ _ H wx51 o43.readf ex62 o55.readf ex56) ?_
  rintro _ wx63 ⟨r60, r61, H, rfl, x64⟩
  refine LP_ev ok 4 [(32, .tuple #[.agg #[I r60.Num, I r60.Den], .bool r61]), (37, .agg #[I r60.Num, I r60.Den]), (38, .bool r61)] 7 rfl rfl ?_
  refine LP_alloc 7 rfl rfl rfl ti_34 rfl fun b65 wx66 x67 ex68 f69 => ?_
  refine LP_stbox 8 (vs := [I r60.Num, I r60.Den]) (cs' := [I r60.Num, I r60.Den]) rfl rfl rfl ti_34 rfl rfl rfl rfl rfl ex68 rfl rfl fun wx70 ex71 y72 => ?_
  refine LP_ev ok 9 [(12, .bool r61)] 10 rfl rfl ?_
  refine LP_end _ rfl ?_
  refine W_seq ?_
  obtain ⟨k, hk, H⟩ := jn_elim H
  refine W_join2 (S := Bool) (fun s ρ' w' => k s ∧ ∃ (ρ : Env), ρ' = setAll [(0, .slice a (List.length aA) c), (1, .slice a5 (List.length aB) c6), (9, .slice a46 (List.length r36) c47), (10, .slice a58 (List.length r48) c59), (47, .bool s)] ρ ∧ But emp w w' ∧ Sub hx w' ∧ Sub hx2 w' ∧ Sub hx42 w' ∧ Sub hx54 w') ?_ ?_
  · refine W_region ?_
    refine LP_ldbox 0 (v := .agg #[I r60.Num, I r60.Den]) rfl rfl rfl ti_34 ag_34 (fun h => by cases h) rfl ex71 rfl rfl ?_
    have ex80 := (((ex35.ext x40).ext x52).ext x64)
    have ex81 := (((((ex35.ext x40).ext x52).ext x64).ext x67).but y72 (Dj.of_fresh ex80 f69).symm)
    refine LP_ldbox 1 (v := .agg #[I r25.Num, I r25.Den]) rfl rfl rfl ti_34 ag_34 (fun h => by cases h) rfl ex81 rfl rfl ?_
    refine LP_call 2 rfl rfl rfl cal_32 rfl (laws_eqFrac_w _ _ _ H wx70 ) ?_
    rintro _ wx83 ⟨r82, H, rfl, x84⟩
    refine LP_ev ok 3 [(42, .bool (!r82)), (43, .bool (!r82))] 5 rfl rfl ?_
    refine LP_split 43 (!r82) rfl (fun hc85 => ?_) (fun hc85 => ?_)
    · have H := H.1 hc85
      refine LP_ev ok 5 [(44, undef), (45, undef), (46, undef), (47, .bool true)] 9 rfl rfl ?_
      refine LP_end _ rfl ?_
      have X87 := (((X.stepx x).stepx x17).stepx x29)
      have f86 := f33.mono X87.size
      have X89 := (((((X87.stepx x31).step y (f86.dom _)).stepx x40).stepx x52).stepx x64)
      have f88 := f69.mono X89.size
      have X90 := (((((((((((X.stepx x).stepx x17).stepx x29).stepx x31).step y (f86.dom _)).stepx x40).stepx x52).stepx x64).stepx x67).step y72 (f88.dom _)).stepx x84)
      have ex91 := (((ex38.ext x40).ext x52).ext x64)
      have ex92 := ((((((ex38.ext x40).ext x52).ext x64).ext x67).but y72 (Dj.of_fresh ex91 f69).symm).ext x84)
      have ex93 := ((ex50.ext x52).ext x64)
      have ex94 := (((((ex50.ext x52).ext x64).ext x67).but y72 (Dj.of_fresh ex93 f69).symm).ext x84)
      have ex95 := (ex62.ext x64)
      have ex96 := ((((ex62.ext x64).ext x67).but y72 (Dj.of_fresh ex95 f69).symm).ext x84)
      have ex97 := (ex56.ext x64)
      have ex98 := ((((ex56.ext x64).ext x67).but y72 (Dj.of_fresh ex97 f69).symm).ext x84)
      exact ⟨true, H, _, env_eq ⟨rfl, rfl, rfl, rfl, rfl, trivial⟩, X90, ex92, ex94, ex96, ex98⟩
    have H := H.2 hc85
    refine LP_ev ok 5 [(44, .bool r61), (45, .bool r26), (46, .bool (r61 != r26)), (47, .bool (r61 != r26))] 9 rfl rfl ?_
    refine LP_end _ rfl ?_
    have X100 := (((X.stepx x).stepx x17).stepx x29)
    have f99 := f33.mono X100.size
    have X102 := (((((X100.stepx x31).step y (f99.dom _)).stepx x40).stepx x52).stepx x64)
    have f101 := f69.mono X102.size
    have X103 := (((((((((((X.stepx x).stepx x17).stepx x29).stepx x31).step y (f99.dom _)).stepx x40).stepx x52).stepx x64).stepx x67).step y72 (f101.dom _)).stepx x84)
    have ex104 := (((ex38.ext x40).ext x52).ext x64)
    have ex105 := ((((((ex38.ext x40).ext x52).ext x64).ext x67).but y72 (Dj.of_fresh ex104 f69).symm).ext x84)
    have ex106 := ((ex50.ext x52).ext x64)
    have ex107 := (((((ex50.ext x52).ext x64).ext x67).but y72 (Dj.of_fresh ex106 f69).symm).ext x84)
    have ex108 := (ex62.ext x64)
    have ex109 := ((((ex62.ext x64).ext x67).but y72 (Dj.of_fresh ex108 f69).symm).ext x84)
    have ex110 := (ex56.ext x64)
    have ex111 := ((((ex56.ext x64).ext x67).but y72 (Dj.of_fresh ex110 f69).symm).ext x84)
    exact ⟨r61 != r26, H, _, env_eq ⟨rfl, rfl, rfl, rfl, rfl, trivial⟩, X103, ex105, ex107, ex109, ex111⟩
  rintro x73 _ wx74 ⟨H, ρ, rfl, X79, ex75, ex76, ex77, ex78⟩
  subst hk
  refine W_cond (x73) rfl (fun hc112 => ?_) (fun hc112 => ?_)
  · have H := H.1 hc112
    refine W_seq ?_
    refine W_region ?_
    refine LP_ev ok 0 [(6, .bool false)] 1 rfl rfl ?_
    refine LP_end _ rfl ?_
    refine W_ret ?_
    exact ⟨_, Ret_of [.bool false] ⟨⟨rfl, rfl⟩, trivial⟩, _, H, rfl, X79.ext⟩
  have H := H.2 hc112
  refine W_skip ?_
  refine W_seq ?_
  refine W_seq ?_
  refine W_region ?_
  refine LP_ev ok 0 [(48, .slice a46 (List.length r36) c47), (49, .slice a (List.length aA) c)] 2 rfl rfl ?_
  refine LP_call 2 rfl rfl rfl cal_26 rfl (laws_toIntS_w _ _ H wx74 r ex75) ?_
  rintro _ wx114 ⟨r113, vx116, hx117, H, rfl, x115, o118, ex119, f120⟩
  obtain ⟨a121, c122, rfl⟩ := o118.shape
  have ex124 := (ex77.ext x115)
  refine LP_call 3 rfl rfl rfl cal_22 rfl (laws_eqIntS_w _ _ _ H wx114 o43.readf ex124 o118.readf ex119) ?_
  rintro _ wx125 ⟨r123, H, rfl, x126⟩
  refine LP_ev ok 4 [(52, .bool (!r123))] 5 rfl rfl ?_
  refine LP_end _ rfl ?_
  refine W_cond (!r123) rfl (fun hc127 => ?_) (fun hc127 => ?_)
  · have H := H.1 hc127
    refine W_seq ?_
    refine W_region ?_
    refine LP_ev ok 0 [(6, .bool false)] 1 rfl rfl ?_
    refine LP_end _ rfl ?_
    refine W_ret ?_
    have X128 := ((X79.stepx x115).stepx x126)
    exact ⟨_, Ret_of [.bool false] ⟨⟨rfl, rfl⟩, trivial⟩, _, H, rfl, X128.ext⟩
  have H := H.2 hc127
  refine W_skip ?_
  refine W_seq ?_
  refine W_seq ?_
  refine W_region ?_
  refine LP_ev ok 0 [(53, .slice a58 (List.length r48) c59), (54, .slice a5 (List.length aB) c6)] 2 rfl rfl ?_
  have ex130 := ((ex76.ext x115).ext x126)
  refine LP_call 2 rfl rfl rfl cal_26 rfl (laws_toIntS_w _ _ H wx125 r3 ex130) ?_
  rintro _ wx131 ⟨r129, vx133, hx134, H, rfl, x132, o135, ex136, f137⟩
  obtain ⟨a138, c139, rfl⟩ := o135.shape
  have ex141 := (((ex78.ext x115).ext x126).ext x132)
  refine LP_call 3 rfl rfl rfl cal_22 rfl (laws_eqIntS_w _ _ _ H wx131 o55.readf ex141 o135.readf ex136) ?_
  rintro _ wx142 ⟨r140, H, rfl, x143⟩
  refine LP_ev ok 4 [(57, .bool (!r140))] 5 rfl rfl ?_
  refine LP_end _ rfl ?_
  refine W_cond (!r140) rfl (fun hc144 => ?_) (fun hc144 => ?_)
  · have H := H.1 hc144
    refine W_seq ?_
    refine W_region ?_
    refine LP_ev ok 0 [(6, .bool false)] 1 rfl rfl ?_
    refine LP_end _ rfl ?_
    refine W_ret ?_
    have X145 := ((((X79.stepx x115).stepx x126).stepx x132).stepx x143)
    exact ⟨_, Ret_of [.bool false] ⟨⟨rfl, rfl⟩, trivial⟩, _, H, rfl, X145.ext⟩
  have H := H.2 hc144
  refine W_skip ?_
  refine W_seq ?_
  refine W_region ?_
  refine LP_ev ok 0 [(6, .bool true)] 1 rfl rfl ?_
  refine LP_end _ rfl ?_
  refine W_ret ?_
  have X146 := ((((X79.stepx x115).stepx x126).stepx x132).stepx x143)
  exact ⟨_, Ret_of [.bool true] ⟨⟨rfl, rfl⟩, trivial⟩, _, H, rfl, X146.ext⟩

set_option maxRecDepth 8000 in
set_option maxHeartbeats 4000000 in
theorem spec_oShares_w (l : List Int) (Q : (List Frac) → Bool → Prop) (H : spec_oShares l Q) (w : World) {vx : Value} {hx : PH} (r : RS hx vx l) (ex : Sub hx w) :
    CallsTo Try.prog 109 #[vx] w fun v w' => ∃ r0 r1 u0 g0, Q r0 r1 ∧ v = .tuple #[u0, .bool r1] ∧ Ext w w' ∧ OS 34 g0 emp u0 r0 ∧ Sub g0 w' ∧ Fresh w.heap.size g0 := by
  obtain ⟨a, c, rfl⟩ := r.shape
  refine enter (args := [.slice a (List.length l) c]) 30 Try.func109 rfl rfl rfl ?_
  refine W_forget [(0, .slice a (List.length l) c)] ⟨rfl, trivial⟩ fun ρ => ?_
  have X := But.refl emp w
  refine W_seq ?_
  refine W_region ?_
  refine LP_ev ok 0 [(2, .slice none 0 0), (3, .bool false)] 2 rfl rfl ?_
  refine LP_end _ rfl ?_
  refine W_seq ?_
  refine W_region ?_
  refine LP_ev ok 0 [(4, .slice none 0 0)] 1 rfl rfl ?_
  refine LP_end _ rfl ?_
  refine W_seq ?_
  refine W_seq ?_
  refine W_region ?_
  refine LP_ev ok 0 [(9, .slice a (List.length l) c), (10, I (ln l)), (11, I 0)] 3 rfl rfl ?_
  refine LP_end _ rfl ?_
  refine W_block ?_
  obtain ⟨J, m, Hx, H⟩ := H
  refine W_loop (S := (List Frac) × Int) (fun s ρ' w' => J s.1 s.2 ∧ ∃ (ρ : Env) (vx1 : Value) (hx2 : PH), ρ' = setAll [(0, .slice a (List.length l) c), (4, vx1), (9, .slice a (List.length l) c), (10, I (ln l)), (11, I s.2)] ρ ∧ But emp w w' ∧ OS 34 hx2 emp vx1 s.1 ∧ Sub hx2 w' ∧ Fresh w.heap.size hx2 ∧ Sub hx w' ∧ Dj hx2 hx) (fun s => m s.1 s.2) ([], 0) ⟨Hx, _, .slice none 0 0, emp, env_eq ⟨rfl, rfl, rfl, rfl, rfl, trivial⟩, X, OS.nil, (emp_sub _), (emp_fresh _), ex, (fun _ => .inl rfl)⟩ ?_
  rintro ⟨out, x⟩ _ wx ⟨Hi, ρ, vx1, hx2, rfl, X7, o, ex3, f, ex4, d⟩
  have H := H out x Hi
  obtain ⟨a5, c6, rfl⟩ := o.shape
  refine W_seq ?_
  refine W_region ?_
  refine LP_ev ok 0 [(12, .bool (decide (x < (ln l))))] 1 rfl rfl ?_
  refine LP_end _ rfl ?_
  refine W_seq ?_
  refine W_cond (decide (x < (ln l))) rfl (fun hc => ?_) (fun hc => ?_)
  · have H := H.1 hc
    refine W_skip ?_
    refine W_seq ?_
    refine W_block ?_
    refine W_seq ?_
    refine W_region ?_
    obtain ⟨x8, hi, hx9, H⟩ := H
    refine LP_index 0 rfl rfl rfl Try.underlying22 ti_3 rfl rfl r hi hx9 fun a10 cs r11 d12 => ?_
    refine LP_load 1 rfl rfl rfl ti_3 ag_3 rfl r11 d12 ex4 fun vx13 r14 => ?_
    obtain rfl := r14.int
    refine LP_ev ok 2 [(6, I x8)] 3 rfl rfl ?_
    refine LP_end _ rfl ?_
    refine W_seq ?_
    refine W_region ?_
    refine LP_ev ok 0 [(16, I x8), (17, .slice a (List.length l) c)] 2 rfl rfl ?_
    refine LP_call 2 rfl rfl rfl cal_91 rfl (spec_tSum_w _ _ H wx r ex4) ?_
    rintro _ wx16 ⟨r15, H, rfl, x17⟩
    refine LP_call 3 rfl rfl rfl cal_90 rfl (spec_fMake_w _ _ _ H wx16 ) ?_
    rintro _ wx20 ⟨r18, r19, H, rfl, x21⟩
    refine LP_ev ok 4 [(15, .tuple #[.agg #[I r18.Num, I r18.Den], .bool r19]), (20, .agg #[I r18.Num, I r18.Den]), (21, .bool r19)] 7 rfl rfl ?_
    refine LP_alloc 7 rfl rfl rfl ti_34 rfl fun b wx22 x23 ex24 f25 => ?_
    refine LP_stbox 8 (vs := [I r18.Num, I r18.Den]) (cs' := [I r18.Num, I r18.Den]) rfl rfl rfl ti_34 rfl rfl rfl rfl rfl ex24 rfl rfl fun wx26 ex27 y => ?_
    refine LP_ev ok 9 [(8, .bool r19)] 10 rfl rfl ?_
    refine LP_end _ rfl ?_
    refine W_seq ?_
    refine W_seq ?_
    refine W_region ?_
    refine LP_ev ok 0 [(22, .bool r19), (23, .bool (!r19))] 2 rfl rfl ?_
    refine LP_end _ rfl ?_
    refine W_cond (!r19) rfl (fun hc28 => ?_) (fun hc28 => ?_)
    · have H := H.1 hc28
      refine W_seq ?_
      refine W_region ?_
      refine LP_ev ok 0 [(2, .slice none 0 0), (3, .bool false)] 2 rfl rfl ?_
      refine LP_end _ rfl ?_
      refine W_ret ?_
      have X30 := ((X7.stepx x17).stepx x21)
      have f29 := f25.mono X30.size
      have X31 := ((((X7.stepx x17).stepx x21).stepx x23).step y (f29.dom _))
      exact ⟨_, Ret_of [.slice none 0 0, .bool false] ⟨⟨rfl, rfl⟩, ⟨rfl, rfl⟩, trivial⟩, _, _, _, emp, H, rfl, X31.ext, OS.nil, (emp_sub _), (emp_fresh _)⟩
    have H := H.2 hc28
    refine W_skip ?_
    refine W_region ?_
    refine LP_ev ok 0 [(24, .slice a5 (List.length out) c6)] 1 rfl rfl ?_
    refine LP_ldbox 1 (v := .agg #[I r18.Num, I r18.Den]) rfl rfl rfl ti_34 ag_34 (fun h => by cases h) rfl ex27 rfl rfl ?_
    refine LP_lit (α := Frac) (g := emp) 2 (vs := [.agg #[I r18.Num, I r18.Den]]) (xs := [(Frac.mk r18.Num r18.Den)]) rfl rfl rfl Try.underlying44 ti_34 rfl rfl ⟨⟨_, rfl, rfl⟩, trivial⟩ rfl rfl fun hx32 vx33 wx34 x35 o36 ex37 f38 => ?_
    obtain ⟨a39, c40, rfl⟩ := o36.shape
    have ex41 := ((ex3.ext x17).ext x21)
    have ex42 := (((((ex3.ext x17).ext x21).ext x23).but y (Dj.of_fresh ex41 f25).symm).ext x35)
    obtain ⟨hb, H⟩ := H
    refine LP_appendf (α := Frac) 3 rfl rfl rfl Try.underlying44 ti_34 rfl rfl rfl o ex42 o36.readf ex37 (by first | omega | (simp only [ln] at *; omega)) (by first | omega | (simp only [ln] at *; omega)) fun hx43 vx44 wx45 o46 ex47 y48 dm => ?_
    obtain ⟨a49, c50, rfl⟩ := o46.shape
    refine LP_ev ok 4 [(4, .slice a49 (List.length (out ++ ([(Frac.mk r18.Num r18.Den)]))) c50)] 5 rfl rfl ?_
    refine LP_end _ rfl ?_
    refine W_region ?_
    refine LP_ev ok 0 [(28, I (wr (x + 1))), (11, I (wr (x + 1)))] 2 rfl rfl ?_
    refine LP_end _ rfl ?_
    have X52 := ((X7.stepx x17).stepx x21)
    have f51 := f25.mono X52.size
    have X53 := ((((((X7.stepx x17).stepx x21).stepx x23).step y (f51.dom _)).stepx x35).step y48 (f.dom _))
    have X55 := (((X52.stepx x23).step y (f51.dom _)).stepx x35)
    have f54 := dm.fresh f X55.size
    have ex56 := ((ex4.ext x17).ext x21)
    have ex57 := ((((((ex4.ext x17).ext x21).ext x23).but y (Dj.of_fresh ex56 f25).symm).ext x35).but y48 d)
    have ex58 := (((ex56.ext x23).but y (Dj.of_fresh ex56 f25).symm).ext x35)
    exact ⟨(out ++ ([(Frac.mk r18.Num r18.Den)]), wr (x + 1)), ⟨H.1, _, .slice a49 (List.length (out ++ ([(Frac.mk r18.Num r18.Den)]))) c50, hx43, env_eq ⟨rfl, rfl, rfl, rfl, rfl, trivial⟩, X53, o46, ex47, f54, ex57, (DomLe.dj dm d ex58)⟩, H.2⟩
  have H := H.2 hc
  refine W_exit ?_
  refine (if_pos rfl).mpr ?_
  refine W_seq ?_
  refine W_region ?_
  refine LP_ev ok 0 [(29, .slice a5 (List.length out) c6), (2, .slice a5 (List.length out) c6), (3, .bool true)] 3 rfl rfl ?_
  refine LP_end _ rfl ?_
  refine W_ret ?_
  exact ⟨_, Ret_of [.slice a5 (List.length out) c6, .bool true] ⟨⟨rfl, rfl⟩, ⟨rfl, rfl⟩, trivial⟩, _, _, _, _, H, rfl, X7.ext, o, ex3, f⟩

set_option maxRecDepth 8000 in
set_option maxHeartbeats 4000000 in
theorem spec_CountShares_w (counts : List Int) (Q : (List Frac) → Bool → Prop) (H : spec_CountShares counts Q) (w : World) {vx : Value} {hx : PH} (r : RS hx vx counts) (ex : Sub hx w) :
    CallsTo Try.prog 50 #[vx] w fun v w' => ∃ r0 r1 u0 g0, Q r0 r1 ∧ v = .tuple #[u0, .bool r1] ∧ Ext w w' ∧ OS 34 g0 emp u0 r0 ∧ Sub g0 w' ∧ Fresh w.heap.size g0 := by
  obtain ⟨a, c, rfl⟩ := r.shape
  refine enter (args := [.slice a (List.length counts) c]) 11 Try.func50 rfl rfl rfl ?_
  refine W_forget [(0, .slice a (List.length counts) c)] ⟨rfl, trivial⟩ fun ρ => ?_
  have X := But.refl emp w
  refine W_seq ?_
  refine W_region ?_
  refine LP_ev ok 0 [(2, .slice none 0 0), (3, .bool false)] 2 rfl rfl ?_
  refine LP_end _ rfl ?_
  refine W_seq ?_
  refine W_seq ?_
  refine W_region ?_
  refine LP_ev ok 0 [(4, .slice a (List.length counts) c)] 1 rfl rfl ?_
  refine LP_call 1 rfl rfl rfl cal_88 rfl (spec_oCounts_w _ _ H w r ex) ?_
  rintro _ wx ⟨r1, H, rfl, x⟩
  refine LP_ev ok 2 [(6, .bool (!r1))] 3 rfl rfl ?_
  refine LP_end _ rfl ?_
  refine W_cond (!r1) rfl (fun hc => ?_) (fun hc => ?_)
  · have H := H.1 hc
    refine W_seq ?_
    refine W_region ?_
    refine LP_ev ok 0 [(2, .slice none 0 0), (3, .bool false)] 2 rfl rfl ?_
    refine LP_end _ rfl ?_
    refine W_ret ?_
    have X2 := (X.stepx x)
    exact ⟨_, Ret_of [.slice none 0 0, .bool false] ⟨⟨rfl, rfl⟩, ⟨rfl, rfl⟩, trivial⟩, _, _, _, emp, H, rfl, X2.ext, OS.nil, (emp_sub _), (emp_fresh _)⟩
  have H := H.2 hc
  refine W_skip ?_
  refine W_seq ?_
  refine W_region ?_
  refine LP_ev ok 0 [(7, .slice a (List.length counts) c)] 1 rfl rfl ?_
  have ex5 := (ex.ext x)
  refine LP_call 1 rfl rfl rfl cal_109 rfl (spec_oShares_w _ _ H wx r ex5) ?_
  rintro _ wx6 ⟨r3, r4, vx8, hx9, H, rfl, x7, o, ex10, f⟩
  obtain ⟨a11, c12, rfl⟩ := o.shape
  refine LP_ev ok 2 [(9, .slice a11 (List.length r3) c12), (10, .bool r4), (2, .slice a11 (List.length r3) c12), (3, .bool r4)] 6 rfl rfl ?_
  refine LP_end _ rfl ?_
  refine W_ret ?_
  have X14 := (X.stepx x)
  have f13 := f.mono X14.size
  have X15 := (X14.stepx x7)
  exact ⟨_, Ret_of [.slice a11 (List.length r3) c12, .bool r4] ⟨⟨rfl, rfl⟩, ⟨rfl, rfl⟩, trivial⟩, _, _, _, _, H, rfl, X15.ext, o, ex10, f13⟩

set_option maxRecDepth 8000 in
set_option maxHeartbeats 4000000 in
theorem impl_sharesOf_w (values : List Int) (Q : (List Frac) → Bool → Prop) (H : impl_sharesOf values Q) (w : World) {vx : Value} {hx : PH} (r : RS hx vx values) (ex : Sub hx w) :
    CallsTo Try.prog 110 #[vx] w fun v w' => ∃ r0 r1 u0 g0, Q r0 r1 ∧ v = .tuple #[u0, .bool r1] ∧ Ext w w' ∧ OS 34 g0 emp u0 r0 ∧ Sub g0 w' ∧ Fresh w.heap.size g0 := by
  obtain ⟨a, c, rfl⟩ := r.shape
  refine enter (args := [.slice a (List.length values) c]) 38 Try.func110 rfl rfl rfl ?_
  refine W_forget [(0, .slice a (List.length values) c)] ⟨rfl, trivial⟩ fun ρ => ?_
  have X := But.refl emp w
  refine W_seq ?_
  refine W_region ?_
  refine LP_ev ok 0 [(2, .slice none 0 0), (3, .bool false)] 2 rfl rfl ?_
  refine LP_end _ rfl ?_
  refine W_seq ?_
  refine W_region ?_
  refine LP_ev ok 0 [(10, .slice a (List.length values) c)] 1 rfl rfl ?_
  refine LP_call 1 rfl rfl rfl cal_94 rfl (impl_total_w _ _ H w r ex) ?_
  rintro _ wx ⟨r1, H, rfl, x⟩
  refine LP_ev ok 2 [(4, I r1)] 3 rfl rfl ?_
  refine LP_end _ rfl ?_
  refine W_seq ?_
  refine W_seq ?_
  refine W_region ?_
  refine LP_ev ok 0 [(12, I r1), (13, .bool (r1 == 0))] 2 rfl rfl ?_
  refine LP_end _ rfl ?_
  refine W_cond (r1 == 0) rfl (fun hc => ?_) (fun hc => ?_)
  · have H := H.1 hc
    refine W_seq ?_
    refine W_region ?_
    refine LP_ev ok 0 [(2, .slice none 0 0), (3, .bool false)] 2 rfl rfl ?_
    refine LP_end _ rfl ?_
    refine W_ret ?_
    have X2 := (X.stepx x)
    exact ⟨_, Ret_of [.slice none 0 0, .bool false] ⟨⟨rfl, rfl⟩, ⟨rfl, rfl⟩, trivial⟩, _, _, _, emp, H, rfl, X2.ext, OS.nil, (emp_sub _), (emp_fresh _)⟩
  have H := H.2 hc
  refine W_skip ?_
  refine W_seq ?_
  refine W_region ?_
  refine LP_ev ok 0 [(14, .slice a (List.length values) c), (15, I (ln values))] 2 rfl rfl ?_
  obtain ⟨hn, hb, H⟩ := H
  refine LP_make (α := Frac) 2 rfl rfl rfl Try.underlying44 ti_34 (x0 := (Frac.mk ((0 : Int)) ((0 : Int)))) rfl rfl hn (by first | omega | (simp only [ln] at *; omega)) (by first | omega | (simp only [ln] at *; omega)) fun hx3 vx4 wx5 x6 o ex7 f => ?_
  obtain ⟨a8, c9, rfl⟩ := o.shape
  refine LP_ev ok 3 [(5, .slice a8 (List.length (List.replicate (Int.toNat (ln values)) ((Frac.mk ((0 : Int)) ((0 : Int)))))) c9)] 4 rfl rfl ?_
  refine LP_end _ rfl ?_
  refine W_seq ?_
  refine W_seq ?_
  refine W_region ?_
  refine LP_ev ok 0 [(17, .slice a (List.length values) c), (18, I (ln values)), (19, I 0)] 3 rfl rfl ?_
  refine LP_end _ rfl ?_
  refine W_block ?_
  obtain ⟨J, m, Hx, H⟩ := H
  have X19 := ((X.stepx x).stepx x6)
  have X21 := (X.stepx x)
  have f20 := f.mono X21.size
  have ex22 := ((ex.ext x).ext x6)
  have ex23 := (ex.ext x)
  refine W_loop (S := (List Frac) × Int) (fun s ρ' w' => J s.1 s.2 ∧ ∃ (ρ : Env) (hx11 : PH), ρ' = setAll [(4, I r1), (5, .slice a8 (List.length (List.replicate (Int.toNat (ln values)) ((Frac.mk ((0 : Int)) ((0 : Int)))))) c9), (17, .slice a (List.length values) c), (18, I (ln values)), (19, I s.2)] ρ ∧ But emp w w' ∧ OS 34 hx11 emp (.slice a8 (List.length (List.replicate (Int.toNat (ln values)) ((Frac.mk ((0 : Int)) ((0 : Int)))))) c9) s.1 ∧ Sub hx11 w' ∧ Fresh w.heap.size hx11 ∧ Sub hx w' ∧ Dj hx11 hx) (fun s => m s.1 s.2) (List.replicate (Int.toNat (ln values)) ((Frac.mk ((0 : Int)) ((0 : Int)))), 0) ⟨Hx, _, hx3, env_eq ⟨rfl, rfl, rfl, rfl, rfl, trivial⟩, X19, o, ex7, f20, ex22, (Dj.of_fresh ex23 f).symm⟩ ?_
  rintro ⟨out, x15⟩ _ wx16 ⟨Hi, ρ, hx11, rfl, X18, o12, ex13, f14, ex17, d⟩
  have H := H out x15 Hi
  refine W_seq ?_
  refine W_region ?_
  refine LP_ev ok 0 [(20, .bool (decide (x15 < (ln values))))] 1 rfl rfl ?_
  refine LP_end _ rfl ?_
  refine W_seq ?_
  refine W_cond (decide (x15 < (ln values))) rfl (fun hc24 => ?_) (fun hc24 => ?_)
  · have H := H.1 hc24
    refine W_skip ?_
    refine W_seq ?_
    refine W_block ?_
    refine W_seq ?_
    refine W_region ?_
    refine LP_ev ok 0 [(21, I x15)] 1 rfl rfl ?_
    obtain ⟨x25, hi, hx26, H⟩ := H
    refine LP_index 1 rfl rfl rfl Try.underlying22 ti_3 rfl rfl r hi hx26 fun a27 cs r28 d29 => ?_
    refine LP_load 2 rfl rfl rfl ti_3 ag_3 rfl r28 d29 ex17 fun vx30 r31 => ?_
    obtain rfl := r31.int
    refine LP_ev ok 3 [(6, I x15), (7, I x25)] 5 rfl rfl ?_
    refine LP_end _ rfl ?_
    refine W_seq ?_
    refine W_region ?_
    refine LP_ev ok 0 [(25, I x25), (26, I r1)] 2 rfl rfl ?_
    refine LP_call 2 rfl rfl rfl cal_93 rfl (impl_reduced_w _ _ _ H wx16 ) ?_
    rintro _ wx34 ⟨r32, r33, H, rfl, x35⟩
    refine LP_ev ok 3 [(24, .tuple #[.agg #[I r32.Num, I r32.Den], .bool r33]), (28, .agg #[I r32.Num, I r32.Den]), (29, .bool r33)] 6 rfl rfl ?_
    refine LP_alloc 6 rfl rfl rfl ti_34 rfl fun b wx36 x37 ex38 f39 => ?_
    refine LP_stbox 7 (vs := [I r32.Num, I r32.Den]) (cs' := [I r32.Num, I r32.Den]) rfl rfl rfl ti_34 rfl rfl rfl rfl rfl ex38 rfl rfl fun wx40 ex41 y => ?_
    refine LP_ev ok 8 [(9, .bool r33)] 9 rfl rfl ?_
    refine LP_end _ rfl ?_
    refine W_seq ?_
    refine W_seq ?_
    refine W_region ?_
    refine LP_ev ok 0 [(30, .bool r33), (31, .bool (!r33))] 2 rfl rfl ?_
    refine LP_end _ rfl ?_
    refine W_cond (!r33) rfl (fun hc42 => ?_) (fun hc42 => ?_)
    · have H := H.1 hc42
      refine W_seq ?_
      refine W_region ?_
      refine LP_ev ok 0 [(2, .slice none 0 0), (3, .bool false)] 2 rfl rfl ?_
      refine LP_end _ rfl ?_
      refine W_ret ?_
      have X44 := (X18.stepx x35)
      have f43 := f39.mono X44.size
      have X45 := (((X18.stepx x35).stepx x37).step y (f43.dom _))
      exact ⟨_, Ret_of [.slice none 0 0, .bool false] ⟨⟨rfl, rfl⟩, ⟨rfl, rfl⟩, trivial⟩, _, _, _, emp, H, rfl, X45.ext, OS.nil, (emp_sub _), (emp_fresh _)⟩
    have H := H.2 hc42
    refine W_skip ?_
    refine W_region ?_
    refine LP_ev ok 0 [(32, .slice a8 (List.length (List.replicate (Int.toNat (ln values)) ((Frac.mk ((0 : Int)) ((0 : Int)))))) c9), (33, I x15)] 2 rfl rfl ?_
    refine LP_ldbox 2 (v := .agg #[I r32.Num, I r32.Den]) rfl rfl rfl ti_34 ag_34 (fun h => by cases h) rfl ex41 rfl rfl ?_
    obtain ⟨hi46, hl, H⟩ := H
    refine LP_indexw 3 rfl rfl rfl Try.underlying44 ti_34 rfl rfl o12 hi46 hl fun a47 wa => ?_
    have ex53 := (ex13.ext x35)
    have ex54 := (((ex13.ext x35).ext x37).but y (Dj.of_fresh ex53 f39).symm)
    refine LP_set 4 rfl rfl rfl rfl rfl wa (Le.refl emp) ⟨_, rfl, rfl⟩ ex54 fun hx48 wx49 o50 ex51 y52 dm => ?_
    refine LP_end _ rfl ?_
    refine W_region ?_
    refine LP_ev ok 0 [(36, I (wr (x15 + 1))), (19, I (wr (x15 + 1)))] 2 rfl rfl ?_
    refine LP_end _ rfl ?_
    have X56 := (X18.stepx x35)
    have f55 := f39.mono X56.size
    have X57 := ((((X18.stepx x35).stepx x37).step y (f55.dom _)).step y52 (f14.dom _))
    have X59 := ((X56.stepx x37).step y (f55.dom _))
    have f58 := (dm _).fresh f14 X59.size
    have ex60 := (ex17.ext x35)
    have ex61 := ((((ex17.ext x35).ext x37).but y (Dj.of_fresh ex60 f39).symm).but y52 d)
    have ex62 := ((ex60.ext x37).but y (Dj.of_fresh ex60 f39).symm)
    exact ⟨(List.set out (Int.toNat x15) ((Frac.mk r32.Num r32.Den)), wr (x15 + 1)), ⟨H.1, _, hx48, env_eq ⟨rfl, rfl, rfl, rfl, rfl, trivial⟩, X57, o50, ex51, f58, ex61, (DomLe.dj (dm _) d ex62)⟩, H.2⟩
  have H := H.2 hc24
  refine W_exit ?_
  refine (if_pos rfl).mpr ?_
  refine W_seq ?_
  refine W_region ?_
  refine LP_ev ok 0 [(37, .slice a8 (List.length (List.replicate (Int.toNat (ln values)) ((Frac.mk ((0 : Int)) ((0 : Int)))))) c9), (2, .slice a8 (List.length (List.replicate (Int.toNat (ln values)) ((Frac.mk ((0 : Int)) ((0 : Int)))))) c9), (3, .bool true)] 3 rfl rfl ?_
  refine LP_end _ rfl ?_
  refine W_ret ?_
  exact ⟨_, Ret_of [.slice a8 (List.length (List.replicate (Int.toNat (ln values)) ((Frac.mk ((0 : Int)) ((0 : Int)))))) c9, .bool true] ⟨⟨rfl, rfl⟩, ⟨rfl, rfl⟩, trivial⟩, _, _, _, _, H, rfl, X18.ext, o12, ex13, f14⟩

set_option maxRecDepth 8000 in
set_option maxHeartbeats 4000000 in
theorem impl_CountShares_w (counts : List Int) (Q : (List Frac) → Bool → Prop) (H : impl_CountShares counts Q) (w : World) {vx : Value} {hx : PH} (r : RS hx vx counts) (ex : Sub hx w) :
    CallsTo Try.prog 51 #[vx] w fun v w' => ∃ r0 r1 u0 g0, Q r0 r1 ∧ v = .tuple #[u0, .bool r1] ∧ Ext w w' ∧ OS 34 g0 emp u0 r0 ∧ Sub g0 w' ∧ Fresh w.heap.size g0 := by
  obtain ⟨a, c, rfl⟩ := r.shape
  refine enter (args := [.slice a (List.length counts) c]) 11 Try.func51 rfl rfl rfl ?_
  refine W_forget [(0, .slice a (List.length counts) c)] ⟨rfl, trivial⟩ fun ρ => ?_
  have X := But.refl emp w
  refine W_seq ?_
  refine W_region ?_
  refine LP_ev ok 0 [(2, .slice none 0 0), (3, .bool false)] 2 rfl rfl ?_
  refine LP_end _ rfl ?_
  refine W_seq ?_
  refine W_seq ?_
  refine W_region ?_
  refine LP_ev ok 0 [(4, .slice a (List.length counts) c)] 1 rfl rfl ?_
  refine LP_call 1 rfl rfl rfl cal_92 rfl (impl_areCounts_w _ _ H w r ex) ?_
  rintro _ wx ⟨r1, H, rfl, x⟩
  refine LP_ev ok 2 [(6, .bool (!r1))] 3 rfl rfl ?_
  refine LP_end _ rfl ?_
  refine W_cond (!r1) rfl (fun hc => ?_) (fun hc => ?_)
  · have H := H.1 hc
    refine W_seq ?_
    refine W_region ?_
    refine LP_ev ok 0 [(2, .slice none 0 0), (3, .bool false)] 2 rfl rfl ?_
    refine LP_end _ rfl ?_
    refine W_ret ?_
    have X2 := (X.stepx x)
    exact ⟨_, Ret_of [.slice none 0 0, .bool false] ⟨⟨rfl, rfl⟩, ⟨rfl, rfl⟩, trivial⟩, _, _, _, emp, H, rfl, X2.ext, OS.nil, (emp_sub _), (emp_fresh _)⟩
  have H := H.2 hc
  refine W_skip ?_
  refine W_seq ?_
  refine W_region ?_
  refine LP_ev ok 0 [(7, .slice a (List.length counts) c)] 1 rfl rfl ?_
  have ex5 := (ex.ext x)
  refine LP_call 1 rfl rfl rfl cal_110 rfl (impl_sharesOf_w _ _ H wx r ex5) ?_
  rintro _ wx6 ⟨r3, r4, vx8, hx9, H, rfl, x7, o, ex10, f⟩
  obtain ⟨a11, c12, rfl⟩ := o.shape
  refine LP_ev ok 2 [(9, .slice a11 (List.length r3) c12), (10, .bool r4), (2, .slice a11 (List.length r3) c12), (3, .bool r4)] 6 rfl rfl ?_
  refine LP_end _ rfl ?_
  refine W_ret ?_
  have X14 := (X.stepx x)
  have f13 := f.mono X14.size
  have X15 := (X14.stepx x7)
  exact ⟨_, Ret_of [.slice a11 (List.length r3) c12, .bool r4] ⟨⟨rfl, rfl⟩, ⟨rfl, rfl⟩, trivial⟩, _, _, _, _, H, rfl, X15.ext, o, ex10, f13⟩

set_option maxRecDepth 8000 in
set_option maxHeartbeats 4000000 in
theorem laws_eqFracS_w (a : List Frac) (b : List Frac) (Q : Bool → Prop) (H : laws_eqFracS a b Q) (w : World) {vx : Value} {hx : PH} (r : RS hx vx a) (ex : Sub hx w) {vx2 : Value} {hx3 : PH} (r4 : RS hx3 vx2 b) (ex5 : Sub hx3 w) :
    CallsTo Try.prog 38 #[vx, vx2] w fun v w' => ∃ r0, Q r0 ∧ v = .bool r0 ∧ Ext w w' := by
  obtain ⟨a1, c, rfl⟩ := r.shape
  obtain ⟨a6, c7, rfl⟩ := r4.shape
  refine enter (args := [.slice a1 (List.length a) c, .slice a6 (List.length b) c7]) 27 Try.func38 rfl rfl rfl ?_
  refine W_forget [(0, .slice a1 (List.length a) c), (1, .slice a6 (List.length b) c7)] ⟨rfl, rfl, trivial⟩ fun ρ => ?_
  have X := But.refl emp w
  refine W_seq ?_
  refine W_region ?_
  refine LP_ev ok 0 [(4, .bool false)] 1 rfl rfl ?_
  refine LP_end _ rfl ?_
  refine W_seq ?_
  refine W_seq ?_
  refine W_region ?_
  refine LP_ev ok 0 [(6, .slice a1 (List.length a) c), (7, I (ln a)), (8, .slice a6 (List.length b) c7), (9, I (ln b)), (10, .bool ((ln a) != (ln b)))] 5 rfl rfl ?_
  refine LP_end _ rfl ?_
  refine W_cond ((ln a) != (ln b)) rfl (fun hc => ?_) (fun hc => ?_)
  · have H := H.1 hc
    refine W_seq ?_
    refine W_region ?_
    refine LP_ev ok 0 [(4, .bool false)] 1 rfl rfl ?_
    refine LP_end _ rfl ?_
    refine W_ret ?_
    exact ⟨_, Ret_of [.bool false] ⟨⟨rfl, rfl⟩, trivial⟩, _, H, rfl, X.ext⟩
  have H := H.2 hc
  refine W_skip ?_
  refine W_seq ?_
  refine W_seq ?_
  refine W_region ?_
  refine LP_ev ok 0 [(5, I 0)] 1 rfl rfl ?_
  refine LP_end _ rfl ?_
  refine W_block ?_
  obtain ⟨J, m, Hx, H⟩ := H
  refine W_loop (S := Int) (fun s ρ' w' => J s ∧ ∃ (ρ : Env), ρ' = setAll [(0, .slice a1 (List.length a) c), (1, .slice a6 (List.length b) c7), (5, I s)] ρ ∧ But emp w w' ∧ Sub hx w' ∧ Sub hx3 w') (fun s => m s) 0 ⟨Hx, _, env_eq ⟨rfl, rfl, rfl, trivial⟩, X, ex, ex5⟩ ?_
  rintro i _ wx ⟨Hi, ρ, rfl, X10, ex8, ex9⟩
  have H := H i Hi
  refine W_seq ?_
  refine W_seq ?_
  refine W_region ?_
  refine LP_ev ok 0 [(11, I i), (12, .slice a1 (List.length a) c), (13, I (ln a)), (14, .bool (decide (i < (ln a))))] 4 rfl rfl ?_
  refine LP_end _ rfl ?_
  refine W_cond (decide (i < (ln a))) rfl (fun hc11 => ?_) (fun hc11 => ?_)
  · have H := H.1 hc11
    refine W_skip ?_
    refine W_seq ?_
    refine W_block ?_
    refine W_seq ?_
    refine W_quiet mix (by kernel_rfl) ?_
    refine QP_ev ok 0 [(17, .slice a1 (List.length a) c), (18, I i)] 2 rfl rfl ?_
    obtain ⟨x, hi, hx12, H⟩ := H
    refine QP_index 2 rfl rfl rfl Try.underlying44 ti_34 rfl rfl r hi hx12 fun a13 cs r14 d => ?_
    refine QP_load 3 rfl rfl rfl ti_34 ag_34 rfl r14 d ex8 fun vx15 r16 => ?_
    obtain rfl := Frac_rv r16
    refine QP_ev ok 4 [(21, .slice a6 (List.length b) c7), (22, I i)] 6 rfl rfl ?_
    obtain ⟨x17, hi18, hx19, H⟩ := H
    refine QP_index 6 rfl rfl rfl Try.underlying44 ti_34 rfl rfl r4 hi18 hx19 fun a20 cs21 r22 d23 => ?_
    refine QP_load 7 rfl rfl rfl ti_34 ag_34 rfl r22 d23 ex9 fun vx24 r25 => ?_
    obtain rfl := Frac_rv r25
    obtain ⟨r26, Hd, H⟩ := H
    refine QP_call (.bool r26) 8 rfl rfl rfl cal_32 rfl (fun wx27 x28 => (laws_eqFrac_w _ _ _ Hd wx27 ).mono ?_) ?_
    · rintro _ _ ⟨_, rfl, rfl, x⟩; exact ⟨rfl, x⟩
    refine QP_ev ok 9 [(26, .bool (!r26))] 10 rfl rfl ?_
    refine QP_end _ rfl fun wx29 x30 => ?_
    refine W_cond (!r26) rfl (fun hc31 => ?_) (fun hc31 => ?_)
    · have H := H.1 hc31
      refine W_seq ?_
      refine W_region ?_
      refine LP_ev ok 0 [(4, .bool false)] 1 rfl rfl ?_
      refine LP_end _ rfl ?_
      refine W_ret ?_
      have X32 := (X10.stepx x30)
      exact ⟨_, Ret_of [.bool false] ⟨⟨rfl, rfl⟩, trivial⟩, _, H, rfl, X32.ext⟩
    have H := H.2 hc31
    refine W_skip ?_
    refine W_region ?_
    refine LP_ev ok 0 [(15, I i), (16, I (wr (i + 1))), (5, I (wr (i + 1)))] 3 rfl rfl ?_
    refine LP_end _ rfl ?_
    have X33 := (X10.stepx x30)
    have ex34 := (ex8.ext x30)
    have ex35 := (ex9.ext x30)
    exact ⟨wr (i + 1), ⟨H.1, _, env_eq ⟨rfl, rfl, rfl, trivial⟩, X33, ex34, ex35⟩, H.2⟩
  have H := H.2 hc11
  refine W_exit ?_
  refine (if_pos rfl).mpr ?_
  refine W_seq ?_
  refine W_region ?_
  refine LP_ev ok 0 [(4, .bool true)] 1 rfl rfl ?_
  refine LP_end _ rfl ?_
  refine W_ret ?_
  exact ⟨_, Ret_of [.bool true] ⟨⟨rfl, rfl⟩, trivial⟩, _, H, rfl, X10.ext⟩

set_option maxRecDepth 8000 in
set_option maxHeartbeats 4000000 in
theorem laws_markFracS_w (a : List Frac) (k : Int) (Q : Int → (List Frac) → Prop) (H : laws_markFracS a k Q) (w : World) {vx : Value} {hx : PH} (r : OS 34 hx emp vx a) (ex : Sub hx w) :
    CallsTo Try.prog 49 #[vx, I k] w fun v w' => ∃ r0 m0 g0, Q r0 m0 ∧ v = I r0 ∧ But hx w w' ∧ OS 34 g0 emp vx m0 ∧ Sub g0 w' ∧ (∀ n, DomLe hx n g0) := by
  obtain ⟨a1, c, rfl⟩ := r.shape
  refine enter (args := [.slice a1 (List.length a) c, I k]) 27 Try.func49 rfl rfl rfl ?_
  refine W_forget [(0, .slice a1 (List.length a) c), (1, I k)] ⟨rfl, rfl, trivial⟩ fun ρ => ?_
  have X := But.refl hx w
  refine W_seq ?_
  refine W_region ?_
  refine LP_ev ok 0 [(4, I 0)] 1 rfl rfl ?_
  refine LP_end _ rfl ?_
  refine W_seq ?_
  refine W_seq ?_
  refine W_region ?_
  refine LP_ev ok 0 [(5, I 0)] 1 rfl rfl ?_
  refine LP_end _ rfl ?_
  refine W_block ?_
  obtain ⟨J, m, Hx, H⟩ := H
  refine W_loop (S := (List Frac) × Int × Int) (fun s ρ' w' => J s.1 s.2.1 s.2.2 ∧ ∃ (ρ : Env) (hx4 : PH), ρ' = setAll [(0, .slice a1 (List.length a) c), (1, I s.2.1), (5, I s.2.2)] ρ ∧ But hx w w' ∧ OS 34 hx4 emp (.slice a1 (List.length a) c) s.1 ∧ Sub hx4 w' ∧ (∀ n, DomLe hx n hx4)) (fun s => m s.1 s.2.1 s.2.2) (a, k, 0) ⟨Hx, _, hx, env_eq ⟨rfl, rfl, rfl, trivial⟩, X, r, ex, (fun _ => DomLe.refl _ _)⟩ ?_
  rintro ⟨a2, k6, i⟩ _ wx ⟨Hi, ρ, hx4, rfl, X7, o, ex5, f⟩
  have H := H a2 k6 i Hi
  refine W_seq ?_
  refine W_seq ?_
  refine W_region ?_
  refine LP_ev ok 0 [(6, I i), (7, .slice a1 (List.length a) c), (8, I (ln a)), (9, .bool (decide (i < (ln a))))] 4 rfl rfl ?_
  refine LP_end _ rfl ?_
  refine W_cond (decide (i < (ln a))) rfl (fun hc => ?_) (fun hc => ?_)
  · have H := H.1 hc
    refine W_skip ?_
    refine W_seq ?_
    refine W_block ?_
    refine W_seq ?_
    refine W_region ?_
    refine LP_ev ok 0 [(12, .slice a1 (List.length a) c), (13, I i), (14, I k6)] 3 rfl rfl ?_
    obtain ⟨x, hi, hx8, H⟩ := H
    refine LP_indexf 3 rfl rfl rfl Try.underlying44 ti_34 rfl rfl o hi hx8 fun a9 wa => ?_
    refine LP_ev ok 4 [(16, .pointer (some (Addr.add a9 0)))] 5 rfl rfl ?_
    refine LP_setf 5 (x := x) (vs := [I k6]) (y := ({x with Num := k6} : Frac)) rfl rfl rfl ti_3 rfl rfl rfl rfl rfl rfl wa ex5 rfl fun hx10 wx11 o12 ex13 y dm => ?_
    refine LP_end _ rfl ?_
    refine W_seq ?_
    refine W_region ?_
    refine LP_ev ok 0 [(17, I k6), (18, I (wr (k6 + 1))), (1, I (wr (k6 + 1)))] 3 rfl rfl ?_
    refine LP_end _ rfl ?_
    refine W_seq ?_
    refine W_region ?_
    refine LP_ev ok 0 [(19, .slice a1 (List.length a) c), (20, I i), (21, I (wr (k6 + 1)))] 3 rfl rfl ?_
    obtain ⟨x14, hi15, hx16, H⟩ := H
    refine LP_indexf 3 rfl rfl rfl Try.underlying44 ti_34 rfl rfl o12 hi15 hx16 fun a17 wa18 => ?_
    refine LP_ev ok 4 [(23, .pointer (some (Addr.add a17 1)))] 5 rfl rfl ?_
    refine LP_setf 5 (x := x14) (vs := [I (wr (k6 + 1))]) (y := ({x14 with Den := wr (k6 + 1)} : Frac)) rfl rfl rfl ti_3 rfl rfl rfl rfl rfl rfl wa18 ex13 rfl fun hx19 wx20 o21 ex22 y23 dm24 => ?_
    refine LP_end _ rfl ?_
    refine W_region ?_
    refine LP_ev ok 0 [(24, I (wr (k6 + 1))), (25, I (wr ((wr (k6 + 1)) + 1))), (1, I (wr ((wr (k6 + 1)) + 1)))] 3 rfl rfl ?_
    refine LP_end _ rfl ?_
    refine W_region ?_
    refine LP_ev ok 0 [(10, I i), (11, I (wr (i + 1))), (5, I (wr (i + 1)))] 3 rfl rfl ?_
    refine LP_end _ rfl ?_
    try refine W_forget [(0, .slice a1 (List.length a) c), (1, I (wr ((wr (k6 + 1)) + 1))), (5, I (wr (i + 1)))] ⟨rfl, rfl, rfl, trivial⟩ fun ρ => ?_
    have X25 := ((X7.step y (f _)).step y23 (DomLe.trans (f _) (dm _) X7.size))
    exact ⟨(List.set (List.set a2 (Int.toNat i) ({x with Num := k6} : Frac)) (Int.toNat i) ({x14 with Den := wr (k6 + 1)} : Frac), wr ((wr (k6 + 1)) + 1), wr (i + 1)), ⟨H.1, _, hx19, env_eq ⟨rfl, rfl, rfl, trivial⟩, X25, o21, ex22, (fun _ => DomLe.trans (DomLe.trans (f _) ((dm _)) (Nat.le_refl _)) ((dm24 _)) (Nat.le_refl _))⟩, H.2⟩
  have H := H.2 hc
  refine W_exit ?_
  refine (if_pos rfl).mpr ?_
  refine W_seq ?_
  refine W_region ?_
  refine LP_ev ok 0 [(26, I k6), (4, I k6)] 2 rfl rfl ?_
  refine LP_end _ rfl ?_
  refine W_ret ?_
  exact ⟨_, Ret_of [I k6] ⟨⟨rfl, rfl⟩, trivial⟩, _, _, _, H, rfl, X7, o, ex5, (fun _ => f _)⟩

set_option maxRecDepth 8000 in
set_option maxHeartbeats 4000000 in
theorem laws_heldFracS_w (a : List Frac) (k : Int) (Q : Int → Prop) (H : laws_heldFracS a k Q) (w : World) {vx : Value} {hx : PH} (r : RS hx vx a) (ex : Sub hx w) :
    CallsTo Try.prog 52 #[vx, I k] w fun v w' => ∃ r0, Q r0 ∧ v = I r0 ∧ Ext w w' := by
  obtain ⟨a1, c, rfl⟩ := r.shape
  refine enter (args := [.slice a1 (List.length a) c, I k]) 31 Try.func52 rfl rfl rfl ?_
  refine W_forget [(0, .slice a1 (List.length a) c), (1, I k)] ⟨rfl, rfl, trivial⟩ fun ρ => ?_
  have X := But.refl emp w
  refine W_seq ?_
  refine W_region ?_
  refine LP_ev ok 0 [(4, I 0)] 1 rfl rfl ?_
  refine LP_end _ rfl ?_
  refine W_seq ?_
  refine W_seq ?_
  refine W_region ?_
  refine LP_ev ok 0 [(5, I 0)] 1 rfl rfl ?_
  refine LP_end _ rfl ?_
  refine W_block ?_
  obtain ⟨J, m, Hx, H⟩ := H
  refine W_loop (S := Int × Int) (fun s ρ' w' => J s.1 s.2 ∧ ∃ (ρ : Env), ρ' = setAll [(0, .slice a1 (List.length a) c), (1, I s.1), (5, I s.2)] ρ ∧ w = w') (fun s => m s.1 s.2) (k, 0) ⟨Hx, _, env_eq ⟨rfl, rfl, rfl, trivial⟩, rfl⟩ ?_
  rintro ⟨k2, i⟩ _ _ ⟨Hi, ρ, rfl, rfl⟩
  have H := H k2 i Hi
  refine W_seq ?_
  refine W_seq ?_
  refine W_region ?_
  refine LP_ev ok 0 [(6, I i), (7, .slice a1 (List.length a) c), (8, I (ln a)), (9, .bool (decide (i < (ln a))))] 4 rfl rfl ?_
  refine LP_end _ rfl ?_
  refine W_cond (decide (i < (ln a))) rfl (fun hc => ?_) (fun hc => ?_)
  · have H := H.1 hc
    refine W_skip ?_
    refine W_seq ?_
    refine W_block ?_
    refine W_seq ?_
    refine W_seq ?_
    refine W_region ?_
    refine LP_ev ok 0 [(12, .slice a1 (List.length a) c), (13, I i)] 2 rfl rfl ?_
    obtain ⟨x, hi, hx3, H⟩ := H
    refine LP_index 2 rfl rfl rfl Try.underlying44 ti_34 rfl rfl r hi hx3 fun a4 cs r5 d => ?_
    refine LP_ev ok 3 [(15, .pointer (some (Addr.add a4 0)))] 4 rfl rfl ?_
    refine LP_ldfld (x := x) (off := 0) 4 (v := I x.Num) rfl rfl rfl ti_3 ag_3 (fun _ => rfl) rfl r5 d ex rfl rfl ?_
    refine LP_ev ok 5 [(17, I k2), (18, .bool (x.Num != k2))] 7 rfl rfl ?_
    refine LP_end _ rfl ?_
    refine W_cond (x.Num != k2) rfl (fun hc6 => ?_) (fun hc6 => ?_)
    · have H := H.1 hc6
      refine W_seq ?_
      refine W_region ?_
      refine LP_ev ok 0 [(4, I ((-1)))] 1 rfl rfl ?_
      refine LP_end _ rfl ?_
      refine W_ret ?_
      exact ⟨_, Ret_of [I ((-1))] ⟨⟨rfl, rfl⟩, trivial⟩, _, H, rfl, X.ext⟩
    have H := H.2 hc6
    refine W_skip ?_
    refine W_seq ?_
    refine W_region ?_
    refine LP_ev ok 0 [(19, I k2), (20, I (wr (k2 + 1))), (1, I (wr (k2 + 1)))] 3 rfl rfl ?_
    refine LP_end _ rfl ?_
    refine W_seq ?_
    refine W_seq ?_
    refine W_region ?_
    refine LP_ev ok 0 [(21, .slice a1 (List.length a) c), (22, I i)] 2 rfl rfl ?_
    obtain ⟨x7, hi8, hx9, H⟩ := H
    refine LP_index 2 rfl rfl rfl Try.underlying44 ti_34 rfl rfl r hi8 hx9 fun a10 cs11 r12 d13 => ?_
    refine LP_ev ok 3 [(24, .pointer (some (Addr.add a10 1)))] 4 rfl rfl ?_
    refine LP_ldfld (x := x7) (off := 1) 4 (v := I x7.Den) rfl rfl rfl ti_3 ag_3 (fun _ => rfl) rfl r12 d13 ex rfl rfl ?_
    refine LP_ev ok 5 [(26, I (wr (k2 + 1))), (27, .bool (x7.Den != (wr (k2 + 1))))] 7 rfl rfl ?_
    refine LP_end _ rfl ?_
    refine W_cond (x7.Den != (wr (k2 + 1))) rfl (fun hc14 => ?_) (fun hc14 => ?_)
    · have H := H.1 hc14
      refine W_seq ?_
      refine W_region ?_
      refine LP_ev ok 0 [(4, I ((-1)))] 1 rfl rfl ?_
      refine LP_end _ rfl ?_
      refine W_ret ?_
      exact ⟨_, Ret_of [I ((-1))] ⟨⟨rfl, rfl⟩, trivial⟩, _, H, rfl, X.ext⟩
    have H := H.2 hc14
    refine W_skip ?_
    refine W_region ?_
    refine LP_ev ok 0 [(28, I (wr (k2 + 1))), (29, I (wr ((wr (k2 + 1)) + 1))), (1, I (wr ((wr (k2 + 1)) + 1)))] 3 rfl rfl ?_
    refine LP_end _ rfl ?_
    refine W_region ?_
    refine LP_ev ok 0 [(10, I i), (11, I (wr (i + 1))), (5, I (wr (i + 1)))] 3 rfl rfl ?_
    refine LP_end _ rfl ?_
    try refine W_forget [(0, .slice a1 (List.length a) c), (1, I (wr ((wr (k2 + 1)) + 1))), (5, I (wr (i + 1)))] ⟨rfl, rfl, rfl, trivial⟩ fun ρ => ?_
    exact ⟨(wr ((wr (k2 + 1)) + 1), wr (i + 1)), ⟨H.1, _, env_eq ⟨rfl, rfl, rfl, trivial⟩, rfl⟩, H.2⟩
  have H := H.2 hc
  refine W_exit ?_
  refine (if_pos rfl).mpr ?_
  refine W_seq ?_
  refine W_region ?_
  refine LP_ev ok 0 [(30, I k2), (4, I k2)] 2 rfl rfl ?_
  refine LP_end _ rfl ?_
  refine W_ret ?_
  exact ⟨_, Ret_of [I k2] ⟨⟨rfl, rfl⟩, trivial⟩, _, H, rfl, X.ext⟩

set_option maxRecDepth 8000 in
set_option maxHeartbeats 4000000 in
theorem laws_FnExactCountShares_w (aCounts : List Int) (Q : Bool → Prop) (H : laws_FnExactCountShares aCounts Q) (w : World) {vx : Value} {hx : PH} (r : RS hx vx aCounts) (ex : Sub hx w) :
    CallsTo Try.prog 11 #[vx] w fun v w' => ∃ r0, Q r0 ∧ v = .bool r0 ∧ Ext w w' := by
  obtain ⟨a, c, rfl⟩ := r.shape
  refine enter (args := [.slice a (List.length aCounts) c]) 93 Try.func11 rfl rfl rfl ?_
  refine W_forget [(0, .slice a (List.length aCounts) c)] ⟨rfl, trivial⟩ fun ρ => ?_
  have X := But.refl emp w
  refine W_seq ?_
  refine W_region ?_
  refine LP_ev ok 0 [(2, .bool false)] 1 rfl rfl ?_
  refine LP_end _ rfl ?_
  refine W_seq ?_
  refine W_seq ?_
  refine W_region ?_
  refine LP_ev ok 0 [(13, .slice a (List.length aCounts) c), (14, I (ln aCounts)), (15, .bool (decide ((ln aCounts) > 1048576)))] 3 rfl rfl ?_
  refine LP_end _ rfl ?_
  refine W_cond (decide ((ln aCounts) > 1048576)) rfl (fun hc => ?_) (fun hc => ?_)
  · have H := H.1 hc
    refine W_seq ?_
    refine W_region ?_
    refine LP_ev ok 0 [(2, .bool true)] 1 rfl rfl ?_
    refine LP_end _ rfl ?_
    refine W_ret ?_
    exact ⟨_, Ret_of [.bool true] ⟨⟨rfl, rfl⟩, trivial⟩, _, H, rfl, X.ext⟩
  have H := H.2 hc
  refine W_skip ?_
  refine W_seq ?_
  refine W_region ?_
  refine LP_ev ok 0 [(17, .slice a (List.length aCounts) c)] 1 rfl rfl ?_
  refine LP_call 1 rfl rfl rfl cal_26 rfl (laws_toIntS_w _ _ H w r ex) ?_
  rintro _ wx ⟨r1, vx2, hx3, H, rfl, x, o, ex4, f⟩
  obtain ⟨a5, c6, rfl⟩ := o.shape
  refine LP_call 2 rfl rfl rfl cal_50 rfl (spec_CountShares_w _ _ H wx o.readf ex4) ?_
  rintro _ wx9 ⟨r7, r8, vx11, hx12, H, rfl, x10, o13, ex14, f15⟩
  obtain ⟨a16, c17, rfl⟩ := o13.shape
  refine LP_ev ok 3 [(16, .tuple #[.slice a16 (List.length r7) c17, .bool r8]), (20, .slice a16 (List.length r7) c17), (21, .bool r8), (3, .slice a16 (List.length r7) c17), (4, .bool r8)] 8 rfl rfl ?_
  refine LP_end _ rfl ?_
  refine W_seq ?_
  refine W_region ?_
  refine LP_ev ok 0 [(22, .slice a (List.length aCounts) c)] 1 rfl rfl ?_
  have ex19 := ((ex.ext x).ext x10)
  refine LP_call 1 rfl rfl rfl cal_26 rfl (laws_toIntS_w _ _ H wx9 r ex19) ?_
  rintro _ wx20 ⟨r18, vx22, hx23, H, rfl, x21, o24, ex25, f26⟩
  obtain ⟨a27, c28, rfl⟩ := o24.shape
  refine LP_ev ok 2 [(5, .slice a27 (List.length r18) c28)] 3 rfl rfl ?_
  refine LP_end _ rfl ?_
  refine W_seq ?_
  refine W_region ?_
  refine LP_ev ok 0 [(25, .slice a27 (List.length r18) c28)] 1 rfl rfl ?_
  refine LP_call 1 rfl rfl rfl cal_51 rfl (impl_CountShares_w _ _ H wx20 o24.readf ex25) ?_
  rintro _ wx31 ⟨r29, r30, vx33, hx34, H, rfl, x32, o35, ex36, f37⟩
  obtain ⟨a38, c39, rfl⟩ := o35.shape
  refine LP_ev ok 2 [(24, .tuple #[.slice a38 (List.length r29) c39, .bool r30]), (27, .slice a38 (List.length r29) c39), (28, .bool r30), (6, .slice a38 (List.length r29) c39), (7, .bool r30)] 7 rfl rfl ?_
  refine LP_end _ rfl ?_
  refine W_seq ?_
  obtain ⟨k, hk, H⟩ := jn_elim H
  refine W_join2 (S := Bool) (fun s ρ' w' => k s ∧ ∃ (ρ : Env), ρ' = setAll [(0, .slice a (List.length aCounts) c), (3, .slice a16 (List.length r7) c17), (4, .bool r8), (5, .slice a27 (List.length r18) c28), (6, .slice a38 (List.length r29) c39), (7, .bool r30), (37, .bool s)] ρ ∧ But emp w w' ∧ Sub hx w' ∧ Sub hx12 w' ∧ Sub hx23 w' ∧ Sub hx34 w') ?_ ?_
  · refine W_region ?_
    refine LP_ev ok 0 [(29, .slice a38 (List.length r29) c39), (30, .slice a16 (List.length r7) c17)] 2 rfl rfl ?_
    have ex48 := ((ex14.ext x21).ext x32)
    refine LP_call 2 rfl rfl rfl cal_38 rfl (laws_eqFracS_w _ _ _ H wx31 o35.readf ex36 o13.readf ex48) ?_
    rintro _ wx49 ⟨r47, H, rfl, x50⟩
    refine LP_ev ok 3 [(32, .bool (!r47)), (33, .bool (!r47))] 5 rfl rfl ?_
    refine LP_split 33 (!r47) rfl (fun hc51 => ?_) (fun hc51 => ?_)
    · have H := H.1 hc51
      refine LP_ev ok 5 [(34, undef), (35, undef), (36, undef), (37, .bool true)] 9 rfl rfl ?_
      refine LP_end _ rfl ?_
      try refine W_forget [(0, .slice a (List.length aCounts) c), (3, .slice a16 (List.length r7) c17), (4, .bool r8), (5, .slice a27 (List.length r18) c28), (6, .slice a38 (List.length r29) c39), (7, .bool r30), (37, .bool true)] ⟨rfl, rfl, rfl, rfl, rfl, rfl, rfl, trivial⟩ fun ρ => ?_
      have X52 := (((((X.stepx x).stepx x10).stepx x21).stepx x32).stepx x50)
      have ex53 := (((ex19.ext x21).ext x32).ext x50)
      have ex54 := (ex48.ext x50)
      have ex55 := ((ex25.ext x32).ext x50)
      have ex56 := (ex36.ext x50)
      exact ⟨true, H, _, env_eq ⟨rfl, rfl, rfl, rfl, rfl, rfl, rfl, trivial⟩, X52, ex53, ex54, ex55, ex56⟩
    have H := H.2 hc51
    refine LP_ev ok 5 [(34, .bool r30), (35, .bool r8), (36, .bool (r30 != r8)), (37, .bool (r30 != r8))] 9 rfl rfl ?_
    refine LP_end _ rfl ?_
    try refine W_forget [(0, .slice a (List.length aCounts) c), (3, .slice a16 (List.length r7) c17), (4, .bool r8), (5, .slice a27 (List.length r18) c28), (6, .slice a38 (List.length r29) c39), (7, .bool r30), (37, .bool (r30 != r8))] ⟨rfl, rfl, rfl, rfl, rfl, rfl, rfl, trivial⟩ fun ρ => ?_
    have X57 := (((((X.stepx x).stepx x10).stepx x21).stepx x32).stepx x50)
    have ex58 := (((ex19.ext x21).ext x32).ext x50)
    have ex59 := (ex48.ext x50)
    have ex60 := ((ex25.ext x32).ext x50)
    have ex61 := (ex36.ext x50)
    exact ⟨r30 != r8, H, _, env_eq ⟨rfl, rfl, rfl, rfl, rfl, rfl, rfl, trivial⟩, X57, ex58, ex59, ex60, ex61⟩
  rintro x40 _ wx41 ⟨H, ρ, rfl, X46, ex42, ex43, ex44, ex45⟩
  subst hk
  refine W_cond (x40) rfl (fun hc62 => ?_) (fun hc62 => ?_)
  · have H := H.1 hc62
    refine W_seq ?_
    refine W_region ?_
    refine LP_ev ok 0 [(2, .bool false)] 1 rfl rfl ?_
    refine LP_end _ rfl ?_
    refine W_ret ?_
    exact ⟨_, Ret_of [.bool false] ⟨⟨rfl, rfl⟩, trivial⟩, _, H, rfl, X46.ext⟩
  have H := H.2 hc62
  refine W_skip ?_
  refine W_seq ?_
  refine W_seq ?_
  refine W_region ?_
  refine LP_ev ok 0 [(38, .slice a27 (List.length r18) c28), (39, .slice a (List.length aCounts) c)] 2 rfl rfl ?_
  refine LP_call 2 rfl rfl rfl cal_26 rfl (laws_toIntS_w _ _ H wx41 r ex42) ?_
  rintro _ wx64 ⟨r63, vx66, hx67, H, rfl, x65, o68, ex69, f70⟩
  obtain ⟨a71, c72, rfl⟩ := o68.shape
  have ex74 := (ex44.ext x65)
  refine LP_call 3 rfl rfl rfl cal_22 rfl (laws_eqIntS_w _ _ _ H wx64 o24.readf ex74 o68.readf ex69) ?_
  rintro _ wx75 ⟨r73, H, rfl, x76⟩
  refine LP_ev ok 4 [(42, .bool (!r73))] 5 rfl rfl ?_
  refine LP_end _ rfl ?_
  refine W_cond (!r73) rfl (fun hc77 => ?_) (fun hc77 => ?_)
  · have H := H.1 hc77
    refine W_seq ?_
    refine W_region ?_
    refine LP_ev ok 0 [(2, .bool false)] 1 rfl rfl ?_
    refine LP_end _ rfl ?_
    refine W_ret ?_
    have X78 := ((X46.stepx x65).stepx x76)
    exact ⟨_, Ret_of [.bool false] ⟨⟨rfl, rfl⟩, trivial⟩, _, H, rfl, X78.ext⟩
  have H := H.2 hc77
  refine W_skip ?_
  refine W_seq ?_
  refine W_region ?_
  refine LP_ev ok 0 [(8, I 1)] 1 rfl rfl ?_
  refine LP_end _ rfl ?_
  refine W_seq ?_
  refine W_region ?_
  refine LP_ev ok 0 [(43, .slice a27 (List.length r18) c28), (44, I 1)] 2 rfl rfl ?_
  have ex81 := (ex74.ext x76)
  refine LP_call 2 rfl rfl rfl cal_23 rfl (laws_markIntS_w _ _ _ H wx75 o24 ex81) ?_
  rintro _ wx82 ⟨r79, r80, hx84, H, rfl, x83, o85, ex86, dm⟩
  refine LP_ev ok 3 [(8, I r79)] 4 rfl rfl ?_
  refine LP_end _ rfl ?_
  refine W_seq ?_
  obtain ⟨k95, hk96, H⟩ := jn_elim H
  refine W_join2 (S := Bool) (fun s ρ' w' => k95 s ∧ ∃ (ρ : Env), ρ' = setAll [(0, .slice a (List.length aCounts) c), (3, .slice a16 (List.length r7) c17), (4, .bool r8), (6, .slice a38 (List.length r29) c39), (58, .bool s)] ρ ∧ But emp w w' ∧ Sub hx w' ∧ Sub hx12 w' ∧ Sub hx34 w') ?_ ?_
  · refine W_region ?_
    refine LP_ev ok 0 [(46, I r79), (47, .bool (decide (r79 < 0))), (48, .bool (decide (r79 < 0)))] 3 rfl rfl ?_
    refine LP_split 48 (decide (r79 < 0)) rfl (fun hc97 => ?_) (fun hc97 => ?_)
    · have H := H.1 hc97
      refine LP_ev ok 3 [(49, undef), (50, undef), (51, undef), (52, undef), (53, .bool true), (54, .bool true), (55, undef), (56, undef), (57, undef), (58, .bool true)] 13 rfl rfl ?_
      refine LP_end _ rfl ?_
      have X99 := ((X.stepx x).stepx x10)
      have f98 := f26.mono X99.size
      have X100 := (((X46.stepx x65).stepx x76).step x83 (f98.dom _))
      have ex101 := (((ex42.ext x65).ext x76).but x83 (Dj.of_fresh ex19 f26).symm)
      have ex102 := (((ex43.ext x65).ext x76).but x83 (Dj.of_fresh ex14 f26).symm)
      have ex103 := (((ex45.ext x65).ext x76).but x83 (Dj.of_fresh ex25 f37))
      exact ⟨true, H, _, env_eq ⟨rfl, rfl, rfl, rfl, rfl, trivial⟩, X100, ex101, ex102, ex103⟩
    have H := H.2 hc97
    refine LP_ev ok 3 [(49, .slice a38 (List.length r29) c39), (50, .slice a16 (List.length r7) c17)] 5 rfl rfl ?_
    have ex105 := (((ex45.ext x65).ext x76).but x83 (Dj.of_fresh ex25 f37))
    have ex106 := (((ex43.ext x65).ext x76).but x83 (Dj.of_fresh ex14 f26).symm)
    refine LP_call 5 rfl rfl rfl cal_38 rfl (laws_eqFracS_w _ _ _ H wx82 o35.readf ex105 o13.readf ex106) ?_
    rintro _ wx107 ⟨r104, H, rfl, x108⟩
    refine LP_ev ok 6 [(52, .bool (!r104)), (53, .bool (!r104)), (54, .bool (!r104))] 9 rfl rfl ?_
    refine LP_split 54 (!r104) rfl (fun hc109 => ?_) (fun hc109 => ?_)
    · have H := H.1 hc109
      refine LP_ev ok 9 [(55, undef), (56, undef), (57, undef), (58, .bool true)] 13 rfl rfl ?_
      refine LP_end _ rfl ?_
      have X111 := ((X.stepx x).stepx x10)
      have f110 := f26.mono X111.size
      have X112 := ((((X46.stepx x65).stepx x76).step x83 (f110.dom _)).stepx x108)
      have ex113 := ((((ex42.ext x65).ext x76).but x83 (Dj.of_fresh ex19 f26).symm).ext x108)
      have ex114 := (ex106.ext x108)
      have ex115 := (ex105.ext x108)
      exact ⟨true, H, _, env_eq ⟨rfl, rfl, rfl, rfl, rfl, trivial⟩, X112, ex113, ex114, ex115⟩
    have H := H.2 hc109
    refine LP_ev ok 9 [(55, .bool r30), (56, .bool r8), (57, .bool (r30 != r8)), (58, .bool (r30 != r8))] 13 rfl rfl ?_
    refine LP_end _ rfl ?_
    have X117 := ((X.stepx x).stepx x10)
    have f116 := f26.mono X117.size
    have X118 := ((((X46.stepx x65).stepx x76).step x83 (f116.dom _)).stepx x108)
    have ex119 := ((((ex42.ext x65).ext x76).but x83 (Dj.of_fresh ex19 f26).symm).ext x108)
    have ex120 := (ex106.ext x108)
    have ex121 := (ex105.ext x108)
    exact ⟨r30 != r8, H, _, env_eq ⟨rfl, rfl, rfl, rfl, rfl, trivial⟩, X118, ex119, ex120, ex121⟩
  rintro x89 _ wx90 ⟨H, ρ, rfl, X94, ex91, ex92, ex93⟩
  subst hk96
  refine W_cond (x89) rfl (fun hc122 => ?_) (fun hc122 => ?_)
  · have H := H.1 hc122
    refine W_seq ?_
    refine W_region ?_
    refine LP_ev ok 0 [(2, .bool false)] 1 rfl rfl ?_
    refine LP_end _ rfl ?_
    refine W_ret ?_
    exact ⟨_, Ret_of [.bool false] ⟨⟨rfl, rfl⟩, trivial⟩, _, H, rfl, X94.ext⟩
  have H := H.2 hc122
  refine W_skip ?_
  refine W_seq ?_
  refine W_region ?_
  refine LP_ev ok 0 [(9, I 1)] 1 rfl rfl ?_
  refine LP_end _ rfl ?_
  refine W_seq ?_
  refine W_region ?_
  refine LP_ev ok 0 [(59, .slice a38 (List.length r29) c39), (60, I 1)] 2 rfl rfl ?_
  refine LP_call 2 rfl rfl rfl cal_49 rfl (laws_markFracS_w _ _ _ H wx90 o35 ex93) ?_
  rintro _ wx125 ⟨r123, r124, hx127, H, rfl, x126, o128, ex129, dm130⟩
  refine LP_ev ok 3 [(9, I r123)] 4 rfl rfl ?_
  refine LP_end _ rfl ?_
  refine W_seq ?_
  refine W_region ?_
  refine LP_ev ok 0 [(10, I 1)] 1 rfl rfl ?_
  refine LP_end _ rfl ?_
  refine W_seq ?_
  refine W_region ?_
  refine LP_ev ok 0 [(62, .slice a38 (List.length r29) c39), (63, I 1)] 2 rfl rfl ?_
  refine LP_call 2 rfl rfl rfl cal_52 rfl (laws_heldFracS_w _ _ _ H wx125 o128.readf ex129) ?_
  rintro _ wx135 ⟨r134, H, rfl, x136⟩
  refine LP_ev ok 3 [(10, I r134)] 4 rfl rfl ?_
  refine LP_end _ rfl ?_
  refine W_seq ?_
  refine W_seq ?_
  refine W_region ?_
  refine LP_ev ok 0 [(65, I r134), (66, .bool (decide (r134 < 0)))] 2 rfl rfl ?_
  refine LP_end _ rfl ?_
  refine W_cond (decide (r134 < 0)) rfl (fun hc137 => ?_) (fun hc137 => ?_)
  · have H := H.1 hc137
    refine W_seq ?_
    refine W_region ?_
    refine LP_ev ok 0 [(2, .bool false)] 1 rfl rfl ?_
    refine LP_end _ rfl ?_
    refine W_ret ?_
    have X139 := (((X.stepx x).stepx x10).stepx x21)
    have f138 := f37.mono X139.size
    have X140 := ((X94.step x126 (f138.dom _)).stepx x136)
    exact ⟨_, Ret_of [.bool false] ⟨⟨rfl, rfl⟩, trivial⟩, _, H, rfl, X140.ext⟩
  have H := H.2 hc137
  refine W_skip ?_
  refine W_seq ?_
  refine W_seq ?_
  refine W_region ?_
  refine LP_ev ok 0 [(67, I r134), (68, I r123), (69, .bool (r134 != r123))] 3 rfl rfl ?_
  refine LP_end _ rfl ?_
  refine W_cond (r134 != r123) rfl (fun hc141 => ?_) (fun hc141 => ?_)
  · have H := H.1 hc141
    refine W_seq ?_
    refine W_region ?_
    refine LP_ev ok 0 [(2, .bool false)] 1 rfl rfl ?_
    refine LP_end _ rfl ?_
    refine W_ret ?_
    have X143 := (((X.stepx x).stepx x10).stepx x21)
    have f142 := f37.mono X143.size
    have X144 := ((X94.step x126 (f142.dom _)).stepx x136)
    exact ⟨_, Ret_of [.bool false] ⟨⟨rfl, rfl⟩, trivial⟩, _, H, rfl, X144.ext⟩
  have H := H.2 hc141
  refine W_skip ?_
  refine W_seq ?_
  refine W_region ?_
  refine LP_ev ok 0 [(71, .slice a (List.length aCounts) c)] 1 rfl rfl ?_
  have ex146 := (ex19.ext x21)
  have ex147 := ((ex91.but x126 (Dj.of_fresh ex146 f37).symm).ext x136)
  refine LP_call 1 rfl rfl rfl cal_26 rfl (laws_toIntS_w _ _ H wx135 r ex147) ?_
  rintro _ wx148 ⟨r145, vx150, hx151, H, rfl, x149, o152, ex153, f154⟩
  obtain ⟨a155, c156, rfl⟩ := o152.shape
  refine LP_call 2 rfl rfl rfl cal_51 rfl (impl_CountShares_w _ _ H wx148 o152.readf ex153) ?_
  rintro _ wx159 ⟨r157, r158, vx161, hx162, H, rfl, x160, o163, ex164, f165⟩
  obtain ⟨a166, c167, rfl⟩ := o163.shape
  refine LP_ev ok 3 [(70, .tuple #[.slice a166 (List.length r157) c167, .bool r158]), (74, .slice a166 (List.length r157) c167), (75, .bool r158), (11, .slice a166 (List.length r157) c167), (12, .bool r158)] 8 rfl rfl ?_
  refine LP_end _ rfl ?_
  refine W_seq ?_
  obtain ⟨k172, hk173, H⟩ := jn_elim H
  refine W_join2 (S := Bool) (fun s ρ' w' => k172 s ∧ ∃ (ρ : Env), ρ' = setAll [(6, .slice a38 (List.length r29) c39), (9, I r123), (84, .bool s)] ρ ∧ But emp w w' ∧ Sub hx127 w') ?_ ?_
  · refine W_region ?_
    refine LP_ev ok 0 [(76, .slice a166 (List.length r157) c167), (77, .slice a16 (List.length r7) c17)] 2 rfl rfl ?_
    have ex175 := (ex14.ext x21)
    have ex176 := ((((ex92.but x126 (Dj.of_fresh ex175 f37).symm).ext x136).ext x149).ext x160)
    refine LP_call 2 rfl rfl rfl cal_38 rfl (laws_eqFracS_w _ _ _ H wx159 o163.readf ex164 o13.readf ex176) ?_
    rintro _ wx177 ⟨r174, H, rfl, x178⟩
    refine LP_ev ok 3 [(79, .bool (!r174)), (80, .bool (!r174))] 5 rfl rfl ?_
    refine LP_split 80 (!r174) rfl (fun hc179 => ?_) (fun hc179 => ?_)
    · have H := H.1 hc179
      refine LP_ev ok 5 [(81, undef), (82, undef), (83, undef), (84, .bool true)] 9 rfl rfl ?_
      refine LP_end _ rfl ?_
      try refine W_forget [(6, .slice a38 (List.length r29) c39), (9, I r123), (84, .bool true)] ⟨rfl, rfl, rfl, trivial⟩ fun ρ => ?_
      have X181 := (((X.stepx x).stepx x10).stepx x21)
      have f180 := f37.mono X181.size
      have X182 := (((((X94.step x126 (f180.dom _)).stepx x136).stepx x149).stepx x160).stepx x178)
      have ex183 := ((((ex129.ext x136).ext x149).ext x160).ext x178)
      exact ⟨true, H, _, env_eq ⟨rfl, rfl, rfl, trivial⟩, X182, ex183⟩
    have H := H.2 hc179
    refine LP_ev ok 5 [(81, .bool r158), (82, .bool r8), (83, .bool (r158 != r8)), (84, .bool (r158 != r8))] 9 rfl rfl ?_
    refine LP_end _ rfl ?_
    try refine W_forget [(6, .slice a38 (List.length r29) c39), (9, I r123), (84, .bool (r158 != r8))] ⟨rfl, rfl, rfl, trivial⟩ fun ρ => ?_
    have X185 := (((X.stepx x).stepx x10).stepx x21)
    have f184 := f37.mono X185.size
    have X186 := (((((X94.step x126 (f184.dom _)).stepx x136).stepx x149).stepx x160).stepx x178)
    have ex187 := ((((ex129.ext x136).ext x149).ext x160).ext x178)
    exact ⟨r158 != r8, H, _, env_eq ⟨rfl, rfl, rfl, trivial⟩, X186, ex187⟩
  rintro x168 _ wx169 ⟨H, ρ, rfl, X171, ex170⟩
  subst hk173
  refine W_cond (x168) rfl (fun hc188 => ?_) (fun hc188 => ?_)
  · have H := H.1 hc188
    refine W_seq ?_
    refine W_region ?_
    refine LP_ev ok 0 [(2, .bool false)] 1 rfl rfl ?_
    refine LP_end _ rfl ?_
    refine W_ret ?_
    exact ⟨_, Ret_of [.bool false] ⟨⟨rfl, rfl⟩, trivial⟩, _, H, rfl, X171.ext⟩
  have H := H.2 hc188
  refine W_skip ?_
  refine W_seq ?_
  refine W_region ?_
  refine LP_ev ok 0 [(10, I 1)] 1 rfl rfl ?_
  refine LP_end _ rfl ?_
  refine W_seq ?_
  refine W_region ?_
  refine LP_ev ok 0 [(85, .slice a38 (List.length r29) c39), (86, I 1)] 2 rfl rfl ?_
  refine LP_call 2 rfl rfl rfl cal_52 rfl (laws_heldFracS_w _ _ _ H wx169 o128.readf ex170) ?_
  rintro _ wx190 ⟨r189, H, rfl, x191⟩
  refine LP_ev ok 3 [(10, I r189)] 4 rfl rfl ?_
  refine LP_end _ rfl ?_
  refine W_seq ?_
  refine W_seq ?_
  refine W_region ?_
  refine LP_ev ok 0 [(88, I r189), (89, .bool (decide (r189 < 0)))] 2 rfl rfl ?_
  refine LP_end _ rfl ?_
  refine W_cond (decide (r189 < 0)) rfl (fun hc192 => ?_) (fun hc192 => ?_)
  · have H := H.1 hc192
    refine W_seq ?_
    refine W_region ?_
    refine LP_ev ok 0 [(2, .bool false)] 1 rfl rfl ?_
    refine LP_end _ rfl ?_
    refine W_ret ?_
    have X193 := (X171.stepx x191)
    exact ⟨_, Ret_of [.bool false] ⟨⟨rfl, rfl⟩, trivial⟩, _, H, rfl, X193.ext⟩
  have H := H.2 hc192
  refine W_skip ?_
  refine W_seq ?_
  refine W_seq ?_
  refine W_region ?_
  refine LP_ev ok 0 [(90, I r189), (91, I r123), (92, .bool (r189 != r123))] 3 rfl rfl ?_
  refine LP_end _ rfl ?_
  refine W_cond (r189 != r123) rfl (fun hc194 => ?_) (fun hc194 => ?_)
  · have H := H.1 hc194
    refine W_seq ?_
    refine W_region ?_
    refine LP_ev ok 0 [(2, .bool false)] 1 rfl rfl ?_
    refine LP_end _ rfl ?_
    refine W_ret ?_
    have X195 := (X171.stepx x191)
    exact ⟨_, Ret_of [.bool false] ⟨⟨rfl, rfl⟩, trivial⟩, _, H, rfl, X195.ext⟩
  have H := H.2 hc194
  refine W_skip ?_
  refine W_seq ?_
  refine W_region ?_
  refine LP_ev ok 0 [(2, .bool true)] 1 rfl rfl ?_
  refine LP_end _ rfl ?_
  refine W_ret ?_
  have X196 := (X171.stepx x191)
  exact ⟨_, Ret_of [.bool true] ⟨⟨rfl, rfl⟩, trivial⟩, _, H, rfl, X196.ext⟩

set_option maxRecDepth 8000 in
set_option maxHeartbeats 4000000 in
theorem spec_fInt_w (n : Int) (Q : Frac → Prop) (H : spec_fInt n Q) (w : World)  :
    CallsTo Try.prog 111 #[I n] w fun v w' => ∃ r0, Q r0 ∧ v = .agg #[I r0.Num, I r0.Den] ∧ Ext w w' := by
  refine enter (args := [I n]) 5 Try.func111 rfl rfl rfl ?_
  refine W_forget [(0, I n)] ⟨rfl, trivial⟩ fun ρ => ?_
  have X := But.refl emp w
  refine W_seq ?_
  refine W_region ?_
  refine LP_alloc 0 rfl rfl rfl ti_34 rfl fun b wx x ex f => ?_
  refine LP_end _ rfl ?_
  refine W_seq ?_
  refine W_region ?_
  refine LP_ev ok 0 [(3, I n), (4, .agg #[I n, I 1])] 2 rfl rfl ?_
  refine LP_stbox 2 (vs := [I n, I 1]) (cs' := [I n, I 1]) rfl rfl rfl ti_34 rfl rfl rfl rfl rfl ex rfl rfl fun wx1 ex2 y => ?_
  refine LP_end _ rfl ?_
  refine W_ret ?_
  have f3 := f.mono X.size
  have X4 := ((X.stepx x).step y (f3.dom _))
  exact ⟨_, Ret_of [.agg #[I n, I 1]] ⟨⟨_, rfl, rfl, ld_res ti_34 ag_34 (fun h => by cases h) ex2 rfl rfl⟩, trivial⟩, _, H, rfl, X4.ext⟩

set_option maxRecDepth 8000 in
set_option maxHeartbeats 4000000 in
theorem spec_fMul_w (a : Frac) (b : Frac) (Q : Frac → Bool → Prop) (H : spec_fMul a b Q) (w : World)  :
    CallsTo Try.prog 112 #[.agg #[I a.Num, I a.Den], .agg #[I b.Num, I b.Den]] w fun v w' => ∃ r0 r1, Q r0 r1 ∧ v = .tuple #[.agg #[I r0.Num, I r0.Den], .bool r1] ∧ Ext w w' := by
  refine enter (args := [.agg #[I a.Num, I a.Den], .agg #[I b.Num, I b.Den]]) 19 Try.func112 rfl rfl rfl ?_
  refine W_forget [(0, .agg #[I a.Num, I a.Den]), (1, .agg #[I b.Num, I b.Den])] ⟨rfl, rfl, trivial⟩ fun ρ => ?_
  have X := But.refl emp w
  refine W_seq ?_
  refine W_region ?_
  refine LP_box 0 (cs := [I a.Num, I a.Den]) rfl rfl rfl rfl rfl fun b1 wx x ex f => ?_
  refine LP_box 1 (cs := [I b.Num, I b.Den]) rfl rfl rfl rfl rfl fun b2 wx3 x4 ex5 f6 => ?_
  refine LP_alloc 2 rfl rfl rfl ti_34 rfl fun b7 wx8 x9 ex10 f11 => ?_
  refine LP_ev ok 3 [(5, .bool false)] 4 rfl rfl ?_
  refine LP_end _ rfl ?_
  refine W_seq ?_
  refine W_region ?_
  refine LP_ev ok 0 [(6, .pointer (some ⟨b1, 0, none⟩))] 1 rfl rfl ?_
  have ex12 := ((ex.ext x4).ext x9)
  refine LP_ldbox 1 (v := I a.Num) rfl rfl rfl ti_3 ag_3 (fun _ => rfl) rfl ex12 rfl rfl ?_
  refine LP_ev ok 2 [(8, .pointer (some ⟨b2, 0, none⟩))] 3 rfl rfl ?_
  have ex13 := (ex5.ext x9)
  refine LP_ldbox 3 (v := I b.Num) rfl rfl rfl ti_3 ag_3 (fun _ => rfl) rfl ex13 rfl rfl ?_
  refine LP_ev ok 4 [(10, I (wr (a.Num * b.Num))), (11, .pointer (some ⟨b1, 1, none⟩))] 6 rfl rfl ?_
  refine LP_ldbox 6 (v := I a.Den) rfl rfl rfl ti_3 ag_3 (fun _ => rfl) rfl ex12 rfl rfl ?_
  refine LP_ev ok 7 [(13, .pointer (some ⟨b2, 1, none⟩))] 8 rfl rfl ?_
  refine LP_ldbox 8 (v := I b.Den) rfl rfl rfl ti_3 ag_3 (fun _ => rfl) rfl ex13 rfl rfl ?_
  refine LP_ev ok 9 [(15, I (wr (a.Den * b.Den)))] 10 rfl rfl ?_
  refine LP_call 10 rfl rfl rfl cal_90 rfl (spec_fMake_w _ _ _ H wx8 ) ?_
  rintro _ wx15 ⟨r, r14, H, rfl, x16⟩
  refine LP_ev ok 11 [(17, .agg #[I r.Num, I r.Den]), (18, .bool r14)] 13 rfl rfl ?_
  have ex19 := (ex10.ext x16)
  refine LP_stbox 13 (vs := [I r.Num, I r.Den]) (cs' := [I r.Num, I r.Den]) rfl rfl rfl ti_34 rfl rfl rfl rfl rfl ex19 rfl rfl fun wx17 ex18 y => ?_
  refine LP_ev ok 14 [(5, .bool r14)] 15 rfl rfl ?_
  refine LP_end _ rfl ?_
  refine W_ret ?_
  have X21 := ((X.stepx x).stepx x4)
  have f20 := f11.mono X21.size
  have X22 := (((((X.stepx x).stepx x4).stepx x9).stepx x16).step y (f20.dom _))
  exact ⟨_, Ret_of [.agg #[I r.Num, I r.Den], .bool r14] ⟨⟨_, rfl, rfl, ld_res ti_34 ag_34 (fun h => by cases h) ex18 rfl rfl⟩, ⟨rfl, rfl⟩, trivial⟩, _, _, H, rfl, X22.ext⟩

set_option maxRecDepth 8000 in
set_option maxHeartbeats 4000000 in
theorem spec_fAdd_w (a : Frac) (b : Frac) (Q : Frac → Bool → Prop) (H : spec_fAdd a b Q) (w : World)  :
    CallsTo Try.prog 113 #[.agg #[I a.Num, I a.Den], .agg #[I b.Num, I b.Den]] w fun v w' => ∃ r0 r1, Q r0 r1 ∧ v = .tuple #[.agg #[I r0.Num, I r0.Den], .bool r1] ∧ Ext w w' := by
  refine enter (args := [.agg #[I a.Num, I a.Den], .agg #[I b.Num, I b.Den]]) 25 Try.func113 rfl rfl rfl ?_
  refine W_forget [(0, .agg #[I a.Num, I a.Den]), (1, .agg #[I b.Num, I b.Den])] ⟨rfl, rfl, trivial⟩ fun ρ => ?_
  have X := But.refl emp w
  refine W_seq ?_
  refine W_region ?_
  refine LP_box 0 (cs := [I a.Num, I a.Den]) rfl rfl rfl rfl rfl fun b1 wx x ex f => ?_
  refine LP_box 1 (cs := [I b.Num, I b.Den]) rfl rfl rfl rfl rfl fun b2 wx3 x4 ex5 f6 => ?_
  refine LP_alloc 2 rfl rfl rfl ti_34 rfl fun b7 wx8 x9 ex10 f11 => ?_
  refine LP_ev ok 3 [(5, .bool false)] 4 rfl rfl ?_
  refine LP_end _ rfl ?_
  refine W_seq ?_
  refine W_region ?_
  refine LP_ev ok 0 [(6, .pointer (some ⟨b1, 0, none⟩))] 1 rfl rfl ?_
  have ex12 := ((ex.ext x4).ext x9)
  refine LP_ldbox 1 (v := I a.Num) rfl rfl rfl ti_3 ag_3 (fun _ => rfl) rfl ex12 rfl rfl ?_
  refine LP_ev ok 2 [(8, .pointer (some ⟨b2, 1, none⟩))] 3 rfl rfl ?_
  have ex13 := (ex5.ext x9)
  refine LP_ldbox 3 (v := I b.Den) rfl rfl rfl ti_3 ag_3 (fun _ => rfl) rfl ex13 rfl rfl ?_
  refine LP_ev ok 4 [(10, I (wr (a.Num * b.Den))), (11, .pointer (some ⟨b2, 0, none⟩))] 6 rfl rfl ?_
  refine LP_ldbox 6 (v := I b.Num) rfl rfl rfl ti_3 ag_3 (fun _ => rfl) rfl ex13 rfl rfl ?_
  refine LP_ev ok 7 [(13, .pointer (some ⟨b1, 1, none⟩))] 8 rfl rfl ?_
  refine LP_ldbox 8 (v := I a.Den) rfl rfl rfl ti_3 ag_3 (fun _ => rfl) rfl ex12 rfl rfl ?_
  refine LP_ev ok 9 [(15, I (wr (b.Num * a.Den))), (16, I (wr ((wr (a.Num * b.Den)) + (wr (b.Num * a.Den))))), (17, .pointer (some ⟨b1, 1, none⟩))] 12 rfl rfl ?_
  refine LP_ldbox 12 (v := I a.Den) rfl rfl rfl ti_3 ag_3 (fun _ => rfl) rfl ex12 rfl rfl ?_
  refine LP_ev ok 13 [(19, .pointer (some ⟨b2, 1, none⟩))] 14 rfl rfl ?_
  refine LP_ldbox 14 (v := I b.Den) rfl rfl rfl ti_3 ag_3 (fun _ => rfl) rfl ex13 rfl rfl ?_
  refine LP_ev ok 15 [(21, I (wr (a.Den * b.Den)))] 16 rfl rfl ?_
  refine LP_call 16 rfl rfl rfl cal_90 rfl (spec_fMake_w _ _ _ H wx8 ) ?_
  rintro _ wx15 ⟨r, r14, H, rfl, x16⟩
  refine LP_ev ok 17 [(23, .agg #[I r.Num, I r.Den]), (24, .bool r14)] 19 rfl rfl ?_
  have ex19 := (ex10.ext x16)
  refine LP_stbox 19 (vs := [I r.Num, I r.Den]) (cs' := [I r.Num, I r.Den]) rfl rfl rfl ti_34 rfl rfl rfl rfl rfl ex19 rfl rfl fun wx17 ex18 y => ?_
  refine LP_ev ok 20 [(5, .bool r14)] 21 rfl rfl ?_
  refine LP_end _ rfl ?_
  try refine W_forget [(4, .pointer (some ⟨b7, 0, none⟩)), (5, .bool r14)] ⟨rfl, rfl, trivial⟩ fun ρ => ?_
  refine W_ret ?_
  have X21 := ((X.stepx x).stepx x4)
  have f20 := f11.mono X21.size
  have X22 := (((((X.stepx x).stepx x4).stepx x9).stepx x16).step y (f20.dom _))
  exact ⟨_, Ret_of [.agg #[I r.Num, I r.Den], .bool r14] ⟨⟨_, rfl, rfl, ld_res ti_34 ag_34 (fun h => by cases h) ex18 rfl rfl⟩, ⟨rfl, rfl⟩, trivial⟩, _, _, H, rfl, X22.ext⟩

set_option maxRecDepth 8000 in
set_option maxHeartbeats 4000000 in
theorem spec_ConcentrationOf_w (counts : List Int) (Q : Frac → Bool → Prop) (H : spec_ConcentrationOf counts Q) (w : World) {vx : Value} {hx : PH} (r : RS hx vx counts) (ex : Sub hx w) :
    CallsTo Try.prog 53 #[vx] w fun v w' => ∃ r0 r1, Q r0 r1 ∧ v = .tuple #[.agg #[I r0.Num, I r0.Den], .bool r1] ∧ Ext w w' := by
  obtain ⟨a, c, rfl⟩ := r.shape
  refine enter (args := [.slice a (List.length counts) c]) 53 Try.func53 rfl rfl rfl ?_
  refine W_forget [(0, .slice a (List.length counts) c)] ⟨rfl, trivial⟩ fun ρ => ?_
  have X := But.refl emp w
  refine W_seq ?_
  refine W_region ?_
  refine LP_alloc 0 rfl rfl rfl ti_34 rfl fun b wx x ex1 f => ?_
  refine LP_ev ok 1 [(3, .bool false)] 2 rfl rfl ?_
  refine LP_end _ rfl ?_
  refine W_seq ?_
  refine W_seq ?_
  refine W_region ?_
  refine LP_ev ok 0 [(13, .slice a (List.length counts) c)] 1 rfl rfl ?_
  have ex3 := (ex.ext x)
  refine LP_call 1 rfl rfl rfl cal_88 rfl (spec_oCounts_w _ _ H wx r ex3) ?_
  rintro _ wx4 ⟨r2, H, rfl, x5⟩
  refine LP_ev ok 2 [(15, .bool (!r2))] 3 rfl rfl ?_
  refine LP_end _ rfl ?_
  refine W_cond (!r2) rfl (fun hc => ?_) (fun hc => ?_)
  · have H := H.1 hc
    refine W_seq ?_
    refine W_region ?_
    refine LP_ev ok 0 [(16, .agg #[I 0, I 0])] 1 rfl rfl ?_
    have ex8 := (ex1.ext x5)
    refine LP_stbox 1 (vs := [I 0, I 0]) (cs' := [I 0, I 0]) rfl rfl rfl ti_34 rfl rfl rfl rfl rfl ex8 rfl rfl fun wx6 ex7 y => ?_
    refine LP_ev ok 2 [(3, .bool false)] 3 rfl rfl ?_
    refine LP_end _ rfl ?_
    refine W_ret ?_
    have f9 := f.mono X.size
    have X10 := (((X.stepx x).stepx x5).step y (f9.dom _))
    exact ⟨_, Ret_of [.agg #[I 0, I 0], .bool false] ⟨⟨_, rfl, rfl, ld_res ti_34 ag_34 (fun h => by cases h) ex7 rfl rfl⟩, ⟨rfl, rfl⟩, trivial⟩, _, _, H, rfl, X10.ext⟩
  have H := H.2 hc
  refine W_skip ?_
  refine W_seq ?_
  refine W_region ?_
  refine LP_ev ok 0 [(18, .slice a (List.length counts) c)] 1 rfl rfl ?_
  have ex13 := (ex3.ext x5)
  refine LP_call 1 rfl rfl rfl cal_109 rfl (spec_oShares_w _ _ H wx4 r ex13) ?_
  rintro _ wx14 ⟨r11, r12, vx16, hx17, H, rfl, x15, o, ex18, f19⟩
  obtain ⟨a20, c21, rfl⟩ := o.shape
  refine LP_ev ok 2 [(17, .tuple #[.slice a20 (List.length r11) c21, .bool r12]), (20, .slice a20 (List.length r11) c21), (21, .bool r12), (4, .slice a20 (List.length r11) c21), (5, .bool r12)] 7 rfl rfl ?_
  refine LP_end _ rfl ?_
  refine W_seq ?_
  refine W_seq ?_
  refine W_region ?_
  refine LP_ev ok 0 [(22, .bool r12), (23, .bool (!r12))] 2 rfl rfl ?_
  refine LP_end _ rfl ?_
  refine W_cond (!r12) rfl (fun hc22 => ?_) (fun hc22 => ?_)
  · have H := H.1 hc22
    refine W_seq ?_
    refine W_region ?_
    refine LP_ev ok 0 [(24, .agg #[I 0, I 0])] 1 rfl rfl ?_
    have ex26 := ((ex1.ext x5).ext x15)
    refine LP_stbox 1 (vs := [I 0, I 0]) (cs' := [I 0, I 0]) rfl rfl rfl ti_34 rfl rfl rfl rfl rfl ex26 rfl rfl fun wx23 ex24 y25 => ?_
    refine LP_ev ok 2 [(3, .bool false)] 3 rfl rfl ?_
    refine LP_end _ rfl ?_
    refine W_ret ?_
    have f27 := f.mono X.size
    have X28 := ((((X.stepx x).stepx x5).stepx x15).step y25 (f27.dom _))
    exact ⟨_, Ret_of [.agg #[I 0, I 0], .bool false] ⟨⟨_, rfl, rfl, ld_res ti_34 ag_34 (fun h => by cases h) ex24 rfl rfl⟩, ⟨rfl, rfl⟩, trivial⟩, _, _, H, rfl, X28.ext⟩
  have H := H.2 hc22
  refine W_skip ?_
  refine W_seq ?_
  refine W_region ?_
  refine LP_call 0 rfl rfl rfl cal_111 rfl (spec_fInt_w _ _ H wx14 ) ?_
  rintro _ wx30 ⟨r29, H, rfl, x31⟩
  refine LP_alloc 1 rfl rfl rfl ti_34 rfl fun b32 wx33 x34 ex35 f36 => ?_
  refine LP_stbox 2 (vs := [I r29.Num, I r29.Den]) (cs' := [I r29.Num, I r29.Den]) rfl rfl rfl ti_34 rfl rfl rfl rfl rfl ex35 rfl rfl fun wx37 ex38 y39 => ?_
  refine LP_end _ rfl ?_
  refine W_seq ?_
  refine W_seq ?_
  refine W_region ?_
  refine LP_ev ok 0 [(26, .slice a20 (List.length r11) c21), (27, I (ln r11)), (28, I 0)] 3 rfl rfl ?_
  refine LP_end _ rfl ?_
  refine W_block ?_
  obtain ⟨J, m, Hx, H⟩ := H
  have X47 := ((((X.stepx x).stepx x5).stepx x15).stepx x31)
  have f46 := f36.mono X47.size
  have X48 := ((((((X.stepx x).stepx x5).stepx x15).stepx x31).stepx x34).step y39 (f46.dom _))
  have ex49 := (((ex1.ext x5).ext x15).ext x31)
  have ex50 := (((((ex1.ext x5).ext x15).ext x31).ext x34).but y39 (Dj.of_fresh ex49 f36).symm)
  have ex51 := (ex18.ext x31)
  have ex52 := (((ex18.ext x31).ext x34).but y39 (Dj.of_fresh ex51 f36).symm)
  refine W_loop (S := Int × Int × Int) (fun s ρ' w' => J s.1 s.2.1 s.2.2 ∧ ∃ (ρ : Env), ρ' = setAll [(2, .pointer (some ⟨b, 0, none⟩)), (6, .pointer (some ⟨b32, 0, none⟩)), (26, .slice a20 (List.length r11) c21), (27, I (ln r11)), (28, I s.1)] ρ ∧ But emp w w' ∧ Sub (bx b 34 [I 0, I 0]) w' ∧ Sub hx17 w' ∧ Sub (bx b32 34 [I s.2.1, I s.2.2]) w') (fun s => m s.1 s.2.1 s.2.2) (0, r29.Num, r29.Den) ⟨Hx, _, env_eq ⟨rfl, rfl, rfl, rfl, rfl, trivial⟩, X48, ex50, ex52, ex38⟩ ?_
  rintro ⟨x40, num, den⟩ _ wx41 ⟨Hi, ρ, rfl, X45, ex42, ex43, ex44⟩
  have H := H x40 num den Hi
  refine W_seq ?_
  refine W_region ?_
  refine LP_ev ok 0 [(29, .bool (decide (x40 < (ln r11))))] 1 rfl rfl ?_
  refine LP_end _ rfl ?_
  refine W_seq ?_
  refine W_cond (decide (x40 < (ln r11))) rfl (fun hc53 => ?_) (fun hc53 => ?_)
  · have H := H.1 hc53
    refine W_skip ?_
    refine W_seq ?_
    refine W_block ?_
    refine W_seq ?_
    refine W_region ?_
    obtain ⟨x54, hi, hx55, H⟩ := H
    refine LP_index 0 rfl rfl rfl Try.underlying44 ti_34 rfl rfl o.readf hi hx55 fun a56 cs r57 d => ?_
    refine LP_load 1 rfl rfl rfl ti_34 ag_34 rfl r57 d ex43 fun vx58 r59 => ?_
    obtain rfl := Frac_rv r59
    refine LP_alloc 2 rfl rfl rfl ti_34 rfl fun b60 wx61 x62 ex63 f64 => ?_
    refine LP_stbox 3 (vs := [I x54.Num, I x54.Den]) (cs' := [I x54.Num, I x54.Den]) rfl rfl rfl ti_34 rfl rfl rfl rfl rfl ex63 rfl rfl fun wx65 ex66 y67 => ?_
    refine LP_end _ rfl ?_
    refine W_seq ?_
    refine W_region ?_
    refine LP_ldbox 0 (v := .agg #[I x54.Num, I x54.Den]) rfl rfl rfl ti_34 ag_34 (fun h => by cases h) rfl ex66 rfl rfl ?_
    refine LP_ldbox 1 (v := .agg #[I x54.Num, I x54.Den]) rfl rfl rfl ti_34 ag_34 (fun h => by cases h) rfl ex66 rfl rfl ?_
    refine LP_call 2 rfl rfl rfl cal_112 rfl (spec_fMul_w _ _ _ H wx65 ) ?_
    rintro _ wx70 ⟨r68, r69, H, rfl, x71⟩
    refine LP_ev ok 3 [(32, .tuple #[.agg #[I r68.Num, I r68.Den], .bool r69]), (36, .agg #[I r68.Num, I r68.Den]), (37, .bool r69)] 6 rfl rfl ?_
    refine LP_alloc 6 rfl rfl rfl ti_34 rfl fun b72 wx73 x74 ex75 f76 => ?_
    refine LP_stbox 7 (vs := [I r68.Num, I r68.Den]) (cs' := [I r68.Num, I r68.Den]) rfl rfl rfl ti_34 rfl rfl rfl rfl rfl ex75 rfl rfl fun wx77 ex78 y79 => ?_
    refine LP_ev ok 8 [(10, .bool r69)] 9 rfl rfl ?_
    refine LP_end _ rfl ?_
    refine W_seq ?_
    refine W_seq ?_
    refine W_region ?_
    refine LP_ev ok 0 [(38, .bool r69), (39, .bool (!r69))] 2 rfl rfl ?_
    refine LP_end _ rfl ?_
    refine W_cond (!r69) rfl (fun hc80 => ?_) (fun hc80 => ?_)
    · have H := H.1 hc80
      refine W_seq ?_
      refine W_region ?_
      refine LP_ev ok 0 [(40, .agg #[I 0, I 0])] 1 rfl rfl ?_
      have ex84 := (((ex42.ext x62).but y67 (Dj.of_fresh ex42 f64).symm).ext x71)
      have ex85 := (((((ex42.ext x62).but y67 (Dj.of_fresh ex42 f64).symm).ext x71).ext x74).but y79 (Dj.of_fresh ex84 f76).symm)
      refine LP_stbox 1 (vs := [I 0, I 0]) (cs' := [I 0, I 0]) rfl rfl rfl ti_34 rfl rfl rfl rfl rfl ex85 rfl rfl fun wx81 ex82 y83 => ?_
      refine LP_ev ok 2 [(3, .bool false)] 3 rfl rfl ?_
      refine LP_end _ rfl ?_
      refine W_ret ?_
      have f86 := f64.mono X45.size
      have X88 := (((X45.stepx x62).step y67 (f86.dom _)).stepx x71)
      have f87 := f76.mono X88.size
      have f89 := f.mono X.size
      have X90 := ((((((X45.stepx x62).step y67 (f86.dom _)).stepx x71).stepx x74).step y79 (f87.dom _)).step y83 (f89.dom _))
      exact ⟨_, Ret_of [.agg #[I 0, I 0], .bool false] ⟨⟨_, rfl, rfl, ld_res ti_34 ag_34 (fun h => by cases h) ex82 rfl rfl⟩, ⟨rfl, rfl⟩, trivial⟩, _, _, H, rfl, X90.ext⟩
    have H := H.2 hc80
    refine W_skip ?_
    refine W_seq ?_
    refine W_region ?_
    have ex91 := (((ex44.ext x62).but y67 (Dj.of_fresh ex44 f64).symm).ext x71)
    have ex92 := (((((ex44.ext x62).but y67 (Dj.of_fresh ex44 f64).symm).ext x71).ext x74).but y79 (Dj.of_fresh ex91 f76).symm)
    refine LP_ldbox 0 (v := .agg #[I num, I den]) rfl rfl rfl ti_34 ag_34 (fun h => by cases h) rfl ex92 rfl rfl ?_
    refine LP_ldbox 1 (v := .agg #[I r68.Num, I r68.Den]) rfl rfl rfl ti_34 ag_34 (fun h => by cases h) rfl ex78 rfl rfl ?_
    refine LP_call 2 rfl rfl rfl cal_113 rfl (spec_fAdd_w _ _ _ H wx77 ) ?_
    rintro _ wx95 ⟨r93, r94, H, rfl, x96⟩
    refine LP_ev ok 3 [(41, .tuple #[.agg #[I r93.Num, I r93.Den], .bool r94]), (45, .agg #[I r93.Num, I r93.Den]), (46, .bool r94)] 6 rfl rfl ?_
    refine LP_alloc 6 rfl rfl rfl ti_34 rfl fun b97 wx98 x99 ex100 f101 => ?_
    refine LP_stbox 7 (vs := [I r93.Num, I r93.Den]) (cs' := [I r93.Num, I r93.Den]) rfl rfl rfl ti_34 rfl rfl rfl rfl rfl ex100 rfl rfl fun wx102 ex103 y104 => ?_
    refine LP_ev ok 8 [(12, .bool r94)] 9 rfl rfl ?_
    refine LP_end _ rfl ?_
    try refine W_forget [(2, .pointer (some ⟨b, 0, none⟩)), (6, .pointer (some ⟨b32, 0, none⟩)), (11, .pointer (some ⟨b97, 0, none⟩)), (12, .bool r94), (26, .slice a20 (List.length r11) c21), (27, I (ln r11)), (28, I x40)] ⟨rfl, rfl, rfl, rfl, rfl, rfl, rfl, trivial⟩ fun ρ => ?_
    refine W_seq ?_
    refine W_seq ?_
    refine W_region ?_
    refine LP_ev ok 0 [(47, .bool r94), (48, .bool (!r94))] 2 rfl rfl ?_
    refine LP_end _ rfl ?_
    refine W_cond (!r94) rfl (fun hc105 => ?_) (fun hc105 => ?_)
    · have H := H.1 hc105
      refine W_seq ?_
      refine W_region ?_
      refine LP_ev ok 0 [(49, .agg #[I 0, I 0])] 1 rfl rfl ?_
      have ex109 := (((ex42.ext x62).but y67 (Dj.of_fresh ex42 f64).symm).ext x71)
      have ex110 := (((ex109.ext x74).but y79 (Dj.of_fresh ex109 f76).symm).ext x96)
      have ex111 := ((((((((ex42.ext x62).but y67 (Dj.of_fresh ex42 f64).symm).ext x71).ext x74).but y79 (Dj.of_fresh ex109 f76).symm).ext x96).ext x99).but y104 (Dj.of_fresh ex110 f101).symm)
      refine LP_stbox 1 (vs := [I 0, I 0]) (cs' := [I 0, I 0]) rfl rfl rfl ti_34 rfl rfl rfl rfl rfl ex111 rfl rfl fun wx106 ex107 y108 => ?_
      refine LP_ev ok 2 [(3, .bool false)] 3 rfl rfl ?_
      refine LP_end _ rfl ?_
      refine W_ret ?_
      have f112 := f64.mono X45.size
      have X114 := (((X45.stepx x62).step y67 (f112.dom _)).stepx x71)
      have f113 := f76.mono X114.size
      have X116 := (((X114.stepx x74).step y79 (f113.dom _)).stepx x96)
      have f115 := f101.mono X116.size
      have f117 := f.mono X.size
      have X118 := (((((((((X45.stepx x62).step y67 (f112.dom _)).stepx x71).stepx x74).step y79 (f113.dom _)).stepx x96).stepx x99).step y104 (f115.dom _)).step y108 (f117.dom _))
      exact ⟨_, Ret_of [.agg #[I 0, I 0], .bool false] ⟨⟨_, rfl, rfl, ld_res ti_34 ag_34 (fun h => by cases h) ex107 rfl rfl⟩, ⟨rfl, rfl⟩, trivial⟩, _, _, H, rfl, X118.ext⟩
    have H := H.2 hc105
    refine W_skip ?_
    refine W_region ?_
    refine LP_ldbox 0 (v := .agg #[I r93.Num, I r93.Den]) rfl rfl rfl ti_34 ag_34 (fun h => by cases h) rfl ex103 rfl rfl ?_
    have ex122 := (ex92.ext x96)
    have ex123 := (((ex92.ext x96).ext x99).but y104 (Dj.of_fresh ex122 f101).symm)
    refine LP_stbox 1 (vs := [I r93.Num, I r93.Den]) (cs' := [I r93.Num, I r93.Den]) rfl rfl rfl ti_34 rfl rfl rfl rfl rfl ex123 rfl rfl fun wx119 ex120 y121 => ?_
    refine LP_end _ rfl ?_
    refine W_region ?_
    refine LP_ev ok 0 [(51, I (wr (x40 + 1))), (28, I (wr (x40 + 1)))] 2 rfl rfl ?_
    refine LP_end _ rfl ?_
    have f124 := f64.mono X45.size
    have X126 := (((X45.stepx x62).step y67 (f124.dom _)).stepx x71)
    have f125 := f76.mono X126.size
    have X128 := (((X126.stepx x74).step y79 (f125.dom _)).stepx x96)
    have f127 := f101.mono X128.size
    have X129 := (((((((((X45.stepx x62).step y67 (f124.dom _)).stepx x71).stepx x74).step y79 (f125.dom _)).stepx x96).stepx x99).step y104 (f127.dom _)).step y121 ((Fresh.box f46).dom _))
    have ex130 := (((ex42.ext x62).but y67 (Dj.of_fresh ex42 f64).symm).ext x71)
    have ex131 := (((ex130.ext x74).but y79 (Dj.of_fresh ex130 f76).symm).ext x96)
    have ex132 := (((ex1.ext x5).ext x15).ext x31)
    have ex133 := (((((((((ex42.ext x62).but y67 (Dj.of_fresh ex42 f64).symm).ext x71).ext x74).but y79 (Dj.of_fresh ex130 f76).symm).ext x96).ext x99).but y104 (Dj.of_fresh ex131 f101).symm).but y121 (Dj.box (Dj.of_fresh ex132 f36).symm))
    have ex134 := (((ex43.ext x62).but y67 (Dj.of_fresh ex43 f64).symm).ext x71)
    have ex135 := (((ex134.ext x74).but y79 (Dj.of_fresh ex134 f76).symm).ext x96)
    have ex136 := (ex18.ext x31)
    have ex137 := (((((((((ex43.ext x62).but y67 (Dj.of_fresh ex43 f64).symm).ext x71).ext x74).but y79 (Dj.of_fresh ex134 f76).symm).ext x96).ext x99).but y104 (Dj.of_fresh ex135 f101).symm).but y121 (Dj.box (Dj.of_fresh ex136 f36).symm))
    exact ⟨(wr (x40 + 1), r93.Num, r93.Den), ⟨H.1, _, env_eq ⟨rfl, rfl, rfl, rfl, rfl, trivial⟩, X129, ex133, ex137, ex120⟩, H.2⟩
  have H := H.2 hc53
  refine W_exit ?_
  refine (if_pos rfl).mpr ?_
  refine W_seq ?_
  refine W_region ?_
  refine LP_ldbox 0 (v := .agg #[I num, I den]) rfl rfl rfl ti_34 ag_34 (fun h => by cases h) rfl ex44 rfl rfl ?_
  refine LP_stbox 1 (vs := [I num, I den]) (cs' := [I num, I den]) rfl rfl rfl ti_34 rfl rfl rfl rfl rfl ex42 rfl rfl fun wx138 ex139 y140 => ?_
  refine LP_ev ok 2 [(3, .bool true)] 3 rfl rfl ?_
  refine LP_end _ rfl ?_
  refine W_ret ?_
  have f141 := f.mono X.size
  have X142 := (X45.step y140 (f141.dom _))
  exact ⟨_, Ret_of [.agg #[I num, I den], .bool true] ⟨⟨_, rfl, rfl, ld_res ti_34 ag_34 (fun h => by cases h) ex139 rfl rfl⟩, ⟨rfl, rfl⟩, trivial⟩, _, _, H, rfl, X142.ext⟩

set_option maxRecDepth 8000 in
set_option maxHeartbeats 4000000 in
theorem impl_MulFrac_w (a : Frac) (b : Frac) (Q : Frac → Bool → Prop) (H : impl_MulFrac a b Q) (w : World)  :
    CallsTo Try.prog 114 #[.agg #[I a.Num, I a.Den], .agg #[I b.Num, I b.Den]] w fun v w' => ∃ r0 r1, Q r0 r1 ∧ v = .tuple #[.agg #[I r0.Num, I r0.Den], .bool r1] ∧ Ext w w' := by
  refine enter (args := [.agg #[I a.Num, I a.Den], .agg #[I b.Num, I b.Den]]) 28 Try.func114 rfl rfl rfl ?_
  refine W_forget [(0, .agg #[I a.Num, I a.Den]), (1, .agg #[I b.Num, I b.Den])] ⟨rfl, rfl, trivial⟩ fun ρ => ?_
  have X := But.refl emp w
  refine W_seq ?_
  refine W_region ?_
  refine LP_box 0 (cs := [I a.Num, I a.Den]) rfl rfl rfl rfl rfl fun b1 wx x ex f => ?_
  refine LP_box 1 (cs := [I b.Num, I b.Den]) rfl rfl rfl rfl rfl fun b2 wx3 x4 ex5 f6 => ?_
  refine LP_alloc 2 rfl rfl rfl ti_34 rfl fun b7 wx8 x9 ex10 f11 => ?_
  refine LP_ev ok 3 [(5, .bool false)] 4 rfl rfl ?_
  refine LP_end _ rfl ?_
  refine W_seq ?_
  obtain ⟨k, hk, H⟩ := jn_elim H
  refine W_join2 (S := Bool) (fun s ρ' w' => k s ∧ ∃ (ρ : Env), ρ' = setAll [(2, .pointer (some ⟨b1, 0, none⟩)), (3, .pointer (some ⟨b2, 0, none⟩)), (4, .pointer (some ⟨b7, 0, none⟩)), (13, .bool s)] ρ ∧ But emp w w' ∧ Sub (bx b1 34 [I a.Num, I a.Den]) w' ∧ Sub (bx b2 34 [I b.Num, I b.Den]) w' ∧ Sub (bx b7 34 [I 0, I 0]) w') ?_ ?_
  · refine W_region ?_
    have ex18 := ((ex.ext x4).ext x9)
    refine LP_ldbox 0 (v := .agg #[I a.Num, I a.Den]) rfl rfl rfl ti_34 ag_34 (fun h => by cases h) rfl ex18 rfl rfl ?_
    refine LP_call 1 rfl rfl rfl cal_101 rfl (impl_IsFrac_w _ _ H wx8 ) ?_
    rintro _ wx19 ⟨r, H, rfl, x20⟩
    refine LP_ev ok 2 [(8, .bool (!r)), (9, .bool (!r))] 4 rfl rfl ?_
    refine LP_split 9 (!r) rfl (fun hc => ?_) (fun hc => ?_)
    · have H := H.1 hc
      refine LP_ev ok 4 [(10, undef), (11, undef), (12, undef), (13, .bool true)] 8 rfl rfl ?_
      refine LP_end _ rfl ?_
      have X21 := ((((X.stepx x).stepx x4).stepx x9).stepx x20)
      have ex22 := (ex18.ext x20)
      have ex23 := ((ex5.ext x9).ext x20)
      have ex24 := (ex10.ext x20)
      exact ⟨true, H, _, env_eq ⟨rfl, rfl, rfl, rfl, trivial⟩, X21, ex22, ex23, ex24⟩
    have H := H.2 hc
    have ex25 := ((ex5.ext x9).ext x20)
    refine LP_ldbox 4 (v := .agg #[I b.Num, I b.Den]) rfl rfl rfl ti_34 ag_34 (fun h => by cases h) rfl ex25 rfl rfl ?_
    refine LP_call 5 rfl rfl rfl cal_101 rfl (impl_IsFrac_w _ _ H wx19 ) ?_
    rintro _ wx27 ⟨r26, H, rfl, x28⟩
    refine LP_ev ok 6 [(12, .bool (!r26)), (13, .bool (!r26))] 8 rfl rfl ?_
    refine LP_end _ rfl ?_
    have X29 := (((((X.stepx x).stepx x4).stepx x9).stepx x20).stepx x28)
    have ex30 := ((ex18.ext x20).ext x28)
    have ex31 := (ex25.ext x28)
    have ex32 := ((ex10.ext x20).ext x28)
    exact ⟨!r26, H, _, env_eq ⟨rfl, rfl, rfl, rfl, trivial⟩, X29, ex30, ex31, ex32⟩
  rintro x12 _ wx13 ⟨H, ρ, rfl, X17, ex14, ex15, ex16⟩
  subst hk
  refine W_cond (x12) rfl (fun hc33 => ?_) (fun hc33 => ?_)
  · have H := H.1 hc33
    refine W_seq ?_
    refine W_region ?_
    refine LP_ev ok 0 [(14, .agg #[I 0, I 0])] 1 rfl rfl ?_
    refine LP_stbox 1 (vs := [I 0, I 0]) (cs' := [I 0, I 0]) rfl rfl rfl ti_34 rfl rfl rfl rfl rfl ex16 rfl rfl fun wx34 ex35 y => ?_
    refine LP_ev ok 2 [(5, .bool false)] 3 rfl rfl ?_
    refine LP_end _ rfl ?_
    refine W_ret ?_
    have X37 := ((X.stepx x).stepx x4)
    have f36 := f11.mono X37.size
    have X38 := (X17.step y (f36.dom _))
    exact ⟨_, Ret_of [.agg #[I 0, I 0], .bool false] ⟨⟨_, rfl, rfl, ld_res ti_34 ag_34 (fun h => by cases h) ex35 rfl rfl⟩, ⟨rfl, rfl⟩, trivial⟩, _, _, H, rfl, X38.ext⟩
  have H := H.2 hc33
  refine W_skip ?_
  refine W_seq ?_
  refine W_region ?_
  refine LP_ev ok 0 [(15, .pointer (some ⟨b1, 0, none⟩))] 1 rfl rfl ?_
  refine LP_ldbox 1 (v := I a.Num) rfl rfl rfl ti_3 ag_3 (fun _ => rfl) rfl ex14 rfl rfl ?_
  refine LP_ev ok 2 [(17, .pointer (some ⟨b2, 0, none⟩))] 3 rfl rfl ?_
  refine LP_ldbox 3 (v := I b.Num) rfl rfl rfl ti_3 ag_3 (fun _ => rfl) rfl ex15 rfl rfl ?_
  refine LP_ev ok 4 [(19, I (wr (a.Num * b.Num))), (20, .pointer (some ⟨b1, 1, none⟩))] 6 rfl rfl ?_
  refine LP_ldbox 6 (v := I a.Den) rfl rfl rfl ti_3 ag_3 (fun _ => rfl) rfl ex14 rfl rfl ?_
  refine LP_ev ok 7 [(22, .pointer (some ⟨b2, 1, none⟩))] 8 rfl rfl ?_
  refine LP_ldbox 8 (v := I b.Den) rfl rfl rfl ti_3 ag_3 (fun _ => rfl) rfl ex15 rfl rfl ?_
  refine LP_ev ok 9 [(24, I (wr (a.Den * b.Den)))] 10 rfl rfl ?_
  refine LP_call 10 rfl rfl rfl cal_93 rfl (impl_reduced_w _ _ _ H wx13 ) ?_
  rintro _ wx41 ⟨r39, r40, H, rfl, x42⟩
  refine LP_ev ok 11 [(26, .agg #[I r39.Num, I r39.Den]), (27, .bool r40)] 13 rfl rfl ?_
  have ex46 := (ex16.ext x42)
  refine LP_stbox 13 (vs := [I r39.Num, I r39.Den]) (cs' := [I r39.Num, I r39.Den]) rfl rfl rfl ti_34 rfl rfl rfl rfl rfl ex46 rfl rfl fun wx43 ex44 y45 => ?_
  refine LP_ev ok 14 [(5, .bool r40)] 15 rfl rfl ?_
  refine LP_end _ rfl ?_
  refine W_ret ?_
  have X48 := ((X.stepx x).stepx x4)
  have f47 := f11.mono X48.size
  have X49 := ((X17.stepx x42).step y45 (f47.dom _))
  exact ⟨_, Ret_of [.agg #[I r39.Num, I r39.Den], .bool r40] ⟨⟨_, rfl, rfl, ld_res ti_34 ag_34 (fun h => by cases h) ex44 rfl rfl⟩, ⟨rfl, rfl⟩, trivial⟩, _, _, H, rfl, X49.ext⟩

set_option maxRecDepth 8000 in
set_option maxHeartbeats 4000000 in
theorem impl_AddFrac_w (a : Frac) (b : Frac) (Q : Frac → Bool → Prop) (H : impl_AddFrac a b Q) (w : World)  :
    CallsTo Try.prog 115 #[.agg #[I a.Num, I a.Den], .agg #[I b.Num, I b.Den]] w fun v w' => ∃ r0 r1, Q r0 r1 ∧ v = .tuple #[.agg #[I r0.Num, I r0.Den], .bool r1] ∧ Ext w w' := by
  refine enter (args := [.agg #[I a.Num, I a.Den], .agg #[I b.Num, I b.Den]]) 34 Try.func115 rfl rfl rfl ?_
  refine W_forget [(0, .agg #[I a.Num, I a.Den]), (1, .agg #[I b.Num, I b.Den])] ⟨rfl, rfl, trivial⟩ fun ρ => ?_
  have X := But.refl emp w
  refine W_seq ?_
  refine W_region ?_
  refine LP_box 0 (cs := [I a.Num, I a.Den]) rfl rfl rfl rfl rfl fun b1 wx x ex f => ?_
  refine LP_box 1 (cs := [I b.Num, I b.Den]) rfl rfl rfl rfl rfl fun b2 wx3 x4 ex5 f6 => ?_
  refine LP_alloc 2 rfl rfl rfl ti_34 rfl fun b7 wx8 x9 ex10 f11 => ?_
  refine LP_ev ok 3 [(5, .bool false)] 4 rfl rfl ?_
  refine LP_end _ rfl ?_
  refine W_seq ?_
  obtain ⟨k, hk, H⟩ := jn_elim H
  refine W_join2 (S := Bool) (fun s ρ' w' => k s ∧ ∃ (ρ : Env), ρ' = setAll [(2, .pointer (some ⟨b1, 0, none⟩)), (3, .pointer (some ⟨b2, 0, none⟩)), (4, .pointer (some ⟨b7, 0, none⟩)), (13, .bool s)] ρ ∧ But emp w w' ∧ Sub (bx b1 34 [I a.Num, I a.Den]) w' ∧ Sub (bx b2 34 [I b.Num, I b.Den]) w' ∧ Sub (bx b7 34 [I 0, I 0]) w') ?_ ?_
  · refine W_region ?_
    have ex18 := ((ex.ext x4).ext x9)
    refine LP_ldbox 0 (v := .agg #[I a.Num, I a.Den]) rfl rfl rfl ti_34 ag_34 (fun h => by cases h) rfl ex18 rfl rfl ?_
    refine LP_call 1 rfl rfl rfl cal_101 rfl (impl_IsFrac_w _ _ H wx8 ) ?_
    rintro _ wx19 ⟨r, H, rfl, x20⟩
    refine LP_ev ok 2 [(8, .bool (!r)), (9, .bool (!r))] 4 rfl rfl ?_
    refine LP_split 9 (!r) rfl (fun hc => ?_) (fun hc => ?_)
    · have H := H.1 hc
      refine LP_ev ok 4 [(10, undef), (11, undef), (12, undef), (13, .bool true)] 8 rfl rfl ?_
      refine LP_end _ rfl ?_
      have X21 := ((((X.stepx x).stepx x4).stepx x9).stepx x20)
      have ex22 := (ex18.ext x20)
      have ex23 := ((ex5.ext x9).ext x20)
      have ex24 := (ex10.ext x20)
      exact ⟨true, H, _, env_eq ⟨rfl, rfl, rfl, rfl, trivial⟩, X21, ex22, ex23, ex24⟩
    have H := H.2 hc
    have ex25 := ((ex5.ext x9).ext x20)
    refine LP_ldbox 4 (v := .agg #[I b.Num, I b.Den]) rfl rfl rfl ti_34 ag_34 (fun h => by cases h) rfl ex25 rfl rfl ?_
    refine LP_call 5 rfl rfl rfl cal_101 rfl (impl_IsFrac_w _ _ H wx19 ) ?_
    rintro _ wx27 ⟨r26, H, rfl, x28⟩
    refine LP_ev ok 6 [(12, .bool (!r26)), (13, .bool (!r26))] 8 rfl rfl ?_
    refine LP_end _ rfl ?_
    have X29 := (((((X.stepx x).stepx x4).stepx x9).stepx x20).stepx x28)
    have ex30 := ((ex18.ext x20).ext x28)
    have ex31 := (ex25.ext x28)
    have ex32 := ((ex10.ext x20).ext x28)
    exact ⟨!r26, H, _, env_eq ⟨rfl, rfl, rfl, rfl, trivial⟩, X29, ex30, ex31, ex32⟩
  rintro x12 _ wx13 ⟨H, ρ, rfl, X17, ex14, ex15, ex16⟩
  subst hk
  refine W_cond (x12) rfl (fun hc33 => ?_) (fun hc33 => ?_)
  · have H := H.1 hc33
    refine W_seq ?_
    refine W_region ?_
    refine LP_ev ok 0 [(14, .agg #[I 0, I 0])] 1 rfl rfl ?_
    refine LP_stbox 1 (vs := [I 0, I 0]) (cs' := [I 0, I 0]) rfl rfl rfl ti_34 rfl rfl rfl rfl rfl ex16 rfl rfl fun wx34 ex35 y => ?_
    refine LP_ev ok 2 [(5, .bool false)] 3 rfl rfl ?_
    refine LP_end _ rfl ?_
    refine W_ret ?_
    have X37 := ((X.stepx x).stepx x4)
    have f36 := f11.mono X37.size
    have X38 := (X17.step y (f36.dom _))
    exact ⟨_, Ret_of [.agg #[I 0, I 0], .bool false] ⟨⟨_, rfl, rfl, ld_res ti_34 ag_34 (fun h => by cases h) ex35 rfl rfl⟩, ⟨rfl, rfl⟩, trivial⟩, _, _, H, rfl, X38.ext⟩
  have H := H.2 hc33
  refine W_skip ?_
  refine W_seq ?_
  refine W_region ?_
  refine LP_ev ok 0 [(15, .pointer (some ⟨b1, 0, none⟩))] 1 rfl rfl ?_
  refine LP_ldbox 1 (v := I a.Num) rfl rfl rfl ti_3 ag_3 (fun _ => rfl) rfl ex14 rfl rfl ?_
  refine LP_ev ok 2 [(17, .pointer (some ⟨b2, 1, none⟩))] 3 rfl rfl ?_
  refine LP_ldbox 3 (v := I b.Den) rfl rfl rfl ti_3 ag_3 (fun _ => rfl) rfl ex15 rfl rfl ?_
  refine LP_ev ok 4 [(19, I (wr (a.Num * b.Den))), (20, .pointer (some ⟨b2, 0, none⟩))] 6 rfl rfl ?_
  refine LP_ldbox 6 (v := I b.Num) rfl rfl rfl ti_3 ag_3 (fun _ => rfl) rfl ex15 rfl rfl ?_
  refine LP_ev ok 7 [(22, .pointer (some ⟨b1, 1, none⟩))] 8 rfl rfl ?_
  refine LP_ldbox 8 (v := I a.Den) rfl rfl rfl ti_3 ag_3 (fun _ => rfl) rfl ex14 rfl rfl ?_
  refine LP_ev ok 9 [(24, I (wr (b.Num * a.Den))), (25, I (wr ((wr (a.Num * b.Den)) + (wr (b.Num * a.Den))))), (26, .pointer (some ⟨b1, 1, none⟩))] 12 rfl rfl ?_
  refine LP_ldbox 12 (v := I a.Den) rfl rfl rfl ti_3 ag_3 (fun _ => rfl) rfl ex14 rfl rfl ?_
  refine LP_ev ok 13 [(28, .pointer (some ⟨b2, 1, none⟩))] 14 rfl rfl ?_
  refine LP_ldbox 14 (v := I b.Den) rfl rfl rfl ti_3 ag_3 (fun _ => rfl) rfl ex15 rfl rfl ?_
  refine LP_ev ok 15 [(30, I (wr (a.Den * b.Den)))] 16 rfl rfl ?_
  refine LP_call 16 rfl rfl rfl cal_93 rfl (impl_reduced_w _ _ _ H wx13 ) ?_
  rintro _ wx41 ⟨r39, r40, H, rfl, x42⟩
  refine LP_ev ok 17 [(32, .agg #[I r39.Num, I r39.Den]), (33, .bool r40)] 19 rfl rfl ?_
  have ex46 := (ex16.ext x42)
  refine LP_stbox 19 (vs := [I r39.Num, I r39.Den]) (cs' := [I r39.Num, I r39.Den]) rfl rfl rfl ti_34 rfl rfl rfl rfl rfl ex46 rfl rfl fun wx43 ex44 y45 => ?_
  refine LP_ev ok 20 [(5, .bool r40)] 21 rfl rfl ?_
  refine LP_end _ rfl ?_
  refine W_ret ?_
  have X48 := ((X.stepx x).stepx x4)
  have f47 := f11.mono X48.size
  have X49 := ((X17.stepx x42).step y45 (f47.dom _))
  exact ⟨_, Ret_of [.agg #[I r39.Num, I r39.Den], .bool r40] ⟨⟨_, rfl, rfl, ld_res ti_34 ag_34 (fun h => by cases h) ex44 rfl rfl⟩, ⟨rfl, rfl⟩, trivial⟩, _, _, H, rfl, X49.ext⟩

set_option maxRecDepth 8000 in
set_option maxHeartbeats 4000000 in
theorem impl_ConcentrationOf_w (counts : List Int) (Q : Frac → Bool → Prop) (H : impl_ConcentrationOf counts Q) (w : World) {vx : Value} {hx : PH} (r : RS hx vx counts) (ex : Sub hx w) :
    CallsTo Try.prog 54 #[vx] w fun v w' => ∃ r0 r1, Q r0 r1 ∧ v = .tuple #[.agg #[I r0.Num, I r0.Den], .bool r1] ∧ Ext w w' := by
  obtain ⟨a, c, rfl⟩ := r.shape
  refine enter (args := [.slice a (List.length counts) c]) 50 Try.func54 rfl rfl rfl ?_
  refine W_forget [(0, .slice a (List.length counts) c)] ⟨rfl, trivial⟩ fun ρ => ?_
  have X := But.refl emp w
  refine W_seq ?_
  refine W_region ?_
  refine LP_alloc 0 rfl rfl rfl ti_34 rfl fun b wx x ex1 f => ?_
  refine LP_ev ok 1 [(3, .bool false)] 2 rfl rfl ?_
  refine LP_end _ rfl ?_
  refine W_seq ?_
  refine W_seq ?_
  refine W_region ?_
  refine LP_ev ok 0 [(11, .slice a (List.length counts) c)] 1 rfl rfl ?_
  have ex3 := (ex.ext x)
  refine LP_call 1 rfl rfl rfl cal_92 rfl (impl_areCounts_w _ _ H wx r ex3) ?_
  rintro _ wx4 ⟨r2, H, rfl, x5⟩
  refine LP_ev ok 2 [(13, .bool (!r2))] 3 rfl rfl ?_
  refine LP_end _ rfl ?_
  refine W_cond (!r2) rfl (fun hc => ?_) (fun hc => ?_)
  · have H := H.1 hc
    refine W_seq ?_
    refine W_region ?_
    refine LP_ev ok 0 [(14, .agg #[I 0, I 0])] 1 rfl rfl ?_
    have ex8 := (ex1.ext x5)
    refine LP_stbox 1 (vs := [I 0, I 0]) (cs' := [I 0, I 0]) rfl rfl rfl ti_34 rfl rfl rfl rfl rfl ex8 rfl rfl fun wx6 ex7 y => ?_
    refine LP_ev ok 2 [(3, .bool false)] 3 rfl rfl ?_
    refine LP_end _ rfl ?_
    refine W_ret ?_
    have f9 := f.mono X.size
    have X10 := (((X.stepx x).stepx x5).step y (f9.dom _))
    exact ⟨_, Ret_of [.agg #[I 0, I 0], .bool false] ⟨⟨_, rfl, rfl, ld_res ti_34 ag_34 (fun h => by cases h) ex7 rfl rfl⟩, ⟨rfl, rfl⟩, trivial⟩, _, _, H, rfl, X10.ext⟩
  have H := H.2 hc
  refine W_skip ?_
  refine W_seq ?_
  refine W_region ?_
  refine LP_ev ok 0 [(16, .slice a (List.length counts) c)] 1 rfl rfl ?_
  have ex13 := (ex3.ext x5)
  refine LP_call 1 rfl rfl rfl cal_110 rfl (impl_sharesOf_w _ _ H wx4 r ex13) ?_
  rintro _ wx14 ⟨r11, r12, vx16, hx17, H, rfl, x15, o, ex18, f19⟩
  obtain ⟨a20, c21, rfl⟩ := o.shape
  refine LP_ev ok 2 [(15, .tuple #[.slice a20 (List.length r11) c21, .bool r12]), (18, .slice a20 (List.length r11) c21), (19, .bool r12), (4, .slice a20 (List.length r11) c21), (5, .bool r12)] 7 rfl rfl ?_
  refine LP_end _ rfl ?_
  refine W_seq ?_
  refine W_seq ?_
  refine W_region ?_
  refine LP_ev ok 0 [(20, .bool r12), (21, .bool (!r12))] 2 rfl rfl ?_
  refine LP_end _ rfl ?_
  refine W_cond (!r12) rfl (fun hc22 => ?_) (fun hc22 => ?_)
  · have H := H.1 hc22
    refine W_seq ?_
    refine W_region ?_
    refine LP_ev ok 0 [(22, .agg #[I 0, I 0])] 1 rfl rfl ?_
    have ex26 := ((ex1.ext x5).ext x15)
    refine LP_stbox 1 (vs := [I 0, I 0]) (cs' := [I 0, I 0]) rfl rfl rfl ti_34 rfl rfl rfl rfl rfl ex26 rfl rfl fun wx23 ex24 y25 => ?_
    refine LP_ev ok 2 [(3, .bool false)] 3 rfl rfl ?_
    refine LP_end _ rfl ?_
    refine W_ret ?_
    have f27 := f.mono X.size
    have X28 := ((((X.stepx x).stepx x5).stepx x15).step y25 (f27.dom _))
    exact ⟨_, Ret_of [.agg #[I 0, I 0], .bool false] ⟨⟨_, rfl, rfl, ld_res ti_34 ag_34 (fun h => by cases h) ex24 rfl rfl⟩, ⟨rfl, rfl⟩, trivial⟩, _, _, H, rfl, X28.ext⟩
  have H := H.2 hc22
  refine W_skip ?_
  refine W_seq ?_
  refine W_region ?_
  refine LP_ev ok 0 [(23, .agg #[I 0, I 1])] 1 rfl rfl ?_
  refine LP_alloc 1 rfl rfl rfl ti_34 rfl fun b29 wx30 x31 ex32 f33 => ?_
  refine LP_stbox 2 (vs := [I 0, I 1]) (cs' := [I 0, I 1]) rfl rfl rfl ti_34 rfl rfl rfl rfl rfl ex32 rfl rfl fun wx34 ex35 y36 => ?_
  refine LP_end _ rfl ?_
  refine W_seq ?_
  refine W_seq ?_
  refine W_region ?_
  refine LP_ev ok 0 [(24, .slice a20 (List.length r11) c21), (25, I (ln r11)), (26, I 0)] 3 rfl rfl ?_
  refine LP_end _ rfl ?_
  refine W_block ?_
  obtain ⟨J, m, Hx, H⟩ := H
  have X44 := (((X.stepx x).stepx x5).stepx x15)
  have f43 := f33.mono X44.size
  have X45 := (((((X.stepx x).stepx x5).stepx x15).stepx x31).step y36 (f43.dom _))
  have ex46 := ((ex1.ext x5).ext x15)
  have ex47 := ((((ex1.ext x5).ext x15).ext x31).but y36 (Dj.of_fresh ex46 f33).symm)
  have ex48 := ((ex18.ext x31).but y36 (Dj.of_fresh ex18 f33).symm)
  refine W_loop (S := Int × Int × Int) (fun s ρ' w' => J s.1 s.2.1 s.2.2 ∧ ∃ (ρ : Env), ρ' = setAll [(2, .pointer (some ⟨b, 0, none⟩)), (6, .pointer (some ⟨b29, 0, none⟩)), (24, .slice a20 (List.length r11) c21), (25, I (ln r11)), (26, I s.1)] ρ ∧ But emp w w' ∧ Sub (bx b 34 [I 0, I 0]) w' ∧ Sub hx17 w' ∧ Sub (bx b29 34 [I s.2.1, I s.2.2]) w') (fun s => m s.1 s.2.1 s.2.2) (0, 0, 1) ⟨Hx, _, env_eq ⟨rfl, rfl, rfl, rfl, rfl, trivial⟩, X45, ex47, ex48, ex35⟩ ?_
  rintro ⟨x37, num, den⟩ _ wx38 ⟨Hi, ρ, rfl, X42, ex39, ex40, ex41⟩
  have H := H x37 num den Hi
  refine W_seq ?_
  refine W_region ?_
  refine LP_ev ok 0 [(27, .bool (decide (x37 < (ln r11))))] 1 rfl rfl ?_
  refine LP_end _ rfl ?_
  refine W_seq ?_
  refine W_cond (decide (x37 < (ln r11))) rfl (fun hc49 => ?_) (fun hc49 => ?_)
  · have H := H.1 hc49
    refine W_skip ?_
    refine W_seq ?_
    refine W_block ?_
    refine W_seq ?_
    refine W_region ?_
    obtain ⟨x50, hi, hx51, H⟩ := H
    refine LP_index 0 rfl rfl rfl Try.underlying44 ti_34 rfl rfl o.readf hi hx51 fun a52 cs r53 d => ?_
    refine LP_load 1 rfl rfl rfl ti_34 ag_34 rfl r53 d ex40 fun vx54 r55 => ?_
    obtain rfl := Frac_rv r55
    refine LP_alloc 2 rfl rfl rfl ti_34 rfl fun b56 wx57 x58 ex59 f60 => ?_
    refine LP_stbox 3 (vs := [I x50.Num, I x50.Den]) (cs' := [I x50.Num, I x50.Den]) rfl rfl rfl ti_34 rfl rfl rfl rfl rfl ex59 rfl rfl fun wx61 ex62 y63 => ?_
    refine LP_end _ rfl ?_
    refine W_seq ?_
    refine W_region ?_
    refine LP_ldbox 0 (v := .agg #[I x50.Num, I x50.Den]) rfl rfl rfl ti_34 ag_34 (fun h => by cases h) rfl ex62 rfl rfl ?_
    refine LP_ldbox 1 (v := .agg #[I x50.Num, I x50.Den]) rfl rfl rfl ti_34 ag_34 (fun h => by cases h) rfl ex62 rfl rfl ?_
    refine LP_call 2 rfl rfl rfl cal_114 rfl (impl_MulFrac_w _ _ _ H wx61 ) ?_
    rintro _ wx66 ⟨r64, r65, H, rfl, x67⟩
    refine LP_ev ok 3 [(30, .tuple #[.agg #[I r64.Num, I r64.Den], .bool r65]), (34, .agg #[I r64.Num, I r64.Den]), (35, .bool r65)] 6 rfl rfl ?_
    refine LP_alloc 6 rfl rfl rfl ti_34 rfl fun b68 wx69 x70 ex71 f72 => ?_
    refine LP_stbox 7 (vs := [I r64.Num, I r64.Den]) (cs' := [I r64.Num, I r64.Den]) rfl rfl rfl ti_34 rfl rfl rfl rfl rfl ex71 rfl rfl fun wx73 ex74 y75 => ?_
    refine LP_ev ok 8 [(10, .bool r65)] 9 rfl rfl ?_
    refine LP_end _ rfl ?_
    refine W_seq ?_
    refine W_seq ?_
    refine W_region ?_
    refine LP_ev ok 0 [(36, .bool r65), (37, .bool (!r65))] 2 rfl rfl ?_
    refine LP_end _ rfl ?_
    refine W_cond (!r65) rfl (fun hc76 => ?_) (fun hc76 => ?_)
    · have H := H.1 hc76
      refine W_seq ?_
      refine W_region ?_
      refine LP_ev ok 0 [(38, .agg #[I 0, I 0])] 1 rfl rfl ?_
      have ex80 := (((ex39.ext x58).but y63 (Dj.of_fresh ex39 f60).symm).ext x67)
      have ex81 := (((((ex39.ext x58).but y63 (Dj.of_fresh ex39 f60).symm).ext x67).ext x70).but y75 (Dj.of_fresh ex80 f72).symm)
      refine LP_stbox 1 (vs := [I 0, I 0]) (cs' := [I 0, I 0]) rfl rfl rfl ti_34 rfl rfl rfl rfl rfl ex81 rfl rfl fun wx77 ex78 y79 => ?_
      refine LP_ev ok 2 [(3, .bool false)] 3 rfl rfl ?_
      refine LP_end _ rfl ?_
      refine W_ret ?_
      have f82 := f60.mono X42.size
      have X84 := (((X42.stepx x58).step y63 (f82.dom _)).stepx x67)
      have f83 := f72.mono X84.size
      have f85 := f.mono X.size
      have X86 := ((((((X42.stepx x58).step y63 (f82.dom _)).stepx x67).stepx x70).step y75 (f83.dom _)).step y79 (f85.dom _))
      exact ⟨_, Ret_of [.agg #[I 0, I 0], .bool false] ⟨⟨_, rfl, rfl, ld_res ti_34 ag_34 (fun h => by cases h) ex78 rfl rfl⟩, ⟨rfl, rfl⟩, trivial⟩, _, _, H, rfl, X86.ext⟩
    have H := H.2 hc76
    refine W_skip ?_
    refine W_seq ?_
    refine W_region ?_
    have ex87 := (((ex41.ext x58).but y63 (Dj.of_fresh ex41 f60).symm).ext x67)
    have ex88 := (((((ex41.ext x58).but y63 (Dj.of_fresh ex41 f60).symm).ext x67).ext x70).but y75 (Dj.of_fresh ex87 f72).symm)
    refine LP_ldbox 0 (v := .agg #[I num, I den]) rfl rfl rfl ti_34 ag_34 (fun h => by cases h) rfl ex88 rfl rfl ?_
    refine LP_ldbox 1 (v := .agg #[I r64.Num, I r64.Den]) rfl rfl rfl ti_34 ag_34 (fun h => by cases h) rfl ex74 rfl rfl ?_
    refine LP_call 2 rfl rfl rfl cal_115 rfl (impl_AddFrac_w _ _ _ H wx73 ) ?_
    rintro _ wx91 ⟨r89, r90, H, rfl, x92⟩
    refine LP_ev ok 3 [(39, .tuple #[.agg #[I r89.Num, I r89.Den], .bool r90]), (43, .agg #[I r89.Num, I r89.Den]), (44, .bool r90)] 6 rfl rfl ?_
    have ex96 := (ex88.ext x92)
    refine LP_stbox 6 (vs := [I r89.Num, I r89.Den]) (cs' := [I r89.Num, I r89.Den]) rfl rfl rfl ti_34 rfl rfl rfl rfl rfl ex96 rfl rfl fun wx93 ex94 y95 => ?_
    refine LP_ev ok 7 [(10, .bool r90)] 8 rfl rfl ?_
    refine LP_end _ rfl ?_
    refine W_seq ?_
    refine W_region ?_
    refine LP_ev ok 0 [(45, .bool r90), (46, .bool (!r90))] 2 rfl rfl ?_
    refine LP_end _ rfl ?_
    try refine W_forget [(2, .pointer (some ⟨b, 0, none⟩)), (6, .pointer (some ⟨b29, 0, none⟩)), (24, .slice a20 (List.length r11) c21), (25, I (ln r11)), (26, I x37), (46, .bool (!r90))] ⟨rfl, rfl, rfl, rfl, rfl, rfl, trivial⟩ fun ρ => ?_
    refine W_cond (!r90) rfl (fun hc97 => ?_) (fun hc97 => ?_)
    · have H := H.1 hc97
      refine W_seq ?_
      refine W_region ?_
      refine LP_ev ok 0 [(47, .agg #[I 0, I 0])] 1 rfl rfl ?_
      have ex101 := (((ex39.ext x58).but y63 (Dj.of_fresh ex39 f60).symm).ext x67)
      have ex102 := ((ex1.ext x5).ext x15)
      have ex103 := (((((((ex39.ext x58).but y63 (Dj.of_fresh ex39 f60).symm).ext x67).ext x70).but y75 (Dj.of_fresh ex101 f72).symm).ext x92).but y95 (Dj.box (Dj.of_fresh ex102 f33).symm))
      refine LP_stbox 1 (vs := [I 0, I 0]) (cs' := [I 0, I 0]) rfl rfl rfl ti_34 rfl rfl rfl rfl rfl ex103 rfl rfl fun wx98 ex99 y100 => ?_
      refine LP_ev ok 2 [(3, .bool false)] 3 rfl rfl ?_
      refine LP_end _ rfl ?_
      refine W_ret ?_
      have f104 := f60.mono X42.size
      have X106 := (((X42.stepx x58).step y63 (f104.dom _)).stepx x67)
      have f105 := f72.mono X106.size
      have f107 := f.mono X.size
      have X108 := ((((((((X42.stepx x58).step y63 (f104.dom _)).stepx x67).stepx x70).step y75 (f105.dom _)).stepx x92).step y95 ((Fresh.box f43).dom _)).step y100 (f107.dom _))
      exact ⟨_, Ret_of [.agg #[I 0, I 0], .bool false] ⟨⟨_, rfl, rfl, ld_res ti_34 ag_34 (fun h => by cases h) ex99 rfl rfl⟩, ⟨rfl, rfl⟩, trivial⟩, _, _, H, rfl, X108.ext⟩
    have H := H.2 hc97
    refine W_skip ?_
    refine W_region ?_
    refine LP_ev ok 0 [(48, I (wr (x37 + 1))), (26, I (wr (x37 + 1)))] 2 rfl rfl ?_
    refine LP_end _ rfl ?_
    have f109 := f60.mono X42.size
    have X111 := (((X42.stepx x58).step y63 (f109.dom _)).stepx x67)
    have f110 := f72.mono X111.size
    have X112 := (((((((X42.stepx x58).step y63 (f109.dom _)).stepx x67).stepx x70).step y75 (f110.dom _)).stepx x92).step y95 ((Fresh.box f43).dom _))
    have ex113 := (((ex39.ext x58).but y63 (Dj.of_fresh ex39 f60).symm).ext x67)
    have ex114 := ((ex1.ext x5).ext x15)
    have ex115 := (((((((ex39.ext x58).but y63 (Dj.of_fresh ex39 f60).symm).ext x67).ext x70).but y75 (Dj.of_fresh ex113 f72).symm).ext x92).but y95 (Dj.box (Dj.of_fresh ex114 f33).symm))
    have ex116 := (((ex40.ext x58).but y63 (Dj.of_fresh ex40 f60).symm).ext x67)
    have ex117 := (((((((ex40.ext x58).but y63 (Dj.of_fresh ex40 f60).symm).ext x67).ext x70).but y75 (Dj.of_fresh ex116 f72).symm).ext x92).but y95 (Dj.box (Dj.of_fresh ex18 f33).symm))
    exact ⟨(wr (x37 + 1), r89.Num, r89.Den), ⟨H.1, _, env_eq ⟨rfl, rfl, rfl, rfl, rfl, trivial⟩, X112, ex115, ex117, ex94⟩, H.2⟩
  have H := H.2 hc49
  refine W_exit ?_
  refine (if_pos rfl).mpr ?_
  refine W_seq ?_
  refine W_region ?_
  refine LP_ldbox 0 (v := .agg #[I num, I den]) rfl rfl rfl ti_34 ag_34 (fun h => by cases h) rfl ex41 rfl rfl ?_
  refine LP_stbox 1 (vs := [I num, I den]) (cs' := [I num, I den]) rfl rfl rfl ti_34 rfl rfl rfl rfl rfl ex39 rfl rfl fun wx118 ex119 y120 => ?_
  refine LP_ev ok 2 [(3, .bool true)] 3 rfl rfl ?_
  refine LP_end _ rfl ?_
  refine W_ret ?_
  have f121 := f.mono X.size
  have X122 := (X42.step y120 (f121.dom _))
  exact ⟨_, Ret_of [.agg #[I num, I den], .bool true] ⟨⟨_, rfl, rfl, ld_res ti_34 ag_34 (fun h => by cases h) ex119 rfl rfl⟩, ⟨rfl, rfl⟩, trivial⟩, _, _, H, rfl, X122.ext⟩

set_option maxRecDepth 8000 in
set_option maxHeartbeats 4000000 in
theorem laws_FnExactConcentrationOf_w (aCounts : List Int) (Q : Bool → Prop) (H : laws_FnExactConcentrationOf aCounts Q) (w : World) {vx : Value} {hx : PH} (r : RS hx vx aCounts) (ex : Sub hx w) :
    CallsTo Try.prog 12 #[vx] w fun v w' => ∃ r0, Q r0 ∧ v = .bool r0 ∧ Ext w w' := by
  obtain ⟨a, c, rfl⟩ := r.shape
  refine enter (args := [.slice a (List.length aCounts) c]) 38 Try.func12 rfl rfl rfl ?_
  refine W_forget [(0, .slice a (List.length aCounts) c)] ⟨rfl, trivial⟩ fun ρ => ?_
  have X := But.refl emp w
  refine W_seq ?_
  refine W_region ?_
  refine LP_ev ok 0 [(2, .bool false)] 1 rfl rfl ?_
  refine LP_end _ rfl ?_
  refine W_seq ?_
  refine W_seq ?_
  refine W_region ?_
  refine LP_ev ok 0 [(8, .slice a (List.length aCounts) c), (9, I (ln aCounts)), (10, .bool (decide ((ln aCounts) > 1048576)))] 3 rfl rfl ?_
  refine LP_end _ rfl ?_
  refine W_cond (decide ((ln aCounts) > 1048576)) rfl (fun hc => ?_) (fun hc => ?_)
  · have H := H.1 hc
    refine W_seq ?_
    refine W_region ?_
    refine LP_ev ok 0 [(2, .bool true)] 1 rfl rfl ?_
    refine LP_end _ rfl ?_
    refine W_ret ?_
    exact ⟨_, Ret_of [.bool true] ⟨⟨rfl, rfl⟩, trivial⟩, _, H, rfl, X.ext⟩
  have H := H.2 hc
  refine W_skip ?_
  refine W_seq ?_
  refine W_region ?_
  refine LP_ev ok 0 [(12, .slice a (List.length aCounts) c)] 1 rfl rfl ?_
  refine LP_call 1 rfl rfl rfl cal_26 rfl (laws_toIntS_w _ _ H w r ex) ?_
  rintro _ wx ⟨r1, vx2, hx3, H, rfl, x, o, ex4, f⟩
  obtain ⟨a5, c6, rfl⟩ := o.shape
  refine LP_call 2 rfl rfl rfl cal_53 rfl (spec_ConcentrationOf_w _ _ H wx o.readf ex4) ?_
  rintro _ wx9 ⟨r7, r8, H, rfl, x10⟩
  refine LP_ev ok 3 [(11, .tuple #[.agg #[I r7.Num, I r7.Den], .bool r8]), (15, .agg #[I r7.Num, I r7.Den]), (16, .bool r8)] 6 rfl rfl ?_
  refine LP_alloc 6 rfl rfl rfl ti_34 rfl fun b wx11 x12 ex13 f14 => ?_
  refine LP_stbox 7 (vs := [I r7.Num, I r7.Den]) (cs' := [I r7.Num, I r7.Den]) rfl rfl rfl ti_34 rfl rfl rfl rfl rfl ex13 rfl rfl fun wx15 ex16 y => ?_
  refine LP_ev ok 8 [(4, .bool r8)] 9 rfl rfl ?_
  refine LP_end _ rfl ?_
  refine W_seq ?_
  refine W_region ?_
  refine LP_ev ok 0 [(17, .slice a (List.length aCounts) c)] 1 rfl rfl ?_
  have ex18 := ((ex.ext x).ext x10)
  have ex19 := ((((ex.ext x).ext x10).ext x12).but y (Dj.of_fresh ex18 f14).symm)
  refine LP_call 1 rfl rfl rfl cal_26 rfl (laws_toIntS_w _ _ H wx15 r ex19) ?_
  rintro _ wx20 ⟨r17, vx22, hx23, H, rfl, x21, o24, ex25, f26⟩
  obtain ⟨a27, c28, rfl⟩ := o24.shape
  refine LP_ev ok 2 [(5, .slice a27 (List.length r17) c28)] 3 rfl rfl ?_
  refine LP_end _ rfl ?_
  refine W_seq ?_
  refine W_region ?_
  refine LP_ev ok 0 [(20, .slice a27 (List.length r17) c28)] 1 rfl rfl ?_
  refine LP_call 1 rfl rfl rfl cal_54 rfl (impl_ConcentrationOf_w _ _ H wx20 o24.readf ex25) ?_
  rintro _ wx31 ⟨r29, r30, H, rfl, x32⟩
  refine LP_ev ok 2 [(19, .tuple #[.agg #[I r29.Num, I r29.Den], .bool r30]), (22, .agg #[I r29.Num, I r29.Den]), (23, .bool r30)] 5 rfl rfl ?_
  refine LP_alloc 5 rfl rfl rfl ti_34 rfl fun b33 wx34 x35 ex36 f37 => ?_
  refine LP_stbox 6 (vs := [I r29.Num, I r29.Den]) (cs' := [I r29.Num, I r29.Den]) rfl rfl rfl ti_34 rfl rfl rfl rfl rfl ex36 rfl rfl fun wx38 ex39 y40 => ?_
  refine LP_ev ok 7 [(7, .bool r30)] 8 rfl rfl ?_
  refine LP_end _ rfl ?_
  refine W_seq ?_
  obtain ⟨k, hk, H⟩ := jn_elim H
  refine W_join2 (S := Bool) (fun s ρ' w' => k s ∧ ∃ (ρ : Env), ρ' = setAll [(0, .slice a (List.length aCounts) c), (5, .slice a27 (List.length r17) c28), (32, .bool s)] ρ ∧ But emp w w' ∧ Sub hx w' ∧ Sub hx23 w') ?_ ?_
  · refine W_region ?_
    refine LP_ldbox 0 (v := .agg #[I r29.Num, I r29.Den]) rfl rfl rfl ti_34 ag_34 (fun h => by cases h) rfl ex39 rfl rfl ?_
    have ex46 := ((ex16.ext x21).ext x32)
    have ex47 := ((((ex16.ext x21).ext x32).ext x35).but y40 (Dj.of_fresh ex46 f37).symm)
    refine LP_ldbox 1 (v := .agg #[I r7.Num, I r7.Den]) rfl rfl rfl ti_34 ag_34 (fun h => by cases h) rfl ex47 rfl rfl ?_
    refine LP_call 2 rfl rfl rfl cal_32 rfl (laws_eqFrac_w _ _ _ H wx38 ) ?_
    rintro _ wx49 ⟨r48, H, rfl, x50⟩
    refine LP_ev ok 3 [(27, .bool (!r48)), (28, .bool (!r48))] 5 rfl rfl ?_
    refine LP_split 28 (!r48) rfl (fun hc51 => ?_) (fun hc51 => ?_)
    · have H := H.1 hc51
      refine LP_ev ok 5 [(29, undef), (30, undef), (31, undef), (32, .bool true)] 9 rfl rfl ?_
      refine LP_end _ rfl ?_
      try refine W_forget [(0, .slice a (List.length aCounts) c), (5, .slice a27 (List.length r17) c28), (32, .bool true)] ⟨rfl, rfl, rfl, trivial⟩ fun ρ => ?_
      have X53 := ((X.stepx x).stepx x10)
      have f52 := f14.mono X53.size
      have X55 := ((((X53.stepx x12).step y (f52.dom _)).stepx x21).stepx x32)
      have f54 := f37.mono X55.size
      have X56 := (((((((((X.stepx x).stepx x10).stepx x12).step y (f52.dom _)).stepx x21).stepx x32).stepx x35).step y40 (f54.dom _)).stepx x50)
      have ex57 := ((ex19.ext x21).ext x32)
      have ex58 := (((((ex19.ext x21).ext x32).ext x35).but y40 (Dj.of_fresh ex57 f37).symm).ext x50)
      have ex59 := (ex25.ext x32)
      have ex60 := ((((ex25.ext x32).ext x35).but y40 (Dj.of_fresh ex59 f37).symm).ext x50)
      exact ⟨true, H, _, env_eq ⟨rfl, rfl, rfl, trivial⟩, X56, ex58, ex60⟩
    have H := H.2 hc51
    refine LP_ev ok 5 [(29, .bool r30), (30, .bool r8), (31, .bool (r30 != r8)), (32, .bool (r30 != r8))] 9 rfl rfl ?_
    refine LP_end _ rfl ?_
    try refine W_forget [(0, .slice a (List.length aCounts) c), (5, .slice a27 (List.length r17) c28), (32, .bool (r30 != r8))] ⟨rfl, rfl, rfl, trivial⟩ fun ρ => ?_
    have X62 := ((X.stepx x).stepx x10)
    have f61 := f14.mono X62.size
    have X64 := ((((X62.stepx x12).step y (f61.dom _)).stepx x21).stepx x32)
    have f63 := f37.mono X64.size
    have X65 := (((((((((X.stepx x).stepx x10).stepx x12).step y (f61.dom _)).stepx x21).stepx x32).stepx x35).step y40 (f63.dom _)).stepx x50)
    have ex66 := ((ex19.ext x21).ext x32)
    have ex67 := (((((ex19.ext x21).ext x32).ext x35).but y40 (Dj.of_fresh ex66 f37).symm).ext x50)
    have ex68 := (ex25.ext x32)
    have ex69 := ((((ex25.ext x32).ext x35).but y40 (Dj.of_fresh ex68 f37).symm).ext x50)
    exact ⟨r30 != r8, H, _, env_eq ⟨rfl, rfl, rfl, trivial⟩, X65, ex67, ex69⟩
  rintro x41 _ wx42 ⟨H, ρ, rfl, X45, ex43, ex44⟩
  subst hk
  refine W_cond (x41) rfl (fun hc70 => ?_) (fun hc70 => ?_)
  · have H := H.1 hc70
    refine W_seq ?_
    refine W_region ?_
    refine LP_ev ok 0 [(2, .bool false)] 1 rfl rfl ?_
    refine LP_end _ rfl ?_
    refine W_ret ?_
    exact ⟨_, Ret_of [.bool false] ⟨⟨rfl, rfl⟩, trivial⟩, _, H, rfl, X45.ext⟩
  have H := H.2 hc70
  refine W_skip ?_
  refine W_seq ?_
  refine W_seq ?_
  refine W_region ?_
  refine LP_ev ok 0 [(33, .slice a27 (List.length r17) c28), (34, .slice a (List.length aCounts) c)] 2 rfl rfl ?_
  refine LP_call 2 rfl rfl rfl cal_26 rfl (laws_toIntS_w _ _ H wx42 r ex43) ?_
  rintro _ wx72 ⟨r71, vx74, hx75, H, rfl, x73, o76, ex77, f78⟩
  obtain ⟨a79, c80, rfl⟩ := o76.shape
  have ex82 := (ex44.ext x73)
  refine LP_call 3 rfl rfl rfl cal_22 rfl (laws_eqIntS_w _ _ _ H wx72 o24.readf ex82 o76.readf ex77) ?_
  rintro _ wx83 ⟨r81, H, rfl, x84⟩
  refine LP_ev ok 4 [(37, .bool (!r81))] 5 rfl rfl ?_
  refine LP_end _ rfl ?_
  refine W_cond (!r81) rfl (fun hc85 => ?_) (fun hc85 => ?_)
  · have H := H.1 hc85
    refine W_seq ?_
    refine W_region ?_
    refine LP_ev ok 0 [(2, .bool false)] 1 rfl rfl ?_
    refine LP_end _ rfl ?_
    refine W_ret ?_
    have X86 := ((X45.stepx x73).stepx x84)
    exact ⟨_, Ret_of [.bool false] ⟨⟨rfl, rfl⟩, trivial⟩, _, H, rfl, X86.ext⟩
  have H := H.2 hc85
  refine W_skip ?_
  refine W_seq ?_
  refine W_region ?_
  refine LP_ev ok 0 [(2, .bool true)] 1 rfl rfl ?_
  refine LP_end _ rfl ?_
  refine W_ret ?_
  have X87 := ((X45.stepx x73).stepx x84)
  exact ⟨_, Ret_of [.bool true] ⟨⟨rfl, rfl⟩, trivial⟩, _, H, rfl, X87.ext⟩

set_option maxRecDepth 8000 in
set_option maxHeartbeats 4000000 in
theorem spec_fSub_w (a : Frac) (b : Frac) (Q : Frac → Bool → Prop) (H : spec_fSub a b Q) (w : World)  :
    CallsTo Try.prog 116 #[.agg #[I a.Num, I a.Den], .agg #[I b.Num, I b.Den]] w fun v w' => ∃ r0 r1, Q r0 r1 ∧ v = .tuple #[.agg #[I r0.Num, I r0.Den], .bool r1] ∧ Ext w w' := by
  refine enter (args := [.agg #[I a.Num, I a.Den], .agg #[I b.Num, I b.Den]]) 25 Try.func116 rfl rfl rfl ?_
  refine W_forget [(0, .agg #[I a.Num, I a.Den]), (1, .agg #[I b.Num, I b.Den])] ⟨rfl, rfl, trivial⟩ fun ρ => ?_
  have X := But.refl emp w
  refine W_seq ?_
  refine W_region ?_
  refine LP_box 0 (cs := [I a.Num, I a.Den]) rfl rfl rfl rfl rfl fun b1 wx x ex f => ?_
  refine LP_box 1 (cs := [I b.Num, I b.Den]) rfl rfl rfl rfl rfl fun b2 wx3 x4 ex5 f6 => ?_
  refine LP_alloc 2 rfl rfl rfl ti_34 rfl fun b7 wx8 x9 ex10 f11 => ?_
  refine LP_ev ok 3 [(5, .bool false)] 4 rfl rfl ?_
  refine LP_end _ rfl ?_
  refine W_seq ?_
  refine W_region ?_
  refine LP_ev ok 0 [(6, .pointer (some ⟨b1, 0, none⟩))] 1 rfl rfl ?_
  have ex12 := ((ex.ext x4).ext x9)
  refine LP_ldbox 1 (v := I a.Num) rfl rfl rfl ti_3 ag_3 (fun _ => rfl) rfl ex12 rfl rfl ?_
  refine LP_ev ok 2 [(8, .pointer (some ⟨b2, 1, none⟩))] 3 rfl rfl ?_
  have ex13 := (ex5.ext x9)
  refine LP_ldbox 3 (v := I b.Den) rfl rfl rfl ti_3 ag_3 (fun _ => rfl) rfl ex13 rfl rfl ?_
  refine LP_ev ok 4 [(10, I (wr (a.Num * b.Den))), (11, .pointer (some ⟨b2, 0, none⟩))] 6 rfl rfl ?_
  refine LP_ldbox 6 (v := I b.Num) rfl rfl rfl ti_3 ag_3 (fun _ => rfl) rfl ex13 rfl rfl ?_
  refine LP_ev ok 7 [(13, .pointer (some ⟨b1, 1, none⟩))] 8 rfl rfl ?_
  refine LP_ldbox 8 (v := I a.Den) rfl rfl rfl ti_3 ag_3 (fun _ => rfl) rfl ex12 rfl rfl ?_
  refine LP_ev ok 9 [(15, I (wr (b.Num * a.Den))), (16, I (wr ((wr (a.Num * b.Den)) - (wr (b.Num * a.Den))))), (17, .pointer (some ⟨b1, 1, none⟩))] 12 rfl rfl ?_
  refine LP_ldbox 12 (v := I a.Den) rfl rfl rfl ti_3 ag_3 (fun _ => rfl) rfl ex12 rfl rfl ?_
  refine LP_ev ok 13 [(19, .pointer (some ⟨b2, 1, none⟩))] 14 rfl rfl ?_
  refine LP_ldbox 14 (v := I b.Den) rfl rfl rfl ti_3 ag_3 (fun _ => rfl) rfl ex13 rfl rfl ?_
  refine LP_ev ok 15 [(21, I (wr (a.Den * b.Den)))] 16 rfl rfl ?_
  refine LP_call 16 rfl rfl rfl cal_90 rfl (spec_fMake_w _ _ _ H wx8 ) ?_
  rintro _ wx15 ⟨r, r14, H, rfl, x16⟩
  refine LP_ev ok 17 [(23, .agg #[I r.Num, I r.Den]), (24, .bool r14)] 19 rfl rfl ?_
  have ex19 := (ex10.ext x16)
  refine LP_stbox 19 (vs := [I r.Num, I r.Den]) (cs' := [I r.Num, I r.Den]) rfl rfl rfl ti_34 rfl rfl rfl rfl rfl ex19 rfl rfl fun wx17 ex18 y => ?_
  refine LP_ev ok 20 [(5, .bool r14)] 21 rfl rfl ?_
  refine LP_end _ rfl ?_
  try refine W_forget [(4, .pointer (some ⟨b7, 0, none⟩)), (5, .bool r14)] ⟨rfl, rfl, trivial⟩ fun ρ => ?_
  refine W_ret ?_
  have X21 := ((X.stepx x).stepx x4)
  have f20 := f11.mono X21.size
  have X22 := (((((X.stepx x).stepx x4).stepx x9).stepx x16).step y (f20.dom _))
  exact ⟨_, Ret_of [.agg #[I r.Num, I r.Den], .bool r14] ⟨⟨_, rfl, rfl, ld_res ti_34 ag_34 (fun h => by cases h) ex18 rfl rfl⟩, ⟨rfl, rfl⟩, trivial⟩, _, _, H, rfl, X22.ext⟩

set_option maxRecDepth 8000 in
set_option maxHeartbeats 4000000 in
theorem spec_DissimilarityOf_w (a : List Int) (b : List Int) (Q : Frac → Bool → Prop) (H : spec_DissimilarityOf a b Q) (w : World) {vx : Value} {hx : PH} (r : RS hx vx a) (ex : Sub hx w) {vx2 : Value} {hx3 : PH} (r4 : RS hx3 vx2 b) (ex5 : Sub hx3 w) :
    CallsTo Try.prog 55 #[vx, vx2] w fun v w' => ∃ r0 r1, Q r0 r1 ∧ v = .tuple #[.agg #[I r0.Num, I r0.Den], .bool r1] ∧ Ext w w' := by
  obtain ⟨a1, c, rfl⟩ := r.shape
  obtain ⟨a6, c7, rfl⟩ := r4.shape
  refine enter (args := [.slice a1 (List.length a) c, .slice a6 (List.length b) c7]) 90 Try.func55 rfl rfl rfl ?_
  refine W_forget [(0, .slice a1 (List.length a) c), (1, .slice a6 (List.length b) c7)] ⟨rfl, rfl, trivial⟩ fun ρ => ?_
  have X := But.refl emp w
  refine W_seq ?_
  refine W_region ?_
  refine LP_alloc 0 rfl rfl rfl ti_34 rfl fun b8 wx x ex9 f => ?_
  refine LP_ev ok 1 [(5, .bool false)] 2 rfl rfl ?_
  refine LP_end _ rfl ?_
  refine W_seq ?_
  obtain ⟨k, hk, H⟩ := jn_elim H
  refine W_join2 (S := Bool) (fun s ρ' w' => k s ∧ ∃ (ρ : Env), ρ' = setAll [(0, .slice a1 (List.length a) c), (1, .slice a6 (List.length b) c7), (4, .pointer (some ⟨b8, 0, none⟩)), (30, .bool s)] ρ ∧ But emp w w' ∧ Sub hx w' ∧ Sub hx3 w' ∧ Sub (bx b8 34 [I 0, I 0]) w') ?_ ?_
  · refine W_region ?_
    refine LP_ev ok 0 [(16, .slice a1 (List.length a) c)] 1 rfl rfl ?_
    have ex17 := (ex.ext x)
    refine LP_call 1 rfl rfl rfl cal_88 rfl (spec_oCounts_w _ _ H wx r ex17) ?_
    rintro _ wx18 ⟨r16, H, rfl, x19⟩
    refine LP_ev ok 2 [(18, .bool (!r16)), (19, .bool (!r16))] 4 rfl rfl ?_
    refine LP_split 19 (!r16) rfl (fun hc => ?_) (fun hc => ?_)
    · have H := H.1 hc
      refine LP_ev ok 4 [(20, undef), (21, undef), (22, undef), (23, .bool true), (24, .bool true), (25, undef), (26, undef), (27, undef), (28, undef), (29, undef), (30, .bool true)] 15 rfl rfl ?_
      refine LP_end _ rfl ?_
      have X20 := ((X.stepx x).stepx x19)
      have ex21 := (ex17.ext x19)
      have ex22 := ((ex5.ext x).ext x19)
      have ex23 := (ex9.ext x19)
      exact ⟨true, H, _, env_eq ⟨rfl, rfl, rfl, rfl, trivial⟩, X20, ex21, ex22, ex23⟩
    have H := H.2 hc
    refine LP_ev ok 4 [(20, .slice a6 (List.length b) c7)] 5 rfl rfl ?_
    have ex25 := ((ex5.ext x).ext x19)
    refine LP_call 5 rfl rfl rfl cal_88 rfl (spec_oCounts_w _ _ H wx18 r4 ex25) ?_
    rintro _ wx26 ⟨r24, H, rfl, x27⟩
    refine LP_ev ok 6 [(22, .bool (!r24)), (23, .bool (!r24)), (24, .bool (!r24))] 9 rfl rfl ?_
    refine LP_split 24 (!r24) rfl (fun hc28 => ?_) (fun hc28 => ?_)
    · have H := H.1 hc28
      refine LP_ev ok 9 [(25, undef), (26, undef), (27, undef), (28, undef), (29, undef), (30, .bool true)] 15 rfl rfl ?_
      refine LP_end _ rfl ?_
      have X29 := (((X.stepx x).stepx x19).stepx x27)
      have ex30 := ((ex17.ext x19).ext x27)
      have ex31 := (ex25.ext x27)
      have ex32 := ((ex9.ext x19).ext x27)
      exact ⟨true, H, _, env_eq ⟨rfl, rfl, rfl, rfl, trivial⟩, X29, ex30, ex31, ex32⟩
    have H := H.2 hc28
    refine LP_ev ok 9 [(25, .slice a1 (List.length a) c), (26, I (ln a)), (27, .slice a6 (List.length b) c7), (28, I (ln b)), (29, .bool ((ln a) != (ln b))), (30, .bool ((ln a) != (ln b)))] 15 rfl rfl ?_
    refine LP_end _ rfl ?_
    have X33 := (((X.stepx x).stepx x19).stepx x27)
    have ex34 := ((ex17.ext x19).ext x27)
    have ex35 := (ex25.ext x27)
    have ex36 := ((ex9.ext x19).ext x27)
    exact ⟨(ln a) != (ln b), H, _, env_eq ⟨rfl, rfl, rfl, rfl, trivial⟩, X33, ex34, ex35, ex36⟩
  rintro x10 _ wx11 ⟨H, ρ, rfl, X15, ex12, ex13, ex14⟩
  subst hk
  refine W_cond (x10) rfl (fun hc37 => ?_) (fun hc37 => ?_)
  · have H := H.1 hc37
    refine W_seq ?_
    refine W_region ?_
    refine LP_ev ok 0 [(31, .agg #[I 0, I 0])] 1 rfl rfl ?_
    refine LP_stbox 1 (vs := [I 0, I 0]) (cs' := [I 0, I 0]) rfl rfl rfl ti_34 rfl rfl rfl rfl rfl ex14 rfl rfl fun wx38 ex39 y => ?_
    refine LP_ev ok 2 [(5, .bool false)] 3 rfl rfl ?_
    refine LP_end _ rfl ?_
    refine W_ret ?_
    have f40 := f.mono X.size
    have X41 := (X15.step y (f40.dom _))
    exact ⟨_, Ret_of [.agg #[I 0, I 0], .bool false] ⟨⟨_, rfl, rfl, ld_res ti_34 ag_34 (fun h => by cases h) ex39 rfl rfl⟩, ⟨rfl, rfl⟩, trivial⟩, _, _, H, rfl, X41.ext⟩
  have H := H.2 hc37
  refine W_skip ?_
  refine W_seq ?_
  refine W_region ?_
  refine LP_ev ok 0 [(33, .slice a1 (List.length a) c)] 1 rfl rfl ?_
  refine LP_call 1 rfl rfl rfl cal_109 rfl (spec_oShares_w _ _ H wx11 r ex12) ?_
  rintro _ wx44 ⟨r42, r43, vx46, hx47, H, rfl, x45, o, ex48, f49⟩
  obtain ⟨a50, c51, rfl⟩ := o.shape
  refine LP_ev ok 2 [(32, .tuple #[.slice a50 (List.length r42) c51, .bool r43]), (35, .slice a50 (List.length r42) c51), (36, .bool r43), (6, .slice a50 (List.length r42) c51), (7, .bool r43)] 7 rfl rfl ?_
  refine LP_end _ rfl ?_
  refine W_seq ?_
  refine W_region ?_
  refine LP_ev ok 0 [(38, .slice a6 (List.length b) c7)] 1 rfl rfl ?_
  have ex54 := (ex13.ext x45)
  refine LP_call 1 rfl rfl rfl cal_109 rfl (spec_oShares_w _ _ H wx44 r4 ex54) ?_
  rintro _ wx55 ⟨r52, r53, vx57, hx58, H, rfl, x56, o59, ex60, f61⟩
  obtain ⟨a62, c63, rfl⟩ := o59.shape
  refine LP_ev ok 2 [(37, .tuple #[.slice a62 (List.length r52) c63, .bool r53]), (40, .slice a62 (List.length r52) c63), (41, .bool r53), (8, .slice a62 (List.length r52) c63), (9, .bool r53)] 7 rfl rfl ?_
  refine LP_end _ rfl ?_
  refine W_seq ?_
  obtain ⟨k66, hk67, H⟩ := jn_elim H
  refine W_join2 (S := Bool) (fun s ρ' w' => k66 s ∧ ∃ (ρ : Env), ρ' = setAll [(4, .pointer (some ⟨b8, 0, none⟩)), (6, .slice a50 (List.length r42) c51), (8, .slice a62 (List.length r52) c63), (47, .bool s)] ρ ∧ wx55 = w') ?_ ?_
  · refine W_region ?_
    refine LP_ev ok 0 [(42, .bool r43), (43, .bool (!r43)), (44, .bool (!r43))] 3 rfl rfl ?_
    refine LP_split 44 (!r43) rfl (fun hc68 => ?_) (fun hc68 => ?_)
    · have H := H.1 hc68
      refine LP_ev ok 3 [(45, undef), (46, undef), (47, .bool true)] 6 rfl rfl ?_
      refine LP_end _ rfl ?_
      exact ⟨true, H, _, env_eq ⟨rfl, rfl, rfl, rfl, trivial⟩, rfl⟩
    have H := H.2 hc68
    refine LP_ev ok 3 [(45, .bool r53), (46, .bool (!r53)), (47, .bool (!r53))] 6 rfl rfl ?_
    refine LP_end _ rfl ?_
    exact ⟨!r53, H, _, env_eq ⟨rfl, rfl, rfl, rfl, trivial⟩, rfl⟩
  rintro x64 _ _ ⟨H, ρ, rfl, rfl⟩
  subst hk67
  refine W_cond (x64) rfl (fun hc69 => ?_) (fun hc69 => ?_)
  · have H := H.1 hc69
    refine W_seq ?_
    refine W_region ?_
    refine LP_ev ok 0 [(48, .agg #[I 0, I 0])] 1 rfl rfl ?_
    have ex73 := ((ex14.ext x45).ext x56)
    refine LP_stbox 1 (vs := [I 0, I 0]) (cs' := [I 0, I 0]) rfl rfl rfl ti_34 rfl rfl rfl rfl rfl ex73 rfl rfl fun wx70 ex71 y72 => ?_
    refine LP_ev ok 2 [(5, .bool false)] 3 rfl rfl ?_
    refine LP_end _ rfl ?_
    refine W_ret ?_
    have f74 := f.mono X.size
    have X75 := (((X15.stepx x45).stepx x56).step y72 (f74.dom _))
    exact ⟨_, Ret_of [.agg #[I 0, I 0], .bool false] ⟨⟨_, rfl, rfl, ld_res ti_34 ag_34 (fun h => by cases h) ex71 rfl rfl⟩, ⟨rfl, rfl⟩, trivial⟩, _, _, H, rfl, X75.ext⟩
  have H := H.2 hc69
  refine W_skip ?_
  refine W_seq ?_
  refine W_region ?_
  refine LP_call 0 rfl rfl rfl cal_111 rfl (spec_fInt_w _ _ H wx55 ) ?_
  rintro _ wx77 ⟨r76, H, rfl, x78⟩
  refine LP_alloc 1 rfl rfl rfl ti_34 rfl fun b79 wx80 x81 ex82 f83 => ?_
  refine LP_stbox 2 (vs := [I r76.Num, I r76.Den]) (cs' := [I r76.Num, I r76.Den]) rfl rfl rfl ti_34 rfl rfl rfl rfl rfl ex82 rfl rfl fun wx84 ex85 y86 => ?_
  refine LP_end _ rfl ?_
  refine W_seq ?_
  refine W_seq ?_
  refine W_region ?_
  refine LP_ev ok 0 [(50, .slice a50 (List.length r42) c51), (51, I (ln r42)), (52, I 0)] 3 rfl rfl ?_
  refine LP_end _ rfl ?_
  refine W_block ?_
  obtain ⟨J, m, Hx, H⟩ := H
  have X95 := (((X15.stepx x45).stepx x56).stepx x78)
  have f94 := f83.mono X95.size
  have X96 := (((((X15.stepx x45).stepx x56).stepx x78).stepx x81).step y86 (f94.dom _))
  have ex97 := (((ex14.ext x45).ext x56).ext x78)
  have ex98 := (((((ex14.ext x45).ext x56).ext x78).ext x81).but y86 (Dj.of_fresh ex97 f83).symm)
  have ex99 := ((ex48.ext x56).ext x78)
  have ex100 := ((((ex48.ext x56).ext x78).ext x81).but y86 (Dj.of_fresh ex99 f83).symm)
  have ex101 := (ex60.ext x78)
  have ex102 := (((ex60.ext x78).ext x81).but y86 (Dj.of_fresh ex101 f83).symm)
  refine W_loop (S := Int × Int × Int) (fun s ρ' w' => J s.1 s.2.1 s.2.2 ∧ ∃ (ρ : Env), ρ' = setAll [(4, .pointer (some ⟨b8, 0, none⟩)), (6, .slice a50 (List.length r42) c51), (8, .slice a62 (List.length r52) c63), (10, .pointer (some ⟨b79, 0, none⟩)), (51, I (ln r42)), (52, I s.1)] ρ ∧ But emp w w' ∧ Sub (bx b8 34 [I 0, I 0]) w' ∧ Sub hx47 w' ∧ Sub hx58 w' ∧ Sub (bx b79 34 [I s.2.1, I s.2.2]) w') (fun s => m s.1 s.2.1 s.2.2) (0, r76.Num, r76.Den) ⟨Hx, _, env_eq ⟨rfl, rfl, rfl, rfl, rfl, rfl, trivial⟩, X96, ex98, ex100, ex102, ex85⟩ ?_
  rintro ⟨x87, num, den⟩ _ wx88 ⟨Hi, ρ, rfl, X93, ex89, ex90, ex91, ex92⟩
  have H := H x87 num den Hi
  refine W_seq ?_
  refine W_region ?_
  refine LP_ev ok 0 [(53, .bool (decide (x87 < (ln r42))))] 1 rfl rfl ?_
  refine LP_end _ rfl ?_
  refine W_seq ?_
  refine W_cond (decide (x87 < (ln r42))) rfl (fun hc103 => ?_) (fun hc103 => ?_)
  · have H := H.1 hc103
    refine W_skip ?_
    refine W_seq ?_
    refine W_block ?_
    refine W_seq ?_
    refine W_region ?_
    refine LP_ev ok 0 [(54, I x87), (11, I x87)] 2 rfl rfl ?_
    refine LP_end _ rfl ?_
    refine W_seq ?_
    obtain ⟨x104, hi, hx105, H⟩ := H
    obtain ⟨a106, cs, hx108, r107, d⟩ := run_indexAt Try.underlying44 ti_34 o.readf .i64 _ x104 hi hx105
    obtain ⟨vx109, hx111, r110⟩ := run_loadAt ti_34 ag_34 r107 d
    obtain rfl := Frac_rv r110
    obtain ⟨x112, hi113, hx114, H⟩ := H
    obtain ⟨a115, cs116, hx119, r117, d118⟩ := run_indexAt Try.underlying44 ti_34 o59.readf .i64 _ x112 hi113 hx114
    obtain ⟨vx120, hx122, r121⟩ := run_loadAt ti_34 ag_34 r117 d118
    obtain rfl := Frac_rv r121
    obtain ⟨r123, r124, Hd, H⟩ := H
    refine W_anyL 14 [[], [], [0, 1], [0, 1, 2], [], [], [4, 5], [4, 5, 6], [0, 1, 2, 3, 4, 5, 6, 7], [0, 1, 2, 3, 4, 5, 6, 7, 8], [0, 1, 2, 3, 4, 5, 6, 7, 8, 9], [0, 1, 2, 3, 4, 5, 6, 7, 8, 9], [], [0, 1, 2, 3, 4, 5, 6, 7, 8, 9, 10, 12], [0, 1, 2, 3, 4, 5, 6, 7, 8, 9, 10, 11, 12, 13]] [[(6, none)], [(11, none)], [(56, some 0), (57, some 1)], [(58, some 2)], [(8, none)], [(11, none)], [(60, some 4), (61, some 5)], [(62, some 6)], [(59, some 3), (63, some 7)], [(64, some 8)], [(55, some 9)], [(55, some 9)], [], [(12, some 12), (65, some 10)]] [(4, none), (6, none), (8, none), (10, none), (12, some 12), (51, none), (52, none), (66, some 11)] 34 [I 0, I 0] [I r123.Num, I r123.Den] [.slice a50 (List.length r42) c51, I x87, .pointer (some a106), .agg #[I x104.Num, I x104.Den], .slice a62 (List.length r52) c63, I x87, .pointer (some a115), .agg #[I x112.Num, I x112.Den], .tuple #[.agg #[I r123.Num, I r123.Den], .bool r124], .tuple #[.agg #[I r123.Num, I r123.Den], .bool r124], .agg #[I r123.Num, I r123.Den], .bool r124, undef, undef] (some 12) (some 13) mix (by kernel_rfl) (fun _ h => by cases h; exact ⟨_, rfl, by decide, by decide, by decide⟩) (fun _ h => by cases h; decide)
      ⟨K_ev ok [(6, .slice a50 (List.length r42) c51)] (.slice a50 (List.length r42) c51) (by decide) (by decide) (fun _ _ h => h) rfl (fun _ => rfl),
        K_ev ok [(11, I x87)] (I x87) (by decide) (by decide) (fun _ _ h => h) rfl (fun _ => rfl),
        K_run [(56, .slice a50 (List.length r42) c51), (57, I x87)] (.pointer (some a106)) (by decide) (by decide) (fun _ _ h => h) rfl (fun _ _ _ => ex_index rfl rfl rfl (hx108 _)),
        K_run [(58, .pointer (some a106))] (.agg #[I x104.Num, I x104.Den]) (by decide) (by decide) (fun _ _ h => h) rfl (fun _ w x => ex_load rfl rfl (hx111 w (ex90.ext x))),
        K_ev ok [(8, .slice a62 (List.length r52) c63)] (.slice a62 (List.length r52) c63) (by decide) (by decide) (fun _ _ h => h) rfl (fun _ => rfl),
        K_ev ok [(11, I x87)] (I x87) (by decide) (by decide) (fun _ _ h => h) rfl (fun _ => rfl),
        K_run [(60, .slice a62 (List.length r52) c63), (61, I x87)] (.pointer (some a115)) (by decide) (by decide) (fun _ _ h => h) rfl (fun _ _ _ => ex_index rfl rfl rfl (hx119 _)),
        K_run [(62, .pointer (some a115))] (.agg #[I x112.Num, I x112.Den]) (by decide) (by decide) (fun _ _ h => h) rfl (fun _ w x => ex_load rfl rfl (hx122 w (ex91.ext x))),
        K_call [(59, .agg #[I x104.Num, I x104.Den]), (63, .agg #[I x112.Num, I x112.Den])] (.tuple #[.agg #[I r123.Num, I r123.Den], .bool r124]) (by decide) (by decide) (fun _ _ h => h) rfl rfl cal_116 (fun _ => rfl) (fun w x => (spec_fSub_w _ _ _ Hd w ).mono (fun _ _ h => by obtain ⟨_, _, ⟨rfl, rfl⟩, rfl, x⟩ := h; exact ⟨rfl, x⟩)),
        K_ev ok [(64, .tuple #[.agg #[I r123.Num, I r123.Den], .bool r124])] (.tuple #[.agg #[I r123.Num, I r123.Den], .bool r124]) (by decide) (by decide) (fun _ _ h => h) rfl (fun _ => rfl),
        K_ev ok [(55, .tuple #[.agg #[I r123.Num, I r123.Den], .bool r124])] (.agg #[I r123.Num, I r123.Den]) (by decide) (by decide) (fun _ _ h => h) rfl (fun _ => rfl),
        K_ev ok [(55, .tuple #[.agg #[I r123.Num, I r123.Den], .bool r124])] (.bool r124) (by decide) (by decide) (fun _ _ h => h) rfl (fun _ => rfl),
        K_alloc rfl (by decide) rfl rfl ti_34 rfl,
        K_store (off := 0) (fun b => [(12, .pointer (some ⟨b, 0, none⟩)), (65, .agg #[I r123.Num, I r123.Den])]) (by decide) rfl rfl (fun _ _ h => h) rfl ti_34 (fun _ _ => rfl) (fun _ _ => rfl) rfl rfl rfl rfl rfl, trivial⟩
      (fun b125 ρ wx126 x127 hn hA => ?_)
    obtain ⟨hb, hs, hs128⟩ := hA rfl
    have ex129 := hs rfl
    have f130 : Fresh wx88.heap.size (bx b125 34 [I r123.Num, I r123.Den]) := single_fresh hb
    refine LP_forget [(4, .pointer (some ⟨b8, 0, none⟩)), (6, .slice a50 (List.length r42) c51), (8, .slice a62 (List.length r52) c63), (10, .pointer (some ⟨b79, 0, none⟩)), (12, .pointer (some ⟨b125, 0, none⟩)), (51, I (ln r42)), (52, I x87), (66, .bool r124)] (by exact hn) fun ρ => ?_
    refine LP_ev ok 14 [(13, .bool r124)] 15 rfl rfl ?_
    refine LP_end _ rfl ?_
    refine W_seq ?_
    refine W_region ?_
    refine LP_ev ok 0 [(67, .pointer (some ⟨b125, 0, none⟩))] 1 rfl rfl ?_
    refine LP_ldbox 1 (v := I r123.Num) rfl rfl rfl ti_3 ag_3 (fun _ => rfl) rfl ex129 rfl rfl ?_
    refine LP_call 2 rfl rfl rfl cal_89 rfl (spec_l1Abs_w _ _ H wx126 ) ?_
    rintro _ wx132 ⟨r131, H, rfl, x133⟩
    refine LP_ev ok 3 [(70, .pointer (some ⟨b125, 0, none⟩))] 4 rfl rfl ?_
    have ex137 := (ex129.ext x133)
    refine LP_stbox 4 (vs := [I r131]) (cs' := [I r131, I r123.Den]) rfl rfl rfl ti_3 rfl rfl rfl rfl rfl ex137 rfl rfl fun wx134 ex135 y136 => ?_
    refine LP_end _ rfl ?_
    refine W_seq ?_
    refine W_seq ?_
    refine W_region ?_
    refine LP_ev ok 0 [(71, .bool r124), (72, .bool (!r124))] 2 rfl rfl ?_
    refine LP_end _ rfl ?_
    refine W_cond (!r124) rfl (fun hc138 => ?_) (fun hc138 => ?_)
    · have H := H.1 hc138
      refine W_seq ?_
      refine W_region ?_
      refine LP_ev ok 0 [(73, .agg #[I 0, I 0])] 1 rfl rfl ?_
      have ex142 := (((ex89.ext x127).ext x133).but y136 (Dj.of_fresh ex89 f130).symm)
      refine LP_stbox 1 (vs := [I 0, I 0]) (cs' := [I 0, I 0]) rfl rfl rfl ti_34 rfl rfl rfl rfl rfl ex142 rfl rfl fun wx139 ex140 y141 => ?_
      refine LP_ev ok 2 [(5, .bool false)] 3 rfl rfl ?_
      refine LP_end _ rfl ?_
      refine W_ret ?_
      have f143 := f130.mono X93.size
      have f144 := f.mono X.size
      have X145 := ((((X93.stepx x127).stepx x133).step y136 (f143.dom _)).step y141 (f144.dom _))
      exact ⟨_, Ret_of [.agg #[I 0, I 0], .bool false] ⟨⟨_, rfl, rfl, ld_res ti_34 ag_34 (fun h => by cases h) ex140 rfl rfl⟩, ⟨rfl, rfl⟩, trivial⟩, _, _, H, rfl, X145.ext⟩
    have H := H.2 hc138
    refine W_skip ?_
    refine W_seq ?_
    refine W_region ?_
    have ex146 := (((ex92.ext x127).ext x133).but y136 (Dj.of_fresh ex92 f130).symm)
    refine LP_ldbox 0 (v := .agg #[I num, I den]) rfl rfl rfl ti_34 ag_34 (fun h => by cases h) rfl ex146 rfl rfl ?_
    refine LP_ldbox 1 (v := .agg #[I r131, I r123.Den]) rfl rfl rfl ti_34 ag_34 (fun h => by cases h) rfl ex135 rfl rfl ?_
    refine LP_call 2 rfl rfl rfl cal_113 rfl (spec_fAdd_w _ _ _ H wx134 ) ?_
    rintro _ wx149 ⟨r147, r148, H, rfl, x150⟩
    refine LP_ev ok 3 [(74, .tuple #[.agg #[I r147.Num, I r147.Den], .bool r148]), (78, .agg #[I r147.Num, I r147.Den]), (79, .bool r148)] 6 rfl rfl ?_
    refine LP_alloc 6 rfl rfl rfl ti_34 rfl fun b151 wx152 x153 ex154 f155 => ?_
    refine LP_stbox 7 (vs := [I r147.Num, I r147.Den]) (cs' := [I r147.Num, I r147.Den]) rfl rfl rfl ti_34 rfl rfl rfl rfl rfl ex154 rfl rfl fun wx156 ex157 y158 => ?_
    refine LP_ev ok 8 [(15, .bool r148)] 9 rfl rfl ?_
    refine LP_end _ rfl ?_
    refine W_seq ?_
    refine W_seq ?_
    refine W_region ?_
    refine LP_ev ok 0 [(80, .bool r148), (81, .bool (!r148))] 2 rfl rfl ?_
    refine LP_end _ rfl ?_
    refine W_cond (!r148) rfl (fun hc159 => ?_) (fun hc159 => ?_)
    · have H := H.1 hc159
      refine W_seq ?_
      refine W_region ?_
      refine LP_ev ok 0 [(82, .agg #[I 0, I 0])] 1 rfl rfl ?_
      have ex163 := ((((ex89.ext x127).ext x133).but y136 (Dj.of_fresh ex89 f130).symm).ext x150)
      have ex164 := ((((((ex89.ext x127).ext x133).but y136 (Dj.of_fresh ex89 f130).symm).ext x150).ext x153).but y158 (Dj.of_fresh ex163 f155).symm)
      refine LP_stbox 1 (vs := [I 0, I 0]) (cs' := [I 0, I 0]) rfl rfl rfl ti_34 rfl rfl rfl rfl rfl ex164 rfl rfl fun wx160 ex161 y162 => ?_
      refine LP_ev ok 2 [(5, .bool false)] 3 rfl rfl ?_
      refine LP_end _ rfl ?_
      refine W_ret ?_
      have f165 := f130.mono X93.size
      have X167 := ((((X93.stepx x127).stepx x133).step y136 (f165.dom _)).stepx x150)
      have f166 := f155.mono X167.size
      have f168 := f.mono X.size
      have X169 := (((((((X93.stepx x127).stepx x133).step y136 (f165.dom _)).stepx x150).stepx x153).step y158 (f166.dom _)).step y162 (f168.dom _))
      exact ⟨_, Ret_of [.agg #[I 0, I 0], .bool false] ⟨⟨_, rfl, rfl, ld_res ti_34 ag_34 (fun h => by cases h) ex161 rfl rfl⟩, ⟨rfl, rfl⟩, trivial⟩, _, _, H, rfl, X169.ext⟩
    have H := H.2 hc159
    refine W_skip ?_
    refine W_region ?_
    refine LP_ldbox 0 (v := .agg #[I r147.Num, I r147.Den]) rfl rfl rfl ti_34 ag_34 (fun h => by cases h) rfl ex157 rfl rfl ?_
    have ex173 := (ex146.ext x150)
    have ex174 := (((ex146.ext x150).ext x153).but y158 (Dj.of_fresh ex173 f155).symm)
    refine LP_stbox 1 (vs := [I r147.Num, I r147.Den]) (cs' := [I r147.Num, I r147.Den]) rfl rfl rfl ti_34 rfl rfl rfl rfl rfl ex174 rfl rfl fun wx170 ex171 y172 => ?_
    refine LP_end _ rfl ?_
    refine W_region ?_
    refine LP_ev ok 0 [(84, I (wr (x87 + 1))), (52, I (wr (x87 + 1)))] 2 rfl rfl ?_
    refine LP_end _ rfl ?_
    have f175 := f130.mono X93.size
    have X177 := ((((X93.stepx x127).stepx x133).step y136 (f175.dom _)).stepx x150)
    have f176 := f155.mono X177.size
    have X178 := (((((((X93.stepx x127).stepx x133).step y136 (f175.dom _)).stepx x150).stepx x153).step y158 (f176.dom _)).step y172 ((Fresh.box f94).dom _))
    have ex179 := ((((ex89.ext x127).ext x133).but y136 (Dj.of_fresh ex89 f130).symm).ext x150)
    have ex180 := (((ex14.ext x45).ext x56).ext x78)
    have ex181 := (((((((ex89.ext x127).ext x133).but y136 (Dj.of_fresh ex89 f130).symm).ext x150).ext x153).but y158 (Dj.of_fresh ex179 f155).symm).but y172 (Dj.box (Dj.of_fresh ex180 f83).symm))
    have ex182 := ((((ex90.ext x127).ext x133).but y136 (Dj.of_fresh ex90 f130).symm).ext x150)
    have ex183 := ((ex48.ext x56).ext x78)
    have ex184 := (((((((ex90.ext x127).ext x133).but y136 (Dj.of_fresh ex90 f130).symm).ext x150).ext x153).but y158 (Dj.of_fresh ex182 f155).symm).but y172 (Dj.box (Dj.of_fresh ex183 f83).symm))
    have ex185 := ((((ex91.ext x127).ext x133).but y136 (Dj.of_fresh ex91 f130).symm).ext x150)
    have ex186 := (ex60.ext x78)
    have ex187 := (((((((ex91.ext x127).ext x133).but y136 (Dj.of_fresh ex91 f130).symm).ext x150).ext x153).but y158 (Dj.of_fresh ex185 f155).symm).but y172 (Dj.box (Dj.of_fresh ex186 f83).symm))
    exact ⟨(wr (x87 + 1), r147.Num, r147.Den), ⟨H.1, _, env_eq ⟨rfl, rfl, rfl, rfl, rfl, rfl, trivial⟩, X178, ex181, ex184, ex187, ex171⟩, H.2⟩
  have H := H.2 hc103
  refine W_exit ?_
  refine (if_pos rfl).mpr ?_
  refine W_seq ?_
  refine W_open mix fun wx188 x189 => ?_
  have ex190 := (ex92.ext x189)
  obtain ⟨r191, Hd192, H⟩ := H
  obtain ⟨r193, r194, Hd195, H⟩ := H
  refine AP_stageL (St := Ext) rel_ext 0 5 [[], [], [0, 1], [0, 1, 2], [0, 1, 2], [0, 1, 2, 3, 4], [0, 1, 2, 3, 4, 5]] [[(10, none)], [], [(85, some 0), (86, some 1)], [(87, some 2)], [(87, some 2)]] [(4, none), (88, some 3), (89, some 4)] [.agg #[I num, I den], .agg #[I r191.Num, I r191.Den], .tuple #[.agg #[I r193.Num, I r193.Den], .bool r194], .agg #[I r193.Num, I r193.Den], .bool r194] [] [] (by kernel_rfl) (by decide) rfl
    ⟨C_run [(10, .pointer (some ⟨b79, 0, none⟩))] (.agg #[I num, I den]) (by decide) (fun _ h => h) rfl (fun _ w x => ex_ldbox rfl ti_34 ag_34 (fun h => by cases h) rfl (ex190.ext x) rfl rfl),
      C_call [] (.agg #[I r191.Num, I r191.Den]) (by decide) (fun _ h => h) rfl rfl cal_111 (fun _ => rfl) (fun w x => (spec_fInt_w _ _ Hd192 w ).mono (fun _ _ h => by obtain ⟨_, rfl, rfl, x⟩ := h; exact ⟨rfl, x⟩)),
      C_call [(85, .agg #[I num, I den]), (86, .agg #[I r191.Num, I r191.Den])] (.tuple #[.agg #[I r193.Num, I r193.Den], .bool r194]) (by decide) (fun _ h => h) rfl rfl cal_107 (fun _ => rfl) (fun w x => (spec_fDiv_w _ _ _ Hd195 w ).mono (fun _ _ h => by obtain ⟨_, _, ⟨rfl, rfl⟩, rfl, x⟩ := h; exact ⟨rfl, x⟩)),
      C_ev ok [(87, .tuple #[.agg #[I r193.Num, I r193.Den], .bool r194])] (.agg #[I r193.Num, I r193.Den]) (by decide) (fun _ h => h) rfl (fun _ => rfl),
      C_ev ok [(87, .tuple #[.agg #[I r193.Num, I r193.Den], .bool r194])] (.bool r194) (by decide) (fun _ h => h) rfl (fun _ => rfl), trivial⟩ ?_
  intro wx196 x197 ρ hn198
  refine AP_forget [(4, .pointer (some ⟨b8, 0, none⟩)), (88, .agg #[I r193.Num, I r193.Den]), (89, .bool r194)] (by exact hn198) fun ρ => ?_
  refine AP_LP 5 [[], [], [0, 1], [0, 1, 2], [0, 1, 2], [0, 1, 2, 3, 4], [0, 1, 2, 3, 4, 5]] (by kernel_rfl) ?_
  have ex202 := ((ex89.ext x189).ext x197)
  refine LP_stbox 5 (vs := [I r193.Num, I r193.Den]) (cs' := [I r193.Num, I r193.Den]) rfl rfl rfl ti_34 rfl rfl rfl rfl rfl ex202 rfl rfl fun wx199 ex200 y201 => ?_
  refine LP_ev ok 6 [(5, .bool r194)] 7 rfl rfl ?_
  refine LP_end _ rfl ?_
  refine W_ret ?_
  have f203 := f.mono X.size
  have X204 := (((X93.stepx x189).stepx x197).step y201 (f203.dom _))
  exact ⟨_, Ret_of [.agg #[I r193.Num, I r193.Den], .bool r194] ⟨⟨_, rfl, rfl, ld_res ti_34 ag_34 (fun h => by cases h) ex200 rfl rfl⟩, ⟨rfl, rfl⟩, trivial⟩, _, _, H, rfl, X204.ext⟩

set_option maxRecDepth 8000 in
set_option maxHeartbeats 4000000 in
theorem impl_SubFrac_w (a : Frac) (b : Frac) (Q : Frac → Bool → Prop) (H : impl_SubFrac a b Q) (w : World)  :
    CallsTo Try.prog 148 #[.agg #[I a.Num, I a.Den], .agg #[I b.Num, I b.Den]] w fun v w' => ∃ r0 r1, Q r0 r1 ∧ v = .tuple #[.agg #[I r0.Num, I r0.Den], .bool r1] ∧ Ext w w' := by
  refine enter (args := [.agg #[I a.Num, I a.Den], .agg #[I b.Num, I b.Den]]) 34 Try.func148 rfl rfl rfl ?_
  refine W_forget [(0, .agg #[I a.Num, I a.Den]), (1, .agg #[I b.Num, I b.Den])] ⟨rfl, rfl, trivial⟩ fun ρ => ?_
  have X := But.refl emp w
  refine W_seq ?_
  refine W_region ?_
  refine LP_box 0 (cs := [I a.Num, I a.Den]) rfl rfl rfl rfl rfl fun b1 wx x ex f => ?_
  refine LP_box 1 (cs := [I b.Num, I b.Den]) rfl rfl rfl rfl rfl fun b2 wx3 x4 ex5 f6 => ?_
  refine LP_alloc 2 rfl rfl rfl ti_34 rfl fun b7 wx8 x9 ex10 f11 => ?_
  refine LP_ev ok 3 [(5, .bool false)] 4 rfl rfl ?_
  refine LP_end _ rfl ?_
  refine W_seq ?_
  obtain ⟨k, hk, H⟩ := jn_elim H
  refine W_join2 (S := Bool) (fun s ρ' w' => k s ∧ ∃ (ρ : Env), ρ' = setAll [(2, .pointer (some ⟨b1, 0, none⟩)), (3, .pointer (some ⟨b2, 0, none⟩)), (4, .pointer (some ⟨b7, 0, none⟩)), (13, .bool s)] ρ ∧ But emp w w' ∧ Sub (bx b1 34 [I a.Num, I a.Den]) w' ∧ Sub (bx b2 34 [I b.Num, I b.Den]) w' ∧ Sub (bx b7 34 [I 0, I 0]) w') ?_ ?_
  · refine W_region ?_
    have ex18 := ((ex.ext x4).ext x9)
    refine LP_ldbox 0 (v := .agg #[I a.Num, I a.Den]) rfl rfl rfl ti_34 ag_34 (fun h => by cases h) rfl ex18 rfl rfl ?_
    refine LP_call 1 rfl rfl rfl cal_101 rfl (impl_IsFrac_w _ _ H wx8 ) ?_
    rintro _ wx19 ⟨r, H, rfl, x20⟩
    refine LP_ev ok 2 [(8, .bool (!r)), (9, .bool (!r))] 4 rfl rfl ?_
    refine LP_split 9 (!r) rfl (fun hc => ?_) (fun hc => ?_)
    · have H := H.1 hc
      refine LP_ev ok 4 [(10, undef), (11, undef), (12, undef), (13, .bool true)] 8 rfl rfl ?_
      refine LP_end _ rfl ?_
      have X21 := ((((X.stepx x).stepx x4).stepx x9).stepx x20)
      have ex22 := (ex18.ext x20)
      have ex23 := ((ex5.ext x9).ext x20)
      have ex24 := (ex10.ext x20)
      exact ⟨true, H, _, env_eq ⟨rfl, rfl, rfl, rfl, trivial⟩, X21, ex22, ex23, ex24⟩
    have H := H.2 hc
    have ex25 := ((ex5.ext x9).ext x20)
    refine LP_ldbox 4 (v := .agg #[I b.Num, I b.Den]) rfl rfl rfl ti_34 ag_34 (fun h => by cases h) rfl ex25 rfl rfl ?_
    refine LP_call 5 rfl rfl rfl cal_101 rfl (impl_IsFrac_w _ _ H wx19 ) ?_
    rintro _ wx27 ⟨r26, H, rfl, x28⟩
    refine LP_ev ok 6 [(12, .bool (!r26)), (13, .bool (!r26))] 8 rfl rfl ?_
    refine LP_end _ rfl ?_
    have X29 := (((((X.stepx x).stepx x4).stepx x9).stepx x20).stepx x28)
    have ex30 := ((ex18.ext x20).ext x28)
    have ex31 := (ex25.ext x28)
    have ex32 := ((ex10.ext x20).ext x28)
    exact ⟨!r26, H, _, env_eq ⟨rfl, rfl, rfl, rfl, trivial⟩, X29, ex30, ex31, ex32⟩
  rintro x12 _ wx13 ⟨H, ρ, rfl, X17, ex14, ex15, ex16⟩
  subst hk
  refine W_cond (x12) rfl (fun hc33 => ?_) (fun hc33 => ?_)
  · have H := H.1 hc33
    refine W_seq ?_
    refine W_region ?_
    refine LP_ev ok 0 [(14, .agg #[I 0, I 0])] 1 rfl rfl ?_
    refine LP_stbox 1 (vs := [I 0, I 0]) (cs' := [I 0, I 0]) rfl rfl rfl ti_34 rfl rfl rfl rfl rfl ex16 rfl rfl fun wx34 ex35 y => ?_
    refine LP_ev ok 2 [(5, .bool false)] 3 rfl rfl ?_
    refine LP_end _ rfl ?_
    refine W_ret ?_
    have X37 := ((X.stepx x).stepx x4)
    have f36 := f11.mono X37.size
    have X38 := (X17.step y (f36.dom _))
    exact ⟨_, Ret_of [.agg #[I 0, I 0], .bool false] ⟨⟨_, rfl, rfl, ld_res ti_34 ag_34 (fun h => by cases h) ex35 rfl rfl⟩, ⟨rfl, rfl⟩, trivial⟩, _, _, H, rfl, X38.ext⟩
  have H := H.2 hc33
  refine W_skip ?_
  refine W_seq ?_
  refine W_region ?_
  refine LP_ev ok 0 [(15, .pointer (some ⟨b1, 0, none⟩))] 1 rfl rfl ?_
  refine LP_ldbox 1 (v := I a.Num) rfl rfl rfl ti_3 ag_3 (fun _ => rfl) rfl ex14 rfl rfl ?_
  refine LP_ev ok 2 [(17, .pointer (some ⟨b2, 1, none⟩))] 3 rfl rfl ?_
  refine LP_ldbox 3 (v := I b.Den) rfl rfl rfl ti_3 ag_3 (fun _ => rfl) rfl ex15 rfl rfl ?_
  refine LP_ev ok 4 [(19, I (wr (a.Num * b.Den))), (20, .pointer (some ⟨b2, 0, none⟩))] 6 rfl rfl ?_
  refine LP_ldbox 6 (v := I b.Num) rfl rfl rfl ti_3 ag_3 (fun _ => rfl) rfl ex15 rfl rfl ?_
  refine LP_ev ok 7 [(22, .pointer (some ⟨b1, 1, none⟩))] 8 rfl rfl ?_
  refine LP_ldbox 8 (v := I a.Den) rfl rfl rfl ti_3 ag_3 (fun _ => rfl) rfl ex14 rfl rfl ?_
  refine LP_ev ok 9 [(24, I (wr (b.Num * a.Den))), (25, I (wr ((wr (a.Num * b.Den)) - (wr (b.Num * a.Den))))), (26, .pointer (some ⟨b1, 1, none⟩))] 12 rfl rfl ?_
  refine LP_ldbox 12 (v := I a.Den) rfl rfl rfl ti_3 ag_3 (fun _ => rfl) rfl ex14 rfl rfl ?_
  refine LP_ev ok 13 [(28, .pointer (some ⟨b2, 1, none⟩))] 14 rfl rfl ?_
  refine LP_ldbox 14 (v := I b.Den) rfl rfl rfl ti_3 ag_3 (fun _ => rfl) rfl ex15 rfl rfl ?_
  refine LP_ev ok 15 [(30, I (wr (a.Den * b.Den)))] 16 rfl rfl ?_
  refine LP_call 16 rfl rfl rfl cal_93 rfl (impl_reduced_w _ _ _ H wx13 ) ?_
  rintro _ wx41 ⟨r39, r40, H, rfl, x42⟩
  refine LP_ev ok 17 [(32, .agg #[I r39.Num, I r39.Den]), (33, .bool r40)] 19 rfl rfl ?_
  have ex46 := (ex16.ext x42)
  refine LP_stbox 19 (vs := [I r39.Num, I r39.Den]) (cs' := [I r39.Num, I r39.Den]) rfl rfl rfl ti_34 rfl rfl rfl rfl rfl ex46 rfl rfl fun wx43 ex44 y45 => ?_
  refine LP_ev ok 20 [(5, .bool r40)] 21 rfl rfl ?_
  refine LP_end _ rfl ?_
  refine W_ret ?_
  have X48 := ((X.stepx x).stepx x4)
  have f47 := f11.mono X48.size
  have X49 := ((X17.stepx x42).step y45 (f47.dom _))
  exact ⟨_, Ret_of [.agg #[I r39.Num, I r39.Den], .bool r40] ⟨⟨_, rfl, rfl, ld_res ti_34 ag_34 (fun h => by cases h) ex44 rfl rfl⟩, ⟨rfl, rfl⟩, trivial⟩, _, _, H, rfl, X49.ext⟩

set_option maxRecDepth 8000 in
set_option maxHeartbeats 4000000 in
theorem impl_halfDistance_w (a : List Frac) (b : List Frac) (Q : Frac → Bool → Prop) (H : impl_halfDistance a b Q) (w : World) {vx : Value} {hx : PH} (r : RS hx vx a) (ex : Sub hx w) {vx2 : Value} {hx3 : PH} (r4 : RS hx3 vx2 b) (ex5 : Sub hx3 w) :
    CallsTo Try.prog 117 #[vx, vx2] w fun v w' => ∃ r0 r1, Q r0 r1 ∧ v = .tuple #[.agg #[I r0.Num, I r0.Den], .bool r1] ∧ Ext w w' := by
  obtain ⟨a1, c, rfl⟩ := r.shape
  obtain ⟨a6, c7, rfl⟩ := r4.shape
  refine enter (args := [.slice a1 (List.length a) c, .slice a6 (List.length b) c7]) 53 Try.func117 rfl rfl rfl ?_
  refine W_forget [(0, .slice a1 (List.length a) c), (1, .slice a6 (List.length b) c7)] ⟨rfl, rfl, trivial⟩ fun ρ => ?_
  have X := But.refl emp w
  refine W_seq ?_
  refine W_region ?_
  refine LP_alloc 0 rfl rfl rfl ti_34 rfl fun b8 wx x ex9 f => ?_
  refine LP_ev ok 1 [(5, .bool false)] 2 rfl rfl ?_
  refine LP_end _ rfl ?_
  refine W_seq ?_
  refine W_region ?_
  refine LP_ev ok 0 [(11, .agg #[I 0, I 1])] 1 rfl rfl ?_
  refine LP_alloc 1 rfl rfl rfl ti_34 rfl fun b10 wx11 x12 ex13 f14 => ?_
  refine LP_stbox 2 (vs := [I 0, I 1]) (cs' := [I 0, I 1]) rfl rfl rfl ti_34 rfl rfl rfl rfl rfl ex13 rfl rfl fun wx15 ex16 y => ?_
  refine LP_end _ rfl ?_
  refine W_seq ?_
  refine W_seq ?_
  refine W_region ?_
  refine LP_ev ok 0 [(12, .slice a1 (List.length a) c), (13, I (ln a)), (14, I 0)] 3 rfl rfl ?_
  refine LP_end _ rfl ?_
  refine W_block ?_
  obtain ⟨J, m, Hx, H⟩ := H
  have X25 := (X.stepx x)
  have f24 := f14.mono X25.size
  have X26 := (((X.stepx x).stepx x12).step y (f24.dom _))
  have ex27 := (ex.ext x)
  have ex28 := (((ex.ext x).ext x12).but y (Dj.of_fresh ex27 f14).symm)
  have ex29 := (ex5.ext x)
  have ex30 := (((ex5.ext x).ext x12).but y (Dj.of_fresh ex29 f14).symm)
  have ex31 := ((ex9.ext x12).but y (Dj.of_fresh ex9 f14).symm)
  refine W_loop (S := Int × Int × Int) (fun s ρ' w' => J s.1 s.2.1 s.2.2 ∧ ∃ (ρ : Env), ρ' = setAll [(1, .slice a6 (List.length b) c7), (4, .pointer (some ⟨b8, 0, none⟩)), (6, .pointer (some ⟨b10, 0, none⟩)), (12, .slice a1 (List.length a) c), (13, I (ln a)), (14, I s.1)] ρ ∧ But emp w w' ∧ Sub hx w' ∧ Sub hx3 w' ∧ Sub (bx b8 34 [I 0, I 0]) w' ∧ Sub (bx b10 34 [I s.2.1, I s.2.2]) w') (fun s => m s.1 s.2.1 s.2.2) (0, 0, 1) ⟨Hx, _, env_eq ⟨rfl, rfl, rfl, rfl, rfl, rfl, trivial⟩, X26, ex28, ex30, ex31, ex16⟩ ?_
  rintro ⟨x17, num, den⟩ _ wx18 ⟨Hi, ρ, rfl, X23, ex19, ex20, ex21, ex22⟩
  have H := H x17 num den Hi
  refine W_seq ?_
  refine W_region ?_
  refine LP_ev ok 0 [(15, .bool (decide (x17 < (ln a))))] 1 rfl rfl ?_
  refine LP_end _ rfl ?_
  refine W_seq ?_
  refine W_cond (decide (x17 < (ln a))) rfl (fun hc => ?_) (fun hc => ?_)
  · have H := H.1 hc
    refine W_skip ?_
    refine W_seq ?_
    refine W_block ?_
    refine W_seq ?_
    refine W_region ?_
    refine LP_ev ok 0 [(16, I x17)] 1 rfl rfl ?_
    obtain ⟨x32, hi, hx33, H⟩ := H
    refine LP_index 1 rfl rfl rfl Try.underlying44 ti_34 rfl rfl r hi hx33 fun a34 cs r35 d => ?_
    refine LP_load 2 rfl rfl rfl ti_34 ag_34 rfl r35 d ex19 fun vx36 r37 => ?_
    obtain rfl := Frac_rv r37
    refine LP_alloc 3 rfl rfl rfl ti_34 rfl fun b38 wx39 x40 ex41 f42 => ?_
    refine LP_ev ok 4 [(7, I x17)] 5 rfl rfl ?_
    refine LP_stbox 5 (vs := [I x32.Num, I x32.Den]) (cs' := [I x32.Num, I x32.Den]) rfl rfl rfl ti_34 rfl rfl rfl rfl rfl ex41 rfl rfl fun wx43 ex44 y45 => ?_
    refine LP_end _ rfl ?_
    refine W_seq ?_
    obtain ⟨x46, hi47, hx48, H⟩ := H
    obtain ⟨a49, cs50, hx53, r51, d52⟩ := run_indexAt Try.underlying44 ti_34 r4 .i64 _ x46 hi47 hx48
    have ex54 := ((ex20.ext x40).but y45 (Dj.of_fresh ex20 f42).symm)
    obtain ⟨vx55, hx57, r56⟩ := run_loadAt ti_34 ag_34 r51 d52
    obtain rfl := Frac_rv r56
    obtain ⟨r58, r59, Hd, H⟩ := H
    refine W_anyL 11 [[], [], [], [1, 2], [1, 2, 3], [0, 1, 2, 3, 4], [0, 1, 2, 3, 4, 5], [0, 1, 2, 3, 4, 5, 6], [0, 1, 2, 3, 4, 5, 6], [], [0, 1, 2, 3, 4, 5, 6, 7, 9], [0, 1, 2, 3, 4, 5, 6, 7, 8, 9, 10]] [[(8, none)], [(1, none)], [(7, none)], [(21, some 1), (22, some 2)], [(23, some 3)], [(20, some 0), (24, some 4)], [(25, some 5)], [(19, some 6)], [(19, some 6)], [], [(9, some 9), (26, some 7)]] [(1, none), (4, none), (6, none), (9, some 9), (12, none), (13, none), (14, none), (27, some 8)] 34 [I 0, I 0] [I r58.Num, I r58.Den] [.agg #[I x32.Num, I x32.Den], .slice a6 (List.length b) c7, I x17, .pointer (some a49), .agg #[I x46.Num, I x46.Den], .tuple #[.agg #[I r58.Num, I r58.Den], .bool r59], .tuple #[.agg #[I r58.Num, I r58.Den], .bool r59], .agg #[I r58.Num, I r58.Den], .bool r59, undef, undef] (some 9) (some 10) mix (by kernel_rfl) (fun _ h => by cases h; exact ⟨_, rfl, by decide, by decide, by decide⟩) (fun _ h => by cases h; decide)
      ⟨K_run [(8, .pointer (some ⟨b38, 0, none⟩))] (.agg #[I x32.Num, I x32.Den]) (by decide) (by decide) (fun _ _ h => h) rfl (fun _ w x => ex_ldbox rfl ti_34 ag_34 (fun h => by cases h) rfl (ex44.ext x) rfl rfl),
        K_ev ok [(1, .slice a6 (List.length b) c7)] (.slice a6 (List.length b) c7) (by decide) (by decide) (fun _ _ h => h) rfl (fun _ => rfl),
        K_ev ok [(7, I x17)] (I x17) (by decide) (by decide) (fun _ _ h => h) rfl (fun _ => rfl),
        K_run [(21, .slice a6 (List.length b) c7), (22, I x17)] (.pointer (some a49)) (by decide) (by decide) (fun _ _ h => h) rfl (fun _ _ _ => ex_index rfl rfl rfl (hx53 _)),
        K_run [(23, .pointer (some a49))] (.agg #[I x46.Num, I x46.Den]) (by decide) (by decide) (fun _ _ h => h) rfl (fun _ w x => ex_load rfl rfl (hx57 w (ex54.ext x))),
        K_call [(20, .agg #[I x32.Num, I x32.Den]), (24, .agg #[I x46.Num, I x46.Den])] (.tuple #[.agg #[I r58.Num, I r58.Den], .bool r59]) (by decide) (by decide) (fun _ _ h => h) rfl rfl cal_148 (fun _ => rfl) (fun w x => (impl_SubFrac_w _ _ _ Hd w ).mono (fun _ _ h => by obtain ⟨_, _, ⟨rfl, rfl⟩, rfl, x⟩ := h; exact ⟨rfl, x⟩)),
        K_ev ok [(25, .tuple #[.agg #[I r58.Num, I r58.Den], .bool r59])] (.tuple #[.agg #[I r58.Num, I r58.Den], .bool r59]) (by decide) (by decide) (fun _ _ h => h) rfl (fun _ => rfl),
        K_ev ok [(19, .tuple #[.agg #[I r58.Num, I r58.Den], .bool r59])] (.agg #[I r58.Num, I r58.Den]) (by decide) (by decide) (fun _ _ h => h) rfl (fun _ => rfl),
        K_ev ok [(19, .tuple #[.agg #[I r58.Num, I r58.Den], .bool r59])] (.bool r59) (by decide) (by decide) (fun _ _ h => h) rfl (fun _ => rfl),
        K_alloc rfl (by decide) rfl rfl ti_34 rfl,
        K_store (off := 0) (fun b => [(9, .pointer (some ⟨b, 0, none⟩)), (26, .agg #[I r58.Num, I r58.Den])]) (by decide) rfl rfl (fun _ _ h => h) rfl ti_34 (fun _ _ => rfl) (fun _ _ => rfl) rfl rfl rfl rfl rfl, trivial⟩
      (fun b60 ρ wx61 x62 hn hA => ?_)
    obtain ⟨hb, hs, hs63⟩ := hA rfl
    have ex64 := hs rfl
    have f65 : Fresh wx43.heap.size (bx b60 34 [I r58.Num, I r58.Den]) := single_fresh hb
    refine LP_forget [(1, .slice a6 (List.length b) c7), (4, .pointer (some ⟨b8, 0, none⟩)), (6, .pointer (some ⟨b10, 0, none⟩)), (9, .pointer (some ⟨b60, 0, none⟩)), (12, .slice a1 (List.length a) c), (13, I (ln a)), (14, I x17), (27, .bool r59)] (by exact hn) fun ρ => ?_
    refine LP_ev ok 11 [(10, .bool r59)] 12 rfl rfl ?_
    refine LP_end _ rfl ?_
    refine W_seq ?_
    refine W_seq ?_
    refine W_region ?_
    refine LP_ev ok 0 [(28, .bool r59), (29, .bool (!r59))] 2 rfl rfl ?_
    refine LP_end _ rfl ?_
    refine W_cond (!r59) rfl (fun hc66 => ?_) (fun hc66 => ?_)
    · have H := H.1 hc66
      refine W_seq ?_
      refine W_region ?_
      refine LP_ev ok 0 [(30, .agg #[I 0, I 0])] 1 rfl rfl ?_
      have ex70 := (((ex21.ext x40).but y45 (Dj.of_fresh ex21 f42).symm).ext x62)
      refine LP_stbox 1 (vs := [I 0, I 0]) (cs' := [I 0, I 0]) rfl rfl rfl ti_34 rfl rfl rfl rfl rfl ex70 rfl rfl fun wx67 ex68 y69 => ?_
      refine LP_ev ok 2 [(5, .bool false)] 3 rfl rfl ?_
      refine LP_end _ rfl ?_
      refine W_ret ?_
      have f71 := f42.mono X23.size
      have f72 := f.mono X.size
      have X73 := ((((X23.stepx x40).step y45 (f71.dom _)).stepx x62).step y69 (f72.dom _))
      exact ⟨_, Ret_of [.agg #[I 0, I 0], .bool false] ⟨⟨_, rfl, rfl, ld_res ti_34 ag_34 (fun h => by cases h) ex68 rfl rfl⟩, ⟨rfl, rfl⟩, trivial⟩, _, _, H, rfl, X73.ext⟩
    have H := H.2 hc66
    refine W_skip ?_
    refine W_seq ?_
    refine W_region ?_
    refine LP_ev ok 0 [(31, .pointer (some ⟨b60, 0, none⟩))] 1 rfl rfl ?_
    refine LP_ldbox 1 (v := I r58.Num) rfl rfl rfl ti_3 ag_3 (fun _ => rfl) rfl ex64 rfl rfl ?_
    refine LP_ev ok 2 [(33, .pointer (some ⟨b60, 0, none⟩))] 3 rfl rfl ?_
    refine LP_ldbox 3 (v := I r58.Num) rfl rfl rfl ti_3 ag_3 (fun _ => rfl) rfl ex64 rfl rfl ?_
    refine LP_ev ok 4 [(35, I (wr (0 - r58.Num))), (36, I (mx r58.Num (wr (0 - r58.Num)))), (37, .pointer (some ⟨b60, 0, none⟩))] 7 rfl rfl ?_
    refine LP_stbox 7 (vs := [I (mx r58.Num (wr (0 - r58.Num)))]) (cs' := [I (mx r58.Num (wr (0 - r58.Num))), I r58.Den]) rfl rfl rfl ti_3 rfl rfl rfl rfl rfl ex64 rfl rfl fun wx74 ex75 y76 => ?_
    refine LP_end _ rfl ?_
    refine W_seq ?_
    refine W_region ?_
    have ex77 := ((ex22.ext x40).but y45 (Dj.of_fresh ex22 f42).symm)
    have ex78 := ((((ex22.ext x40).but y45 (Dj.of_fresh ex22 f42).symm).ext x62).but y76 (Dj.of_fresh ex77 f65).symm)
    refine LP_ldbox 0 (v := .agg #[I num, I den]) rfl rfl rfl ti_34 ag_34 (fun h => by cases h) rfl ex78 rfl rfl ?_
    refine LP_ldbox 1 (v := .agg #[I (mx r58.Num (wr (0 - r58.Num))), I r58.Den]) rfl rfl rfl ti_34 ag_34 (fun h => by cases h) rfl ex75 rfl rfl ?_
    refine LP_call 2 rfl rfl rfl cal_115 rfl (impl_AddFrac_w _ _ _ H wx74 ) ?_
    rintro _ wx81 ⟨r79, r80, H, rfl, x82⟩
    refine LP_ev ok 3 [(38, .tuple #[.agg #[I r79.Num, I r79.Den], .bool r80]), (42, .agg #[I r79.Num, I r79.Den]), (43, .bool r80)] 6 rfl rfl ?_
    have ex86 := (ex78.ext x82)
    refine LP_stbox 6 (vs := [I r79.Num, I r79.Den]) (cs' := [I r79.Num, I r79.Den]) rfl rfl rfl ti_34 rfl rfl rfl rfl rfl ex86 rfl rfl fun wx83 ex84 y85 => ?_
    refine LP_ev ok 7 [(10, .bool r80)] 8 rfl rfl ?_
    refine LP_end _ rfl ?_
    refine W_seq ?_
    refine W_region ?_
    refine LP_ev ok 0 [(44, .bool r80), (45, .bool (!r80))] 2 rfl rfl ?_
    refine LP_end _ rfl ?_
    refine W_cond (!r80) rfl (fun hc87 => ?_) (fun hc87 => ?_)
    · have H := H.1 hc87
      refine W_seq ?_
      refine W_region ?_
      refine LP_ev ok 0 [(46, .agg #[I 0, I 0])] 1 rfl rfl ?_
      have ex91 := ((ex21.ext x40).but y45 (Dj.of_fresh ex21 f42).symm)
      have ex92 := ((((((ex21.ext x40).but y45 (Dj.of_fresh ex21 f42).symm).ext x62).but y76 (Dj.of_fresh ex91 f65).symm).ext x82).but y85 (Dj.box (Dj.of_fresh ex9 f14).symm))
      refine LP_stbox 1 (vs := [I 0, I 0]) (cs' := [I 0, I 0]) rfl rfl rfl ti_34 rfl rfl rfl rfl rfl ex92 rfl rfl fun wx88 ex89 y90 => ?_
      refine LP_ev ok 2 [(5, .bool false)] 3 rfl rfl ?_
      refine LP_end _ rfl ?_
      refine W_ret ?_
      have f93 := f42.mono X23.size
      have X95 := ((X23.stepx x40).step y45 (f93.dom _))
      have f94 := f65.mono X95.size
      have f96 := f.mono X.size
      have X97 := (((((((X23.stepx x40).step y45 (f93.dom _)).stepx x62).step y76 (f94.dom _)).stepx x82).step y85 ((Fresh.box f24).dom _)).step y90 (f96.dom _))
      exact ⟨_, Ret_of [.agg #[I 0, I 0], .bool false] ⟨⟨_, rfl, rfl, ld_res ti_34 ag_34 (fun h => by cases h) ex89 rfl rfl⟩, ⟨rfl, rfl⟩, trivial⟩, _, _, H, rfl, X97.ext⟩
    have H := H.2 hc87
    refine W_skip ?_
    refine W_region ?_
    refine LP_ev ok 0 [(47, I (wr (x17 + 1))), (14, I (wr (x17 + 1)))] 2 rfl rfl ?_
    refine LP_end _ rfl ?_
    have f98 := f42.mono X23.size
    have X100 := ((X23.stepx x40).step y45 (f98.dom _))
    have f99 := f65.mono X100.size
    have X101 := ((((((X23.stepx x40).step y45 (f98.dom _)).stepx x62).step y76 (f99.dom _)).stepx x82).step y85 ((Fresh.box f24).dom _))
    have ex102 := ((ex19.ext x40).but y45 (Dj.of_fresh ex19 f42).symm)
    have ex103 := (ex.ext x)
    have ex104 := ((((((ex19.ext x40).but y45 (Dj.of_fresh ex19 f42).symm).ext x62).but y76 (Dj.of_fresh ex102 f65).symm).ext x82).but y85 (Dj.box (Dj.of_fresh ex103 f14).symm))
    have ex105 := (ex5.ext x)
    have ex106 := ((((ex54.ext x62).but y76 (Dj.of_fresh ex54 f65).symm).ext x82).but y85 (Dj.box (Dj.of_fresh ex105 f14).symm))
    have ex107 := ((ex21.ext x40).but y45 (Dj.of_fresh ex21 f42).symm)
    have ex108 := ((((((ex21.ext x40).but y45 (Dj.of_fresh ex21 f42).symm).ext x62).but y76 (Dj.of_fresh ex107 f65).symm).ext x82).but y85 (Dj.box (Dj.of_fresh ex9 f14).symm))
    exact ⟨(wr (x17 + 1), r79.Num, r79.Den), ⟨H.1, _, env_eq ⟨rfl, rfl, rfl, rfl, rfl, rfl, trivial⟩, X101, ex104, ex106, ex108, ex84⟩, H.2⟩
  have H := H.2 hc
  refine W_exit ?_
  refine (if_pos rfl).mpr ?_
  refine W_seq ?_
  refine W_region ?_
  refine LP_ldbox 0 (v := .agg #[I num, I den]) rfl rfl rfl ti_34 ag_34 (fun h => by cases h) rfl ex22 rfl rfl ?_
  refine LP_ev ok 1 [(49, .agg #[I 2, I 1])] 2 rfl rfl ?_
  refine LP_call 2 rfl rfl rfl cal_108 rfl (impl_DivFrac_w _ _ _ H wx18 ) ?_
  rintro _ wx111 ⟨r109, r110, H, rfl, x112⟩
  refine LP_ev ok 3 [(51, .agg #[I r109.Num, I r109.Den]), (52, .bool r110)] 5 rfl rfl ?_
  have ex116 := (ex21.ext x112)
  refine LP_stbox 5 (vs := [I r109.Num, I r109.Den]) (cs' := [I r109.Num, I r109.Den]) rfl rfl rfl ti_34 rfl rfl rfl rfl rfl ex116 rfl rfl fun wx113 ex114 y115 => ?_
  refine LP_ev ok 6 [(5, .bool r110)] 7 rfl rfl ?_
  refine LP_end _ rfl ?_
  refine W_ret ?_
  have f117 := f.mono X.size
  have X118 := ((X23.stepx x112).step y115 (f117.dom _))
  exact ⟨_, Ret_of [.agg #[I r109.Num, I r109.Den], .bool r110] ⟨⟨_, rfl, rfl, ld_res ti_34 ag_34 (fun h => by cases h) ex114 rfl rfl⟩, ⟨rfl, rfl⟩, trivial⟩, _, _, H, rfl, X118.ext⟩

set_option maxRecDepth 8000 in
set_option maxHeartbeats 4000000 in
theorem impl_DissimilarityOf_w (a : List Int) (b : List Int) (Q : Frac → Bool → Prop) (H : impl_DissimilarityOf a b Q) (w : World) {vx : Value} {hx : PH} (r : RS hx vx a) (ex : Sub hx w) {vx2 : Value} {hx3 : PH} (r4 : RS hx3 vx2 b) (ex5 : Sub hx3 w) :
    CallsTo Try.prog 56 #[vx, vx2] w fun v w' => ∃ r0 r1, Q r0 r1 ∧ v = .tuple #[.agg #[I r0.Num, I r0.Den], .bool r1] ∧ Ext w w' := by
  obtain ⟨a1, c, rfl⟩ := r.shape
  obtain ⟨a6, c7, rfl⟩ := r4.shape
  refine enter (args := [.slice a1 (List.length a) c, .slice a6 (List.length b) c7]) 46 Try.func56 rfl rfl rfl ?_
  refine W_forget [(0, .slice a1 (List.length a) c), (1, .slice a6 (List.length b) c7)] ⟨rfl, rfl, trivial⟩ fun ρ => ?_
  have X := But.refl emp w
  refine W_seq ?_
  refine W_region ?_
  refine LP_alloc 0 rfl rfl rfl ti_34 rfl fun b8 wx x ex9 f => ?_
  refine LP_ev ok 1 [(5, .bool false)] 2 rfl rfl ?_
  refine LP_end _ rfl ?_
  refine W_seq ?_
  obtain ⟨k, hk, H⟩ := jn_elim H
  refine W_join2 (S := Bool) (fun s ρ' w' => k s ∧ ∃ (ρ : Env), ρ' = setAll [(0, .slice a1 (List.length a) c), (1, .slice a6 (List.length b) c7), (4, .pointer (some ⟨b8, 0, none⟩)), (23, .bool s)] ρ ∧ But emp w w' ∧ Sub hx w' ∧ Sub hx3 w' ∧ Sub (bx b8 34 [I 0, I 0]) w') ?_ ?_
  · refine W_region ?_
    refine LP_ev ok 0 [(9, .slice a1 (List.length a) c)] 1 rfl rfl ?_
    have ex17 := (ex.ext x)
    refine LP_call 1 rfl rfl rfl cal_92 rfl (impl_areCounts_w _ _ H wx r ex17) ?_
    rintro _ wx18 ⟨r16, H, rfl, x19⟩
    refine LP_ev ok 2 [(11, .bool (!r16)), (12, .bool (!r16))] 4 rfl rfl ?_
    refine LP_split 12 (!r16) rfl (fun hc => ?_) (fun hc => ?_)
    · have H := H.1 hc
      refine LP_ev ok 4 [(13, undef), (14, undef), (15, undef), (16, .bool true), (17, .bool true), (18, undef), (19, undef), (20, undef), (21, undef), (22, undef), (23, .bool true)] 15 rfl rfl ?_
      refine LP_end _ rfl ?_
      have X20 := ((X.stepx x).stepx x19)
      have ex21 := (ex17.ext x19)
      have ex22 := ((ex5.ext x).ext x19)
      have ex23 := (ex9.ext x19)
      exact ⟨true, H, _, env_eq ⟨rfl, rfl, rfl, rfl, trivial⟩, X20, ex21, ex22, ex23⟩
    have H := H.2 hc
    refine LP_ev ok 4 [(13, .slice a6 (List.length b) c7)] 5 rfl rfl ?_
    have ex25 := ((ex5.ext x).ext x19)
    refine LP_call 5 rfl rfl rfl cal_92 rfl (impl_areCounts_w _ _ H wx18 r4 ex25) ?_
    rintro _ wx26 ⟨r24, H, rfl, x27⟩
    refine LP_ev ok 6 [(15, .bool (!r24)), (16, .bool (!r24)), (17, .bool (!r24))] 9 rfl rfl ?_
    refine LP_split 17 (!r24) rfl (fun hc28 => ?_) (fun hc28 => ?_)
    · have H := H.1 hc28
      refine LP_ev ok 9 [(18, undef), (19, undef), (20, undef), (21, undef), (22, undef), (23, .bool true)] 15 rfl rfl ?_
      refine LP_end _ rfl ?_
      have X29 := (((X.stepx x).stepx x19).stepx x27)
      have ex30 := ((ex17.ext x19).ext x27)
      have ex31 := (ex25.ext x27)
      have ex32 := ((ex9.ext x19).ext x27)
      exact ⟨true, H, _, env_eq ⟨rfl, rfl, rfl, rfl, trivial⟩, X29, ex30, ex31, ex32⟩
    have H := H.2 hc28
    refine LP_ev ok 9 [(18, .slice a1 (List.length a) c), (19, I (ln a)), (20, .slice a6 (List.length b) c7), (21, I (ln b)), (22, .bool ((ln a) != (ln b))), (23, .bool ((ln a) != (ln b)))] 15 rfl rfl ?_
    refine LP_end _ rfl ?_
    have X33 := (((X.stepx x).stepx x19).stepx x27)
    have ex34 := ((ex17.ext x19).ext x27)
    have ex35 := (ex25.ext x27)
    have ex36 := ((ex9.ext x19).ext x27)
    exact ⟨(ln a) != (ln b), H, _, env_eq ⟨rfl, rfl, rfl, rfl, trivial⟩, X33, ex34, ex35, ex36⟩
  rintro x10 _ wx11 ⟨H, ρ, rfl, X15, ex12, ex13, ex14⟩
  subst hk
  refine W_cond (x10) rfl (fun hc37 => ?_) (fun hc37 => ?_)
  · have H := H.1 hc37
    refine W_seq ?_
    refine W_region ?_
    refine LP_ev ok 0 [(24, .agg #[I 0, I 0])] 1 rfl rfl ?_
    refine LP_stbox 1 (vs := [I 0, I 0]) (cs' := [I 0, I 0]) rfl rfl rfl ti_34 rfl rfl rfl rfl rfl ex14 rfl rfl fun wx38 ex39 y => ?_
    refine LP_ev ok 2 [(5, .bool false)] 3 rfl rfl ?_
    refine LP_end _ rfl ?_
    refine W_ret ?_
    have f40 := f.mono X.size
    have X41 := (X15.step y (f40.dom _))
    exact ⟨_, Ret_of [.agg #[I 0, I 0], .bool false] ⟨⟨_, rfl, rfl, ld_res ti_34 ag_34 (fun h => by cases h) ex39 rfl rfl⟩, ⟨rfl, rfl⟩, trivial⟩, _, _, H, rfl, X41.ext⟩
  have H := H.2 hc37
  refine W_skip ?_
  refine W_seq ?_
  refine W_region ?_
  refine LP_ev ok 0 [(26, .slice a1 (List.length a) c)] 1 rfl rfl ?_
  refine LP_call 1 rfl rfl rfl cal_110 rfl (impl_sharesOf_w _ _ H wx11 r ex12) ?_
  rintro _ wx44 ⟨r42, r43, vx46, hx47, H, rfl, x45, o, ex48, f49⟩
  obtain ⟨a50, c51, rfl⟩ := o.shape
  refine LP_ev ok 2 [(25, .tuple #[.slice a50 (List.length r42) c51, .bool r43]), (28, .slice a50 (List.length r42) c51), (29, .bool r43), (6, .slice a50 (List.length r42) c51), (7, .bool r43)] 7 rfl rfl ?_
  refine LP_end _ rfl ?_
  refine W_seq ?_
  refine W_seq ?_
  refine W_region ?_
  refine LP_ev ok 0 [(30, .bool r43), (31, .bool (!r43))] 2 rfl rfl ?_
  refine LP_end _ rfl ?_
  refine W_cond (!r43) rfl (fun hc52 => ?_) (fun hc52 => ?_)
  · have H := H.1 hc52
    refine W_seq ?_
    refine W_region ?_
    refine LP_ev ok 0 [(32, .agg #[I 0, I 0])] 1 rfl rfl ?_
    have ex56 := (ex14.ext x45)
    refine LP_stbox 1 (vs := [I 0, I 0]) (cs' := [I 0, I 0]) rfl rfl rfl ti_34 rfl rfl rfl rfl rfl ex56 rfl rfl fun wx53 ex54 y55 => ?_
    refine LP_ev ok 2 [(5, .bool false)] 3 rfl rfl ?_
    refine LP_end _ rfl ?_
    refine W_ret ?_
    have f57 := f.mono X.size
    have X58 := ((X15.stepx x45).step y55 (f57.dom _))
    exact ⟨_, Ret_of [.agg #[I 0, I 0], .bool false] ⟨⟨_, rfl, rfl, ld_res ti_34 ag_34 (fun h => by cases h) ex54 rfl rfl⟩, ⟨rfl, rfl⟩, trivial⟩, _, _, H, rfl, X58.ext⟩
  have H := H.2 hc52
  refine W_skip ?_
  refine W_seq ?_
  refine W_region ?_
  refine LP_ev ok 0 [(34, .slice a6 (List.length b) c7)] 1 rfl rfl ?_
  have ex61 := (ex13.ext x45)
  refine LP_call 1 rfl rfl rfl cal_110 rfl (impl_sharesOf_w _ _ H wx44 r4 ex61) ?_
  rintro _ wx62 ⟨r59, r60, vx64, hx65, H, rfl, x63, o66, ex67, f68⟩
  obtain ⟨a69, c70, rfl⟩ := o66.shape
  refine LP_ev ok 2 [(33, .tuple #[.slice a69 (List.length r59) c70, .bool r60]), (36, .slice a69 (List.length r59) c70), (37, .bool r60), (8, .slice a69 (List.length r59) c70), (7, .bool r60)] 7 rfl rfl ?_
  refine LP_end _ rfl ?_
  refine W_seq ?_
  refine W_seq ?_
  refine W_region ?_
  refine LP_ev ok 0 [(38, .bool r60), (39, .bool (!r60))] 2 rfl rfl ?_
  refine LP_end _ rfl ?_
  refine W_cond (!r60) rfl (fun hc71 => ?_) (fun hc71 => ?_)
  · have H := H.1 hc71
    refine W_seq ?_
    refine W_region ?_
    refine LP_ev ok 0 [(40, .agg #[I 0, I 0])] 1 rfl rfl ?_
    have ex75 := ((ex14.ext x45).ext x63)
    refine LP_stbox 1 (vs := [I 0, I 0]) (cs' := [I 0, I 0]) rfl rfl rfl ti_34 rfl rfl rfl rfl rfl ex75 rfl rfl fun wx72 ex73 y74 => ?_
    refine LP_ev ok 2 [(5, .bool false)] 3 rfl rfl ?_
    refine LP_end _ rfl ?_
    refine W_ret ?_
    have f76 := f.mono X.size
    have X77 := (((X15.stepx x45).stepx x63).step y74 (f76.dom _))
    exact ⟨_, Ret_of [.agg #[I 0, I 0], .bool false] ⟨⟨_, rfl, rfl, ld_res ti_34 ag_34 (fun h => by cases h) ex73 rfl rfl⟩, ⟨rfl, rfl⟩, trivial⟩, _, _, H, rfl, X77.ext⟩
  have H := H.2 hc71
  refine W_skip ?_
  refine W_seq ?_
  refine W_region ?_
  refine LP_ev ok 0 [(41, .slice a50 (List.length r42) c51), (42, .slice a69 (List.length r59) c70)] 2 rfl rfl ?_
  have ex80 := (ex48.ext x63)
  refine LP_call 2 rfl rfl rfl cal_117 rfl (impl_halfDistance_w _ _ _ H wx62 o.readf ex80 o66.readf ex67) ?_
  rintro _ wx81 ⟨r78, r79, H, rfl, x82⟩
  refine LP_ev ok 3 [(44, .agg #[I r78.Num, I r78.Den]), (45, .bool r79)] 5 rfl rfl ?_
  have ex86 := (((ex14.ext x45).ext x63).ext x82)
  refine LP_stbox 5 (vs := [I r78.Num, I r78.Den]) (cs' := [I r78.Num, I r78.Den]) rfl rfl rfl ti_34 rfl rfl rfl rfl rfl ex86 rfl rfl fun wx83 ex84 y85 => ?_
  refine LP_ev ok 6 [(5, .bool r79)] 7 rfl rfl ?_
  refine LP_end _ rfl ?_
  try refine W_forget [(4, .pointer (some ⟨b8, 0, none⟩)), (5, .bool r79)] ⟨rfl, rfl, trivial⟩ fun ρ => ?_
  refine W_ret ?_
  have f87 := f.mono X.size
  have X88 := ((((X15.stepx x45).stepx x63).stepx x82).step y85 (f87.dom _))
  exact ⟨_, Ret_of [.agg #[I r78.Num, I r78.Den], .bool r79] ⟨⟨_, rfl, rfl, ld_res ti_34 ag_34 (fun h => by cases h) ex84 rfl rfl⟩, ⟨rfl, rfl⟩, trivial⟩, _, _, H, rfl, X88.ext⟩

set_option maxRecDepth 8000 in
set_option maxHeartbeats 4000000 in
theorem laws_FnExactDissimilarityOf_w (aA : List Int) (aB : List Int) (Q : Bool → Prop) (H : laws_FnExactDissimilarityOf aA aB Q) (w : World) {vx : Value} {hx : PH} (r : RS hx vx aA) (ex : Sub hx w) {vx1 : Value} {hx2 : PH} (r3 : RS hx2 vx1 aB) (ex4 : Sub hx2 w) :
    CallsTo Try.prog 13 #[vx, vx1] w fun v w' => ∃ r0, Q r0 ∧ v = .bool r0 ∧ Ext w w' := by
  obtain ⟨a, c, rfl⟩ := r.shape
  obtain ⟨a5, c6, rfl⟩ := r3.shape
  refine enter (args := [.slice a (List.length aA) c, .slice a5 (List.length aB) c6]) 54 Try.func13 rfl rfl rfl ?_
  refine W_forget [(0, .slice a (List.length aA) c), (1, .slice a5 (List.length aB) c6)] ⟨rfl, rfl, trivial⟩ fun ρ => ?_
  have X := But.refl emp w
  refine W_seq ?_
  refine W_region ?_
  refine LP_ev ok 0 [(4, .bool false)] 1 rfl rfl ?_
  refine LP_end _ rfl ?_
  refine W_seq ?_
  refine W_seq ?_
  refine W_region ?_
  refine LP_ev ok 0 [(11, .slice a (List.length aA) c), (12, I (ln aA)), (13, .bool (decide ((ln aA) > 1048576)))] 3 rfl rfl ?_
  refine LP_end _ rfl ?_
  refine W_cond (decide ((ln aA) > 1048576)) rfl (fun hc => ?_) (fun hc => ?_)
  · have H := H.1 hc
    refine W_seq ?_
    refine W_region ?_
    refine LP_ev ok 0 [(4, .bool true)] 1 rfl rfl ?_
    refine LP_end _ rfl ?_
    refine W_ret ?_
    exact ⟨_, Ret_of [.bool true] ⟨⟨rfl, rfl⟩, trivial⟩, _, H, rfl, X.ext⟩
  have H := H.2 hc
  refine W_skip ?_
  refine W_seq ?_
  refine W_seq ?_
  refine W_region ?_
  refine LP_ev ok 0 [(14, .slice a5 (List.length aB) c6), (15, I (ln aB)), (16, .bool (decide ((ln aB) > 1048576)))] 3 rfl rfl ?_
  refine LP_end _ rfl ?_
  refine W_cond (decide ((ln aB) > 1048576)) rfl (fun hc7 => ?_) (fun hc7 => ?_)
  · have H := H.1 hc7
    refine W_seq ?_
    refine W_region ?_
    refine LP_ev ok 0 [(4, .bool true)] 1 rfl rfl ?_
    refine LP_end _ rfl ?_
    refine W_ret ?_
    exact ⟨_, Ret_of [.bool true] ⟨⟨rfl, rfl⟩, trivial⟩, _, H, rfl, X.ext⟩
  have H := H.2 hc7
  refine W_skip ?_
  refine W_seq ?_
  refine W_region ?_
  refine LP_ev ok 0 [(18, .slice a (List.length aA) c)] 1 rfl rfl ?_
  refine LP_call 1 rfl rfl rfl cal_26 rfl (laws_toIntS_w _ _ H w r ex) ?_
  rintro _ wx ⟨r8, vx9, hx10, H, rfl, x, o, ex11, f⟩
  obtain ⟨a12, c13, rfl⟩ := o.shape
  refine LP_ev ok 2 [(20, .slice a5 (List.length aB) c6)] 3 rfl rfl ?_
  have ex15 := (ex4.ext x)
  refine LP_call 3 rfl rfl rfl cal_26 rfl (laws_toIntS_w _ _ H wx r3 ex15) ?_
  rintro _ wx16 ⟨r14, vx18, hx19, H, rfl, x17, o20, ex21, f22⟩
  obtain ⟨a23, c24, rfl⟩ := o20.shape
  have ex27 := (ex11.ext x17)
  refine LP_call 4 rfl rfl rfl cal_55 rfl (spec_DissimilarityOf_w _ _ _ H wx16 o.readf ex27 o20.readf ex21) ?_
  rintro _ wx28 ⟨r25, r26, H, rfl, x29⟩
  refine LP_ev ok 5 [(17, .tuple #[.agg #[I r25.Num, I r25.Den], .bool r26]), (23, .agg #[I r25.Num, I r25.Den]), (24, .bool r26)] 8 rfl rfl ?_
  refine LP_alloc 8 rfl rfl rfl ti_34 rfl fun b wx30 x31 ex32 f33 => ?_
  refine LP_stbox 9 (vs := [I r25.Num, I r25.Den]) (cs' := [I r25.Num, I r25.Den]) rfl rfl rfl ti_34 rfl rfl rfl rfl rfl ex32 rfl rfl fun wx34 ex35 y => ?_
  refine LP_ev ok 10 [(6, .bool r26)] 11 rfl rfl ?_
  refine LP_end _ rfl ?_
  refine W_seq ?_
  refine W_region ?_
  refine LP_ev ok 0 [(25, .slice a (List.length aA) c)] 1 rfl rfl ?_
  have ex37 := (((ex.ext x).ext x17).ext x29)
  have ex38 := (((((ex.ext x).ext x17).ext x29).ext x31).but y (Dj.of_fresh ex37 f33).symm)
  refine LP_call 1 rfl rfl rfl cal_26 rfl (laws_toIntS_w _ _ H wx34 r ex38) ?_
  rintro _ wx39 ⟨r36, vx41, hx42, H, rfl, x40, o43, ex44, f45⟩
  obtain ⟨a46, c47, rfl⟩ := o43.shape
  refine LP_ev ok 2 [(7, .slice a46 (List.length r36) c47)] 3 rfl rfl ?_
  refine LP_end _ rfl ?_
  refine W_seq ?_
  refine W_region ?_
  refine LP_ev ok 0 [(27, .slice a5 (List.length aB) c6)] 1 rfl rfl ?_
  have ex49 := ((ex15.ext x17).ext x29)
  have ex50 := (((((ex15.ext x17).ext x29).ext x31).but y (Dj.of_fresh ex49 f33).symm).ext x40)
  refine LP_call 1 rfl rfl rfl cal_26 rfl (laws_toIntS_w _ _ H wx39 r3 ex50) ?_
  rintro _ wx51 ⟨r48, vx53, hx54, H, rfl, x52, o55, ex56, f57⟩
  obtain ⟨a58, c59, rfl⟩ := o55.shape
  refine LP_ev ok 2 [(8, .slice a58 (List.length r48) c59)] 3 rfl rfl ?_
  refine LP_end _ rfl ?_
  refine W_seq ?_
  refine W_region ?_
  refine LP_ev ok 0 [(30, .slice a46 (List.length r36) c47), (31, .slice a58 (List.length r48) c59)] 2 rfl rfl ?_
  have ex62 := (ex44.ext x52)
  refine LP_call 2 rfl rfl rfl cal_56 rfl (impl_DissimilarityOf_w _ _ _ H wx51 o43.readf ex62 o55.readf ex56) ?_
  rintro _ wx63 ⟨r60, r61, H, rfl, x64⟩
  refine LP_ev ok 3 [(29, .tuple #[.agg #[I r60.Num, I r60.Den], .bool r61]), (33, .agg #[I r60.Num, I r60.Den]), (34, .bool r61)] 6 rfl rfl ?_
  refine LP_alloc 6 rfl rfl rfl ti_34 rfl fun b65 wx66 x67 ex68 f69 => ?_
  refine LP_stbox 7 (vs := [I r60.Num, I r60.Den]) (cs' := [I r60.Num, I r60.Den]) rfl rfl rfl ti_34 rfl rfl rfl rfl rfl ex68 rfl rfl fun wx70 ex71 y72 => ?_
  refine LP_ev ok 8 [(10, .bool r61)] 9 rfl rfl ?_
  refine LP_end _ rfl ?_
  try refine W_forget [(0, .slice a (List.length aA) c), (1, .slice a5 (List.length aB) c6), (5, .pointer (some ⟨b, 0, none⟩)), (6, .bool r26), (7, .slice a46 (List.length r36) c47), (8, .slice a58 (List.length r48) c59), (9, .pointer (some ⟨b65, 0, none⟩)), (10, .bool r61)] ⟨rfl, rfl, rfl, rfl, rfl, rfl, rfl, rfl, trivial⟩ fun ρ => ?_
  refine W_seq ?_
  obtain ⟨k, hk, H⟩ := jn_elim H
  refine W_join2 (S := Bool) (fun s ρ' w' => k s ∧ ∃ (ρ : Env), ρ' = setAll [(0, .slice a (List.length aA) c), (1, .slice a5 (List.length aB) c6), (7, .slice a46 (List.length r36) c47), (8, .slice a58 (List.length r48) c59), (43, .bool s)] ρ ∧ But emp w w' ∧ Sub hx w' ∧ Sub hx2 w' ∧ Sub hx42 w' ∧ Sub hx54 w') ?_ ?_
  · refine W_region ?_
    refine LP_ldbox 0 (v := .agg #[I r60.Num, I r60.Den]) rfl rfl rfl ti_34 ag_34 (fun h => by cases h) rfl ex71 rfl rfl ?_
    have ex80 := (((ex35.ext x40).ext x52).ext x64)
    have ex81 := (((((ex35.ext x40).ext x52).ext x64).ext x67).but y72 (Dj.of_fresh ex80 f69).symm)
    refine LP_ldbox 1 (v := .agg #[I r25.Num, I r25.Den]) rfl rfl rfl ti_34 ag_34 (fun h => by cases h) rfl ex81 rfl rfl ?_
    refine LP_call 2 rfl rfl rfl cal_32 rfl (laws_eqFrac_w _ _ _ H wx70 ) ?_
    rintro _ wx83 ⟨r82, H, rfl, x84⟩
    refine LP_ev ok 3 [(38, .bool (!r82)), (39, .bool (!r82))] 5 rfl rfl ?_
    refine LP_split 39 (!r82) rfl (fun hc85 => ?_) (fun hc85 => ?_)
    · have H := H.1 hc85
      refine LP_ev ok 5 [(40, undef), (41, undef), (42, undef), (43, .bool true)] 9 rfl rfl ?_
      refine LP_end _ rfl ?_
      have X87 := (((X.stepx x).stepx x17).stepx x29)
      have f86 := f33.mono X87.size
      have X89 := (((((X87.stepx x31).step y (f86.dom _)).stepx x40).stepx x52).stepx x64)
      have f88 := f69.mono X89.size
      have X90 := (((((((((((X.stepx x).stepx x17).stepx x29).stepx x31).step y (f86.dom _)).stepx x40).stepx x52).stepx x64).stepx x67).step y72 (f88.dom _)).stepx x84)
      have ex91 := (((ex38.ext x40).ext x52).ext x64)
      have ex92 := ((((((ex38.ext x40).ext x52).ext x64).ext x67).but y72 (Dj.of_fresh ex91 f69).symm).ext x84)
      have ex93 := ((ex50.ext x52).ext x64)
      have ex94 := (((((ex50.ext x52).ext x64).ext x67).but y72 (Dj.of_fresh ex93 f69).symm).ext x84)
      have ex95 := (ex62.ext x64)
      have ex96 := ((((ex62.ext x64).ext x67).but y72 (Dj.of_fresh ex95 f69).symm).ext x84)
      have ex97 := (ex56.ext x64)
      have ex98 := ((((ex56.ext x64).ext x67).but y72 (Dj.of_fresh ex97 f69).symm).ext x84)
      exact ⟨true, H, _, env_eq ⟨rfl, rfl, rfl, rfl, rfl, trivial⟩, X90, ex92, ex94, ex96, ex98⟩
    have H := H.2 hc85
    refine LP_ev ok 5 [(40, .bool r61), (41, .bool r26), (42, .bool (r61 != r26)), (43, .bool (r61 != r26))] 9 rfl rfl ?_
    refine LP_end _ rfl ?_
    have X100 := (((X.stepx x).stepx x17).stepx x29)
    have f99 := f33.mono X100.size
    have X102 := (((((X100.stepx x31).step y (f99.dom _)).stepx x40).stepx x52).stepx x64)
    have f101 := f69.mono X102.size
    have X103 := (((((((((((X.stepx x).stepx x17).stepx x29).stepx x31).step y (f99.dom _)).stepx x40).stepx x52).stepx x64).stepx x67).step y72 (f101.dom _)).stepx x84)
    have ex104 := (((ex38.ext x40).ext x52).ext x64)
    have ex105 := ((((((ex38.ext x40).ext x52).ext x64).ext x67).but y72 (Dj.of_fresh ex104 f69).symm).ext x84)
    have ex106 := ((ex50.ext x52).ext x64)
    have ex107 := (((((ex50.ext x52).ext x64).ext x67).but y72 (Dj.of_fresh ex106 f69).symm).ext x84)
    have ex108 := (ex62.ext x64)
    have ex109 := ((((ex62.ext x64).ext x67).but y72 (Dj.of_fresh ex108 f69).symm).ext x84)
    have ex110 := (ex56.ext x64)
    have ex111 := ((((ex56.ext x64).ext x67).but y72 (Dj.of_fresh ex110 f69).symm).ext x84)
    exact ⟨r61 != r26, H, _, env_eq ⟨rfl, rfl, rfl, rfl, rfl, trivial⟩, X103, ex105, ex107, ex109, ex111⟩
  rintro x73 _ wx74 ⟨H, ρ, rfl, X79, ex75, ex76, ex77, ex78⟩
  subst hk
  refine W_cond (x73) rfl (fun hc112 => ?_) (fun hc112 => ?_)
  · have H := H.1 hc112
    refine W_seq ?_
    refine W_region ?_
    refine LP_ev ok 0 [(4, .bool false)] 1 rfl rfl ?_
    refine LP_end _ rfl ?_
    refine W_ret ?_
    exact ⟨_, Ret_of [.bool false] ⟨⟨rfl, rfl⟩, trivial⟩, _, H, rfl, X79.ext⟩
  have H := H.2 hc112
  refine W_skip ?_
  refine W_seq ?_
  refine W_seq ?_
  refine W_region ?_
  refine LP_ev ok 0 [(44, .slice a46 (List.length r36) c47), (45, .slice a (List.length aA) c)] 2 rfl rfl ?_
  refine LP_call 2 rfl rfl rfl cal_26 rfl (laws_toIntS_w _ _ H wx74 r ex75) ?_
  rintro _ wx114 ⟨r113, vx116, hx117, H, rfl, x115, o118, ex119, f120⟩
  obtain ⟨a121, c122, rfl⟩ := o118.shape
  have ex124 := (ex77.ext x115)
  refine LP_call 3 rfl rfl rfl cal_22 rfl (laws_eqIntS_w _ _ _ H wx114 o43.readf ex124 o118.readf ex119) ?_
  rintro _ wx125 ⟨r123, H, rfl, x126⟩
  refine LP_ev ok 4 [(48, .bool (!r123))] 5 rfl rfl ?_
  refine LP_end _ rfl ?_
  refine W_cond (!r123) rfl (fun hc127 => ?_) (fun hc127 => ?_)
  · have H := H.1 hc127
    refine W_seq ?_
    refine W_region ?_
    refine LP_ev ok 0 [(4, .bool false)] 1 rfl rfl ?_
    refine LP_end _ rfl ?_
    refine W_ret ?_
    have X128 := ((X79.stepx x115).stepx x126)
    exact ⟨_, Ret_of [.bool false] ⟨⟨rfl, rfl⟩, trivial⟩, _, H, rfl, X128.ext⟩
  have H := H.2 hc127
  refine W_skip ?_
  refine W_seq ?_
  refine W_seq ?_
  refine W_region ?_
  refine LP_ev ok 0 [(49, .slice a58 (List.length r48) c59), (50, .slice a5 (List.length aB) c6)] 2 rfl rfl ?_
  have ex130 := ((ex76.ext x115).ext x126)
  refine LP_call 2 rfl rfl rfl cal_26 rfl (laws_toIntS_w _ _ H wx125 r3 ex130) ?_
  rintro _ wx131 ⟨r129, vx133, hx134, H, rfl, x132, o135, ex136, f137⟩
  obtain ⟨a138, c139, rfl⟩ := o135.shape
  have ex141 := (((ex78.ext x115).ext x126).ext x132)
  refine LP_call 3 rfl rfl rfl cal_22 rfl (laws_eqIntS_w _ _ _ H wx131 o55.readf ex141 o135.readf ex136) ?_
  rintro _ wx142 ⟨r140, H, rfl, x143⟩
  refine LP_ev ok 4 [(53, .bool (!r140))] 5 rfl rfl ?_
  refine LP_end _ rfl ?_
  refine W_cond (!r140) rfl (fun hc144 => ?_) (fun hc144 => ?_)
  · have H := H.1 hc144
    refine W_seq ?_
    refine W_region ?_
    refine LP_ev ok 0 [(4, .bool false)] 1 rfl rfl ?_
    refine LP_end _ rfl ?_
    refine W_ret ?_
    have X145 := ((((X79.stepx x115).stepx x126).stepx x132).stepx x143)
    exact ⟨_, Ret_of [.bool false] ⟨⟨rfl, rfl⟩, trivial⟩, _, H, rfl, X145.ext⟩
  have H := H.2 hc144
  refine W_skip ?_
  refine W_seq ?_
  refine W_region ?_
  refine LP_ev ok 0 [(4, .bool true)] 1 rfl rfl ?_
  refine LP_end _ rfl ?_
  refine W_ret ?_
  have X146 := ((((X79.stepx x115).stepx x126).stepx x132).stepx x143)
  exact ⟨_, Ret_of [.bool true] ⟨⟨rfl, rfl⟩, trivial⟩, _, H, rfl, X146.ext⟩

set_option maxRecDepth 8000 in
set_option maxHeartbeats 4000000 in
theorem laws_szFracS_w (a : List Frac) (left : Int) (Q : Int → Prop) (H : laws_szFracS a left Q) (w : World) {vx : Value} {hx : PH} (r : RS hx vx a) (ex : Sub hx w) :
    CallsTo Try.prog 33 #[vx, I left] w fun v w' => ∃ r0, Q r0 ∧ v = I r0 ∧ Ext w w' := by
  obtain ⟨a1, c, rfl⟩ := r.shape
  refine enter (args := [.slice a1 (List.length a) c, I left]) 12 Try.func33 rfl rfl rfl ?_
  refine W_forget [(0, .slice a1 (List.length a) c), (1, I left)] ⟨rfl, rfl, trivial⟩ fun ρ => ?_
  have X := But.refl emp w
  refine W_seq ?_
  refine W_region ?_
  refine LP_ev ok 0 [(4, I 0)] 1 rfl rfl ?_
  refine LP_end _ rfl ?_
  refine W_seq ?_
  refine W_region ?_
  refine LP_ev ok 0 [(5, I left), (6, .slice a1 (List.length a) c), (7, I (ln a)), (8, I (wr (left - (ln a)))), (1, I (wr (left - (ln a))))] 5 rfl rfl ?_
  refine LP_end _ rfl ?_
  refine W_seq ?_
  refine W_seq ?_
  refine W_region ?_
  refine LP_ev ok 0 [(9, I (wr (left - (ln a)))), (10, .bool (decide ((wr (left - (ln a))) < 0)))] 2 rfl rfl ?_
  refine LP_end _ rfl ?_
  refine W_cond (decide ((wr (left - (ln a))) < 0)) rfl (fun hc => ?_) (fun hc => ?_)
  · have H := H.1 hc
    refine W_seq ?_
    refine W_region ?_
    refine LP_ev ok 0 [(4, I ((-1)))] 1 rfl rfl ?_
    refine LP_end _ rfl ?_
    refine W_ret ?_
    exact ⟨_, Ret_of [I ((-1))] ⟨⟨rfl, rfl⟩, trivial⟩, _, H, rfl, X.ext⟩
  have H := H.2 hc
  refine W_skip ?_
  refine W_seq ?_
  refine W_region ?_
  refine LP_ev ok 0 [(11, I (wr (left - (ln a)))), (4, I (wr (left - (ln a))))] 2 rfl rfl ?_
  refine LP_end _ rfl ?_
  refine W_ret ?_
  exact ⟨_, Ret_of [I (wr (left - (ln a)))] ⟨⟨rfl, rfl⟩, trivial⟩, _, H, rfl, X.ext⟩

set_option maxRecDepth 8000 in
set_option maxHeartbeats 4000000 in
theorem laws_toFrac_w (a : Frac) (Q : Frac → Prop) (H : laws_toFrac a Q) (w : World)  :
    CallsTo Try.prog 36 #[.agg #[I a.Num, I a.Den]] w fun v w' => ∃ r0, Q r0 ∧ v = .agg #[I r0.Num, I r0.Den] ∧ Ext w w' := by
  refine enter (args := [.agg #[I a.Num, I a.Den]]) 11 Try.func36 rfl rfl rfl ?_
  refine W_forget [(0, .agg #[I a.Num, I a.Den])] ⟨rfl, trivial⟩ fun ρ => ?_
  have X := But.refl emp w
  refine W_seq ?_
  refine W_region ?_
  refine LP_box 0 (cs := [I a.Num, I a.Den]) rfl rfl rfl rfl rfl fun b wx x ex f => ?_
  refine LP_alloc 1 rfl rfl rfl ti_34 rfl fun b1 wx2 x3 ex4 f5 => ?_
  refine LP_end _ rfl ?_
  refine W_seq ?_
  refine W_region ?_
  refine LP_alloc 0 rfl rfl rfl ti_34 rfl fun b6 wx7 x8 ex9 f10 => ?_
  refine LP_end _ rfl ?_
  refine W_seq ?_
  refine W_region ?_
  refine LP_ev ok 0 [(4, .pointer (some ⟨b, 0, none⟩))] 1 rfl rfl ?_
  have ex11 := ((ex.ext x3).ext x8)
  refine LP_ldbox 1 (v := I a.Num) rfl rfl rfl ti_3 ag_3 (fun _ => rfl) rfl ex11 rfl rfl ?_
  refine LP_ev ok 2 [(6, .pointer (some ⟨b6, 0, none⟩))] 3 rfl rfl ?_
  refine LP_stbox 3 (vs := [I a.Num]) (cs' := [I a.Num, I 0]) rfl rfl rfl ti_3 rfl rfl rfl rfl rfl ex9 rfl rfl fun wx12 ex13 y => ?_
  refine LP_end _ rfl ?_
  refine W_seq ?_
  refine W_region ?_
  refine LP_ev ok 0 [(7, .pointer (some ⟨b, 1, none⟩))] 1 rfl rfl ?_
  have ex14 := (ex.ext x3)
  have ex15 := (ex11.but y (Dj.of_fresh ex14 f10).symm)
  refine LP_ldbox 1 (v := I a.Den) rfl rfl rfl ti_3 ag_3 (fun _ => rfl) rfl ex15 rfl rfl ?_
  refine LP_ev ok 2 [(9, .pointer (some ⟨b6, 1, none⟩))] 3 rfl rfl ?_
  refine LP_stbox 3 (vs := [I a.Den]) (cs' := [I a.Num, I a.Den]) rfl rfl rfl ti_3 rfl rfl rfl rfl rfl ex13 rfl rfl fun wx16 ex17 y18 => ?_
  refine LP_end _ rfl ?_
  refine W_seq ?_
  refine W_region ?_
  refine LP_ldbox 0 (v := .agg #[I a.Num, I a.Den]) rfl rfl rfl ti_34 ag_34 (fun h => by cases h) rfl ex17 rfl rfl ?_
  have ex22 := (((ex4.ext x8).but y (Dj.of_fresh ex4 f10).symm).but y18 (Dj.box (Dj.of_fresh ex4 f10).symm))
  refine LP_stbox 1 (vs := [I a.Num, I a.Den]) (cs' := [I a.Num, I a.Den]) rfl rfl rfl ti_34 rfl rfl rfl rfl rfl ex22 rfl rfl fun wx19 ex20 y21 => ?_
  refine LP_end _ rfl ?_
  refine W_ret ?_
  have X24 := ((X.stepx x).stepx x3)
  have f23 := f10.mono X24.size
  have X26 := (X.stepx x)
  have f25 := f5.mono X26.size
  have X27 := ((((((X.stepx x).stepx x3).stepx x8).step y (f23.dom _)).step y18 ((Fresh.box f23).dom _)).step y21 (f25.dom _))
  exact ⟨_, Ret_of [.agg #[I a.Num, I a.Den]] ⟨⟨_, rfl, rfl, ld_res ti_34 ag_34 (fun h => by cases h) ex20 rfl rfl⟩, trivial⟩, _, H, rfl, X27.ext⟩

set_option maxRecDepth 8000 in
set_option maxHeartbeats 4000000 in
theorem laws_toFracS_w (a : List Frac) (Q : (List Frac) → Prop) (H : laws_toFracS a Q) (w : World) {vx : Value} {hx : PH} (r : RS hx vx a) (ex : Sub hx w) :
    CallsTo Try.prog 35 #[vx] w fun v w' => ∃ r0 u0 g0, Q r0 ∧ v = u0 ∧ Ext w w' ∧ OS 34 g0 emp u0 r0 ∧ Sub g0 w' ∧ Fresh w.heap.size g0 := by
  obtain ⟨a1, c, rfl⟩ := r.shape
  refine enter (args := [.slice a1 (List.length a) c]) 23 Try.func35 rfl rfl rfl ?_
  refine W_forget [(0, .slice a1 (List.length a) c)] ⟨rfl, trivial⟩ fun ρ => ?_
  have X := But.refl emp w
  refine W_seq ?_
  refine W_region ?_
  refine LP_ev ok 0 [(2, .slice none 0 0)] 1 rfl rfl ?_
  refine LP_end _ rfl ?_
  refine W_seq ?_
  refine W_region ?_
  refine LP_ev ok 0 [(5, .slice a1 (List.length a) c), (6, I (ln a))] 2 rfl rfl ?_
  obtain ⟨hn, hb, H⟩ := H
  refine LP_make (α := Frac) 2 rfl rfl rfl Try.underlying44 ti_34 (x0 := (Frac.mk ((0 : Int)) ((0 : Int)))) rfl rfl hn (by first | omega | (simp only [ln] at *; omega)) (by first | omega | (simp only [ln] at *; omega)) fun hx2 vx3 wx x o ex4 f => ?_
  obtain ⟨a5, c6, rfl⟩ := o.shape
  refine LP_ev ok 3 [(3, .slice a5 (List.length (List.replicate (Int.toNat (ln a)) ((Frac.mk ((0 : Int)) ((0 : Int)))))) c6)] 4 rfl rfl ?_
  refine LP_end _ rfl ?_
  refine W_seq ?_
  refine W_seq ?_
  refine W_region ?_
  refine LP_ev ok 0 [(4, I 0)] 1 rfl rfl ?_
  refine LP_end _ rfl ?_
  refine W_block ?_
  obtain ⟨J, m, Hx, H⟩ := H
  have X15 := (X.stepx x)
  have f16 := f.mono X.size
  have ex17 := (ex.ext x)
  refine W_loop (S := (List Frac) × Int) (fun s ρ' w' => J s.1 s.2 ∧ ∃ (ρ : Env) (hx8 : PH), ρ' = setAll [(0, .slice a1 (List.length a) c), (3, .slice a5 (List.length (List.replicate (Int.toNat (ln a)) ((Frac.mk ((0 : Int)) ((0 : Int)))))) c6), (4, I s.2)] ρ ∧ But emp w w' ∧ OS 34 hx8 emp (.slice a5 (List.length (List.replicate (Int.toNat (ln a)) ((Frac.mk ((0 : Int)) ((0 : Int)))))) c6) s.1 ∧ Sub hx8 w' ∧ Fresh w.heap.size hx8 ∧ Sub hx w' ∧ Dj hx8 hx) (fun s => m s.1 s.2) (List.replicate (Int.toNat (ln a)) ((Frac.mk ((0 : Int)) ((0 : Int)))), 0) ⟨Hx, _, hx2, env_eq ⟨rfl, rfl, rfl, trivial⟩, X15, o, ex4, f16, ex17, (Dj.of_fresh ex f).symm⟩ ?_
  rintro ⟨out, i⟩ _ wx12 ⟨Hi, ρ, hx8, rfl, X14, o9, ex10, f11, ex13, d⟩
  have H := H out i Hi
  refine W_seq ?_
  refine W_seq ?_
  refine W_region ?_
  refine LP_ev ok 0 [(8, I i), (9, .slice a1 (List.length a) c), (10, I (ln a)), (11, .bool (decide (i < (ln a))))] 4 rfl rfl ?_
  refine LP_end _ rfl ?_
  refine W_cond (decide (i < (ln a))) rfl (fun hc => ?_) (fun hc => ?_)
  · have H := H.1 hc
    refine W_skip ?_
    refine W_seq ?_
    refine W_block ?_
    refine W_region ?_
    refine LP_ev ok 0 [(14, .slice a5 (List.length (List.replicate (Int.toNat (ln a)) ((Frac.mk ((0 : Int)) ((0 : Int)))))) c6), (15, I i), (16, .slice a1 (List.length a) c), (17, I i)] 4 rfl rfl ?_
    obtain ⟨x18, hi, hx19, H⟩ := H
    refine LP_index 4 rfl rfl rfl Try.underlying39 ti_40 rfl rfl r hi hx19 fun a20 cs r21 d22 => ?_
    refine LP_load 5 rfl rfl rfl ti_40 ag_40 rfl r21 d22 ex13 fun vx23 r24 => ?_
    obtain rfl := Frac_rv r24
    refine LP_call 6 rfl rfl rfl cal_36 rfl (laws_toFrac_w _ _ H wx12 ) ?_
    rintro _ wx26 ⟨r25, H, rfl, x27⟩
    obtain ⟨hi28, hl, H⟩ := H
    refine LP_indexw 7 rfl rfl rfl Try.underlying44 ti_34 rfl rfl o9 hi28 hl fun a29 wa => ?_
    have ex34 := (ex10.ext x27)
    refine LP_set 8 rfl rfl rfl rfl rfl wa (Le.refl emp) ⟨_, rfl, rfl⟩ ex34 fun hx30 wx31 o32 ex33 y dm => ?_
    refine LP_end _ rfl ?_
    refine W_region ?_
    refine LP_ev ok 0 [(12, I i), (13, I (wr (i + 1))), (4, I (wr (i + 1)))] 3 rfl rfl ?_
    refine LP_end _ rfl ?_
    have X35 := ((X14.stepx x27).step y (f11.dom _))
    have X37 := (X14.stepx x27)
    have f36 := (dm _).fresh f11 X37.size
    have ex38 := ((ex13.ext x27).but y d)
    have ex39 := (ex13.ext x27)
    exact ⟨(List.set out (Int.toNat i) r25, wr (i + 1)), ⟨H.1, _, hx30, env_eq ⟨rfl, rfl, rfl, trivial⟩, X35, o32, ex33, f36, ex38, (DomLe.dj (dm _) d ex39)⟩, H.2⟩
  have H := H.2 hc
  refine W_exit ?_
  refine (if_pos rfl).mpr ?_
  refine W_seq ?_
  refine W_region ?_
  refine LP_ev ok 0 [(22, .slice a5 (List.length (List.replicate (Int.toNat (ln a)) ((Frac.mk ((0 : Int)) ((0 : Int)))))) c6), (2, .slice a5 (List.length (List.replicate (Int.toNat (ln a)) ((Frac.mk ((0 : Int)) ((0 : Int)))))) c6)] 2 rfl rfl ?_
  refine LP_end _ rfl ?_
  refine W_ret ?_
  exact ⟨_, Ret_of [.slice a5 (List.length (List.replicate (Int.toNat (ln a)) ((Frac.mk ((0 : Int)) ((0 : Int)))))) c6] ⟨⟨rfl, rfl⟩, trivial⟩, _, _, _, H, rfl, X14.ext, o9, ex10, f11⟩

set_option maxRecDepth 8000 in
set_option maxHeartbeats 4000000 in
theorem spec_oFracs_w (l : List Frac) (most : Int) (Q : Bool → Prop) (H : spec_oFracs l most Q) (w : World) {vx : Value} {hx : PH} (r : RS hx vx l) (ex : Sub hx w) :
    CallsTo Try.prog 95 #[vx, I most] w fun v w' => ∃ r0, Q r0 ∧ v = .bool r0 ∧ Ext w w' := by
  obtain ⟨a, c, rfl⟩ := r.shape
  refine enter (args := [.slice a (List.length l) c, I most]) 21 Try.func95 rfl rfl rfl ?_
  refine W_forget [(0, .slice a (List.length l) c), (1, I most)] ⟨rfl, rfl, trivial⟩ fun ρ => ?_
  have X := But.refl emp w
  refine W_seq ?_
  refine W_region ?_
  refine LP_ev ok 0 [(4, .bool false)] 1 rfl rfl ?_
  refine LP_end _ rfl ?_
  refine W_seq ?_
  refine W_seq ?_
  refine W_region ?_
  refine LP_ev ok 0 [(7, .slice a (List.length l) c), (8, I (ln l)), (9, I 0)] 3 rfl rfl ?_
  refine LP_end _ rfl ?_
  refine W_block ?_
  obtain ⟨J, m, Hx, H⟩ := H
  refine W_loop (S := Int) (fun s ρ' w' => J s ∧ ∃ (ρ : Env), ρ' = setAll [(0, .slice a (List.length l) c), (1, I most), (7, .slice a (List.length l) c), (8, I (ln l)), (9, I s)] ρ ∧ But emp w w' ∧ Sub hx w') (fun s => m s) 0 ⟨Hx, _, env_eq ⟨rfl, rfl, rfl, rfl, rfl, trivial⟩, X, ex⟩ ?_
  rintro x _ wx ⟨Hi, ρ, rfl, X2, ex1⟩
  have H := H x Hi
  refine W_seq ?_
  refine W_region ?_
  refine LP_ev ok 0 [(10, .bool (decide (x < (ln l))))] 1 rfl rfl ?_
  refine LP_end _ rfl ?_
  refine W_seq ?_
  refine W_cond (decide (x < (ln l))) rfl (fun hc => ?_) (fun hc => ?_)
  · have H := H.1 hc
    refine W_skip ?_
    refine W_seq ?_
    refine W_block ?_
    refine W_seq ?_
    refine W_region ?_
    obtain ⟨x3, hi, hx4, H⟩ := H
    refine LP_index 0 rfl rfl rfl Try.underlying44 ti_34 rfl rfl r hi hx4 fun a5 cs r6 d => ?_
    refine LP_load 1 rfl rfl rfl ti_34 ag_34 rfl r6 d ex1 fun vx7 r8 => ?_
    obtain rfl := Frac_rv r8
    refine LP_alloc 2 rfl rfl rfl ti_34 rfl fun b wx9 x10 ex11 f => ?_
    refine LP_stbox 3 (vs := [I x3.Num, I x3.Den]) (cs' := [I x3.Num, I x3.Den]) rfl rfl rfl ti_34 rfl rfl rfl rfl rfl ex11 rfl rfl fun wx12 ex13 y => ?_
    refine LP_end _ rfl ?_
    refine W_seq ?_
    refine W_region ?_
    refine LP_ldbox 0 (v := .agg #[I x3.Num, I x3.Den]) rfl rfl rfl ti_34 ag_34 (fun h => by cases h) rfl ex13 rfl rfl ?_
    refine LP_call 1 rfl rfl rfl cal_96 rfl (spec_fGood_w _ _ H wx12 ) ?_
    rintro _ wx15 ⟨r14, H, rfl, x16⟩
    refine LP_ev ok 2 [(15, .bool (!r14))] 3 rfl rfl ?_
    refine LP_end _ rfl ?_
    refine W_cond (!r14) rfl (fun hc17 => ?_) (fun hc17 => ?_)
    · have H := H.1 hc17
      refine W_seq ?_
      refine W_region ?_
      refine LP_ev ok 0 [(4, .bool false)] 1 rfl rfl ?_
      refine LP_end _ rfl ?_
      refine W_ret ?_
      have f18 := f.mono X2.size
      have X19 := (((X2.stepx x10).step y (f18.dom _)).stepx x16)
      exact ⟨_, Ret_of [.bool false] ⟨⟨rfl, rfl⟩, trivial⟩, _, H, rfl, X19.ext⟩
    have H := H.2 hc17
    refine W_skip ?_
    refine W_region ?_
    refine LP_ev ok 0 [(16, I (wr (x + 1))), (9, I (wr (x + 1)))] 2 rfl rfl ?_
    refine LP_end _ rfl ?_
    have f20 := f.mono X2.size
    have X21 := (((X2.stepx x10).step y (f20.dom _)).stepx x16)
    have ex22 := (((ex1.ext x10).but y (Dj.of_fresh ex1 f).symm).ext x16)
    exact ⟨wr (x + 1), ⟨H.1, _, env_eq ⟨rfl, rfl, rfl, rfl, rfl, trivial⟩, X21, ex22⟩, H.2⟩
  have H := H.2 hc
  refine W_exit ?_
  refine (if_pos rfl).mpr ?_
  refine W_seq ?_
  refine W_region ?_
  refine LP_ev ok 0 [(17, .slice a (List.length l) c), (18, I (ln l)), (19, I most), (20, .bool (decide ((ln l) ≤ most))), (4, .bool (decide ((ln l) ≤ most)))] 5 rfl rfl ?_
  refine LP_end _ rfl ?_
  refine W_ret ?_
  exact ⟨_, Ret_of [.bool (decide ((ln l) ≤ most))] ⟨⟨rfl, rfl⟩, trivial⟩, _, H, rfl, X2.ext⟩

set_option maxRecDepth 8000 in
set_option maxHeartbeats 4000000 in
theorem spec_l1Sign_w (n : Int) (Q : Int → Prop) (H : spec_l1Sign n Q) (w : World)  :
    CallsTo Try.prog 147 #[I n] w fun v w' => ∃ r0, Q r0 ∧ v = I r0 ∧ Ext w w' := by
  refine enter (args := [I n]) 9 Try.func147 rfl rfl rfl ?_
  refine W_forget [(0, I n)] ⟨rfl, trivial⟩ fun ρ => ?_
  have X := But.refl emp w
  refine W_seq ?_
  refine W_region ?_
  refine LP_ev ok 0 [(2, I 0)] 1 rfl rfl ?_
  refine LP_end _ rfl ?_
  refine W_seq ?_
  refine W_block ?_
  refine W_seq ?_
  refine W_region ?_
  refine LP_ev ok 0 [(4, I n), (5, .bool (decide (n < 0))), (3, .bool (decide (n < 0)))] 3 rfl rfl ?_
  refine LP_end _ rfl ?_
  refine W_cond (decide (n < 0)) rfl (fun hc => ?_) (fun hc => ?_)
  · have H := H.1 hc
    refine W_seq ?_
    refine W_region ?_
    refine LP_ev ok 0 [(2, I ((-1)))] 1 rfl rfl ?_
    refine LP_end _ rfl ?_
    refine W_ret ?_
    exact ⟨_, Ret_of [I ((-1))] ⟨⟨rfl, rfl⟩, trivial⟩, _, H, rfl, X.ext⟩
  have H := H.2 hc
  refine W_seq ?_
  refine W_region ?_
  refine LP_ev ok 0 [(7, I n), (8, .bool (decide (n > 0))), (6, .bool (decide (n > 0)))] 3 rfl rfl ?_
  refine LP_end _ rfl ?_
  refine W_cond (decide (n > 0)) rfl (fun hc1 => ?_) (fun hc1 => ?_)
  · have H := H.1 hc1
    refine W_seq ?_
    refine W_region ?_
    refine LP_ev ok 0 [(2, I 1)] 1 rfl rfl ?_
    refine LP_end _ rfl ?_
    refine W_ret ?_
    exact ⟨_, Ret_of [I 1] ⟨⟨rfl, rfl⟩, trivial⟩, _, H, rfl, X.ext⟩
  have H := H.2 hc1
  refine W_skip ?_
  refine W_seq ?_
  refine W_region ?_
  refine LP_ev ok 0 [(2, I 0)] 1 rfl rfl ?_
  refine LP_end _ rfl ?_
  refine W_ret ?_
  exact ⟨_, Ret_of [I 0] ⟨⟨rfl, rfl⟩, trivial⟩, _, H, rfl, X.ext⟩

set_option maxRecDepth 8000 in
set_option maxHeartbeats 4000000 in
theorem spec_fCmp_w (a : Frac) (b : Frac) (Q : Int → Prop) (H : spec_fCmp a b Q) (w : World)  :
    CallsTo Try.prog 97 #[.agg #[I a.Num, I a.Den], .agg #[I b.Num, I b.Den]] w fun v w' => ∃ r0, Q r0 ∧ v = I r0 ∧ Ext w w' := by
  refine enter (args := [.agg #[I a.Num, I a.Den], .agg #[I b.Num, I b.Den]]) 17 Try.func97 rfl rfl rfl ?_
  refine W_forget [(0, .agg #[I a.Num, I a.Den]), (1, .agg #[I b.Num, I b.Den])] ⟨rfl, rfl, trivial⟩ fun ρ => ?_
  have X := But.refl emp w
  refine W_seq ?_
  refine W_region ?_
  refine LP_box 0 (cs := [I a.Num, I a.Den]) rfl rfl rfl rfl rfl fun b1 wx x ex f => ?_
  refine LP_box 1 (cs := [I b.Num, I b.Den]) rfl rfl rfl rfl rfl fun b2 wx3 x4 ex5 f6 => ?_
  refine LP_ev ok 2 [(4, I 0)] 3 rfl rfl ?_
  refine LP_end _ rfl ?_
  refine W_seq ?_
  refine W_region ?_
  refine LP_ev ok 0 [(5, .pointer (some ⟨b1, 0, none⟩))] 1 rfl rfl ?_
  have ex7 := (ex.ext x4)
  refine LP_ldbox 1 (v := I a.Num) rfl rfl rfl ti_3 ag_3 (fun _ => rfl) rfl ex7 rfl rfl ?_
  refine LP_ev ok 2 [(7, .pointer (some ⟨b2, 1, none⟩))] 3 rfl rfl ?_
  refine LP_ldbox 3 (v := I b.Den) rfl rfl rfl ti_3 ag_3 (fun _ => rfl) rfl ex5 rfl rfl ?_
  refine LP_ev ok 4 [(9, I (wr (a.Num * b.Den))), (10, .pointer (some ⟨b2, 0, none⟩))] 6 rfl rfl ?_
  refine LP_ldbox 6 (v := I b.Num) rfl rfl rfl ti_3 ag_3 (fun _ => rfl) rfl ex5 rfl rfl ?_
  refine LP_ev ok 7 [(12, .pointer (some ⟨b1, 1, none⟩))] 8 rfl rfl ?_
  refine LP_ldbox 8 (v := I a.Den) rfl rfl rfl ti_3 ag_3 (fun _ => rfl) rfl ex7 rfl rfl ?_
  refine LP_ev ok 9 [(14, I (wr (b.Num * a.Den))), (15, I (wr ((wr (a.Num * b.Den)) - (wr (b.Num * a.Den)))))] 11 rfl rfl ?_
  refine LP_call 11 rfl rfl rfl cal_147 rfl (spec_l1Sign_w _ _ H wx3 ) ?_
  rintro _ wx8 ⟨r, H, rfl, x9⟩
  refine LP_ev ok 12 [(4, I r)] 13 rfl rfl ?_
  refine LP_end _ rfl ?_
  refine W_ret ?_
  have X10 := (((X.stepx x).stepx x4).stepx x9)
  exact ⟨_, Ret_of [I r] ⟨⟨rfl, rfl⟩, trivial⟩, _, H, rfl, X10.ext⟩

set_option maxRecDepth 8000 in
set_option maxHeartbeats 4000000 in
theorem spec_RanksOf_w (values : List Frac) (Q : (List Int) → Bool → Prop) (H : spec_RanksOf values Q) (w : World) {vx : Value} {hx : PH} (r : RS hx vx values) (ex : Sub hx w) :
    CallsTo Try.prog 47 #[vx] w fun v w' => ∃ r0 r1 u0 g0, Q r0 r1 ∧ v = .tuple #[u0, .bool r1] ∧ Ext w w' ∧ OS 3 g0 emp u0 r0 ∧ Sub g0 w' ∧ Fresh w.heap.size g0 := by
  obtain ⟨a, c, rfl⟩ := r.shape
  refine enter (args := [.slice a (List.length values) c]) 38 Try.func47 rfl rfl rfl ?_
  refine W_forget [(0, .slice a (List.length values) c)] ⟨rfl, trivial⟩ fun ρ => ?_
  have X := But.refl emp w
  refine W_seq ?_
  refine W_region ?_
  refine LP_ev ok 0 [(2, .slice none 0 0), (3, .bool false)] 2 rfl rfl ?_
  refine LP_end _ rfl ?_
  refine W_seq ?_
  refine W_seq ?_
  refine W_region ?_
  refine LP_ev ok 0 [(10, .slice a (List.length values) c)] 1 rfl rfl ?_
  refine LP_call 1 rfl rfl rfl cal_95 rfl (spec_oFracs_w _ _ _ H w r ex) ?_
  rintro _ wx ⟨r1, H, rfl, x⟩
  refine LP_ev ok 2 [(12, .bool (!r1))] 3 rfl rfl ?_
  refine LP_end _ rfl ?_
  refine W_cond (!r1) rfl (fun hc => ?_) (fun hc => ?_)
  · have H := H.1 hc
    refine W_seq ?_
    refine W_region ?_
    refine LP_ev ok 0 [(2, .slice none 0 0), (3, .bool false)] 2 rfl rfl ?_
    refine LP_end _ rfl ?_
    refine W_ret ?_
    have X2 := (X.stepx x)
    exact ⟨_, Ret_of [.slice none 0 0, .bool false] ⟨⟨rfl, rfl⟩, ⟨rfl, rfl⟩, trivial⟩, _, _, _, emp, H, rfl, X2.ext, OS.nil, (emp_sub _), (emp_fresh _)⟩
  have H := H.2 hc
  refine W_skip ?_
  refine W_seq ?_
  refine W_region ?_
  refine LP_ev ok 0 [(4, .slice none 0 0)] 1 rfl rfl ?_
  refine LP_end _ rfl ?_
  refine W_seq ?_
  refine W_seq ?_
  refine W_region ?_
  refine LP_ev ok 0 [(13, .slice a (List.length values) c), (14, I (ln values)), (15, I 0)] 3 rfl rfl ?_
  refine LP_end _ rfl ?_
  refine W_block ?_
  obtain ⟨J, m, Hx, H⟩ := H
  have X12 := (X.stepx x)
  have ex13 := (ex.ext x)
  refine W_loop (S := (List Int) × Int) (fun s ρ' w' => J s.1 s.2 ∧ ∃ (ρ : Env) (vx3 : Value) (hx4 : PH), ρ' = setAll [(0, .slice a (List.length values) c), (4, vx3), (13, .slice a (List.length values) c), (14, I (ln values)), (15, I s.2)] ρ ∧ But emp w w' ∧ OS 3 hx4 emp vx3 s.1 ∧ Sub hx4 w' ∧ Fresh w.heap.size hx4 ∧ Sub hx w' ∧ Dj hx4 hx) (fun s => m s.1 s.2) ([], 0) ⟨Hx, _, .slice none 0 0, emp, env_eq ⟨rfl, rfl, rfl, rfl, rfl, trivial⟩, X12, OS.nil, (emp_sub _), (emp_fresh _), ex13, (fun _ => .inl rfl)⟩ ?_
  rintro ⟨out, x6⟩ _ wx7 ⟨Hi, ρ, vx3, hx4, rfl, X11, o, ex5, f, ex8, d⟩
  have H := H out x6 Hi
  obtain ⟨a9, c10, rfl⟩ := o.shape
  refine W_seq ?_
  refine W_region ?_
  refine LP_ev ok 0 [(16, .bool (decide (x6 < (ln values))))] 1 rfl rfl ?_
  refine LP_end _ rfl ?_
  refine W_seq ?_
  refine W_cond (decide (x6 < (ln values))) rfl (fun hc14 => ?_) (fun hc14 => ?_)
  · have H := H.1 hc14
    refine W_skip ?_
    refine W_seq ?_
    refine W_block ?_
    refine W_seq ?_
    refine W_region ?_
    obtain ⟨x15, hi, hx16, H⟩ := H
    refine LP_index 0 rfl rfl rfl Try.underlying44 ti_34 rfl rfl r hi hx16 fun a17 cs r18 d19 => ?_
    refine LP_load 1 rfl rfl rfl ti_34 ag_34 rfl r18 d19 ex8 fun vx20 r21 => ?_
    obtain rfl := Frac_rv r21
    refine LP_alloc 2 rfl rfl rfl ti_34 rfl fun b wx22 x23 ex24 f25 => ?_
    refine LP_stbox 3 (vs := [I x15.Num, I x15.Den]) (cs' := [I x15.Num, I x15.Den]) rfl rfl rfl ti_34 rfl rfl rfl rfl rfl ex24 rfl rfl fun wx26 ex27 y => ?_
    refine LP_end _ rfl ?_
    refine W_seq ?_
    refine W_region ?_
    refine LP_ev ok 0 [(7, I 1)] 1 rfl rfl ?_
    refine LP_end _ rfl ?_
    refine W_seq ?_
    refine W_seq ?_
    refine W_region ?_
    refine LP_ev ok 0 [(19, .slice a (List.length values) c), (20, I (ln values)), (21, I 0)] 3 rfl rfl ?_
    refine LP_end _ rfl ?_
    refine W_block ?_
    obtain ⟨J34, m35, Hx36, H⟩ := H
    have f37 := f25.mono X11.size
    have X38 := ((X11.stepx x23).step y (f37.dom _))
    have ex39 := ((ex8.ext x23).but y (Dj.of_fresh ex8 f25).symm)
    have ex40 := ((ex5.ext x23).but y (Dj.of_fresh ex5 f25).symm)
    refine W_loop (S := Int × Int) (fun s ρ' w' => J34 s.1 s.2 ∧ ∃ (ρ : Env), ρ' = setAll [(0, .slice a (List.length values) c), (4, .slice a9 (List.length out) c10), (6, .pointer (some ⟨b, 0, none⟩)), (7, I s.1), (13, .slice a (List.length values) c), (14, I (ln values)), (15, I x6), (19, .slice a (List.length values) c), (20, I (ln values)), (21, I s.2)] ρ ∧ But emp w w' ∧ Sub hx w' ∧ Sub hx4 w' ∧ Sub (bx b 34 [I x15.Num, I x15.Den]) w') (fun s => m35 s.1 s.2) (1, 0) ⟨Hx36, _, env_eq ⟨rfl, rfl, rfl, rfl, rfl, rfl, rfl, rfl, rfl, rfl, trivial⟩, X38, ex39, ex40, ex27⟩ ?_
    rintro ⟨n, x28⟩ _ wx29 ⟨Hi, ρ, rfl, X33, ex30, ex31, ex32⟩
    have H := H n x28 Hi
    refine W_seq ?_
    refine W_region ?_
    refine LP_ev ok 0 [(22, .bool (decide (x28 < (ln values))))] 1 rfl rfl ?_
    refine LP_end _ rfl ?_
    refine W_seq ?_
    refine W_cond (decide (x28 < (ln values))) rfl (fun hc42 => ?_) (fun hc42 => ?_)
    · have H := H.1 hc42
      refine W_skip ?_
      obtain ⟨k, hk, H⟩ := jn_elim H
      refine W_join2 (S := Int) (fun s ρ' w' => k s ∧ ∃ (ρ : Env), ρ' = setAll [(0, .slice a (List.length values) c), (4, .slice a9 (List.length out) c10), (6, .pointer (some ⟨b, 0, none⟩)), (7, I s), (13, .slice a (List.length values) c), (14, I (ln values)), (15, I x6), (19, .slice a (List.length values) c), (20, I (ln values)), (21, I x28)] ρ ∧ But emp w w' ∧ Sub hx w' ∧ Sub hx4 w' ∧ Sub (bx b 34 [I x15.Num, I x15.Den]) w') ?_ ?_
      · refine W_block ?_
        refine W_seq ?_
        refine W_region ?_
        obtain ⟨x49, hi50, hx51, H⟩ := H
        refine LP_index 0 rfl rfl rfl Try.underlying44 ti_34 rfl rfl r hi50 hx51 fun a52 cs53 r54 d55 => ?_
        refine LP_load 1 rfl rfl rfl ti_34 ag_34 rfl r54 d55 ex30 fun vx56 r57 => ?_
        obtain rfl := Frac_rv r57
        refine LP_alloc 2 rfl rfl rfl ti_34 rfl fun b58 wx59 x60 ex61 f62 => ?_
        refine LP_stbox 3 (vs := [I x49.Num, I x49.Den]) (cs' := [I x49.Num, I x49.Den]) rfl rfl rfl ti_34 rfl rfl rfl rfl rfl ex61 rfl rfl fun wx63 ex64 y65 => ?_
        refine LP_end _ rfl ?_
        refine W_seq ?_
        refine W_region ?_
        refine LP_ldbox 0 (v := .agg #[I x49.Num, I x49.Den]) rfl rfl rfl ti_34 ag_34 (fun h => by cases h) rfl ex64 rfl rfl ?_
        have ex66 := ((ex32.ext x60).but y65 (Dj.of_fresh ex32 f62).symm)
        refine LP_ldbox 1 (v := .agg #[I x15.Num, I x15.Den]) rfl rfl rfl ti_34 ag_34 (fun h => by cases h) rfl ex66 rfl rfl ?_
        refine LP_call 2 rfl rfl rfl cal_97 rfl (spec_fCmp_w _ _ _ H wx63 ) ?_
        rintro _ wx68 ⟨r67, H, rfl, x69⟩
        refine LP_ev ok 3 [(28, .bool (decide (r67 > 0)))] 4 rfl rfl ?_
        refine LP_end _ rfl ?_
        refine W_cond (decide (r67 > 0)) rfl (fun hc70 => ?_) (fun hc70 => ?_)
        · have H := H.1 hc70
          refine W_region ?_
          refine LP_ev ok 0 [(29, I n), (30, I (wr (n + 1))), (7, I (wr (n + 1)))] 3 rfl rfl ?_
          refine LP_end _ rfl ?_
          have f71 := f62.mono X33.size
          have X72 := (((X33.stepx x60).step y65 (f71.dom _)).stepx x69)
          have ex73 := (((ex30.ext x60).but y65 (Dj.of_fresh ex30 f62).symm).ext x69)
          have ex74 := (((ex31.ext x60).but y65 (Dj.of_fresh ex31 f62).symm).ext x69)
          have ex75 := (ex66.ext x69)
          exact ⟨wr (n + 1), H, _, env_eq ⟨rfl, rfl, rfl, rfl, rfl, rfl, rfl, rfl, rfl, rfl, trivial⟩, X72, ex73, ex74, ex75⟩
        have H := H.2 hc70
        refine W_skip ?_
        have f76 := f62.mono X33.size
        have X77 := (((X33.stepx x60).step y65 (f76.dom _)).stepx x69)
        have ex78 := (((ex30.ext x60).but y65 (Dj.of_fresh ex30 f62).symm).ext x69)
        have ex79 := (((ex31.ext x60).but y65 (Dj.of_fresh ex31 f62).symm).ext x69)
        have ex80 := (ex66.ext x69)
        exact ⟨n, H, _, env_eq ⟨rfl, rfl, rfl, rfl, rfl, rfl, rfl, rfl, rfl, rfl, trivial⟩, X77, ex78, ex79, ex80⟩
      rintro n43 _ wx44 ⟨H, ρ, rfl, X48, ex45, ex46, ex47⟩
      subst hk
      refine W_region ?_
      refine LP_ev ok 0 [(31, I (wr (x28 + 1))), (21, I (wr (x28 + 1)))] 2 rfl rfl ?_
      refine LP_end _ rfl ?_
      exact ⟨(n43, wr (x28 + 1)), ⟨H.1, _, env_eq ⟨rfl, rfl, rfl, rfl, rfl, rfl, rfl, rfl, rfl, rfl, trivial⟩, X48, ex45, ex46, ex47⟩, H.2⟩
    have H := H.2 hc42
    refine W_exit ?_
    refine (if_pos rfl).mpr ?_
    refine W_region ?_
    refine LP_ev ok 0 [(32, .slice a9 (List.length out) c10), (33, I n)] 2 rfl rfl ?_
    refine LP_lit (α := Int) (g := emp) 2 (vs := [I n]) (xs := [n]) rfl rfl rfl Try.underlying22 ti_3 rfl rfl ⟨⟨_, rfl, rfl⟩, trivial⟩ rfl rfl fun hx81 vx82 wx83 x84 o85 ex86 f87 => ?_
    obtain ⟨a88, c89, rfl⟩ := o85.shape
    have ex90 := (ex31.ext x84)
    obtain ⟨hb, H⟩ := H
    refine LP_appendf (α := Int) 3 rfl rfl rfl Try.underlying22 ti_3 rfl rfl rfl o ex90 o85.readf ex86 (by first | omega | (simp only [ln] at *; omega)) (by first | omega | (simp only [ln] at *; omega)) fun hx91 vx92 wx93 o94 ex95 y96 dm => ?_
    obtain ⟨a97, c98, rfl⟩ := o94.shape
    refine LP_ev ok 4 [(4, .slice a97 (List.length (out ++ ([n]))) c98)] 5 rfl rfl ?_
    refine LP_end _ rfl ?_
    refine W_region ?_
    refine LP_ev ok 0 [(36, I (wr (x6 + 1))), (15, I (wr (x6 + 1)))] 2 rfl rfl ?_
    refine LP_end _ rfl ?_
    have X99 := ((X33.stepx x84).step y96 (f.dom _))
    have X101 := (X33.stepx x84)
    have f100 := dm.fresh f X101.size
    have ex102 := ((ex30.ext x84).but y96 d)
    have ex103 := (ex30.ext x84)
    exact ⟨(out ++ ([n]), wr (x6 + 1)), ⟨H.1, _, .slice a97 (List.length (out ++ ([n]))) c98, hx91, env_eq ⟨rfl, rfl, rfl, rfl, rfl, trivial⟩, X99, o94, ex95, f100, ex102, (DomLe.dj dm d ex103)⟩, H.2⟩
  have H := H.2 hc14
  refine W_exit ?_
  refine (if_pos rfl).mpr ?_
  refine W_seq ?_
  refine W_region ?_
  refine LP_ev ok 0 [(37, .slice a9 (List.length out) c10), (2, .slice a9 (List.length out) c10), (3, .bool true)] 3 rfl rfl ?_
  refine LP_end _ rfl ?_
  refine W_ret ?_
  exact ⟨_, Ret_of [.slice a9 (List.length out) c10, .bool true] ⟨⟨rfl, rfl⟩, ⟨rfl, rfl⟩, trivial⟩, _, _, _, _, H, rfl, X11.ext, o, ex5, f⟩

set_option maxRecDepth 8000 in
set_option maxHeartbeats 4000000 in
theorem impl_areFracs_w (l : List Frac) (Q : Bool → Prop) (H : impl_areFracs l Q) (w : World) {vx : Value} {hx : PH} (r : RS hx vx l) (ex : Sub hx w) :
    CallsTo Try.prog 98 #[vx] w fun v w' => ∃ r0, Q r0 ∧ v = .bool r0 ∧ Ext w w' := by
  obtain ⟨a, c, rfl⟩ := r.shape
  refine enter (args := [.slice a (List.length l) c]) 15 Try.func98 rfl rfl rfl ?_
  refine W_forget [(0, .slice a (List.length l) c)] ⟨rfl, trivial⟩ fun ρ => ?_
  have X := But.refl emp w
  refine W_seq ?_
  refine W_region ?_
  refine LP_ev ok 0 [(2, .bool false)] 1 rfl rfl ?_
  refine LP_end _ rfl ?_
  refine W_seq ?_
  refine W_seq ?_
  refine W_region ?_
  refine LP_ev ok 0 [(5, .slice a (List.length l) c), (6, I (ln l)), (7, I 0)] 3 rfl rfl ?_
  refine LP_end _ rfl ?_
  refine W_block ?_
  obtain ⟨J, m, Hx, H⟩ := H
  refine W_loop (S := Int) (fun s ρ' w' => J s ∧ ∃ (ρ : Env), ρ' = setAll [(5, .slice a (List.length l) c), (6, I (ln l)), (7, I s)] ρ ∧ But emp w w' ∧ Sub hx w') (fun s => m s) 0 ⟨Hx, _, env_eq ⟨rfl, rfl, rfl, trivial⟩, X, ex⟩ ?_
  rintro x _ wx ⟨Hi, ρ, rfl, X2, ex1⟩
  have H := H x Hi
  refine W_seq ?_
  refine W_region ?_
  refine LP_ev ok 0 [(8, .bool (decide (x < (ln l))))] 1 rfl rfl ?_
  refine LP_end _ rfl ?_
  refine W_seq ?_
  refine W_cond (decide (x < (ln l))) rfl (fun hc => ?_) (fun hc => ?_)
  · have H := H.1 hc
    refine W_skip ?_
    refine W_seq ?_
    refine W_block ?_
    refine W_seq ?_
    refine W_region ?_
    obtain ⟨x3, hi, hx4, H⟩ := H
    refine LP_index 0 rfl rfl rfl Try.underlying44 ti_34 rfl rfl r hi hx4 fun a5 cs r6 d => ?_
    refine LP_load 1 rfl rfl rfl ti_34 ag_34 rfl r6 d ex1 fun vx7 r8 => ?_
    obtain rfl := Frac_rv r8
    refine LP_alloc 2 rfl rfl rfl ti_34 rfl fun b wx9 x10 ex11 f => ?_
    refine LP_stbox 3 (vs := [I x3.Num, I x3.Den]) (cs' := [I x3.Num, I x3.Den]) rfl rfl rfl ti_34 rfl rfl rfl rfl rfl ex11 rfl rfl fun wx12 ex13 y => ?_
    refine LP_end _ rfl ?_
    refine W_seq ?_
    refine W_region ?_
    refine LP_ldbox 0 (v := .agg #[I x3.Num, I x3.Den]) rfl rfl rfl ti_34 ag_34 (fun h => by cases h) rfl ex13 rfl rfl ?_
    refine LP_call 1 rfl rfl rfl cal_101 rfl (impl_IsFrac_w _ _ H wx12 ) ?_
    rintro _ wx15 ⟨r14, H, rfl, x16⟩
    refine LP_ev ok 2 [(13, .bool (!r14))] 3 rfl rfl ?_
    refine LP_end _ rfl ?_
    refine W_cond (!r14) rfl (fun hc17 => ?_) (fun hc17 => ?_)
    · have H := H.1 hc17
      refine W_seq ?_
      refine W_region ?_
      refine LP_ev ok 0 [(2, .bool false)] 1 rfl rfl ?_
      refine LP_end _ rfl ?_
      refine W_ret ?_
      have f18 := f.mono X2.size
      have X19 := (((X2.stepx x10).step y (f18.dom _)).stepx x16)
      exact ⟨_, Ret_of [.bool false] ⟨⟨rfl, rfl⟩, trivial⟩, _, H, rfl, X19.ext⟩
    have H := H.2 hc17
    refine W_skip ?_
    refine W_region ?_
    refine LP_ev ok 0 [(14, I (wr (x + 1))), (7, I (wr (x + 1)))] 2 rfl rfl ?_
    refine LP_end _ rfl ?_
    have f20 := f.mono X2.size
    have X21 := (((X2.stepx x10).step y (f20.dom _)).stepx x16)
    have ex22 := (((ex1.ext x10).but y (Dj.of_fresh ex1 f).symm).ext x16)
    exact ⟨wr (x + 1), ⟨H.1, _, env_eq ⟨rfl, rfl, rfl, trivial⟩, X21, ex22⟩, H.2⟩
  have H := H.2 hc
  refine W_exit ?_
  refine (if_pos rfl).mpr ?_
  refine W_seq ?_
  refine W_region ?_
  refine LP_ev ok 0 [(2, .bool true)] 1 rfl rfl ?_
  refine LP_end _ rfl ?_
  refine W_ret ?_
  exact ⟨_, Ret_of [.bool true] ⟨⟨rfl, rfl⟩, trivial⟩, _, H, rfl, X2.ext⟩

set_option maxRecDepth 8000 in
set_option maxHeartbeats 4000000 in
theorem impl_cmpFrac_w (a : Frac) (b : Frac) (Q : Int → Prop) (H : impl_cmpFrac a b Q) (w : World)  :
    CallsTo Try.prog 100 #[.agg #[I a.Num, I a.Den], .agg #[I b.Num, I b.Den]] w fun v w' => ∃ r0, Q r0 ∧ v = I r0 ∧ Ext w w' := by
  refine enter (args := [.agg #[I a.Num, I a.Den], .agg #[I b.Num, I b.Den]]) 25 Try.func100 rfl rfl rfl ?_
  refine W_forget [(0, .agg #[I a.Num, I a.Den]), (1, .agg #[I b.Num, I b.Den])] ⟨rfl, rfl, trivial⟩ fun ρ => ?_
  have X := But.refl emp w
  refine W_seq ?_
  refine W_region ?_
  refine LP_box 0 (cs := [I a.Num, I a.Den]) rfl rfl rfl rfl rfl fun b1 wx x ex f => ?_
  refine LP_box 1 (cs := [I b.Num, I b.Den]) rfl rfl rfl rfl rfl fun b2 wx3 x4 ex5 f6 => ?_
  refine LP_ev ok 2 [(4, I 0)] 3 rfl rfl ?_
  refine LP_end _ rfl ?_
  refine W_seq ?_
  refine W_quiet mix (by kernel_rfl) ?_
  refine QP_ev ok 0 [(7, .pointer (some ⟨b1, 0, none⟩))] 1 rfl rfl ?_
  have ex7 := (ex.ext x4)
  refine QP_ldbox 1 (v := I a.Num) rfl rfl rfl ti_3 ag_3 (fun _ => rfl) rfl ex7 rfl rfl ?_
  refine QP_ev ok 2 [(9, .pointer (some ⟨b2, 1, none⟩))] 3 rfl rfl ?_
  refine QP_ldbox 3 (v := I b.Den) rfl rfl rfl ti_3 ag_3 (fun _ => rfl) rfl ex5 rfl rfl ?_
  refine QP_ev ok 4 [(11, I (wr (a.Num * b.Den))), (12, .pointer (some ⟨b2, 0, none⟩))] 6 rfl rfl ?_
  refine QP_ldbox 6 (v := I b.Num) rfl rfl rfl ti_3 ag_3 (fun _ => rfl) rfl ex5 rfl rfl ?_
  refine QP_ev ok 7 [(14, .pointer (some ⟨b1, 1, none⟩))] 8 rfl rfl ?_
  refine QP_ldbox 8 (v := I a.Den) rfl rfl rfl ti_3 ag_3 (fun _ => rfl) rfl ex7 rfl rfl ?_
  refine QP_ev ok 9 [(16, I (wr (b.Num * a.Den))), (5, I (wr (a.Num * b.Den))), (6, I (wr (b.Num * a.Den)))] 12 rfl rfl ?_
  refine QP_end _ rfl fun wx8 x9 => ?_
  refine W_seq ?_
  refine W_block ?_
  refine W_seq ?_
  refine W_region ?_
  refine LP_ev ok 0 [(18, I (wr (a.Num * b.Den))), (19, I (wr (b.Num * a.Den))), (20, .bool (decide ((wr (a.Num * b.Den)) < (wr (b.Num * a.Den))))), (17, .bool (decide ((wr (a.Num * b.Den)) < (wr (b.Num * a.Den)))))] 4 rfl rfl ?_
  refine LP_end _ rfl ?_
  refine W_cond (decide ((wr (a.Num * b.Den)) < (wr (b.Num * a.Den)))) rfl (fun hc => ?_) (fun hc => ?_)
  · have H := H.1 hc
    refine W_seq ?_
    refine W_region ?_
    refine LP_ev ok 0 [(4, I ((-1)))] 1 rfl rfl ?_
    refine LP_end _ rfl ?_
    refine W_ret ?_
    have X10 := (((X.stepx x).stepx x4).stepx x9)
    exact ⟨_, Ret_of [I ((-1))] ⟨⟨rfl, rfl⟩, trivial⟩, _, H, rfl, X10.ext⟩
  have H := H.2 hc
  refine W_seq ?_
  refine W_region ?_
  refine LP_ev ok 0 [(22, I (wr (a.Num * b.Den))), (23, I (wr (b.Num * a.Den))), (24, .bool (decide ((wr (a.Num * b.Den)) > (wr (b.Num * a.Den))))), (21, .bool (decide ((wr (a.Num * b.Den)) > (wr (b.Num * a.Den)))))] 4 rfl rfl ?_
  refine LP_end _ rfl ?_
  refine W_cond (decide ((wr (a.Num * b.Den)) > (wr (b.Num * a.Den)))) rfl (fun hc11 => ?_) (fun hc11 => ?_)
  · have H := H.1 hc11
    refine W_seq ?_
    refine W_region ?_
    refine LP_ev ok 0 [(4, I 1)] 1 rfl rfl ?_
    refine LP_end _ rfl ?_
    refine W_ret ?_
    have X12 := (((X.stepx x).stepx x4).stepx x9)
    exact ⟨_, Ret_of [I 1] ⟨⟨rfl, rfl⟩, trivial⟩, _, H, rfl, X12.ext⟩
  have H := H.2 hc11
  refine W_skip ?_
  refine W_seq ?_
  refine W_region ?_
  refine LP_ev ok 0 [(4, I 0)] 1 rfl rfl ?_
  refine LP_end _ rfl ?_
  refine W_ret ?_
  have X13 := (((X.stepx x).stepx x4).stepx x9)
  exact ⟨_, Ret_of [I 0] ⟨⟨rfl, rfl⟩, trivial⟩, _, H, rfl, X13.ext⟩

set_option maxRecDepth 8000 in
set_option maxHeartbeats 4000000 in
theorem impl_RanksOf_w (values : List Frac) (Q : (List Int) → Bool → Prop) (H : impl_RanksOf values Q) (w : World) {vx : Value} {hx : PH} (r : RS hx vx values) (ex : Sub hx w) :
    CallsTo Try.prog 48 #[vx] w fun v w' => ∃ r0 r1 u0 g0, Q r0 r1 ∧ v = .tuple #[u0, .bool r1] ∧ Ext w w' ∧ OS 3 g0 emp u0 r0 ∧ Sub g0 w' ∧ Fresh w.heap.size g0 := by
  obtain ⟨a, c, rfl⟩ := r.shape
  refine enter (args := [.slice a (List.length values) c]) 49 Try.func48 rfl rfl rfl ?_
  refine W_forget [(0, .slice a (List.length values) c)] ⟨rfl, trivial⟩ fun ρ => ?_
  have X := But.refl emp w
  refine W_seq ?_
  refine W_region ?_
  refine LP_ev ok 0 [(2, .slice none 0 0), (3, .bool false)] 2 rfl rfl ?_
  refine LP_end _ rfl ?_
  refine W_seq ?_
  obtain ⟨k, hk, H⟩ := jn_elim H
  refine W_join2 (S := Bool) (fun s ρ' w' => k s ∧ ∃ (ρ : Env), ρ' = setAll [(0, .slice a (List.length values) c), (16, .bool s)] ρ ∧ But emp w w' ∧ Sub hx w') ?_ ?_
  · refine W_region ?_
    refine LP_ev ok 0 [(9, .slice a (List.length values) c), (10, I (ln values)), (11, .bool (decide ((ln values) > 100))), (12, .bool (decide ((ln values) > 100)))] 4 rfl rfl ?_
    refine LP_split 12 (decide ((ln values) > 100)) rfl (fun hc => ?_) (fun hc => ?_)
    · have H := H.1 hc
      refine LP_ev ok 4 [(13, undef), (14, undef), (15, undef), (16, .bool true)] 8 rfl rfl ?_
      refine LP_end _ rfl ?_
      exact ⟨true, H, _, env_eq ⟨rfl, rfl, trivial⟩, X, ex⟩
    have H := H.2 hc
    refine LP_ev ok 4 [(13, .slice a (List.length values) c)] 5 rfl rfl ?_
    refine LP_call 5 rfl rfl rfl cal_98 rfl (impl_areFracs_w _ _ H w r ex) ?_
    rintro _ wx4 ⟨r3, H, rfl, x5⟩
    refine LP_ev ok 6 [(15, .bool (!r3)), (16, .bool (!r3))] 8 rfl rfl ?_
    refine LP_end _ rfl ?_
    have X6 := (X.stepx x5)
    have ex7 := (ex.ext x5)
    exact ⟨!r3, H, _, env_eq ⟨rfl, rfl, trivial⟩, X6, ex7⟩
  rintro x _ wx ⟨H, ρ, rfl, X2, ex1⟩
  subst hk
  refine W_cond (x) rfl (fun hc8 => ?_) (fun hc8 => ?_)
  · have H := H.1 hc8
    refine W_seq ?_
    refine W_region ?_
    refine LP_ev ok 0 [(2, .slice none 0 0), (3, .bool false)] 2 rfl rfl ?_
    refine LP_end _ rfl ?_
    refine W_ret ?_
    exact ⟨_, Ret_of [.slice none 0 0, .bool false] ⟨⟨rfl, rfl⟩, ⟨rfl, rfl⟩, trivial⟩, _, _, _, emp, H, rfl, X2.ext, OS.nil, (emp_sub _), (emp_fresh _)⟩
  have H := H.2 hc8
  refine W_skip ?_
  refine W_seq ?_
  refine W_region ?_
  refine LP_ev ok 0 [(17, .slice a (List.length values) c), (18, I (ln values))] 2 rfl rfl ?_
  obtain ⟨hn, hb, H⟩ := H
  refine LP_make (α := Int) 2 rfl rfl rfl Try.underlying22 ti_3 (x0 := (0 : Int)) rfl rfl hn (by first | omega | (simp only [ln] at *; omega)) (by first | omega | (simp only [ln] at *; omega)) fun hx9 vx10 wx11 x12 o ex13 f => ?_
  obtain ⟨a14, c15, rfl⟩ := o.shape
  refine LP_ev ok 3 [(4, .slice a14 (List.length (List.replicate (Int.toNat (ln values)) ((0 : Int)))) c15)] 4 rfl rfl ?_
  refine LP_end _ rfl ?_
  refine W_seq ?_
  refine W_seq ?_
  refine W_region ?_
  refine LP_ev ok 0 [(20, .slice a (List.length values) c), (21, I (ln values)), (22, I 0)] 3 rfl rfl ?_
  refine LP_end _ rfl ?_
  refine W_block ?_
  obtain ⟨J, m, Hx, H⟩ := H
  have X25 := (X2.stepx x12)
  have f26 := f.mono X2.size
  have ex27 := (ex1.ext x12)
  refine W_loop (S := (List Int) × Int) (fun s ρ' w' => J s.1 s.2 ∧ ∃ (ρ : Env) (hx17 : PH), ρ' = setAll [(0, .slice a (List.length values) c), (4, .slice a14 (List.length (List.replicate (Int.toNat (ln values)) ((0 : Int)))) c15), (20, .slice a (List.length values) c), (21, I (ln values)), (22, I s.2)] ρ ∧ But emp w w' ∧ OS 3 hx17 emp (.slice a14 (List.length (List.replicate (Int.toNat (ln values)) ((0 : Int)))) c15) s.1 ∧ Sub hx17 w' ∧ Fresh w.heap.size hx17 ∧ Sub hx w' ∧ Dj hx17 hx) (fun s => m s.1 s.2) (List.replicate (Int.toNat (ln values)) ((0 : Int)), 0) ⟨Hx, _, hx9, env_eq ⟨rfl, rfl, rfl, rfl, rfl, trivial⟩, X25, o, ex13, f26, ex27, (Dj.of_fresh ex1 f).symm⟩ ?_
  rintro ⟨ranks, x21⟩ _ wx22 ⟨Hi, ρ, hx17, rfl, X24, o18, ex19, f20, ex23, d⟩
  have H := H ranks x21 Hi
  refine W_seq ?_
  refine W_region ?_
  refine LP_ev ok 0 [(23, .bool (decide (x21 < (ln values))))] 1 rfl rfl ?_
  refine LP_end _ rfl ?_
  refine W_seq ?_
  refine W_cond (decide (x21 < (ln values))) rfl (fun hc28 => ?_) (fun hc28 => ?_)
  · have H := H.1 hc28
    refine W_skip ?_
    refine W_seq ?_
    refine W_block ?_
    refine W_seq ?_
    refine W_region ?_
    refine LP_ev ok 0 [(24, I x21)] 1 rfl rfl ?_
    obtain ⟨x29, hi, hx30, H⟩ := H
    refine LP_index 1 rfl rfl rfl Try.underlying44 ti_34 rfl rfl r hi hx30 fun a31 cs r32 d33 => ?_
    refine LP_load 2 rfl rfl rfl ti_34 ag_34 rfl r32 d33 ex23 fun vx34 r35 => ?_
    obtain rfl := Frac_rv r35
    refine LP_alloc 3 rfl rfl rfl ti_34 rfl fun b wx36 x37 ex38 f39 => ?_
    refine LP_ev ok 4 [(5, I x21)] 5 rfl rfl ?_
    refine LP_stbox 5 (vs := [I x29.Num, I x29.Den]) (cs' := [I x29.Num, I x29.Den]) rfl rfl rfl ti_34 rfl rfl rfl rfl rfl ex38 rfl rfl fun wx40 ex41 y => ?_
    refine LP_end _ rfl ?_
    refine W_seq ?_
    refine W_region ?_
    refine LP_ev ok 0 [(27, .slice a14 (List.length (List.replicate (Int.toNat (ln values)) ((0 : Int)))) c15), (28, I x21)] 2 rfl rfl ?_
    obtain ⟨hi42, hl, H⟩ := H
    refine LP_indexw 2 rfl rfl rfl Try.underlying22 ti_3 rfl rfl o18 hi42 hl fun a43 wa => ?_
    have ex49 := ((ex19.ext x37).but y (Dj.of_fresh ex19 f39).symm)
    refine LP_set 3 rfl rfl rfl rfl rfl wa (Le.refl emp) ⟨_, rfl, rfl⟩ ex49 fun hx44 wx45 o46 ex47 y48 dm => ?_
    refine LP_end _ rfl ?_
    refine W_seq ?_
    refine W_region ?_
    refine LP_ev ok 0 [(30, .slice a (List.length values) c), (31, I (ln values)), (32, I 0)] 3 rfl rfl ?_
    refine LP_end _ rfl ?_
    refine W_block ?_
    obtain ⟨J63, m64, Hx65, H⟩ := H
    have f66 := f39.mono X24.size
    have X67 := (((X24.stepx x37).step y (f66.dom _)).step y48 (f20.dom _))
    have X69 := ((X24.stepx x37).step y (f66.dom _))
    have f68 := (dm _).fresh f20 X69.size
    have ex70 := (((ex23.ext x37).but y (Dj.of_fresh ex23 f39).symm).but y48 d)
    have ex71 := (ex41.but y48 (Dj.box (Dj.of_fresh ex19 f39).symm).symm)
    have ex72 := ((ex23.ext x37).but y (Dj.of_fresh ex23 f39).symm)
    refine W_loop (S := (List Int) × Int) (fun s ρ' w' => J63 s.1 s.2 ∧ ∃ (ρ : Env) (hx52 : PH), ρ' = setAll [(0, .slice a (List.length values) c), (4, .slice a14 (List.length (List.replicate (Int.toNat (ln values)) ((0 : Int)))) c15), (5, I x21), (6, .pointer (some ⟨b, 0, none⟩)), (20, .slice a (List.length values) c), (21, I (ln values)), (22, I x21), (30, .slice a (List.length values) c), (31, I (ln values)), (32, I s.2)] ρ ∧ But emp w w' ∧ OS 3 hx52 emp (.slice a14 (List.length (List.replicate (Int.toNat (ln values)) ((0 : Int)))) c15) s.1 ∧ Sub hx52 w' ∧ Fresh w.heap.size hx52 ∧ Sub hx w' ∧ Sub (bx b 34 [I x29.Num, I x29.Den]) w' ∧ Dj hx52 hx ∧ Dj hx52 (bx b 34 [I x29.Num, I x29.Den])) (fun s => m64 s.1 s.2) (List.set ranks (Int.toNat x21) 1, 0) ⟨Hx65, _, hx44, env_eq ⟨rfl, rfl, rfl, rfl, rfl, rfl, rfl, rfl, rfl, rfl, trivial⟩, X67, o46, ex47, f68, ex70, ex71, (DomLe.dj (dm _) d ex72), (DomLe.dj (dm _) (Dj.box (Dj.of_fresh ex19 f39).symm).symm ex41)⟩ ?_
    rintro ⟨ranks50, x56⟩ _ wx57 ⟨Hi, ρ, hx52, rfl, X62, o53, ex54, f55, ex58, ex59, d60, d61⟩
    have H := H ranks50 x56 Hi
    refine W_seq ?_
    refine W_region ?_
    refine LP_ev ok 0 [(33, .bool (decide (x56 < (ln values))))] 1 rfl rfl ?_
    refine LP_end _ rfl ?_
    refine W_seq ?_
    refine W_cond (decide (x56 < (ln values))) rfl (fun hc74 => ?_) (fun hc74 => ?_)
    · have H := H.1 hc74
      refine W_skip ?_
      obtain ⟨k87, hk88, H⟩ := jn_elim H
      refine W_join2 (S := (List Int)) (fun s ρ' w' => k87 s ∧ ∃ (ρ : Env) (hx77 : PH), ρ' = setAll [(0, .slice a (List.length values) c), (4, .slice a14 (List.length (List.replicate (Int.toNat (ln values)) ((0 : Int)))) c15), (5, I x21), (6, .pointer (some ⟨b, 0, none⟩)), (20, .slice a (List.length values) c), (21, I (ln values)), (22, I x21), (30, .slice a (List.length values) c), (31, I (ln values)), (32, I x56)] ρ ∧ But emp w w' ∧ OS 3 hx77 emp (.slice a14 (List.length (List.replicate (Int.toNat (ln values)) ((0 : Int)))) c15) s ∧ Sub hx77 w' ∧ Fresh w.heap.size hx77 ∧ Sub hx w' ∧ Sub (bx b 34 [I x29.Num, I x29.Den]) w' ∧ Dj hx77 hx ∧ Dj hx77 (bx b 34 [I x29.Num, I x29.Den])) ?_ ?_
      · refine W_block ?_
        refine W_seq ?_
        refine W_region ?_
        obtain ⟨x89, hi90, hx91, H⟩ := H
        refine LP_index 0 rfl rfl rfl Try.underlying44 ti_34 rfl rfl r hi90 hx91 fun a92 cs93 r94 d95 => ?_
        refine LP_load 1 rfl rfl rfl ti_34 ag_34 rfl r94 d95 ex58 fun vx96 r97 => ?_
        obtain rfl := Frac_rv r97
        refine LP_alloc 2 rfl rfl rfl ti_34 rfl fun b98 wx99 x100 ex101 f102 => ?_
        refine LP_stbox 3 (vs := [I x89.Num, I x89.Den]) (cs' := [I x89.Num, I x89.Den]) rfl rfl rfl ti_34 rfl rfl rfl rfl rfl ex101 rfl rfl fun wx103 ex104 y105 => ?_
        refine LP_end _ rfl ?_
        refine W_seq ?_
        refine W_region ?_
        refine LP_ldbox 0 (v := .agg #[I x89.Num, I x89.Den]) rfl rfl rfl ti_34 ag_34 (fun h => by cases h) rfl ex104 rfl rfl ?_
        have ex106 := ((ex59.ext x100).but y105 (Dj.of_fresh ex59 f102).symm)
        refine LP_ldbox 1 (v := .agg #[I x29.Num, I x29.Den]) rfl rfl rfl ti_34 ag_34 (fun h => by cases h) rfl ex106 rfl rfl ?_
        refine LP_call 2 rfl rfl rfl cal_100 rfl (impl_cmpFrac_w _ _ _ H wx103 ) ?_
        rintro _ wx108 ⟨r107, H, rfl, x109⟩
        refine LP_ev ok 3 [(39, .bool (decide (r107 > 0)))] 4 rfl rfl ?_
        refine LP_end _ rfl ?_
        refine W_cond (decide (r107 > 0)) rfl (fun hc110 => ?_) (fun hc110 => ?_)
        · have H := H.1 hc110
          refine W_region ?_
          refine LP_ev ok 0 [(40, .slice a14 (List.length (List.replicate (Int.toNat (ln values)) ((0 : Int)))) c15), (41, I x21)] 2 rfl rfl ?_
          obtain ⟨x111, hi112, hx113, H⟩ := H
          refine LP_index 2 rfl rfl rfl Try.underlying22 ti_3 rfl rfl o53.readf hi112 hx113 fun a114 cs115 r116 d117 => ?_
          have ex118 := (((ex54.ext x100).but y105 (Dj.of_fresh ex54 f102).symm).ext x109)
          refine LP_load 3 rfl rfl rfl ti_3 ag_3 rfl r116 d117 ex118 fun vx119 r120 => ?_
          obtain rfl := r120.int
          refine LP_ev ok 4 [(44, I (wr (x111 + 1)))] 5 rfl rfl ?_
          obtain ⟨hi121, hl122, H⟩ := H
          refine LP_indexw 5 rfl rfl rfl Try.underlying22 ti_3 rfl rfl o53 hi121 hl122 fun a123 wa124 => ?_
          refine LP_set 6 rfl rfl rfl rfl rfl wa124 (Le.refl emp) ⟨_, rfl, rfl⟩ ex118 fun hx125 wx126 o127 ex128 y129 dm130 => ?_
          refine LP_end _ rfl ?_
          have f131 := f102.mono X62.size
          have X132 := ((((X62.stepx x100).step y105 (f131.dom _)).stepx x109).step y129 (f55.dom _))
          have X134 := (((X62.stepx x100).step y105 (f131.dom _)).stepx x109)
          have f133 := (dm130 _).fresh f55 X134.size
          have ex135 := ((((ex58.ext x100).but y105 (Dj.of_fresh ex58 f102).symm).ext x109).but y129 d60)
          have ex136 := ((ex106.ext x109).but y129 d61)
          have ex137 := (((ex58.ext x100).but y105 (Dj.of_fresh ex58 f102).symm).ext x109)
          have ex138 := (ex106.ext x109)
          exact ⟨List.set ranks50 (Int.toNat x21) (wr (x111 + 1)), H, _, hx125, env_eq ⟨rfl, rfl, rfl, rfl, rfl, rfl, rfl, rfl, rfl, rfl, trivial⟩, X132, o127, ex128, f133, ex135, ex136, (DomLe.dj (dm130 _) d60 ex137), (DomLe.dj (dm130 _) d61 ex138)⟩
        have H := H.2 hc110
        refine W_skip ?_
        have f139 := f102.mono X62.size
        have X140 := (((X62.stepx x100).step y105 (f139.dom _)).stepx x109)
        have ex141 := (((ex54.ext x100).but y105 (Dj.of_fresh ex54 f102).symm).ext x109)
        have ex142 := (((ex58.ext x100).but y105 (Dj.of_fresh ex58 f102).symm).ext x109)
        have ex143 := (ex106.ext x109)
        exact ⟨ranks50, H, _, hx52, env_eq ⟨rfl, rfl, rfl, rfl, rfl, rfl, rfl, rfl, rfl, rfl, trivial⟩, X140, o53, ex141, f55, ex142, ex143, d60, d61⟩
      rintro ranks75 _ wx81 ⟨H, ρ, hx77, rfl, X86, o78, ex79, f80, ex82, ex83, d84, d85⟩
      subst hk88
      refine W_region ?_
      refine LP_ev ok 0 [(46, I (wr (x56 + 1))), (32, I (wr (x56 + 1)))] 2 rfl rfl ?_
      refine LP_end _ rfl ?_
      exact ⟨(ranks75, wr (x56 + 1)), ⟨H.1, _, hx77, env_eq ⟨rfl, rfl, rfl, rfl, rfl, rfl, rfl, rfl, rfl, rfl, trivial⟩, X86, o78, ex79, f80, ex82, ex83, d84, d85⟩, H.2⟩
    have H := H.2 hc74
    refine W_exit ?_
    refine (if_pos rfl).mpr ?_
    refine W_region ?_
    refine LP_ev ok 0 [(47, I (wr (x21 + 1))), (22, I (wr (x21 + 1)))] 2 rfl rfl ?_
    refine LP_end _ rfl ?_
    exact ⟨(ranks50, wr (x21 + 1)), ⟨H.1, _, hx52, env_eq ⟨rfl, rfl, rfl, rfl, rfl, trivial⟩, X62, o53, ex54, f55, ex58, d60⟩, H.2⟩
  have H := H.2 hc28
  refine W_exit ?_
  refine (if_pos rfl).mpr ?_
  refine W_seq ?_
  refine W_region ?_
  refine LP_ev ok 0 [(48, .slice a14 (List.length (List.replicate (Int.toNat (ln values)) ((0 : Int)))) c15), (2, .slice a14 (List.length (List.replicate (Int.toNat (ln values)) ((0 : Int)))) c15), (3, .bool true)] 3 rfl rfl ?_
  refine LP_end _ rfl ?_
  refine W_ret ?_
  exact ⟨_, Ret_of [.slice a14 (List.length (List.replicate (Int.toNat (ln values)) ((0 : Int)))) c15, .bool true] ⟨⟨rfl, rfl⟩, ⟨rfl, rfl⟩, trivial⟩, _, _, _, _, H, rfl, X24.ext, o18, ex19, f20⟩

set_option maxRecDepth 8000 in
set_option maxHeartbeats 4000000 in
theorem laws_FnExactRanksOf_w (aValues : List Frac) (Q : Bool → Prop) (H : laws_FnExactRanksOf aValues Q) (w : World) {vx : Value} {hx : PH} (r : RS hx vx aValues) (ex : Sub hx w) :
    CallsTo Try.prog 10 #[vx] w fun v w' => ∃ r0, Q r0 ∧ v = .bool r0 ∧ Ext w w' := by
  obtain ⟨a, c, rfl⟩ := r.shape
  refine enter (args := [.slice a (List.length aValues) c]) 96 Try.func10 rfl rfl rfl ?_
  refine W_forget [(0, .slice a (List.length aValues) c)] ⟨rfl, trivial⟩ fun ρ => ?_
  have X := But.refl emp w
  refine W_seq ?_
  refine W_region ?_
  refine LP_ev ok 0 [(2, .bool false)] 1 rfl rfl ?_
  refine LP_end _ rfl ?_
  refine W_seq ?_
  refine W_region ?_
  refine LP_ev ok 0 [(3, I 1048576)] 1 rfl rfl ?_
  refine LP_end _ rfl ?_
  refine W_seq ?_
  refine W_region ?_
  refine LP_ev ok 0 [(14, .slice a (List.length aValues) c), (15, I 1048576)] 2 rfl rfl ?_
  refine LP_call 2 rfl rfl rfl cal_33 rfl (laws_szFracS_w _ _ _ H w r ex) ?_
  rintro _ wx ⟨r1, H, rfl, x⟩
  refine LP_ev ok 3 [(3, I r1)] 4 rfl rfl ?_
  refine LP_end _ rfl ?_
  refine W_seq ?_
  refine W_seq ?_
  refine W_region ?_
  refine LP_ev ok 0 [(17, I r1), (18, .bool (decide (r1 < 0)))] 2 rfl rfl ?_
  refine LP_end _ rfl ?_
  refine W_cond (decide (r1 < 0)) rfl (fun hc => ?_) (fun hc => ?_)
  · have H := H.1 hc
    refine W_seq ?_
    refine W_region ?_
    refine LP_ev ok 0 [(2, .bool true)] 1 rfl rfl ?_
    refine LP_end _ rfl ?_
    refine W_ret ?_
    have X2 := (X.stepx x)
    exact ⟨_, Ret_of [.bool true] ⟨⟨rfl, rfl⟩, trivial⟩, _, H, rfl, X2.ext⟩
  have H := H.2 hc
  refine W_skip ?_
  refine W_seq ?_
  refine W_region ?_
  refine LP_ev ok 0 [(20, .slice a (List.length aValues) c)] 1 rfl rfl ?_
  have ex4 := (ex.ext x)
  refine LP_call 1 rfl rfl rfl cal_35 rfl (laws_toFracS_w _ _ H wx r ex4) ?_
  rintro _ wx5 ⟨r3, vx7, hx8, H, rfl, x6, o, ex9, f⟩
  obtain ⟨a10, c11, rfl⟩ := o.shape
  refine LP_call 2 rfl rfl rfl cal_47 rfl (spec_RanksOf_w _ _ H wx5 o.readf ex9) ?_
  rintro _ wx14 ⟨r12, r13, vx16, hx17, H, rfl, x15, o18, ex19, f20⟩
  obtain ⟨a21, c22, rfl⟩ := o18.shape
  refine LP_ev ok 3 [(19, .tuple #[.slice a21 (List.length r12) c22, .bool r13]), (23, .slice a21 (List.length r12) c22), (24, .bool r13), (4, .slice a21 (List.length r12) c22), (5, .bool r13)] 8 rfl rfl ?_
  refine LP_end _ rfl ?_
  refine W_seq ?_
  refine W_region ?_
  refine LP_ev ok 0 [(25, .slice a (List.length aValues) c)] 1 rfl rfl ?_
  have ex24 := ((ex4.ext x6).ext x15)
  refine LP_call 1 rfl rfl rfl cal_35 rfl (laws_toFracS_w _ _ H wx14 r ex24) ?_
  rintro _ wx25 ⟨r23, vx27, hx28, H, rfl, x26, o29, ex30, f31⟩
  obtain ⟨a32, c33, rfl⟩ := o29.shape
  refine LP_ev ok 2 [(6, .slice a32 (List.length r23) c33)] 3 rfl rfl ?_
  refine LP_end _ rfl ?_
  refine W_seq ?_
  refine W_region ?_
  refine LP_ev ok 0 [(28, .slice a32 (List.length r23) c33)] 1 rfl rfl ?_
  refine LP_call 1 rfl rfl rfl cal_48 rfl (impl_RanksOf_w _ _ H wx25 o29.readf ex30) ?_
  rintro _ wx36 ⟨r34, r35, vx38, hx39, H, rfl, x37, o40, ex41, f42⟩
  obtain ⟨a43, c44, rfl⟩ := o40.shape
  refine LP_ev ok 2 [(27, .tuple #[.slice a43 (List.length r34) c44, .bool r35]), (30, .slice a43 (List.length r34) c44), (31, .bool r35), (7, .slice a43 (List.length r34) c44), (8, .bool r35)] 7 rfl rfl ?_
  refine LP_end _ rfl ?_
  try refine W_forget [(0, .slice a (List.length aValues) c), (4, .slice a21 (List.length r12) c22), (5, .bool r13), (6, .slice a32 (List.length r23) c33), (7, .slice a43 (List.length r34) c44), (8, .bool r35)] ⟨rfl, rfl, rfl, rfl, rfl, rfl, trivial⟩ fun ρ => ?_
  refine W_seq ?_
  obtain ⟨k, hk, H⟩ := jn_elim H
  refine W_join2 (S := Bool) (fun s ρ' w' => k s ∧ ∃ (ρ : Env), ρ' = setAll [(0, .slice a (List.length aValues) c), (4, .slice a21 (List.length r12) c22), (5, .bool r13), (6, .slice a32 (List.length r23) c33), (7, .slice a43 (List.length r34) c44), (8, .bool r35), (40, .bool s)] ρ ∧ But emp w w' ∧ Sub hx w' ∧ Sub hx17 w' ∧ Sub hx28 w' ∧ Sub hx39 w') ?_ ?_
  · refine W_region ?_
    refine LP_ev ok 0 [(32, .slice a43 (List.length r34) c44), (33, .slice a21 (List.length r12) c22)] 2 rfl rfl ?_
    have ex53 := ((ex19.ext x26).ext x37)
    refine LP_call 2 rfl rfl rfl cal_22 rfl (laws_eqIntS_w _ _ _ H wx36 o40.readf ex41 o18.readf ex53) ?_
    rintro _ wx54 ⟨r52, H, rfl, x55⟩
    refine LP_ev ok 3 [(35, .bool (!r52)), (36, .bool (!r52))] 5 rfl rfl ?_
    refine LP_split 36 (!r52) rfl (fun hc56 => ?_) (fun hc56 => ?_)
    · have H := H.1 hc56
      refine LP_ev ok 5 [(37, undef), (38, undef), (39, undef), (40, .bool true)] 9 rfl rfl ?_
      refine LP_end _ rfl ?_
      have X57 := ((((((X.stepx x).stepx x6).stepx x15).stepx x26).stepx x37).stepx x55)
      have ex58 := (((ex24.ext x26).ext x37).ext x55)
      have ex59 := (ex53.ext x55)
      have ex60 := ((ex30.ext x37).ext x55)
      have ex61 := (ex41.ext x55)
      exact ⟨true, H, _, env_eq ⟨rfl, rfl, rfl, rfl, rfl, rfl, rfl, trivial⟩, X57, ex58, ex59, ex60, ex61⟩
    have H := H.2 hc56
    refine LP_ev ok 5 [(37, .bool r35), (38, .bool r13), (39, .bool (r35 != r13)), (40, .bool (r35 != r13))] 9 rfl rfl ?_
    refine LP_end _ rfl ?_
    have X62 := ((((((X.stepx x).stepx x6).stepx x15).stepx x26).stepx x37).stepx x55)
    have ex63 := (((ex24.ext x26).ext x37).ext x55)
    have ex64 := (ex53.ext x55)
    have ex65 := ((ex30.ext x37).ext x55)
    have ex66 := (ex41.ext x55)
    exact ⟨r35 != r13, H, _, env_eq ⟨rfl, rfl, rfl, rfl, rfl, rfl, rfl, trivial⟩, X62, ex63, ex64, ex65, ex66⟩
  rintro x45 _ wx46 ⟨H, ρ, rfl, X51, ex47, ex48, ex49, ex50⟩
  subst hk
  refine W_cond (x45) rfl (fun hc67 => ?_) (fun hc67 => ?_)
  · have H := H.1 hc67
    refine W_seq ?_
    refine W_region ?_
    refine LP_ev ok 0 [(2, .bool false)] 1 rfl rfl ?_
    refine LP_end _ rfl ?_
    refine W_ret ?_
    exact ⟨_, Ret_of [.bool false] ⟨⟨rfl, rfl⟩, trivial⟩, _, H, rfl, X51.ext⟩
  have H := H.2 hc67
  refine W_skip ?_
  refine W_seq ?_
  refine W_seq ?_
  refine W_region ?_
  refine LP_ev ok 0 [(41, .slice a32 (List.length r23) c33), (42, .slice a (List.length aValues) c)] 2 rfl rfl ?_
  refine LP_call 2 rfl rfl rfl cal_35 rfl (laws_toFracS_w _ _ H wx46 r ex47) ?_
  rintro _ wx69 ⟨r68, vx71, hx72, H, rfl, x70, o73, ex74, f75⟩
  obtain ⟨a76, c77, rfl⟩ := o73.shape
  have ex79 := (ex49.ext x70)
  refine LP_call 3 rfl rfl rfl cal_38 rfl (laws_eqFracS_w _ _ _ H wx69 o29.readf ex79 o73.readf ex74) ?_
  rintro _ wx80 ⟨r78, H, rfl, x81⟩
  refine LP_ev ok 4 [(45, .bool (!r78))] 5 rfl rfl ?_
  refine LP_end _ rfl ?_
  refine W_cond (!r78) rfl (fun hc82 => ?_) (fun hc82 => ?_)
  · have H := H.1 hc82
    refine W_seq ?_
    refine W_region ?_
    refine LP_ev ok 0 [(2, .bool false)] 1 rfl rfl ?_
    refine LP_end _ rfl ?_
    refine W_ret ?_
    have X83 := ((X51.stepx x70).stepx x81)
    exact ⟨_, Ret_of [.bool false] ⟨⟨rfl, rfl⟩, trivial⟩, _, H, rfl, X83.ext⟩
  have H := H.2 hc82
  refine W_skip ?_
  refine W_seq ?_
  refine W_region ?_
  refine LP_ev ok 0 [(9, I 1)] 1 rfl rfl ?_
  refine LP_end _ rfl ?_
  refine W_seq ?_
  refine W_region ?_
  refine LP_ev ok 0 [(46, .slice a32 (List.length r23) c33), (47, I 1)] 2 rfl rfl ?_
  have ex86 := (ex79.ext x81)
  refine LP_call 2 rfl rfl rfl cal_49 rfl (laws_markFracS_w _ _ _ H wx80 o29 ex86) ?_
  rintro _ wx87 ⟨r84, r85, hx89, H, rfl, x88, o90, ex91, dm⟩
  refine LP_ev ok 3 [(9, I r84)] 4 rfl rfl ?_
  refine LP_end _ rfl ?_
  refine W_seq ?_
  obtain ⟨k100, hk101, H⟩ := jn_elim H
  refine W_join2 (S := Bool) (fun s ρ' w' => k100 s ∧ ∃ (ρ : Env), ρ' = setAll [(0, .slice a (List.length aValues) c), (4, .slice a21 (List.length r12) c22), (5, .bool r13), (7, .slice a43 (List.length r34) c44), (61, .bool s)] ρ ∧ But emp w w' ∧ Sub hx w' ∧ Sub hx17 w' ∧ Sub hx39 w') ?_ ?_
  · refine W_region ?_
    refine LP_ev ok 0 [(49, I r84), (50, .bool (decide (r84 < 0))), (51, .bool (decide (r84 < 0)))] 3 rfl rfl ?_
    refine LP_split 51 (decide (r84 < 0)) rfl (fun hc102 => ?_) (fun hc102 => ?_)
    · have H := H.1 hc102
      refine LP_ev ok 3 [(52, undef), (53, undef), (54, undef), (55, undef), (56, .bool true), (57, .bool true), (58, undef), (59, undef), (60, undef), (61, .bool true)] 13 rfl rfl ?_
      refine LP_end _ rfl ?_
      have X104 := (((X.stepx x).stepx x6).stepx x15)
      have f103 := f31.mono X104.size
      have X105 := (((X51.stepx x70).stepx x81).step x88 (f103.dom _))
      have ex106 := (((ex47.ext x70).ext x81).but x88 (Dj.of_fresh ex24 f31).symm)
      have ex107 := (((ex48.ext x70).ext x81).but x88 (Dj.of_fresh ex19 f31).symm)
      have ex108 := (((ex50.ext x70).ext x81).but x88 (Dj.of_fresh ex30 f42))
      exact ⟨true, H, _, env_eq ⟨rfl, rfl, rfl, rfl, rfl, trivial⟩, X105, ex106, ex107, ex108⟩
    have H := H.2 hc102
    refine LP_ev ok 3 [(52, .slice a43 (List.length r34) c44), (53, .slice a21 (List.length r12) c22)] 5 rfl rfl ?_
    have ex110 := (((ex50.ext x70).ext x81).but x88 (Dj.of_fresh ex30 f42))
    have ex111 := (((ex48.ext x70).ext x81).but x88 (Dj.of_fresh ex19 f31).symm)
    refine LP_call 5 rfl rfl rfl cal_22 rfl (laws_eqIntS_w _ _ _ H wx87 o40.readf ex110 o18.readf ex111) ?_
    rintro _ wx112 ⟨r109, H, rfl, x113⟩
    refine LP_ev ok 6 [(55, .bool (!r109)), (56, .bool (!r109)), (57, .bool (!r109))] 9 rfl rfl ?_
    refine LP_split 57 (!r109) rfl (fun hc114 => ?_) (fun hc114 => ?_)
    · have H := H.1 hc114
      refine LP_ev ok 9 [(58, undef), (59, undef), (60, undef), (61, .bool true)] 13 rfl rfl ?_
      refine LP_end _ rfl ?_
      have X116 := (((X.stepx x).stepx x6).stepx x15)
      have f115 := f31.mono X116.size
      have X117 := ((((X51.stepx x70).stepx x81).step x88 (f115.dom _)).stepx x113)
      have ex118 := ((((ex47.ext x70).ext x81).but x88 (Dj.of_fresh ex24 f31).symm).ext x113)
      have ex119 := (ex111.ext x113)
      have ex120 := (ex110.ext x113)
      exact ⟨true, H, _, env_eq ⟨rfl, rfl, rfl, rfl, rfl, trivial⟩, X117, ex118, ex119, ex120⟩
    have H := H.2 hc114
    refine LP_ev ok 9 [(58, .bool r35), (59, .bool r13), (60, .bool (r35 != r13)), (61, .bool (r35 != r13))] 13 rfl rfl ?_
    refine LP_end _ rfl ?_
    have X122 := (((X.stepx x).stepx x6).stepx x15)
    have f121 := f31.mono X122.size
    have X123 := ((((X51.stepx x70).stepx x81).step x88 (f121.dom _)).stepx x113)
    have ex124 := ((((ex47.ext x70).ext x81).but x88 (Dj.of_fresh ex24 f31).symm).ext x113)
    have ex125 := (ex111.ext x113)
    have ex126 := (ex110.ext x113)
    exact ⟨r35 != r13, H, _, env_eq ⟨rfl, rfl, rfl, rfl, rfl, trivial⟩, X123, ex124, ex125, ex126⟩
  rintro x94 _ wx95 ⟨H, ρ, rfl, X99, ex96, ex97, ex98⟩
  subst hk101
  refine W_cond (x94) rfl (fun hc127 => ?_) (fun hc127 => ?_)
  · have H := H.1 hc127
    refine W_seq ?_
    refine W_region ?_
    refine LP_ev ok 0 [(2, .bool false)] 1 rfl rfl ?_
    refine LP_end _ rfl ?_
    refine W_ret ?_
    exact ⟨_, Ret_of [.bool false] ⟨⟨rfl, rfl⟩, trivial⟩, _, H, rfl, X99.ext⟩
  have H := H.2 hc127
  refine W_skip ?_
  refine W_seq ?_
  refine W_region ?_
  refine LP_ev ok 0 [(10, I 1)] 1 rfl rfl ?_
  refine LP_end _ rfl ?_
  refine W_seq ?_
  refine W_region ?_
  refine LP_ev ok 0 [(62, .slice a43 (List.length r34) c44), (63, I 1)] 2 rfl rfl ?_
  refine LP_call 2 rfl rfl rfl cal_23 rfl (laws_markIntS_w _ _ _ H wx95 o40 ex98) ?_
  rintro _ wx130 ⟨r128, r129, hx132, H, rfl, x131, o133, ex134, dm135⟩
  refine LP_ev ok 3 [(10, I r128)] 4 rfl rfl ?_
  refine LP_end _ rfl ?_
  refine W_seq ?_
  refine W_region ?_
  refine LP_ev ok 0 [(11, I 1)] 1 rfl rfl ?_
  refine LP_end _ rfl ?_
  refine W_seq ?_
  refine W_region ?_
  refine LP_ev ok 0 [(65, .slice a43 (List.length r34) c44), (66, I 1)] 2 rfl rfl ?_
  refine LP_call 2 rfl rfl rfl cal_24 rfl (laws_heldIntS_w _ _ _ H wx130 o133.readf ex134) ?_
  rintro _ wx140 ⟨r139, H, rfl, x141⟩
  refine LP_ev ok 3 [(11, I r139)] 4 rfl rfl ?_
  refine LP_end _ rfl ?_
  refine W_seq ?_
  refine W_seq ?_
  refine W_region ?_
  refine LP_ev ok 0 [(68, I r139), (69, .bool (decide (r139 < 0)))] 2 rfl rfl ?_
  refine LP_end _ rfl ?_
  refine W_cond (decide (r139 < 0)) rfl (fun hc142 => ?_) (fun hc142 => ?_)
  · have H := H.1 hc142
    refine W_seq ?_
    refine W_region ?_
    refine LP_ev ok 0 [(2, .bool false)] 1 rfl rfl ?_
    refine LP_end _ rfl ?_
    refine W_ret ?_
    have X144 := ((((X.stepx x).stepx x6).stepx x15).stepx x26)
    have f143 := f42.mono X144.size
    have X145 := ((X99.step x131 (f143.dom _)).stepx x141)
    exact ⟨_, Ret_of [.bool false] ⟨⟨rfl, rfl⟩, trivial⟩, _, H, rfl, X145.ext⟩
  have H := H.2 hc142
  refine W_skip ?_
  refine W_seq ?_
  refine W_seq ?_
  refine W_region ?_
  refine LP_ev ok 0 [(70, I r139), (71, I r128), (72, .bool (r139 != r128))] 3 rfl rfl ?_
  refine LP_end _ rfl ?_
  refine W_cond (r139 != r128) rfl (fun hc146 => ?_) (fun hc146 => ?_)
  · have H := H.1 hc146
    refine W_seq ?_
    refine W_region ?_
    refine LP_ev ok 0 [(2, .bool false)] 1 rfl rfl ?_
    refine LP_end _ rfl ?_
    refine W_ret ?_
    have X148 := ((((X.stepx x).stepx x6).stepx x15).stepx x26)
    have f147 := f42.mono X148.size
    have X149 := ((X99.step x131 (f147.dom _)).stepx x141)
    exact ⟨_, Ret_of [.bool false] ⟨⟨rfl, rfl⟩, trivial⟩, _, H, rfl, X149.ext⟩
  have H := H.2 hc146
  refine W_skip ?_
  refine W_seq ?_
  refine W_region ?_
  refine LP_ev ok 0 [(74, .slice a (List.length aValues) c)] 1 rfl rfl ?_
  have ex151 := (ex24.ext x26)
  have ex152 := ((ex96.but x131 (Dj.of_fresh ex151 f42).symm).ext x141)
  refine LP_call 1 rfl rfl rfl cal_35 rfl (laws_toFracS_w _ _ H wx140 r ex152) ?_
  rintro _ wx153 ⟨r150, vx155, hx156, H, rfl, x154, o157, ex158, f159⟩
  obtain ⟨a160, c161, rfl⟩ := o157.shape
  refine LP_call 2 rfl rfl rfl cal_48 rfl (impl_RanksOf_w _ _ H wx153 o157.readf ex158) ?_
  rintro _ wx164 ⟨r162, r163, vx166, hx167, H, rfl, x165, o168, ex169, f170⟩
  obtain ⟨a171, c172, rfl⟩ := o168.shape
  refine LP_ev ok 3 [(73, .tuple #[.slice a171 (List.length r162) c172, .bool r163]), (77, .slice a171 (List.length r162) c172), (78, .bool r163), (12, .slice a171 (List.length r162) c172), (13, .bool r163)] 8 rfl rfl ?_
  refine LP_end _ rfl ?_
  refine W_seq ?_
  obtain ⟨k177, hk178, H⟩ := jn_elim H
  refine W_join2 (S := Bool) (fun s ρ' w' => k177 s ∧ ∃ (ρ : Env), ρ' = setAll [(7, .slice a43 (List.length r34) c44), (10, I r128), (87, .bool s)] ρ ∧ But emp w w' ∧ Sub hx132 w') ?_ ?_
  · refine W_region ?_
    refine LP_ev ok 0 [(79, .slice a171 (List.length r162) c172), (80, .slice a21 (List.length r12) c22)] 2 rfl rfl ?_
    have ex180 := (ex19.ext x26)
    have ex181 := ((((ex97.but x131 (Dj.of_fresh ex180 f42).symm).ext x141).ext x154).ext x165)
    refine LP_call 2 rfl rfl rfl cal_22 rfl (laws_eqIntS_w _ _ _ H wx164 o168.readf ex169 o18.readf ex181) ?_
    rintro _ wx182 ⟨r179, H, rfl, x183⟩
    refine LP_ev ok 3 [(82, .bool (!r179)), (83, .bool (!r179))] 5 rfl rfl ?_
    refine LP_split 83 (!r179) rfl (fun hc184 => ?_) (fun hc184 => ?_)
    · have H := H.1 hc184
      refine LP_ev ok 5 [(84, undef), (85, undef), (86, undef), (87, .bool true)] 9 rfl rfl ?_
      refine LP_end _ rfl ?_
      try refine W_forget [(7, .slice a43 (List.length r34) c44), (10, I r128), (87, .bool true)] ⟨rfl, rfl, rfl, trivial⟩ fun ρ => ?_
      have X186 := ((((X.stepx x).stepx x6).stepx x15).stepx x26)
      have f185 := f42.mono X186.size
      have X187 := (((((X99.step x131 (f185.dom _)).stepx x141).stepx x154).stepx x165).stepx x183)
      have ex188 := ((((ex134.ext x141).ext x154).ext x165).ext x183)
      exact ⟨true, H, _, env_eq ⟨rfl, rfl, rfl, trivial⟩, X187, ex188⟩
    have H := H.2 hc184
    refine LP_ev ok 5 [(84, .bool r163), (85, .bool r13), (86, .bool (r163 != r13)), (87, .bool (r163 != r13))] 9 rfl rfl ?_
    refine LP_end _ rfl ?_
    try refine W_forget [(7, .slice a43 (List.length r34) c44), (10, I r128), (87, .bool (r163 != r13))] ⟨rfl, rfl, rfl, trivial⟩ fun ρ => ?_
    have X190 := ((((X.stepx x).stepx x6).stepx x15).stepx x26)
    have f189 := f42.mono X190.size
    have X191 := (((((X99.step x131 (f189.dom _)).stepx x141).stepx x154).stepx x165).stepx x183)
    have ex192 := ((((ex134.ext x141).ext x154).ext x165).ext x183)
    exact ⟨r163 != r13, H, _, env_eq ⟨rfl, rfl, rfl, trivial⟩, X191, ex192⟩
  rintro x173 _ wx174 ⟨H, ρ, rfl, X176, ex175⟩
  subst hk178
  refine W_cond (x173) rfl (fun hc193 => ?_) (fun hc193 => ?_)
  · have H := H.1 hc193
    refine W_seq ?_
    refine W_region ?_
    refine LP_ev ok 0 [(2, .bool false)] 1 rfl rfl ?_
    refine LP_end _ rfl ?_
    refine W_ret ?_
    exact ⟨_, Ret_of [.bool false] ⟨⟨rfl, rfl⟩, trivial⟩, _, H, rfl, X176.ext⟩
  have H := H.2 hc193
  refine W_skip ?_
  refine W_seq ?_
  refine W_region ?_
  refine LP_ev ok 0 [(11, I 1)] 1 rfl rfl ?_
  refine LP_end _ rfl ?_
  refine W_seq ?_
  refine W_region ?_
  refine LP_ev ok 0 [(88, .slice a43 (List.length r34) c44), (89, I 1)] 2 rfl rfl ?_
  refine LP_call 2 rfl rfl rfl cal_24 rfl (laws_heldIntS_w _ _ _ H wx174 o133.readf ex175) ?_
  rintro _ wx195 ⟨r194, H, rfl, x196⟩
  refine LP_ev ok 3 [(11, I r194)] 4 rfl rfl ?_
  refine LP_end _ rfl ?_
  refine W_seq ?_
  refine W_seq ?_
  refine W_region ?_
  refine LP_ev ok 0 [(91, I r194), (92, .bool (decide (r194 < 0)))] 2 rfl rfl ?_
  refine LP_end _ rfl ?_
  refine W_cond (decide (r194 < 0)) rfl (fun hc197 => ?_) (fun hc197 => ?_)
  · have H := H.1 hc197
    refine W_seq ?_
    refine W_region ?_
    refine LP_ev ok 0 [(2, .bool false)] 1 rfl rfl ?_
    refine LP_end _ rfl ?_
    refine W_ret ?_
    have X198 := (X176.stepx x196)
    exact ⟨_, Ret_of [.bool false] ⟨⟨rfl, rfl⟩, trivial⟩, _, H, rfl, X198.ext⟩
  have H := H.2 hc197
  refine W_skip ?_
  refine W_seq ?_
  refine W_seq ?_
  refine W_region ?_
  refine LP_ev ok 0 [(93, I r194), (94, I r128), (95, .bool (r194 != r128))] 3 rfl rfl ?_
  refine LP_end _ rfl ?_
  refine W_cond (r194 != r128) rfl (fun hc199 => ?_) (fun hc199 => ?_)
  · have H := H.1 hc199
    refine W_seq ?_
    refine W_region ?_
    refine LP_ev ok 0 [(2, .bool false)] 1 rfl rfl ?_
    refine LP_end _ rfl ?_
    refine W_ret ?_
    have X200 := (X176.stepx x196)
    exact ⟨_, Ret_of [.bool false] ⟨⟨rfl, rfl⟩, trivial⟩, _, H, rfl, X200.ext⟩
  have H := H.2 hc199
  refine W_skip ?_
  refine W_seq ?_
  refine W_region ?_
  refine LP_ev ok 0 [(2, .bool true)] 1 rfl rfl ?_
  refine LP_end _ rfl ?_
  refine W_ret ?_
  have X201 := (X176.stepx x196)
  exact ⟨_, Ret_of [.bool true] ⟨⟨rfl, rfl⟩, trivial⟩, _, H, rfl, X201.ext⟩

set_option maxRecDepth 8000 in
set_option maxHeartbeats 4000000 in
theorem spec_ClassOf_w (breaks : List Frac) (vx1 : Frac) (Q : Int → Bool → Prop) (H : spec_ClassOf breaks vx1 Q) (w : World) {vx : Value} {hx : PH} (r : RS hx vx breaks) (ex : Sub hx w) :
    CallsTo Try.prog 34 #[vx, .agg #[I vx1.Num, I vx1.Den]] w fun v w' => ∃ r0 r1, Q r0 r1 ∧ v = .tuple #[I r0, .bool r1] ∧ Ext w w' := by
  obtain ⟨a, c, rfl⟩ := r.shape
  refine enter (args := [.slice a (List.length breaks) c, .agg #[I vx1.Num, I vx1.Den]]) 44 Try.func34 rfl rfl rfl ?_
  refine W_forget [(0, .slice a (List.length breaks) c), (1, .agg #[I vx1.Num, I vx1.Den])] ⟨rfl, rfl, trivial⟩ fun ρ => ?_
  have X := But.refl emp w
  refine W_seq ?_
  refine W_region ?_
  refine LP_box 0 (cs := [I vx1.Num, I vx1.Den]) rfl rfl rfl rfl rfl fun b wx x ex2 f => ?_
  refine LP_ev ok 1 [(4, I 0), (5, .bool false)] 3 rfl rfl ?_
  refine LP_end _ rfl ?_
  refine W_seq ?_
  obtain ⟨k, hk, H⟩ := jn_elim H
  refine W_join2 (S := Bool) (fun s ρ' w' => k s ∧ ∃ (ρ : Env), ρ' = setAll [(0, .slice a (List.length breaks) c), (3, .pointer (some ⟨b, 0, none⟩)), (16, .bool s)] ρ ∧ But emp w w' ∧ Sub hx w' ∧ Sub (bx b 34 [I vx1.Num, I vx1.Den]) w') ?_ ?_
  · refine W_region ?_
    refine LP_ev ok 0 [(9, .slice a (List.length breaks) c)] 1 rfl rfl ?_
    have ex9 := (ex.ext x)
    refine LP_call 1 rfl rfl rfl cal_95 rfl (spec_oFracs_w _ _ _ H wx r ex9) ?_
    rintro _ wx10 ⟨r8, H, rfl, x11⟩
    refine LP_ev ok 2 [(11, .bool (!r8)), (12, .bool (!r8))] 4 rfl rfl ?_
    refine LP_split 12 (!r8) rfl (fun hc => ?_) (fun hc => ?_)
    · have H := H.1 hc
      refine LP_ev ok 4 [(13, undef), (14, undef), (15, undef), (16, .bool true)] 8 rfl rfl ?_
      refine LP_end _ rfl ?_
      have X12 := ((X.stepx x).stepx x11)
      have ex13 := (ex9.ext x11)
      have ex14 := (ex2.ext x11)
      exact ⟨true, H, _, env_eq ⟨rfl, rfl, rfl, trivial⟩, X12, ex13, ex14⟩
    have H := H.2 hc
    have ex15 := (ex2.ext x11)
    refine LP_ldbox 4 (v := .agg #[I vx1.Num, I vx1.Den]) rfl rfl rfl ti_34 ag_34 (fun h => by cases h) rfl ex15 rfl rfl ?_
    refine LP_call 5 rfl rfl rfl cal_96 rfl (spec_fGood_w _ _ H wx10 ) ?_
    rintro _ wx17 ⟨r16, H, rfl, x18⟩
    refine LP_ev ok 6 [(15, .bool (!r16)), (16, .bool (!r16))] 8 rfl rfl ?_
    refine LP_end _ rfl ?_
    have X19 := (((X.stepx x).stepx x11).stepx x18)
    have ex20 := ((ex9.ext x11).ext x18)
    have ex21 := (ex15.ext x18)
    exact ⟨!r16, H, _, env_eq ⟨rfl, rfl, rfl, trivial⟩, X19, ex20, ex21⟩
  rintro x3 _ wx4 ⟨H, ρ, rfl, X7, ex5, ex6⟩
  subst hk
  refine W_cond (x3) rfl (fun hc22 => ?_) (fun hc22 => ?_)
  · have H := H.1 hc22
    refine W_seq ?_
    refine W_region ?_
    refine LP_ev ok 0 [(4, I 0), (5, .bool false)] 2 rfl rfl ?_
    refine LP_end _ rfl ?_
    refine W_ret ?_
    exact ⟨_, Ret_of [I 0, .bool false] ⟨⟨rfl, rfl⟩, ⟨rfl, rfl⟩, trivial⟩, _, _, H, rfl, X7.ext⟩
  have H := H.2 hc22
  refine W_skip ?_
  refine W_seq ?_
  refine W_region ?_
  refine LP_ev ok 0 [(6, I 0)] 1 rfl rfl ?_
  refine LP_end _ rfl ?_
  refine W_seq ?_
  refine W_seq ?_
  refine W_region ?_
  refine LP_ev ok 0 [(17, .slice a (List.length breaks) c), (18, I (ln breaks)), (19, I 0)] 3 rfl rfl ?_
  refine LP_end _ rfl ?_
  refine W_block ?_
  obtain ⟨J, m, Hx, H⟩ := H
  refine W_loop (S := Int × Int) (fun s ρ' w' => J s.1 s.2 ∧ ∃ (ρ : Env), ρ' = setAll [(0, .slice a (List.length breaks) c), (3, .pointer (some ⟨b, 0, none⟩)), (6, I s.1), (17, .slice a (List.length breaks) c), (18, I (ln breaks)), (19, I s.2)] ρ ∧ But emp w w' ∧ Sub hx w' ∧ Sub (bx b 34 [I vx1.Num, I vx1.Den]) w') (fun s => m s.1 s.2) (0, 0) ⟨Hx, _, env_eq ⟨rfl, rfl, rfl, rfl, rfl, rfl, trivial⟩, X7, ex5, ex6⟩ ?_
  rintro ⟨n, x23⟩ _ wx24 ⟨Hi, ρ, rfl, X27, ex25, ex26⟩
  have H := H n x23 Hi
  refine W_seq ?_
  refine W_region ?_
  refine LP_ev ok 0 [(20, .bool (decide (x23 < (ln breaks))))] 1 rfl rfl ?_
  refine LP_end _ rfl ?_
  refine W_seq ?_
  refine W_cond (decide (x23 < (ln breaks))) rfl (fun hc28 => ?_) (fun hc28 => ?_)
  · have H := H.1 hc28
    refine W_skip ?_
    obtain ⟨k34, hk35, H⟩ := jn_elim H
    refine W_join2 (S := Int) (fun s ρ' w' => k34 s ∧ ∃ (ρ : Env), ρ' = setAll [(0, .slice a (List.length breaks) c), (3, .pointer (some ⟨b, 0, none⟩)), (6, I s), (17, .slice a (List.length breaks) c), (18, I (ln breaks)), (19, I x23)] ρ ∧ But emp w w' ∧ Sub hx w' ∧ Sub (bx b 34 [I vx1.Num, I vx1.Den]) w') ?_ ?_
    · refine W_block ?_
      refine W_seq ?_
      refine W_region ?_
      refine LP_ev ok 0 [(21, I x23)] 1 rfl rfl ?_
      obtain ⟨x36, hi, hx37, H⟩ := H
      refine LP_index 1 rfl rfl rfl Try.underlying44 ti_34 rfl rfl r hi hx37 fun a38 cs r39 d => ?_
      refine LP_load 2 rfl rfl rfl ti_34 ag_34 rfl r39 d ex25 fun vx40 r41 => ?_
      obtain rfl := Frac_rv r41
      refine LP_alloc 3 rfl rfl rfl ti_34 rfl fun b42 wx43 x44 ex45 f46 => ?_
      refine LP_ev ok 4 [(7, I x23)] 5 rfl rfl ?_
      refine LP_stbox 5 (vs := [I x36.Num, I x36.Den]) (cs' := [I x36.Num, I x36.Den]) rfl rfl rfl ti_34 rfl rfl rfl rfl rfl ex45 rfl rfl fun wx47 ex48 y => ?_
      refine LP_end _ rfl ?_
      refine W_seq ?_
      obtain ⟨k55, hk56, H⟩ := jn_elim H
      refine W_join2 (S := Bool) (fun s ρ' w' => k55 s ∧ ∃ (ρ : Env), ρ' = setAll [(0, .slice a (List.length breaks) c), (3, .pointer (some ⟨b, 0, none⟩)), (6, I n), (8, .pointer (some ⟨b42, 0, none⟩)), (17, .slice a (List.length breaks) c), (18, I (ln breaks)), (19, I x23), (35, .bool s)] ρ ∧ But emp w w' ∧ Sub hx w' ∧ Sub (bx b 34 [I vx1.Num, I vx1.Den]) w' ∧ Sub (bx b42 34 [I x36.Num, I x36.Den]) w') ?_ ?_
      · refine W_quiet mix (by kernel_rfl) ?_
        refine QP_ev ok 0 [(24, I x23), (25, .bool (decide (x23 > 0))), (26, .bool (decide (x23 > 0)))] 3 rfl rfl ?_
        refine QP_split 26 (decide (x23 > 0)) rfl (fun hc57 => ?_) (fun hc57 => ?_)
        · have H := H.1 hc57
          refine QP_ev ok 3 [(27, .slice a (List.length breaks) c), (28, I x23), (29, I (wr (x23 - 1)))] 6 rfl rfl ?_
          obtain ⟨x58, hi59, hx60, H⟩ := H
          refine QP_index 6 rfl rfl rfl Try.underlying44 ti_34 rfl rfl r hi59 hx60 fun a61 cs62 r63 d64 => ?_
          have ex65 := ((ex25.ext x44).but y (Dj.of_fresh ex25 f46).symm)
          refine QP_load 7 rfl rfl rfl ti_34 ag_34 rfl r63 d64 ex65 fun vx66 r67 => ?_
          obtain rfl := Frac_rv r67
          refine QP_ldbox 8 (v := .agg #[I x36.Num, I x36.Den]) rfl rfl rfl ti_34 ag_34 (fun h => by cases h) rfl ex48 rfl rfl ?_
          obtain ⟨r68, Hd, H⟩ := H
          refine QP_call (I r68) 9 rfl rfl rfl cal_97 rfl (fun wx69 x70 => (spec_fCmp_w _ _ _ Hd wx69 ).mono ?_) ?_
          · rintro _ _ ⟨_, rfl, rfl, x⟩; exact ⟨rfl, x⟩
          refine QP_ev ok 10 [(34, .bool (decide (r68 > 0))), (35, .bool (decide (r68 > 0)))] 12 rfl rfl ?_
          refine QP_end _ rfl fun wx71 x72 => ?_
          have f73 := f46.mono X27.size
          have X74 := (((X27.stepx x44).step y (f73.dom _)).stepx x72)
          have ex75 := (ex65.ext x72)
          have ex76 := (((ex26.ext x44).but y (Dj.of_fresh ex26 f46).symm).ext x72)
          have ex77 := (ex48.ext x72)
          exact ⟨decide (r68 > 0), H, _, env_eq ⟨rfl, rfl, rfl, rfl, rfl, rfl, rfl, rfl, trivial⟩, X74, ex75, ex76, ex77⟩
        have H := H.2 hc57
        refine QP_ev ok 3 [(27, undef), (28, undef), (29, undef), (30, undef), (31, undef), (32, undef), (33, undef), (34, undef), (35, .bool false)] 12 rfl rfl ?_
        refine QP_end _ rfl fun wx78 x79 => ?_
        have f80 := f46.mono X27.size
        have X81 := (((X27.stepx x44).step y (f80.dom _)).stepx x79)
        have ex82 := (((ex25.ext x44).but y (Dj.of_fresh ex25 f46).symm).ext x79)
        have ex83 := (((ex26.ext x44).but y (Dj.of_fresh ex26 f46).symm).ext x79)
        have ex84 := (ex48.ext x79)
        exact ⟨false, H, _, env_eq ⟨rfl, rfl, rfl, rfl, rfl, rfl, rfl, rfl, trivial⟩, X81, ex82, ex83, ex84⟩
      rintro x49 _ wx50 ⟨H, ρ, rfl, X54, ex51, ex52, ex53⟩
      subst hk56
      refine W_cond (x49) rfl (fun hc85 => ?_) (fun hc85 => ?_)
      · have H := H.1 hc85
        refine W_seq ?_
        refine W_region ?_
        refine LP_ev ok 0 [(4, I 0), (5, .bool false)] 2 rfl rfl ?_
        refine LP_end _ rfl ?_
        refine W_ret ?_
        exact ⟨_, Ret_of [I 0, .bool false] ⟨⟨rfl, rfl⟩, ⟨rfl, rfl⟩, trivial⟩, _, _, H, rfl, X54.ext⟩
      have H := H.2 hc85
      refine W_skip ?_
      refine W_seq ?_
      refine W_region ?_
      refine LP_ldbox 0 (v := .agg #[I x36.Num, I x36.Den]) rfl rfl rfl ti_34 ag_34 (fun h => by cases h) rfl ex53 rfl rfl ?_
      refine LP_ldbox 1 (v := .agg #[I vx1.Num, I vx1.Den]) rfl rfl rfl ti_34 ag_34 (fun h => by cases h) rfl ex52 rfl rfl ?_
      refine LP_call 2 rfl rfl rfl cal_97 rfl (spec_fCmp_w _ _ _ H wx50 ) ?_
      rintro _ wx87 ⟨r86, H, rfl, x88⟩
      refine LP_ev ok 3 [(39, .bool (decide (r86 ≤ 0)))] 4 rfl rfl ?_
      refine LP_end _ rfl ?_
      refine W_cond (decide (r86 ≤ 0)) rfl (fun hc89 => ?_) (fun hc89 => ?_)
      · have H := H.1 hc89
        refine W_region ?_
        refine LP_ev ok 0 [(40, I n), (41, I (wr (n + 1))), (6, I (wr (n + 1)))] 3 rfl rfl ?_
        refine LP_end _ rfl ?_
        have X90 := (X54.stepx x88)
        have ex91 := (ex51.ext x88)
        have ex92 := (ex52.ext x88)
        exact ⟨wr (n + 1), H, _, env_eq ⟨rfl, rfl, rfl, rfl, rfl, rfl, trivial⟩, X90, ex91, ex92⟩
      have H := H.2 hc89
      refine W_skip ?_
      have X93 := (X54.stepx x88)
      have ex94 := (ex51.ext x88)
      have ex95 := (ex52.ext x88)
      exact ⟨n, H, _, env_eq ⟨rfl, rfl, rfl, rfl, rfl, rfl, trivial⟩, X93, ex94, ex95⟩
    rintro n29 _ wx30 ⟨H, ρ, rfl, X33, ex31, ex32⟩
    subst hk35
    refine W_region ?_
    refine LP_ev ok 0 [(42, I (wr (x23 + 1))), (19, I (wr (x23 + 1)))] 2 rfl rfl ?_
    refine LP_end _ rfl ?_
    exact ⟨(n29, wr (x23 + 1)), ⟨H.1, _, env_eq ⟨rfl, rfl, rfl, rfl, rfl, rfl, trivial⟩, X33, ex31, ex32⟩, H.2⟩
  have H := H.2 hc28
  refine W_exit ?_
  refine (if_pos rfl).mpr ?_
  refine W_seq ?_
  refine W_region ?_
  refine LP_ev ok 0 [(43, I n), (4, I n), (5, .bool true)] 3 rfl rfl ?_
  refine LP_end _ rfl ?_
  refine W_ret ?_
  exact ⟨_, Ret_of [I n, .bool true] ⟨⟨rfl, rfl⟩, ⟨rfl, rfl⟩, trivial⟩, _, _, H, rfl, X27.ext⟩

set_option maxRecDepth 8000 in
set_option maxHeartbeats 4000000 in
theorem slices_IsSortedFunc_impl_Frac_impl_Frac_impl_cmpFrac_w (x : List Frac) (Q : Bool → Prop) (H : slices_IsSortedFunc_impl_Frac_impl_Frac_impl_cmpFrac x Q) (w : World) {vx : Value} {hx : PH} (r : RS hx vx x) (ex : Sub hx w) :
    CallsTo Try.prog 99 #[vx, .func (.func 100) #[] #[]] w fun v w' => ∃ r0, Q r0 ∧ v = .bool r0 ∧ Ext w w' := by
  obtain ⟨a, c, rfl⟩ := r.shape
  refine enter (args := [.slice a (List.length x) c, .func (.func 100) #[] #[]]) 25 Try.func99 rfl rfl rfl ?_
  refine W_forget [(0, .slice a (List.length x) c), (1, .func (.func 100) #[] #[])] ⟨rfl, rfl, trivial⟩ fun ρ => ?_
  have X := But.refl emp w
  refine W_seq ?_
  refine W_region ?_
  refine LP_ev ok 0 [(4, .bool false)] 1 rfl rfl ?_
  refine LP_end _ rfl ?_
  refine W_seq ?_
  refine W_seq ?_
  refine W_region ?_
  refine LP_ev ok 0 [(6, .slice a (List.length x) c), (7, I (ln x)), (8, I (wr ((ln x) - 1))), (5, I (wr ((ln x) - 1)))] 4 rfl rfl ?_
  refine LP_end _ rfl ?_
  refine W_block ?_
  obtain ⟨J, m, Hx, H⟩ := H
  refine W_loop (S := Int) (fun s ρ' w' => J s ∧ ∃ (ρ : Env), ρ' = setAll [(0, .slice a (List.length x) c), (1, .func (.func 100) #[] #[]), (5, I s)] ρ ∧ But emp w w' ∧ Sub hx w') (fun s => m s) (wr ((ln x) - 1)) ⟨Hx, _, env_eq ⟨rfl, rfl, rfl, trivial⟩, X, ex⟩ ?_
  rintro i _ wx ⟨Hi, ρ, rfl, X2, ex1⟩
  have H := H i Hi
  refine W_seq ?_
  refine W_seq ?_
  refine W_region ?_
  refine LP_ev ok 0 [(9, I i), (10, .bool (decide (i > 0)))] 2 rfl rfl ?_
  refine LP_end _ rfl ?_
  refine W_cond (decide (i > 0)) rfl (fun hc => ?_) (fun hc => ?_)
  · have H := H.1 hc
    refine W_skip ?_
    refine W_seq ?_
    refine W_block ?_
    refine W_seq ?_
    refine W_open mix fun wx3 x4 => ?_
    obtain ⟨x5, hi, hx6, H⟩ := H
    obtain ⟨a7, cs, hx9, r8, d⟩ := run_indexAt Try.underlying44 ti_34 r .i64 _ x5 hi hx6
    have ex10 := (ex1.ext x4)
    obtain ⟨vx11, hx13, r12⟩ := run_loadAt ti_34 ag_34 r8 d
    obtain rfl := Frac_rv r12
    obtain ⟨x14, hi15, hx16, H⟩ := H
    obtain ⟨a17, cs18, hx21, r19, d20⟩ := run_indexAt Try.underlying44 ti_34 r .i64 _ x14 hi15 hx16
    obtain ⟨vx22, hx24, r23⟩ := run_loadAt ti_34 ag_34 r19 d20
    obtain rfl := Frac_rv r23
    refine AP_stageL (St := Ext) rel_ext 0 10 [[], [], [], [1, 2], [1, 2, 3], [], [], [6], [5, 6, 7], [5, 6, 7, 8], [0, 1, 2, 3, 4, 5, 6, 7, 8, 9], [0, 1, 2, 3, 4, 5, 6, 7, 8, 9, 10]] [[(1, none)], [(0, none)], [(5, none)], [(14, some 1), (15, some 2)], [(16, some 3)], [(0, none)], [(5, none)], [(19, some 6)], [(18, some 5), (20, some 7)], [(21, some 8)]] [(0, none), (1, none), (5, none), (13, some 0), (17, some 4), (22, some 9)] [.func (.func 100) #[] #[], .slice a (List.length x) c, I i, .pointer (some a7), .agg #[I x5.Num, I x5.Den], .slice a (List.length x) c, I i, I (wr (i - 1)), .pointer (some a17), .agg #[I x14.Num, I x14.Den]] [] [] (by kernel_rfl) (by decide) rfl
      ⟨C_ev ok [(1, .func (.func 100) #[] #[])] (.func (.func 100) #[] #[]) (by decide) (fun _ h => h) rfl (fun _ => rfl),
        C_ev ok [(0, .slice a (List.length x) c)] (.slice a (List.length x) c) (by decide) (fun _ h => h) rfl (fun _ => rfl),
        C_ev ok [(5, I i)] (I i) (by decide) (fun _ h => h) rfl (fun _ => rfl),
        C_run [(14, .slice a (List.length x) c), (15, I i)] (.pointer (some a7)) (by decide) (fun _ h => h) rfl (fun _ _ _ => ex_index rfl rfl rfl (hx9 _)),
        C_run [(16, .pointer (some a7))] (.agg #[I x5.Num, I x5.Den]) (by decide) (fun _ h => h) rfl (fun _ w x => ex_load rfl rfl (hx13 w (ex10.ext x))),
        C_ev ok [(0, .slice a (List.length x) c)] (.slice a (List.length x) c) (by decide) (fun _ h => h) rfl (fun _ => rfl),
        C_ev ok [(5, I i)] (I i) (by decide) (fun _ h => h) rfl (fun _ => rfl),
        C_ev ok [(19, I i)] (I (wr (i - 1))) (by decide) (fun _ h => h) rfl (fun _ => rfl),
        C_run [(18, .slice a (List.length x) c), (20, I (wr (i - 1)))] (.pointer (some a17)) (by decide) (fun _ h => h) rfl (fun _ _ _ => ex_index rfl rfl rfl (hx21 _)),
        C_run [(21, .pointer (some a17))] (.agg #[I x14.Num, I x14.Den]) (by decide) (fun _ h => h) rfl (fun _ w x => ex_load rfl rfl (hx24 w (ex10.ext x))), trivial⟩ ?_
    intro wx25 x26 ρ hn
    refine AP_forget [(0, .slice a (List.length x) c), (1, .func (.func 100) #[] #[]), (5, I i), (13, .func (.func 100) #[] #[]), (17, .agg #[I x5.Num, I x5.Den]), (22, .agg #[I x14.Num, I x14.Den])] (by exact hn) fun ρ => ?_
    refine AP_LP 10 [[], [], [], [1, 2], [1, 2, 3], [], [], [6], [5, 6, 7], [5, 6, 7, 8], [0, 1, 2, 3, 4, 5, 6, 7, 8, 9], [0, 1, 2, 3, 4, 5, 6, 7, 8, 9, 10]] (by kernel_rfl) ?_
    refine LP_callv 10 rfl rfl rfl rfl cal_100 rfl (impl_cmpFrac_w _ _ _ H wx25 ) ?_
    rintro _ wx28 ⟨r27, H, rfl, x29⟩
    refine LP_ev ok 11 [(24, .bool (decide (r27 < 0)))] 12 rfl rfl ?_
    refine LP_end _ rfl ?_
    refine W_cond (decide (r27 < 0)) rfl (fun hc30 => ?_) (fun hc30 => ?_)
    · have H := H.1 hc30
      refine W_seq ?_
      refine W_region ?_
      refine LP_ev ok 0 [(4, .bool false)] 1 rfl rfl ?_
      refine LP_end _ rfl ?_
      refine W_ret ?_
      have X31 := (((X2.stepx x4).stepx x26).stepx x29)
      exact ⟨_, Ret_of [.bool false] ⟨⟨rfl, rfl⟩, trivial⟩, _, H, rfl, X31.ext⟩
    have H := H.2 hc30
    refine W_skip ?_
    refine W_region ?_
    refine LP_ev ok 0 [(11, I i), (12, I (wr (i - 1))), (5, I (wr (i - 1)))] 3 rfl rfl ?_
    refine LP_end _ rfl ?_
    have X32 := (((X2.stepx x4).stepx x26).stepx x29)
    have ex33 := ((ex10.ext x26).ext x29)
    exact ⟨wr (i - 1), ⟨H.1, _, env_eq ⟨rfl, rfl, rfl, trivial⟩, X32, ex33⟩, H.2⟩
  have H := H.2 hc
  refine W_exit ?_
  refine (if_pos rfl).mpr ?_
  refine W_seq ?_
  refine W_region ?_
  refine LP_ev ok 0 [(4, .bool true)] 1 rfl rfl ?_
  refine LP_end _ rfl ?_
  refine W_ret ?_
  exact ⟨_, Ret_of [.bool true] ⟨⟨rfl, rfl⟩, trivial⟩, _, H, rfl, X2.ext⟩

set_option maxRecDepth 8000 in
set_option maxHeartbeats 4000000 in
theorem impl_ClassOf_w (breaks : List Frac) (vx1 : Frac) (Q : Int → Bool → Prop) (H : impl_ClassOf breaks vx1 Q) (w : World) {vx : Value} {hx : PH} (r : RS hx vx breaks) (ex : Sub hx w) :
    CallsTo Try.prog 37 #[vx, .agg #[I vx1.Num, I vx1.Den]] w fun v w' => ∃ r0 r1, Q r0 r1 ∧ v = .tuple #[I r0, .bool r1] ∧ Ext w w' := by
  obtain ⟨a, c, rfl⟩ := r.shape
  refine enter (args := [.slice a (List.length breaks) c, .agg #[I vx1.Num, I vx1.Den]]) 41 Try.func37 rfl rfl rfl ?_
  refine W_forget [(0, .slice a (List.length breaks) c), (1, .agg #[I vx1.Num, I vx1.Den])] ⟨rfl, rfl, trivial⟩ fun ρ => ?_
  have X := But.refl emp w
  refine W_seq ?_
  refine W_region ?_
  refine LP_box 0 (cs := [I vx1.Num, I vx1.Den]) rfl rfl rfl rfl rfl fun b wx x ex2 f => ?_
  refine LP_ev ok 1 [(4, I 0), (5, .bool false)] 3 rfl rfl ?_
  refine LP_end _ rfl ?_
  refine W_seq ?_
  obtain ⟨k, hk, H⟩ := jn_elim H
  refine W_join2 (S := Bool) (fun s ρ' w' => k s ∧ ∃ (ρ : Env), ρ' = setAll [(0, .slice a (List.length breaks) c), (3, .pointer (some ⟨b, 0, none⟩)), (26, .bool s)] ρ ∧ But emp w w' ∧ Sub hx w' ∧ Sub (bx b 34 [I vx1.Num, I vx1.Den]) w') ?_ ?_
  · refine W_region ?_
    refine LP_ev ok 0 [(9, .slice a (List.length breaks) c), (10, I (ln breaks)), (11, .bool (decide ((ln breaks) > 7))), (12, .bool (decide ((ln breaks) > 7)))] 4 rfl rfl ?_
    refine LP_split 12 (decide ((ln breaks) > 7)) rfl (fun hc => ?_) (fun hc => ?_)
    · have H := H.1 hc
      refine LP_ev ok 4 [(13, undef), (14, undef), (15, undef), (16, .bool true), (17, .bool true), (18, undef), (19, undef), (20, undef), (21, .bool true), (22, .bool true), (23, undef), (24, undef), (25, undef), (26, .bool true)] 18 rfl rfl ?_
      refine LP_end _ rfl ?_
      have X8 := (X.stepx x)
      have ex9 := (ex.ext x)
      exact ⟨true, H, _, env_eq ⟨rfl, rfl, rfl, trivial⟩, X8, ex9, ex2⟩
    have H := H.2 hc
    refine LP_ev ok 4 [(13, .slice a (List.length breaks) c)] 5 rfl rfl ?_
    have ex11 := (ex.ext x)
    refine LP_call 5 rfl rfl rfl cal_98 rfl (impl_areFracs_w _ _ H wx r ex11) ?_
    rintro _ wx12 ⟨r10, H, rfl, x13⟩
    refine LP_ev ok 6 [(15, .bool (!r10)), (16, .bool (!r10)), (17, .bool (!r10))] 9 rfl rfl ?_
    refine LP_split 17 (!r10) rfl (fun hc14 => ?_) (fun hc14 => ?_)
    · have H := H.1 hc14
      refine LP_ev ok 9 [(18, undef), (19, undef), (20, undef), (21, .bool true), (22, .bool true), (23, undef), (24, undef), (25, undef), (26, .bool true)] 18 rfl rfl ?_
      refine LP_end _ rfl ?_
      have X15 := ((X.stepx x).stepx x13)
      have ex16 := (ex11.ext x13)
      have ex17 := (ex2.ext x13)
      exact ⟨true, H, _, env_eq ⟨rfl, rfl, rfl, trivial⟩, X15, ex16, ex17⟩
    have H := H.2 hc14
    refine LP_ev ok 9 [(18, .slice a (List.length breaks) c)] 10 rfl rfl ?_
    have ex19 := (ex11.ext x13)
    refine LP_call 10 rfl rfl rfl cal_99 rfl (slices_IsSortedFunc_impl_Frac_impl_Frac_impl_cmpFrac_w _ _ H wx12 r ex19) ?_
    rintro _ wx20 ⟨r18, H, rfl, x21⟩
    refine LP_ev ok 11 [(20, .bool (!r18)), (21, .bool (!r18)), (22, .bool (!r18))] 14 rfl rfl ?_
    refine LP_split 22 (!r18) rfl (fun hc22 => ?_) (fun hc22 => ?_)
    · have H := H.1 hc22
      refine LP_ev ok 14 [(23, undef), (24, undef), (25, undef), (26, .bool true)] 18 rfl rfl ?_
      refine LP_end _ rfl ?_
      have X23 := (((X.stepx x).stepx x13).stepx x21)
      have ex24 := (ex19.ext x21)
      have ex25 := ((ex2.ext x13).ext x21)
      exact ⟨true, H, _, env_eq ⟨rfl, rfl, rfl, trivial⟩, X23, ex24, ex25⟩
    have H := H.2 hc22
    have ex26 := ((ex2.ext x13).ext x21)
    refine LP_ldbox 14 (v := .agg #[I vx1.Num, I vx1.Den]) rfl rfl rfl ti_34 ag_34 (fun h => by cases h) rfl ex26 rfl rfl ?_
    refine LP_call 15 rfl rfl rfl cal_101 rfl (impl_IsFrac_w _ _ H wx20 ) ?_
    rintro _ wx28 ⟨r27, H, rfl, x29⟩
    refine LP_ev ok 16 [(25, .bool (!r27)), (26, .bool (!r27))] 18 rfl rfl ?_
    refine LP_end _ rfl ?_
    have X30 := ((((X.stepx x).stepx x13).stepx x21).stepx x29)
    have ex31 := ((ex19.ext x21).ext x29)
    have ex32 := (ex26.ext x29)
    exact ⟨!r27, H, _, env_eq ⟨rfl, rfl, rfl, trivial⟩, X30, ex31, ex32⟩
  rintro x3 _ wx4 ⟨H, ρ, rfl, X7, ex5, ex6⟩
  subst hk
  refine W_cond (x3) rfl (fun hc33 => ?_) (fun hc33 => ?_)
  · have H := H.1 hc33
    refine W_seq ?_
    refine W_region ?_
    refine LP_ev ok 0 [(4, I 0), (5, .bool false)] 2 rfl rfl ?_
    refine LP_end _ rfl ?_
    refine W_ret ?_
    exact ⟨_, Ret_of [I 0, .bool false] ⟨⟨rfl, rfl⟩, ⟨rfl, rfl⟩, trivial⟩, _, _, H, rfl, X7.ext⟩
  have H := H.2 hc33
  refine W_skip ?_
  refine W_seq ?_
  refine W_region ?_
  refine LP_ev ok 0 [(6, I 0)] 1 rfl rfl ?_
  refine LP_end _ rfl ?_
  refine W_seq ?_
  refine W_seq ?_
  refine W_region ?_
  refine LP_ev ok 0 [(27, .slice a (List.length breaks) c), (28, I (ln breaks)), (29, I 0)] 3 rfl rfl ?_
  refine LP_end _ rfl ?_
  refine W_block ?_
  obtain ⟨J, m, Hx, H⟩ := H
  refine W_loop (S := Int × Int) (fun s ρ' w' => J s.1 s.2 ∧ ∃ (ρ : Env), ρ' = setAll [(3, .pointer (some ⟨b, 0, none⟩)), (6, I s.1), (27, .slice a (List.length breaks) c), (28, I (ln breaks)), (29, I s.2)] ρ ∧ But emp w w' ∧ Sub hx w' ∧ Sub (bx b 34 [I vx1.Num, I vx1.Den]) w') (fun s => m s.1 s.2) (0, 0) ⟨Hx, _, env_eq ⟨rfl, rfl, rfl, rfl, rfl, trivial⟩, X7, ex5, ex6⟩ ?_
  rintro ⟨n, x34⟩ _ wx35 ⟨Hi, ρ, rfl, X38, ex36, ex37⟩
  have H := H n x34 Hi
  refine W_seq ?_
  refine W_region ?_
  refine LP_ev ok 0 [(30, .bool (decide (x34 < (ln breaks))))] 1 rfl rfl ?_
  refine LP_end _ rfl ?_
  refine W_seq ?_
  refine W_cond (decide (x34 < (ln breaks))) rfl (fun hc39 => ?_) (fun hc39 => ?_)
  · have H := H.1 hc39
    refine W_skip ?_
    obtain ⟨k45, hk46, H⟩ := jn_elim H
    refine W_join2 (S := Int) (fun s ρ' w' => k45 s ∧ ∃ (ρ : Env), ρ' = setAll [(3, .pointer (some ⟨b, 0, none⟩)), (6, I s), (27, .slice a (List.length breaks) c), (28, I (ln breaks)), (29, I x34)] ρ ∧ But emp w w' ∧ Sub hx w' ∧ Sub (bx b 34 [I vx1.Num, I vx1.Den]) w') ?_ ?_
    · refine W_block ?_
      refine W_seq ?_
      refine W_region ?_
      obtain ⟨x47, hi, hx48, H⟩ := H
      refine LP_index 0 rfl rfl rfl Try.underlying44 ti_34 rfl rfl r hi hx48 fun a49 cs r50 d => ?_
      refine LP_load 1 rfl rfl rfl ti_34 ag_34 rfl r50 d ex36 fun vx51 r52 => ?_
      obtain rfl := Frac_rv r52
      refine LP_alloc 2 rfl rfl rfl ti_34 rfl fun b53 wx54 x55 ex56 f57 => ?_
      refine LP_stbox 3 (vs := [I x47.Num, I x47.Den]) (cs' := [I x47.Num, I x47.Den]) rfl rfl rfl ti_34 rfl rfl rfl rfl rfl ex56 rfl rfl fun wx58 ex59 y => ?_
      refine LP_end _ rfl ?_
      refine W_seq ?_
      refine W_region ?_
      refine LP_ldbox 0 (v := .agg #[I x47.Num, I x47.Den]) rfl rfl rfl ti_34 ag_34 (fun h => by cases h) rfl ex59 rfl rfl ?_
      have ex60 := ((ex37.ext x55).but y (Dj.of_fresh ex37 f57).symm)
      refine LP_ldbox 1 (v := .agg #[I vx1.Num, I vx1.Den]) rfl rfl rfl ti_34 ag_34 (fun h => by cases h) rfl ex60 rfl rfl ?_
      refine LP_call 2 rfl rfl rfl cal_100 rfl (impl_cmpFrac_w _ _ _ H wx58 ) ?_
      rintro _ wx62 ⟨r61, H, rfl, x63⟩
      refine LP_ev ok 3 [(36, .bool (decide (r61 ≤ 0)))] 4 rfl rfl ?_
      refine LP_end _ rfl ?_
      refine W_cond (decide (r61 ≤ 0)) rfl (fun hc64 => ?_) (fun hc64 => ?_)
      · have H := H.1 hc64
        refine W_region ?_
        refine LP_ev ok 0 [(37, I n), (38, I (wr (n + 1))), (6, I (wr (n + 1)))] 3 rfl rfl ?_
        refine LP_end _ rfl ?_
        have f65 := f57.mono X38.size
        have X66 := (((X38.stepx x55).step y (f65.dom _)).stepx x63)
        have ex67 := (((ex36.ext x55).but y (Dj.of_fresh ex36 f57).symm).ext x63)
        have ex68 := (ex60.ext x63)
        exact ⟨wr (n + 1), H, _, env_eq ⟨rfl, rfl, rfl, rfl, rfl, trivial⟩, X66, ex67, ex68⟩
      have H := H.2 hc64
      refine W_skip ?_
      have f69 := f57.mono X38.size
      have X70 := (((X38.stepx x55).step y (f69.dom _)).stepx x63)
      have ex71 := (((ex36.ext x55).but y (Dj.of_fresh ex36 f57).symm).ext x63)
      have ex72 := (ex60.ext x63)
      exact ⟨n, H, _, env_eq ⟨rfl, rfl, rfl, rfl, rfl, trivial⟩, X70, ex71, ex72⟩
    rintro n40 _ wx41 ⟨H, ρ, rfl, X44, ex42, ex43⟩
    subst hk46
    refine W_region ?_
    refine LP_ev ok 0 [(39, I (wr (x34 + 1))), (29, I (wr (x34 + 1)))] 2 rfl rfl ?_
    refine LP_end _ rfl ?_
    exact ⟨(n40, wr (x34 + 1)), ⟨H.1, _, env_eq ⟨rfl, rfl, rfl, rfl, rfl, trivial⟩, X44, ex42, ex43⟩, H.2⟩
  have H := H.2 hc39
  refine W_exit ?_
  refine (if_pos rfl).mpr ?_
  refine W_seq ?_
  refine W_region ?_
  refine LP_ev ok 0 [(40, I n), (4, I n), (5, .bool true)] 3 rfl rfl ?_
  refine LP_end _ rfl ?_
  refine W_ret ?_
  exact ⟨_, Ret_of [I n, .bool true] ⟨⟨rfl, rfl⟩, ⟨rfl, rfl⟩, trivial⟩, _, _, H, rfl, X38.ext⟩

end Go.Proofs.Ytbegmfmabcpofaa
