/- The walks, further. -/
import Derived.Test.YtbegmfmabcpofaaAWalk2
set_option linter.unusedVariables false
set_option autoImplicit false
namespace Go.Proofs.Ytbegmfmabcpofaa
open Go Go.RowKit Go.Gv

open Go.Proofs
set_option maxRecDepth 8000 in
set_option maxHeartbeats 4000000 in
theorem laws_FnExactClassOf_w (aBreaks : List Frac) (aV : Frac) (Q : Bool → Prop) (H : laws_FnExactClassOf aBreaks aV Q) (w : World) {vx : Value} {hx : PH} (r : RS hx vx aBreaks) (ex : Sub hx w) :
    CallsTo Try.prog 7 #[vx, .agg #[I aV.Num, I aV.Den]] w fun v w' => ∃ r0, Q r0 ∧ v = .bool r0 ∧ Ext w w' := by
  obtain ⟨a, c, rfl⟩ := r.shape
  refine enter (args := [.slice a (List.length aBreaks) c, .agg #[I aV.Num, I aV.Den]]) 46 Try.func7 rfl rfl rfl ?_
  refine W_forget [(0, .slice a (List.length aBreaks) c), (1, .agg #[I aV.Num, I aV.Den])] ⟨rfl, rfl, trivial⟩ fun ρ => ?_
  have X := But.refl emp w
  refine W_seq ?_
  refine W_region ?_
  refine LP_box 0 (cs := [I aV.Num, I aV.Den]) rfl rfl rfl rfl rfl fun b wx x ex1 f => ?_
  refine LP_ev ok 1 [(4, .bool false)] 2 rfl rfl ?_
  refine LP_end _ rfl ?_
  refine W_seq ?_
  refine W_region ?_
  refine LP_ev ok 0 [(5, I 1048576)] 1 rfl rfl ?_
  refine LP_end _ rfl ?_
  refine W_seq ?_
  refine W_region ?_
  refine LP_ev ok 0 [(11, .slice a (List.length aBreaks) c), (12, I 1048576)] 2 rfl rfl ?_
  have ex3 := (ex.ext x)
  refine LP_call 2 rfl rfl rfl cal_33 rfl (laws_szFracS_w _ _ _ H wx r ex3) ?_
  rintro _ wx4 ⟨r2, H, rfl, x5⟩
  refine LP_ev ok 3 [(5, I r2)] 4 rfl rfl ?_
  refine LP_end _ rfl ?_
  refine W_seq ?_
  refine W_seq ?_
  refine W_region ?_
  refine LP_ev ok 0 [(14, I r2), (15, .bool (decide (r2 < 0)))] 2 rfl rfl ?_
  refine LP_end _ rfl ?_
  refine W_cond (decide (r2 < 0)) rfl (fun hc => ?_) (fun hc => ?_)
  · have H := H.1 hc
    refine W_seq ?_
    refine W_region ?_
    refine LP_ev ok 0 [(4, .bool true)] 1 rfl rfl ?_
    refine LP_end _ rfl ?_
    refine W_ret ?_
    have X6 := ((X.stepx x).stepx x5)
    exact ⟨_, Ret_of [.bool true] ⟨⟨rfl, rfl⟩, trivial⟩, _, H, rfl, X6.ext⟩
  have H := H.2 hc
  refine W_skip ?_
  refine W_seq ?_
  refine W_open mix fun wx7 x8 => ?_
  have ex9 := ((ex1.ext x5).ext x8)
  obtain ⟨r10, Hd, H⟩ := H
  refine AP_stageL (St := Ext) rel_ext 0 4 [[], [0], [], [0, 1, 2], [0, 1, 2, 3], [0, 1, 2, 3, 4], [0, 1, 2, 3, 4, 5], [0, 1, 2, 3, 4, 5], [0, 1, 2, 3, 4, 5, 6], [0, 1, 2, 3, 4, 5, 6, 7, 8]] [[(0, none)], [(17, some 0)], [(3, none)], [(19, some 2)]] [(0, none), (3, none), (18, some 1), (20, some 3)] [.slice a (List.length aBreaks) c, undef, .agg #[I aV.Num, I aV.Den], .agg #[I r10.Num, I r10.Den]] [1] [(35, [.slice a (List.length aBreaks) c])] (by kernel_rfl) (by decide) rfl
    ⟨C_ev ok [(0, .slice a (List.length aBreaks) c)] (.slice a (List.length aBreaks) c) (by decide) (fun _ h => h) rfl (fun _ => rfl),
      C_own 0 [(17, .slice a (List.length aBreaks) c)] rfl rfl (fun _ h => h) rfl cal_35 (fun _ => rfl),
      C_run [(3, .pointer (some ⟨b, 0, none⟩))] (.agg #[I aV.Num, I aV.Den]) (by decide) (fun _ h => h) rfl (fun _ w x => ex_ldbox rfl ti_40 ag_40 (fun h => by cases h) rfl (ex9.ext x) rfl rfl),
      C_call [(19, .agg #[I aV.Num, I aV.Den])] (.agg #[I r10.Num, I r10.Den]) (by decide) (fun _ h => h) rfl rfl cal_36 (fun _ => rfl) (fun w x => (laws_toFrac_w _ _ Hd w ).mono (fun _ _ h => by obtain ⟨_, rfl, rfl, x⟩ := h; exact ⟨rfl, x⟩)), trivial⟩ ?_
  intro wx11 x12
  have ex13 := (((ex3.ext x5).ext x8).ext x12)
  refine (laws_toFracS_w _ _ H wx11 r ex13).mono ?_
  rintro _ wx15 ⟨r14, vx17, hx18, H, rfl, x16, o, ex19, f20⟩
  obtain ⟨a21, c22, rfl⟩ := o.shape
  refine ⟨x16, ?_⟩
  intro wx23 x24 ρ hn
  refine AP_forget [(0, .slice a (List.length aBreaks) c), (3, .pointer (some ⟨b, 0, none⟩)), (18, .slice a21 (List.length r14) c22), (20, .agg #[I r10.Num, I r10.Den])] (by exact hn) fun ρ => ?_
  obtain ⟨r25, r26, Hd27, H⟩ := H
  have ex28 := (ex19.ext x24)
  refine AP_stageL (St := Ext) rel_ext 4 9 [[], [0], [], [0, 1, 2], [0, 1, 2, 3], [0, 1, 2, 3, 4], [0, 1, 2, 3, 4, 5], [0, 1, 2, 3, 4, 5], [0, 1, 2, 3, 4, 5, 6], [0, 1, 2, 3, 4, 5, 6, 7, 8]] [[], [], [], [], [(18, none), (20, none)], [(21, some 4)], [(16, some 5)], [(16, some 5)], [(22, some 6)]] [(0, none), (3, none), (6, some 8), (23, some 7)] [undef, undef, undef, undef, .tuple #[I r25, .bool r26], .tuple #[I r25, .bool r26], I r25, .bool r26, I r25] [] [] (by kernel_rfl) (by decide) rfl
    ⟨C_call [(18, .slice a21 (List.length r14) c22), (20, .agg #[I r10.Num, I r10.Den])] (.tuple #[I r25, .bool r26]) (by decide) (fun _ h => h) rfl rfl cal_34 (fun _ => rfl) (fun w x => (spec_ClassOf_w _ _ _ Hd27 w o.readf (ex28.ext x)).mono (fun _ _ h => by obtain ⟨_, _, ⟨rfl, rfl⟩, rfl, x⟩ := h; exact ⟨rfl, x⟩)),
      C_ev ok [(21, .tuple #[I r25, .bool r26])] (.tuple #[I r25, .bool r26]) (by decide) (fun _ h => h) rfl (fun _ => rfl),
      C_ev ok [(16, .tuple #[I r25, .bool r26])] (I r25) (by decide) (fun _ h => h) rfl (fun _ => rfl),
      C_ev ok [(16, .tuple #[I r25, .bool r26])] (.bool r26) (by decide) (fun _ h => h) rfl (fun _ => rfl),
      C_ev ok [(22, I r25)] (I r25) (by decide) (fun _ h => h) rfl (fun _ => rfl), trivial⟩ ?_
  intro wx29 x30 ρ hn31
  refine AP_forget [(0, .slice a (List.length aBreaks) c), (3, .pointer (some ⟨b, 0, none⟩)), (6, I r25), (23, .bool r26)] (by exact hn31) fun ρ => ?_
  refine AP_LP 9 [[], [0], [], [0, 1, 2], [0, 1, 2, 3], [0, 1, 2, 3, 4], [0, 1, 2, 3, 4, 5], [0, 1, 2, 3, 4, 5], [0, 1, 2, 3, 4, 5, 6], [0, 1, 2, 3, 4, 5, 6, 7, 8]] (by kernel_rfl) ?_
  refine LP_ev ok 9 [(7, .bool r26)] 10 rfl rfl ?_
  refine LP_end _ rfl ?_
  refine W_seq ?_
  refine W_region ?_
  refine LP_ev ok 0 [(24, .slice a (List.length aBreaks) c)] 1 rfl rfl ?_
  have ex33 := (((ex13.ext x16).ext x24).ext x30)
  refine LP_call 1 rfl rfl rfl cal_35 rfl (laws_toFracS_w _ _ H wx29 r ex33) ?_
  rintro _ wx34 ⟨r32, vx36, hx37, H, rfl, x35, o38, ex39, f40⟩
  obtain ⟨a41, c42, rfl⟩ := o38.shape
  refine LP_ev ok 2 [(8, .slice a41 (List.length r32) c42)] 3 rfl rfl ?_
  refine LP_end _ rfl ?_
  refine W_seq ?_
  refine W_region ?_
  refine LP_ev ok 0 [(27, .slice a41 (List.length r32) c42)] 1 rfl rfl ?_
  have ex43 := (((((ex9.ext x12).ext x16).ext x24).ext x30).ext x35)
  refine LP_ldbox 1 (v := .agg #[I aV.Num, I aV.Den]) rfl rfl rfl ti_40 ag_40 (fun h => by cases h) rfl ex43 rfl rfl ?_
  refine LP_call 2 rfl rfl rfl cal_36 rfl (laws_toFrac_w _ _ H wx34 ) ?_
  rintro _ wx45 ⟨r44, H, rfl, x46⟩
  have ex49 := (ex39.ext x46)
  refine LP_call 3 rfl rfl rfl cal_37 rfl (impl_ClassOf_w _ _ _ H wx45 o38.readf ex49) ?_
  rintro _ wx50 ⟨r47, r48, H, rfl, x51⟩
  refine LP_ev ok 4 [(26, .tuple #[I r47, .bool r48]), (31, I r47), (32, .bool r48), (9, I r47), (10, .bool r48)] 9 rfl rfl ?_
  refine LP_end _ rfl ?_
  refine W_seq ?_
  obtain ⟨k, hk, H⟩ := jn_elim H
  refine W_join2 (S := Bool) (fun s ρ' w' => k s ∧ ∃ (ρ : Env), ρ' = setAll [(0, .slice a (List.length aBreaks) c), (8, .slice a41 (List.length r32) c42), (40, .bool s)] ρ ∧ wx50 = w') ?_ ?_
  · refine W_region ?_
    refine LP_ev ok 0 [(33, I r47), (34, I r25), (35, .bool (r47 != r25)), (36, .bool (r47 != r25))] 4 rfl rfl ?_
    refine LP_split 36 (r47 != r25) rfl (fun hc54 => ?_) (fun hc54 => ?_)
    · have H := H.1 hc54
      refine LP_ev ok 4 [(37, undef), (38, undef), (39, undef), (40, .bool true)] 8 rfl rfl ?_
      refine LP_end _ rfl ?_
      exact ⟨true, H, _, env_eq ⟨rfl, rfl, rfl, trivial⟩, rfl⟩
    have H := H.2 hc54
    refine LP_ev ok 4 [(37, .bool r48), (38, .bool r26), (39, .bool (r48 != r26)), (40, .bool (r48 != r26))] 8 rfl rfl ?_
    refine LP_end _ rfl ?_
    exact ⟨r48 != r26, H, _, env_eq ⟨rfl, rfl, rfl, trivial⟩, rfl⟩
  rintro x52 _ _ ⟨H, ρ, rfl, rfl⟩
  subst hk
  refine W_cond (x52) rfl (fun hc55 => ?_) (fun hc55 => ?_)
  · have H := H.1 hc55
    refine W_seq ?_
    refine W_region ?_
    refine LP_ev ok 0 [(4, .bool false)] 1 rfl rfl ?_
    refine LP_end _ rfl ?_
    refine W_ret ?_
    have X56 := ((((((((((X.stepx x).stepx x5).stepx x8).stepx x12).stepx x16).stepx x24).stepx x30).stepx x35).stepx x46).stepx x51)
    exact ⟨_, Ret_of [.bool false] ⟨⟨rfl, rfl⟩, trivial⟩, _, H, rfl, X56.ext⟩
  have H := H.2 hc55
  refine W_skip ?_
  refine W_seq ?_
  refine W_seq ?_
  refine W_region ?_
  refine LP_ev ok 0 [(41, .slice a41 (List.length r32) c42), (42, .slice a (List.length aBreaks) c)] 2 rfl rfl ?_
  have ex58 := (((ex33.ext x35).ext x46).ext x51)
  refine LP_call 2 rfl rfl rfl cal_35 rfl (laws_toFracS_w _ _ H wx50 r ex58) ?_
  rintro _ wx59 ⟨r57, vx61, hx62, H, rfl, x60, o63, ex64, f65⟩
  obtain ⟨a66, c67, rfl⟩ := o63.shape
  have ex69 := ((ex49.ext x51).ext x60)
  refine LP_call 3 rfl rfl rfl cal_38 rfl (laws_eqFracS_w _ _ _ H wx59 o38.readf ex69 o63.readf ex64) ?_
  rintro _ wx70 ⟨r68, H, rfl, x71⟩
  refine LP_ev ok 4 [(45, .bool (!r68))] 5 rfl rfl ?_
  refine LP_end _ rfl ?_
  refine W_cond (!r68) rfl (fun hc72 => ?_) (fun hc72 => ?_)
  · have H := H.1 hc72
    refine W_seq ?_
    refine W_region ?_
    refine LP_ev ok 0 [(4, .bool false)] 1 rfl rfl ?_
    refine LP_end _ rfl ?_
    refine W_ret ?_
    have X73 := ((((((((((((X.stepx x).stepx x5).stepx x8).stepx x12).stepx x16).stepx x24).stepx x30).stepx x35).stepx x46).stepx x51).stepx x60).stepx x71)
    exact ⟨_, Ret_of [.bool false] ⟨⟨rfl, rfl⟩, trivial⟩, _, H, rfl, X73.ext⟩
  have H := H.2 hc72
  refine W_skip ?_
  refine W_seq ?_
  refine W_region ?_
  refine LP_ev ok 0 [(4, .bool true)] 1 rfl rfl ?_
  refine LP_end _ rfl ?_
  refine W_ret ?_
  have X74 := ((((((((((((X.stepx x).stepx x5).stepx x8).stepx x12).stepx x16).stepx x24).stepx x30).stepx x35).stepx x46).stepx x51).stepx x60).stepx x71)
  exact ⟨_, Ret_of [.bool true] ⟨⟨rfl, rfl⟩, trivial⟩, _, H, rfl, X74.ext⟩

end Go.Proofs.Ytbegmfmabcpofaa
