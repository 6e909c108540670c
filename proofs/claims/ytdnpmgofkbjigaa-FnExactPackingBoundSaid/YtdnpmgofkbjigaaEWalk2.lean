/- The walks, further. -/
import Derived.Test.YtdnpmgofkbjigaaEWalk
set_option linter.unusedVariables false
set_option autoImplicit false
namespace Go.Proofs.Ytdnpmgofkbjigaa
open Go Go.RowKit Go.Gv

open Go.Proofs
set_option maxRecDepth 8000 in
set_option maxHeartbeats 4000000 in
theorem impl_IsCover_w (sx : List Variable) (l : List Edit) (values : List Int) (vars : List Int) (Q : Bool → Bool → Prop) (H : impl_IsCover sx l values vars Q) (w : World) {vx : Value} {hx : PH} (r : RS hx vx sx) (ex : Sub hx w) {vx1 : Value} {hx2 : PH} (r3 : RS hx2 vx1 l) (ex4 : Sub hx2 w) {vx7 : Value} {hx8 : PH} (r9 : RS hx8 vx7 values) (ex10 : Sub hx8 w) {vx13 : Value} {hx14 : PH} (r15 : RS hx14 vx13 vars) (ex16 : Sub hx14 w) :
    CallsTo Try.prog 20 #[vx, vx1, vx7, vx13] w fun v w' => ∃ r0 r1, Q r0 r1 ∧ v = .tuple #[.bool r0, .bool r1] ∧ Ext w w' := by
  obtain ⟨a, c, rfl⟩ := r.shape
  obtain ⟨a5, c6, rfl⟩ := r3.shape
  obtain ⟨a11, c12, rfl⟩ := r9.shape
  obtain ⟨a17, c18, rfl⟩ := r15.shape
  refine enter (args := [.slice a (List.length sx) c, .slice a5 (List.length l) c6, .slice a11 (List.length values) c12, .slice a17 (List.length vars) c18]) 39 Try.func20 rfl rfl rfl ?_
  refine W_forget [(0, .slice a (List.length sx) c), (1, .slice a5 (List.length l) c6), (2, .slice a11 (List.length values) c12), (3, .slice a17 (List.length vars) c18)] ⟨rfl, rfl, rfl, rfl, trivial⟩ fun ρ => ?_
  have X := But.refl emp w
  refine W_seq ?_
  refine W_region ?_
  refine LP_ev ok 0 [(8, .bool false), (9, .bool false)] 2 rfl rfl ?_
  refine LP_end _ rfl ?_
  refine W_seq ?_
  obtain ⟨k, hk, H⟩ := jn_elim H
  refine W_join2 (S := Bool) (fun s ρ' w' => k s ∧ ∃ (ρ : Env), ρ' = setAll [(0, .slice a (List.length sx) c), (1, .slice a5 (List.length l) c6), (2, .slice a11 (List.length values) c12), (3, .slice a17 (List.length vars) c18), (30, .bool s)] ρ ∧ But emp w w' ∧ Sub hx w' ∧ Sub hx2 w' ∧ Sub hx8 w' ∧ Sub hx14 w') ?_ ?_
  · refine W_region ?_
    refine LP_ev ok 0 [(10, .slice a (List.length sx) c)] 1 rfl rfl ?_
    refine LP_call 1 rfl rfl rfl cal_86 rfl (impl_isSmall_w _ _ H w r ex) ?_
    rintro _ wx25 ⟨r24, H, rfl, x26⟩
    refine LP_ev ok 2 [(12, .bool (!r24)), (13, .bool (!r24))] 4 rfl rfl ?_
    refine LP_split 13 (!r24) rfl (fun hc => ?_) (fun hc => ?_)
    · have H := H.1 hc
      refine LP_ev ok 4 [(14, undef), (15, undef), (16, undef), (17, undef), (18, .bool true), (19, .bool true), (20, undef), (21, undef), (22, undef), (23, undef), (24, .bool true), (25, .bool true), (26, undef), (27, undef), (28, undef), (29, undef), (30, .bool true)] 21 rfl rfl ?_
      refine LP_end _ rfl ?_
      have X27 := (X.stepx x26)
      have ex28 := (ex.ext x26)
      have ex29 := (ex4.ext x26)
      have ex30 := (ex10.ext x26)
      have ex31 := (ex16.ext x26)
      exact ⟨true, H, _, env_eq ⟨rfl, rfl, rfl, rfl, rfl, trivial⟩, X27, ex28, ex29, ex30, ex31⟩
    have H := H.2 hc
    refine LP_ev ok 4 [(14, .slice a (List.length sx) c), (15, .slice a5 (List.length l) c6)] 6 rfl rfl ?_
    have ex33 := (ex.ext x26)
    have ex34 := (ex4.ext x26)
    refine LP_call 6 rfl rfl rfl cal_87 rfl (impl_areEdits_w _ _ _ H wx25 r ex33 r3 ex34) ?_
    rintro _ wx35 ⟨r32, H, rfl, x36⟩
    refine LP_ev ok 7 [(17, .bool (!r32)), (18, .bool (!r32)), (19, .bool (!r32))] 10 rfl rfl ?_
    refine LP_split 19 (!r32) rfl (fun hc37 => ?_) (fun hc37 => ?_)
    · have H := H.1 hc37
      refine LP_ev ok 10 [(20, undef), (21, undef), (22, undef), (23, undef), (24, .bool true), (25, .bool true), (26, undef), (27, undef), (28, undef), (29, undef), (30, .bool true)] 21 rfl rfl ?_
      refine LP_end _ rfl ?_
      have X38 := ((X.stepx x26).stepx x36)
      have ex39 := (ex33.ext x36)
      have ex40 := (ex34.ext x36)
      have ex41 := ((ex10.ext x26).ext x36)
      have ex42 := ((ex16.ext x26).ext x36)
      exact ⟨true, H, _, env_eq ⟨rfl, rfl, rfl, rfl, rfl, trivial⟩, X38, ex39, ex40, ex41, ex42⟩
    have H := H.2 hc37
    refine LP_ev ok 10 [(20, .slice a (List.length sx) c), (21, .slice a11 (List.length values) c12)] 12 rfl rfl ?_
    have ex44 := (ex33.ext x36)
    have ex45 := ((ex10.ext x26).ext x36)
    refine LP_call 12 rfl rfl rfl cal_88 rfl (impl_areValues_w _ _ _ H wx35 r ex44 r9 ex45) ?_
    rintro _ wx46 ⟨r43, H, rfl, x47⟩
    refine LP_ev ok 13 [(23, .bool (!r43)), (24, .bool (!r43)), (25, .bool (!r43))] 16 rfl rfl ?_
    refine LP_split 25 (!r43) rfl (fun hc48 => ?_) (fun hc48 => ?_)
    · have H := H.1 hc48
      refine LP_ev ok 16 [(26, undef), (27, undef), (28, undef), (29, undef), (30, .bool true)] 21 rfl rfl ?_
      refine LP_end _ rfl ?_
      have X49 := (((X.stepx x26).stepx x36).stepx x47)
      have ex50 := (ex44.ext x47)
      have ex51 := ((ex34.ext x36).ext x47)
      have ex52 := (ex45.ext x47)
      have ex53 := (((ex16.ext x26).ext x36).ext x47)
      exact ⟨true, H, _, env_eq ⟨rfl, rfl, rfl, rfl, rfl, trivial⟩, X49, ex50, ex51, ex52, ex53⟩
    have H := H.2 hc48
    refine LP_ev ok 16 [(26, .slice a (List.length sx) c), (27, .slice a17 (List.length vars) c18)] 18 rfl rfl ?_
    have ex55 := (ex44.ext x47)
    have ex56 := (((ex16.ext x26).ext x36).ext x47)
    refine LP_call 18 rfl rfl rfl cal_89 rfl (impl_areVars_w _ _ _ H wx46 r ex55 r15 ex56) ?_
    rintro _ wx57 ⟨r54, H, rfl, x58⟩
    refine LP_ev ok 19 [(29, .bool (!r54)), (30, .bool (!r54))] 21 rfl rfl ?_
    refine LP_end _ rfl ?_
    have X59 := ((((X.stepx x26).stepx x36).stepx x47).stepx x58)
    have ex60 := (ex55.ext x58)
    have ex61 := (((ex34.ext x36).ext x47).ext x58)
    have ex62 := ((ex45.ext x47).ext x58)
    have ex63 := (ex56.ext x58)
    exact ⟨!r54, H, _, env_eq ⟨rfl, rfl, rfl, rfl, rfl, trivial⟩, X59, ex60, ex61, ex62, ex63⟩
  rintro x _ wx ⟨H, ρ, rfl, X23, ex19, ex20, ex21, ex22⟩
  subst hk
  refine W_cond (x) rfl (fun hc64 => ?_) (fun hc64 => ?_)
  · have H := H.1 hc64
    refine W_seq ?_
    refine W_region ?_
    refine LP_ev ok 0 [(8, .bool false), (9, .bool false)] 2 rfl rfl ?_
    refine LP_end _ rfl ?_
    refine W_ret ?_
    exact ⟨_, Ret_of [.bool false, .bool false] ⟨⟨rfl, rfl⟩, ⟨rfl, rfl⟩, trivial⟩, _, _, H, rfl, X23.ext⟩
  have H := H.2 hc64
  refine W_skip ?_
  refine W_seq ?_
  refine W_region ?_
  refine LP_ev ok 0 [(31, .slice a (List.length sx) c), (32, .slice a5 (List.length l) c6), (33, .slice a (List.length sx) c), (34, .slice a17 (List.length vars) c18)] 4 rfl rfl ?_
  refine LP_call 4 rfl rfl rfl cal_91 rfl (impl_otherVars_w _ _ _ H wx r ex19 r15 ex22) ?_
  rintro _ wx66 ⟨r65, vx68, hx69, H, rfl, x67, o, ex70, f⟩
  obtain ⟨a71, c72, rfl⟩ := o.shape
  refine LP_ev ok 5 [(36, .slice a11 (List.length values) c12)] 6 rfl rfl ?_
  have ex74 := (ex19.ext x67)
  have ex75 := (ex20.ext x67)
  have ex76 := (ex21.ext x67)
  refine LP_call 6 rfl rfl rfl cal_90 rfl (impl_completionOf_w _ _ _ _ _ H wx66 r ex74 r3 ex75 o.readf ex70 r9 ex76) ?_
  rintro _ wx77 ⟨r73, vx79, hx80, H, rfl, x78, o81, ex82, f83, cn⟩
  obtain ⟨a84, c85, rfl⟩ := o81.shape
  refine LP_val 7 _ rfl rfl (ex_nenilc rfl Try.underlying24 rfl rfl (cn _ _ _ rfl) _) ?_
  refine LP_ev ok 8 [(8, .bool (!(ln r73 == 0))), (9, .bool true)] 10 rfl rfl ?_
  refine LP_end _ rfl ?_
  refine W_ret ?_
  have X86 := ((X23.stepx x67).stepx x78)
  exact ⟨_, Ret_of [.bool (!(ln r73 == 0)), .bool true] ⟨⟨rfl, rfl⟩, ⟨rfl, rfl⟩, trivial⟩, _, _, H, rfl, X86.ext⟩

set_option maxRecDepth 8000 in
set_option maxHeartbeats 4000000 in
theorem laws_eqVariable_w (a : Variable) (b : Variable) (Q : Bool → Prop) (H : laws_eqVariable a b Q) (w : World)  :
    CallsTo Try.prog 92 #[.agg #[.string a.Name, I a.Levels], .agg #[.string b.Name, I b.Levels]] w fun v w' => ∃ r0, Q r0 ∧ v = .bool r0 ∧ Ext w w' := by
  refine enter (args := [.agg #[.string a.Name, I a.Levels], .agg #[.string b.Name, I b.Levels]]) 15 Try.func92 rfl rfl rfl ?_
  refine W_forget [(0, .agg #[.string a.Name, I a.Levels]), (1, .agg #[.string b.Name, I b.Levels])] ⟨rfl, rfl, trivial⟩ fun ρ => ?_
  have X := But.refl emp w
  refine W_seq ?_
  refine W_region ?_
  refine LP_box 0 (cs := [.string a.Name, I a.Levels]) rfl rfl rfl rfl rfl fun b1 wx x ex f => ?_
  refine LP_box 1 (cs := [.string b.Name, I b.Levels]) rfl rfl rfl rfl rfl fun b2 wx3 x4 ex5 f6 => ?_
  refine LP_ev ok 2 [(4, .bool false)] 3 rfl rfl ?_
  refine LP_end _ rfl ?_
  refine W_seq ?_
  refine W_seq ?_
  refine W_region ?_
  refine LP_ev ok 0 [(5, .pointer (some ⟨b1, 0, none⟩))] 1 rfl rfl ?_
  have ex7 := (ex.ext x4)
  refine LP_ldbox 1 (v := .string a.Name) rfl rfl rfl ti_9 ag_9 (fun _ => rfl) rfl ex7 rfl rfl ?_
  refine LP_ev ok 2 [(7, .pointer (some ⟨b2, 0, none⟩))] 3 rfl rfl ?_
  refine LP_ldbox 3 (v := .string b.Name) rfl rfl rfl ti_9 ag_9 (fun _ => rfl) rfl ex5 rfl rfl ?_
  refine LP_ev ok 4 [(9, .bool (!streq a.Name b.Name))] 5 rfl rfl ?_
  refine LP_end _ rfl ?_
  refine W_cond (!streq a.Name b.Name) rfl (fun hc => ?_) (fun hc => ?_)
  · have H := H.1 hc
    refine W_seq ?_
    refine W_region ?_
    refine LP_ev ok 0 [(4, .bool false)] 1 rfl rfl ?_
    refine LP_end _ rfl ?_
    refine W_ret ?_
    have X8 := ((X.stepx x).stepx x4)
    exact ⟨_, Ret_of [.bool false] ⟨⟨rfl, rfl⟩, trivial⟩, _, H, rfl, X8.ext⟩
  have H := H.2 hc
  refine W_skip ?_
  refine W_seq ?_
  refine W_seq ?_
  refine W_region ?_
  refine LP_ev ok 0 [(10, .pointer (some ⟨b1, 1, none⟩))] 1 rfl rfl ?_
  refine LP_ldbox 1 (v := I a.Levels) rfl rfl rfl ti_3 ag_3 (fun _ => rfl) rfl ex7 rfl rfl ?_
  refine LP_ev ok 2 [(12, .pointer (some ⟨b2, 1, none⟩))] 3 rfl rfl ?_
  refine LP_ldbox 3 (v := I b.Levels) rfl rfl rfl ti_3 ag_3 (fun _ => rfl) rfl ex5 rfl rfl ?_
  refine LP_ev ok 4 [(14, .bool (a.Levels != b.Levels))] 5 rfl rfl ?_
  refine LP_end _ rfl ?_
  refine W_cond (a.Levels != b.Levels) rfl (fun hc9 => ?_) (fun hc9 => ?_)
  · have H := H.1 hc9
    refine W_seq ?_
    refine W_region ?_
    refine LP_ev ok 0 [(4, .bool false)] 1 rfl rfl ?_
    refine LP_end _ rfl ?_
    refine W_ret ?_
    have X10 := ((X.stepx x).stepx x4)
    exact ⟨_, Ret_of [.bool false] ⟨⟨rfl, rfl⟩, trivial⟩, _, H, rfl, X10.ext⟩
  have H := H.2 hc9
  refine W_skip ?_
  refine W_seq ?_
  refine W_region ?_
  refine LP_ev ok 0 [(4, .bool true)] 1 rfl rfl ?_
  refine LP_end _ rfl ?_
  refine W_ret ?_
  have X11 := ((X.stepx x).stepx x4)
  exact ⟨_, Ret_of [.bool true] ⟨⟨rfl, rfl⟩, trivial⟩, _, H, rfl, X11.ext⟩

set_option maxRecDepth 8000 in
set_option maxHeartbeats 4000000 in
theorem laws_eqVariableS_w (a : List Variable) (b : List Variable) (Q : Bool → Prop) (H : laws_eqVariableS a b Q) (w : World) {vx : Value} {hx : PH} (r : RS hx vx a) (ex : Sub hx w) {vx2 : Value} {hx3 : PH} (r4 : RS hx3 vx2 b) (ex5 : Sub hx3 w) :
    CallsTo Try.prog 21 #[vx, vx2] w fun v w' => ∃ r0, Q r0 ∧ v = .bool r0 ∧ Ext w w' := by
  obtain ⟨a1, c, rfl⟩ := r.shape
  obtain ⟨a6, c7, rfl⟩ := r4.shape
  refine enter (args := [.slice a1 (List.length a) c, .slice a6 (List.length b) c7]) 27 Try.func21 rfl rfl rfl ?_
  refine W_forget [(0, .slice a1 (List.length a) c), (1, .slice a6 (List.length b) c7)] ⟨rfl, rfl, trivial⟩ fun ρ => ?_
  have X := But.refl emp w
  refine W_seq ?_
  refine W_region ?_
  refine LP_ev ok 0 [(4, .bool false)] 1 rfl rfl ?_
  refine LP_end _ rfl ?_
  refine W_seq ?_
  refine W_seq ?_
  refine W_region ?_
  refine LP_ev ok 0 [(6, .slice a1 (List.length a) c), (7, I (ln a)), (8, .slice a6 (List.length b) c7), (9, I (ln b)), (10, .bool ((ln a) != (ln b)))] 5 rfl rfl ?_
  refine LP_end _ rfl ?_
  refine W_cond ((ln a) != (ln b)) rfl (fun hc => ?_) (fun hc => ?_)
  · have H := H.1 hc
    refine W_seq ?_
    refine W_region ?_
    refine LP_ev ok 0 [(4, .bool false)] 1 rfl rfl ?_
    refine LP_end _ rfl ?_
    refine W_ret ?_
    exact ⟨_, Ret_of [.bool false] ⟨⟨rfl, rfl⟩, trivial⟩, _, H, rfl, X.ext⟩
  have H := H.2 hc
  refine W_skip ?_
  refine W_seq ?_
  refine W_seq ?_
  refine W_region ?_
  refine LP_ev ok 0 [(5, I 0)] 1 rfl rfl ?_
  refine LP_end _ rfl ?_
  refine W_block ?_
  obtain ⟨J, m, Hx, H⟩ := H
  refine W_loop (S := Int) (fun s ρ' w' => J s ∧ ∃ (ρ : Env), ρ' = setAll [(0, .slice a1 (List.length a) c), (1, .slice a6 (List.length b) c7), (5, I s)] ρ ∧ But emp w w' ∧ Sub hx w' ∧ Sub hx3 w') (fun s => m s) 0 ⟨Hx, _, env_eq ⟨rfl, rfl, rfl, trivial⟩, X, ex, ex5⟩ ?_
  rintro i _ wx ⟨Hi, ρ, rfl, X10, ex8, ex9⟩
  have H := H i Hi
  refine W_seq ?_
  refine W_seq ?_
  refine W_region ?_
  refine LP_ev ok 0 [(11, I i), (12, .slice a1 (List.length a) c), (13, I (ln a)), (14, .bool (decide (i < (ln a))))] 4 rfl rfl ?_
  refine LP_end _ rfl ?_
  refine W_cond (decide (i < (ln a))) rfl (fun hc11 => ?_) (fun hc11 => ?_)
  · have H := H.1 hc11
    refine W_skip ?_
    refine W_seq ?_
    refine W_block ?_
    refine W_seq ?_
    refine W_quiet mix (by kernel_rfl) ?_
    refine QP_ev ok 0 [(17, .slice a1 (List.length a) c), (18, I i)] 2 rfl rfl ?_
    obtain ⟨x, hi, hx12, H⟩ := H
    refine QP_index 2 rfl rfl rfl Try.underlying29 ti_107 rfl rfl r hi hx12 fun a13 cs r14 d => ?_
    refine QP_load 3 rfl rfl rfl ti_107 ag_107 rfl r14 d ex8 fun vx15 r16 => ?_
    obtain rfl := Variable_rv r16
    refine QP_ev ok 4 [(21, .slice a6 (List.length b) c7), (22, I i)] 6 rfl rfl ?_
    obtain ⟨x17, hi18, hx19, H⟩ := H
    refine QP_index 6 rfl rfl rfl Try.underlying29 ti_107 rfl rfl r4 hi18 hx19 fun a20 cs21 r22 d23 => ?_
    refine QP_load 7 rfl rfl rfl ti_107 ag_107 rfl r22 d23 ex9 fun vx24 r25 => ?_
    obtain rfl := Variable_rv r25
    obtain ⟨r26, Hd, H⟩ := H
    refine QP_call (.bool r26) 8 rfl rfl rfl cal_92 rfl (fun wx27 x28 => (laws_eqVariable_w _ _ _ Hd wx27 ).mono ?_) ?_
    · rintro _ _ ⟨_, rfl, rfl, x⟩; exact ⟨rfl, x⟩
    refine QP_ev ok 9 [(26, .bool (!r26))] 10 rfl rfl ?_
    refine QP_end _ rfl fun wx29 x30 => ?_
    refine W_cond (!r26) rfl (fun hc31 => ?_) (fun hc31 => ?_)
    · have H := H.1 hc31
      refine W_seq ?_
      refine W_region ?_
      refine LP_ev ok 0 [(4, .bool false)] 1 rfl rfl ?_
      refine LP_end _ rfl ?_
      refine W_ret ?_
      have X32 := (X10.stepx x30)
      exact ⟨_, Ret_of [.bool false] ⟨⟨rfl, rfl⟩, trivial⟩, _, H, rfl, X32.ext⟩
    have H := H.2 hc31
    refine W_skip ?_
    refine W_region ?_
    refine LP_ev ok 0 [(15, I i), (16, I (wr (i + 1))), (5, I (wr (i + 1)))] 3 rfl rfl ?_
    refine LP_end _ rfl ?_
    have X33 := (X10.stepx x30)
    have ex34 := (ex8.ext x30)
    have ex35 := (ex9.ext x30)
    exact ⟨wr (i + 1), ⟨H.1, _, env_eq ⟨rfl, rfl, rfl, trivial⟩, X33, ex34, ex35⟩, H.2⟩
  have H := H.2 hc11
  refine W_exit ?_
  refine (if_pos rfl).mpr ?_
  refine W_seq ?_
  refine W_region ?_
  refine LP_ev ok 0 [(4, .bool true)] 1 rfl rfl ?_
  refine LP_end _ rfl ?_
  refine W_ret ?_
  exact ⟨_, Ret_of [.bool true] ⟨⟨rfl, rfl⟩, trivial⟩, _, H, rfl, X10.ext⟩

set_option maxRecDepth 8000 in
set_option maxHeartbeats 4000000 in
theorem laws_eqIntS_w (a : List Int) (b : List Int) (Q : Bool → Prop) (H : laws_eqIntS a b Q) (w : World) {vx : Value} {hx : PH} (r : RS hx vx a) (ex : Sub hx w) {vx2 : Value} {hx3 : PH} (r4 : RS hx3 vx2 b) (ex5 : Sub hx3 w) :
    CallsTo Try.prog 23 #[vx, vx2] w fun v w' => ∃ r0, Q r0 ∧ v = .bool r0 ∧ Ext w w' := by
  obtain ⟨a1, c, rfl⟩ := r.shape
  obtain ⟨a6, c7, rfl⟩ := r4.shape
  refine enter (args := [.slice a1 (List.length a) c, .slice a6 (List.length b) c7]) 26 Try.func23 rfl rfl rfl ?_
  refine W_forget [(0, .slice a1 (List.length a) c), (1, .slice a6 (List.length b) c7)] ⟨rfl, rfl, trivial⟩ fun ρ => ?_
  have X := But.refl emp w
  refine W_seq ?_
  refine W_region ?_
  refine LP_ev ok 0 [(4, .bool false)] 1 rfl rfl ?_
  refine LP_end _ rfl ?_
  refine W_seq ?_
  refine W_seq ?_
  refine W_region ?_
  refine LP_ev ok 0 [(6, .slice a1 (List.length a) c), (7, I (ln a)), (8, .slice a6 (List.length b) c7), (9, I (ln b)), (10, .bool ((ln a) != (ln b)))] 5 rfl rfl ?_
  refine LP_end _ rfl ?_
  refine W_cond ((ln a) != (ln b)) rfl (fun hc => ?_) (fun hc => ?_)
  · have H := H.1 hc
    refine W_seq ?_
    refine W_region ?_
    refine LP_ev ok 0 [(4, .bool false)] 1 rfl rfl ?_
    refine LP_end _ rfl ?_
    refine W_ret ?_
    exact ⟨_, Ret_of [.bool false] ⟨⟨rfl, rfl⟩, trivial⟩, _, H, rfl, X.ext⟩
  have H := H.2 hc
  refine W_skip ?_
  refine W_seq ?_
  refine W_seq ?_
  refine W_region ?_
  refine LP_ev ok 0 [(5, I 0)] 1 rfl rfl ?_
  refine LP_end _ rfl ?_
  refine W_block ?_
  obtain ⟨J, m, Hx, H⟩ := H
  refine W_loop (S := Int) (fun s ρ' w' => J s ∧ ∃ (ρ : Env), ρ' = setAll [(0, .slice a1 (List.length a) c), (1, .slice a6 (List.length b) c7), (5, I s)] ρ ∧ But emp w w' ∧ Sub hx w' ∧ Sub hx3 w') (fun s => m s) 0 ⟨Hx, _, env_eq ⟨rfl, rfl, rfl, trivial⟩, X, ex, ex5⟩ ?_
  rintro i _ wx ⟨Hi, ρ, rfl, X10, ex8, ex9⟩
  have H := H i Hi
  refine W_seq ?_
  refine W_seq ?_
  refine W_region ?_
  refine LP_ev ok 0 [(11, I i), (12, .slice a1 (List.length a) c), (13, I (ln a)), (14, .bool (decide (i < (ln a))))] 4 rfl rfl ?_
  refine LP_end _ rfl ?_
  refine W_cond (decide (i < (ln a))) rfl (fun hc11 => ?_) (fun hc11 => ?_)
  · have H := H.1 hc11
    refine W_skip ?_
    refine W_seq ?_
    refine W_block ?_
    refine W_seq ?_
    refine W_quiet mix (by kernel_rfl) ?_
    refine QP_ev ok 0 [(17, .slice a1 (List.length a) c), (18, I i)] 2 rfl rfl ?_
    obtain ⟨x, hi, hx12, H⟩ := H
    refine QP_index 2 rfl rfl rfl Try.underlying24 ti_3 rfl rfl r hi hx12 fun a13 cs r14 d => ?_
    refine QP_load 3 rfl rfl rfl ti_3 ag_3 rfl r14 d ex8 fun vx15 r16 => ?_
    obtain rfl := r16.int
    refine QP_ev ok 4 [(21, .slice a6 (List.length b) c7), (22, I i)] 6 rfl rfl ?_
    obtain ⟨x17, hi18, hx19, H⟩ := H
    refine QP_index 6 rfl rfl rfl Try.underlying24 ti_3 rfl rfl r4 hi18 hx19 fun a20 cs21 r22 d23 => ?_
    refine QP_load 7 rfl rfl rfl ti_3 ag_3 rfl r22 d23 ex9 fun vx24 r25 => ?_
    obtain rfl := r25.int
    refine QP_ev ok 8 [(25, .bool (x != x17))] 9 rfl rfl ?_
    refine QP_end _ rfl fun wx26 x27 => ?_
    refine W_cond (x != x17) rfl (fun hc28 => ?_) (fun hc28 => ?_)
    · have H := H.1 hc28
      refine W_seq ?_
      refine W_region ?_
      refine LP_ev ok 0 [(4, .bool false)] 1 rfl rfl ?_
      refine LP_end _ rfl ?_
      refine W_ret ?_
      have X29 := (X10.stepx x27)
      exact ⟨_, Ret_of [.bool false] ⟨⟨rfl, rfl⟩, trivial⟩, _, H, rfl, X29.ext⟩
    have H := H.2 hc28
    refine W_skip ?_
    refine W_region ?_
    refine LP_ev ok 0 [(15, I i), (16, I (wr (i + 1))), (5, I (wr (i + 1)))] 3 rfl rfl ?_
    refine LP_end _ rfl ?_
    have X30 := (X10.stepx x27)
    have ex31 := (ex8.ext x27)
    have ex32 := (ex9.ext x27)
    exact ⟨wr (i + 1), ⟨H.1, _, env_eq ⟨rfl, rfl, rfl, trivial⟩, X30, ex31, ex32⟩, H.2⟩
  have H := H.2 hc11
  refine W_exit ?_
  refine (if_pos rfl).mpr ?_
  refine W_seq ?_
  refine W_region ?_
  refine LP_ev ok 0 [(4, .bool true)] 1 rfl rfl ?_
  refine LP_end _ rfl ?_
  refine W_ret ?_
  exact ⟨_, Ret_of [.bool true] ⟨⟨rfl, rfl⟩, trivial⟩, _, H, rfl, X10.ext⟩

set_option maxRecDepth 8000 in
set_option maxHeartbeats 4000000 in
theorem laws_eqEdit_w (a : Edit) (b : Edit) (Q : Bool → Prop) (H : laws_eqEdit a b Q) (w : World) {vx : Value} {hx : PH} (r : RS hx vx a.Sets) (ex : Sub hx w) {vx2 : Value} {hx3 : PH} (r4 : RS hx3 vx2 b.Sets) (ex5 : Sub hx3 w) :
    CallsTo Try.prog 93 #[.agg #[vx], .agg #[vx2]] w fun v w' => ∃ r0, Q r0 ∧ v = .bool r0 ∧ Ext w w' := by
  obtain ⟨a1, c, rfl⟩ := r.shape
  obtain ⟨a6, c7, rfl⟩ := r4.shape
  refine enter (args := [.agg #[.slice a1 (List.length a.Sets) c], .agg #[.slice a6 (List.length b.Sets) c7]]) 11 Try.func93 rfl rfl rfl ?_
  refine W_forget [(0, .agg #[.slice a1 (List.length a.Sets) c]), (1, .agg #[.slice a6 (List.length b.Sets) c7])] ⟨rfl, rfl, trivial⟩ fun ρ => ?_
  have X := But.refl emp w
  refine W_seq ?_
  refine W_region ?_
  refine LP_box 0 (cs := [.slice a1 (List.length a.Sets) c]) rfl rfl rfl rfl rfl fun b8 wx x ex9 f => ?_
  refine LP_box 1 (cs := [.slice a6 (List.length b.Sets) c7]) rfl rfl rfl rfl rfl fun b10 wx11 x12 ex13 f14 => ?_
  refine LP_ev ok 2 [(4, .bool false)] 3 rfl rfl ?_
  refine LP_end _ rfl ?_
  refine W_seq ?_
  refine W_seq ?_
  refine W_region ?_
  refine LP_ev ok 0 [(5, .pointer (some ⟨b8, 0, none⟩))] 1 rfl rfl ?_
  have ex15 := (ex9.ext x12)
  refine LP_ldbox 1 (v := .slice a1 (List.length a.Sets) c) rfl rfl rfl ti_24 ag_24 (fun _ => rfl) rfl ex15 rfl rfl ?_
  refine LP_ev ok 2 [(7, .pointer (some ⟨b10, 0, none⟩))] 3 rfl rfl ?_
  refine LP_ldbox 3 (v := .slice a6 (List.length b.Sets) c7) rfl rfl rfl ti_24 ag_24 (fun _ => rfl) rfl ex13 rfl rfl ?_
  have ex17 := ((ex.ext x).ext x12)
  have ex18 := ((ex5.ext x).ext x12)
  refine LP_call 4 rfl rfl rfl cal_23 rfl (laws_eqIntS_w _ _ _ H wx11 r ex17 r4 ex18) ?_
  rintro _ wx19 ⟨r16, H, rfl, x20⟩
  refine LP_ev ok 5 [(10, .bool (!r16))] 6 rfl rfl ?_
  refine LP_end _ rfl ?_
  refine W_cond (!r16) rfl (fun hc => ?_) (fun hc => ?_)
  · have H := H.1 hc
    refine W_seq ?_
    refine W_region ?_
    refine LP_ev ok 0 [(4, .bool false)] 1 rfl rfl ?_
    refine LP_end _ rfl ?_
    refine W_ret ?_
    have X21 := (((X.stepx x).stepx x12).stepx x20)
    exact ⟨_, Ret_of [.bool false] ⟨⟨rfl, rfl⟩, trivial⟩, _, H, rfl, X21.ext⟩
  have H := H.2 hc
  refine W_skip ?_
  refine W_seq ?_
  refine W_region ?_
  refine LP_ev ok 0 [(4, .bool true)] 1 rfl rfl ?_
  refine LP_end _ rfl ?_
  refine W_ret ?_
  have X22 := (((X.stepx x).stepx x12).stepx x20)
  exact ⟨_, Ret_of [.bool true] ⟨⟨rfl, rfl⟩, trivial⟩, _, H, rfl, X22.ext⟩

set_option maxRecDepth 8000 in
set_option maxHeartbeats 4000000 in
theorem laws_eqEditS_w (a : List Edit) (b : List Edit) (Q : Bool → Prop) (H : laws_eqEditS a b Q) (w : World) {vx : Value} {hx : PH} (r : RS hx vx a) (ex : Sub hx w) {vx2 : Value} {hx3 : PH} (r4 : RS hx3 vx2 b) (ex5 : Sub hx3 w) :
    CallsTo Try.prog 22 #[vx, vx2] w fun v w' => ∃ r0, Q r0 ∧ v = .bool r0 ∧ Ext w w' := by
  obtain ⟨a1, c, rfl⟩ := r.shape
  obtain ⟨a6, c7, rfl⟩ := r4.shape
  refine enter (args := [.slice a1 (List.length a) c, .slice a6 (List.length b) c7]) 27 Try.func22 rfl rfl rfl ?_
  refine W_forget [(0, .slice a1 (List.length a) c), (1, .slice a6 (List.length b) c7)] ⟨rfl, rfl, trivial⟩ fun ρ => ?_
  have X := But.refl emp w
  refine W_seq ?_
  refine W_region ?_
  refine LP_ev ok 0 [(4, .bool false)] 1 rfl rfl ?_
  refine LP_end _ rfl ?_
  refine W_seq ?_
  refine W_seq ?_
  refine W_region ?_
  refine LP_ev ok 0 [(6, .slice a1 (List.length a) c), (7, I (ln a)), (8, .slice a6 (List.length b) c7), (9, I (ln b)), (10, .bool ((ln a) != (ln b)))] 5 rfl rfl ?_
  refine LP_end _ rfl ?_
  refine W_cond ((ln a) != (ln b)) rfl (fun hc => ?_) (fun hc => ?_)
  · have H := H.1 hc
    refine W_seq ?_
    refine W_region ?_
    refine LP_ev ok 0 [(4, .bool false)] 1 rfl rfl ?_
    refine LP_end _ rfl ?_
    refine W_ret ?_
    exact ⟨_, Ret_of [.bool false] ⟨⟨rfl, rfl⟩, trivial⟩, _, H, rfl, X.ext⟩
  have H := H.2 hc
  refine W_skip ?_
  refine W_seq ?_
  refine W_seq ?_
  refine W_region ?_
  refine LP_ev ok 0 [(5, I 0)] 1 rfl rfl ?_
  refine LP_end _ rfl ?_
  refine W_block ?_
  obtain ⟨J, m, Hx, H⟩ := H
  refine W_loop (S := Int) (fun s ρ' w' => J s ∧ ∃ (ρ : Env), ρ' = setAll [(0, .slice a1 (List.length a) c), (1, .slice a6 (List.length b) c7), (5, I s)] ρ ∧ But emp w w' ∧ Sub hx w' ∧ Sub hx3 w') (fun s => m s) 0 ⟨Hx, _, env_eq ⟨rfl, rfl, rfl, trivial⟩, X, ex, ex5⟩ ?_
  rintro i _ wx ⟨Hi, ρ, rfl, X10, ex8, ex9⟩
  have H := H i Hi
  refine W_seq ?_
  refine W_seq ?_
  refine W_region ?_
  refine LP_ev ok 0 [(11, I i), (12, .slice a1 (List.length a) c), (13, I (ln a)), (14, .bool (decide (i < (ln a))))] 4 rfl rfl ?_
  refine LP_end _ rfl ?_
  refine W_cond (decide (i < (ln a))) rfl (fun hc11 => ?_) (fun hc11 => ?_)
  · have H := H.1 hc11
    refine W_skip ?_
    refine W_seq ?_
    refine W_block ?_
    refine W_seq ?_
    refine W_quiet mix (by kernel_rfl) ?_
    refine QP_ev ok 0 [(17, .slice a1 (List.length a) c), (18, I i)] 2 rfl rfl ?_
    obtain ⟨x, hi, hx12, H⟩ := H
    refine QP_index 2 rfl rfl rfl Try.underlying31 ti_50 rfl rfl r hi hx12 fun a13 cs r14 d => ?_
    have d15 := d
    obtain ⟨u, rfl, r16⟩ := Edit_rd d15
    obtain ⟨a17, c18, rfl⟩ := r16.shape
    refine QP_load 3 rfl rfl rfl ti_50 ag_50 rfl r14 d ex8 fun vx19 r20 => ?_
    obtain ⟨u21, rfl, r22⟩ := Edit_rv r20
    obtain ⟨a23, c24, rfl⟩ := r22.shape
    refine QP_ev ok 4 [(21, .slice a6 (List.length b) c7), (22, I i)] 6 rfl rfl ?_
    obtain ⟨x25, hi26, hx27, H⟩ := H
    refine QP_index 6 rfl rfl rfl Try.underlying31 ti_50 rfl rfl r4 hi26 hx27 fun a28 cs29 r30 d31 => ?_
    have d32 := d31
    obtain ⟨u33, rfl, r34⟩ := Edit_rd d32
    obtain ⟨a35, c36, rfl⟩ := r34.shape
    refine QP_load 7 rfl rfl rfl ti_50 ag_50 rfl r30 d31 ex9 fun vx37 r38 => ?_
    obtain ⟨u39, rfl, r40⟩ := Edit_rv r38
    obtain ⟨a41, c42, rfl⟩ := r40.shape
    obtain ⟨r43, Hd, H⟩ := H
    refine QP_call (.bool r43) 8 rfl rfl rfl cal_93 rfl (fun wx44 x45 => (laws_eqEdit_w _ _ _ Hd wx44 r22 (ex8.ext x45) r40 (ex9.ext x45)).mono ?_) ?_
    · rintro _ _ ⟨_, rfl, rfl, x⟩; exact ⟨rfl, x⟩
    refine QP_ev ok 9 [(26, .bool (!r43))] 10 rfl rfl ?_
    refine QP_end _ rfl fun wx46 x47 => ?_
    refine W_cond (!r43) rfl (fun hc48 => ?_) (fun hc48 => ?_)
    · have H := H.1 hc48
      refine W_seq ?_
      refine W_region ?_
      refine LP_ev ok 0 [(4, .bool false)] 1 rfl rfl ?_
      refine LP_end _ rfl ?_
      refine W_ret ?_
      have X49 := (X10.stepx x47)
      exact ⟨_, Ret_of [.bool false] ⟨⟨rfl, rfl⟩, trivial⟩, _, H, rfl, X49.ext⟩
    have H := H.2 hc48
    refine W_skip ?_
    refine W_region ?_
    refine LP_ev ok 0 [(15, I i), (16, I (wr (i + 1))), (5, I (wr (i + 1)))] 3 rfl rfl ?_
    refine LP_end _ rfl ?_
    have X50 := (X10.stepx x47)
    have ex51 := (ex8.ext x47)
    have ex52 := (ex9.ext x47)
    exact ⟨wr (i + 1), ⟨H.1, _, env_eq ⟨rfl, rfl, rfl, trivial⟩, X50, ex51, ex52⟩, H.2⟩
  have H := H.2 hc11
  refine W_exit ?_
  refine (if_pos rfl).mpr ?_
  refine W_seq ?_
  refine W_region ?_
  refine LP_ev ok 0 [(4, .bool true)] 1 rfl rfl ?_
  refine LP_end _ rfl ?_
  refine W_ret ?_
  exact ⟨_, Ret_of [.bool true] ⟨⟨rfl, rfl⟩, trivial⟩, _, H, rfl, X10.ext⟩

set_option maxRecDepth 8000 in
set_option maxHeartbeats 4000000 in
theorem laws_FnExactIsCover_w (aS : List Variable) (aL : List Edit) (aValues : List Int) (aVars : List Int) (Q : Bool → Prop) (H : laws_FnExactIsCover aS aL aValues aVars Q) (w : World) {vx : Value} {hx : PH} (r : RS hx vx aS) (ex : Sub hx w) {vx1 : Value} {hx2 : PH} (r3 : RS hx2 vx1 aL) (ex4 : Sub hx2 w) {vx7 : Value} {hx8 : PH} (r9 : RS hx8 vx7 aValues) (ex10 : Sub hx8 w) {vx13 : Value} {hx14 : PH} (r15 : RS hx14 vx13 aVars) (ex16 : Sub hx14 w) :
    CallsTo Try.prog 3 #[vx, vx1, vx7, vx13] w fun v w' => ∃ r0, Q r0 ∧ v = .bool r0 ∧ Ext w w' := by
  obtain ⟨a, c, rfl⟩ := r.shape
  obtain ⟨a5, c6, rfl⟩ := r3.shape
  obtain ⟨a11, c12, rfl⟩ := r9.shape
  obtain ⟨a17, c18, rfl⟩ := r15.shape
  refine enter (args := [.slice a (List.length aS) c, .slice a5 (List.length aL) c6, .slice a11 (List.length aValues) c12, .slice a17 (List.length aVars) c18]) 90 Try.func3 rfl rfl rfl ?_
  refine W_forget [(0, .slice a (List.length aS) c), (1, .slice a5 (List.length aL) c6), (2, .slice a11 (List.length aValues) c12), (3, .slice a17 (List.length aVars) c18)] ⟨rfl, rfl, rfl, rfl, trivial⟩ fun ρ => ?_
  have X := But.refl emp w
  refine W_seq ?_
  refine W_region ?_
  refine LP_ev ok 0 [(8, .bool false)] 1 rfl rfl ?_
  refine LP_end _ rfl ?_
  refine W_seq ?_
  refine W_seq ?_
  refine W_region ?_
  refine LP_ev ok 0 [(18, .slice a11 (List.length aValues) c12), (19, I (ln aValues)), (20, .bool (decide ((ln aValues) > 1048576)))] 3 rfl rfl ?_
  refine LP_end _ rfl ?_
  refine W_cond (decide ((ln aValues) > 1048576)) rfl (fun hc => ?_) (fun hc => ?_)
  · have H := H.1 hc
    refine W_seq ?_
    refine W_region ?_
    refine LP_ev ok 0 [(8, .bool true)] 1 rfl rfl ?_
    refine LP_end _ rfl ?_
    refine W_ret ?_
    exact ⟨_, Ret_of [.bool true] ⟨⟨rfl, rfl⟩, trivial⟩, _, H, rfl, X.ext⟩
  have H := H.2 hc
  refine W_skip ?_
  refine W_seq ?_
  refine W_seq ?_
  refine W_region ?_
  refine LP_ev ok 0 [(21, .slice a17 (List.length aVars) c18), (22, I (ln aVars)), (23, .bool (decide ((ln aVars) > 1048576)))] 3 rfl rfl ?_
  refine LP_end _ rfl ?_
  refine W_cond (decide ((ln aVars) > 1048576)) rfl (fun hc19 => ?_) (fun hc19 => ?_)
  · have H := H.1 hc19
    refine W_seq ?_
    refine W_region ?_
    refine LP_ev ok 0 [(8, .bool true)] 1 rfl rfl ?_
    refine LP_end _ rfl ?_
    refine W_ret ?_
    exact ⟨_, Ret_of [.bool true] ⟨⟨rfl, rfl⟩, trivial⟩, _, H, rfl, X.ext⟩
  have H := H.2 hc19
  refine W_skip ?_
  refine W_seq ?_
  refine W_region ?_
  refine LP_ev ok 0 [(9, I 1048576)] 1 rfl rfl ?_
  refine LP_end _ rfl ?_
  refine W_seq ?_
  refine W_region ?_
  refine LP_ev ok 0 [(24, .slice a (List.length aS) c), (25, I 1048576)] 2 rfl rfl ?_
  refine LP_call 2 rfl rfl rfl cal_14 rfl (laws_szVariableS_w _ _ _ H w r ex) ?_
  rintro _ wx ⟨r20, H, rfl, x⟩
  refine LP_ev ok 3 [(9, I r20)] 4 rfl rfl ?_
  refine LP_end _ rfl ?_
  refine W_seq ?_
  refine W_seq ?_
  refine W_region ?_
  refine LP_ev ok 0 [(27, I r20), (28, .bool (decide (r20 < 0)))] 2 rfl rfl ?_
  refine LP_end _ rfl ?_
  refine W_cond (decide (r20 < 0)) rfl (fun hc21 => ?_) (fun hc21 => ?_)
  · have H := H.1 hc21
    refine W_seq ?_
    refine W_region ?_
    refine LP_ev ok 0 [(8, .bool true)] 1 rfl rfl ?_
    refine LP_end _ rfl ?_
    refine W_ret ?_
    have X22 := (X.stepx x)
    exact ⟨_, Ret_of [.bool true] ⟨⟨rfl, rfl⟩, trivial⟩, _, H, rfl, X22.ext⟩
  have H := H.2 hc21
  refine W_skip ?_
  refine W_seq ?_
  refine W_region ?_
  refine LP_ev ok 0 [(29, .slice a5 (List.length aL) c6), (30, I r20)] 2 rfl rfl ?_
  have ex24 := (ex4.ext x)
  refine LP_call 2 rfl rfl rfl cal_15 rfl (laws_szEditS_w _ _ _ H wx r3 ex24) ?_
  rintro _ wx25 ⟨r23, H, rfl, x26⟩
  refine LP_ev ok 3 [(9, I r23)] 4 rfl rfl ?_
  refine LP_end _ rfl ?_
  refine W_seq ?_
  refine W_seq ?_
  refine W_region ?_
  refine LP_ev ok 0 [(32, I r23), (33, .bool (decide (r23 < 0)))] 2 rfl rfl ?_
  refine LP_end _ rfl ?_
  refine W_cond (decide (r23 < 0)) rfl (fun hc27 => ?_) (fun hc27 => ?_)
  · have H := H.1 hc27
    refine W_seq ?_
    refine W_region ?_
    refine LP_ev ok 0 [(8, .bool true)] 1 rfl rfl ?_
    refine LP_end _ rfl ?_
    refine W_ret ?_
    have X28 := ((X.stepx x).stepx x26)
    exact ⟨_, Ret_of [.bool true] ⟨⟨rfl, rfl⟩, trivial⟩, _, H, rfl, X28.ext⟩
  have H := H.2 hc27
  refine W_skip ?_
  refine W_seq ?_
  refine W_region ?_
  refine LP_ev ok 0 [(35, .slice a (List.length aS) c)] 1 rfl rfl ?_
  have ex30 := ((ex.ext x).ext x26)
  refine LP_call 1 rfl rfl rfl cal_17 rfl (laws_toVariableS_w _ _ H wx25 r ex30) ?_
  rintro _ wx31 ⟨r29, vx33, hx34, H, rfl, x32, o, ex35, f⟩
  obtain ⟨a36, c37, rfl⟩ := o.shape
  refine LP_ev ok 2 [(37, .slice a5 (List.length aL) c6)] 3 rfl rfl ?_
  have ex39 := ((ex24.ext x26).ext x32)
  refine LP_call 3 rfl rfl rfl cal_18 rfl (laws_toEditS_w _ _ H wx31 r3 ex39) ?_
  rintro _ wx40 ⟨r38, vx42, hx43, H, rfl, x41, o44, ex45, f46⟩
  obtain ⟨a47, c48, rfl⟩ := o44.shape
  refine LP_ev ok 4 [(39, .slice a11 (List.length aValues) c12)] 5 rfl rfl ?_
  have ex50 := ((((ex10.ext x).ext x26).ext x32).ext x41)
  refine LP_call 5 rfl rfl rfl cal_19 rfl (laws_toIntS_w _ _ H wx40 r9 ex50) ?_
  rintro _ wx51 ⟨r49, vx53, hx54, H, rfl, x52, o55, ex56, f57⟩
  obtain ⟨a58, c59, rfl⟩ := o55.shape
  refine LP_ev ok 6 [(41, .slice a17 (List.length aVars) c18)] 7 rfl rfl ?_
  have ex61 := (((((ex16.ext x).ext x26).ext x32).ext x41).ext x52)
  refine LP_call 7 rfl rfl rfl cal_19 rfl (laws_toIntS_w _ _ H wx51 r15 ex61) ?_
  rintro _ wx62 ⟨r60, vx64, hx65, H, rfl, x63, o66, ex67, f68⟩
  obtain ⟨a69, c70, rfl⟩ := o66.shape
  have ex73 := (((ex35.ext x41).ext x52).ext x63)
  have ex74 := ((ex45.ext x52).ext x63)
  have ex75 := (ex56.ext x63)
  refine LP_call 8 rfl rfl rfl cal_16 rfl (spec_IsCover_w _ _ _ _ _ H wx62 o.readf ex73 o44.readf ex74 o55.readf ex75 o66.readf ex67) ?_
  rintro _ wx76 ⟨r71, r72, H, rfl, x77⟩
  refine LP_ev ok 9 [(34, .tuple #[.bool r71, .bool r72]), (44, .bool r71), (45, .bool r72), (10, .bool r71), (11, .bool r72)] 14 rfl rfl ?_
  refine LP_end _ rfl ?_
  try refine W_forget [(0, .slice a (List.length aS) c), (1, .slice a5 (List.length aL) c6), (2, .slice a11 (List.length aValues) c12), (3, .slice a17 (List.length aVars) c18), (10, .bool r71), (11, .bool r72)] ⟨rfl, rfl, rfl, rfl, rfl, rfl, trivial⟩ fun ρ => ?_
  refine W_seq ?_
  refine W_region ?_
  refine LP_ev ok 0 [(46, .slice a (List.length aS) c)] 1 rfl rfl ?_
  have ex79 := (((((ex30.ext x32).ext x41).ext x52).ext x63).ext x77)
  refine LP_call 1 rfl rfl rfl cal_17 rfl (laws_toVariableS_w _ _ H wx76 r ex79) ?_
  rintro _ wx80 ⟨r78, vx82, hx83, H, rfl, x81, o84, ex85, f86⟩
  obtain ⟨a87, c88, rfl⟩ := o84.shape
  refine LP_ev ok 2 [(12, .slice a87 (List.length r78) c88)] 3 rfl rfl ?_
  refine LP_end _ rfl ?_
  refine W_seq ?_
  refine W_region ?_
  refine LP_ev ok 0 [(48, .slice a5 (List.length aL) c6)] 1 rfl rfl ?_
  have ex90 := (((((ex39.ext x41).ext x52).ext x63).ext x77).ext x81)
  refine LP_call 1 rfl rfl rfl cal_18 rfl (laws_toEditS_w _ _ H wx80 r3 ex90) ?_
  rintro _ wx91 ⟨r89, vx93, hx94, H, rfl, x92, o95, ex96, f97⟩
  obtain ⟨a98, c99, rfl⟩ := o95.shape
  refine LP_ev ok 2 [(13, .slice a98 (List.length r89) c99)] 3 rfl rfl ?_
  refine LP_end _ rfl ?_
  refine W_seq ?_
  refine W_region ?_
  refine LP_ev ok 0 [(50, .slice a11 (List.length aValues) c12)] 1 rfl rfl ?_
  have ex101 := (((((ex50.ext x52).ext x63).ext x77).ext x81).ext x92)
  refine LP_call 1 rfl rfl rfl cal_19 rfl (laws_toIntS_w _ _ H wx91 r9 ex101) ?_
  rintro _ wx102 ⟨r100, vx104, hx105, H, rfl, x103, o106, ex107, f108⟩
  obtain ⟨a109, c110, rfl⟩ := o106.shape
  refine LP_ev ok 2 [(14, .slice a109 (List.length r100) c110)] 3 rfl rfl ?_
  refine LP_end _ rfl ?_
  refine W_seq ?_
  refine W_region ?_
  refine LP_ev ok 0 [(52, .slice a17 (List.length aVars) c18)] 1 rfl rfl ?_
  have ex112 := (((((ex61.ext x63).ext x77).ext x81).ext x92).ext x103)
  refine LP_call 1 rfl rfl rfl cal_19 rfl (laws_toIntS_w _ _ H wx102 r15 ex112) ?_
  rintro _ wx113 ⟨r111, vx115, hx116, H, rfl, x114, o117, ex118, f119⟩
  obtain ⟨a120, c121, rfl⟩ := o117.shape
  refine LP_ev ok 2 [(15, .slice a120 (List.length r111) c121)] 3 rfl rfl ?_
  refine LP_end _ rfl ?_
  refine W_seq ?_
  refine W_region ?_
  refine LP_ev ok 0 [(55, .slice a87 (List.length r78) c88), (56, .slice a98 (List.length r89) c99), (57, .slice a109 (List.length r100) c110), (58, .slice a120 (List.length r111) c121)] 4 rfl rfl ?_
  have ex124 := (((ex85.ext x92).ext x103).ext x114)
  have ex125 := ((ex96.ext x103).ext x114)
  have ex126 := (ex107.ext x114)
  refine LP_call 4 rfl rfl rfl cal_20 rfl (impl_IsCover_w _ _ _ _ _ H wx113 o84.readf ex124 o95.readf ex125 o106.readf ex126 o117.readf ex118) ?_
  rintro _ wx127 ⟨r122, r123, H, rfl, x128⟩
  refine LP_ev ok 5 [(54, .tuple #[.bool r122, .bool r123]), (60, .bool r122), (61, .bool r123), (16, .bool r122), (17, .bool r123)] 10 rfl rfl ?_
  refine LP_end _ rfl ?_
  refine W_seq ?_
  obtain ⟨k, hk, H⟩ := jn_elim H
  refine W_join2 (S := Bool) (fun s ρ' w' => k s ∧ ∃ (ρ : Env), ρ' = setAll [(0, .slice a (List.length aS) c), (1, .slice a5 (List.length aL) c6), (2, .slice a11 (List.length aValues) c12), (3, .slice a17 (List.length aVars) c18), (12, .slice a87 (List.length r78) c88), (13, .slice a98 (List.length r89) c99), (14, .slice a109 (List.length r100) c110), (15, .slice a120 (List.length r111) c121), (69, .bool s)] ρ ∧ wx127 = w') ?_ ?_
  · refine W_region ?_
    refine LP_ev ok 0 [(62, .bool r122), (63, .bool r71), (64, .bool (r122 != r71)), (65, .bool (r122 != r71))] 4 rfl rfl ?_
    refine LP_split 65 (r122 != r71) rfl (fun hc131 => ?_) (fun hc131 => ?_)
    · have H := H.1 hc131
      refine LP_ev ok 4 [(66, undef), (67, undef), (68, undef), (69, .bool true)] 8 rfl rfl ?_
      refine LP_end _ rfl ?_
      try refine W_forget [(0, .slice a (List.length aS) c), (1, .slice a5 (List.length aL) c6), (2, .slice a11 (List.length aValues) c12), (3, .slice a17 (List.length aVars) c18), (12, .slice a87 (List.length r78) c88), (13, .slice a98 (List.length r89) c99), (14, .slice a109 (List.length r100) c110), (15, .slice a120 (List.length r111) c121), (69, .bool true)] ⟨rfl, rfl, rfl, rfl, rfl, rfl, rfl, rfl, rfl, trivial⟩ fun ρ => ?_
      exact ⟨true, H, _, env_eq ⟨rfl, rfl, rfl, rfl, rfl, rfl, rfl, rfl, rfl, trivial⟩, rfl⟩
    have H := H.2 hc131
    refine LP_ev ok 4 [(66, .bool r123), (67, .bool r72), (68, .bool (r123 != r72)), (69, .bool (r123 != r72))] 8 rfl rfl ?_
    refine LP_end _ rfl ?_
    try refine W_forget [(0, .slice a (List.length aS) c), (1, .slice a5 (List.length aL) c6), (2, .slice a11 (List.length aValues) c12), (3, .slice a17 (List.length aVars) c18), (12, .slice a87 (List.length r78) c88), (13, .slice a98 (List.length r89) c99), (14, .slice a109 (List.length r100) c110), (15, .slice a120 (List.length r111) c121), (69, .bool (r123 != r72))] ⟨rfl, rfl, rfl, rfl, rfl, rfl, rfl, rfl, rfl, trivial⟩ fun ρ => ?_
    exact ⟨r123 != r72, H, _, env_eq ⟨rfl, rfl, rfl, rfl, rfl, rfl, rfl, rfl, rfl, trivial⟩, rfl⟩
  rintro x129 _ _ ⟨H, ρ, rfl, rfl⟩
  subst hk
  refine W_cond (x129) rfl (fun hc132 => ?_) (fun hc132 => ?_)
  · have H := H.1 hc132
    refine W_seq ?_
    refine W_region ?_
    refine LP_ev ok 0 [(8, .bool false)] 1 rfl rfl ?_
    refine LP_end _ rfl ?_
    refine W_ret ?_
    have X133 := ((((((((((((X.stepx x).stepx x26).stepx x32).stepx x41).stepx x52).stepx x63).stepx x77).stepx x81).stepx x92).stepx x103).stepx x114).stepx x128)
    exact ⟨_, Ret_of [.bool false] ⟨⟨rfl, rfl⟩, trivial⟩, _, H, rfl, X133.ext⟩
  have H := H.2 hc132
  refine W_skip ?_
  refine W_seq ?_
  refine W_seq ?_
  refine W_region ?_
  refine LP_ev ok 0 [(70, .slice a87 (List.length r78) c88), (71, .slice a (List.length aS) c)] 2 rfl rfl ?_
  have ex135 := (((((ex79.ext x81).ext x92).ext x103).ext x114).ext x128)
  refine LP_call 2 rfl rfl rfl cal_17 rfl (laws_toVariableS_w _ _ H wx127 r ex135) ?_
  rintro _ wx136 ⟨r134, vx138, hx139, H, rfl, x137, o140, ex141, f142⟩
  obtain ⟨a143, c144, rfl⟩ := o140.shape
  have ex146 := ((ex124.ext x128).ext x137)
  refine LP_call 3 rfl rfl rfl cal_21 rfl (laws_eqVariableS_w _ _ _ H wx136 o84.readf ex146 o140.readf ex141) ?_
  rintro _ wx147 ⟨r145, H, rfl, x148⟩
  refine LP_ev ok 4 [(74, .bool (!r145))] 5 rfl rfl ?_
  refine LP_end _ rfl ?_
  refine W_cond (!r145) rfl (fun hc149 => ?_) (fun hc149 => ?_)
  · have H := H.1 hc149
    refine W_seq ?_
    refine W_region ?_
    refine LP_ev ok 0 [(8, .bool false)] 1 rfl rfl ?_
    refine LP_end _ rfl ?_
    refine W_ret ?_
    have X150 := ((((((((((((((X.stepx x).stepx x26).stepx x32).stepx x41).stepx x52).stepx x63).stepx x77).stepx x81).stepx x92).stepx x103).stepx x114).stepx x128).stepx x137).stepx x148)
    exact ⟨_, Ret_of [.bool false] ⟨⟨rfl, rfl⟩, trivial⟩, _, H, rfl, X150.ext⟩
  have H := H.2 hc149
  refine W_skip ?_
  refine W_seq ?_
  refine W_seq ?_
  refine W_region ?_
  refine LP_ev ok 0 [(75, .slice a98 (List.length r89) c99), (76, .slice a5 (List.length aL) c6)] 2 rfl rfl ?_
  have ex152 := ((((((ex90.ext x92).ext x103).ext x114).ext x128).ext x137).ext x148)
  refine LP_call 2 rfl rfl rfl cal_18 rfl (laws_toEditS_w _ _ H wx147 r3 ex152) ?_
  rintro _ wx153 ⟨r151, vx155, hx156, H, rfl, x154, o157, ex158, f159⟩
  obtain ⟨a160, c161, rfl⟩ := o157.shape
  have ex163 := ((((ex125.ext x128).ext x137).ext x148).ext x154)
  refine LP_call 3 rfl rfl rfl cal_22 rfl (laws_eqEditS_w _ _ _ H wx153 o95.readf ex163 o157.readf ex158) ?_
  rintro _ wx164 ⟨r162, H, rfl, x165⟩
  refine LP_ev ok 4 [(79, .bool (!r162))] 5 rfl rfl ?_
  refine LP_end _ rfl ?_
  refine W_cond (!r162) rfl (fun hc166 => ?_) (fun hc166 => ?_)
  · have H := H.1 hc166
    refine W_seq ?_
    refine W_region ?_
    refine LP_ev ok 0 [(8, .bool false)] 1 rfl rfl ?_
    refine LP_end _ rfl ?_
    refine W_ret ?_
    have X167 := ((((((((((((((((X.stepx x).stepx x26).stepx x32).stepx x41).stepx x52).stepx x63).stepx x77).stepx x81).stepx x92).stepx x103).stepx x114).stepx x128).stepx x137).stepx x148).stepx x154).stepx x165)
    exact ⟨_, Ret_of [.bool false] ⟨⟨rfl, rfl⟩, trivial⟩, _, H, rfl, X167.ext⟩
  have H := H.2 hc166
  refine W_skip ?_
  refine W_seq ?_
  refine W_seq ?_
  refine W_region ?_
  refine LP_ev ok 0 [(80, .slice a109 (List.length r100) c110), (81, .slice a11 (List.length aValues) c12)] 2 rfl rfl ?_
  have ex169 := (((((((ex101.ext x103).ext x114).ext x128).ext x137).ext x148).ext x154).ext x165)
  refine LP_call 2 rfl rfl rfl cal_19 rfl (laws_toIntS_w _ _ H wx164 r9 ex169) ?_
  rintro _ wx170 ⟨r168, vx172, hx173, H, rfl, x171, o174, ex175, f176⟩
  obtain ⟨a177, c178, rfl⟩ := o174.shape
  have ex180 := ((((((ex126.ext x128).ext x137).ext x148).ext x154).ext x165).ext x171)
  refine LP_call 3 rfl rfl rfl cal_23 rfl (laws_eqIntS_w _ _ _ H wx170 o106.readf ex180 o174.readf ex175) ?_
  rintro _ wx181 ⟨r179, H, rfl, x182⟩
  refine LP_ev ok 4 [(84, .bool (!r179))] 5 rfl rfl ?_
  refine LP_end _ rfl ?_
  refine W_cond (!r179) rfl (fun hc183 => ?_) (fun hc183 => ?_)
  · have H := H.1 hc183
    refine W_seq ?_
    refine W_region ?_
    refine LP_ev ok 0 [(8, .bool false)] 1 rfl rfl ?_
    refine LP_end _ rfl ?_
    refine W_ret ?_
    have X184 := ((((((((((((((((((X.stepx x).stepx x26).stepx x32).stepx x41).stepx x52).stepx x63).stepx x77).stepx x81).stepx x92).stepx x103).stepx x114).stepx x128).stepx x137).stepx x148).stepx x154).stepx x165).stepx x171).stepx x182)
    exact ⟨_, Ret_of [.bool false] ⟨⟨rfl, rfl⟩, trivial⟩, _, H, rfl, X184.ext⟩
  have H := H.2 hc183
  refine W_skip ?_
  refine W_seq ?_
  refine W_seq ?_
  refine W_region ?_
  refine LP_ev ok 0 [(85, .slice a120 (List.length r111) c121), (86, .slice a17 (List.length aVars) c18)] 2 rfl rfl ?_
  have ex186 := ((((((((ex112.ext x114).ext x128).ext x137).ext x148).ext x154).ext x165).ext x171).ext x182)
  refine LP_call 2 rfl rfl rfl cal_19 rfl (laws_toIntS_w _ _ H wx181 r15 ex186) ?_
  rintro _ wx187 ⟨r185, vx189, hx190, H, rfl, x188, o191, ex192, f193⟩
  obtain ⟨a194, c195, rfl⟩ := o191.shape
  have ex197 := ((((((((ex118.ext x128).ext x137).ext x148).ext x154).ext x165).ext x171).ext x182).ext x188)
  refine LP_call 3 rfl rfl rfl cal_23 rfl (laws_eqIntS_w _ _ _ H wx187 o117.readf ex197 o191.readf ex192) ?_
  rintro _ wx198 ⟨r196, H, rfl, x199⟩
  refine LP_ev ok 4 [(89, .bool (!r196))] 5 rfl rfl ?_
  refine LP_end _ rfl ?_
  refine W_cond (!r196) rfl (fun hc200 => ?_) (fun hc200 => ?_)
  · have H := H.1 hc200
    refine W_seq ?_
    refine W_region ?_
    refine LP_ev ok 0 [(8, .bool false)] 1 rfl rfl ?_
    refine LP_end _ rfl ?_
    refine W_ret ?_
    have X201 := ((((((((((((((((((((X.stepx x).stepx x26).stepx x32).stepx x41).stepx x52).stepx x63).stepx x77).stepx x81).stepx x92).stepx x103).stepx x114).stepx x128).stepx x137).stepx x148).stepx x154).stepx x165).stepx x171).stepx x182).stepx x188).stepx x199)
    exact ⟨_, Ret_of [.bool false] ⟨⟨rfl, rfl⟩, trivial⟩, _, H, rfl, X201.ext⟩
  have H := H.2 hc200
  refine W_skip ?_
  refine W_seq ?_
  refine W_region ?_
  refine LP_ev ok 0 [(8, .bool true)] 1 rfl rfl ?_
  refine LP_end _ rfl ?_
  refine W_ret ?_
  have X202 := ((((((((((((((((((((X.stepx x).stepx x26).stepx x32).stepx x41).stepx x52).stepx x63).stepx x77).stepx x81).stepx x92).stepx x103).stepx x114).stepx x128).stepx x137).stepx x148).stepx x154).stepx x165).stepx x171).stepx x182).stepx x188).stepx x199)
  exact ⟨_, Ret_of [.bool true] ⟨⟨rfl, rfl⟩, trivial⟩, _, H, rfl, X202.ext⟩

set_option maxRecDepth 8000 in
set_option maxHeartbeats 4000000 in
theorem spec_EliminateVariable_w (sx : List Variable) (l : List Edit) (vx7 : Int) (Q : (List Edit) → Bool → Prop) (H : spec_EliminateVariable sx l vx7 Q) (w : World) {vx : Value} {hx : PH} (r : RS hx vx sx) (ex : Sub hx w) {vx1 : Value} {hx2 : PH} (r3 : RS hx2 vx1 l) (ex4 : Sub hx2 w) :
    CallsTo Try.prog 24 #[vx, vx1, I vx7] w fun v w' => ∃ r0 r1 u0 g0, Q r0 r1 ∧ v = .tuple #[u0, .bool r1] ∧ Ext w w' ∧ OD g0 u0 r0 ∧ Sub g0 w' ∧ Fresh w.heap.size g0 := by
  obtain ⟨a, c, rfl⟩ := r.shape
  obtain ⟨a5, c6, rfl⟩ := r3.shape
  refine enter (args := [.slice a (List.length sx) c, .slice a5 (List.length l) c6, I vx7]) 24 Try.func24 rfl rfl rfl ?_
  refine W_forget [(0, .slice a (List.length sx) c), (1, .slice a5 (List.length l) c6), (2, I vx7)] ⟨rfl, rfl, rfl, trivial⟩ fun ρ => ?_
  have X := But.refl emp w
  refine W_seq ?_
  refine W_region ?_
  refine LP_ev ok 0 [(6, .slice none 0 0), (7, .bool false)] 2 rfl rfl ?_
  refine LP_end _ rfl ?_
  refine W_seq ?_
  obtain ⟨k, hk, H⟩ := jn_elim H
  refine W_join2 (S := Bool) (fun s ρ' w' => k s ∧ ∃ (ρ : Env), ρ' = setAll [(0, .slice a (List.length sx) c), (1, .slice a5 (List.length l) c6), (2, I vx7), (19, .bool s)] ρ ∧ But emp w w' ∧ Sub hx w' ∧ Sub hx2 w') ?_ ?_
  · refine W_region ?_
    refine LP_ev ok 0 [(8, .slice a (List.length sx) c), (9, .slice a5 (List.length l) c6)] 2 rfl rfl ?_
    refine LP_call 2 rfl rfl rfl cal_77 rfl (spec_eSmall_w _ _ _ H w r ex r3 ex4) ?_
    rintro _ wx12 ⟨r11, H, rfl, x13⟩
    refine LP_ev ok 3 [(11, .bool (!r11)), (12, .bool (!r11))] 5 rfl rfl ?_
    refine LP_split 12 (!r11) rfl (fun hc => ?_) (fun hc => ?_)
    · have H := H.1 hc
      refine LP_ev ok 5 [(13, undef), (14, undef), (15, undef), (16, undef), (17, undef), (18, undef), (19, .bool true)] 12 rfl rfl ?_
      refine LP_end _ rfl ?_
      have X14 := (X.stepx x13)
      have ex15 := (ex.ext x13)
      have ex16 := (ex4.ext x13)
      exact ⟨true, H, _, env_eq ⟨rfl, rfl, rfl, rfl, trivial⟩, X14, ex15, ex16⟩
    have H := H.2 hc
    refine LP_ev ok 5 [(13, I vx7), (14, .slice a (List.length sx) c), (15, I (ln sx)), (16, I (wr ((ln sx) - 1)))] 9 rfl rfl ?_
    refine LP_call 9 rfl rfl rfl cal_94 rfl (spec_l1In_w _ _ _ _ H wx12 ) ?_
    rintro _ wx18 ⟨r17, H, rfl, x19⟩
    refine LP_ev ok 10 [(18, .bool (!r17)), (19, .bool (!r17))] 12 rfl rfl ?_
    refine LP_end _ rfl ?_
    have X20 := ((X.stepx x13).stepx x19)
    have ex21 := ((ex.ext x13).ext x19)
    have ex22 := ((ex4.ext x13).ext x19)
    exact ⟨!r17, H, _, env_eq ⟨rfl, rfl, rfl, rfl, trivial⟩, X20, ex21, ex22⟩
  rintro x _ wx ⟨H, ρ, rfl, X10, ex8, ex9⟩
  subst hk
  refine W_cond (x) rfl (fun hc23 => ?_) (fun hc23 => ?_)
  · have H := H.1 hc23
    refine W_seq ?_
    refine W_region ?_
    refine LP_ev ok 0 [(6, .slice none 0 0), (7, .bool false)] 2 rfl rfl ?_
    refine LP_end _ rfl ?_
    refine W_ret ?_
    exact ⟨_, Ret_of [.slice none 0 0, .bool false] ⟨⟨rfl, rfl⟩, ⟨rfl, rfl⟩, trivial⟩, _, _, _, emp, H, rfl, X10.ext, OD.nil, (emp_sub _), (emp_fresh _)⟩
  have H := H.2 hc23
  refine W_skip ?_
  refine W_seq ?_
  refine W_region ?_
  refine LP_ev ok 0 [(20, .slice a (List.length sx) c), (21, .slice a5 (List.length l) c6), (22, I vx7)] 3 rfl rfl ?_
  refine LP_call 3 rfl rfl rfl cal_80 rfl (spec_eMaximal_w _ _ _ _ H wx r ex8 r3 ex9) ?_
  rintro _ wx25 ⟨r24, vx27, hx28, H, rfl, x26, o, ex29, f⟩
  obtain ⟨a30, c31, rfl⟩ := o.shape
  refine LP_ev ok 4 [(6, .slice a30 (List.length r24) c31), (7, .bool true)] 6 rfl rfl ?_
  refine LP_end _ rfl ?_
  refine W_ret ?_
  have f32 := f.mono X10.size
  have X33 := (X10.stepx x26)
  exact ⟨_, Ret_of [.slice a30 (List.length r24) c31, .bool true] ⟨⟨rfl, rfl⟩, ⟨rfl, rfl⟩, trivial⟩, _, _, _, _, H, rfl, X33.ext, o, ex29, f32⟩

set_option maxRecDepth 8000 in
set_option maxHeartbeats 4000000 in
theorem impl_failing_w (sx : List Variable) (l : List Edit) (Q : (List Bool) → Prop) (H : impl_failing sx l Q) (w : World) {vx : Value} {hx : PH} (r : RS hx vx sx) (ex : Sub hx w) {vx1 : Value} {hx2 : PH} (r3 : RS hx2 vx1 l) (ex4 : Sub hx2 w) :
    CallsTo Try.prog 166 #[vx, vx1] w fun v w' => ∃ r0 u0 g0, Q r0 ∧ v = u0 ∧ Ext w w' ∧ OS 4 g0 emp u0 r0 ∧ Sub g0 w' ∧ Fresh w.heap.size g0 := by
  obtain ⟨a, c, rfl⟩ := r.shape
  obtain ⟨a5, c6, rfl⟩ := r3.shape
  refine enter (args := [.slice a (List.length sx) c, .slice a5 (List.length l) c6]) 25 Try.func166 rfl rfl rfl ?_
  refine W_forget [(0, .slice a (List.length sx) c), (1, .slice a5 (List.length l) c6)] ⟨rfl, rfl, trivial⟩ fun ρ => ?_
  have X := But.refl emp w
  refine W_seq ?_
  refine W_region ?_
  refine LP_ev ok 0 [(4, .slice none 0 0)] 1 rfl rfl ?_
  refine LP_end _ rfl ?_
  refine W_seq ?_
  refine W_region ?_
  refine LP_ev ok 0 [(7, .slice a (List.length sx) c)] 1 rfl rfl ?_
  refine LP_call 1 rfl rfl rfl cal_99 rfl (impl_combinations_w _ _ H w r ex) ?_
  rintro _ wx ⟨r7, H, rfl, x⟩
  obtain ⟨hn, hb, H⟩ := H
  refine LP_make (α := Bool) 2 rfl rfl rfl Try.underlying179 ti_4 (x0 := false) rfl rfl hn (by first | omega | (simp only [ln] at *; omega)) (by first | omega | (simp only [ln] at *; omega)) fun hx8 vx9 wx10 x11 o ex12 f => ?_
  obtain ⟨a13, c14, rfl⟩ := o.shape
  refine LP_ev ok 3 [(5, .slice a13 (List.length (List.replicate (Int.toNat r7) false)) c14)] 4 rfl rfl ?_
  refine LP_end _ rfl ?_
  refine W_seq ?_
  refine W_seq ?_
  refine W_region ?_
  refine LP_ev ok 0 [(10, .slice a13 (List.length (List.replicate (Int.toNat r7) false)) c14), (11, I (ln (List.replicate (Int.toNat r7) false))), (12, I 0)] 3 rfl rfl ?_
  refine LP_end _ rfl ?_
  refine W_block ?_
  have X26 := ((X.stepx x).stepx x11)
  have X28 := (X.stepx x)
  have f27 := f.mono X28.size
  have ex29 := ((ex.ext x).ext x11)
  have ex30 := ((ex4.ext x).ext x11)
  have ex31 := (ex.ext x)
  have ex32 := (ex4.ext x)
  obtain ⟨J, m, Hx, H⟩ := H
  refine W_loop (S := (List Bool) × Int) (fun s ρ' w' => J s.1 s.2 ∧ ∃ (ρ : Env) (hx16 : PH), ρ' = setAll [(0, .slice a (List.length sx) c), (1, .slice a5 (List.length l) c6), (5, .slice a13 (List.length (List.replicate (Int.toNat r7) false)) c14), (11, I (ln (List.replicate (Int.toNat r7) false))), (12, I s.2)] ρ ∧ But emp w w' ∧ OS 4 hx16 emp (.slice a13 (List.length (List.replicate (Int.toNat r7) false)) c14) s.1 ∧ Sub hx16 w' ∧ Fresh w.heap.size hx16 ∧ Sub hx w' ∧ Sub hx2 w' ∧ Dj hx16 hx ∧ Dj hx16 hx2) (fun s => m s.1 s.2) (List.replicate (Int.toNat r7) false, 0) ⟨Hx, _, hx8, env_eq ⟨rfl, rfl, rfl, rfl, rfl, trivial⟩, X26, o, ex12, f27, ex29, ex30, (Dj.of_fresh ex31 f).symm, (Dj.of_fresh ex32 f).symm⟩ ?_
  rintro ⟨out, x20⟩ _ wx21 ⟨Hi, ρ, hx16, rfl, X25, o17, ex18, f19, ex22, ex23, d, d24⟩
  have H := H out x20 Hi
  refine W_seq ?_
  refine W_region ?_
  refine LP_ev ok 0 [(13, .bool (decide (x20 < (ln (List.replicate (Int.toNat r7) false)))))] 1 rfl rfl ?_
  refine LP_end _ rfl ?_
  refine W_seq ?_
  refine W_cond (decide (x20 < (ln (List.replicate (Int.toNat r7) false)))) rfl (fun hc => ?_) (fun hc => ?_)
  · have H := H.1 hc
    refine W_skip ?_
    refine W_seq ?_
    refine W_block ?_
    refine W_seq ?_
    refine W_region ?_
    refine LP_ev ok 0 [(14, I x20), (6, I x20)] 2 rfl rfl ?_
    refine LP_end _ rfl ?_
    refine W_region ?_
    refine LP_ev ok 0 [(15, .slice a13 (List.length (List.replicate (Int.toNat r7) false)) c14), (16, I x20), (17, .slice a5 (List.length l) c6), (18, .slice a (List.length sx) c), (19, I x20)] 5 rfl rfl ?_
    refine LP_call 5 rfl rfl rfl cal_100 rfl (impl_valuesAt_w _ _ _ H wx21 r ex22) ?_
    rintro _ wx34 ⟨r33, vx36, hx37, H, rfl, x35, o38, ex39, f40⟩
    obtain ⟨a41, c42, rfl⟩ := o38.shape
    have ex44 := (ex23.ext x35)
    refine LP_call 6 rfl rfl rfl cal_102 rfl (impl_failsOne_w _ _ _ H wx34 r3 ex44 o38.readf ex39) ?_
    rintro _ wx45 ⟨r43, H, rfl, x46⟩
    obtain ⟨hi, hl, H⟩ := H
    refine LP_indexw (v := .slice a13 (List.length (List.replicate (Int.toNat r7) false)) c14) 7 rfl rfl rfl Try.underlying179 ti_4 rfl rfl o17 hi hl fun a47 wa => ?_
    have ex52 := ((ex18.ext x35).ext x46)
    refine LP_set 8 rfl rfl rfl rfl rfl wa (Le.refl emp) ⟨_, rfl, rfl⟩ ex52 fun hx48 wx49 o50 ex51 y dm => ?_
    refine LP_end _ rfl ?_
    refine W_region ?_
    refine LP_ev ok 0 [(23, I (wr (x20 + 1))), (12, I (wr (x20 + 1)))] 2 rfl rfl ?_
    refine LP_end _ rfl ?_
    have X53 := (((X25.stepx x35).stepx x46).step y (f19.dom _))
    have X55 := ((X25.stepx x35).stepx x46)
    have f54 := (dm _).fresh f19 X55.size
    have ex56 := (((ex22.ext x35).ext x46).but y d)
    have ex57 := ((ex44.ext x46).but y d24)
    have ex58 := ((ex22.ext x35).ext x46)
    have ex59 := (ex44.ext x46)
    exact ⟨(List.set out (Int.toNat x20) r43, wr (x20 + 1)), ⟨H.1, _, hx48, env_eq ⟨rfl, rfl, rfl, rfl, rfl, trivial⟩, X53, o50, ex51, f54, ex56, ex57, (DomLe.dj (dm _) d ex58), (DomLe.dj (dm _) d24 ex59)⟩, H.2⟩
  have H := H.2 hc
  refine W_exit ?_
  refine (if_pos rfl).mpr ?_
  refine W_seq ?_
  refine W_region ?_
  refine LP_ev ok 0 [(24, .slice a13 (List.length (List.replicate (Int.toNat r7) false)) c14), (4, .slice a13 (List.length (List.replicate (Int.toNat r7) false)) c14)] 2 rfl rfl ?_
  refine LP_end _ rfl ?_
  refine W_ret ?_
  exact ⟨_, Ret_of [.slice a13 (List.length (List.replicate (Int.toNat r7) false)) c14] ⟨⟨rfl, rfl⟩, trivial⟩, _, _, _, H, rfl, X25.ext, o17, ex18, f19⟩

set_option maxRecDepth 8000 in
set_option maxHeartbeats 4000000 in
theorem impl_editKey_w (sx : List Variable) (sets : List Int) (Q : Int → Prop) (H : impl_editKey sx sets Q) (w : World) {vx : Value} {hx : PH} (r : RS hx vx sx) (ex : Sub hx w) {vx1 : Value} {hx2 : PH} (r3 : RS hx2 vx1 sets) (ex4 : Sub hx2 w) :
    CallsTo Try.prog 168 #[vx, vx1] w fun v w' => ∃ r0, Q r0 ∧ v = I r0 ∧ Ext w w' := by
  obtain ⟨a, c, rfl⟩ := r.shape
  obtain ⟨a5, c6, rfl⟩ := r3.shape
  refine enter (args := [.slice a (List.length sx) c, .slice a5 (List.length sets) c6]) 26 Try.func168 rfl rfl rfl ?_
  refine W_forget [(0, .slice a (List.length sx) c), (1, .slice a5 (List.length sets) c6)] ⟨rfl, rfl, trivial⟩ fun ρ => ?_
  have X := But.refl emp w
  refine W_seq ?_
  refine W_region ?_
  refine LP_ev ok 0 [(4, I 0)] 1 rfl rfl ?_
  refine LP_end _ rfl ?_
  refine W_seq ?_
  refine W_region ?_
  refine LP_ev ok 0 [(5, I 0)] 1 rfl rfl ?_
  refine LP_end _ rfl ?_
  refine W_seq ?_
  refine W_seq ?_
  refine W_region ?_
  refine LP_ev ok 0 [(8, .slice a5 (List.length sets) c6), (9, I (ln sets)), (10, I 0)] 3 rfl rfl ?_
  refine LP_end _ rfl ?_
  refine W_block ?_
  obtain ⟨J, m, Hx, H⟩ := H
  refine W_loop (S := Int × Int) (fun s ρ' w' => J s.1 s.2 ∧ ∃ (ρ : Env), ρ' = setAll [(0, .slice a (List.length sx) c), (5, I s.1), (8, .slice a5 (List.length sets) c6), (9, I (ln sets)), (10, I s.2)] ρ ∧ w = w') (fun s => m s.1 s.2) (0, 0) ⟨Hx, _, env_eq ⟨rfl, rfl, rfl, rfl, rfl, trivial⟩, rfl⟩ ?_
  rintro ⟨key, x⟩ _ _ ⟨Hi, ρ, rfl, rfl⟩
  have H := H key x Hi
  refine W_seq ?_
  refine W_region ?_
  refine LP_ev ok 0 [(11, .bool (decide (x < (ln sets))))] 1 rfl rfl ?_
  refine LP_end _ rfl ?_
  refine W_seq ?_
  refine W_cond (decide (x < (ln sets))) rfl (fun hc => ?_) (fun hc => ?_)
  · have H := H.1 hc
    refine W_skip ?_
    refine W_seq ?_
    refine W_block ?_
    refine W_seq ?_
    refine W_region ?_
    refine LP_ev ok 0 [(12, I x)] 1 rfl rfl ?_
    obtain ⟨x7, hi, hx8, H⟩ := H
    refine LP_index 1 rfl rfl rfl Try.underlying24 ti_3 rfl rfl r3 hi hx8 fun a9 cs r10 d => ?_
    refine LP_load 2 rfl rfl rfl ti_3 ag_3 rfl r10 d ex4 fun vx11 r12 => ?_
    obtain rfl := r12.int
    refine LP_ev ok 3 [(6, I x), (7, I x7)] 5 rfl rfl ?_
    refine LP_end _ rfl ?_
    refine W_region ?_
    refine LP_ev ok 0 [(15, I key), (16, .slice a (List.length sx) c), (17, I x)] 3 rfl rfl ?_
    obtain ⟨x13, hi14, hx15, H⟩ := H
    refine LP_index 3 rfl rfl rfl Try.underlying29 ti_107 rfl rfl r hi14 hx15 fun a16 cs17 r18 d19 => ?_
    refine LP_ev ok 4 [(19, .pointer (some (Addr.add a16 1)))] 5 rfl rfl ?_
    refine LP_ldfld (x := x13) (off := 1) 5 (v := I x13.Levels) rfl rfl rfl ti_3 ag_3 (fun _ => rfl) rfl r18 d19 ex rfl rfl ?_
    obtain ⟨hz, H⟩ := H
    refine LP_val 6 _ rfl rfl (ex_shl rfl rfl rfl hz _) ?_
    refine LP_ev ok 7 [(22, I x7), (23, I (bits .or .i64 (shl .i64 key x13.Levels) x7)), (5, I (bits .or .i64 (shl .i64 key x13.Levels) x7))] 10 rfl rfl ?_
    refine LP_end _ rfl ?_
    refine W_region ?_
    refine LP_ev ok 0 [(24, I (wr (x + 1))), (10, I (wr (x + 1)))] 2 rfl rfl ?_
    refine LP_end _ rfl ?_
    exact ⟨(bits .or .i64 (shl .i64 key x13.Levels) x7, wr (x + 1)), ⟨H.1, _, env_eq ⟨rfl, rfl, rfl, rfl, rfl, trivial⟩, rfl⟩, H.2⟩
  have H := H.2 hc
  refine W_exit ?_
  refine (if_pos rfl).mpr ?_
  refine W_seq ?_
  refine W_region ?_
  refine LP_ev ok 0 [(25, I key), (4, I key)] 2 rfl rfl ?_
  refine LP_end _ rfl ?_
  refine W_ret ?_
  exact ⟨_, Ret_of [I key] ⟨⟨rfl, rfl⟩, trivial⟩, _, H, rfl, X.ext⟩

set_option maxRecDepth 8000 in
set_option maxHeartbeats 4000000 in
theorem slices_Clone_int_int_w (sx : List Int) (Q : (List Int) → Prop) (H : slices_Clone_int_int sx Q) (w : World) {vx : Value} {hx : PH} (r : RS hx vx sx) (ex : Sub hx w) :
    CallsTo Try.prog 105 #[vx] w fun v w' => ∃ r0 u0 g0, Q r0 ∧ v = u0 ∧ Ext w w' ∧ OS 3 g0 emp u0 r0 ∧ Sub g0 w' ∧ Fresh w.heap.size g0 := by
  obtain ⟨a, c, rfl⟩ := r.shape
  refine enter (args := [.slice a (List.length sx) c]) 8 Try.func105 rfl rfl rfl ?_
  refine W_forget [(0, .slice a (List.length sx) c)] ⟨rfl, trivial⟩ fun ρ => ?_
  have X := But.refl emp w
  refine W_seq ?_
  refine W_region ?_
  refine LP_ev ok 0 [(2, .slice none 0 0)] 1 rfl rfl ?_
  refine LP_end _ rfl ?_
  refine W_seq ?_
  refine W_seq ?_
  refine W_region ?_
  refine LP_ev ok 0 [(3, .slice a (List.length sx) c)] 1 rfl rfl ?_
  refine LP_val 1 _ rfl rfl (ex_eqnil rfl Try.underlying24 rfl rfl _) ?_
  have H := H _ (nil_of r)
  refine LP_end _ rfl ?_
  refine W_cond (Option.isNone a) rfl (fun hc => ?_) (fun hc => ?_)
  · have H := H.1 hc
    refine W_seq ?_
    refine W_region ?_
    refine LP_ev ok 0 [(2, .slice none 0 0)] 1 rfl rfl ?_
    refine LP_end _ rfl ?_
    refine W_ret ?_
    exact ⟨_, Ret_of [.slice none 0 0] ⟨⟨rfl, rfl⟩, trivial⟩, _, _, emp, H, rfl, X.ext, OS.nil, (emp_sub _), (emp_fresh _)⟩
  have H := H.2 hc
  refine W_skip ?_
  refine W_seq ?_
  refine W_region ?_
  refine LP_lit (α := Int) (g := emp) 0 (vs := []) (xs := []) rfl rfl rfl Try.underlying24 ti_3 rfl rfl trivial rfl rfl fun hx1 vx2 wx x o ex3 f => ?_
  obtain ⟨a4, c5, rfl⟩ := o.shape
  refine LP_ev ok 1 [(6, .slice a (List.length sx) c)] 2 rfl rfl ?_
  have ex6 := (ex.ext x)
  obtain ⟨hb, H⟩ := H
  refine LP_appendf (α := Int) 2 rfl rfl rfl Try.underlying24 ti_3 rfl rfl rfl o ex3 r ex6 (by first | omega | (simp only [ln] at *; omega)) (by first | omega | (simp only [ln] at *; omega)) fun hx7 vx8 wx9 o10 ex11 y dm => ?_
  obtain ⟨a12, c13, rfl⟩ := o10.shape
  refine LP_ev ok 3 [(2, .slice a12 (List.length ((([] : List Int)) ++ sx)) c13)] 4 rfl rfl ?_
  refine LP_end _ rfl ?_
  refine W_ret ?_
  have f15 := f.mono X.size
  have X16 := (X.stepx x)
  have f14 := dm.fresh f15 X16.size
  have X17 := (X16.step y (f15.dom _))
  exact ⟨_, Ret_of [.slice a12 (List.length ((([] : List Int)) ++ sx)) c13] ⟨⟨rfl, rfl⟩, trivial⟩, _, _, _, H, rfl, X17.ext, o10, ex11, f14⟩

set_option maxRecDepth 8000 in
set_option maxHeartbeats 4000000 in
theorem impl_maximalEdits_1_w (sets : List Int) (c1 : List (Int × Bool)) (c8 : List Variable) (c17 : List Edit) (Q : (List (Int × Bool)) → (List Edit) → Prop) (H : impl_maximalEdits_1 sets c1 c8 c17 Q) (w : World) {vx : Value} {hx : PH} (r : RS hx vx sets) (ex : Sub hx w) {vx2 : Value} {hx3 : PH} (r4 : MO hx3 vx2 c1) (ex5 : Sub hx3 w) {b6 : Nat} (ex7 : Sub (bx b6 177 [vx2]) w) {vx9 : Value} {hx10 : PH} (r11 : RS hx10 vx9 c8) (ex12 : Sub hx10 w) {b15 : Nat} (ex16 : Sub (bx b15 29 [vx9]) w) {vx18 : Value} {hx19 : PH} (r20 : OD hx19 vx18 c17) (ex21 : Sub hx19 w) {b24 : Nat} (ex25 : Sub (bx b24 31 [vx18]) w) (d : Dj hx3 hx19) (d26 : Dj hx3 (bx b24 31 [vx18])) (d27 : Dj hx19 (bx b24 31 [vx18])) (d28 : Dj hx3 hx) (d29 : Dj hx3 (bx b6 177 [vx2])) (d30 : Dj hx3 hx10) (d31 : Dj hx3 (bx b15 29 [vx9])) (d32 : Dj hx19 hx) (d33 : Dj hx19 (bx b6 177 [vx2])) (d34 : Dj hx19 hx10) (d35 : Dj hx19 (bx b15 29 [vx9])) (d36 : Dj (bx b24 31 [vx18]) hx) (d37 : Dj (bx b24 31 [vx18]) (bx b6 177 [vx2])) (d38 : Dj (bx b24 31 [vx18]) hx10) (d39 : Dj (bx b24 31 [vx18]) (bx b15 29 [vx9])) :
    CallsTo Try.prog 167 #[vx, .pointer (some ⟨b6, 0, none⟩), .pointer (some ⟨b15, 0, none⟩), .pointer (some ⟨b24, 0, none⟩)] w fun v w' => ∃ m1 m2 k1 v2_ k2, Q m1 m2 ∧ v = .tuple #[] ∧ But (un hx3 (un hx19 (bx b24 31 [vx18]))) w w' ∧ MO k1 vx2 m1 ∧ Sub k1 w' ∧ (∀ n, DomLe hx3 n k1) ∧ OD k2 v2_ m2 ∧ Sub k2 w' ∧ DomLe (un hx3 (un hx19 (bx b24 31 [vx18]))) w.heap.size k2 ∧ Sub (bx b24 31 [v2_]) w' ∧ Dj k1 k2 ∧ Dj k1 (bx b24 31 [v2_]) ∧ Dj k2 (bx b24 31 [v2_]) := by
  obtain ⟨a, c, rfl⟩ := r.shape
  obtain ⟨b, rfl⟩ := r4.shape
  obtain ⟨a13, c14, rfl⟩ := r11.shape
  obtain ⟨a22, c23, rfl⟩ := r20.shape
  refine enter (args := [.slice a (List.length sets) c, .pointer (some ⟨b6, 0, none⟩), .pointer (some ⟨b15, 0, none⟩), .pointer (some ⟨b24, 0, none⟩)]) 15 Try.func167 rfl rfl rfl ?_
  refine W_forget [(0, .slice a (List.length sets) c), (1, .pointer (some ⟨b6, 0, none⟩)), (2, .pointer (some ⟨b15, 0, none⟩)), (3, .pointer (some ⟨b24, 0, none⟩))] ⟨rfl, rfl, rfl, rfl, trivial⟩ fun ρ => ?_
  have D : Dom (un hx3 (un hx19 (bx b24 31 [.slice a22 (List.length c17) c23]))) hx3 := (Dom.l _ _)
  have D40 : Dom (un hx3 (un hx19 (bx b24 31 [.slice a22 (List.length c17) c23]))) hx19 := (Dom.trans (Dom.r _ _) (Dom.l _ _))
  have D41 : Dom (un hx3 (un hx19 (bx b24 31 [.slice a22 (List.length c17) c23]))) (bx b24 31 [.slice a22 (List.length c17) c23]) := (Dom.trans (Dom.r _ _) (Dom.trans (Dom.r _ _) (Dom.refl _)))
  have X := But.refl (un hx3 (un hx19 (bx b24 31 [.slice a22 (List.length c17) c23]))) w
  refine W_seq ?_
  refine W_open mix fun wx x => ?_
  refine AP_game 4 [[], [], [], [1, 2], [0, 1, 2, 3]] [[(1, none)], [(2, none)], [(0, none)], [(6, some 1), (7, some 2)]] [(0, none), (3, none), (5, some 0), (8, some 3)] [(0, false), (1, false), (2, false), (3, false)] (by kernel_rfl) (by kernel_rfl) ?_
  have ex42 := (ex7.ext x)
  refine GS_r1 [(1, .pointer (some ⟨b6, 0, none⟩))] (.map (some b)) rfl rfl (fun _ h => h) (fun _ w e => ex_ldbox rfl ti_177 ag_177 (fun _ => rfl) rfl e rfl rfl) ex42 ?_
  have ex43 := (ex16.ext x)
  refine GS_r1 [(2, .pointer (some ⟨b15, 0, none⟩))] (.slice a13 (List.length c8) c14) rfl rfl (fun _ h => h) (fun _ w e => ex_ldbox rfl ti_29 ag_29 (fun _ => rfl) rfl e rfl rfl) ex43 ?_
  refine GS_ev ok [(0, .slice a (List.length sets) c)] (.slice a (List.length sets) c) rfl rfl (fun _ h => h) (fun _ => rfl) ?_
  obtain ⟨r44, Hd, H⟩ := H
  have ex45 := (ex12.ext x)
  have ex46 := (ex.ext x)
  refine GS_q [(6, .slice a13 (List.length c8) c14), (7, .slice a (List.length sets) c)] (I r44) [hx10, hx] [.slice a13 (List.length c8) c14, .slice a (List.length sets) c] rfl rfl (fun _ h => h) rfl cal_168 (fun _ => rfl) (fun w e => (impl_editKey_w _ _ _ Hd w r11 e.1 r e.2.1).mono (fun _ _ h => by obtain ⟨_, rfl, rfl, x⟩ := h; exact ⟨rfl, x⟩)) ⟨ex45, ex46, trivial⟩ ?_
  intro wx47 x48 ρ hn
  refine AP_forget [(0, .slice a (List.length sets) c), (3, .pointer (some ⟨b24, 0, none⟩)), (5, .map (some b)), (8, I r44)] (by exact hn) fun ρ => ?_
  refine AP_tail 4 [[], [], [], [1, 2], [0, 1, 2, 3]] (by kernel_rfl) ?_
  have ex52 := ((ex5.ext x).ext x48)
  refine LP_mapset (el := true) 4 rfl rfl rfl Try.underlying177 Try.underlying3 rfl rfl rfl r4 ex52 fun hx49 wx50 o ex51 y dm => ?_
  refine LP_end _ rfl ?_
  refine W_open mix fun wx53 x54 => ?_
  refine AP_game 5 [[], [], [1], [1, 2], [1, 2, 3], [0, 1, 2, 3, 4], [0, 1, 2, 3, 4, 5]] [[(3, none)], [(0, none)], [(10, some 1)], [(11, some 2)], [(12, some 3)]] [(3, none), (9, some 0), (13, some 4)] [(0, false), (1, false), (2, true), (3, false), (4, true)] (by kernel_rfl) (by kernel_rfl) ?_
  have ex55 := ((((ex25.ext x).ext x48).but y d26).ext x54)
  refine GS_r1 [(3, .pointer (some ⟨b24, 0, none⟩))] (.slice a22 (List.length c17) c23) rfl rfl (fun _ h => h) (fun _ w e => ex_ldbox rfl ti_31 ag_31 (fun _ => rfl) rfl e rfl rfl) ex55 ?_
  refine GS_ev ok [(0, .slice a (List.length sets) c)] (.slice a (List.length sets) c) rfl rfl (fun _ h => h) (fun _ => rfl) ?_
  refine GS_lp [(10, .slice a (List.length sets) c)] rfl rfl (fun _ h => h) rfl fun ρ wx56 x57 => ?_
  have ex59 := ((((ex46.ext x48).but y d28).ext x54).ext x57)
  refine LP_call 0 rfl rfl rfl cal_105 rfl (slices_Clone_int_int_w _ _ H wx56 r ex59) ?_
  rintro _ wx60 ⟨r58, vx62, hx63, H, rfl, x61, o64, ex65, f⟩
  obtain ⟨a66, c67, rfl⟩ := o64.shape
  have ex68 := ((ex55.ext x57).ext x61)
  refine LP_gs ⟨⟨.inr ex68, trivial⟩, ?_⟩
  refine GS_ev ok [(11, .slice a66 (List.length r58) c67)] (.agg #[.slice a66 (List.length r58) c67]) rfl rfl (fun _ h => h) (fun _ => rfl) ?_
  refine GS_lp [(12, .agg #[.slice a66 (List.length r58) c67])] rfl rfl (fun _ h => h) rfl fun ρ wx69 x70 => ?_
  have ex71 := (ex65.ext x70)
  have rv : RVO hx63 (.agg #[.slice a66 (List.length r58) c67]) ((Edit.mk r58) : Edit) := ⟨_, ⟨_, rfl, (OS.od o64)⟩, rfl⟩
  refine LP_litD (α := Edit) 0 (vs := [.agg #[.slice a66 (List.length r58) c67]]) (xs := [((Edit.mk r58) : Edit)]) rfl rfl rfl Try.underlying31 ti_50 rfl rfl (allO.one rv) ex71 rfl rfl fun hx72 vx73 wx74 x75 o76 ex77 dm78 => ?_
  obtain ⟨a79, c80, rfl⟩ := o76.shape
  have ex81 := ((ex68.ext x70).ext x75)
  refine LP_gs ⟨⟨.inr ex81, trivial⟩, ?_⟩
  intro wx82 x83 ρ hn84
  refine AP_forget [(3, .pointer (some ⟨b24, 0, none⟩)), (9, .slice a22 (List.length c17) c23), (13, .slice a79 (List.length ([((Edit.mk r58) : Edit)])) c80)] (by exact hn84) fun ρ => ?_
  refine AP_tail 5 [[], [], [1], [1, 2], [1, 2, 3], [0, 1, 2, 3, 4], [0, 1, 2, 3, 4, 5]] (by kernel_rfl) ?_
  have ex85 := (((((((((ex21.ext x).ext x48).but y d).ext x54).ext x57).ext x61).ext x70).ext x75).ext x83)
  have ex86 := (((((ex21.ext x).ext x48).but y d).ext x54).ext x57)
  have ex87 := ((ex86.ext x61).ext x70)
  have ex88 := (ex77.ext x83)
  obtain ⟨hb, H⟩ := H
  refine LP_appendD (α := Edit) 5 rfl rfl rfl Try.underlying31 ti_50 rfl rfl rfl r20 ex85 o76 ex88 (DomLe.dj dm78 (Dj.of_fresh ex86 f).symm ex87).symm (by first | omega | (simp only [ln] at *; omega)) (by first | omega | (simp only [ln] at *; omega)) fun hx89 vx90 wx91 hw o92 ex93 y94 dh dm95 => ?_
  obtain ⟨a96, c97, rfl⟩ := o92.shape
  have ex101 := ((((((ex55.ext x57).ext x61).ext x70).ext x75).ext x83).but (But.dom y94 dh) d27)
  refine LP_stbox 6 (vs := [.slice a96 (List.length (c17 ++ ([((Edit.mk r58) : Edit)]))) c97]) (cs' := [.slice a96 (List.length (c17 ++ ([((Edit.mk r58) : Edit)]))) c97]) rfl rfl rfl ti_31 rfl rfl rfl rfl rfl ex101 rfl rfl fun wx98 ex99 y100 => ?_
  refine LP_end _ rfl ?_
  have ex102 := ((ex21.ext x).ext x48)
  have ex103 := ((ex25.ext x).ext x48)
  have ex104 := ((((((((ex51.ext x54).ext x57).ext x61).ext x70).ext x75).ext x83).but (But.dom y94 dh) (DomLe.dj (dm _) d ex102).symm).but y100 (DomLe.dj (dm _) d26 ex103).symm)
  have ex105 := (ex55.ext x57)
  have ex106 := ((ex105.ext x61).ext x70)
  have ex107 := ((ex106.ext x75).ext x83)
  have ex108 := (ex93.but y100 (DomLe.dj dm95 (Dj.un_l d27 (DomLe.dj dm78 (Dj.of_fresh ex105 f).symm ex106)) ex107).symm)
  have X110 := (((((X.stepx x).stepx x48).step y (Dom.le D _)).stepx x54).stepx x57)
  have f109 := f.mono X110.size
  have X112 := ((X110.stepx x61).stepx x70)
  have f111 := DomLe.fresh dm78 f109 X112.size
  have X113 := ((X112.stepx x75).stepx x83)
  have ex114 := ((ex21.ext x).ext x48)
  have ex115 := ((ex51.ext x54).ext x57)
  have ex116 := ((ex115.ext x61).ext x70)
  have ex117 := ((ex116.ext x75).ext x83)
  have X118 := ((X113.step (But.dom y94 dh) (Dom.le D40 _)).step y100 (Dom.le D41 _))
  exact ⟨_, Ret_of [] trivial, _, _, _, _, _, H, rfl, X118, o, ex104, (fun _ => DomLe.trans (DomLe.refl _ _) ((dm _)) (Nat.le_refl _)), o92, ex108, (DomLe.trans (DomLe.un (Dom.le D40 _) (f111.dom _)) dm95 X113.size), ex99, (DomLe.dj dm95 (Dj.un_l (DomLe.dj (dm _) d ex114).symm (DomLe.dj dm78 (Dj.of_fresh ex115 f).symm ex116)) ex117).symm, (Dj.box (DomLe.dj (dm _) d26 ex103).symm).symm, (Dj.box (DomLe.dj dm95 (Dj.un_l d27 (DomLe.dj dm78 (Dj.of_fresh ex105 f).symm ex106)) ex107).symm).symm⟩

set_option maxRecDepth 8000 in
set_option maxHeartbeats 4000000 in
theorem impl_impliedIn_impl_maximalEdits_1_w (sx : List Variable) (inx : List Bool) (vx7 : Int) (sets : List Int) (c14 : List (Int × Bool)) (c21 : List Variable) (c30 : List Edit) (Q : (List (Int × Bool)) → (List Edit) → Prop) (H : impl_impliedIn_impl_maximalEdits_1 sx inx vx7 sets c14 c21 c30 Q) (w : World) {vx : Value} {hx : PH} (r : RS hx vx sx) (ex : Sub hx w) {vx1 : Value} {hx2 : PH} (r3 : RS hx2 vx1 inx) (ex4 : Sub hx2 w) {vx8 : Value} {hx9 : PH} (r10 : OS 3 hx9 emp vx8 sets) (ex11 : Sub hx9 w) {vx15 : Value} {hx16 : PH} (r17 : MO hx16 vx15 c14) (ex18 : Sub hx16 w) {b19 : Nat} (ex20 : Sub (bx b19 177 [vx15]) w) {vx22 : Value} {hx23 : PH} (r24 : RS hx23 vx22 c21) (ex25 : Sub hx23 w) {b28 : Nat} (ex29 : Sub (bx b28 29 [vx22]) w) {vx31 : Value} {hx32 : PH} (r33 : OD hx32 vx31 c30) (ex34 : Sub hx32 w) {b37 : Nat} (ex38 : Sub (bx b37 31 [vx31]) w) (d : Dj hx9 hx16) (d39 : Dj hx9 hx32) (d40 : Dj hx9 (bx b37 31 [vx31])) (d41 : Dj hx16 hx32) (d42 : Dj hx16 (bx b37 31 [vx31])) (d43 : Dj hx32 (bx b37 31 [vx31])) (d44 : Dj hx9 hx) (d45 : Dj hx9 hx2) (d46 : Dj hx9 (bx b19 177 [vx15])) (d47 : Dj hx9 hx23) (d48 : Dj hx9 (bx b28 29 [vx22])) (d49 : Dj hx16 hx) (d50 : Dj hx16 hx2) (d51 : Dj hx16 (bx b19 177 [vx15])) (d52 : Dj hx16 hx23) (d53 : Dj hx16 (bx b28 29 [vx22])) (d54 : Dj hx32 hx) (d55 : Dj hx32 hx2) (d56 : Dj hx32 (bx b19 177 [vx15])) (d57 : Dj hx32 hx23) (d58 : Dj hx32 (bx b28 29 [vx22])) (d59 : Dj (bx b37 31 [vx31]) hx) (d60 : Dj (bx b37 31 [vx31]) hx2) (d61 : Dj (bx b37 31 [vx31]) (bx b19 177 [vx15])) (d62 : Dj (bx b37 31 [vx31]) hx23) (d63 : Dj (bx b37 31 [vx31]) (bx b28 29 [vx22])) :
    CallsTo Try.prog 165 #[vx, vx1, I vx7, vx8, .func (.func 167) #[] #[.pointer (some ⟨b19, 0, none⟩), .pointer (some ⟨b28, 0, none⟩), .pointer (some ⟨b37, 0, none⟩)]] w fun v w' => ∃ m2 m3 k1 k2 v3_ k3, Q m2 m3 ∧ v = .tuple #[] ∧ But (un hx9 (un hx16 (un hx32 (bx b37 31 [vx31])))) w w' ∧ OS 3 k1 emp vx8 sets ∧ Sub k1 w' ∧ (∀ n, DomLe hx9 n k1) ∧ MO k2 vx15 m2 ∧ Sub k2 w' ∧ (∀ n, DomLe hx16 n k2) ∧ OD k3 v3_ m3 ∧ Sub k3 w' ∧ DomLe (un hx9 (un hx16 (un hx32 (bx b37 31 [vx31])))) w.heap.size k3 ∧ Sub (bx b37 31 [v3_]) w' ∧ Dj k1 k2 ∧ Dj k1 k3 ∧ Dj k1 (bx b37 31 [v3_]) ∧ Dj k2 k3 ∧ Dj k2 (bx b37 31 [v3_]) ∧ Dj k3 (bx b37 31 [v3_]) := by
  obtain ⟨S, mu, H0, HS⟩ := H
  have key : ∀ (m : Nat) (sx : List Variable) (inx : List Bool) (vx7 : Int) (sets : List Int) (c14 : List (Int × Bool)) (c21 : List Variable) (c30 : List Edit) (Q : (List (Int × Bool)) → (List Edit) → Prop), S sx inx vx7 sets c14 c21 c30 Q → mu sx inx vx7 sets c14 c21 c30 < m → ∀ (w : World) {vx : Value} {hx : PH} (r : RS hx vx sx) (ex : Sub hx w) {vx1 : Value} {hx2 : PH} (r3 : RS hx2 vx1 inx) (ex4 : Sub hx2 w) {vx8 : Value} {hx9 : PH} (r10 : OS 3 hx9 emp vx8 sets) (ex11 : Sub hx9 w) {vx15 : Value} {hx16 : PH} (r17 : MO hx16 vx15 c14) (ex18 : Sub hx16 w) {b19 : Nat} (ex20 : Sub (bx b19 177 [vx15]) w) {vx22 : Value} {hx23 : PH} (r24 : RS hx23 vx22 c21) (ex25 : Sub hx23 w) {b28 : Nat} (ex29 : Sub (bx b28 29 [vx22]) w) {vx31 : Value} {hx32 : PH} (r33 : OD hx32 vx31 c30) (ex34 : Sub hx32 w) {b37 : Nat} (ex38 : Sub (bx b37 31 [vx31]) w) (d : Dj hx9 hx16) (d39 : Dj hx9 hx32) (d40 : Dj hx9 (bx b37 31 [vx31])) (d41 : Dj hx16 hx32) (d42 : Dj hx16 (bx b37 31 [vx31])) (d43 : Dj hx32 (bx b37 31 [vx31])) (d44 : Dj hx9 hx) (d45 : Dj hx9 hx2) (d46 : Dj hx9 (bx b19 177 [vx15])) (d47 : Dj hx9 hx23) (d48 : Dj hx9 (bx b28 29 [vx22])) (d49 : Dj hx16 hx) (d50 : Dj hx16 hx2) (d51 : Dj hx16 (bx b19 177 [vx15])) (d52 : Dj hx16 hx23) (d53 : Dj hx16 (bx b28 29 [vx22])) (d54 : Dj hx32 hx) (d55 : Dj hx32 hx2) (d56 : Dj hx32 (bx b19 177 [vx15])) (d57 : Dj hx32 hx23) (d58 : Dj hx32 (bx b28 29 [vx22])) (d59 : Dj (bx b37 31 [vx31]) hx) (d60 : Dj (bx b37 31 [vx31]) hx2) (d61 : Dj (bx b37 31 [vx31]) (bx b19 177 [vx15])) (d62 : Dj (bx b37 31 [vx31]) hx23) (d63 : Dj (bx b37 31 [vx31]) (bx b28 29 [vx22])), CallsTo Try.prog 165 #[vx, vx1, I vx7, vx8, .func (.func 167) #[] #[.pointer (some ⟨b19, 0, none⟩), .pointer (some ⟨b28, 0, none⟩), .pointer (some ⟨b37, 0, none⟩)]] w fun v w' => ∃ m2 m3 k1 k2 v3_ k3, Q m2 m3 ∧ v = .tuple #[] ∧ But (un hx9 (un hx16 (un hx32 (bx b37 31 [vx31])))) w w' ∧ OS 3 k1 emp vx8 sets ∧ Sub k1 w' ∧ (∀ n, DomLe hx9 n k1) ∧ MO k2 vx15 m2 ∧ Sub k2 w' ∧ (∀ n, DomLe hx16 n k2) ∧ OD k3 v3_ m3 ∧ Sub k3 w' ∧ DomLe (un hx9 (un hx16 (un hx32 (bx b37 31 [vx31])))) w.heap.size k3 ∧ Sub (bx b37 31 [v3_]) w' ∧ Dj k1 k2 ∧ Dj k1 k3 ∧ Dj k1 (bx b37 31 [v3_]) ∧ Dj k2 k3 ∧ Dj k2 (bx b37 31 [v3_]) ∧ Dj k3 (bx b37 31 [v3_]) := by
    intro m
    induction m with
    | zero => intro sx inx vx7 sets c14 c21 c30 Q _ hm; exact absurd hm (Nat.not_lt_zero _)
    | succ m ih =>
      intro sx inx vx7 sets c14 c21 c30 Q H0 hm w vx hx r ex vx1 hx2 r3 ex4 vx8 hx9 r10 ex11 vx15 hx16 r17 ex18 b19 ex20 vx22 hx23 r24 ex25 b28 ex29 vx31 hx32 r33 ex34 b37 ex38 d d39 d40 d41 d42 d43 d44 d45 d46 d47 d48 d49 d50 d51 d52 d53 d54 d55 d56 d57 d58 d59 d60 d61 d62 d63
      have H := HS sx inx vx7 sets c14 c21 c30 Q H0
      obtain ⟨a, c, rfl⟩ := r.shape
      obtain ⟨a5, c6, rfl⟩ := r3.shape
      obtain ⟨a12, c13, rfl⟩ := r10.shape
      obtain ⟨b, rfl⟩ := r17.shape
      obtain ⟨a26, c27, rfl⟩ := r24.shape
      obtain ⟨a35, c36, rfl⟩ := r33.shape
      refine enter (args := [.slice a (List.length sx) c, .slice a5 (List.length inx) c6, I vx7, .slice a12 (List.length sets) c13, .func (.func 167) #[] #[.pointer (some ⟨b19, 0, none⟩), .pointer (some ⟨b28, 0, none⟩), .pointer (some ⟨b37, 0, none⟩)]]) 117 Try.func165 rfl rfl rfl ?_
      refine W_forget [(0, .slice a (List.length sx) c), (1, .slice a5 (List.length inx) c6), (2, I vx7), (3, .slice a12 (List.length sets) c13), (4, .func (.func 167) #[] #[.pointer (some ⟨b19, 0, none⟩), .pointer (some ⟨b28, 0, none⟩), .pointer (some ⟨b37, 0, none⟩)])] ⟨rfl, rfl, rfl, rfl, rfl, trivial⟩ fun ρ => ?_
      have D : Dom (un hx9 (un hx16 (un hx32 (bx b37 31 [.slice a35 (List.length c30) c36])))) hx9 := (Dom.l _ _)
      have D64 : Dom (un hx9 (un hx16 (un hx32 (bx b37 31 [.slice a35 (List.length c30) c36])))) hx16 := (Dom.trans (Dom.r _ _) (Dom.l _ _))
      have D65 : Dom (un hx9 (un hx16 (un hx32 (bx b37 31 [.slice a35 (List.length c30) c36])))) hx32 := (Dom.trans (Dom.r _ _) (Dom.trans (Dom.r _ _) (Dom.l _ _)))
      have D66 : Dom (un hx9 (un hx16 (un hx32 (bx b37 31 [.slice a35 (List.length c30) c36])))) (bx b37 31 [.slice a35 (List.length c30) c36]) := (Dom.trans (Dom.r _ _) (Dom.trans (Dom.r _ _) (Dom.trans (Dom.r _ _) (Dom.refl _))))
      have X := But.refl (un hx9 (un hx16 (un hx32 (bx b37 31 [.slice a35 (List.length c30) c36])))) w
      refine W_seq ?_
      refine W_region ?_
      refine LP_ev ok 0 [(18, .slice a12 (List.length sets) c13), (19, I (ln sets)), (10, I (ln sets))] 3 rfl rfl ?_
      refine LP_end _ rfl ?_
      refine W_seq ?_
      refine W_seq ?_
      refine W_region ?_
      refine LP_ev ok 0 [(20, I (ln sets)), (21, .slice a (List.length sx) c), (22, I (ln sx)), (23, .bool ((ln sets) == (ln sx)))] 4 rfl rfl ?_
      refine LP_end _ rfl ?_
      refine W_cond ((ln sets) == (ln sx)) rfl (fun hc => ?_) (fun hc => ?_)
      · have H := H.1 hc
        obtain ⟨k, hk, H⟩ := jn_elim H
        refine W_join2 (S := (List (Int × Bool)) × (List Edit)) (fun s ρ' w' => k s.1 s.2 ∧ ∃ (ρ : Env) (hx67 : PH) (vx69 : Value) (hx70 : PH), ρ' = setAll [] ρ ∧ But (un hx9 (un hx16 (un hx32 (bx b37 31 [.slice a35 (List.length c30) c36])))) w w' ∧ MO hx67 (.map (some b)) s.1 ∧ Sub hx67 w' ∧ (∀ n, DomLe hx16 n hx67) ∧ OD hx70 vx69 s.2 ∧ Sub hx70 w' ∧ DomLe (un hx9 (un hx16 (un hx32 (bx b37 31 [.slice a35 (List.length c30) c36])))) w.heap.size hx70 ∧ Sub hx9 w' ∧ Sub (bx b37 31 [vx69]) w' ∧ Dj hx67 hx9 ∧ Dj hx67 (bx b37 31 [vx69]) ∧ Dj hx70 hx9 ∧ Dj hx70 (bx b37 31 [vx69]) ∧ Dj hx70 hx67) ?_ ?_
        · refine W_seq ?_
          refine W_region ?_
          refine LP_ev ok 0 [(24, .slice a5 (List.length inx) c6)] 1 rfl rfl ?_
          obtain ⟨x84, hi, hx85, H⟩ := H
          refine LP_index 1 rfl rfl rfl Try.underlying179 ti_4 rfl rfl r3 hi hx85 fun a86 cs r87 d88 => ?_
          refine LP_load 2 rfl rfl rfl ti_4 ag_4 rfl r87 d88 ex4 fun vx89 r90 => ?_
          obtain rfl := r90.bool
          refine LP_end _ rfl ?_
          refine W_cond (x84) rfl (fun hc91 => ?_) (fun hc91 => ?_)
          · have H := H.1 hc91
            refine W_region ?_
            refine LP_ev ok 0 [(27, .func (.func 167) #[] #[.pointer (some ⟨b19, 0, none⟩), .pointer (some ⟨b28, 0, none⟩), .pointer (some ⟨b37, 0, none⟩)]), (28, .slice a12 (List.length sets) c13)] 2 rfl rfl ?_
            refine LP_callc 2 rfl rfl rfl rfl cal_167 rfl rfl (impl_maximalEdits_1_w _ _ _ _ _ H w r10.readf ex11 r17 ex18 ex20 r24 ex25 ex29 r33 ex34 ex38 d41 d42 d43 d.symm d51 d52 d53 d39.symm d56 d57 d58 d40.symm d61 d62 d63) ?_
            rintro _ wx94 ⟨r92, r93, hx96, vx103, hx99, H, rfl, x95, o97, ex98, dm, o100, ex101, dm102, ex104, d105, d106, d107⟩
            obtain ⟨a108, c109, rfl⟩ := o100.shape
            refine LP_end _ rfl ?_
            have X110 := (X.step x95 (DomLe.un (Dom.le D64 _) (DomLe.un (Dom.le D65 _) (Dom.le D66 _))))
            have ex111 := (ex11.but x95 (Dj.un_l d.symm (Dj.un_l d39.symm d40.symm)))
            exact ⟨(r92, r93), H, _, hx96, .slice a108 (List.length r93) c109, hx99, env_eq trivial, X110, o97, ex98, (fun _ => DomLe.trans (DomLe.refl _ _) ((dm _)) (Nat.le_refl _)), o100, ex101, (DomLe.trans (DomLe.un (Dom.le D64 _) (DomLe.un (Dom.le D65 _) (Dom.le D66 _))) dm102 X.size), ex111, ex104, (DomLe.dj (dm _) d.symm ex11), d106, (DomLe.dj dm102 (Dj.un_l d.symm (Dj.un_l d39.symm d40.symm)) ex11), d107, d105.symm⟩
          have H := H.2 hc91
          refine W_skip ?_
          exact ⟨(c14, c30), H, _, hx16, .slice a35 (List.length c30) c36, hx32, env_eq trivial, X, r17, ex18, (fun _ => DomLe.refl _ _), r33, ex34, (Dom.le D65 _), ex11, ex38, d.symm, d42, d39.symm, d43, d41.symm⟩
        rintro ⟨mp, x⟩ _ wx ⟨H, ρ, hx67, vx69, hx70, rfl, X83, o, ex68, f, o71, ex72, f73, ex74, ex77, d78, d79, d80, d81, d82⟩
        subst hk
        obtain ⟨a75, c76, rfl⟩ := o71.shape
        refine W_ret ?_
        exact ⟨_, Ret_of [] trivial, _, _, _, _, _, _, H, rfl, X83, r10, ex74, (fun _ => DomLe.refl _ _), o, ex68, (fun _ => f _), o71, ex72, f73, ex77, d78.symm, d80.symm, (Dj.box d40.symm).symm, d82.symm, d79, d81⟩
      have H := H.2 hc
      refine W_skip ?_
      refine W_seq ?_
      refine W_region ?_
      refine LP_ev ok 0 [(30, .slice a5 (List.length inx) c6), (31, I (ln inx)), (32, .slice a (List.length sx) c), (33, I (ln sets))] 4 rfl rfl ?_
      obtain ⟨x112, hi113, hx114, H⟩ := H
      refine LP_index 4 rfl rfl rfl Try.underlying29 ti_107 rfl rfl r hi113 hx114 fun a115 cs116 r117 d118 => ?_
      refine LP_ev ok 5 [(35, .pointer (some (Addr.add a115 1)))] 6 rfl rfl ?_
      refine LP_ldfld (x := x112) (off := 1) 6 (v := I x112.Levels) rfl rfl rfl ti_3 ag_3 (fun _ => rfl) rfl r117 d118 ex rfl rfl ?_
      obtain ⟨hz, H⟩ := H
      refine LP_val 7 _ rfl rfl (ex_quo rfl rfl rfl hz _) ?_
      refine LP_ev ok 8 [(11, I (wr (Int.tdiv (ln inx) x112.Levels)))] 9 rfl rfl ?_
      refine LP_end _ rfl ?_
      refine W_seq ?_
      refine W_region ?_
      refine LP_ev ok 0 [(12, I 1)] 1 rfl rfl ?_
      refine LP_end _ rfl ?_
      obtain ⟨k130, hk131, H⟩ := jn_elim H
      refine W_join2 (S := Int) (fun s ρ' w' => k130 s ∧ ∃ (ρ : Env), ρ' = setAll [(0, .slice a (List.length sx) c), (1, .slice a5 (List.length inx) c6), (2, I vx7), (3, .slice a12 (List.length sets) c13), (4, .func (.func 167) #[] #[.pointer (some ⟨b19, 0, none⟩), .pointer (some ⟨b28, 0, none⟩), .pointer (some ⟨b37, 0, none⟩)]), (10, I (ln sets)), (11, I (wr (Int.tdiv (ln inx) x112.Levels))), (12, I s)] ρ ∧ But (un hx9 (un hx16 (un hx32 (bx b37 31 [.slice a35 (List.length c30) c36])))) w w' ∧ Sub hx w' ∧ Sub hx2 w' ∧ Sub hx9 w' ∧ Sub hx16 w' ∧ Sub (bx b19 177 [.map (some b)]) w' ∧ Sub hx23 w' ∧ Sub (bx b28 29 [.slice a26 (List.length c21) c27]) w' ∧ Sub hx32 w' ∧ Sub (bx b37 31 [.slice a35 (List.length c30) c36]) w') ?_ ?_
      · refine W_seq ?_
        refine W_region ?_
        refine LP_ev ok 0 [(38, I (ln sets)), (39, I vx7), (40, .bool ((ln sets) == vx7))] 3 rfl rfl ?_
        refine LP_end _ rfl ?_
        refine W_cond ((ln sets) == vx7) rfl (fun hc132 => ?_) (fun hc132 => ?_)
        · have H := H.1 hc132
          refine W_region ?_
          refine LP_ev ok 0 [(41, .slice a (List.length sx) c), (42, I (ln sets))] 2 rfl rfl ?_
          obtain ⟨x133, hi134, hx135, H⟩ := H
          refine LP_index 2 rfl rfl rfl Try.underlying29 ti_107 rfl rfl r hi134 hx135 fun a136 cs137 r138 d139 => ?_
          refine LP_load 3 rfl rfl rfl ti_107 ag_107 rfl r138 d139 ex fun vx140 r141 => ?_
          obtain rfl := Variable_rv r141
          refine LP_call 4 rfl rfl rfl cal_172 rfl (impl_fullSet_w _ _ H w ) ?_
          rintro _ wx143 ⟨r142, H, rfl, x144⟩
          refine LP_ev ok 5 [(12, I r142)] 6 rfl rfl ?_
          refine LP_end _ rfl ?_
          try refine W_forget [(0, .slice a (List.length sx) c), (1, .slice a5 (List.length inx) c6), (2, I vx7), (3, .slice a12 (List.length sets) c13), (4, .func (.func 167) #[] #[.pointer (some ⟨b19, 0, none⟩), .pointer (some ⟨b28, 0, none⟩), .pointer (some ⟨b37, 0, none⟩)]), (10, I (ln sets)), (11, I (wr (Int.tdiv (ln inx) x112.Levels))), (12, I r142)] ⟨rfl, rfl, rfl, rfl, rfl, rfl, rfl, rfl, trivial⟩ fun ρ => ?_
          have X145 := (X.stepx x144)
          have ex146 := (ex.ext x144)
          have ex147 := (ex4.ext x144)
          have ex148 := (ex11.ext x144)
          have ex149 := (ex18.ext x144)
          have ex150 := (ex20.ext x144)
          have ex151 := (ex25.ext x144)
          have ex152 := (ex29.ext x144)
          have ex153 := (ex34.ext x144)
          have ex154 := (ex38.ext x144)
          exact ⟨r142, H, _, env_eq ⟨rfl, rfl, rfl, rfl, rfl, rfl, rfl, rfl, trivial⟩, X145, ex146, ex147, ex148, ex149, ex150, ex151, ex152, ex153, ex154⟩
        have H := H.2 hc132
        refine W_skip ?_
        exact ⟨1, H, _, env_eq ⟨rfl, rfl, rfl, rfl, rfl, rfl, rfl, rfl, trivial⟩, X, ex, ex4, ex11, ex18, ex20, ex25, ex29, ex34, ex38⟩
      rintro least _ wx119 ⟨H, ρ, rfl, X129, ex120, ex121, ex122, ex123, ex124, ex125, ex126, ex127, ex128⟩
      subst hk131
      refine W_seq ?_
      refine W_region ?_
      refine LP_ev ok 0 [(46, I least), (13, I least)] 2 rfl rfl ?_
      refine LP_end _ rfl ?_
      refine W_block ?_
      obtain ⟨J, m202, Hx, H⟩ := H
      refine W_loop (S := Int × (List (Int × Bool)) × (List Edit)) (fun s ρ' w' => J s.1 s.2.1 s.2.2 ∧ ∃ (ρ : Env) (hx156 : PH) (hx161 : PH) (vx166 : Value) (hx167 : PH), ρ' = setAll [(0, .slice a (List.length sx) c), (1, .slice a5 (List.length inx) c6), (2, I vx7), (3, .slice a12 (List.length sets) c13), (4, .func (.func 167) #[] #[.pointer (some ⟨b19, 0, none⟩), .pointer (some ⟨b28, 0, none⟩), .pointer (some ⟨b37, 0, none⟩)]), (10, I (ln sets)), (11, I (wr (Int.tdiv (ln inx) x112.Levels))), (13, I s.1)] ρ ∧ But (un hx9 (un hx16 (un hx32 (bx b37 31 [.slice a35 (List.length c30) c36])))) w w' ∧ OS 3 hx156 emp (.slice a12 (List.length sets) c13) sets ∧ Sub hx156 w' ∧ (∀ n, DomLe hx9 n hx156) ∧ MO hx161 (.map (some b)) s.2.1 ∧ Sub hx161 w' ∧ (∀ n, DomLe hx16 n hx161) ∧ OD hx167 vx166 s.2.2 ∧ Sub hx167 w' ∧ DomLe (un hx9 (un hx16 (un hx32 (bx b37 31 [.slice a35 (List.length c30) c36])))) w.heap.size hx167 ∧ Sub hx w' ∧ Sub hx2 w' ∧ Sub (bx b19 177 [.map (some b)]) w' ∧ Sub hx23 w' ∧ Sub (bx b28 29 [.slice a26 (List.length c21) c27]) w' ∧ Sub (bx b37 31 [vx166]) w' ∧ Dj hx156 hx ∧ Dj hx156 hx2 ∧ Dj hx156 (bx b19 177 [.map (some b)]) ∧ Dj hx156 hx23 ∧ Dj hx156 (bx b28 29 [.slice a26 (List.length c21) c27]) ∧ Dj hx156 (bx b37 31 [vx166]) ∧ Dj hx161 hx ∧ Dj hx161 hx2 ∧ Dj hx161 (bx b19 177 [.map (some b)]) ∧ Dj hx161 hx23 ∧ Dj hx161 (bx b28 29 [.slice a26 (List.length c21) c27]) ∧ Dj hx161 (bx b37 31 [vx166]) ∧ Dj hx161 hx156 ∧ Dj hx167 hx ∧ Dj hx167 hx2 ∧ Dj hx167 (bx b19 177 [.map (some b)]) ∧ Dj hx167 hx23 ∧ Dj hx167 (bx b28 29 [.slice a26 (List.length c21) c27]) ∧ Dj hx167 (bx b37 31 [vx166]) ∧ Dj hx167 hx156 ∧ Dj hx167 hx161) (fun s => m202 s.1 s.2.1 s.2.2) (least, c14, c30) ⟨Hx, _, hx9, hx16, .slice a35 (List.length c30) c36, hx32, env_eq ⟨rfl, rfl, rfl, rfl, rfl, rfl, rfl, rfl, trivial⟩, X129, r10, ex122, (fun _ => DomLe.refl _ _), r17, ex123, (fun _ => DomLe.refl _ _), r33, ex127, (Dom.le D65 _), ex120, ex121, ex124, ex125, ex126, ex128, d44, d45, d46, d47, d48, d40, d49, d50, d51, d52, d53, d42, d.symm, d54, d55, d56, d57, d58, d43, d39.symm, d41.symm⟩ ?_
      rintro ⟨setx, mp160, x165⟩ _ wx171 ⟨Hi, ρ, hx156, hx161, vx166, hx167, rfl, X201, o157, ex158, f159, o162, ex163, f164, o168, ex169, f170, ex172, ex173, ex174, ex175, ex176, ex179, d180, d181, d182, d183, d184, d185, d186, d187, d188, d189, d190, d191, d192, d193, d194, d195, d196, d197, d198, d199, d200⟩
      have H := H setx mp160 x165 Hi
      obtain ⟨a177, c178, rfl⟩ := o168.shape
      refine W_seq ?_
      refine W_seq ?_
      refine W_region ?_
      refine LP_ev ok 0 [(47, I setx), (48, .slice a (List.length sx) c), (49, I (ln sets))] 3 rfl rfl ?_
      obtain ⟨x203, hi204, hx205, H⟩ := H
      refine LP_index 3 rfl rfl rfl Try.underlying29 ti_107 rfl rfl r hi204 hx205 fun a206 cs207 r208 d209 => ?_
      refine LP_load 4 rfl rfl rfl ti_107 ag_107 rfl r208 d209 ex172 fun vx210 r211 => ?_
      obtain rfl := Variable_rv r211
      refine LP_call 5 rfl rfl rfl cal_172 rfl (impl_fullSet_w _ _ H wx171 ) ?_
      rintro _ wx213 ⟨r212, H, rfl, x214⟩
      refine LP_ev ok 6 [(53, .bool (decide (setx ≤ r212)))] 7 rfl rfl ?_
      refine LP_end _ rfl ?_
      refine W_cond (decide (setx ≤ r212)) rfl (fun hc215 => ?_) (fun hc215 => ?_)
      · have H := H.1 hc215
        refine W_skip ?_
        obtain ⟨k263, hk264, H⟩ := jn_elim H
        refine W_join2 (S := (List (Int × Bool)) × (List Edit)) (fun s ρ' w' => k263 s.1 s.2 ∧ ∃ (ρ : Env) (hx217 : PH) (hx222 : PH) (vx227 : Value) (hx228 : PH), ρ' = setAll [(0, .slice a (List.length sx) c), (1, .slice a5 (List.length inx) c6), (2, I vx7), (3, .slice a12 (List.length sets) c13), (4, .func (.func 167) #[] #[.pointer (some ⟨b19, 0, none⟩), .pointer (some ⟨b28, 0, none⟩), .pointer (some ⟨b37, 0, none⟩)]), (10, I (ln sets)), (11, I (wr (Int.tdiv (ln inx) x112.Levels))), (13, I setx)] ρ ∧ But (un hx9 (un hx16 (un hx32 (bx b37 31 [.slice a35 (List.length c30) c36])))) w w' ∧ OS 3 hx217 emp (.slice a12 (List.length sets) c13) sets ∧ Sub hx217 w' ∧ (∀ n, DomLe hx9 n hx217) ∧ MO hx222 (.map (some b)) s.1 ∧ Sub hx222 w' ∧ (∀ n, DomLe hx16 n hx222) ∧ OD hx228 vx227 s.2 ∧ Sub hx228 w' ∧ DomLe (un hx9 (un hx16 (un hx32 (bx b37 31 [.slice a35 (List.length c30) c36])))) w.heap.size hx228 ∧ Sub hx w' ∧ Sub hx2 w' ∧ Sub (bx b19 177 [.map (some b)]) w' ∧ Sub hx23 w' ∧ Sub (bx b28 29 [.slice a26 (List.length c21) c27]) w' ∧ Sub (bx b37 31 [vx227]) w' ∧ Dj hx217 hx ∧ Dj hx217 hx2 ∧ Dj hx217 (bx b19 177 [.map (some b)]) ∧ Dj hx217 hx23 ∧ Dj hx217 (bx b28 29 [.slice a26 (List.length c21) c27]) ∧ Dj hx217 (bx b37 31 [vx227]) ∧ Dj hx222 hx ∧ Dj hx222 hx2 ∧ Dj hx222 (bx b19 177 [.map (some b)]) ∧ Dj hx222 hx23 ∧ Dj hx222 (bx b28 29 [.slice a26 (List.length c21) c27]) ∧ Dj hx222 (bx b37 31 [vx227]) ∧ Dj hx222 hx217 ∧ Dj hx228 hx ∧ Dj hx228 hx2 ∧ Dj hx228 (bx b19 177 [.map (some b)]) ∧ Dj hx228 hx23 ∧ Dj hx228 (bx b28 29 [.slice a26 (List.length c21) c27]) ∧ Dj hx228 (bx b37 31 [vx227]) ∧ Dj hx228 hx217 ∧ Dj hx228 hx222) ?_ ?_
        · refine W_block ?_
          refine W_seq ?_
          refine W_region ?_
          refine LP_ev ok 0 [(56, I (wr (Int.tdiv (ln inx) x112.Levels)))] 1 rfl rfl ?_
          obtain ⟨hn, hb, H⟩ := H
          refine LP_make (α := Bool) 1 rfl rfl rfl Try.underlying179 ti_4 (x0 := false) rfl rfl hn (by first | omega | (simp only [ln] at *; omega)) (by first | omega | (simp only [ln] at *; omega)) fun hx265 vx266 wx267 x268 o269 ex270 f271 => ?_
          obtain ⟨a272, c273, rfl⟩ := o269.shape
          refine LP_ev ok 2 [(14, .slice a272 (List.length (List.replicate (Int.toNat (wr (Int.tdiv (ln inx) x112.Levels))) false)) c273)] 3 rfl rfl ?_
          refine LP_end _ rfl ?_
          refine W_seq ?_
          refine W_region ?_
          refine LP_ev ok 0 [(15, .bool false)] 1 rfl rfl ?_
          refine LP_end _ rfl ?_
          refine W_seq ?_
          refine W_seq ?_
          refine W_region ?_
          refine LP_ev ok 0 [(58, .slice a272 (List.length (List.replicate (Int.toNat (wr (Int.tdiv (ln inx) x112.Levels))) false)) c273), (59, I (ln (List.replicate (Int.toNat (wr (Int.tdiv (ln inx) x112.Levels))) false))), (60, I 0)] 3 rfl rfl ?_
          refine LP_end _ rfl ?_
          refine W_block ?_
          have X303 := ((X201.stepx x214).stepx x268)
          have X305 := (X201.stepx x214)
          have f304 := f271.mono X305.size
          have ex306 := ((ex172.ext x214).ext x268)
          have ex307 := ((ex173.ext x214).ext x268)
          have ex308 := ((ex158.ext x214).ext x268)
          have ex309 := ((ex163.ext x214).ext x268)
          have ex310 := ((ex174.ext x214).ext x268)
          have ex311 := ((ex175.ext x214).ext x268)
          have ex312 := ((ex176.ext x214).ext x268)
          have ex313 := ((ex179.ext x214).ext x268)
          have ex314 := ((ex169.ext x214).ext x268)
          have ex315 := (ex172.ext x214)
          have ex316 := (ex173.ext x214)
          have ex317 := (ex158.ext x214)
          have ex318 := (ex163.ext x214)
          have ex319 := (ex174.ext x214)
          have ex320 := (ex175.ext x214)
          have ex321 := (ex176.ext x214)
          have ex322 := (ex179.ext x214)
          have ex323 := (ex169.ext x214)
          obtain ⟨J300, m301, Hx302, H⟩ := H
          refine W_loop (S := (List Bool) × Bool × Int) (fun s ρ' w' => J300 s.1 s.2.1 s.2.2 ∧ ∃ (ρ : Env) (hx275 : PH), ρ' = setAll [(0, .slice a (List.length sx) c), (1, .slice a5 (List.length inx) c6), (2, I vx7), (3, .slice a12 (List.length sets) c13), (4, .func (.func 167) #[] #[.pointer (some ⟨b19, 0, none⟩), .pointer (some ⟨b28, 0, none⟩), .pointer (some ⟨b37, 0, none⟩)]), (10, I (ln sets)), (11, I (wr (Int.tdiv (ln inx) x112.Levels))), (13, I setx), (14, .slice a272 (List.length (List.replicate (Int.toNat (wr (Int.tdiv (ln inx) x112.Levels))) false)) c273), (15, .bool s.2.1), (59, I (ln (List.replicate (Int.toNat (wr (Int.tdiv (ln inx) x112.Levels))) false))), (60, I s.2.2)] ρ ∧ But (un hx9 (un hx16 (un hx32 (bx b37 31 [.slice a35 (List.length c30) c36])))) w w' ∧ OS 4 hx275 emp (.slice a272 (List.length (List.replicate (Int.toNat (wr (Int.tdiv (ln inx) x112.Levels))) false)) c273) s.1 ∧ Sub hx275 w' ∧ Fresh w.heap.size hx275 ∧ Sub hx w' ∧ Sub hx2 w' ∧ Sub hx156 w' ∧ Sub hx161 w' ∧ Sub (bx b19 177 [.map (some b)]) w' ∧ Sub hx23 w' ∧ Sub (bx b28 29 [.slice a26 (List.length c21) c27]) w' ∧ Sub (bx b37 31 [.slice a177 (List.length x165) c178]) w' ∧ Sub hx167 w' ∧ Dj hx275 hx ∧ Dj hx275 hx2 ∧ Dj hx275 hx156 ∧ Dj hx275 hx161 ∧ Dj hx275 (bx b19 177 [.map (some b)]) ∧ Dj hx275 hx23 ∧ Dj hx275 (bx b28 29 [.slice a26 (List.length c21) c27]) ∧ Dj hx275 (bx b37 31 [.slice a177 (List.length x165) c178]) ∧ Dj hx275 hx167) (fun s => m301 s.1 s.2.1 s.2.2) (List.replicate (Int.toNat (wr (Int.tdiv (ln inx) x112.Levels))) false, false, 0) ⟨Hx302, _, hx265, env_eq ⟨rfl, rfl, rfl, rfl, rfl, rfl, rfl, rfl, rfl, rfl, rfl, rfl, trivial⟩, X303, o269, ex270, f304, ex306, ex307, ex308, ex309, ex310, ex311, ex312, ex313, ex314, (Dj.of_fresh ex315 f271).symm, (Dj.of_fresh ex316 f271).symm, (Dj.of_fresh ex317 f271).symm, (Dj.of_fresh ex318 f271).symm, (Dj.of_fresh ex319 f271).symm, (Dj.of_fresh ex320 f271).symm, (Dj.of_fresh ex321 f271).symm, (Dj.of_fresh ex322 f271).symm, (Dj.of_fresh ex323 f271).symm⟩ ?_
          rintro ⟨rest, any, x279⟩ _ wx280 ⟨Hi, ρ, hx275, rfl, X299, o276, ex277, f278, ex281, ex282, ex283, ex284, ex285, ex286, ex287, ex288, ex289, d290, d291, d292, d293, d294, d295, d296, d297, d298⟩
          have H := H rest any x279 Hi
          refine W_seq ?_
          refine W_region ?_
          refine LP_ev ok 0 [(61, .bool (decide (x279 < (ln (List.replicate (Int.toNat (wr (Int.tdiv (ln inx) x112.Levels))) false)))))] 1 rfl rfl ?_
          refine LP_end _ rfl ?_
          refine W_seq ?_
          refine W_cond (decide (x279 < (ln (List.replicate (Int.toNat (wr (Int.tdiv (ln inx) x112.Levels))) false)))) rfl (fun hc325 => ?_) (fun hc325 => ?_)
          · have H := H.1 hc325
            refine W_skip ?_
            obtain ⟨k353, hk354, H⟩ := jn_elim H
            refine W_join2 (S := (List Bool) × Bool) (fun s ρ' w' => k353 s.1 s.2 ∧ ∃ (ρ : Env) (hx328 : PH), ρ' = setAll [(0, .slice a (List.length sx) c), (1, .slice a5 (List.length inx) c6), (2, I vx7), (3, .slice a12 (List.length sets) c13), (4, .func (.func 167) #[] #[.pointer (some ⟨b19, 0, none⟩), .pointer (some ⟨b28, 0, none⟩), .pointer (some ⟨b37, 0, none⟩)]), (10, I (ln sets)), (11, I (wr (Int.tdiv (ln inx) x112.Levels))), (13, I setx), (14, .slice a272 (List.length (List.replicate (Int.toNat (wr (Int.tdiv (ln inx) x112.Levels))) false)) c273), (15, .bool s.2), (59, I (ln (List.replicate (Int.toNat (wr (Int.tdiv (ln inx) x112.Levels))) false))), (60, I x279)] ρ ∧ But (un hx9 (un hx16 (un hx32 (bx b37 31 [.slice a35 (List.length c30) c36])))) w w' ∧ OS 4 hx328 emp (.slice a272 (List.length (List.replicate (Int.toNat (wr (Int.tdiv (ln inx) x112.Levels))) false)) c273) s.1 ∧ Sub hx328 w' ∧ Fresh w.heap.size hx328 ∧ Sub hx w' ∧ Sub hx2 w' ∧ Sub hx156 w' ∧ Sub hx161 w' ∧ Sub (bx b19 177 [.map (some b)]) w' ∧ Sub hx23 w' ∧ Sub (bx b28 29 [.slice a26 (List.length c21) c27]) w' ∧ Sub (bx b37 31 [.slice a177 (List.length x165) c178]) w' ∧ Sub hx167 w' ∧ Dj hx328 hx ∧ Dj hx328 hx2 ∧ Dj hx328 hx156 ∧ Dj hx328 hx161 ∧ Dj hx328 (bx b19 177 [.map (some b)]) ∧ Dj hx328 hx23 ∧ Dj hx328 (bx b28 29 [.slice a26 (List.length c21) c27]) ∧ Dj hx328 (bx b37 31 [.slice a177 (List.length x165) c178]) ∧ Dj hx328 hx167) ?_ ?_
            · refine W_block ?_
              refine W_seq ?_
              refine W_region ?_
              refine LP_ev ok 0 [(62, I x279), (16, I x279)] 2 rfl rfl ?_
              refine LP_end _ rfl ?_
              refine W_seq ?_
              refine W_region ?_
              refine LP_ev ok 0 [(63, .slice a272 (List.length (List.replicate (Int.toNat (wr (Int.tdiv (ln inx) x112.Levels))) false)) c273), (64, I x279)] 2 rfl rfl ?_
              obtain ⟨hi355, hl, H⟩ := H
              refine LP_indexw (v := .slice a272 (List.length (List.replicate (Int.toNat (wr (Int.tdiv (ln inx) x112.Levels))) false)) c273) 2 rfl rfl rfl Try.underlying179 ti_4 rfl rfl o276 hi355 hl fun a356 wa => ?_
              refine LP_set 3 rfl rfl rfl rfl rfl wa (Le.refl emp) ⟨_, rfl, rfl⟩ ex277 fun hx357 wx358 o359 ex360 y dm361 => ?_
              refine LP_end _ rfl ?_
              refine W_seq ?_
              refine W_seq ?_
              refine W_region ?_
              refine LP_ev ok 0 [(66, .slice a (List.length sx) c), (67, I (ln sets))] 2 rfl rfl ?_
              obtain ⟨x362, hi363, hx364, H⟩ := H
              refine LP_index 2 rfl rfl rfl Try.underlying29 ti_107 rfl rfl r hi363 hx364 fun a365 cs366 r367 d368 => ?_
              refine LP_ev ok 3 [(69, .pointer (some (Addr.add a365 1)))] 4 rfl rfl ?_
              have ex369 := (ex281.but y d290)
              refine LP_ldfld (x := x362) (off := 1) 4 (v := I x362.Levels) rfl rfl rfl ti_3 ag_3 (fun _ => rfl) rfl r367 d368 ex369 rfl rfl ?_
              refine LP_ev ok 5 [(71, I 0)] 6 rfl rfl ?_
              refine LP_end _ rfl ?_
              refine W_block ?_
              have X400 := (X299.step y (f278.dom _))
              have f401 := (dm361 _).fresh f278 X299.size
              have ex402 := (ex282.but y d291)
              have ex403 := (ex283.but y d292)
              have ex404 := (ex284.but y d293)
              have ex405 := (ex285.but y d294)
              have ex406 := (ex286.but y d295)
              have ex407 := (ex287.but y d296)
              have ex408 := (ex288.but y d297)
              have ex409 := (ex289.but y d298)
              obtain ⟨J397, m398, Hx399, H⟩ := H
              refine W_loop (S := (List Bool) × Int) (fun s ρ' w' => J397 s.1 s.2 ∧ ∃ (ρ : Env) (hx372 : PH), ρ' = setAll [(0, .slice a (List.length sx) c), (1, .slice a5 (List.length inx) c6), (2, I vx7), (3, .slice a12 (List.length sets) c13), (4, .func (.func 167) #[] #[.pointer (some ⟨b19, 0, none⟩), .pointer (some ⟨b28, 0, none⟩), .pointer (some ⟨b37, 0, none⟩)]), (10, I (ln sets)), (11, I (wr (Int.tdiv (ln inx) x112.Levels))), (13, I setx), (14, .slice a272 (List.length (List.replicate (Int.toNat (wr (Int.tdiv (ln inx) x112.Levels))) false)) c273), (15, .bool any), (16, I x279), (59, I (ln (List.replicate (Int.toNat (wr (Int.tdiv (ln inx) x112.Levels))) false))), (60, I x279), (70, I x362.Levels), (71, I s.2)] ρ ∧ But (un hx9 (un hx16 (un hx32 (bx b37 31 [.slice a35 (List.length c30) c36])))) w w' ∧ OS 4 hx372 emp (.slice a272 (List.length (List.replicate (Int.toNat (wr (Int.tdiv (ln inx) x112.Levels))) false)) c273) s.1 ∧ Sub hx372 w' ∧ Fresh w.heap.size hx372 ∧ Sub hx w' ∧ Sub hx2 w' ∧ Sub hx156 w' ∧ Sub hx161 w' ∧ Sub (bx b19 177 [.map (some b)]) w' ∧ Sub hx23 w' ∧ Sub (bx b28 29 [.slice a26 (List.length c21) c27]) w' ∧ Sub (bx b37 31 [.slice a177 (List.length x165) c178]) w' ∧ Sub hx167 w' ∧ Dj hx372 hx ∧ Dj hx372 hx2 ∧ Dj hx372 hx156 ∧ Dj hx372 hx161 ∧ Dj hx372 (bx b19 177 [.map (some b)]) ∧ Dj hx372 hx23 ∧ Dj hx372 (bx b28 29 [.slice a26 (List.length c21) c27]) ∧ Dj hx372 (bx b37 31 [.slice a177 (List.length x165) c178]) ∧ Dj hx372 hx167) (fun s => m398 s.1 s.2) (List.set rest (Int.toNat x279) true, 0) ⟨Hx399, _, hx357, env_eq ⟨rfl, rfl, rfl, rfl, rfl, rfl, rfl, rfl, rfl, rfl, rfl, rfl, rfl, rfl, rfl, trivial⟩, X400, o359, ex360, f401, ex369, ex402, ex403, ex404, ex405, ex406, ex407, ex408, ex409, (DomLe.dj (dm361 _) d290 ex281), (DomLe.dj (dm361 _) d291 ex282), (DomLe.dj (dm361 _) d292 ex283), (DomLe.dj (dm361 _) d293 ex284), (DomLe.dj (dm361 _) d294 ex285), (DomLe.dj (dm361 _) d295 ex286), (DomLe.dj (dm361 _) d296 ex287), (DomLe.dj (dm361 _) d297 ex288), (DomLe.dj (dm361 _) d298 ex289)⟩ ?_
              rintro ⟨rest370, x376⟩ _ wx377 ⟨Hi, ρ, hx372, rfl, X396, o373, ex374, f375, ex378, ex379, ex380, ex381, ex382, ex383, ex384, ex385, ex386, d387, d388, d389, d390, d391, d392, d393, d394, d395⟩
              have H := H rest370 x376 Hi
              refine W_seq ?_
              refine W_region ?_
              refine LP_ev ok 0 [(72, .bool (decide (x376 < x362.Levels)))] 1 rfl rfl ?_
              refine LP_end _ rfl ?_
              refine W_seq ?_
              refine W_cond (decide (x376 < x362.Levels)) rfl (fun hc411 => ?_) (fun hc411 => ?_)
              · have H := H.1 hc411
                refine W_skip ?_
                obtain ⟨k438, hk439, H⟩ := jn_elim H
                refine W_join2 (S := (List Bool)) (fun s ρ' w' => k438 s ∧ ∃ (ρ : Env) (hx414 : PH), ρ' = setAll [(0, .slice a (List.length sx) c), (1, .slice a5 (List.length inx) c6), (2, I vx7), (3, .slice a12 (List.length sets) c13), (4, .func (.func 167) #[] #[.pointer (some ⟨b19, 0, none⟩), .pointer (some ⟨b28, 0, none⟩), .pointer (some ⟨b37, 0, none⟩)]), (10, I (ln sets)), (11, I (wr (Int.tdiv (ln inx) x112.Levels))), (13, I setx), (14, .slice a272 (List.length (List.replicate (Int.toNat (wr (Int.tdiv (ln inx) x112.Levels))) false)) c273), (15, .bool any), (16, I x279), (59, I (ln (List.replicate (Int.toNat (wr (Int.tdiv (ln inx) x112.Levels))) false))), (60, I x279), (70, I x362.Levels), (71, I x376)] ρ ∧ But (un hx9 (un hx16 (un hx32 (bx b37 31 [.slice a35 (List.length c30) c36])))) w w' ∧ OS 4 hx414 emp (.slice a272 (List.length (List.replicate (Int.toNat (wr (Int.tdiv (ln inx) x112.Levels))) false)) c273) s ∧ Sub hx414 w' ∧ Fresh w.heap.size hx414 ∧ Sub hx w' ∧ Sub hx2 w' ∧ Sub hx156 w' ∧ Sub hx161 w' ∧ Sub (bx b19 177 [.map (some b)]) w' ∧ Sub hx23 w' ∧ Sub (bx b28 29 [.slice a26 (List.length c21) c27]) w' ∧ Sub (bx b37 31 [.slice a177 (List.length x165) c178]) w' ∧ Sub hx167 w' ∧ Dj hx414 hx ∧ Dj hx414 hx2 ∧ Dj hx414 hx156 ∧ Dj hx414 hx161 ∧ Dj hx414 (bx b19 177 [.map (some b)]) ∧ Dj hx414 hx23 ∧ Dj hx414 (bx b28 29 [.slice a26 (List.length c21) c27]) ∧ Dj hx414 (bx b37 31 [.slice a177 (List.length x165) c178]) ∧ Dj hx414 hx167) ?_ ?_
                · refine W_block ?_
                  refine W_seq ?_
                  refine W_region ?_
                  refine LP_ev ok 0 [(73, I x376), (17, I x376)] 2 rfl rfl ?_
                  refine LP_end _ rfl ?_
                  refine W_region ?_
                  refine LP_ev ok 0 [(74, .slice a272 (List.length (List.replicate (Int.toNat (wr (Int.tdiv (ln inx) x112.Levels))) false)) c273), (75, I x279), (76, .slice a272 (List.length (List.replicate (Int.toNat (wr (Int.tdiv (ln inx) x112.Levels))) false)) c273), (77, I x279)] 4 rfl rfl ?_
                  obtain ⟨x440, hi441, hx442, H⟩ := H
                  refine LP_index 4 rfl rfl rfl Try.underlying179 ti_4 rfl rfl o373.readf hi441 hx442 fun a443 cs444 r445 d446 => ?_
                  refine LP_load 5 rfl rfl rfl ti_4 ag_4 rfl r445 d446 ex374 fun vx447 r448 => ?_
                  obtain rfl := r448.bool
                  refine LP_ev ok 6 [(80, .bool x440)] 7 rfl rfl ?_
                  refine LP_split 80 (x440) rfl (fun hc449 => ?_) (fun hc449 => ?_)
                  · have H := H.1 hc449
                    refine LP_ev ok 7 [(81, I setx), (82, I x376)] 9 rfl rfl ?_
                    obtain ⟨hz450, H⟩ := H
                    refine LP_val 9 _ rfl rfl (ex_shr rfl rfl rfl hz450 _) ?_
                    refine LP_ev ok 10 [(84, I (bits .and .i64 (shr .i64 setx x376) 1)), (85, .bool ((bits .and .i64 (shr .i64 setx x376) 1) == 0)), (86, .bool ((bits .and .i64 (shr .i64 setx x376) 1) == 0))] 13 rfl rfl ?_
                    refine LP_split 86 ((bits .and .i64 (shr .i64 setx x376) 1) == 0) rfl (fun hc451 => ?_) (fun hc451 => ?_)
                    · have H := H.1 hc451
                      refine LP_ev ok 13 [(87, undef), (88, undef), (89, undef), (90, undef), (91, undef), (92, undef), (93, undef), (94, undef), (95, .bool true), (96, .bool true)] 23 rfl rfl ?_
                      obtain ⟨hi452, hl453, H⟩ := H
                      refine LP_indexw (v := .slice a272 (List.length (List.replicate (Int.toNat (wr (Int.tdiv (ln inx) x112.Levels))) false)) c273) 23 rfl rfl rfl Try.underlying179 ti_4 rfl rfl o373 hi452 hl453 fun a454 wa455 => ?_
                      refine LP_set 24 rfl rfl rfl rfl rfl wa455 (Le.refl emp) ⟨_, rfl, rfl⟩ ex374 fun hx456 wx457 o458 ex459 y460 dm461 => ?_
                      refine LP_end _ rfl ?_
                      try refine W_forget [(0, .slice a (List.length sx) c), (1, .slice a5 (List.length inx) c6), (2, I vx7), (3, .slice a12 (List.length sets) c13), (4, .func (.func 167) #[] #[.pointer (some ⟨b19, 0, none⟩), .pointer (some ⟨b28, 0, none⟩), .pointer (some ⟨b37, 0, none⟩)]), (10, I (ln sets)), (11, I (wr (Int.tdiv (ln inx) x112.Levels))), (13, I setx), (14, .slice a272 (List.length (List.replicate (Int.toNat (wr (Int.tdiv (ln inx) x112.Levels))) false)) c273), (15, .bool any), (16, I x279), (59, I (ln (List.replicate (Int.toNat (wr (Int.tdiv (ln inx) x112.Levels))) false))), (60, I x279), (70, I x362.Levels), (71, I x376), (81, I setx), (82, I x376), (83, I (shr .i64 setx x376)), (84, I (bits .and .i64 (shr .i64 setx x376) 1)), (85, .bool ((bits .and .i64 (shr .i64 setx x376) 1) == 0)), (86, .bool true), (95, .bool true)] ⟨rfl, rfl, rfl, rfl, rfl, rfl, rfl, rfl, rfl, rfl, rfl, rfl, rfl, rfl, rfl, rfl, rfl, rfl, rfl, rfl, rfl, rfl, trivial⟩ fun ρ => ?_
                      have X462 := (X396.step y460 (f375.dom _))
                      have f463 := (dm461 _).fresh f375 X396.size
                      have ex464 := (ex378.but y460 d387)
                      have ex465 := (ex379.but y460 d388)
                      have ex466 := (ex380.but y460 d389)
                      have ex467 := (ex381.but y460 d390)
                      have ex468 := (ex382.but y460 d391)
                      have ex469 := (ex383.but y460 d392)
                      have ex470 := (ex384.but y460 d393)
                      have ex471 := (ex385.but y460 d394)
                      have ex472 := (ex386.but y460 d395)
                      exact ⟨List.set rest370 (Int.toNat x279) true, H, _, hx456, env_eq ⟨rfl, rfl, rfl, rfl, rfl, rfl, rfl, rfl, rfl, rfl, rfl, rfl, rfl, rfl, rfl, trivial⟩, X462, o458, ex459, f463, ex464, ex465, ex466, ex467, ex468, ex469, ex470, ex471, ex472, (DomLe.dj (dm461 _) d387 ex378), (DomLe.dj (dm461 _) d388 ex379), (DomLe.dj (dm461 _) d389 ex380), (DomLe.dj (dm461 _) d390 ex381), (DomLe.dj (dm461 _) d391 ex382), (DomLe.dj (dm461 _) d392 ex383), (DomLe.dj (dm461 _) d393 ex384), (DomLe.dj (dm461 _) d394 ex385), (DomLe.dj (dm461 _) d395 ex386)⟩
                    have H := H.2 hc451
                    refine LP_ev ok 13 [(87, .slice a5 (List.length inx) c6), (88, I x376), (89, I (wr (Int.tdiv (ln inx) x112.Levels))), (90, I (wr (x376 * (wr (Int.tdiv (ln inx) x112.Levels))))), (91, I x279), (92, I (wr ((wr (x376 * (wr (Int.tdiv (ln inx) x112.Levels)))) + x279)))] 19 rfl rfl ?_
                    obtain ⟨x473, hi474, hx475, H⟩ := H
                    refine LP_index 19 rfl rfl rfl Try.underlying179 ti_4 rfl rfl r3 hi474 hx475 fun a476 cs477 r478 d479 => ?_
                    refine LP_load 20 rfl rfl rfl ti_4 ag_4 rfl r478 d479 ex379 fun vx480 r481 => ?_
                    obtain rfl := r481.bool
                    refine LP_ev ok 21 [(95, .bool x473), (96, .bool x473)] 23 rfl rfl ?_
                    obtain ⟨hi482, hl483, H⟩ := H
                    refine LP_indexw (v := .slice a272 (List.length (List.replicate (Int.toNat (wr (Int.tdiv (ln inx) x112.Levels))) false)) c273) 23 rfl rfl rfl Try.underlying179 ti_4 rfl rfl o373 hi482 hl483 fun a484 wa485 => ?_
                    refine LP_set 24 rfl rfl rfl rfl rfl wa485 (Le.refl emp) ⟨_, rfl, rfl⟩ ex374 fun hx486 wx487 o488 ex489 y490 dm491 => ?_
                    refine LP_end _ rfl ?_
                    try refine W_forget [(0, .slice a (List.length sx) c), (1, .slice a5 (List.length inx) c6), (2, I vx7), (3, .slice a12 (List.length sets) c13), (4, .func (.func 167) #[] #[.pointer (some ⟨b19, 0, none⟩), .pointer (some ⟨b28, 0, none⟩), .pointer (some ⟨b37, 0, none⟩)]), (10, I (ln sets)), (11, I (wr (Int.tdiv (ln inx) x112.Levels))), (13, I setx), (14, .slice a272 (List.length (List.replicate (Int.toNat (wr (Int.tdiv (ln inx) x112.Levels))) false)) c273), (15, .bool any), (16, I x279), (59, I (ln (List.replicate (Int.toNat (wr (Int.tdiv (ln inx) x112.Levels))) false))), (60, I x279), (70, I x362.Levels), (71, I x376), (81, I setx), (82, I x376), (83, I (shr .i64 setx x376)), (84, I (bits .and .i64 (shr .i64 setx x376) 1)), (85, .bool ((bits .and .i64 (shr .i64 setx x376) 1) == 0)), (86, .bool false), (87, .slice a5 (List.length inx) c6), (88, I x376), (89, I (wr (Int.tdiv (ln inx) x112.Levels))), (90, I (wr (x376 * (wr (Int.tdiv (ln inx) x112.Levels))))), (91, I x279), (92, I (wr ((wr (x376 * (wr (Int.tdiv (ln inx) x112.Levels)))) + x279))), (93, .pointer (some a476)), (94, .bool x473), (95, .bool x473)] ⟨rfl, rfl, rfl, rfl, rfl, rfl, rfl, rfl, rfl, rfl, rfl, rfl, rfl, rfl, rfl, rfl, rfl, rfl, rfl, rfl, rfl, rfl, rfl, rfl, rfl, rfl, rfl, rfl, rfl, rfl, trivial⟩ fun ρ => ?_
                    have X492 := (X396.step y490 (f375.dom _))
                    have f493 := (dm491 _).fresh f375 X396.size
                    have ex494 := (ex378.but y490 d387)
                    have ex495 := (ex379.but y490 d388)
                    have ex496 := (ex380.but y490 d389)
                    have ex497 := (ex381.but y490 d390)
                    have ex498 := (ex382.but y490 d391)
                    have ex499 := (ex383.but y490 d392)
                    have ex500 := (ex384.but y490 d393)
                    have ex501 := (ex385.but y490 d394)
                    have ex502 := (ex386.but y490 d395)
                    exact ⟨List.set rest370 (Int.toNat x279) x473, H, _, hx486, env_eq ⟨rfl, rfl, rfl, rfl, rfl, rfl, rfl, rfl, rfl, rfl, rfl, rfl, rfl, rfl, rfl, trivial⟩, X492, o488, ex489, f493, ex494, ex495, ex496, ex497, ex498, ex499, ex500, ex501, ex502, (DomLe.dj (dm491 _) d387 ex378), (DomLe.dj (dm491 _) d388 ex379), (DomLe.dj (dm491 _) d389 ex380), (DomLe.dj (dm491 _) d390 ex381), (DomLe.dj (dm491 _) d391 ex382), (DomLe.dj (dm491 _) d392 ex383), (DomLe.dj (dm491 _) d393 ex384), (DomLe.dj (dm491 _) d394 ex385), (DomLe.dj (dm491 _) d395 ex386)⟩
                  have H := H.2 hc449
                  refine LP_ev ok 7 [(81, undef), (82, undef), (83, undef), (84, undef), (85, undef), (86, undef), (87, undef), (88, undef), (89, undef), (90, undef), (91, undef), (92, undef), (93, undef), (94, undef), (95, undef), (96, .bool false)] 23 rfl rfl ?_
                  obtain ⟨hi503, hl504, H⟩ := H
                  refine LP_indexw (v := .slice a272 (List.length (List.replicate (Int.toNat (wr (Int.tdiv (ln inx) x112.Levels))) false)) c273) 23 rfl rfl rfl Try.underlying179 ti_4 rfl rfl o373 hi503 hl504 fun a505 wa506 => ?_
                  refine LP_set 24 rfl rfl rfl rfl rfl wa506 (Le.refl emp) ⟨_, rfl, rfl⟩ ex374 fun hx507 wx508 o509 ex510 y511 dm512 => ?_
                  refine LP_end _ rfl ?_
                  try refine W_forget [(0, .slice a (List.length sx) c), (1, .slice a5 (List.length inx) c6), (2, I vx7), (3, .slice a12 (List.length sets) c13), (4, .func (.func 167) #[] #[.pointer (some ⟨b19, 0, none⟩), .pointer (some ⟨b28, 0, none⟩), .pointer (some ⟨b37, 0, none⟩)]), (10, I (ln sets)), (11, I (wr (Int.tdiv (ln inx) x112.Levels))), (13, I setx), (14, .slice a272 (List.length (List.replicate (Int.toNat (wr (Int.tdiv (ln inx) x112.Levels))) false)) c273), (15, .bool any), (16, I x279), (59, I (ln (List.replicate (Int.toNat (wr (Int.tdiv (ln inx) x112.Levels))) false))), (60, I x279), (70, I x362.Levels), (71, I x376)] ⟨rfl, rfl, rfl, rfl, rfl, rfl, rfl, rfl, rfl, rfl, rfl, rfl, rfl, rfl, rfl, trivial⟩ fun ρ => ?_
                  have X513 := (X396.step y511 (f375.dom _))
                  have f514 := (dm512 _).fresh f375 X396.size
                  have ex515 := (ex378.but y511 d387)
                  have ex516 := (ex379.but y511 d388)
                  have ex517 := (ex380.but y511 d389)
                  have ex518 := (ex381.but y511 d390)
                  have ex519 := (ex382.but y511 d391)
                  have ex520 := (ex383.but y511 d392)
                  have ex521 := (ex384.but y511 d393)
                  have ex522 := (ex385.but y511 d394)
                  have ex523 := (ex386.but y511 d395)
                  exact ⟨List.set rest370 (Int.toNat x279) false, H, _, hx507, env_eq ⟨rfl, rfl, rfl, rfl, rfl, rfl, rfl, rfl, rfl, rfl, rfl, rfl, rfl, rfl, rfl, trivial⟩, X513, o509, ex510, f514, ex515, ex516, ex517, ex518, ex519, ex520, ex521, ex522, ex523, (DomLe.dj (dm512 _) d387 ex378), (DomLe.dj (dm512 _) d388 ex379), (DomLe.dj (dm512 _) d389 ex380), (DomLe.dj (dm512 _) d390 ex381), (DomLe.dj (dm512 _) d391 ex382), (DomLe.dj (dm512 _) d392 ex383), (DomLe.dj (dm512 _) d393 ex384), (DomLe.dj (dm512 _) d394 ex385), (DomLe.dj (dm512 _) d395 ex386)⟩
                rintro rest412 _ wx418 ⟨H, ρ, hx414, rfl, X437, o415, ex416, f417, ex419, ex420, ex421, ex422, ex423, ex424, ex425, ex426, ex427, d428, d429, d430, d431, d432, d433, d434, d435, d436⟩
                subst hk439
                refine W_region ?_
                refine LP_ev ok 0 [(98, I (wr (x376 + 1))), (71, I (wr (x376 + 1)))] 2 rfl rfl ?_
                refine LP_end _ rfl ?_
                exact ⟨(rest412, wr (x376 + 1)), ⟨H.1, _, hx414, env_eq ⟨rfl, rfl, rfl, rfl, rfl, rfl, rfl, rfl, rfl, rfl, rfl, rfl, rfl, rfl, rfl, trivial⟩, X437, o415, ex416, f417, ex419, ex420, ex421, ex422, ex423, ex424, ex425, ex426, ex427, d428, d429, d430, d431, d432, d433, d434, d435, d436⟩, H.2⟩
              have H := H.2 hc411
              refine W_exit ?_
              refine (if_pos rfl).mpr ?_
              refine W_region ?_
              refine LP_ev ok 0 [(99, .bool any), (100, .bool any)] 2 rfl rfl ?_
              refine LP_split 100 (any) rfl (fun hc524 => ?_) (fun hc524 => ?_)
              · have H := H.1 hc524
                refine LP_ev ok 2 [(101, undef), (102, undef), (103, undef), (104, undef), (105, .bool true), (15, .bool true)] 8 rfl rfl ?_
                refine LP_end _ rfl ?_
                exact ⟨(rest370, true), H, _, hx372, env_eq ⟨rfl, rfl, rfl, rfl, rfl, rfl, rfl, rfl, rfl, rfl, rfl, rfl, trivial⟩, X396, o373, ex374, f375, ex378, ex379, ex380, ex381, ex382, ex383, ex384, ex385, ex386, d387, d388, d389, d390, d391, d392, d393, d394, d395⟩
              have H := H.2 hc524
              refine LP_ev ok 2 [(101, .slice a272 (List.length (List.replicate (Int.toNat (wr (Int.tdiv (ln inx) x112.Levels))) false)) c273), (102, I x279)] 4 rfl rfl ?_
              obtain ⟨x525, hi526, hx527, H⟩ := H
              refine LP_index 4 rfl rfl rfl Try.underlying179 ti_4 rfl rfl o373.readf hi526 hx527 fun a528 cs529 r530 d531 => ?_
              refine LP_load 5 rfl rfl rfl ti_4 ag_4 rfl r530 d531 ex374 fun vx532 r533 => ?_
              obtain rfl := r533.bool
              refine LP_ev ok 6 [(105, .bool x525), (15, .bool x525)] 8 rfl rfl ?_
              refine LP_end _ rfl ?_
              exact ⟨(rest370, x525), H, _, hx372, env_eq ⟨rfl, rfl, rfl, rfl, rfl, rfl, rfl, rfl, rfl, rfl, rfl, rfl, trivial⟩, X396, o373, ex374, f375, ex378, ex379, ex380, ex381, ex382, ex383, ex384, ex385, ex386, d387, d388, d389, d390, d391, d392, d393, d394, d395⟩
            rintro ⟨rest326, any332⟩ _ wx333 ⟨H, ρ, hx328, rfl, X352, o329, ex330, f331, ex334, ex335, ex336, ex337, ex338, ex339, ex340, ex341, ex342, d343, d344, d345, d346, d347, d348, d349, d350, d351⟩
            subst hk354
            refine W_region ?_
            refine LP_ev ok 0 [(106, I (wr (x279 + 1))), (60, I (wr (x279 + 1)))] 2 rfl rfl ?_
            refine LP_end _ rfl ?_
            exact ⟨(rest326, any332, wr (x279 + 1)), ⟨H.1, _, hx328, env_eq ⟨rfl, rfl, rfl, rfl, rfl, rfl, rfl, rfl, rfl, rfl, rfl, rfl, trivial⟩, X352, o329, ex330, f331, ex334, ex335, ex336, ex337, ex338, ex339, ex340, ex341, ex342, d343, d344, d345, d346, d347, d348, d349, d350, d351⟩, H.2⟩
          have H := H.2 hc325
          refine W_exit ?_
          refine (if_pos rfl).mpr ?_
          refine W_seq ?_
          refine W_region ?_
          refine LP_ev ok 0 [(107, .bool any)] 1 rfl rfl ?_
          refine LP_end _ rfl ?_
          refine W_cond (any) rfl (fun hc534 => ?_) (fun hc534 => ?_)
          · have H := H.1 hc534
            refine W_region ?_
            refine LP_ev ok 0 [(108, .slice a (List.length sx) c), (109, .slice a272 (List.length (List.replicate (Int.toNat (wr (Int.tdiv (ln inx) x112.Levels))) false)) c273), (110, I vx7), (111, .slice a12 (List.length sets) c13), (112, I setx)] 5 rfl rfl ?_
            refine LP_lit (α := Int) (g := emp) 5 (vs := [I setx]) (xs := [setx]) rfl rfl rfl Try.underlying24 ti_3 rfl rfl ⟨⟨_, rfl, rfl⟩, trivial⟩ rfl rfl fun hx535 vx536 wx537 x538 o539 ex540 f541 => ?_
            obtain ⟨a542, c543, rfl⟩ := o539.shape
            have ex544 := (ex283.ext x538)
            obtain ⟨hb545, H⟩ := H
            refine LP_appendS (α := Int) 6 rfl rfl rfl Try.underlying24 ti_3 rfl rfl rfl o157 ex544 o539.readf ex540 (by first | omega | (simp only [ln] at *; omega)) (by first | omega | (simp only [ln] at *; omega)) fun hx546 vx547 wx548 r553 o549 ex550 y551 dm552 d554 dr ex555 wd => ?_
            obtain ⟨a556, c557, rfl⟩ := o549.shape
            refine LP_ev ok 7 [(115, .func (.func 167) #[] #[.pointer (some ⟨b19, 0, none⟩), .pointer (some ⟨b28, 0, none⟩), .pointer (some ⟨b37, 0, none⟩)])] 8 rfl rfl ?_
            have ex558 := (ex284.ext x538)
            have ex559 := (ex289.ext x538)
            have ex560 := (ex288.ext x538)
            have ex561 := (ex281.ext x538)
            have ex562 := (ex277.ext x538)
            have ex563 := (ex285.ext x538)
            have ex564 := (ex286.ext x538)
            have ex565 := (ex287.ext x538)
            have ex568 := (ex561.but y551 d180)
            have ex569 := (ex562.but y551 d292.symm)
            have ex570 := (ex558.but y551 d192.symm)
            have ex571 := (ex563.but y551 d182)
            have ex572 := (ex564.but y551 d183)
            have ex573 := (ex565.but y551 d184)
            have ex574 := (ex559.but y551 d199.symm)
            have ex575 := (ex560.but y551 d185)
            refine LP_call 8 rfl rfl rfl cal_165 rfl (ih _ _ _ _ _ _ _ _ H.1 (Nat.lt_of_lt_of_le H.2 (Nat.le_of_lt_succ hm)) wx548 r ex568 o276.readf ex569 o549 ex550 o162 ex570 ex571 r24 ex572 ex573 o168 ex574 ex575 (DomLe.dj dm552 d192.symm ex558) (DomLe.dj dm552 d199.symm ex559) (DomLe.dj dm552 d185 ex560) d200.symm d191 d198 (DomLe.dj dm552 d180 ex561) (DomLe.dj dm552 d292.symm ex562) (DomLe.dj dm552 d182 ex563) (DomLe.dj dm552 d183 ex564) (DomLe.dj dm552 d184 ex565) d186 d293.symm d188 d189 d190 d193 d298.symm d195 d196 d197 (Dj.box d59) d297.symm (Dj.box d61) (Dj.box d62) (Dj.box d63)) ?_
            rintro _ wx576 ⟨r566, r567, hx578, hx582, vx590, hx586, H, rfl, x577, o579, ex580, dm581, o583, ex584, dm585, o587, ex588, dm589, ex591, d592, d593, d594, d595, d596, d597⟩
            obtain ⟨a598, c599, rfl⟩ := o587.shape
            obtain ⟨hx600, o601, l, d602⟩ := wd _ o579 (Dom.of dm581)
            have ex604 := (ex555.but x577 (Dj.un_l d554.symm (Dj.un_l (Dom.dj dr d192.symm).symm (Dj.un_l (Dom.dj dr d199.symm).symm (Dom.dj dr d185).symm))))
            have ex603 := Sub.le (Sub.un ex604 ex580) l
            refine LP_end _ rfl ?_
            have X605 := (X299.stepx x538)
            have X606 := (((X299.stepx x538).step y551 (DomLe.dom D (f159 _))).step x577 (DomLe.un (DomLe.trans (DomLe.dom D (f159 _)) dm552 X605.size) (DomLe.un (DomLe.dom D64 (f164 _)) (DomLe.un f170 (DomLe.dom D66 single_dom)))))
            have X607 := (X605.step y551 (DomLe.dom D (f159 _)))
            have ex608 := (ex568.but x577 (Dj.un_l (DomLe.dj dm552 d180 ex561) (Dj.un_l d186 (Dj.un_l d193 (Dj.box d59)))))
            have ex609 := (ex282.ext x538)
            have ex610 := (((ex282.ext x538).but y551 d181).but x577 (Dj.un_l (DomLe.dj dm552 d181 ex609) (Dj.un_l d187 (Dj.un_l d194 (Dj.box d60)))))
            have ex611 := (ex571.but x577 (Dj.un_l (DomLe.dj dm552 d182 ex563) (Dj.un_l d188 (Dj.un_l d195 (Dj.box d61)))))
            have ex612 := (ex572.but x577 (Dj.un_l (DomLe.dj dm552 d183 ex564) (Dj.un_l d189 (Dj.un_l d196 (Dj.box d62)))))
            have ex613 := (ex573.but x577 (Dj.un_l (DomLe.dj dm552 d184 ex565) (Dj.un_l d190 (Dj.un_l d197 (Dj.box d63)))))
            have ex614 := (ex609.but y551 d181)
            exact ⟨(r566, r567), H, _, hx600, hx582, .slice a598 (List.length r567) c599, hx586, env_eq ⟨rfl, rfl, rfl, rfl, rfl, rfl, rfl, rfl, trivial⟩, X606, o601, ex603, (fun _ => DomLe.trans (f159 _) ((Dom.le d602 _)) (Nat.le_refl _)), o583, ex584, (fun _ => DomLe.trans (f164 _) ((dm585 _)) (Nat.le_refl _)), o587, ex588, (DomLe.trans (DomLe.un (DomLe.trans (DomLe.dom D (f159 _)) dm552 X605.size) (DomLe.un (DomLe.dom D64 (f164 _)) (DomLe.un f170 (DomLe.dom D66 single_dom)))) dm589 X607.size), ex608, ex610, ex611, ex612, ex613, ex591, (Dom.dj (Dom.of_le l) (Dj.un_l (Dom.dj dr d180) (DomLe.dj (dm581 _) (DomLe.dj dm552 d180 ex561) ex568))), (Dom.dj (Dom.of_le l) (Dj.un_l (Dom.dj dr d181) (DomLe.dj (dm581 _) (DomLe.dj dm552 d181 ex609) ex614))), (Dom.dj (Dom.of_le l) (Dj.un_l (Dom.dj dr d182) (DomLe.dj (dm581 _) (DomLe.dj dm552 d182 ex563) ex571))), (Dom.dj (Dom.of_le l) (Dj.un_l (Dom.dj dr d183) (DomLe.dj (dm581 _) (DomLe.dj dm552 d183 ex564) ex572))), (Dom.dj (Dom.of_le l) (Dj.un_l (Dom.dj dr d184) (DomLe.dj (dm581 _) (DomLe.dj dm552 d184 ex565) ex573))), (Dom.dj (Dom.of_le l) (Dj.un_l (Dom.dj dr (Dj.box d185.symm).symm) d594)), (DomLe.dj (dm585 _) d186 ex568), (DomLe.dj (dm585 _) d187 ex614), (DomLe.dj (dm585 _) d188 ex571), (DomLe.dj (dm585 _) d189 ex572), (DomLe.dj (dm585 _) d190 ex573), d596, (Dom.dj (Dom.of_le l) (Dj.un_l (DomLe.dj (dm585 _) (Dom.dj dr d192.symm).symm ex555).symm d592)).symm, (DomLe.dj dm589 (Dj.un_l (DomLe.dj dm552 d180 ex561) (Dj.un_l d186 (Dj.un_l d193 (Dj.box d59)))) ex568), (DomLe.dj dm589 (Dj.un_l (DomLe.dj dm552 d181 ex609) (Dj.un_l d187 (Dj.un_l d194 (Dj.box d60)))) ex614), (DomLe.dj dm589 (Dj.un_l (DomLe.dj dm552 d182 ex563) (Dj.un_l d188 (Dj.un_l d195 (Dj.box d61)))) ex571), (DomLe.dj dm589 (Dj.un_l (DomLe.dj dm552 d183 ex564) (Dj.un_l d189 (Dj.un_l d196 (Dj.box d62)))) ex572), (DomLe.dj dm589 (Dj.un_l (DomLe.dj dm552 d184 ex565) (Dj.un_l d190 (Dj.un_l d197 (Dj.box d63)))) ex573), d597, (Dom.dj (Dom.of_le l) (Dj.un_l (DomLe.dj dm589 (Dj.un_l d554.symm (Dj.un_l (Dom.dj dr d192.symm).symm (Dj.un_l (Dom.dj dr d199.symm).symm (Dom.dj dr d185).symm))) ex555).symm d593)).symm, d595.symm⟩
          have H := H.2 hc534
          refine W_skip ?_
          exact ⟨(mp160, x165), H, _, hx156, hx161, .slice a177 (List.length x165) c178, hx167, env_eq ⟨rfl, rfl, rfl, rfl, rfl, rfl, rfl, rfl, trivial⟩, X299, o157, ex283, (fun _ => f159 _), o162, ex284, (fun _ => f164 _), o168, ex289, f170, ex281, ex282, ex285, ex286, ex287, ex288, d180, d181, d182, d183, d184, d185, d186, d187, d188, d189, d190, d191, d192, d193, d194, d195, d196, d197, d198, d199, d200⟩
        rintro ⟨mp221, x226⟩ _ wx232 ⟨H, ρ, hx217, hx222, vx227, hx228, rfl, X262, o218, ex219, f220, o223, ex224, f225, o229, ex230, f231, ex233, ex234, ex235, ex236, ex237, ex240, d241, d242, d243, d244, d245, d246, d247, d248, d249, d250, d251, d252, d253, d254, d255, d256, d257, d258, d259, d260, d261⟩
        subst hk264
        obtain ⟨a238, c239, rfl⟩ := o229.shape
        refine W_region ?_
        refine LP_ev ok 0 [(54, I setx), (55, I (wr (setx + 1))), (13, I (wr (setx + 1)))] 3 rfl rfl ?_
        refine LP_end _ rfl ?_
        exact ⟨(wr (setx + 1), mp221, x226), ⟨H.1, _, hx217, hx222, .slice a238 (List.length x226) c239, hx228, env_eq ⟨rfl, rfl, rfl, rfl, rfl, rfl, rfl, rfl, trivial⟩, X262, o218, ex219, (fun _ => f220 _), o223, ex224, (fun _ => f225 _), o229, ex230, f231, ex233, ex234, ex235, ex236, ex237, ex240, d241, d242, d243, d244, d245, d246, d247, d248, d249, d250, d251, d252, d253, d254, d255, d256, d257, d258, d259, d260, d261⟩, H.2⟩
      have H := H.2 hc215
      refine W_exit ?_
      refine (if_pos rfl).mpr ?_
      have ex615 := (ex158.ext x214)
      have ex616 := (ex163.ext x214)
      have ex617 := (ex169.ext x214)
      have ex618 := (ex179.ext x214)
      have X619 := (X201.stepx x214)
      exact ⟨_, Ret_of [] trivial, _, _, _, _, _, _, H, rfl, X619, o157, ex615, (fun _ => f159 _), o162, ex616, (fun _ => f164 _), o168, ex617, f170, ex618, d192.symm, d199.symm, d185, d200.symm, d191, d198⟩
  exact key _ sx inx vx7 sets c14 c21 c30 Q H0 (Nat.lt_succ_self _) w r ex r3 ex4 r10 ex11 r17 ex18 ex20 r24 ex25 ex29 r33 ex34 ex38 d d39 d40 d41 d42 d43 d44 d45 d46 d47 d48 d49 d50 d51 d52 d53 d54 d55 d56 d57 d58 d59 d60 d61 d62 d63

set_option maxRecDepth 8000 in
set_option maxHeartbeats 4000000 in
theorem impl_canGrow_w (sx : List Variable) (implied : List (Int × Bool)) (ex5 : Edit) (Q : Bool → Prop) (H : impl_canGrow sx implied ex5 Q) (w : World) {vx : Value} {hx : PH} (r : RS hx vx sx) (ex : Sub hx w) {vx1 : Value} {hx2 : PH} (r3 : MO hx2 vx1 implied) (ex4 : Sub hx2 w) {vx6 : Value} {hx7 : PH} (r8 : RS hx7 vx6 ex5.Sets) (ex9 : Sub hx7 w) :
    CallsTo Try.prog 169 #[vx, vx1, .agg #[vx6]] w fun v w' => ∃ r0, Q r0 ∧ v = .bool r0 ∧ Ext w w' := by
  obtain ⟨a, c, rfl⟩ := r.shape
  obtain ⟨b, rfl⟩ := r3.shape
  obtain ⟨a10, c11, rfl⟩ := r8.shape
  refine enter (args := [.slice a (List.length sx) c, .map (some b), .agg #[.slice a10 (List.length ex5.Sets) c11]]) 59 Try.func169 rfl rfl rfl ?_
  refine W_forget [(0, .slice a (List.length sx) c), (1, .map (some b)), (2, .agg #[.slice a10 (List.length ex5.Sets) c11])] ⟨rfl, rfl, rfl, trivial⟩ fun ρ => ?_
  have X := But.refl emp w
  refine W_seq ?_
  refine W_region ?_
  refine LP_box 0 (cs := [.slice a10 (List.length ex5.Sets) c11]) rfl rfl rfl rfl rfl fun b12 wx x ex13 f => ?_
  refine LP_ev ok 1 [(6, .bool false)] 2 rfl rfl ?_
  refine LP_end _ rfl ?_
  refine W_seq ?_
  refine W_region ?_
  refine LP_ev ok 0 [(11, .pointer (some ⟨b12, 0, none⟩))] 1 rfl rfl ?_
  refine LP_ldbox 1 (v := .slice a10 (List.length ex5.Sets) c11) rfl rfl rfl ti_24 ag_24 (fun _ => rfl) rfl ex13 rfl rfl ?_
  have ex15 := (ex9.ext x)
  refine LP_call 2 rfl rfl rfl cal_105 rfl (slices_Clone_int_int_w _ _ H wx r8 ex15) ?_
  rintro _ wx16 ⟨r14, vx18, hx19, H, rfl, x17, o, ex20, f21⟩
  obtain ⟨a22, c23, rfl⟩ := o.shape
  refine LP_ev ok 3 [(7, .slice a22 (List.length r14) c23)] 4 rfl rfl ?_
  refine LP_end _ rfl ?_
  refine W_seq ?_
  refine W_seq ?_
  refine W_region ?_
  refine LP_ev ok 0 [(14, .slice a22 (List.length r14) c23), (15, I (ln r14)), (16, I 0)] 3 rfl rfl ?_
  refine LP_end _ rfl ?_
  refine W_block ?_
  have X35 := ((X.stepx x).stepx x17)
  have X37 := (X.stepx x)
  have f36 := f21.mono X37.size
  have ex38 := ((ex.ext x).ext x17)
  have ex39 := ((ex4.ext x).ext x17)
  have ex40 := (ex.ext x)
  have ex41 := (ex4.ext x)
  obtain ⟨J, m, Hx, H⟩ := H
  refine W_loop (S := (List Int) × Int) (fun s ρ' w' => J s.1 s.2 ∧ ∃ (ρ : Env) (hx25 : PH), ρ' = setAll [(0, .slice a (List.length sx) c), (1, .map (some b)), (7, .slice a22 (List.length r14) c23), (15, I (ln r14)), (16, I s.2)] ρ ∧ But emp w w' ∧ OS 3 hx25 emp (.slice a22 (List.length r14) c23) s.1 ∧ Sub hx25 w' ∧ Fresh w.heap.size hx25 ∧ Sub hx w' ∧ Sub hx2 w' ∧ Dj hx25 hx ∧ Dj hx25 hx2) (fun s => m s.1 s.2) (r14, 0) ⟨Hx, _, hx19, env_eq ⟨rfl, rfl, rfl, rfl, rfl, trivial⟩, X35, o, ex20, f36, ex38, ex39, (Dj.of_fresh ex40 f21).symm, (Dj.of_fresh ex41 f21).symm⟩ ?_
  rintro ⟨sets, x29⟩ _ wx30 ⟨Hi, ρ, hx25, rfl, X34, o26, ex27, f28, ex31, ex32, d, d33⟩
  have H := H sets x29 Hi
  refine W_seq ?_
  refine W_region ?_
  refine LP_ev ok 0 [(17, .bool (decide (x29 < (ln r14))))] 1 rfl rfl ?_
  refine LP_end _ rfl ?_
  refine W_seq ?_
  refine W_cond (decide (x29 < (ln r14))) rfl (fun hc => ?_) (fun hc => ?_)
  · have H := H.1 hc
    refine W_skip ?_
    refine W_seq ?_
    refine W_block ?_
    refine W_seq ?_
    refine W_region ?_
    refine LP_ev ok 0 [(18, I x29), (8, I x29)] 2 rfl rfl ?_
    refine LP_end _ rfl ?_
    refine W_seq ?_
    refine W_region ?_
    refine LP_ev ok 0 [(19, .slice a (List.length sx) c), (20, I x29)] 2 rfl rfl ?_
    obtain ⟨x42, hi, hx43, H⟩ := H
    refine LP_index 2 rfl rfl rfl Try.underlying29 ti_107 rfl rfl r hi hx43 fun a44 cs r45 d46 => ?_
    refine LP_ev ok 3 [(22, .pointer (some (Addr.add a44 1)))] 4 rfl rfl ?_
    refine LP_ldfld (x := x42) (off := 1) 4 (v := I x42.Levels) rfl rfl rfl ti_3 ag_3 (fun _ => rfl) rfl r45 d46 ex31 rfl rfl ?_
    refine LP_ev ok 5 [(24, I 0)] 6 rfl rfl ?_
    refine LP_end _ rfl ?_
    refine W_block ?_
    obtain ⟨J60, m61, Hx62, H⟩ := H
    refine W_loop (S := (List Int) × Int) (fun s ρ' w' => J60 s.1 s.2 ∧ ∃ (ρ : Env) (hx49 : PH), ρ' = setAll [(0, .slice a (List.length sx) c), (1, .map (some b)), (7, .slice a22 (List.length r14) c23), (8, I x29), (15, I (ln r14)), (16, I x29), (23, I x42.Levels), (24, I s.2)] ρ ∧ But emp w w' ∧ OS 3 hx49 emp (.slice a22 (List.length r14) c23) s.1 ∧ Sub hx49 w' ∧ Fresh w.heap.size hx49 ∧ Sub hx w' ∧ Sub hx2 w' ∧ Dj hx49 hx ∧ Dj hx49 hx2) (fun s => m61 s.1 s.2) (sets, 0) ⟨Hx62, _, hx25, env_eq ⟨rfl, rfl, rfl, rfl, rfl, rfl, rfl, rfl, trivial⟩, X34, o26, ex27, f28, ex31, ex32, d, d33⟩ ?_
    rintro ⟨sets47, x53⟩ _ wx54 ⟨Hi, ρ, hx49, rfl, X59, o50, ex51, f52, ex55, ex56, d57, d58⟩
    have H := H sets47 x53 Hi
    refine W_seq ?_
    refine W_region ?_
    refine LP_ev ok 0 [(25, .bool (decide (x53 < x42.Levels)))] 1 rfl rfl ?_
    refine LP_end _ rfl ?_
    refine W_seq ?_
    refine W_cond (decide (x53 < x42.Levels)) rfl (fun hc64 => ?_) (fun hc64 => ?_)
    · have H := H.1 hc64
      refine W_skip ?_
      obtain ⟨k, hk, H⟩ := jn_elim H
      refine W_join2 (S := (List Int)) (fun s ρ' w' => k s ∧ ∃ (ρ : Env) (hx67 : PH), ρ' = setAll [(0, .slice a (List.length sx) c), (1, .map (some b)), (7, .slice a22 (List.length r14) c23), (8, I x29), (15, I (ln r14)), (16, I x29), (23, I x42.Levels), (24, I x53)] ρ ∧ But emp w w' ∧ OS 3 hx67 emp (.slice a22 (List.length r14) c23) s ∧ Sub hx67 w' ∧ Fresh w.heap.size hx67 ∧ Sub hx w' ∧ Sub hx2 w' ∧ Dj hx67 hx ∧ Dj hx67 hx2) ?_ ?_
      · refine W_block ?_
        refine W_seq ?_
        refine W_region ?_
        refine LP_ev ok 0 [(26, I x53), (9, I x53)] 2 rfl rfl ?_
        refine LP_end _ rfl ?_
        refine W_seq ?_
        refine W_seq ?_
        refine W_region ?_
        refine LP_ev ok 0 [(27, .slice a22 (List.length r14) c23), (28, I x29)] 2 rfl rfl ?_
        obtain ⟨x77, hi78, hx79, H⟩ := H
        refine LP_index 2 rfl rfl rfl Try.underlying24 ti_3 rfl rfl o50.readf hi78 hx79 fun a80 cs81 r82 d83 => ?_
        refine LP_load 3 rfl rfl rfl ti_3 ag_3 rfl r82 d83 ex51 fun vx84 r85 => ?_
        obtain rfl := r85.int
        refine LP_ev ok 4 [(31, I x53)] 5 rfl rfl ?_
        obtain ⟨hz, H⟩ := H
        refine LP_val 5 _ rfl rfl (ex_shr rfl rfl rfl hz _) ?_
        refine LP_ev ok 6 [(33, I (bits .and .i64 (shr .i64 x77 x53) 1)), (34, .bool ((bits .and .i64 (shr .i64 x77 x53) 1) == 1))] 8 rfl rfl ?_
        refine LP_end _ rfl ?_
        refine W_cond ((bits .and .i64 (shr .i64 x77 x53) 1) == 1) rfl (fun hc86 => ?_) (fun hc86 => ?_)
        · have H := H.1 hc86
          refine W_exit ?_
          refine (if_pos rfl).mpr ?_
          exact ⟨sets47, H, _, hx49, env_eq ⟨rfl, rfl, rfl, rfl, rfl, rfl, rfl, rfl, trivial⟩, X59, o50, ex51, f52, ex55, ex56, d57, d58⟩
        have H := H.2 hc86
        refine W_skip ?_
        refine W_seq ?_
        refine W_open mix fun wx87 x88 => ?_
        refine AP_game 6 [[], [], [0, 1], [0, 1, 2], [], [4], [0, 1, 2, 3, 4, 5], [0, 1, 2, 3, 4, 5, 6], [0, 1, 2, 3, 4, 5, 6, 7]] [[(7, none)], [(8, none)], [(35, some 0), (36, some 1)], [(37, some 2)], [(9, none)], [(39, some 4)]] [(0, none), (1, none), (7, none), (8, none), (9, none), (15, none), (16, none), (23, none), (24, none), (35, some 0), (36, some 1), (38, some 3), (40, some 5)] [(0, false), (1, false), (2, false), (3, false), (4, false), (5, false)] (by kernel_rfl) (by kernel_rfl) ?_
        refine GS_ev ok [(7, .slice a22 (List.length r14) c23)] (.slice a22 (List.length r14) c23) rfl rfl (fun _ h => h) (fun _ => rfl) ?_
        refine GS_ev ok [(8, I x29)] (I x29) rfl rfl (fun _ h => h) (fun _ => rfl) ?_
        obtain ⟨x89, hi90, hx91, H⟩ := H
        obtain ⟨a92, cs93, hx96, r94, d95⟩ := run_indexAt Try.underlying24 ti_3 o50.readf .i64 _ x89 hi90 hx91
        refine GS_r0 [(35, .slice a22 (List.length r14) c23), (36, I x29)] (.pointer (some a92)) rfl rfl (fun _ h => h) (fun _ _ => ex_index rfl rfl rfl (hx96 _)) ?_
        obtain ⟨vx97, hx99, r98⟩ := run_loadAt ti_3 ag_3 r94 d95
        obtain rfl := r98.int
        have ex100 := (ex51.ext x88)
        refine GS_r1 [(37, .pointer (some a92))] (I x89) rfl rfl (fun _ h => h) (fun _ w e => ex_load rfl rfl (hx99 w e)) ex100 ?_
        refine GS_ev ok [(9, I x53)] (I x53) rfl rfl (fun _ h => h) (fun _ => rfl) ?_
        obtain ⟨hz101, H⟩ := H
        refine GS_r0 [(39, I x53)] (I (shl .i64 1 x53)) rfl rfl (fun _ h => h) (fun _ _ => ex_shl rfl rfl rfl hz101 _) ?_
        intro wx102 x103 ρ hn
        refine AP_forget [(0, .slice a (List.length sx) c), (1, .map (some b)), (7, .slice a22 (List.length r14) c23), (8, I x29), (9, I x53), (15, I (ln r14)), (16, I x29), (23, I x42.Levels), (24, I x53), (35, .slice a22 (List.length r14) c23), (36, I x29), (38, I x89), (40, I (shl .i64 1 x53))] (by exact hn) fun ρ => ?_
        refine AP_tail 6 [[], [], [0, 1], [0, 1, 2], [], [4], [0, 1, 2, 3, 4, 5], [0, 1, 2, 3, 4, 5, 6], [0, 1, 2, 3, 4, 5, 6, 7]] (by kernel_rfl) ?_
        refine LP_ev ok 6 [(41, I (bits .or .i64 x89 (shl .i64 1 x53)))] 7 rfl rfl ?_
        obtain ⟨hi104, hl, H⟩ := H
        refine LP_indexw (v := .slice a22 (List.length r14) c23) 7 rfl rfl rfl Try.underlying24 ti_3 rfl rfl o50 hi104 hl fun a105 wa => ?_
        have ex110 := (ex100.ext x103)
        refine LP_set 8 rfl rfl rfl rfl rfl wa (Le.refl emp) ⟨_, rfl, rfl⟩ ex110 fun hx106 wx107 o108 ex109 y dm => ?_
        refine LP_end _ rfl ?_
        refine W_seq ?_
        refine W_region ?_
        refine LP_ev ok 0 [(43, .map (some b)), (44, .slice a (List.length sx) c), (45, .slice a22 (List.length r14) c23)] 3 rfl rfl ?_
        have ex112 := (((ex55.ext x88).ext x103).but y d57)
        refine LP_call 3 rfl rfl rfl cal_168 rfl (impl_editKey_w _ _ _ H wx107 r ex112 o108.readf ex109) ?_
        rintro _ wx113 ⟨r111, H, rfl, x114⟩
        have ex115 := ((((ex56.ext x88).ext x103).but y d58).ext x114)
        refine LP_val 4 _ (v := .bool (mget implied r111 false)) rfl rfl (ex_mget (d := false) rfl Try.underlying177 Try.underlying3 ti_4 rfl rfl rfl r3 _ ex115) ?_
        refine LP_ev ok 5 [(10, .bool (mget implied r111 false))] 6 rfl rfl ?_
        refine LP_end _ rfl ?_
        refine W_seq ?_
        refine W_open mix fun wx116 x117 => ?_
        refine AP_game 6 [[], [], [0, 1], [0, 1, 2], [], [4], [0, 1, 2, 3, 4, 5], [0, 1, 2, 3, 4, 5, 6], [0, 1, 2, 3, 4, 5, 6, 7]] [[(7, none)], [(8, none)], [(48, some 0), (49, some 1)], [(50, some 2)], [(9, none)], [(52, some 4)]] [(0, none), (1, none), (7, none), (8, none), (10, none), (15, none), (16, none), (23, none), (24, none), (48, some 0), (49, some 1), (51, some 3), (53, some 5)] [(0, false), (1, false), (2, false), (3, false), (4, false), (5, false)] (by kernel_rfl) (by kernel_rfl) ?_
        refine GS_ev ok [(7, .slice a22 (List.length r14) c23)] (.slice a22 (List.length r14) c23) rfl rfl (fun _ h => h) (fun _ => rfl) ?_
        refine GS_ev ok [(8, I x29)] (I x29) rfl rfl (fun _ h => h) (fun _ => rfl) ?_
        obtain ⟨x118, hi119, hx120, H⟩ := H
        obtain ⟨a121, cs122, hx125, r123, d124⟩ := run_indexAt Try.underlying24 ti_3 o108.readf .i64 _ x118 hi119 hx120
        refine GS_r0 [(48, .slice a22 (List.length r14) c23), (49, I x29)] (.pointer (some a121)) rfl rfl (fun _ h => h) (fun _ _ => ex_index rfl rfl rfl (hx125 _)) ?_
        obtain ⟨vx126, hx128, r127⟩ := run_loadAt ti_3 ag_3 r123 d124
        obtain rfl := r127.int
        have ex129 := ((ex109.ext x114).ext x117)
        refine GS_r1 [(50, .pointer (some a121))] (I x118) rfl rfl (fun _ h => h) (fun _ w e => ex_load rfl rfl (hx128 w e)) ex129 ?_
        refine GS_ev ok [(9, I x53)] (I x53) rfl rfl (fun _ h => h) (fun _ => rfl) ?_
        obtain ⟨hz130, H⟩ := H
        refine GS_r0 [(52, I x53)] (I (shl .i64 1 x53)) rfl rfl (fun _ h => h) (fun _ _ => ex_shl rfl rfl rfl hz130 _) ?_
        intro wx131 x132 ρ hn133
        refine AP_forget [(0, .slice a (List.length sx) c), (1, .map (some b)), (7, .slice a22 (List.length r14) c23), (8, I x29), (10, .bool (mget implied r111 false)), (15, I (ln r14)), (16, I x29), (23, I x42.Levels), (24, I x53), (48, .slice a22 (List.length r14) c23), (49, I x29), (51, I x118), (53, I (shl .i64 1 x53))] (by exact hn133) fun ρ => ?_
        refine AP_tail 6 [[], [], [0, 1], [0, 1, 2], [], [4], [0, 1, 2, 3, 4, 5], [0, 1, 2, 3, 4, 5, 6], [0, 1, 2, 3, 4, 5, 6, 7]] (by kernel_rfl) ?_
        refine LP_ev ok 6 [(54, I (bits .andNot .i64 x118 (shl .i64 1 x53)))] 7 rfl rfl ?_
        obtain ⟨hi134, hl135, H⟩ := H
        refine LP_indexw (v := .slice a22 (List.length r14) c23) 7 rfl rfl rfl Try.underlying24 ti_3 rfl rfl o108 hi134 hl135 fun a136 wa137 => ?_
        have ex144 := (ex129.ext x132)
        refine LP_set 8 rfl rfl rfl rfl rfl wa137 (Le.refl emp) ⟨_, rfl, rfl⟩ ex144 fun hx138 wx139 o140 ex141 y142 dm143 => ?_
        refine LP_end _ rfl ?_
        refine W_seq ?_
        refine W_region ?_
        refine LP_ev ok 0 [(56, .bool (mget implied r111 false))] 1 rfl rfl ?_
        refine LP_end _ rfl ?_
        refine W_cond (mget implied r111 false) rfl (fun hc145 => ?_) (fun hc145 => ?_)
        · have H := H.1 hc145
          refine W_seq ?_
          refine W_region ?_
          refine LP_ev ok 0 [(6, .bool true)] 1 rfl rfl ?_
          refine LP_end _ rfl ?_
          refine W_ret ?_
          have X147 := ((X59.stepx x88).stepx x103)
          have f146 := (dm _).fresh f52 X147.size
          have X148 := (((((((X59.stepx x88).stepx x103).step y (f52.dom _)).stepx x114).stepx x117).stepx x132).step y142 (f146.dom _))
          exact ⟨_, Ret_of [.bool true] ⟨⟨rfl, rfl⟩, trivial⟩, _, H, rfl, X148.ext⟩
        have H := H.2 hc145
        refine W_skip ?_
        have X150 := ((X59.stepx x88).stepx x103)
        have f149 := (dm _).fresh f52 X150.size
        have X151 := (((((((X59.stepx x88).stepx x103).step y (f52.dom _)).stepx x114).stepx x117).stepx x132).step y142 (f149.dom _))
        have X153 := ((((X150.step y (f52.dom _)).stepx x114).stepx x117).stepx x132)
        have f152 := (dm143 _).fresh f149 X153.size
        have ex154 := ((ex55.ext x88).ext x103)
        have ex155 := ((((ex112.ext x114).ext x117).ext x132).but y142 (DomLe.dj (dm _) d57 ex154))
        have ex156 := ((ex56.ext x88).ext x103)
        have ex157 := (((ex115.ext x117).ext x132).but y142 (DomLe.dj (dm _) d58 ex156))
        have ex158 := (((ex112.ext x114).ext x117).ext x132)
        have ex159 := ((ex115.ext x117).ext x132)
        exact ⟨List.set (List.set sets47 (Int.toNat x29) (bits .or .i64 x89 (shl .i64 1 x53))) (Int.toNat x29) (bits .andNot .i64 x118 (shl .i64 1 x53)), H, _, hx138, env_eq ⟨rfl, rfl, rfl, rfl, rfl, rfl, rfl, rfl, trivial⟩, X151, o140, ex141, f152, ex155, ex157, (DomLe.dj (dm143 _) (DomLe.dj (dm _) d57 ex154) ex158), (DomLe.dj (dm143 _) (DomLe.dj (dm _) d58 ex156) ex159)⟩
      rintro sets65 _ wx71 ⟨H, ρ, hx67, rfl, X76, o68, ex69, f70, ex72, ex73, d74, d75⟩
      subst hk
      refine W_region ?_
      refine LP_ev ok 0 [(57, I (wr (x53 + 1))), (24, I (wr (x53 + 1)))] 2 rfl rfl ?_
      refine LP_end _ rfl ?_
      exact ⟨(sets65, wr (x53 + 1)), ⟨H.1, _, hx67, env_eq ⟨rfl, rfl, rfl, rfl, rfl, rfl, rfl, rfl, trivial⟩, X76, o68, ex69, f70, ex72, ex73, d74, d75⟩, H.2⟩
    have H := H.2 hc64
    refine W_exit ?_
    refine (if_pos rfl).mpr ?_
    refine W_region ?_
    refine LP_ev ok 0 [(58, I (wr (x29 + 1))), (16, I (wr (x29 + 1)))] 2 rfl rfl ?_
    refine LP_end _ rfl ?_
    exact ⟨(sets47, wr (x29 + 1)), ⟨H.1, _, hx49, env_eq ⟨rfl, rfl, rfl, rfl, rfl, trivial⟩, X59, o50, ex51, f52, ex55, ex56, d57, d58⟩, H.2⟩
  have H := H.2 hc
  refine W_exit ?_
  refine (if_pos rfl).mpr ?_
  refine W_seq ?_
  refine W_region ?_
  refine LP_ev ok 0 [(6, .bool false)] 1 rfl rfl ?_
  refine LP_end _ rfl ?_
  refine W_ret ?_
  exact ⟨_, Ret_of [.bool false] ⟨⟨rfl, rfl⟩, trivial⟩, _, H, rfl, X34.ext⟩

set_option maxRecDepth 8000 in
set_option maxHeartbeats 4000000 in
theorem impl_maximalEdits_w (sx : List Variable) (l : List Edit) (vx7 : Int) (Q : (List Edit) → Prop) (H : impl_maximalEdits sx l vx7 Q) (w : World) {vx : Value} {hx : PH} (r : RS hx vx sx) (ex : Sub hx w) {vx1 : Value} {hx2 : PH} (r3 : RS hx2 vx1 l) (ex4 : Sub hx2 w) :
    CallsTo Try.prog 95 #[vx, vx1, I vx7] w fun v w' => ∃ r0 u0 g0, Q r0 ∧ v = u0 ∧ Ext w w' ∧ OD g0 u0 r0 ∧ Sub g0 w' ∧ Fresh w.heap.size g0 := by
  obtain ⟨a, c, rfl⟩ := r.shape
  obtain ⟨a5, c6, rfl⟩ := r3.shape
  refine enter (args := [.slice a (List.length sx) c, .slice a5 (List.length l) c6, I vx7]) 37 Try.func95 rfl rfl rfl ?_
  refine W_forget [(0, .slice a (List.length sx) c), (1, .slice a5 (List.length l) c6), (2, I vx7)] ⟨rfl, rfl, rfl, trivial⟩ fun ρ => ?_
  have X := But.refl emp w
  refine W_seq ?_
  refine W_region ?_
  refine LP_box 0 (cs := [.slice a (List.length sx) c]) rfl rfl rfl rfl rfl fun b wx x ex8 f => ?_
  refine LP_ev ok 1 [(6, .slice none 0 0)] 2 rfl rfl ?_
  refine LP_end _ rfl ?_
  refine W_seq ?_
  refine W_region ?_
  refine LP_mkmap (α := Bool) 0 rfl rfl rfl fun b9 hx10 wx11 x12 o ex13 f14 => ?_
  refine LP_alloc 1 rfl rfl rfl ti_177 rfl fun b15 wx16 x17 ex18 f19 => ?_
  refine LP_stbox 2 (vs := [.map (some b9)]) (cs' := [.map (some b9)]) rfl rfl rfl ti_177 rfl rfl rfl rfl rfl ex18 rfl rfl fun wx20 ex21 y => ?_
  refine LP_end _ rfl ?_
  refine W_seq ?_
  refine W_region ?_
  refine LP_alloc 0 rfl rfl rfl ti_31 rfl fun b22 wx23 x24 ex25 f26 => ?_
  refine LP_end _ rfl ?_
  refine W_seq ?_
  refine W_open mix fun wx27 x28 => ?_
  refine AP_game 6 [[], [], [], [1, 2], [], [], [0, 1, 2, 3, 4, 5]] [[(3, none)], [(3, none)], [(1, none)], [(14, some 1), (15, some 2)], [(2, none)], [(3, none), (7, none), (8, none)]] [(3, none), (7, none), (8, none), (13, some 0), (16, some 3), (17, some 4), (18, some 5)] [(0, false), (1, false), (2, false), (4, false), (5, false), (3, true)] (by kernel_rfl) (by kernel_rfl) ?_
  have ex29 := (ex8.ext x12)
  have ex30 := (((((ex8.ext x12).ext x17).but y (Dj.of_fresh ex29 f19).symm).ext x24).ext x28)
  refine GS_r1 [(3, .pointer (some ⟨b, 0, none⟩))] (.slice a (List.length sx) c) rfl rfl (fun _ h => h) (fun _ w e => ex_ldbox rfl ti_29 ag_29 (fun _ => rfl) rfl e rfl rfl) ex30 ?_
  refine GS_r1 [(3, .pointer (some ⟨b, 0, none⟩))] (.slice a (List.length sx) c) rfl rfl (fun _ h => h) (fun _ w e => ex_ldbox rfl ti_29 ag_29 (fun _ => rfl) rfl e rfl rfl) ex30 ?_
  refine GS_ev ok [(1, .slice a5 (List.length l) c6)] (.slice a5 (List.length l) c6) rfl rfl (fun _ h => h) (fun _ => rfl) ?_
  refine GS_ev ok [(2, I vx7)] (I vx7) rfl rfl (fun _ h => h) (fun _ => rfl) ?_
  refine GS_ev ok [(3, .pointer (some ⟨b, 0, none⟩)), (7, .pointer (some ⟨b15, 0, none⟩)), (8, .pointer (some ⟨b22, 0, none⟩))] (.func (.func 167) #[] #[.pointer (some ⟨b15, 0, none⟩), .pointer (some ⟨b, 0, none⟩), .pointer (some ⟨b22, 0, none⟩)]) rfl rfl (fun _ h => h) (fun _ => rfl) ?_
  refine GS_lp [(14, .slice a (List.length sx) c), (15, .slice a5 (List.length l) c6)] rfl rfl (fun _ h => h) rfl fun ρ wx31 x32 => ?_
  have ex34 := ((ex.ext x).ext x12)
  have ex35 := (((((((ex.ext x).ext x12).ext x17).but y (Dj.of_fresh ex34 f19).symm).ext x24).ext x28).ext x32)
  have ex36 := ((ex4.ext x).ext x12)
  have ex37 := (((((((ex4.ext x).ext x12).ext x17).but y (Dj.of_fresh ex36 f19).symm).ext x24).ext x28).ext x32)
  refine LP_call 0 rfl rfl rfl cal_166 rfl (impl_failing_w _ _ _ H wx31 r ex35 r3 ex37) ?_
  rintro _ wx38 ⟨r33, vx40, hx41, H, rfl, x39, o42, ex43, f44⟩
  obtain ⟨a45, c46, rfl⟩ := o42.shape
  have ex47 := ((ex30.ext x32).ext x39)
  refine LP_gs ⟨⟨.inl rfl, .inr ex47, trivial⟩, ?_⟩
  intro wx48 x49 ρ hn
  refine AP_forget [(3, .pointer (some ⟨b, 0, none⟩)), (7, .pointer (some ⟨b15, 0, none⟩)), (8, .pointer (some ⟨b22, 0, none⟩)), (13, .slice a (List.length sx) c), (16, .slice a45 (List.length r33) c46), (17, I vx7), (18, .func (.func 167) #[] #[.pointer (some ⟨b15, 0, none⟩), .pointer (some ⟨b, 0, none⟩), .pointer (some ⟨b22, 0, none⟩)])] (by exact hn) fun ρ => ?_
  refine AP_tail 6 [[], [], [], [1, 2], [], [], [0, 1, 2, 3, 4, 5]] (by kernel_rfl) ?_
  have ex50 := ((ex13.ext x17).but y (Dj.of_fresh ex13 f19).symm)
  have ex51 := (ex.ext x)
  have ex52 := (((ex50.ext x24).ext x28).ext x32)
  have ex53 := ((ex34.ext x17).but y (Dj.of_fresh ex34 f19).symm)
  have ex54 := ((ex25.ext x28).ext x32)
  have ex55 := ((ex29.ext x17).but y (Dj.of_fresh ex29 f19).symm)
  have ex58 := ((ex35.ext x39).ext x49)
  have ex59 := (ex43.ext x49)
  have ex60 := ((ex52.ext x39).ext x49)
  have ex61 := (((((ex21.ext x24).ext x28).ext x32).ext x39).ext x49)
  have ex62 := (((ex30.ext x32).ext x39).ext x49)
  have ex63 := ((ex54.ext x39).ext x49)
  refine LP_call 6 rfl rfl rfl cal_165 rfl (impl_impliedIn_impl_maximalEdits_1_w _ _ _ _ _ _ _ _ H wx48 r ex58 o42.readf ex59 (OS.nil (E := 3) (g := emp)) (emp_sub _) o ex60 ex61 r ex58 ex62 (OD.nil (α := Edit)) (emp_sub _) ex63 (Dj.emp_l _) (Dj.emp_l _) (Dj.emp_l _) (Dj.emp_r _) (Dj.of_fresh ex50 f26) (Dj.emp_l _) (Dj.emp_l _) (Dj.emp_l _) (Dj.emp_l _) (Dj.emp_l _) (Dj.emp_l _) (Dj.of_fresh ex51 f14).symm (Dj.of_fresh ex52 f44) (Dj.box (Dj.of_fresh ex13 f19).symm).symm (Dj.of_fresh ex51 f14).symm (Dj.of_fresh ex8 f14).symm (Dj.emp_l _) (Dj.emp_l _) (Dj.emp_l _) (Dj.emp_l _) (Dj.emp_l _) (Dj.of_fresh ex53 f26).symm (Dj.of_fresh ex54 f44) (Dj.of_fresh ex21 f26).symm (Dj.of_fresh ex53 f26).symm (Dj.of_fresh ex55 f26).symm) ?_
  rintro _ wx64 ⟨r56, r57, hx66, hx69, vx77, hx73, H, rfl, x65, o67, ex68, dm, o70, ex71, dm72, o74, ex75, dm76, ex78, d, d79, d80, d81, d82, d83⟩
  obtain ⟨a84, c85, rfl⟩ := o74.shape
  refine LP_end _ rfl ?_
  refine W_seq ?_
  refine W_region ?_
  refine LP_ev ok 0 [(9, .slice none 0 0)] 1 rfl rfl ?_
  refine LP_end _ rfl ?_
  refine W_seq ?_
  refine W_seq ?_
  refine W_region ?_
  refine LP_ldbox 0 (v := .slice a84 (List.length r57) c85) rfl rfl rfl ti_31 ag_31 (fun _ => rfl) rfl ex78 rfl rfl ?_
  refine LP_ev ok 1 [(21, I (ln r57)), (22, I 0)] 3 rfl rfl ?_
  refine LP_end _ rfl ?_
  refine W_block ?_
  have X114 := ((X.stepx x).stepx x12)
  have f113 := f19.mono X114.size
  have X116 := (X.stepx x)
  have f115 := f14.mono X116.size
  have X118 := ((X114.stepx x17).step y (f113.dom _))
  have f117 := f26.mono X118.size
  have X119 := ((((((((((X.stepx x).stepx x12).stepx x17).step y (f113.dom _)).stepx x24).stepx x28).stepx x32).stepx x39).stepx x49).step x65 (DomLe.un (fun _ _ _ => rfl) (DomLe.un (f115.dom _) (DomLe.un (fun _ _ _ => rfl) (f117.dom _)))))
  have X121 := (((((X118.stepx x24).stepx x28).stepx x32).stepx x39).stepx x49)
  have f120 := DomLe.fresh dm76 (Fresh.un (emp_fresh _) (Fresh.un f115 (Fresh.un (emp_fresh _) f117))) X121.size
  have ex122 := (ex58.but x65 (Dj.un_l (Dj.emp_l _) (Dj.un_l (Dj.of_fresh ex51 f14).symm (Dj.un_l (Dj.emp_l _) (Dj.of_fresh ex53 f26).symm))))
  have ex123 := (ex62.but x65 (Dj.un_l (Dj.emp_l _) (Dj.un_l (Dj.of_fresh ex8 f14).symm (Dj.un_l (Dj.emp_l _) (Dj.of_fresh ex55 f26).symm))))
  have ex124 := (ex61.but x65 (Dj.un_l (Dj.emp_l _) (Dj.un_l (Dj.box (Dj.of_fresh ex13 f19).symm).symm (Dj.un_l (Dj.emp_l _) (Dj.of_fresh ex21 f26).symm))))
  obtain ⟨J, m, Hx, H⟩ := H
  refine W_loop (S := (List Edit) × Int) (fun s ρ' w' => J s.1 s.2 ∧ ∃ (ρ : Env) (vx86 : Value) (hx87 : PH) (hx91 : PH), ρ' = setAll [(3, .pointer (some ⟨b, 0, none⟩)), (7, .pointer (some ⟨b15, 0, none⟩)), (9, vx86), (20, .slice a84 (List.length r57) c85), (21, I (ln r57)), (22, I s.2)] ρ ∧ But emp w w' ∧ OD hx87 vx86 s.1 ∧ Sub hx87 w' ∧ Fresh w.heap.size hx87 ∧ DR hx91 (.slice a84 (List.length r57) c85) r57 (Int.toNat s.2) ∧ Sub hx91 w' ∧ Fresh w.heap.size hx91 ∧ Sub hx w' ∧ Sub (bx b 29 [.slice a (List.length sx) c]) w' ∧ Sub hx69 w' ∧ Sub (bx b15 177 [.map (some b9)]) w' ∧ Dj hx87 hx ∧ Dj hx87 (bx b 29 [.slice a (List.length sx) c]) ∧ Dj hx87 hx69 ∧ Dj hx87 (bx b15 177 [.map (some b9)]) ∧ Dj hx91 hx ∧ Dj hx91 (bx b 29 [.slice a (List.length sx) c]) ∧ Dj hx91 hx69 ∧ Dj hx91 (bx b15 177 [.map (some b9)]) ∧ Dj hx91 hx87) (fun s => m s.1 s.2) ([], 0) ⟨Hx, _, .slice none 0 0, emp, hx73, env_eq ⟨rfl, rfl, rfl, rfl, rfl, rfl, trivial⟩, X119, OD.nil, (emp_sub _), (emp_fresh _), (OD.drain o74), ex75, f120, ex122, ex123, ex71, ex124, (fun _ => .inl rfl), (fun _ => .inl rfl), (fun _ => .inl rfl), (fun _ => .inl rfl), (DomLe.dj dm76 (Dj.un_l (Dj.emp_l _) (Dj.un_l (Dj.of_fresh ex51 f14).symm (Dj.un_l (Dj.emp_l _) (Dj.of_fresh ex53 f26).symm))) ex58), (DomLe.dj dm76 (Dj.un_l (Dj.emp_l _) (Dj.un_l (Dj.of_fresh ex8 f14).symm (Dj.un_l (Dj.emp_l _) (Dj.of_fresh ex55 f26).symm))) ex62), d81.symm, (DomLe.dj dm76 (Dj.un_l (Dj.emp_l _) (Dj.un_l (Dj.box (Dj.of_fresh ex13 f19).symm).symm (Dj.un_l (Dj.emp_l _) (Dj.of_fresh ex21 f26).symm))) ex61), (fun _ => .inr rfl)⟩ ?_
  rintro ⟨out, x95⟩ _ wx96 ⟨Hi, ρ, vx86, hx87, hx91, rfl, X112, o88, ex89, f90, o92, ex93, f94, ex97, ex98, ex99, ex100, d103, d104, d105, d106, d107, d108, d109, d110, d111⟩
  have H := H out x95 Hi
  obtain ⟨a101, c102, rfl⟩ := o88.shape
  refine W_seq ?_
  refine W_region ?_
  refine LP_ev ok 0 [(23, .bool (decide (x95 < (ln r57))))] 1 rfl rfl ?_
  refine LP_end _ rfl ?_
  refine W_seq ?_
  refine W_cond (decide (x95 < (ln r57))) rfl (fun hc => ?_) (fun hc => ?_)
  · have H := H.1 hc
    refine W_skip ?_
    obtain ⟨k, hk, H⟩ := jn_elim H
    refine W_join2 (S := (List Edit)) (fun s ρ' w' => k s ∧ ∃ (ρ : Env) (vx126 : Value) (hx127 : PH) (hx131 : PH), ρ' = setAll [(3, .pointer (some ⟨b, 0, none⟩)), (7, .pointer (some ⟨b15, 0, none⟩)), (9, vx126), (20, .slice a84 (List.length r57) c85), (21, I (ln r57)), (22, I x95)] ρ ∧ But emp w w' ∧ OD hx127 vx126 s ∧ Sub hx127 w' ∧ Fresh w.heap.size hx127 ∧ DR hx131 (.slice a84 (List.length r57) c85) r57 (Int.toNat (wr (x95 + 1))) ∧ Sub hx131 w' ∧ Fresh w.heap.size hx131 ∧ Sub hx w' ∧ Sub (bx b 29 [.slice a (List.length sx) c]) w' ∧ Sub hx69 w' ∧ Sub (bx b15 177 [.map (some b9)]) w' ∧ Dj hx127 hx ∧ Dj hx127 (bx b 29 [.slice a (List.length sx) c]) ∧ Dj hx127 hx69 ∧ Dj hx127 (bx b15 177 [.map (some b9)]) ∧ Dj hx131 hx ∧ Dj hx131 (bx b 29 [.slice a (List.length sx) c]) ∧ Dj hx131 hx69 ∧ Dj hx131 (bx b15 177 [.map (some b9)]) ∧ Dj hx131 hx127) ?_ ?_
    · refine W_block ?_
      refine W_seq ?_
      refine W_region ?_
      obtain ⟨x152, hi, hx153, H⟩ := H
      refine LP_indexT (v := .slice a84 (List.length r57) c85) 0 rfl rfl rfl Try.underlying31 ti_50 rfl rfl o92 hi hx153 fun a154 c155 hx156 hx157 r158 ow o159 d160 l161 l162 => ?_
      have ex163 := Sub.le ex93 l161
      have ex164 := Sub.le ex93 l162
      obtain ⟨u, rfl, o165⟩ := Edit_tk ow
      obtain ⟨a166, c167, rfl⟩ := o165.shape
      have o168 : OS 3 hx156 emp (.slice a166 (List.length x152.Sets) c167) x152.Sets := OD.flat o165
      refine LP_ldpart (off := 0) 1 (v := .agg #[.slice a166 (List.length x152.Sets) c167]) rfl rfl rfl ti_50 ag_50 (fun h => by cases h) rfl r158 ex164 rfl rfl ?_
      refine LP_alloc 2 rfl rfl rfl ti_50 rfl fun b169 wx170 x171 ex172 f173 => ?_
      refine LP_stbox 3 (vs := [.slice a166 (List.length x152.Sets) c167]) (cs' := [.slice a166 (List.length x152.Sets) c167]) rfl rfl rfl ti_50 rfl rfl rfl rfl rfl ex172 rfl rfl fun wx174 ex175 y176 => ?_
      refine LP_end _ rfl ?_
      refine W_seq ?_
      refine W_region ?_
      have ex177 := ((ex98.ext x171).but y176 (Dj.of_fresh ex98 f173).symm)
      refine LP_ldbox 0 (v := .slice a (List.length sx) c) rfl rfl rfl ti_29 ag_29 (fun _ => rfl) rfl ex177 rfl rfl ?_
      have ex178 := ((ex100.ext x171).but y176 (Dj.of_fresh ex100 f173).symm)
      refine LP_ldbox 1 (v := .map (some b9)) rfl rfl rfl ti_177 ag_177 (fun _ => rfl) rfl ex178 rfl rfl ?_
      refine LP_ldbox 2 (v := .agg #[.slice a166 (List.length x152.Sets) c167]) rfl rfl rfl ti_50 ag_50 (fun h => by cases h) rfl ex175 rfl rfl ?_
      have ex180 := ((ex97.ext x171).but y176 (Dj.of_fresh ex97 f173).symm)
      have ex181 := ((ex99.ext x171).but y176 (Dj.of_fresh ex99 f173).symm)
      have ex182 := ((ex163.ext x171).but y176 (Dom.dj (Dom.of_le l161) (Dj.of_fresh ex93 f173)).symm)
      refine LP_call 3 rfl rfl rfl cal_169 rfl (impl_canGrow_w _ _ _ _ H wx174 r ex180 o70 ex181 o168.readf ex182) ?_
      rintro _ wx183 ⟨r179, H, rfl, x184⟩
      refine LP_ev ok 4 [(30, .bool (!r179))] 5 rfl rfl ?_
      refine LP_end _ rfl ?_
      refine W_cond (!r179) rfl (fun hc185 => ?_) (fun hc185 => ?_)
      · have H := H.1 hc185
        refine W_region ?_
        refine LP_ev ok 0 [(31, .slice a101 (List.length out) c102)] 1 rfl rfl ?_
        have ex186 := (ex175.ext x184)
        refine LP_ldbox 1 (v := .agg #[.slice a166 (List.length x152.Sets) c167]) rfl rfl rfl ti_50 ag_50 (fun h => by cases h) rfl ex186 rfl rfl ?_
        have ex187 := (ex182.ext x184)
        have rv : RVO hx156 (.agg #[.slice a166 (List.length x152.Sets) c167]) ((Edit.mk x152.Sets) : Edit) := ⟨_, ⟨_, rfl, (OS.od o168)⟩, rfl⟩
        refine LP_litD (α := Edit) 2 (vs := [.agg #[.slice a166 (List.length x152.Sets) c167]]) (xs := [((Edit.mk x152.Sets) : Edit)]) rfl rfl rfl Try.underlying31 ti_50 rfl rfl (allO.one rv) ex187 rfl rfl fun hx188 vx189 wx190 x191 o192 ex193 dm194 => ?_
        obtain ⟨a195, c196, rfl⟩ := o192.shape
        have ex197 := ((((ex89.ext x171).but y176 (Dj.of_fresh ex89 f173).symm).ext x184).ext x191)
        have ex198 := (((ex89.ext x171).but y176 (Dj.of_fresh ex89 f173).symm).ext x184)
        obtain ⟨hb, H⟩ := H
        refine LP_appendD (α := Edit) 3 rfl rfl rfl Try.underlying31 ti_50 rfl rfl rfl o88 ex197 o192 ex193 (DomLe.dj dm194 (Dom.dj (Dom.of_le l161) d111) ex198).symm (by first | omega | (simp only [ln] at *; omega)) (by first | omega | (simp only [ln] at *; omega)) fun hx199 vx200 wx201 hw o202 ex203 y204 dh dm205 => ?_
        obtain ⟨a206, c207, rfl⟩ := o202.shape
        refine LP_ev ok 4 [(9, .slice a206 (List.length (out ++ ([((Edit.mk x152.Sets) : Edit)]))) c207)] 5 rfl rfl ?_
        refine LP_end _ rfl ?_
        have f208 := f173.mono X112.size
        have X209 := (((((X112.stepx x171).step y176 (f208.dom _)).stepx x184).stepx x191).step (But.dom y204 dh) (f90.dom _))
        have f210 := Fresh.domOf f94 (Dom.of_le l161)
        have X212 := (((X112.stepx x171).step y176 (f208.dom _)).stepx x184)
        have f211 := DomLe.fresh dm194 f210 X212.size
        have X214 := (X212.stepx x191)
        have f213 := DomLe.fresh dm205 (Fresh.un f90 f211) X214.size
        have ex215 := (((((ex164.ext x171).but y176 (Dom.dj (Dom.of_le l162) (Dj.of_fresh ex93 f173)).symm).ext x184).ext x191).but (But.dom y204 dh) (Dom.dj (Dom.of_le l162) d111).symm)
        have f216 := Fresh.domOf f94 (Dom.of_le l162)
        have ex217 := (((ex180.ext x184).ext x191).but (But.dom y204 dh) d103)
        have ex218 := (((ex177.ext x184).ext x191).but (But.dom y204 dh) d104)
        have ex219 := (((ex181.ext x184).ext x191).but (But.dom y204 dh) d105)
        have ex220 := (((ex178.ext x184).ext x191).but (But.dom y204 dh) d106)
        have ex221 := (ex180.ext x184)
        have ex222 := (ex221.ext x191)
        have ex223 := (ex177.ext x184)
        have ex224 := (ex223.ext x191)
        have ex225 := (ex181.ext x184)
        have ex226 := (ex225.ext x191)
        have ex227 := (ex178.ext x184)
        have ex228 := (ex227.ext x191)
        have ex229 := (((ex164.ext x171).but y176 (Dom.dj (Dom.of_le l162) (Dj.of_fresh ex93 f173)).symm).ext x184)
        have ex230 := (ex229.ext x191)
        exact ⟨out ++ ([((Edit.mk x152.Sets) : Edit)]), H, _, .slice a206 (List.length (out ++ ([((Edit.mk x152.Sets) : Edit)]))) c207, hx199, hx157, env_eq ⟨rfl, rfl, rfl, rfl, rfl, rfl, trivial⟩, X209, o202, ex203, f213, o159, ex215, f216, ex217, ex218, ex219, ex220, (DomLe.dj dm205 (Dj.un_l d103 (DomLe.dj dm194 (Dom.dj (Dom.of_le l161) d107) ex221)) ex222), (DomLe.dj dm205 (Dj.un_l d104 (DomLe.dj dm194 (Dom.dj (Dom.of_le l161) d108) ex223)) ex224), (DomLe.dj dm205 (Dj.un_l d105 (DomLe.dj dm194 (Dom.dj (Dom.of_le l161) d109) ex225)) ex226), (DomLe.dj dm205 (Dj.un_l d106 (DomLe.dj dm194 (Dom.dj (Dom.of_le l161) d110) ex227)) ex228), (Dom.dj (Dom.of_le l162) d107), (Dom.dj (Dom.of_le l162) d108), (Dom.dj (Dom.of_le l162) d109), (Dom.dj (Dom.of_le l162) d110), (DomLe.dj dm205 (Dj.un_l (Dom.dj (Dom.of_le l162) d111).symm (DomLe.dj dm194 d160 ex229)) ex230).symm⟩
      have H := H.2 hc185
      refine W_skip ?_
      have f231 := f173.mono X112.size
      have X232 := (((X112.stepx x171).step y176 (f231.dom _)).stepx x184)
      have ex233 := (((ex89.ext x171).but y176 (Dj.of_fresh ex89 f173).symm).ext x184)
      have ex234 := (((ex164.ext x171).but y176 (Dom.dj (Dom.of_le l162) (Dj.of_fresh ex93 f173)).symm).ext x184)
      have f235 := Fresh.domOf f94 (Dom.of_le l162)
      have ex236 := (ex180.ext x184)
      have ex237 := (ex177.ext x184)
      have ex238 := (ex181.ext x184)
      have ex239 := (ex178.ext x184)
      exact ⟨out, H, _, .slice a101 (List.length out) c102, hx87, hx157, env_eq ⟨rfl, rfl, rfl, rfl, rfl, rfl, trivial⟩, X232, o88, ex233, f90, o159, ex234, f235, ex236, ex237, ex238, ex239, d103, d104, d105, d106, (Dom.dj (Dom.of_le l162) d107), (Dom.dj (Dom.of_le l162) d108), (Dom.dj (Dom.of_le l162) d109), (Dom.dj (Dom.of_le l162) d110), (Dom.dj (Dom.of_le l162) d111)⟩
    rintro out125 _ wx135 ⟨H, ρ, vx126, hx127, hx131, rfl, X151, o128, ex129, f130, o132, ex133, f134, ex136, ex137, ex138, ex139, d142, d143, d144, d145, d146, d147, d148, d149, d150⟩
    subst hk
    obtain ⟨a140, c141, rfl⟩ := o128.shape
    refine W_region ?_
    refine LP_ev ok 0 [(35, I (wr (x95 + 1))), (22, I (wr (x95 + 1)))] 2 rfl rfl ?_
    refine LP_end _ rfl ?_
    exact ⟨(out125, wr (x95 + 1)), ⟨H.1, _, .slice a140 (List.length out125) c141, hx127, hx131, env_eq ⟨rfl, rfl, rfl, rfl, rfl, rfl, trivial⟩, X151, o128, ex129, f130, o132, ex133, f134, ex136, ex137, ex138, ex139, d142, d143, d144, d145, d146, d147, d148, d149, d150⟩, H.2⟩
  have H := H.2 hc
  refine W_exit ?_
  refine (if_pos rfl).mpr ?_
  refine W_seq ?_
  refine W_region ?_
  refine LP_ev ok 0 [(36, .slice a101 (List.length out) c102), (6, .slice a101 (List.length out) c102)] 2 rfl rfl ?_
  refine LP_end _ rfl ?_
  refine W_ret ?_
  exact ⟨_, Ret_of [.slice a101 (List.length out) c102] ⟨⟨rfl, rfl⟩, trivial⟩, _, _, _, H, rfl, X112.ext, o88, ex89, f90⟩

set_option maxRecDepth 8000 in
set_option maxHeartbeats 4000000 in
theorem impl_EliminateVariable_w (sx : List Variable) (l : List Edit) (vx7 : Int) (Q : (List Edit) → Bool → Prop) (H : impl_EliminateVariable sx l vx7 Q) (w : World) {vx : Value} {hx : PH} (r : RS hx vx sx) (ex : Sub hx w) {vx1 : Value} {hx2 : PH} (r3 : RS hx2 vx1 l) (ex4 : Sub hx2 w) :
    CallsTo Try.prog 25 #[vx, vx1, I vx7] w fun v w' => ∃ r0 r1 u0 g0, Q r0 r1 ∧ v = .tuple #[u0, .bool r1] ∧ Ext w w' ∧ OD g0 u0 r0 ∧ Sub g0 w' ∧ Fresh w.heap.size g0 := by
  obtain ⟨a, c, rfl⟩ := r.shape
  obtain ⟨a5, c6, rfl⟩ := r3.shape
  refine enter (args := [.slice a (List.length sx) c, .slice a5 (List.length l) c6, I vx7]) 31 Try.func25 rfl rfl rfl ?_
  refine W_forget [(0, .slice a (List.length sx) c), (1, .slice a5 (List.length l) c6), (2, I vx7)] ⟨rfl, rfl, rfl, trivial⟩ fun ρ => ?_
  have X := But.refl emp w
  refine W_seq ?_
  refine W_region ?_
  refine LP_ev ok 0 [(6, .slice none 0 0), (7, .bool false)] 2 rfl rfl ?_
  refine LP_end _ rfl ?_
  refine W_seq ?_
  obtain ⟨k, hk, H⟩ := jn_elim H
  refine W_join2 (S := Bool) (fun s ρ' w' => k s ∧ ∃ (ρ : Env), ρ' = setAll [(0, .slice a (List.length sx) c), (1, .slice a5 (List.length l) c6), (2, I vx7), (26, .bool s)] ρ ∧ But emp w w' ∧ Sub hx w' ∧ Sub hx2 w') ?_ ?_
  · refine W_region ?_
    refine LP_ev ok 0 [(8, .slice a (List.length sx) c)] 1 rfl rfl ?_
    refine LP_call 1 rfl rfl rfl cal_86 rfl (impl_isSmall_w _ _ H w r ex) ?_
    rintro _ wx12 ⟨r11, H, rfl, x13⟩
    refine LP_ev ok 2 [(10, .bool (!r11)), (11, .bool (!r11))] 4 rfl rfl ?_
    refine LP_split 11 (!r11) rfl (fun hc => ?_) (fun hc => ?_)
    · have H := H.1 hc
      refine LP_ev ok 4 [(12, undef), (13, undef), (14, undef), (15, undef), (16, .bool true), (17, .bool true), (18, undef), (19, undef), (20, .bool true), (21, .bool true), (22, undef), (23, undef), (24, undef), (25, undef), (26, .bool true)] 19 rfl rfl ?_
      refine LP_end _ rfl ?_
      have X14 := (X.stepx x13)
      have ex15 := (ex.ext x13)
      have ex16 := (ex4.ext x13)
      exact ⟨true, H, _, env_eq ⟨rfl, rfl, rfl, rfl, trivial⟩, X14, ex15, ex16⟩
    have H := H.2 hc
    refine LP_ev ok 4 [(12, .slice a (List.length sx) c), (13, .slice a5 (List.length l) c6)] 6 rfl rfl ?_
    have ex18 := (ex.ext x13)
    have ex19 := (ex4.ext x13)
    refine LP_call 6 rfl rfl rfl cal_87 rfl (impl_areEdits_w _ _ _ H wx12 r ex18 r3 ex19) ?_
    rintro _ wx20 ⟨r17, H, rfl, x21⟩
    refine LP_ev ok 7 [(15, .bool (!r17)), (16, .bool (!r17)), (17, .bool (!r17))] 10 rfl rfl ?_
    refine LP_split 17 (!r17) rfl (fun hc22 => ?_) (fun hc22 => ?_)
    · have H := H.1 hc22
      refine LP_ev ok 10 [(18, undef), (19, undef), (20, .bool true), (21, .bool true), (22, undef), (23, undef), (24, undef), (25, undef), (26, .bool true)] 19 rfl rfl ?_
      refine LP_end _ rfl ?_
      have X23 := ((X.stepx x13).stepx x21)
      have ex24 := (ex18.ext x21)
      have ex25 := (ex19.ext x21)
      exact ⟨true, H, _, env_eq ⟨rfl, rfl, rfl, rfl, trivial⟩, X23, ex24, ex25⟩
    have H := H.2 hc22
    refine LP_ev ok 10 [(18, I vx7), (19, .bool (decide (vx7 < 0))), (20, .bool (decide (vx7 < 0))), (21, .bool (decide (vx7 < 0)))] 14 rfl rfl ?_
    refine LP_split 21 (decide (vx7 < 0)) rfl (fun hc26 => ?_) (fun hc26 => ?_)
    · have H := H.1 hc26
      refine LP_ev ok 14 [(22, undef), (23, undef), (24, undef), (25, undef), (26, .bool true)] 19 rfl rfl ?_
      refine LP_end _ rfl ?_
      have X27 := ((X.stepx x13).stepx x21)
      have ex28 := (ex18.ext x21)
      have ex29 := (ex19.ext x21)
      exact ⟨true, H, _, env_eq ⟨rfl, rfl, rfl, rfl, trivial⟩, X27, ex28, ex29⟩
    have H := H.2 hc26
    refine LP_ev ok 14 [(22, I vx7), (23, .slice a (List.length sx) c), (24, I (ln sx)), (25, .bool (decide (vx7 ≥ (ln sx)))), (26, .bool (decide (vx7 ≥ (ln sx))))] 19 rfl rfl ?_
    refine LP_end _ rfl ?_
    have X30 := ((X.stepx x13).stepx x21)
    have ex31 := (ex18.ext x21)
    have ex32 := (ex19.ext x21)
    exact ⟨decide (vx7 ≥ (ln sx)), H, _, env_eq ⟨rfl, rfl, rfl, rfl, trivial⟩, X30, ex31, ex32⟩
  rintro x _ wx ⟨H, ρ, rfl, X10, ex8, ex9⟩
  subst hk
  refine W_cond (x) rfl (fun hc33 => ?_) (fun hc33 => ?_)
  · have H := H.1 hc33
    refine W_seq ?_
    refine W_region ?_
    refine LP_ev ok 0 [(6, .slice none 0 0), (7, .bool false)] 2 rfl rfl ?_
    refine LP_end _ rfl ?_
    refine W_ret ?_
    exact ⟨_, Ret_of [.slice none 0 0, .bool false] ⟨⟨rfl, rfl⟩, ⟨rfl, rfl⟩, trivial⟩, _, _, _, emp, H, rfl, X10.ext, OD.nil, (emp_sub _), (emp_fresh _)⟩
  have H := H.2 hc33
  refine W_skip ?_
  refine W_seq ?_
  refine W_region ?_
  refine LP_ev ok 0 [(27, .slice a (List.length sx) c), (28, .slice a5 (List.length l) c6), (29, I vx7)] 3 rfl rfl ?_
  refine LP_call 3 rfl rfl rfl cal_95 rfl (impl_maximalEdits_w _ _ _ _ H wx r ex8 r3 ex9) ?_
  rintro _ wx35 ⟨r34, vx37, hx38, H, rfl, x36, o, ex39, f⟩
  obtain ⟨a40, c41, rfl⟩ := o.shape
  refine LP_ev ok 4 [(6, .slice a40 (List.length r34) c41), (7, .bool true)] 6 rfl rfl ?_
  refine LP_end _ rfl ?_
  refine W_ret ?_
  have f42 := f.mono X10.size
  have X43 := (X10.stepx x36)
  exact ⟨_, Ret_of [.slice a40 (List.length r34) c41, .bool true] ⟨⟨rfl, rfl⟩, ⟨rfl, rfl⟩, trivial⟩, _, _, _, _, H, rfl, X43.ext, o, ex39, f42⟩

set_option maxRecDepth 8000 in
set_option maxHeartbeats 4000000 in
theorem laws_markText_w (k : Int) (Q : ByteArray → Prop) (H : laws_markText k Q) (w : World)  :
    CallsTo Try.prog 96 #[I k] w fun v w' => ∃ r0, Q r0 ∧ v = .string r0 ∧ Ext w w' := by
  refine enter (args := [I k]) 20 Try.func96 rfl rfl rfl ?_
  refine W_forget [(0, I k)] ⟨rfl, trivial⟩ fun ρ => ?_
  have X := But.refl emp w
  refine W_seq ?_
  refine W_region ?_
  refine LP_ev ok 0 [(2, .string ((ByteArray.mk #[])))] 1 rfl rfl ?_
  refine LP_end _ rfl ?_
  refine W_seq ?_
  refine W_seq ?_
  refine W_region ?_
  refine LP_ev ok 0 [(4, I k), (5, .bool (decide (k ≤ 0)))] 2 rfl rfl ?_
  refine LP_end _ rfl ?_
  refine W_cond (decide (k ≤ 0)) rfl (fun hc => ?_) (fun hc => ?_)
  · have H := H.1 hc
    refine W_seq ?_
    refine W_region ?_
    refine LP_ev ok 0 [(2, .string ((ByteArray.mk #[109, 48])))] 1 rfl rfl ?_
    refine LP_end _ rfl ?_
    refine W_ret ?_
    exact ⟨_, Ret_of [.string ((ByteArray.mk #[109, 48]))] ⟨⟨rfl, rfl⟩, trivial⟩, _, H, rfl, X.ext⟩
  have H := H.2 hc
  refine W_skip ?_
  refine W_seq ?_
  refine W_region ?_
  refine LP_ev ok 0 [(3, .string ((ByteArray.mk #[])))] 1 rfl rfl ?_
  refine LP_end _ rfl ?_
  refine W_seq ?_
  refine W_block ?_
  obtain ⟨J, m, Hx, H⟩ := H
  refine W_loop (S := Int × ByteArray) (fun s ρ' w' => J s.1 s.2 ∧ ∃ (ρ : Env), ρ' = setAll [(0, I s.1), (3, .string s.2)] ρ ∧ But emp w w') (fun s => m s.1 s.2) (k, (ByteArray.mk #[])) ⟨Hx, _, env_eq ⟨rfl, rfl, trivial⟩, X⟩ ?_
  rintro ⟨k1, out⟩ _ wx ⟨Hi, ρ, rfl, X2⟩
  have H := H k1 out Hi
  refine W_seq ?_
  refine W_seq ?_
  refine W_region ?_
  refine LP_ev ok 0 [(6, I k1), (7, .bool (decide (k1 > 0)))] 2 rfl rfl ?_
  refine LP_end _ rfl ?_
  refine W_cond (decide (k1 > 0)) rfl (fun hc3 => ?_) (fun hc3 => ?_)
  · have H := H.1 hc3
    refine W_skip ?_
    refine W_block ?_
    refine W_seq ?_
    refine W_region ?_
    refine LP_ev ok 0 [(8, I k1)] 1 rfl rfl ?_
    refine LP_val 1 _ rfl rfl (ex_rem rfl rfl rfl (by decide) _) ?_
    refine LP_ev ok 2 [(10, I (wr (48 + (Int.tmod k1 10)))), (11, .int .u8 (IntKind.u8.wrap (wr (48 + (Int.tmod k1 10)))))] 4 rfl rfl ?_
    refine LP_lit (α := B8) (g := emp) 4 (vs := [.int .u8 (IntKind.u8.wrap (wr (48 + (Int.tmod k1 10))))]) (xs := [(B8.mk (IntKind.u8.wrap (wr (48 + (Int.tmod k1 10)))))]) rfl rfl rfl Try.underlying45 ti_5 rfl rfl ⟨⟨_, rfl, rfl⟩, trivial⟩ rfl rfl fun hx vx wx4 x o ex f => ?_
    obtain ⟨a, c, rfl⟩ := o.shape
    refine LP_val 5 _ rfl rfl (ex_b2s rfl Try.underlying45 Try.underlying5 Try.underlying9 rfl o.readf _ ex) ?_
    refine LP_ev ok 6 [(14, .string out)] 7 rfl rfl ?_
    obtain ⟨hz, H⟩ := H
    refine LP_val 7 _ rfl rfl (ex_sadd rfl rfl rfl hz _) ?_
    refine LP_ev ok 8 [(3, .string ((b2s ([(B8.mk (IntKind.u8.wrap (wr (48 + (Int.tmod k1 10)))))])) ++ out))] 9 rfl rfl ?_
    refine LP_end _ rfl ?_
    refine W_region ?_
    refine LP_ev ok 0 [(16, I k1)] 1 rfl rfl ?_
    refine LP_val 1 _ rfl rfl (ex_quo rfl rfl rfl (by decide) _) ?_
    refine LP_ev ok 2 [(0, I (wr (Int.tdiv k1 10)))] 3 rfl rfl ?_
    refine LP_end _ rfl ?_
    have X5 := (X2.stepx x)
    exact ⟨(wr (Int.tdiv k1 10), (b2s ([(B8.mk (IntKind.u8.wrap (wr (48 + (Int.tmod k1 10)))))])) ++ out), ⟨H.1, _, env_eq ⟨rfl, rfl, trivial⟩, X5⟩, H.2⟩
  have H := H.2 hc3
  refine W_exit ?_
  refine (if_pos rfl).mpr ?_
  refine W_seq ?_
  refine W_region ?_
  refine LP_ev ok 0 [(18, .string out)] 1 rfl rfl ?_
  obtain ⟨hz6, H⟩ := H
  refine LP_val 1 _ rfl rfl (ex_sadd rfl rfl rfl hz6 _) ?_
  refine LP_ev ok 2 [(2, .string (((ByteArray.mk #[109])) ++ out))] 3 rfl rfl ?_
  refine LP_end _ rfl ?_
  refine W_ret ?_
  exact ⟨_, Ret_of [.string (((ByteArray.mk #[109])) ++ out)] ⟨⟨rfl, rfl⟩, trivial⟩, _, H, rfl, X2.ext⟩

set_option maxRecDepth 8000 in
set_option maxHeartbeats 4000000 in
theorem laws_markVariableS_w (a : List Variable) (k : Int) (Q : Int → (List Variable) → Prop) (H : laws_markVariableS a k Q) (w : World) {vx : Value} {hx : PH} (r : OS 107 hx emp vx a) (ex : Sub hx w) :
    CallsTo Try.prog 26 #[vx, I k] w fun v w' => ∃ r0 m1 k1, Q r0 m1 ∧ v = I r0 ∧ But hx w w' ∧ OS 107 k1 emp vx m1 ∧ Sub k1 w' ∧ (∀ n, DomLe hx n k1) := by
  obtain ⟨a1, c, rfl⟩ := r.shape
  refine enter (args := [.slice a1 (List.length a) c, I k]) 28 Try.func26 rfl rfl rfl ?_
  refine W_forget [(0, .slice a1 (List.length a) c), (1, I k)] ⟨rfl, rfl, trivial⟩ fun ρ => ?_
  have D : Dom hx hx := (Dom.refl _)
  have X := But.refl hx w
  refine W_seq ?_
  refine W_region ?_
  refine LP_ev ok 0 [(4, I 0)] 1 rfl rfl ?_
  refine LP_end _ rfl ?_
  refine W_seq ?_
  refine W_seq ?_
  refine W_region ?_
  refine LP_ev ok 0 [(5, I 0)] 1 rfl rfl ?_
  refine LP_end _ rfl ?_
  refine W_block ?_
  obtain ⟨J, m, Hx, H⟩ := H
  refine W_loop (S := (List Variable) × Int × Int) (fun s ρ' w' => J s.1 s.2.1 s.2.2 ∧ ∃ (ρ : Env) (hx4 : PH), ρ' = setAll [(0, .slice a1 (List.length a) c), (1, I s.2.1), (5, I s.2.2)] ρ ∧ But hx w w' ∧ OS 107 hx4 emp (.slice a1 (List.length a) c) s.1 ∧ Sub hx4 w' ∧ (∀ n, DomLe hx n hx4)) (fun s => m s.1 s.2.1 s.2.2) (a, k, 0) ⟨Hx, _, hx, env_eq ⟨rfl, rfl, rfl, trivial⟩, X, r, ex, (fun _ => DomLe.refl _ _)⟩ ?_
  rintro ⟨a2, k6, i⟩ _ wx ⟨Hi, ρ, hx4, rfl, X7, o, ex5, f⟩
  have H := H a2 k6 i Hi
  refine W_seq ?_
  refine W_seq ?_
  refine W_region ?_
  refine LP_ev ok 0 [(6, I i), (7, .slice a1 (List.length a) c), (8, I (ln a)), (9, .bool (decide (i < (ln a))))] 4 rfl rfl ?_
  refine LP_end _ rfl ?_
  refine W_cond (decide (i < (ln a))) rfl (fun hc => ?_) (fun hc => ?_)
  · have H := H.1 hc
    refine W_skip ?_
    refine W_seq ?_
    refine W_block ?_
    refine W_seq ?_
    refine W_region ?_
    refine LP_ev ok 0 [(12, .slice a1 (List.length a) c), (13, I i), (14, I k6)] 3 rfl rfl ?_
    refine LP_call 3 rfl rfl rfl cal_96 rfl (laws_markText_w _ _ H wx ) ?_
    rintro _ wx9 ⟨r8, H, rfl, x⟩
    obtain ⟨x10, hi, hx11, H⟩ := H
    refine LP_indexf (v := .slice a1 (List.length a) c) 4 rfl rfl rfl Try.underlying29 ti_107 rfl rfl o hi hx11 fun a12 wa => ?_
    refine LP_ev ok 5 [(17, .pointer (some (Addr.add a12 0)))] 6 rfl rfl ?_
    have ex17 := (ex5.ext x)
    refine LP_setf 6 (x := x10) (vs := [.string r8]) (y := ({x10 with Name := r8} : Variable)) rfl rfl rfl ti_9 rfl rfl rfl rfl rfl rfl wa ex17 rfl fun hx13 wx14 o15 ex16 y dm => ?_
    refine LP_end _ rfl ?_
    refine W_seq ?_
    refine W_region ?_
    refine LP_ev ok 0 [(18, I k6), (19, I (wr (k6 + 1))), (1, I (wr (k6 + 1)))] 3 rfl rfl ?_
    refine LP_end _ rfl ?_
    refine W_seq ?_
    refine W_region ?_
    refine LP_ev ok 0 [(20, .slice a1 (List.length a) c), (21, I i), (22, I (wr (k6 + 1)))] 3 rfl rfl ?_
    obtain ⟨x18, hi19, hx20, H⟩ := H
    refine LP_indexf (v := .slice a1 (List.length a) c) 3 rfl rfl rfl Try.underlying29 ti_107 rfl rfl o15 hi19 hx20 fun a21 wa22 => ?_
    refine LP_ev ok 4 [(24, .pointer (some (Addr.add a21 1)))] 5 rfl rfl ?_
    refine LP_setf 5 (x := x18) (vs := [I (wr (k6 + 1))]) (y := ({x18 with Levels := wr (k6 + 1)} : Variable)) rfl rfl rfl ti_3 rfl rfl rfl rfl rfl rfl wa22 ex16 rfl fun hx23 wx24 o25 ex26 y27 dm28 => ?_
    refine LP_end _ rfl ?_
    refine W_region ?_
    refine LP_ev ok 0 [(25, I (wr (k6 + 1))), (26, I (wr ((wr (k6 + 1)) + 1))), (1, I (wr ((wr (k6 + 1)) + 1)))] 3 rfl rfl ?_
    refine LP_end _ rfl ?_
    refine W_region ?_
    refine LP_ev ok 0 [(10, I i), (11, I (wr (i + 1))), (5, I (wr (i + 1)))] 3 rfl rfl ?_
    refine LP_end _ rfl ?_
    try refine W_forget [(0, .slice a1 (List.length a) c), (1, I (wr ((wr (k6 + 1)) + 1))), (5, I (wr (i + 1)))] ⟨rfl, rfl, rfl, trivial⟩ fun ρ => ?_
    have X29 := (X7.stepx x)
    have X30 := (((X7.stepx x).step y (DomLe.dom D (f _))).step y27 (DomLe.trans (DomLe.dom D (f _)) (dm _) X29.size))
    exact ⟨(List.set (List.set a2 (Int.toNat i) ({x10 with Name := r8} : Variable)) (Int.toNat i) ({x18 with Levels := wr (k6 + 1)} : Variable), wr ((wr (k6 + 1)) + 1), wr (i + 1)), ⟨H.1, _, hx23, env_eq ⟨rfl, rfl, rfl, trivial⟩, X30, o25, ex26, (fun _ => DomLe.trans (DomLe.trans (f _) ((dm _)) (Nat.le_refl _)) ((dm28 _)) (Nat.le_refl _))⟩, H.2⟩
  have H := H.2 hc
  refine W_exit ?_
  refine (if_pos rfl).mpr ?_
  refine W_seq ?_
  refine W_region ?_
  refine LP_ev ok 0 [(27, I k6), (4, I k6)] 2 rfl rfl ?_
  refine LP_end _ rfl ?_
  refine W_ret ?_
  exact ⟨_, Ret_of [I k6] ⟨⟨rfl, rfl⟩, trivial⟩, _, _, _, H, rfl, X7, o, ex5, (fun _ => f _)⟩

set_option maxRecDepth 8000 in
set_option maxHeartbeats 4000000 in
theorem laws_markIntS_w (a : List Int) (k : Int) (Q : Int → (List Int) → Prop) (H : laws_markIntS a k Q) (w : World) {vx : Value} {hx : PH} (r : OS 3 hx emp vx a) (ex : Sub hx w) :
    CallsTo Try.prog 58 #[vx, I k] w fun v w' => ∃ r0 m1 k1, Q r0 m1 ∧ v = I r0 ∧ But hx w w' ∧ OS 3 k1 emp vx m1 ∧ Sub k1 w' ∧ (∀ n, DomLe hx n k1) := by
  obtain ⟨a1, c, rfl⟩ := r.shape
  refine enter (args := [.slice a1 (List.length a) c, I k]) 19 Try.func58 rfl rfl rfl ?_
  refine W_forget [(0, .slice a1 (List.length a) c), (1, I k)] ⟨rfl, rfl, trivial⟩ fun ρ => ?_
  have D : Dom hx hx := (Dom.refl _)
  have X := But.refl hx w
  refine W_seq ?_
  refine W_region ?_
  refine LP_ev ok 0 [(4, I 0)] 1 rfl rfl ?_
  refine LP_end _ rfl ?_
  refine W_seq ?_
  refine W_seq ?_
  refine W_region ?_
  refine LP_ev ok 0 [(5, I 0)] 1 rfl rfl ?_
  refine LP_end _ rfl ?_
  refine W_block ?_
  obtain ⟨J, m, Hx, H⟩ := H
  refine W_loop (S := (List Int) × Int × Int) (fun s ρ' w' => J s.1 s.2.1 s.2.2 ∧ ∃ (ρ : Env) (hx4 : PH), ρ' = setAll [(0, .slice a1 (List.length a) c), (1, I s.2.1), (5, I s.2.2)] ρ ∧ But hx w w' ∧ OS 3 hx4 emp (.slice a1 (List.length a) c) s.1 ∧ Sub hx4 w' ∧ (∀ n, DomLe hx n hx4)) (fun s => m s.1 s.2.1 s.2.2) (a, k, 0) ⟨Hx, _, hx, env_eq ⟨rfl, rfl, rfl, trivial⟩, X, r, ex, (fun _ => DomLe.refl _ _)⟩ ?_
  rintro ⟨a2, k6, i⟩ _ wx ⟨Hi, ρ, hx4, rfl, X7, o, ex5, f⟩
  have H := H a2 k6 i Hi
  refine W_seq ?_
  refine W_seq ?_
  refine W_region ?_
  refine LP_ev ok 0 [(6, I i), (7, .slice a1 (List.length a) c), (8, I (ln a)), (9, .bool (decide (i < (ln a))))] 4 rfl rfl ?_
  refine LP_end _ rfl ?_
  refine W_cond (decide (i < (ln a))) rfl (fun hc => ?_) (fun hc => ?_)
  · have H := H.1 hc
    refine W_skip ?_
    refine W_seq ?_
    refine W_block ?_
    refine W_seq ?_
    refine W_region ?_
    refine LP_ev ok 0 [(12, .slice a1 (List.length a) c), (13, I i), (14, I k6)] 3 rfl rfl ?_
    obtain ⟨hi, hl, H⟩ := H
    refine LP_indexw (v := .slice a1 (List.length a) c) 3 rfl rfl rfl Try.underlying24 ti_3 rfl rfl o hi hl fun a8 wa => ?_
    refine LP_set 4 rfl rfl rfl rfl rfl wa (Le.refl emp) ⟨_, rfl, rfl⟩ ex5 fun hx9 wx10 o11 ex12 y dm => ?_
    refine LP_end _ rfl ?_
    refine W_region ?_
    refine LP_ev ok 0 [(16, I k6), (17, I (wr (k6 + 1))), (1, I (wr (k6 + 1)))] 3 rfl rfl ?_
    refine LP_end _ rfl ?_
    refine W_region ?_
    refine LP_ev ok 0 [(10, I i), (11, I (wr (i + 1))), (5, I (wr (i + 1)))] 3 rfl rfl ?_
    refine LP_end _ rfl ?_
    have X13 := (X7.step y (DomLe.dom D (f _)))
    exact ⟨(List.set a2 (Int.toNat i) k6, wr (k6 + 1), wr (i + 1)), ⟨H.1, _, hx9, env_eq ⟨rfl, rfl, rfl, trivial⟩, X13, o11, ex12, (fun _ => DomLe.trans (f _) ((dm _)) (Nat.le_refl _))⟩, H.2⟩
  have H := H.2 hc
  refine W_exit ?_
  refine (if_pos rfl).mpr ?_
  refine W_seq ?_
  refine W_region ?_
  refine LP_ev ok 0 [(18, I k6), (4, I k6)] 2 rfl rfl ?_
  refine LP_end _ rfl ?_
  refine W_ret ?_
  exact ⟨_, Ret_of [I k6] ⟨⟨rfl, rfl⟩, trivial⟩, _, _, _, H, rfl, X7, o, ex5, (fun _ => f _)⟩

set_option maxRecDepth 8000 in
set_option maxHeartbeats 4000000 in
theorem laws_markEditS_w (a : List Edit) (k : Int) (Q : Int → (List Edit) → Prop) (H : laws_markEditS a k Q) (w : World) {vx : Value} {hx : PH} (r : OD hx vx a) (ex : Sub hx w) :
    CallsTo Try.prog 27 #[vx, I k] w fun v w' => ∃ r0 m1 k1, Q r0 m1 ∧ v = I r0 ∧ But hx w w' ∧ OD k1 vx m1 ∧ Sub k1 w' ∧ (∀ n, DomLe hx n k1) := by
  obtain ⟨a1, c, rfl⟩ := r.shape
  refine enter (args := [.slice a1 (List.length a) c, I k]) 20 Try.func27 rfl rfl rfl ?_
  refine W_forget [(0, .slice a1 (List.length a) c), (1, I k)] ⟨rfl, rfl, trivial⟩ fun ρ => ?_
  have D : Dom hx hx := (Dom.refl _)
  have X := But.refl hx w
  refine W_seq ?_
  refine W_region ?_
  refine LP_ev ok 0 [(4, I 0)] 1 rfl rfl ?_
  refine LP_end _ rfl ?_
  refine W_seq ?_
  refine W_seq ?_
  refine W_region ?_
  refine LP_ev ok 0 [(5, I 0)] 1 rfl rfl ?_
  refine LP_end _ rfl ?_
  refine W_block ?_
  obtain ⟨J, m, Hx, H⟩ := H
  refine W_loop (S := (List Edit) × Int × Int) (fun s ρ' w' => J s.1 s.2.1 s.2.2 ∧ ∃ (ρ : Env) (hx4 : PH), ρ' = setAll [(0, .slice a1 (List.length a) c), (1, I s.2.1), (5, I s.2.2)] ρ ∧ But hx w w' ∧ OD hx4 (.slice a1 (List.length a) c) s.1 ∧ Sub hx4 w' ∧ (∀ n, DomLe hx n hx4)) (fun s => m s.1 s.2.1 s.2.2) (a, k, 0) ⟨Hx, _, hx, env_eq ⟨rfl, rfl, rfl, trivial⟩, X, r, ex, (fun _ => DomLe.refl _ _)⟩ ?_
  rintro ⟨a2, k6, i⟩ _ wx ⟨Hi, ρ, hx4, rfl, X7, o, ex5, f⟩
  have H := H a2 k6 i Hi
  refine W_seq ?_
  refine W_seq ?_
  refine W_region ?_
  refine LP_ev ok 0 [(6, I i), (7, .slice a1 (List.length a) c), (8, I (ln a)), (9, .bool (decide (i < (ln a))))] 4 rfl rfl ?_
  refine LP_end _ rfl ?_
  refine W_cond (decide (i < (ln a))) rfl (fun hc => ?_) (fun hc => ?_)
  · have H := H.1 hc
    refine W_skip ?_
    refine W_seq ?_
    refine W_block ?_
    refine W_region ?_
    refine LP_ev ok 0 [(12, .slice a1 (List.length a) c), (13, I i)] 2 rfl rfl ?_
    obtain ⟨x, hi, hx8, H⟩ := H
    refine LP_indexB (v := .slice a1 (List.length a) c) 2 rfl rfl rfl Try.underlying31 ti_50 rfl rfl o hi hx8 fun a9 c10 hx11 rest r12 bw => ?_
    refine LP_ev ok 3 [(15, .pointer (some (Addr.add a9 0)))] 4 rfl rfl ?_
    obtain ⟨u, hx13, rest14, rfl, bw15⟩ := Edit_bw0 bw
    have o16 := bw15.od
    obtain ⟨a17, c18, rfl⟩ := o16.shape
    refine LP_ldpart (off := 0) 4 (v := .slice a17 (List.length x.Sets) c18) rfl rfl rfl ti_24 ag_24 (fun _ => rfl) rfl r12 ex5 rfl rfl ?_
    have ex19 := Sub.le ex5 bw15.le
    have o20 : OS 3 hx13 emp (.slice a17 (List.length x.Sets) c18) x.Sets := OD.flat o16
    refine LP_ev ok 5 [(17, I k6)] 6 rfl rfl ?_
    refine LP_call 6 rfl rfl rfl cal_58 rfl (laws_markIntS_w _ _ _ H wx o20 ex19) ?_
    rintro _ wx23 ⟨r21, r22, hx25, H, rfl, x24, o26, ex27, dm⟩
    obtain ⟨bw28, o29, dd⟩ := BwG.turn bw15 (OS.od o26) (Dom.of dm)
    have ex30 := BwG.sub bw15 ex5 ex27 x24
    have y := BwG.but bw15 x24
    refine LP_ev ok 7 [(1, I r21)] 8 rfl rfl ?_
    refine LP_end _ rfl ?_
    refine W_region ?_
    refine LP_ev ok 0 [(10, I i), (11, I (wr (i + 1))), (5, I (wr (i + 1)))] 3 rfl rfl ?_
    refine LP_end _ rfl ?_
    have X31 := (X7.step y (DomLe.dom D (f _)))
    exact ⟨(List.set a2 (Int.toNat i) ({x with Sets := r22} : Edit), r21, wr (i + 1)), ⟨H.1, _, (un hx25 rest14), env_eq ⟨rfl, rfl, rfl, trivial⟩, X31, o29, ex30, (fun _ => DomLe.trans (f _) (((fun n => Dom.le dd n) _)) (Nat.le_refl _))⟩, H.2⟩
  have H := H.2 hc
  refine W_exit ?_
  refine (if_pos rfl).mpr ?_
  refine W_seq ?_
  refine W_region ?_
  refine LP_ev ok 0 [(19, I k6), (4, I k6)] 2 rfl rfl ?_
  refine LP_end _ rfl ?_
  refine W_ret ?_
  exact ⟨_, Ret_of [I k6] ⟨⟨rfl, rfl⟩, trivial⟩, _, _, _, H, rfl, X7, o, ex5, (fun _ => f _)⟩

set_option maxRecDepth 8000 in
set_option maxHeartbeats 4000000 in
theorem laws_heldIntS_w (a : List Int) (k : Int) (Q : Int → Prop) (H : laws_heldIntS a k Q) (w : World) {vx : Value} {hx : PH} (r : RS hx vx a) (ex : Sub hx w) :
    CallsTo Try.prog 63 #[vx, I k] w fun v w' => ∃ r0, Q r0 ∧ v = I r0 ∧ Ext w w' := by
  obtain ⟨a1, c, rfl⟩ := r.shape
  refine enter (args := [.slice a1 (List.length a) c, I k]) 21 Try.func63 rfl rfl rfl ?_
  refine W_forget [(0, .slice a1 (List.length a) c), (1, I k)] ⟨rfl, rfl, trivial⟩ fun ρ => ?_
  have X := But.refl emp w
  refine W_seq ?_
  refine W_region ?_
  refine LP_ev ok 0 [(4, I 0)] 1 rfl rfl ?_
  refine LP_end _ rfl ?_
  refine W_seq ?_
  refine W_seq ?_
  refine W_region ?_
  refine LP_ev ok 0 [(5, I 0)] 1 rfl rfl ?_
  refine LP_end _ rfl ?_
  refine W_block ?_
  obtain ⟨J, m, Hx, H⟩ := H
  refine W_loop (S := Int × Int) (fun s ρ' w' => J s.1 s.2 ∧ ∃ (ρ : Env), ρ' = setAll [(0, .slice a1 (List.length a) c), (1, I s.1), (5, I s.2)] ρ ∧ w = w') (fun s => m s.1 s.2) (k, 0) ⟨Hx, _, env_eq ⟨rfl, rfl, rfl, trivial⟩, rfl⟩ ?_
  rintro ⟨k2, i⟩ _ _ ⟨Hi, ρ, rfl, rfl⟩
  have H := H k2 i Hi
  refine W_seq ?_
  refine W_seq ?_
  refine W_region ?_
  refine LP_ev ok 0 [(6, I i), (7, .slice a1 (List.length a) c), (8, I (ln a)), (9, .bool (decide (i < (ln a))))] 4 rfl rfl ?_
  refine LP_end _ rfl ?_
  refine W_cond (decide (i < (ln a))) rfl (fun hc => ?_) (fun hc => ?_)
  · have H := H.1 hc
    refine W_skip ?_
    refine W_seq ?_
    refine W_block ?_
    refine W_seq ?_
    refine W_seq ?_
    refine W_region ?_
    refine LP_ev ok 0 [(12, .slice a1 (List.length a) c), (13, I i)] 2 rfl rfl ?_
    obtain ⟨x, hi, hx3, H⟩ := H
    refine LP_index 2 rfl rfl rfl Try.underlying24 ti_3 rfl rfl r hi hx3 fun a4 cs r5 d => ?_
    refine LP_load 3 rfl rfl rfl ti_3 ag_3 rfl r5 d ex fun vx6 r7 => ?_
    obtain rfl := r7.int
    refine LP_ev ok 4 [(16, I k2), (17, .bool (x != k2))] 6 rfl rfl ?_
    refine LP_end _ rfl ?_
    refine W_cond (x != k2) rfl (fun hc8 => ?_) (fun hc8 => ?_)
    · have H := H.1 hc8
      refine W_seq ?_
      refine W_region ?_
      refine LP_ev ok 0 [(4, I ((-1)))] 1 rfl rfl ?_
      refine LP_end _ rfl ?_
      refine W_ret ?_
      exact ⟨_, Ret_of [I ((-1))] ⟨⟨rfl, rfl⟩, trivial⟩, _, H, rfl, X.ext⟩
    have H := H.2 hc8
    refine W_skip ?_
    refine W_region ?_
    refine LP_ev ok 0 [(18, I k2), (19, I (wr (k2 + 1))), (1, I (wr (k2 + 1)))] 3 rfl rfl ?_
    refine LP_end _ rfl ?_
    refine W_region ?_
    refine LP_ev ok 0 [(10, I i), (11, I (wr (i + 1))), (5, I (wr (i + 1)))] 3 rfl rfl ?_
    refine LP_end _ rfl ?_
    exact ⟨(wr (k2 + 1), wr (i + 1)), ⟨H.1, _, env_eq ⟨rfl, rfl, rfl, trivial⟩, rfl⟩, H.2⟩
  have H := H.2 hc
  refine W_exit ?_
  refine (if_pos rfl).mpr ?_
  refine W_seq ?_
  refine W_region ?_
  refine LP_ev ok 0 [(20, I k2), (4, I k2)] 2 rfl rfl ?_
  refine LP_end _ rfl ?_
  refine W_ret ?_
  exact ⟨_, Ret_of [I k2] ⟨⟨rfl, rfl⟩, trivial⟩, _, H, rfl, X.ext⟩

set_option maxRecDepth 8000 in
set_option maxHeartbeats 4000000 in
theorem laws_heldEditS_w (a : List Edit) (k : Int) (Q : Int → Prop) (H : laws_heldEditS a k Q) (w : World) {vx : Value} {hx : PH} (r : RS hx vx a) (ex : Sub hx w) :
    CallsTo Try.prog 28 #[vx, I k] w fun v w' => ∃ r0, Q r0 ∧ v = I r0 ∧ Ext w w' := by
  obtain ⟨a1, c, rfl⟩ := r.shape
  refine enter (args := [.slice a1 (List.length a) c, I k]) 22 Try.func28 rfl rfl rfl ?_
  refine W_forget [(0, .slice a1 (List.length a) c), (1, I k)] ⟨rfl, rfl, trivial⟩ fun ρ => ?_
  have X := But.refl emp w
  refine W_seq ?_
  refine W_region ?_
  refine LP_ev ok 0 [(4, I 0)] 1 rfl rfl ?_
  refine LP_end _ rfl ?_
  refine W_seq ?_
  refine W_seq ?_
  refine W_region ?_
  refine LP_ev ok 0 [(5, I 0)] 1 rfl rfl ?_
  refine LP_end _ rfl ?_
  refine W_block ?_
  obtain ⟨J, m, Hx, H⟩ := H
  refine W_loop (S := Int × Int) (fun s ρ' w' => J s.1 s.2 ∧ ∃ (ρ : Env), ρ' = setAll [(0, .slice a1 (List.length a) c), (1, I s.1), (5, I s.2)] ρ ∧ But emp w w' ∧ Sub hx w') (fun s => m s.1 s.2) (k, 0) ⟨Hx, _, env_eq ⟨rfl, rfl, rfl, trivial⟩, X, ex⟩ ?_
  rintro ⟨k2, i⟩ _ wx ⟨Hi, ρ, rfl, X4, ex3⟩
  have H := H k2 i Hi
  refine W_seq ?_
  refine W_seq ?_
  refine W_region ?_
  refine LP_ev ok 0 [(6, I i), (7, .slice a1 (List.length a) c), (8, I (ln a)), (9, .bool (decide (i < (ln a))))] 4 rfl rfl ?_
  refine LP_end _ rfl ?_
  refine W_cond (decide (i < (ln a))) rfl (fun hc => ?_) (fun hc => ?_)
  · have H := H.1 hc
    refine W_skip ?_
    refine W_seq ?_
    refine W_block ?_
    refine W_seq ?_
    refine W_region ?_
    refine LP_ev ok 0 [(12, .slice a1 (List.length a) c), (13, I i)] 2 rfl rfl ?_
    obtain ⟨x, hi, hx5, H⟩ := H
    refine LP_index 2 rfl rfl rfl Try.underlying31 ti_50 rfl rfl r hi hx5 fun a6 cs r7 d => ?_
    have d8 := d
    obtain ⟨u, rfl, r9⟩ := Edit_rd d8
    obtain ⟨a10, c11, rfl⟩ := r9.shape
    refine LP_ev ok 3 [(15, .pointer (some (Addr.add a6 0)))] 4 rfl rfl ?_
    refine LP_ldpart (off := 0) 4 (v := .slice a10 (List.length x.Sets) c11) rfl rfl rfl ti_24 ag_24 (fun _ => rfl) rfl r7 ex3 rfl rfl ?_
    refine LP_ev ok 5 [(17, I k2)] 6 rfl rfl ?_
    refine LP_call 6 rfl rfl rfl cal_63 rfl (laws_heldIntS_w _ _ _ H wx r9 ex3) ?_
    rintro _ wx13 ⟨r12, H, rfl, x14⟩
    refine LP_ev ok 7 [(1, I r12)] 8 rfl rfl ?_
    refine LP_end _ rfl ?_
    refine W_seq ?_
    refine W_region ?_
    refine LP_ev ok 0 [(19, I r12), (20, .bool (decide (r12 < 0)))] 2 rfl rfl ?_
    refine LP_end _ rfl ?_
    refine W_cond (decide (r12 < 0)) rfl (fun hc15 => ?_) (fun hc15 => ?_)
    · have H := H.1 hc15
      refine W_seq ?_
      refine W_region ?_
      refine LP_ev ok 0 [(4, I ((-1)))] 1 rfl rfl ?_
      refine LP_end _ rfl ?_
      refine W_ret ?_
      have X16 := (X4.stepx x14)
      exact ⟨_, Ret_of [I ((-1))] ⟨⟨rfl, rfl⟩, trivial⟩, _, H, rfl, X16.ext⟩
    have H := H.2 hc15
    refine W_skip ?_
    refine W_region ?_
    refine LP_ev ok 0 [(10, I i), (11, I (wr (i + 1))), (5, I (wr (i + 1)))] 3 rfl rfl ?_
    refine LP_end _ rfl ?_
    have X17 := (X4.stepx x14)
    have ex18 := (ex3.ext x14)
    exact ⟨(r12, wr (i + 1)), ⟨H.1, _, env_eq ⟨rfl, rfl, rfl, trivial⟩, X17, ex18⟩, H.2⟩
  have H := H.2 hc
  refine W_exit ?_
  refine (if_pos rfl).mpr ?_
  refine W_seq ?_
  refine W_region ?_
  refine LP_ev ok 0 [(21, I k2), (4, I k2)] 2 rfl rfl ?_
  refine LP_end _ rfl ?_
  refine W_ret ?_
  exact ⟨_, Ret_of [I k2] ⟨⟨rfl, rfl⟩, trivial⟩, _, H, rfl, X4.ext⟩

set_option maxRecDepth 8000 in
set_option maxHeartbeats 4000000 in
theorem laws_FnExactEliminateVariable_w (aS : List Variable) (aL : List Edit) (aV : Int) (Q : Bool → Prop) (H : laws_FnExactEliminateVariable aS aL aV Q) (w : World) {vx : Value} {hx : PH} (r : RS hx vx aS) (ex : Sub hx w) {vx1 : Value} {hx2 : PH} (r3 : RS hx2 vx1 aL) (ex4 : Sub hx2 w) :
    CallsTo Try.prog 4 #[vx, vx1, I aV] w fun v w' => ∃ r0, Q r0 ∧ v = .bool r0 ∧ Ext w w' := by
  obtain ⟨a, c, rfl⟩ := r.shape
  obtain ⟨a5, c6, rfl⟩ := r3.shape
  refine enter (args := [.slice a (List.length aS) c, .slice a5 (List.length aL) c6, I aV]) 124 Try.func4 rfl rfl rfl ?_
  refine W_forget [(0, .slice a (List.length aS) c), (1, .slice a5 (List.length aL) c6), (2, I aV)] ⟨rfl, rfl, rfl, trivial⟩ fun ρ => ?_
  have X := But.refl emp w
  refine W_seq ?_
  refine W_region ?_
  refine LP_ev ok 0 [(6, .bool false)] 1 rfl rfl ?_
  refine LP_end _ rfl ?_
  refine W_seq ?_
  refine W_region ?_
  refine LP_ev ok 0 [(7, I 1048576)] 1 rfl rfl ?_
  refine LP_end _ rfl ?_
  refine W_seq ?_
  refine W_region ?_
  refine LP_ev ok 0 [(19, .slice a (List.length aS) c), (20, I 1048576)] 2 rfl rfl ?_
  refine LP_call 2 rfl rfl rfl cal_14 rfl (laws_szVariableS_w _ _ _ H w r ex) ?_
  rintro _ wx ⟨r7, H, rfl, x⟩
  refine LP_ev ok 3 [(7, I r7)] 4 rfl rfl ?_
  refine LP_end _ rfl ?_
  refine W_seq ?_
  refine W_seq ?_
  refine W_region ?_
  refine LP_ev ok 0 [(22, I r7), (23, .bool (decide (r7 < 0)))] 2 rfl rfl ?_
  refine LP_end _ rfl ?_
  refine W_cond (decide (r7 < 0)) rfl (fun hc => ?_) (fun hc => ?_)
  · have H := H.1 hc
    refine W_seq ?_
    refine W_region ?_
    refine LP_ev ok 0 [(6, .bool true)] 1 rfl rfl ?_
    refine LP_end _ rfl ?_
    refine W_ret ?_
    have X8 := (X.stepx x)
    exact ⟨_, Ret_of [.bool true] ⟨⟨rfl, rfl⟩, trivial⟩, _, H, rfl, X8.ext⟩
  have H := H.2 hc
  refine W_skip ?_
  refine W_seq ?_
  refine W_region ?_
  refine LP_ev ok 0 [(24, .slice a5 (List.length aL) c6), (25, I r7)] 2 rfl rfl ?_
  have ex10 := (ex4.ext x)
  refine LP_call 2 rfl rfl rfl cal_15 rfl (laws_szEditS_w _ _ _ H wx r3 ex10) ?_
  rintro _ wx11 ⟨r9, H, rfl, x12⟩
  refine LP_ev ok 3 [(7, I r9)] 4 rfl rfl ?_
  refine LP_end _ rfl ?_
  refine W_seq ?_
  refine W_seq ?_
  refine W_region ?_
  refine LP_ev ok 0 [(27, I r9), (28, .bool (decide (r9 < 0)))] 2 rfl rfl ?_
  refine LP_end _ rfl ?_
  refine W_cond (decide (r9 < 0)) rfl (fun hc13 => ?_) (fun hc13 => ?_)
  · have H := H.1 hc13
    refine W_seq ?_
    refine W_region ?_
    refine LP_ev ok 0 [(6, .bool true)] 1 rfl rfl ?_
    refine LP_end _ rfl ?_
    refine W_ret ?_
    have X14 := ((X.stepx x).stepx x12)
    exact ⟨_, Ret_of [.bool true] ⟨⟨rfl, rfl⟩, trivial⟩, _, H, rfl, X14.ext⟩
  have H := H.2 hc13
  refine W_skip ?_
  refine W_seq ?_
  refine W_region ?_
  refine LP_ev ok 0 [(30, .slice a (List.length aS) c)] 1 rfl rfl ?_
  have ex16 := ((ex.ext x).ext x12)
  refine LP_call 1 rfl rfl rfl cal_17 rfl (laws_toVariableS_w _ _ H wx11 r ex16) ?_
  rintro _ wx17 ⟨r15, vx19, hx20, H, rfl, x18, o, ex21, f⟩
  obtain ⟨a22, c23, rfl⟩ := o.shape
  refine LP_ev ok 2 [(32, .slice a5 (List.length aL) c6)] 3 rfl rfl ?_
  have ex25 := ((ex10.ext x12).ext x18)
  refine LP_call 3 rfl rfl rfl cal_18 rfl (laws_toEditS_w _ _ H wx17 r3 ex25) ?_
  rintro _ wx26 ⟨r24, vx28, hx29, H, rfl, x27, o30, ex31, f32⟩
  obtain ⟨a33, c34, rfl⟩ := o30.shape
  refine LP_ev ok 4 [(34, I aV)] 5 rfl rfl ?_
  have ex37 := (ex21.ext x27)
  refine LP_call 5 rfl rfl rfl cal_24 rfl (spec_EliminateVariable_w _ _ _ _ H wx26 o.readf ex37 o30.readf ex31) ?_
  rintro _ wx38 ⟨r35, r36, vx40, hx41, H, rfl, x39, o42, ex43, f44⟩
  obtain ⟨a45, c46, rfl⟩ := o42.shape
  refine LP_ev ok 6 [(29, .tuple #[.slice a45 (List.length r35) c46, .bool r36]), (36, .slice a45 (List.length r35) c46), (37, .bool r36), (8, .slice a45 (List.length r35) c46), (9, .bool r36)] 11 rfl rfl ?_
  refine LP_end _ rfl ?_
  try refine W_forget [(0, .slice a (List.length aS) c), (1, .slice a5 (List.length aL) c6), (2, I aV), (8, .slice a45 (List.length r35) c46), (9, .bool r36)] ⟨rfl, rfl, rfl, rfl, rfl, trivial⟩ fun ρ => ?_
  refine W_seq ?_
  refine W_region ?_
  refine LP_ev ok 0 [(38, .slice a (List.length aS) c)] 1 rfl rfl ?_
  have ex48 := (((ex16.ext x18).ext x27).ext x39)
  refine LP_call 1 rfl rfl rfl cal_17 rfl (laws_toVariableS_w _ _ H wx38 r ex48) ?_
  rintro _ wx49 ⟨r47, vx51, hx52, H, rfl, x50, o53, ex54, f55⟩
  obtain ⟨a56, c57, rfl⟩ := o53.shape
  refine LP_ev ok 2 [(10, .slice a56 (List.length r47) c57)] 3 rfl rfl ?_
  refine LP_end _ rfl ?_
  refine W_seq ?_
  refine W_region ?_
  refine LP_ev ok 0 [(40, .slice a5 (List.length aL) c6)] 1 rfl rfl ?_
  have ex59 := (((ex25.ext x27).ext x39).ext x50)
  refine LP_call 1 rfl rfl rfl cal_18 rfl (laws_toEditS_w _ _ H wx49 r3 ex59) ?_
  rintro _ wx60 ⟨r58, vx62, hx63, H, rfl, x61, o64, ex65, f66⟩
  obtain ⟨a67, c68, rfl⟩ := o64.shape
  refine LP_ev ok 2 [(11, .slice a67 (List.length r58) c68)] 3 rfl rfl ?_
  refine LP_end _ rfl ?_
  refine W_seq ?_
  refine W_region ?_
  refine LP_ev ok 0 [(43, .slice a56 (List.length r47) c57), (44, .slice a67 (List.length r58) c68), (45, I aV)] 3 rfl rfl ?_
  have ex71 := (ex54.ext x61)
  refine LP_call 3 rfl rfl rfl cal_25 rfl (impl_EliminateVariable_w _ _ _ _ H wx60 o53.readf ex71 o64.readf ex65) ?_
  rintro _ wx72 ⟨r69, r70, vx74, hx75, H, rfl, x73, o76, ex77, f78⟩
  obtain ⟨a79, c80, rfl⟩ := o76.shape
  refine LP_ev ok 4 [(42, .tuple #[.slice a79 (List.length r69) c80, .bool r70]), (47, .slice a79 (List.length r69) c80), (48, .bool r70), (12, .slice a79 (List.length r69) c80), (13, .bool r70)] 9 rfl rfl ?_
  refine LP_end _ rfl ?_
  refine W_seq ?_
  obtain ⟨k, hk, H⟩ := jn_elim H
  refine W_join2 (S := Bool) (fun s ρ' w' => k s ∧ ∃ (ρ : Env), ρ' = setAll [(0, .slice a (List.length aS) c), (1, .slice a5 (List.length aL) c6), (2, I aV), (8, .slice a45 (List.length r35) c46), (9, .bool r36), (10, .slice a56 (List.length r47) c57), (11, .slice a67 (List.length r58) c68), (12, .slice a79 (List.length r69) c80), (13, .bool r70), (57, .bool s)] ρ ∧ But emp w w' ∧ Sub hx w' ∧ Sub hx2 w' ∧ Sub hx41 w' ∧ Sub hx52 w' ∧ Sub hx63 w' ∧ Sub hx75 w') ?_ ?_
  · refine W_region ?_
    refine LP_ev ok 0 [(49, .slice a79 (List.length r69) c80), (50, .slice a45 (List.length r35) c46)] 2 rfl rfl ?_
    have ex91 := (((ex43.ext x50).ext x61).ext x73)
    refine LP_call 2 rfl rfl rfl cal_22 rfl (laws_eqEditS_w _ _ _ H wx72 o76.readf ex77 o42.readf ex91) ?_
    rintro _ wx92 ⟨r90, H, rfl, x93⟩
    refine LP_ev ok 3 [(52, .bool (!r90)), (53, .bool (!r90))] 5 rfl rfl ?_
    refine LP_split 53 (!r90) rfl (fun hc94 => ?_) (fun hc94 => ?_)
    · have H := H.1 hc94
      refine LP_ev ok 5 [(54, undef), (55, undef), (56, undef), (57, .bool true)] 9 rfl rfl ?_
      refine LP_end _ rfl ?_
      have X95 := (((((((((X.stepx x).stepx x12).stepx x18).stepx x27).stepx x39).stepx x50).stepx x61).stepx x73).stepx x93)
      have ex96 := ((((ex48.ext x50).ext x61).ext x73).ext x93)
      have ex97 := (((ex59.ext x61).ext x73).ext x93)
      have ex98 := (ex91.ext x93)
      have ex99 := ((ex71.ext x73).ext x93)
      have ex100 := ((ex65.ext x73).ext x93)
      have ex101 := (ex77.ext x93)
      exact ⟨true, H, _, env_eq ⟨rfl, rfl, rfl, rfl, rfl, rfl, rfl, rfl, rfl, rfl, trivial⟩, X95, ex96, ex97, ex98, ex99, ex100, ex101⟩
    have H := H.2 hc94
    refine LP_ev ok 5 [(54, .bool r70), (55, .bool r36), (56, .bool (r70 != r36)), (57, .bool (r70 != r36))] 9 rfl rfl ?_
    refine LP_end _ rfl ?_
    have X102 := (((((((((X.stepx x).stepx x12).stepx x18).stepx x27).stepx x39).stepx x50).stepx x61).stepx x73).stepx x93)
    have ex103 := ((((ex48.ext x50).ext x61).ext x73).ext x93)
    have ex104 := (((ex59.ext x61).ext x73).ext x93)
    have ex105 := (ex91.ext x93)
    have ex106 := ((ex71.ext x73).ext x93)
    have ex107 := ((ex65.ext x73).ext x93)
    have ex108 := (ex77.ext x93)
    exact ⟨r70 != r36, H, _, env_eq ⟨rfl, rfl, rfl, rfl, rfl, rfl, rfl, rfl, rfl, rfl, trivial⟩, X102, ex103, ex104, ex105, ex106, ex107, ex108⟩
  rintro x81 _ wx82 ⟨H, ρ, rfl, X89, ex83, ex84, ex85, ex86, ex87, ex88⟩
  subst hk
  refine W_cond (x81) rfl (fun hc109 => ?_) (fun hc109 => ?_)
  · have H := H.1 hc109
    refine W_seq ?_
    refine W_region ?_
    refine LP_ev ok 0 [(6, .bool false)] 1 rfl rfl ?_
    refine LP_end _ rfl ?_
    refine W_ret ?_
    exact ⟨_, Ret_of [.bool false] ⟨⟨rfl, rfl⟩, trivial⟩, _, H, rfl, X89.ext⟩
  have H := H.2 hc109
  refine W_skip ?_
  refine W_seq ?_
  refine W_seq ?_
  refine W_region ?_
  refine LP_ev ok 0 [(58, .slice a56 (List.length r47) c57), (59, .slice a (List.length aS) c)] 2 rfl rfl ?_
  refine LP_call 2 rfl rfl rfl cal_17 rfl (laws_toVariableS_w _ _ H wx82 r ex83) ?_
  rintro _ wx111 ⟨r110, vx113, hx114, H, rfl, x112, o115, ex116, f117⟩
  obtain ⟨a118, c119, rfl⟩ := o115.shape
  have ex121 := (ex86.ext x112)
  refine LP_call 3 rfl rfl rfl cal_21 rfl (laws_eqVariableS_w _ _ _ H wx111 o53.readf ex121 o115.readf ex116) ?_
  rintro _ wx122 ⟨r120, H, rfl, x123⟩
  refine LP_ev ok 4 [(62, .bool (!r120))] 5 rfl rfl ?_
  refine LP_end _ rfl ?_
  refine W_cond (!r120) rfl (fun hc124 => ?_) (fun hc124 => ?_)
  · have H := H.1 hc124
    refine W_seq ?_
    refine W_region ?_
    refine LP_ev ok 0 [(6, .bool false)] 1 rfl rfl ?_
    refine LP_end _ rfl ?_
    refine W_ret ?_
    have X125 := ((X89.stepx x112).stepx x123)
    exact ⟨_, Ret_of [.bool false] ⟨⟨rfl, rfl⟩, trivial⟩, _, H, rfl, X125.ext⟩
  have H := H.2 hc124
  refine W_skip ?_
  refine W_seq ?_
  refine W_seq ?_
  refine W_region ?_
  refine LP_ev ok 0 [(63, .slice a67 (List.length r58) c68), (64, .slice a5 (List.length aL) c6)] 2 rfl rfl ?_
  have ex127 := ((ex84.ext x112).ext x123)
  refine LP_call 2 rfl rfl rfl cal_18 rfl (laws_toEditS_w _ _ H wx122 r3 ex127) ?_
  rintro _ wx128 ⟨r126, vx130, hx131, H, rfl, x129, o132, ex133, f134⟩
  obtain ⟨a135, c136, rfl⟩ := o132.shape
  have ex138 := (((ex87.ext x112).ext x123).ext x129)
  refine LP_call 3 rfl rfl rfl cal_22 rfl (laws_eqEditS_w _ _ _ H wx128 o64.readf ex138 o132.readf ex133) ?_
  rintro _ wx139 ⟨r137, H, rfl, x140⟩
  refine LP_ev ok 4 [(67, .bool (!r137))] 5 rfl rfl ?_
  refine LP_end _ rfl ?_
  refine W_cond (!r137) rfl (fun hc141 => ?_) (fun hc141 => ?_)
  · have H := H.1 hc141
    refine W_seq ?_
    refine W_region ?_
    refine LP_ev ok 0 [(6, .bool false)] 1 rfl rfl ?_
    refine LP_end _ rfl ?_
    refine W_ret ?_
    have X142 := ((((X89.stepx x112).stepx x123).stepx x129).stepx x140)
    exact ⟨_, Ret_of [.bool false] ⟨⟨rfl, rfl⟩, trivial⟩, _, H, rfl, X142.ext⟩
  have H := H.2 hc141
  refine W_skip ?_
  refine W_seq ?_
  refine W_region ?_
  refine LP_ev ok 0 [(14, I 1)] 1 rfl rfl ?_
  refine LP_end _ rfl ?_
  refine W_seq ?_
  refine W_region ?_
  refine LP_ev ok 0 [(68, .slice a56 (List.length r47) c57), (69, I 1)] 2 rfl rfl ?_
  have ex145 := (((ex121.ext x123).ext x129).ext x140)
  refine LP_call 2 rfl rfl rfl cal_26 rfl (laws_markVariableS_w _ _ _ H wx139 o53 ex145) ?_
  rintro _ wx146 ⟨r143, r144, hx148, H, rfl, x147, o149, ex150, dm⟩
  refine LP_ev ok 3 [(14, I r143)] 4 rfl rfl ?_
  refine LP_end _ rfl ?_
  refine W_seq ?_
  refine W_region ?_
  refine LP_ev ok 0 [(71, .slice a67 (List.length r58) c68), (72, I r143)] 2 rfl rfl ?_
  have ex153 := ((ex138.ext x140).but x147 (Dj.of_fresh ex54 f66))
  refine LP_call 2 rfl rfl rfl cal_27 rfl (laws_markEditS_w _ _ _ H wx146 o64 ex153) ?_
  rintro _ wx154 ⟨r151, r152, hx156, H, rfl, x155, o157, ex158, dm159⟩
  refine LP_ev ok 3 [(14, I r151)] 4 rfl rfl ?_
  refine LP_end _ rfl ?_
  refine W_seq ?_
  obtain ⟨k167, hk168, H⟩ := jn_elim H
  refine W_join2 (S := Bool) (fun s ρ' w' => k167 s ∧ ∃ (ρ : Env), ρ' = setAll [(0, .slice a (List.length aS) c), (1, .slice a5 (List.length aL) c6), (2, I aV), (8, .slice a45 (List.length r35) c46), (9, .bool r36), (12, .slice a79 (List.length r69) c80), (86, .bool s)] ρ ∧ But emp w w' ∧ Sub hx w' ∧ Sub hx2 w' ∧ Sub hx41 w' ∧ Sub hx75 w') ?_ ?_
  · refine W_region ?_
    refine LP_ev ok 0 [(74, I r151), (75, .bool (decide (r151 < 0))), (76, .bool (decide (r151 < 0)))] 3 rfl rfl ?_
    refine LP_split 76 (decide (r151 < 0)) rfl (fun hc169 => ?_) (fun hc169 => ?_)
    · have H := H.1 hc169
      refine LP_ev ok 3 [(77, undef), (78, undef), (79, undef), (80, undef), (81, .bool true), (82, .bool true), (83, undef), (84, undef), (85, undef), (86, .bool true)] 13 rfl rfl ?_
      refine LP_end _ rfl ?_
      try refine W_forget [(0, .slice a (List.length aS) c), (1, .slice a5 (List.length aL) c6), (2, I aV), (8, .slice a45 (List.length r35) c46), (9, .bool r36), (12, .slice a79 (List.length r69) c80), (86, .bool true)] ⟨rfl, rfl, rfl, rfl, rfl, rfl, rfl, trivial⟩ fun ρ => ?_
      have X171 := (((((X.stepx x).stepx x12).stepx x18).stepx x27).stepx x39)
      have f170 := f55.mono X171.size
      have X173 := (X171.stepx x50)
      have f172 := f66.mono X173.size
      have X174 := ((((((X89.stepx x112).stepx x123).stepx x129).stepx x140).step x147 (f170.dom _)).step x155 (f172.dom _))
      have ex175 := (ex48.ext x50)
      have ex176 := ((((((ex83.ext x112).ext x123).ext x129).ext x140).but x147 (Dj.of_fresh ex48 f55).symm).but x155 (Dj.of_fresh ex175 f66).symm)
      have ex177 := ((ex25.ext x27).ext x39)
      have ex178 := ((((ex127.ext x129).ext x140).but x147 (Dj.of_fresh ex177 f55).symm).but x155 (Dj.of_fresh ex59 f66).symm)
      have ex179 := (ex43.ext x50)
      have ex180 := ((((((ex85.ext x112).ext x123).ext x129).ext x140).but x147 (Dj.of_fresh ex43 f55).symm).but x155 (Dj.of_fresh ex179 f66).symm)
      have ex181 := ((((((ex88.ext x112).ext x123).ext x129).ext x140).but x147 (Dj.of_fresh ex71 f78)).but x155 (Dj.of_fresh ex65 f78))
      exact ⟨true, H, _, env_eq ⟨rfl, rfl, rfl, rfl, rfl, rfl, rfl, trivial⟩, X174, ex176, ex178, ex180, ex181⟩
    have H := H.2 hc169
    refine LP_ev ok 3 [(77, .slice a79 (List.length r69) c80), (78, .slice a45 (List.length r35) c46)] 5 rfl rfl ?_
    have ex183 := ((((((ex88.ext x112).ext x123).ext x129).ext x140).but x147 (Dj.of_fresh ex71 f78)).but x155 (Dj.of_fresh ex65 f78))
    have ex184 := (ex43.ext x50)
    have ex185 := ((((((ex85.ext x112).ext x123).ext x129).ext x140).but x147 (Dj.of_fresh ex43 f55).symm).but x155 (Dj.of_fresh ex184 f66).symm)
    refine LP_call 5 rfl rfl rfl cal_22 rfl (laws_eqEditS_w _ _ _ H wx154 o76.readf ex183 o42.readf ex185) ?_
    rintro _ wx186 ⟨r182, H, rfl, x187⟩
    refine LP_ev ok 6 [(80, .bool (!r182)), (81, .bool (!r182)), (82, .bool (!r182))] 9 rfl rfl ?_
    refine LP_split 82 (!r182) rfl (fun hc188 => ?_) (fun hc188 => ?_)
    · have H := H.1 hc188
      refine LP_ev ok 9 [(83, undef), (84, undef), (85, undef), (86, .bool true)] 13 rfl rfl ?_
      refine LP_end _ rfl ?_
      try refine W_forget [(0, .slice a (List.length aS) c), (1, .slice a5 (List.length aL) c6), (2, I aV), (8, .slice a45 (List.length r35) c46), (9, .bool r36), (12, .slice a79 (List.length r69) c80), (86, .bool true)] ⟨rfl, rfl, rfl, rfl, rfl, rfl, rfl, trivial⟩ fun ρ => ?_
      have X190 := (((((X.stepx x).stepx x12).stepx x18).stepx x27).stepx x39)
      have f189 := f55.mono X190.size
      have X192 := (X190.stepx x50)
      have f191 := f66.mono X192.size
      have X193 := (((((((X89.stepx x112).stepx x123).stepx x129).stepx x140).step x147 (f189.dom _)).step x155 (f191.dom _)).stepx x187)
      have ex194 := (ex48.ext x50)
      have ex195 := (((((((ex83.ext x112).ext x123).ext x129).ext x140).but x147 (Dj.of_fresh ex48 f55).symm).but x155 (Dj.of_fresh ex194 f66).symm).ext x187)
      have ex196 := ((ex25.ext x27).ext x39)
      have ex197 := (((((ex127.ext x129).ext x140).but x147 (Dj.of_fresh ex196 f55).symm).but x155 (Dj.of_fresh ex59 f66).symm).ext x187)
      have ex198 := (ex185.ext x187)
      have ex199 := (ex183.ext x187)
      exact ⟨true, H, _, env_eq ⟨rfl, rfl, rfl, rfl, rfl, rfl, rfl, trivial⟩, X193, ex195, ex197, ex198, ex199⟩
    have H := H.2 hc188
    refine LP_ev ok 9 [(83, .bool r70), (84, .bool r36), (85, .bool (r70 != r36)), (86, .bool (r70 != r36))] 13 rfl rfl ?_
    refine LP_end _ rfl ?_
    try refine W_forget [(0, .slice a (List.length aS) c), (1, .slice a5 (List.length aL) c6), (2, I aV), (8, .slice a45 (List.length r35) c46), (9, .bool r36), (12, .slice a79 (List.length r69) c80), (86, .bool (r70 != r36))] ⟨rfl, rfl, rfl, rfl, rfl, rfl, rfl, trivial⟩ fun ρ => ?_
    have X201 := (((((X.stepx x).stepx x12).stepx x18).stepx x27).stepx x39)
    have f200 := f55.mono X201.size
    have X203 := (X201.stepx x50)
    have f202 := f66.mono X203.size
    have X204 := (((((((X89.stepx x112).stepx x123).stepx x129).stepx x140).step x147 (f200.dom _)).step x155 (f202.dom _)).stepx x187)
    have ex205 := (ex48.ext x50)
    have ex206 := (((((((ex83.ext x112).ext x123).ext x129).ext x140).but x147 (Dj.of_fresh ex48 f55).symm).but x155 (Dj.of_fresh ex205 f66).symm).ext x187)
    have ex207 := ((ex25.ext x27).ext x39)
    have ex208 := (((((ex127.ext x129).ext x140).but x147 (Dj.of_fresh ex207 f55).symm).but x155 (Dj.of_fresh ex59 f66).symm).ext x187)
    have ex209 := (ex185.ext x187)
    have ex210 := (ex183.ext x187)
    exact ⟨r70 != r36, H, _, env_eq ⟨rfl, rfl, rfl, rfl, rfl, rfl, rfl, trivial⟩, X204, ex206, ex208, ex209, ex210⟩
  rintro x160 _ wx161 ⟨H, ρ, rfl, X166, ex162, ex163, ex164, ex165⟩
  subst hk168
  refine W_cond (x160) rfl (fun hc211 => ?_) (fun hc211 => ?_)
  · have H := H.1 hc211
    refine W_seq ?_
    refine W_region ?_
    refine LP_ev ok 0 [(6, .bool false)] 1 rfl rfl ?_
    refine LP_end _ rfl ?_
    refine W_ret ?_
    exact ⟨_, Ret_of [.bool false] ⟨⟨rfl, rfl⟩, trivial⟩, _, H, rfl, X166.ext⟩
  have H := H.2 hc211
  refine W_skip ?_
  refine W_seq ?_
  refine W_region ?_
  refine LP_ev ok 0 [(15, I 1)] 1 rfl rfl ?_
  refine LP_end _ rfl ?_
  refine W_seq ?_
  refine W_region ?_
  refine LP_ev ok 0 [(87, .slice a79 (List.length r69) c80), (88, I 1)] 2 rfl rfl ?_
  refine LP_call 2 rfl rfl rfl cal_27 rfl (laws_markEditS_w _ _ _ H wx161 o76 ex165) ?_
  rintro _ wx214 ⟨r212, r213, hx216, H, rfl, x215, o217, ex218, dm219⟩
  refine LP_ev ok 3 [(15, I r212)] 4 rfl rfl ?_
  refine LP_end _ rfl ?_
  refine W_seq ?_
  refine W_region ?_
  refine LP_ev ok 0 [(16, I 1)] 1 rfl rfl ?_
  refine LP_end _ rfl ?_
  refine W_seq ?_
  refine W_region ?_
  refine LP_ev ok 0 [(90, .slice a79 (List.length r69) c80), (91, I 1)] 2 rfl rfl ?_
  refine LP_call 2 rfl rfl rfl cal_28 rfl (laws_heldEditS_w _ _ _ H wx214 o217.readf ex218) ?_
  rintro _ wx221 ⟨r220, H, rfl, x222⟩
  refine LP_ev ok 3 [(16, I r220)] 4 rfl rfl ?_
  refine LP_end _ rfl ?_
  refine W_seq ?_
  refine W_seq ?_
  refine W_region ?_
  refine LP_ev ok 0 [(93, I r220), (94, .bool (decide (r220 < 0)))] 2 rfl rfl ?_
  refine LP_end _ rfl ?_
  refine W_cond (decide (r220 < 0)) rfl (fun hc223 => ?_) (fun hc223 => ?_)
  · have H := H.1 hc223
    refine W_seq ?_
    refine W_region ?_
    refine LP_ev ok 0 [(6, .bool false)] 1 rfl rfl ?_
    refine LP_end _ rfl ?_
    refine W_ret ?_
    have X225 := (((((((X.stepx x).stepx x12).stepx x18).stepx x27).stepx x39).stepx x50).stepx x61)
    have f224 := f78.mono X225.size
    have X226 := ((X166.step x215 (f224.dom _)).stepx x222)
    exact ⟨_, Ret_of [.bool false] ⟨⟨rfl, rfl⟩, trivial⟩, _, H, rfl, X226.ext⟩
  have H := H.2 hc223
  refine W_skip ?_
  refine W_seq ?_
  refine W_seq ?_
  refine W_region ?_
  refine LP_ev ok 0 [(95, I r220), (96, I r212), (97, .bool (r220 != r212))] 3 rfl rfl ?_
  refine LP_end _ rfl ?_
  refine W_cond (r220 != r212) rfl (fun hc227 => ?_) (fun hc227 => ?_)
  · have H := H.1 hc227
    refine W_seq ?_
    refine W_region ?_
    refine LP_ev ok 0 [(6, .bool false)] 1 rfl rfl ?_
    refine LP_end _ rfl ?_
    refine W_ret ?_
    have X229 := (((((((X.stepx x).stepx x12).stepx x18).stepx x27).stepx x39).stepx x50).stepx x61)
    have f228 := f78.mono X229.size
    have X230 := ((X166.step x215 (f228.dom _)).stepx x222)
    exact ⟨_, Ret_of [.bool false] ⟨⟨rfl, rfl⟩, trivial⟩, _, H, rfl, X230.ext⟩
  have H := H.2 hc227
  refine W_skip ?_
  refine W_seq ?_
  refine W_region ?_
  refine LP_ev ok 0 [(99, .slice a (List.length aS) c)] 1 rfl rfl ?_
  have ex232 := ((ex48.ext x50).ext x61)
  have ex233 := ((ex162.but x215 (Dj.of_fresh ex232 f78).symm).ext x222)
  refine LP_call 1 rfl rfl rfl cal_17 rfl (laws_toVariableS_w _ _ H wx221 r ex233) ?_
  rintro _ wx234 ⟨r231, vx236, hx237, H, rfl, x235, o238, ex239, f240⟩
  obtain ⟨a241, c242, rfl⟩ := o238.shape
  refine LP_ev ok 2 [(101, .slice a5 (List.length aL) c6)] 3 rfl rfl ?_
  have ex244 := (ex59.ext x61)
  have ex245 := (((ex163.but x215 (Dj.of_fresh ex244 f78).symm).ext x222).ext x235)
  refine LP_call 3 rfl rfl rfl cal_18 rfl (laws_toEditS_w _ _ H wx234 r3 ex245) ?_
  rintro _ wx246 ⟨r243, vx248, hx249, H, rfl, x247, o250, ex251, f252⟩
  obtain ⟨a253, c254, rfl⟩ := o250.shape
  refine LP_ev ok 4 [(103, I aV)] 5 rfl rfl ?_
  have ex257 := (ex239.ext x247)
  refine LP_call 5 rfl rfl rfl cal_25 rfl (impl_EliminateVariable_w _ _ _ _ H wx246 o238.readf ex257 o250.readf ex251) ?_
  rintro _ wx258 ⟨r255, r256, vx260, hx261, H, rfl, x259, o262, ex263, f264⟩
  obtain ⟨a265, c266, rfl⟩ := o262.shape
  refine LP_ev ok 6 [(98, .tuple #[.slice a265 (List.length r255) c266, .bool r256]), (105, .slice a265 (List.length r255) c266), (106, .bool r256), (17, .slice a265 (List.length r255) c266), (18, .bool r256)] 11 rfl rfl ?_
  refine LP_end _ rfl ?_
  try refine W_forget [(8, .slice a45 (List.length r35) c46), (9, .bool r36), (12, .slice a79 (List.length r69) c80), (15, I r212), (17, .slice a265 (List.length r255) c266), (18, .bool r256)] ⟨rfl, rfl, rfl, rfl, rfl, rfl, trivial⟩ fun ρ => ?_
  refine W_seq ?_
  obtain ⟨k271, hk272, H⟩ := jn_elim H
  refine W_join2 (S := Bool) (fun s ρ' w' => k271 s ∧ ∃ (ρ : Env), ρ' = setAll [(12, .slice a79 (List.length r69) c80), (15, I r212), (115, .bool s)] ρ ∧ But emp w w' ∧ Sub hx216 w') ?_ ?_
  · refine W_region ?_
    refine LP_ev ok 0 [(107, .slice a265 (List.length r255) c266), (108, .slice a45 (List.length r35) c46)] 2 rfl rfl ?_
    have ex274 := ((ex43.ext x50).ext x61)
    have ex275 := (((((ex164.but x215 (Dj.of_fresh ex274 f78).symm).ext x222).ext x235).ext x247).ext x259)
    refine LP_call 2 rfl rfl rfl cal_22 rfl (laws_eqEditS_w _ _ _ H wx258 o262.readf ex263 o42.readf ex275) ?_
    rintro _ wx276 ⟨r273, H, rfl, x277⟩
    refine LP_ev ok 3 [(110, .bool (!r273)), (111, .bool (!r273))] 5 rfl rfl ?_
    refine LP_split 111 (!r273) rfl (fun hc278 => ?_) (fun hc278 => ?_)
    · have H := H.1 hc278
      refine LP_ev ok 5 [(112, undef), (113, undef), (114, undef), (115, .bool true)] 9 rfl rfl ?_
      refine LP_end _ rfl ?_
      have X280 := (((((((X.stepx x).stepx x12).stepx x18).stepx x27).stepx x39).stepx x50).stepx x61)
      have f279 := f78.mono X280.size
      have X281 := ((((((X166.step x215 (f279.dom _)).stepx x222).stepx x235).stepx x247).stepx x259).stepx x277)
      have ex282 := (((((ex218.ext x222).ext x235).ext x247).ext x259).ext x277)
      exact ⟨true, H, _, env_eq ⟨rfl, rfl, rfl, trivial⟩, X281, ex282⟩
    have H := H.2 hc278
    refine LP_ev ok 5 [(112, .bool r256), (113, .bool r36), (114, .bool (r256 != r36)), (115, .bool (r256 != r36))] 9 rfl rfl ?_
    refine LP_end _ rfl ?_
    have X284 := (((((((X.stepx x).stepx x12).stepx x18).stepx x27).stepx x39).stepx x50).stepx x61)
    have f283 := f78.mono X284.size
    have X285 := ((((((X166.step x215 (f283.dom _)).stepx x222).stepx x235).stepx x247).stepx x259).stepx x277)
    have ex286 := (((((ex218.ext x222).ext x235).ext x247).ext x259).ext x277)
    exact ⟨r256 != r36, H, _, env_eq ⟨rfl, rfl, rfl, trivial⟩, X285, ex286⟩
  rintro x267 _ wx268 ⟨H, ρ, rfl, X270, ex269⟩
  subst hk272
  refine W_cond (x267) rfl (fun hc287 => ?_) (fun hc287 => ?_)
  · have H := H.1 hc287
    refine W_seq ?_
    refine W_region ?_
    refine LP_ev ok 0 [(6, .bool false)] 1 rfl rfl ?_
    refine LP_end _ rfl ?_
    refine W_ret ?_
    exact ⟨_, Ret_of [.bool false] ⟨⟨rfl, rfl⟩, trivial⟩, _, H, rfl, X270.ext⟩
  have H := H.2 hc287
  refine W_skip ?_
  refine W_seq ?_
  refine W_region ?_
  refine LP_ev ok 0 [(16, I 1)] 1 rfl rfl ?_
  refine LP_end _ rfl ?_
  refine W_seq ?_
  refine W_region ?_
  refine LP_ev ok 0 [(116, .slice a79 (List.length r69) c80), (117, I 1)] 2 rfl rfl ?_
  refine LP_call 2 rfl rfl rfl cal_28 rfl (laws_heldEditS_w _ _ _ H wx268 o217.readf ex269) ?_
  rintro _ wx289 ⟨r288, H, rfl, x290⟩
  refine LP_ev ok 3 [(16, I r288)] 4 rfl rfl ?_
  refine LP_end _ rfl ?_
  refine W_seq ?_
  refine W_seq ?_
  refine W_region ?_
  refine LP_ev ok 0 [(119, I r288), (120, .bool (decide (r288 < 0)))] 2 rfl rfl ?_
  refine LP_end _ rfl ?_
  refine W_cond (decide (r288 < 0)) rfl (fun hc291 => ?_) (fun hc291 => ?_)
  · have H := H.1 hc291
    refine W_seq ?_
    refine W_region ?_
    refine LP_ev ok 0 [(6, .bool false)] 1 rfl rfl ?_
    refine LP_end _ rfl ?_
    refine W_ret ?_
    have X292 := (X270.stepx x290)
    exact ⟨_, Ret_of [.bool false] ⟨⟨rfl, rfl⟩, trivial⟩, _, H, rfl, X292.ext⟩
  have H := H.2 hc291
  refine W_skip ?_
  refine W_seq ?_
  refine W_seq ?_
  refine W_region ?_
  refine LP_ev ok 0 [(121, I r288), (122, I r212), (123, .bool (r288 != r212))] 3 rfl rfl ?_
  refine LP_end _ rfl ?_
  refine W_cond (r288 != r212) rfl (fun hc293 => ?_) (fun hc293 => ?_)
  · have H := H.1 hc293
    refine W_seq ?_
    refine W_region ?_
    refine LP_ev ok 0 [(6, .bool false)] 1 rfl rfl ?_
    refine LP_end _ rfl ?_
    refine W_ret ?_
    have X294 := (X270.stepx x290)
    exact ⟨_, Ret_of [.bool false] ⟨⟨rfl, rfl⟩, trivial⟩, _, H, rfl, X294.ext⟩
  have H := H.2 hc293
  refine W_skip ?_
  refine W_seq ?_
  refine W_region ?_
  refine LP_ev ok 0 [(6, .bool true)] 1 rfl rfl ?_
  refine LP_end _ rfl ?_
  refine W_ret ?_
  have X295 := (X270.stepx x290)
  exact ⟨_, Ret_of [.bool true] ⟨⟨rfl, rfl⟩, trivial⟩, _, H, rfl, X295.ext⟩

set_option maxRecDepth 8000 in
set_option maxHeartbeats 4000000 in
theorem spec_MaximalEdits_w (sx : List Variable) (l : List Edit) (Q : (List Edit) → Bool → Prop) (H : spec_MaximalEdits sx l Q) (w : World) {vx : Value} {hx : PH} (r : RS hx vx sx) (ex : Sub hx w) {vx1 : Value} {hx2 : PH} (r3 : RS hx2 vx1 l) (ex4 : Sub hx2 w) :
    CallsTo Try.prog 29 #[vx, vx1] w fun v w' => ∃ r0 r1 u0 g0, Q r0 r1 ∧ v = .tuple #[u0, .bool r1] ∧ Ext w w' ∧ OD g0 u0 r0 ∧ Sub g0 w' ∧ Fresh w.heap.size g0 := by
  obtain ⟨a, c, rfl⟩ := r.shape
  obtain ⟨a5, c6, rfl⟩ := r3.shape
  refine enter (args := [.slice a (List.length sx) c, .slice a5 (List.length l) c6]) 13 Try.func29 rfl rfl rfl ?_
  refine W_forget [(0, .slice a (List.length sx) c), (1, .slice a5 (List.length l) c6)] ⟨rfl, rfl, trivial⟩ fun ρ => ?_
  have X := But.refl emp w
  refine W_seq ?_
  refine W_region ?_
  refine LP_ev ok 0 [(4, .slice none 0 0), (5, .bool false)] 2 rfl rfl ?_
  refine LP_end _ rfl ?_
  refine W_seq ?_
  refine W_seq ?_
  refine W_region ?_
  refine LP_ev ok 0 [(6, .slice a (List.length sx) c), (7, .slice a5 (List.length l) c6)] 2 rfl rfl ?_
  refine LP_call 2 rfl rfl rfl cal_77 rfl (spec_eSmall_w _ _ _ H w r ex r3 ex4) ?_
  rintro _ wx ⟨r7, H, rfl, x⟩
  refine LP_ev ok 3 [(9, .bool (!r7))] 4 rfl rfl ?_
  refine LP_end _ rfl ?_
  refine W_cond (!r7) rfl (fun hc => ?_) (fun hc => ?_)
  · have H := H.1 hc
    refine W_seq ?_
    refine W_region ?_
    refine LP_ev ok 0 [(4, .slice none 0 0), (5, .bool false)] 2 rfl rfl ?_
    refine LP_end _ rfl ?_
    refine W_ret ?_
    have X8 := (X.stepx x)
    exact ⟨_, Ret_of [.slice none 0 0, .bool false] ⟨⟨rfl, rfl⟩, ⟨rfl, rfl⟩, trivial⟩, _, _, _, emp, H, rfl, X8.ext, OD.nil, (emp_sub _), (emp_fresh _)⟩
  have H := H.2 hc
  refine W_skip ?_
  refine W_seq ?_
  refine W_region ?_
  refine LP_ev ok 0 [(10, .slice a (List.length sx) c), (11, .slice a5 (List.length l) c6)] 2 rfl rfl ?_
  have ex10 := (ex.ext x)
  have ex11 := (ex4.ext x)
  refine LP_call 2 rfl rfl rfl cal_80 rfl (spec_eMaximal_w _ _ _ _ H wx r ex10 r3 ex11) ?_
  rintro _ wx12 ⟨r9, vx14, hx15, H, rfl, x13, o, ex16, f⟩
  obtain ⟨a17, c18, rfl⟩ := o.shape
  refine LP_ev ok 3 [(4, .slice a17 (List.length r9) c18), (5, .bool true)] 5 rfl rfl ?_
  refine LP_end _ rfl ?_
  refine W_ret ?_
  have X20 := (X.stepx x)
  have f19 := f.mono X20.size
  have X21 := (X20.stepx x13)
  exact ⟨_, Ret_of [.slice a17 (List.length r9) c18, .bool true] ⟨⟨rfl, rfl⟩, ⟨rfl, rfl⟩, trivial⟩, _, _, _, _, H, rfl, X21.ext, o, ex16, f19⟩

set_option maxRecDepth 8000 in
set_option maxHeartbeats 4000000 in
theorem impl_MaximalEdits_w (sx : List Variable) (l : List Edit) (Q : (List Edit) → Bool → Prop) (H : impl_MaximalEdits sx l Q) (w : World) {vx : Value} {hx : PH} (r : RS hx vx sx) (ex : Sub hx w) {vx1 : Value} {hx2 : PH} (r3 : RS hx2 vx1 l) (ex4 : Sub hx2 w) :
    CallsTo Try.prog 30 #[vx, vx1] w fun v w' => ∃ r0 r1 u0 g0, Q r0 r1 ∧ v = .tuple #[u0, .bool r1] ∧ Ext w w' ∧ OD g0 u0 r0 ∧ Sub g0 w' ∧ Fresh w.heap.size g0 := by
  obtain ⟨a, c, rfl⟩ := r.shape
  obtain ⟨a5, c6, rfl⟩ := r3.shape
  refine enter (args := [.slice a (List.length sx) c, .slice a5 (List.length l) c6]) 18 Try.func30 rfl rfl rfl ?_
  refine W_forget [(0, .slice a (List.length sx) c), (1, .slice a5 (List.length l) c6)] ⟨rfl, rfl, trivial⟩ fun ρ => ?_
  have X := But.refl emp w
  refine W_seq ?_
  refine W_region ?_
  refine LP_ev ok 0 [(4, .slice none 0 0), (5, .bool false)] 2 rfl rfl ?_
  refine LP_end _ rfl ?_
  refine W_seq ?_
  obtain ⟨k, hk, H⟩ := jn_elim H
  refine W_join2 (S := Bool) (fun s ρ' w' => k s ∧ ∃ (ρ : Env), ρ' = setAll [(0, .slice a (List.length sx) c), (1, .slice a5 (List.length l) c6), (14, .bool s)] ρ ∧ But emp w w' ∧ Sub hx w' ∧ Sub hx2 w') ?_ ?_
  · refine W_region ?_
    refine LP_ev ok 0 [(6, .slice a (List.length sx) c)] 1 rfl rfl ?_
    refine LP_call 1 rfl rfl rfl cal_86 rfl (impl_isSmall_w _ _ H w r ex) ?_
    rintro _ wx11 ⟨r10, H, rfl, x12⟩
    refine LP_ev ok 2 [(8, .bool (!r10)), (9, .bool (!r10))] 4 rfl rfl ?_
    refine LP_split 9 (!r10) rfl (fun hc => ?_) (fun hc => ?_)
    · have H := H.1 hc
      refine LP_ev ok 4 [(10, undef), (11, undef), (12, undef), (13, undef), (14, .bool true)] 9 rfl rfl ?_
      refine LP_end _ rfl ?_
      have X13 := (X.stepx x12)
      have ex14 := (ex.ext x12)
      have ex15 := (ex4.ext x12)
      exact ⟨true, H, _, env_eq ⟨rfl, rfl, rfl, trivial⟩, X13, ex14, ex15⟩
    have H := H.2 hc
    refine LP_ev ok 4 [(10, .slice a (List.length sx) c), (11, .slice a5 (List.length l) c6)] 6 rfl rfl ?_
    have ex17 := (ex.ext x12)
    have ex18 := (ex4.ext x12)
    refine LP_call 6 rfl rfl rfl cal_87 rfl (impl_areEdits_w _ _ _ H wx11 r ex17 r3 ex18) ?_
    rintro _ wx19 ⟨r16, H, rfl, x20⟩
    refine LP_ev ok 7 [(13, .bool (!r16)), (14, .bool (!r16))] 9 rfl rfl ?_
    refine LP_end _ rfl ?_
    have X21 := ((X.stepx x12).stepx x20)
    have ex22 := (ex17.ext x20)
    have ex23 := (ex18.ext x20)
    exact ⟨!r16, H, _, env_eq ⟨rfl, rfl, rfl, trivial⟩, X21, ex22, ex23⟩
  rintro x _ wx ⟨H, ρ, rfl, X9, ex7, ex8⟩
  subst hk
  refine W_cond (x) rfl (fun hc24 => ?_) (fun hc24 => ?_)
  · have H := H.1 hc24
    refine W_seq ?_
    refine W_region ?_
    refine LP_ev ok 0 [(4, .slice none 0 0), (5, .bool false)] 2 rfl rfl ?_
    refine LP_end _ rfl ?_
    refine W_ret ?_
    exact ⟨_, Ret_of [.slice none 0 0, .bool false] ⟨⟨rfl, rfl⟩, ⟨rfl, rfl⟩, trivial⟩, _, _, _, emp, H, rfl, X9.ext, OD.nil, (emp_sub _), (emp_fresh _)⟩
  have H := H.2 hc24
  refine W_skip ?_
  refine W_seq ?_
  refine W_region ?_
  refine LP_ev ok 0 [(15, .slice a (List.length sx) c), (16, .slice a5 (List.length l) c6)] 2 rfl rfl ?_
  refine LP_call 2 rfl rfl rfl cal_95 rfl (impl_maximalEdits_w _ _ _ _ H wx r ex7 r3 ex8) ?_
  rintro _ wx26 ⟨r25, vx28, hx29, H, rfl, x27, o, ex30, f⟩
  obtain ⟨a31, c32, rfl⟩ := o.shape
  refine LP_ev ok 3 [(4, .slice a31 (List.length r25) c32), (5, .bool true)] 5 rfl rfl ?_
  refine LP_end _ rfl ?_
  refine W_ret ?_
  have f33 := f.mono X9.size
  have X34 := (X9.stepx x27)
  exact ⟨_, Ret_of [.slice a31 (List.length r25) c32, .bool true] ⟨⟨rfl, rfl⟩, ⟨rfl, rfl⟩, trivial⟩, _, _, _, _, H, rfl, X34.ext, o, ex30, f33⟩

set_option maxRecDepth 8000 in
set_option maxHeartbeats 4000000 in
theorem laws_FnExactMaximalEdits_w (aS : List Variable) (aL : List Edit) (Q : Bool → Prop) (H : laws_FnExactMaximalEdits aS aL Q) (w : World) {vx : Value} {hx : PH} (r : RS hx vx aS) (ex : Sub hx w) {vx1 : Value} {hx2 : PH} (r3 : RS hx2 vx1 aL) (ex4 : Sub hx2 w) :
    CallsTo Try.prog 5 #[vx, vx1] w fun v w' => ∃ r0, Q r0 ∧ v = .bool r0 ∧ Ext w w' := by
  obtain ⟨a, c, rfl⟩ := r.shape
  obtain ⟨a5, c6, rfl⟩ := r3.shape
  refine enter (args := [.slice a (List.length aS) c, .slice a5 (List.length aL) c6]) 119 Try.func5 rfl rfl rfl ?_
  refine W_forget [(0, .slice a (List.length aS) c), (1, .slice a5 (List.length aL) c6)] ⟨rfl, rfl, trivial⟩ fun ρ => ?_
  have X := But.refl emp w
  refine W_seq ?_
  refine W_region ?_
  refine LP_ev ok 0 [(4, .bool false)] 1 rfl rfl ?_
  refine LP_end _ rfl ?_
  refine W_seq ?_
  refine W_region ?_
  refine LP_ev ok 0 [(5, I 1048576)] 1 rfl rfl ?_
  refine LP_end _ rfl ?_
  refine W_seq ?_
  refine W_region ?_
  refine LP_ev ok 0 [(17, .slice a (List.length aS) c), (18, I 1048576)] 2 rfl rfl ?_
  refine LP_call 2 rfl rfl rfl cal_14 rfl (laws_szVariableS_w _ _ _ H w r ex) ?_
  rintro _ wx ⟨r7, H, rfl, x⟩
  refine LP_ev ok 3 [(5, I r7)] 4 rfl rfl ?_
  refine LP_end _ rfl ?_
  refine W_seq ?_
  refine W_seq ?_
  refine W_region ?_
  refine LP_ev ok 0 [(20, I r7), (21, .bool (decide (r7 < 0)))] 2 rfl rfl ?_
  refine LP_end _ rfl ?_
  refine W_cond (decide (r7 < 0)) rfl (fun hc => ?_) (fun hc => ?_)
  · have H := H.1 hc
    refine W_seq ?_
    refine W_region ?_
    refine LP_ev ok 0 [(4, .bool true)] 1 rfl rfl ?_
    refine LP_end _ rfl ?_
    refine W_ret ?_
    have X8 := (X.stepx x)
    exact ⟨_, Ret_of [.bool true] ⟨⟨rfl, rfl⟩, trivial⟩, _, H, rfl, X8.ext⟩
  have H := H.2 hc
  refine W_skip ?_
  refine W_seq ?_
  refine W_region ?_
  refine LP_ev ok 0 [(22, .slice a5 (List.length aL) c6), (23, I r7)] 2 rfl rfl ?_
  have ex10 := (ex4.ext x)
  refine LP_call 2 rfl rfl rfl cal_15 rfl (laws_szEditS_w _ _ _ H wx r3 ex10) ?_
  rintro _ wx11 ⟨r9, H, rfl, x12⟩
  refine LP_ev ok 3 [(5, I r9)] 4 rfl rfl ?_
  refine LP_end _ rfl ?_
  refine W_seq ?_
  refine W_seq ?_
  refine W_region ?_
  refine LP_ev ok 0 [(25, I r9), (26, .bool (decide (r9 < 0)))] 2 rfl rfl ?_
  refine LP_end _ rfl ?_
  refine W_cond (decide (r9 < 0)) rfl (fun hc13 => ?_) (fun hc13 => ?_)
  · have H := H.1 hc13
    refine W_seq ?_
    refine W_region ?_
    refine LP_ev ok 0 [(4, .bool true)] 1 rfl rfl ?_
    refine LP_end _ rfl ?_
    refine W_ret ?_
    have X14 := ((X.stepx x).stepx x12)
    exact ⟨_, Ret_of [.bool true] ⟨⟨rfl, rfl⟩, trivial⟩, _, H, rfl, X14.ext⟩
  have H := H.2 hc13
  refine W_skip ?_
  refine W_seq ?_
  refine W_region ?_
  refine LP_ev ok 0 [(28, .slice a (List.length aS) c)] 1 rfl rfl ?_
  have ex16 := ((ex.ext x).ext x12)
  refine LP_call 1 rfl rfl rfl cal_17 rfl (laws_toVariableS_w _ _ H wx11 r ex16) ?_
  rintro _ wx17 ⟨r15, vx19, hx20, H, rfl, x18, o, ex21, f⟩
  obtain ⟨a22, c23, rfl⟩ := o.shape
  refine LP_ev ok 2 [(30, .slice a5 (List.length aL) c6)] 3 rfl rfl ?_
  have ex25 := ((ex10.ext x12).ext x18)
  refine LP_call 3 rfl rfl rfl cal_18 rfl (laws_toEditS_w _ _ H wx17 r3 ex25) ?_
  rintro _ wx26 ⟨r24, vx28, hx29, H, rfl, x27, o30, ex31, f32⟩
  obtain ⟨a33, c34, rfl⟩ := o30.shape
  have ex37 := (ex21.ext x27)
  refine LP_call 4 rfl rfl rfl cal_29 rfl (spec_MaximalEdits_w _ _ _ H wx26 o.readf ex37 o30.readf ex31) ?_
  rintro _ wx38 ⟨r35, r36, vx40, hx41, H, rfl, x39, o42, ex43, f44⟩
  obtain ⟨a45, c46, rfl⟩ := o42.shape
  refine LP_ev ok 5 [(27, .tuple #[.slice a45 (List.length r35) c46, .bool r36]), (33, .slice a45 (List.length r35) c46), (34, .bool r36), (6, .slice a45 (List.length r35) c46), (7, .bool r36)] 10 rfl rfl ?_
  refine LP_end _ rfl ?_
  refine W_seq ?_
  refine W_region ?_
  refine LP_ev ok 0 [(35, .slice a (List.length aS) c)] 1 rfl rfl ?_
  have ex48 := (((ex16.ext x18).ext x27).ext x39)
  refine LP_call 1 rfl rfl rfl cal_17 rfl (laws_toVariableS_w _ _ H wx38 r ex48) ?_
  rintro _ wx49 ⟨r47, vx51, hx52, H, rfl, x50, o53, ex54, f55⟩
  obtain ⟨a56, c57, rfl⟩ := o53.shape
  refine LP_ev ok 2 [(8, .slice a56 (List.length r47) c57)] 3 rfl rfl ?_
  refine LP_end _ rfl ?_
  try refine W_forget [(0, .slice a (List.length aS) c), (1, .slice a5 (List.length aL) c6), (6, .slice a45 (List.length r35) c46), (7, .bool r36), (8, .slice a56 (List.length r47) c57)] ⟨rfl, rfl, rfl, rfl, rfl, trivial⟩ fun ρ => ?_
  refine W_seq ?_
  refine W_region ?_
  refine LP_ev ok 0 [(37, .slice a5 (List.length aL) c6)] 1 rfl rfl ?_
  have ex59 := (((ex25.ext x27).ext x39).ext x50)
  refine LP_call 1 rfl rfl rfl cal_18 rfl (laws_toEditS_w _ _ H wx49 r3 ex59) ?_
  rintro _ wx60 ⟨r58, vx62, hx63, H, rfl, x61, o64, ex65, f66⟩
  obtain ⟨a67, c68, rfl⟩ := o64.shape
  refine LP_ev ok 2 [(9, .slice a67 (List.length r58) c68)] 3 rfl rfl ?_
  refine LP_end _ rfl ?_
  refine W_seq ?_
  refine W_region ?_
  refine LP_ev ok 0 [(40, .slice a56 (List.length r47) c57), (41, .slice a67 (List.length r58) c68)] 2 rfl rfl ?_
  have ex71 := (ex54.ext x61)
  refine LP_call 2 rfl rfl rfl cal_30 rfl (impl_MaximalEdits_w _ _ _ H wx60 o53.readf ex71 o64.readf ex65) ?_
  rintro _ wx72 ⟨r69, r70, vx74, hx75, H, rfl, x73, o76, ex77, f78⟩
  obtain ⟨a79, c80, rfl⟩ := o76.shape
  refine LP_ev ok 3 [(39, .tuple #[.slice a79 (List.length r69) c80, .bool r70]), (43, .slice a79 (List.length r69) c80), (44, .bool r70), (10, .slice a79 (List.length r69) c80), (11, .bool r70)] 8 rfl rfl ?_
  refine LP_end _ rfl ?_
  refine W_seq ?_
  obtain ⟨k, hk, H⟩ := jn_elim H
  refine W_join2 (S := Bool) (fun s ρ' w' => k s ∧ ∃ (ρ : Env), ρ' = setAll [(0, .slice a (List.length aS) c), (1, .slice a5 (List.length aL) c6), (6, .slice a45 (List.length r35) c46), (7, .bool r36), (8, .slice a56 (List.length r47) c57), (9, .slice a67 (List.length r58) c68), (10, .slice a79 (List.length r69) c80), (11, .bool r70), (53, .bool s)] ρ ∧ But emp w w' ∧ Sub hx w' ∧ Sub hx2 w' ∧ Sub hx41 w' ∧ Sub hx52 w' ∧ Sub hx63 w' ∧ Sub hx75 w') ?_ ?_
  · refine W_region ?_
    refine LP_ev ok 0 [(45, .slice a79 (List.length r69) c80), (46, .slice a45 (List.length r35) c46)] 2 rfl rfl ?_
    have ex91 := (((ex43.ext x50).ext x61).ext x73)
    refine LP_call 2 rfl rfl rfl cal_22 rfl (laws_eqEditS_w _ _ _ H wx72 o76.readf ex77 o42.readf ex91) ?_
    rintro _ wx92 ⟨r90, H, rfl, x93⟩
    refine LP_ev ok 3 [(48, .bool (!r90)), (49, .bool (!r90))] 5 rfl rfl ?_
    refine LP_split 49 (!r90) rfl (fun hc94 => ?_) (fun hc94 => ?_)
    · have H := H.1 hc94
      refine LP_ev ok 5 [(50, undef), (51, undef), (52, undef), (53, .bool true)] 9 rfl rfl ?_
      refine LP_end _ rfl ?_
      have X95 := (((((((((X.stepx x).stepx x12).stepx x18).stepx x27).stepx x39).stepx x50).stepx x61).stepx x73).stepx x93)
      have ex96 := ((((ex48.ext x50).ext x61).ext x73).ext x93)
      have ex97 := (((ex59.ext x61).ext x73).ext x93)
      have ex98 := (ex91.ext x93)
      have ex99 := ((ex71.ext x73).ext x93)
      have ex100 := ((ex65.ext x73).ext x93)
      have ex101 := (ex77.ext x93)
      exact ⟨true, H, _, env_eq ⟨rfl, rfl, rfl, rfl, rfl, rfl, rfl, rfl, rfl, trivial⟩, X95, ex96, ex97, ex98, ex99, ex100, ex101⟩
    have H := H.2 hc94
    refine LP_ev ok 5 [(50, .bool r70), (51, .bool r36), (52, .bool (r70 != r36)), (53, .bool (r70 != r36))] 9 rfl rfl ?_
    refine LP_end _ rfl ?_
    have X102 := (((((((((X.stepx x).stepx x12).stepx x18).stepx x27).stepx x39).stepx x50).stepx x61).stepx x73).stepx x93)
    have ex103 := ((((ex48.ext x50).ext x61).ext x73).ext x93)
    have ex104 := (((ex59.ext x61).ext x73).ext x93)
    have ex105 := (ex91.ext x93)
    have ex106 := ((ex71.ext x73).ext x93)
    have ex107 := ((ex65.ext x73).ext x93)
    have ex108 := (ex77.ext x93)
    exact ⟨r70 != r36, H, _, env_eq ⟨rfl, rfl, rfl, rfl, rfl, rfl, rfl, rfl, rfl, trivial⟩, X102, ex103, ex104, ex105, ex106, ex107, ex108⟩
  rintro x81 _ wx82 ⟨H, ρ, rfl, X89, ex83, ex84, ex85, ex86, ex87, ex88⟩
  subst hk
  refine W_cond (x81) rfl (fun hc109 => ?_) (fun hc109 => ?_)
  · have H := H.1 hc109
    refine W_seq ?_
    refine W_region ?_
    refine LP_ev ok 0 [(4, .bool false)] 1 rfl rfl ?_
    refine LP_end _ rfl ?_
    refine W_ret ?_
    exact ⟨_, Ret_of [.bool false] ⟨⟨rfl, rfl⟩, trivial⟩, _, H, rfl, X89.ext⟩
  have H := H.2 hc109
  refine W_skip ?_
  refine W_seq ?_
  refine W_seq ?_
  refine W_region ?_
  refine LP_ev ok 0 [(54, .slice a56 (List.length r47) c57), (55, .slice a (List.length aS) c)] 2 rfl rfl ?_
  refine LP_call 2 rfl rfl rfl cal_17 rfl (laws_toVariableS_w _ _ H wx82 r ex83) ?_
  rintro _ wx111 ⟨r110, vx113, hx114, H, rfl, x112, o115, ex116, f117⟩
  obtain ⟨a118, c119, rfl⟩ := o115.shape
  have ex121 := (ex86.ext x112)
  refine LP_call 3 rfl rfl rfl cal_21 rfl (laws_eqVariableS_w _ _ _ H wx111 o53.readf ex121 o115.readf ex116) ?_
  rintro _ wx122 ⟨r120, H, rfl, x123⟩
  refine LP_ev ok 4 [(58, .bool (!r120))] 5 rfl rfl ?_
  refine LP_end _ rfl ?_
  refine W_cond (!r120) rfl (fun hc124 => ?_) (fun hc124 => ?_)
  · have H := H.1 hc124
    refine W_seq ?_
    refine W_region ?_
    refine LP_ev ok 0 [(4, .bool false)] 1 rfl rfl ?_
    refine LP_end _ rfl ?_
    refine W_ret ?_
    have X125 := ((X89.stepx x112).stepx x123)
    exact ⟨_, Ret_of [.bool false] ⟨⟨rfl, rfl⟩, trivial⟩, _, H, rfl, X125.ext⟩
  have H := H.2 hc124
  refine W_skip ?_
  refine W_seq ?_
  refine W_seq ?_
  refine W_region ?_
  refine LP_ev ok 0 [(59, .slice a67 (List.length r58) c68), (60, .slice a5 (List.length aL) c6)] 2 rfl rfl ?_
  have ex127 := ((ex84.ext x112).ext x123)
  refine LP_call 2 rfl rfl rfl cal_18 rfl (laws_toEditS_w _ _ H wx122 r3 ex127) ?_
  rintro _ wx128 ⟨r126, vx130, hx131, H, rfl, x129, o132, ex133, f134⟩
  obtain ⟨a135, c136, rfl⟩ := o132.shape
  have ex138 := (((ex87.ext x112).ext x123).ext x129)
  refine LP_call 3 rfl rfl rfl cal_22 rfl (laws_eqEditS_w _ _ _ H wx128 o64.readf ex138 o132.readf ex133) ?_
  rintro _ wx139 ⟨r137, H, rfl, x140⟩
  refine LP_ev ok 4 [(63, .bool (!r137))] 5 rfl rfl ?_
  refine LP_end _ rfl ?_
  refine W_cond (!r137) rfl (fun hc141 => ?_) (fun hc141 => ?_)
  · have H := H.1 hc141
    refine W_seq ?_
    refine W_region ?_
    refine LP_ev ok 0 [(4, .bool false)] 1 rfl rfl ?_
    refine LP_end _ rfl ?_
    refine W_ret ?_
    have X142 := ((((X89.stepx x112).stepx x123).stepx x129).stepx x140)
    exact ⟨_, Ret_of [.bool false] ⟨⟨rfl, rfl⟩, trivial⟩, _, H, rfl, X142.ext⟩
  have H := H.2 hc141
  refine W_skip ?_
  refine W_seq ?_
  refine W_region ?_
  refine LP_ev ok 0 [(12, I 1)] 1 rfl rfl ?_
  refine LP_end _ rfl ?_
  refine W_seq ?_
  refine W_region ?_
  refine LP_ev ok 0 [(64, .slice a56 (List.length r47) c57), (65, I 1)] 2 rfl rfl ?_
  have ex145 := (((ex121.ext x123).ext x129).ext x140)
  refine LP_call 2 rfl rfl rfl cal_26 rfl (laws_markVariableS_w _ _ _ H wx139 o53 ex145) ?_
  rintro _ wx146 ⟨r143, r144, hx148, H, rfl, x147, o149, ex150, dm⟩
  refine LP_ev ok 3 [(12, I r143)] 4 rfl rfl ?_
  refine LP_end _ rfl ?_
  refine W_seq ?_
  refine W_region ?_
  refine LP_ev ok 0 [(67, .slice a67 (List.length r58) c68), (68, I r143)] 2 rfl rfl ?_
  have ex153 := ((ex138.ext x140).but x147 (Dj.of_fresh ex54 f66))
  refine LP_call 2 rfl rfl rfl cal_27 rfl (laws_markEditS_w _ _ _ H wx146 o64 ex153) ?_
  rintro _ wx154 ⟨r151, r152, hx156, H, rfl, x155, o157, ex158, dm159⟩
  refine LP_ev ok 3 [(12, I r151)] 4 rfl rfl ?_
  refine LP_end _ rfl ?_
  refine W_seq ?_
  obtain ⟨k167, hk168, H⟩ := jn_elim H
  refine W_join2 (S := Bool) (fun s ρ' w' => k167 s ∧ ∃ (ρ : Env), ρ' = setAll [(0, .slice a (List.length aS) c), (1, .slice a5 (List.length aL) c6), (6, .slice a45 (List.length r35) c46), (7, .bool r36), (10, .slice a79 (List.length r69) c80), (82, .bool s)] ρ ∧ But emp w w' ∧ Sub hx w' ∧ Sub hx2 w' ∧ Sub hx41 w' ∧ Sub hx75 w') ?_ ?_
  · refine W_region ?_
    refine LP_ev ok 0 [(70, I r151), (71, .bool (decide (r151 < 0))), (72, .bool (decide (r151 < 0)))] 3 rfl rfl ?_
    refine LP_split 72 (decide (r151 < 0)) rfl (fun hc169 => ?_) (fun hc169 => ?_)
    · have H := H.1 hc169
      refine LP_ev ok 3 [(73, undef), (74, undef), (75, undef), (76, undef), (77, .bool true), (78, .bool true), (79, undef), (80, undef), (81, undef), (82, .bool true)] 13 rfl rfl ?_
      refine LP_end _ rfl ?_
      try refine W_forget [(0, .slice a (List.length aS) c), (1, .slice a5 (List.length aL) c6), (6, .slice a45 (List.length r35) c46), (7, .bool r36), (10, .slice a79 (List.length r69) c80), (82, .bool true)] ⟨rfl, rfl, rfl, rfl, rfl, rfl, trivial⟩ fun ρ => ?_
      have X171 := (((((X.stepx x).stepx x12).stepx x18).stepx x27).stepx x39)
      have f170 := f55.mono X171.size
      have X173 := (X171.stepx x50)
      have f172 := f66.mono X173.size
      have X174 := ((((((X89.stepx x112).stepx x123).stepx x129).stepx x140).step x147 (f170.dom _)).step x155 (f172.dom _))
      have ex175 := (ex48.ext x50)
      have ex176 := ((((((ex83.ext x112).ext x123).ext x129).ext x140).but x147 (Dj.of_fresh ex48 f55).symm).but x155 (Dj.of_fresh ex175 f66).symm)
      have ex177 := ((ex25.ext x27).ext x39)
      have ex178 := ((((ex127.ext x129).ext x140).but x147 (Dj.of_fresh ex177 f55).symm).but x155 (Dj.of_fresh ex59 f66).symm)
      have ex179 := (ex43.ext x50)
      have ex180 := ((((((ex85.ext x112).ext x123).ext x129).ext x140).but x147 (Dj.of_fresh ex43 f55).symm).but x155 (Dj.of_fresh ex179 f66).symm)
      have ex181 := ((((((ex88.ext x112).ext x123).ext x129).ext x140).but x147 (Dj.of_fresh ex71 f78)).but x155 (Dj.of_fresh ex65 f78))
      exact ⟨true, H, _, env_eq ⟨rfl, rfl, rfl, rfl, rfl, rfl, trivial⟩, X174, ex176, ex178, ex180, ex181⟩
    have H := H.2 hc169
    refine LP_ev ok 3 [(73, .slice a79 (List.length r69) c80), (74, .slice a45 (List.length r35) c46)] 5 rfl rfl ?_
    have ex183 := ((((((ex88.ext x112).ext x123).ext x129).ext x140).but x147 (Dj.of_fresh ex71 f78)).but x155 (Dj.of_fresh ex65 f78))
    have ex184 := (ex43.ext x50)
    have ex185 := ((((((ex85.ext x112).ext x123).ext x129).ext x140).but x147 (Dj.of_fresh ex43 f55).symm).but x155 (Dj.of_fresh ex184 f66).symm)
    refine LP_call 5 rfl rfl rfl cal_22 rfl (laws_eqEditS_w _ _ _ H wx154 o76.readf ex183 o42.readf ex185) ?_
    rintro _ wx186 ⟨r182, H, rfl, x187⟩
    refine LP_ev ok 6 [(76, .bool (!r182)), (77, .bool (!r182)), (78, .bool (!r182))] 9 rfl rfl ?_
    refine LP_split 78 (!r182) rfl (fun hc188 => ?_) (fun hc188 => ?_)
    · have H := H.1 hc188
      refine LP_ev ok 9 [(79, undef), (80, undef), (81, undef), (82, .bool true)] 13 rfl rfl ?_
      refine LP_end _ rfl ?_
      try refine W_forget [(0, .slice a (List.length aS) c), (1, .slice a5 (List.length aL) c6), (6, .slice a45 (List.length r35) c46), (7, .bool r36), (10, .slice a79 (List.length r69) c80), (82, .bool true)] ⟨rfl, rfl, rfl, rfl, rfl, rfl, trivial⟩ fun ρ => ?_
      have X190 := (((((X.stepx x).stepx x12).stepx x18).stepx x27).stepx x39)
      have f189 := f55.mono X190.size
      have X192 := (X190.stepx x50)
      have f191 := f66.mono X192.size
      have X193 := (((((((X89.stepx x112).stepx x123).stepx x129).stepx x140).step x147 (f189.dom _)).step x155 (f191.dom _)).stepx x187)
      have ex194 := (ex48.ext x50)
      have ex195 := (((((((ex83.ext x112).ext x123).ext x129).ext x140).but x147 (Dj.of_fresh ex48 f55).symm).but x155 (Dj.of_fresh ex194 f66).symm).ext x187)
      have ex196 := ((ex25.ext x27).ext x39)
      have ex197 := (((((ex127.ext x129).ext x140).but x147 (Dj.of_fresh ex196 f55).symm).but x155 (Dj.of_fresh ex59 f66).symm).ext x187)
      have ex198 := (ex185.ext x187)
      have ex199 := (ex183.ext x187)
      exact ⟨true, H, _, env_eq ⟨rfl, rfl, rfl, rfl, rfl, rfl, trivial⟩, X193, ex195, ex197, ex198, ex199⟩
    have H := H.2 hc188
    refine LP_ev ok 9 [(79, .bool r70), (80, .bool r36), (81, .bool (r70 != r36)), (82, .bool (r70 != r36))] 13 rfl rfl ?_
    refine LP_end _ rfl ?_
    try refine W_forget [(0, .slice a (List.length aS) c), (1, .slice a5 (List.length aL) c6), (6, .slice a45 (List.length r35) c46), (7, .bool r36), (10, .slice a79 (List.length r69) c80), (82, .bool (r70 != r36))] ⟨rfl, rfl, rfl, rfl, rfl, rfl, trivial⟩ fun ρ => ?_
    have X201 := (((((X.stepx x).stepx x12).stepx x18).stepx x27).stepx x39)
    have f200 := f55.mono X201.size
    have X203 := (X201.stepx x50)
    have f202 := f66.mono X203.size
    have X204 := (((((((X89.stepx x112).stepx x123).stepx x129).stepx x140).step x147 (f200.dom _)).step x155 (f202.dom _)).stepx x187)
    have ex205 := (ex48.ext x50)
    have ex206 := (((((((ex83.ext x112).ext x123).ext x129).ext x140).but x147 (Dj.of_fresh ex48 f55).symm).but x155 (Dj.of_fresh ex205 f66).symm).ext x187)
    have ex207 := ((ex25.ext x27).ext x39)
    have ex208 := (((((ex127.ext x129).ext x140).but x147 (Dj.of_fresh ex207 f55).symm).but x155 (Dj.of_fresh ex59 f66).symm).ext x187)
    have ex209 := (ex185.ext x187)
    have ex210 := (ex183.ext x187)
    exact ⟨r70 != r36, H, _, env_eq ⟨rfl, rfl, rfl, rfl, rfl, rfl, trivial⟩, X204, ex206, ex208, ex209, ex210⟩
  rintro x160 _ wx161 ⟨H, ρ, rfl, X166, ex162, ex163, ex164, ex165⟩
  subst hk168
  refine W_cond (x160) rfl (fun hc211 => ?_) (fun hc211 => ?_)
  · have H := H.1 hc211
    refine W_seq ?_
    refine W_region ?_
    refine LP_ev ok 0 [(4, .bool false)] 1 rfl rfl ?_
    refine LP_end _ rfl ?_
    refine W_ret ?_
    exact ⟨_, Ret_of [.bool false] ⟨⟨rfl, rfl⟩, trivial⟩, _, H, rfl, X166.ext⟩
  have H := H.2 hc211
  refine W_skip ?_
  refine W_seq ?_
  refine W_region ?_
  refine LP_ev ok 0 [(13, I 1)] 1 rfl rfl ?_
  refine LP_end _ rfl ?_
  refine W_seq ?_
  refine W_region ?_
  refine LP_ev ok 0 [(83, .slice a79 (List.length r69) c80), (84, I 1)] 2 rfl rfl ?_
  refine LP_call 2 rfl rfl rfl cal_27 rfl (laws_markEditS_w _ _ _ H wx161 o76 ex165) ?_
  rintro _ wx214 ⟨r212, r213, hx216, H, rfl, x215, o217, ex218, dm219⟩
  refine LP_ev ok 3 [(13, I r212)] 4 rfl rfl ?_
  refine LP_end _ rfl ?_
  refine W_seq ?_
  refine W_region ?_
  refine LP_ev ok 0 [(14, I 1)] 1 rfl rfl ?_
  refine LP_end _ rfl ?_
  refine W_seq ?_
  refine W_region ?_
  refine LP_ev ok 0 [(86, .slice a79 (List.length r69) c80), (87, I 1)] 2 rfl rfl ?_
  refine LP_call 2 rfl rfl rfl cal_28 rfl (laws_heldEditS_w _ _ _ H wx214 o217.readf ex218) ?_
  rintro _ wx221 ⟨r220, H, rfl, x222⟩
  refine LP_ev ok 3 [(14, I r220)] 4 rfl rfl ?_
  refine LP_end _ rfl ?_
  refine W_seq ?_
  refine W_seq ?_
  refine W_region ?_
  refine LP_ev ok 0 [(89, I r220), (90, .bool (decide (r220 < 0)))] 2 rfl rfl ?_
  refine LP_end _ rfl ?_
  refine W_cond (decide (r220 < 0)) rfl (fun hc223 => ?_) (fun hc223 => ?_)
  · have H := H.1 hc223
    refine W_seq ?_
    refine W_region ?_
    refine LP_ev ok 0 [(4, .bool false)] 1 rfl rfl ?_
    refine LP_end _ rfl ?_
    refine W_ret ?_
    have X225 := (((((((X.stepx x).stepx x12).stepx x18).stepx x27).stepx x39).stepx x50).stepx x61)
    have f224 := f78.mono X225.size
    have X226 := ((X166.step x215 (f224.dom _)).stepx x222)
    exact ⟨_, Ret_of [.bool false] ⟨⟨rfl, rfl⟩, trivial⟩, _, H, rfl, X226.ext⟩
  have H := H.2 hc223
  refine W_skip ?_
  refine W_seq ?_
  refine W_seq ?_
  refine W_region ?_
  refine LP_ev ok 0 [(91, I r220), (92, I r212), (93, .bool (r220 != r212))] 3 rfl rfl ?_
  refine LP_end _ rfl ?_
  refine W_cond (r220 != r212) rfl (fun hc227 => ?_) (fun hc227 => ?_)
  · have H := H.1 hc227
    refine W_seq ?_
    refine W_region ?_
    refine LP_ev ok 0 [(4, .bool false)] 1 rfl rfl ?_
    refine LP_end _ rfl ?_
    refine W_ret ?_
    have X229 := (((((((X.stepx x).stepx x12).stepx x18).stepx x27).stepx x39).stepx x50).stepx x61)
    have f228 := f78.mono X229.size
    have X230 := ((X166.step x215 (f228.dom _)).stepx x222)
    exact ⟨_, Ret_of [.bool false] ⟨⟨rfl, rfl⟩, trivial⟩, _, H, rfl, X230.ext⟩
  have H := H.2 hc227
  refine W_skip ?_
  refine W_seq ?_
  refine W_region ?_
  refine LP_ev ok 0 [(95, .slice a (List.length aS) c)] 1 rfl rfl ?_
  have ex232 := ((ex48.ext x50).ext x61)
  have ex233 := ((ex162.but x215 (Dj.of_fresh ex232 f78).symm).ext x222)
  refine LP_call 1 rfl rfl rfl cal_17 rfl (laws_toVariableS_w _ _ H wx221 r ex233) ?_
  rintro _ wx234 ⟨r231, vx236, hx237, H, rfl, x235, o238, ex239, f240⟩
  obtain ⟨a241, c242, rfl⟩ := o238.shape
  refine LP_ev ok 2 [(97, .slice a5 (List.length aL) c6)] 3 rfl rfl ?_
  have ex244 := (ex59.ext x61)
  have ex245 := (((ex163.but x215 (Dj.of_fresh ex244 f78).symm).ext x222).ext x235)
  refine LP_call 3 rfl rfl rfl cal_18 rfl (laws_toEditS_w _ _ H wx234 r3 ex245) ?_
  rintro _ wx246 ⟨r243, vx248, hx249, H, rfl, x247, o250, ex251, f252⟩
  obtain ⟨a253, c254, rfl⟩ := o250.shape
  have ex257 := (ex239.ext x247)
  refine LP_call 4 rfl rfl rfl cal_30 rfl (impl_MaximalEdits_w _ _ _ H wx246 o238.readf ex257 o250.readf ex251) ?_
  rintro _ wx258 ⟨r255, r256, vx260, hx261, H, rfl, x259, o262, ex263, f264⟩
  obtain ⟨a265, c266, rfl⟩ := o262.shape
  refine LP_ev ok 5 [(94, .tuple #[.slice a265 (List.length r255) c266, .bool r256]), (100, .slice a265 (List.length r255) c266), (101, .bool r256), (15, .slice a265 (List.length r255) c266), (16, .bool r256)] 10 rfl rfl ?_
  refine LP_end _ rfl ?_
  try refine W_forget [(6, .slice a45 (List.length r35) c46), (7, .bool r36), (10, .slice a79 (List.length r69) c80), (13, I r212), (15, .slice a265 (List.length r255) c266), (16, .bool r256)] ⟨rfl, rfl, rfl, rfl, rfl, rfl, trivial⟩ fun ρ => ?_
  refine W_seq ?_
  obtain ⟨k271, hk272, H⟩ := jn_elim H
  refine W_join2 (S := Bool) (fun s ρ' w' => k271 s ∧ ∃ (ρ : Env), ρ' = setAll [(10, .slice a79 (List.length r69) c80), (13, I r212), (110, .bool s)] ρ ∧ But emp w w' ∧ Sub hx216 w') ?_ ?_
  · refine W_region ?_
    refine LP_ev ok 0 [(102, .slice a265 (List.length r255) c266), (103, .slice a45 (List.length r35) c46)] 2 rfl rfl ?_
    have ex274 := ((ex43.ext x50).ext x61)
    have ex275 := (((((ex164.but x215 (Dj.of_fresh ex274 f78).symm).ext x222).ext x235).ext x247).ext x259)
    refine LP_call 2 rfl rfl rfl cal_22 rfl (laws_eqEditS_w _ _ _ H wx258 o262.readf ex263 o42.readf ex275) ?_
    rintro _ wx276 ⟨r273, H, rfl, x277⟩
    refine LP_ev ok 3 [(105, .bool (!r273)), (106, .bool (!r273))] 5 rfl rfl ?_
    refine LP_split 106 (!r273) rfl (fun hc278 => ?_) (fun hc278 => ?_)
    · have H := H.1 hc278
      refine LP_ev ok 5 [(107, undef), (108, undef), (109, undef), (110, .bool true)] 9 rfl rfl ?_
      refine LP_end _ rfl ?_
      have X280 := (((((((X.stepx x).stepx x12).stepx x18).stepx x27).stepx x39).stepx x50).stepx x61)
      have f279 := f78.mono X280.size
      have X281 := ((((((X166.step x215 (f279.dom _)).stepx x222).stepx x235).stepx x247).stepx x259).stepx x277)
      have ex282 := (((((ex218.ext x222).ext x235).ext x247).ext x259).ext x277)
      exact ⟨true, H, _, env_eq ⟨rfl, rfl, rfl, trivial⟩, X281, ex282⟩
    have H := H.2 hc278
    refine LP_ev ok 5 [(107, .bool r256), (108, .bool r36), (109, .bool (r256 != r36)), (110, .bool (r256 != r36))] 9 rfl rfl ?_
    refine LP_end _ rfl ?_
    have X284 := (((((((X.stepx x).stepx x12).stepx x18).stepx x27).stepx x39).stepx x50).stepx x61)
    have f283 := f78.mono X284.size
    have X285 := ((((((X166.step x215 (f283.dom _)).stepx x222).stepx x235).stepx x247).stepx x259).stepx x277)
    have ex286 := (((((ex218.ext x222).ext x235).ext x247).ext x259).ext x277)
    exact ⟨r256 != r36, H, _, env_eq ⟨rfl, rfl, rfl, trivial⟩, X285, ex286⟩
  rintro x267 _ wx268 ⟨H, ρ, rfl, X270, ex269⟩
  subst hk272
  refine W_cond (x267) rfl (fun hc287 => ?_) (fun hc287 => ?_)
  · have H := H.1 hc287
    refine W_seq ?_
    refine W_region ?_
    refine LP_ev ok 0 [(4, .bool false)] 1 rfl rfl ?_
    refine LP_end _ rfl ?_
    refine W_ret ?_
    exact ⟨_, Ret_of [.bool false] ⟨⟨rfl, rfl⟩, trivial⟩, _, H, rfl, X270.ext⟩
  have H := H.2 hc287
  refine W_skip ?_
  refine W_seq ?_
  refine W_region ?_
  refine LP_ev ok 0 [(14, I 1)] 1 rfl rfl ?_
  refine LP_end _ rfl ?_
  refine W_seq ?_
  refine W_region ?_
  refine LP_ev ok 0 [(111, .slice a79 (List.length r69) c80), (112, I 1)] 2 rfl rfl ?_
  refine LP_call 2 rfl rfl rfl cal_28 rfl (laws_heldEditS_w _ _ _ H wx268 o217.readf ex269) ?_
  rintro _ wx289 ⟨r288, H, rfl, x290⟩
  refine LP_ev ok 3 [(14, I r288)] 4 rfl rfl ?_
  refine LP_end _ rfl ?_
  refine W_seq ?_
  refine W_seq ?_
  refine W_region ?_
  refine LP_ev ok 0 [(114, I r288), (115, .bool (decide (r288 < 0)))] 2 rfl rfl ?_
  refine LP_end _ rfl ?_
  refine W_cond (decide (r288 < 0)) rfl (fun hc291 => ?_) (fun hc291 => ?_)
  · have H := H.1 hc291
    refine W_seq ?_
    refine W_region ?_
    refine LP_ev ok 0 [(4, .bool false)] 1 rfl rfl ?_
    refine LP_end _ rfl ?_
    refine W_ret ?_
    have X292 := (X270.stepx x290)
    exact ⟨_, Ret_of [.bool false] ⟨⟨rfl, rfl⟩, trivial⟩, _, H, rfl, X292.ext⟩
  have H := H.2 hc291
  refine W_skip ?_
  refine W_seq ?_
  refine W_seq ?_
  refine W_region ?_
  refine LP_ev ok 0 [(116, I r288), (117, I r212), (118, .bool (r288 != r212))] 3 rfl rfl ?_
  refine LP_end _ rfl ?_
  refine W_cond (r288 != r212) rfl (fun hc293 => ?_) (fun hc293 => ?_)
  · have H := H.1 hc293
    refine W_seq ?_
    refine W_region ?_
    refine LP_ev ok 0 [(4, .bool false)] 1 rfl rfl ?_
    refine LP_end _ rfl ?_
    refine W_ret ?_
    have X294 := (X270.stepx x290)
    exact ⟨_, Ret_of [.bool false] ⟨⟨rfl, rfl⟩, trivial⟩, _, H, rfl, X294.ext⟩
  have H := H.2 hc293
  refine W_skip ?_
  refine W_seq ?_
  refine W_region ?_
  refine LP_ev ok 0 [(4, .bool true)] 1 rfl rfl ?_
  refine LP_end _ rfl ?_
  refine W_ret ?_
  have X295 := (X270.stepx x290)
  exact ⟨_, Ret_of [.bool true] ⟨⟨rfl, rfl⟩, trivial⟩, _, H, rfl, X295.ext⟩

set_option maxRecDepth 8000 in
set_option maxHeartbeats 4000000 in
theorem spec_EditsOnly_w (sx : List Variable) (l : List Edit) (vars : List Int) (Q : (List Edit) → Bool → Prop) (H : spec_EditsOnly sx l vars Q) (w : World) {vx : Value} {hx : PH} (r : RS hx vx sx) (ex : Sub hx w) {vx1 : Value} {hx2 : PH} (r3 : RS hx2 vx1 l) (ex4 : Sub hx2 w) {vx7 : Value} {hx8 : PH} (r9 : RS hx8 vx7 vars) (ex10 : Sub hx8 w) :
    CallsTo Try.prog 56 #[vx, vx1, vx7] w fun v w' => ∃ r0 r1 u0 g0, Q r0 r1 ∧ v = .tuple #[u0, .bool r1] ∧ Ext w w' ∧ OD g0 u0 r0 ∧ Sub g0 w' ∧ Fresh w.heap.size g0 := by
  obtain ⟨a, c, rfl⟩ := r.shape
  obtain ⟨a5, c6, rfl⟩ := r3.shape
  obtain ⟨a11, c12, rfl⟩ := r9.shape
  refine enter (args := [.slice a (List.length sx) c, .slice a5 (List.length l) c6, .slice a11 (List.length vars) c12]) 56 Try.func56 rfl rfl rfl ?_
  refine W_forget [(0, .slice a (List.length sx) c), (1, .slice a5 (List.length l) c6), (2, .slice a11 (List.length vars) c12)] ⟨rfl, rfl, rfl, trivial⟩ fun ρ => ?_
  have X := But.refl emp w
  refine W_seq ?_
  refine W_region ?_
  refine LP_ev ok 0 [(6, .slice none 0 0), (7, .bool false)] 2 rfl rfl ?_
  refine LP_end _ rfl ?_
  refine W_seq ?_
  obtain ⟨k, hk, H⟩ := jn_elim H
  refine W_join2 (S := Bool) (fun s ρ' w' => k s ∧ ∃ (ρ : Env), ρ' = setAll [(0, .slice a (List.length sx) c), (1, .slice a5 (List.length l) c6), (2, .slice a11 (List.length vars) c12), (25, .bool s)] ρ ∧ But emp w w' ∧ Sub hx w' ∧ Sub hx2 w' ∧ Sub hx8 w') ?_ ?_
  · refine W_region ?_
    refine LP_ev ok 0 [(14, .slice a (List.length sx) c), (15, .slice a5 (List.length l) c6)] 2 rfl rfl ?_
    refine LP_call 2 rfl rfl rfl cal_77 rfl (spec_eSmall_w _ _ _ H w r ex r3 ex4) ?_
    rintro _ wx18 ⟨r17, H, rfl, x19⟩
    refine LP_ev ok 3 [(17, .bool (!r17)), (18, .bool (!r17))] 5 rfl rfl ?_
    refine LP_split 18 (!r17) rfl (fun hc => ?_) (fun hc => ?_)
    · have H := H.1 hc
      refine LP_ev ok 5 [(19, undef), (20, undef), (21, undef), (22, undef), (23, undef), (24, undef), (25, .bool true)] 12 rfl rfl ?_
      refine LP_end _ rfl ?_
      have X20 := (X.stepx x19)
      have ex21 := (ex.ext x19)
      have ex22 := (ex4.ext x19)
      have ex23 := (ex10.ext x19)
      exact ⟨true, H, _, env_eq ⟨rfl, rfl, rfl, rfl, trivial⟩, X20, ex21, ex22, ex23⟩
    have H := H.2 hc
    refine LP_ev ok 5 [(19, .slice a11 (List.length vars) c12), (20, .slice a (List.length sx) c), (21, I (ln sx)), (22, I (wr ((ln sx) - 1)))] 9 rfl rfl ?_
    have ex25 := (ex10.ext x19)
    refine LP_call 9 rfl rfl rfl cal_79 rfl (spec_l1Rising_w _ _ _ _ H wx18 r9 ex25) ?_
    rintro _ wx26 ⟨r24, H, rfl, x27⟩
    refine LP_ev ok 10 [(24, .bool (!r24)), (25, .bool (!r24))] 12 rfl rfl ?_
    refine LP_end _ rfl ?_
    have X28 := ((X.stepx x19).stepx x27)
    have ex29 := ((ex.ext x19).ext x27)
    have ex30 := ((ex4.ext x19).ext x27)
    have ex31 := (ex25.ext x27)
    exact ⟨!r24, H, _, env_eq ⟨rfl, rfl, rfl, rfl, trivial⟩, X28, ex29, ex30, ex31⟩
  rintro x _ wx ⟨H, ρ, rfl, X16, ex13, ex14, ex15⟩
  subst hk
  refine W_cond (x) rfl (fun hc32 => ?_) (fun hc32 => ?_)
  · have H := H.1 hc32
    refine W_seq ?_
    refine W_region ?_
    refine LP_ev ok 0 [(6, .slice none 0 0), (7, .bool false)] 2 rfl rfl ?_
    refine LP_end _ rfl ?_
    refine W_ret ?_
    exact ⟨_, Ret_of [.slice none 0 0, .bool false] ⟨⟨rfl, rfl⟩, ⟨rfl, rfl⟩, trivial⟩, _, _, _, emp, H, rfl, X16.ext, OD.nil, (emp_sub _), (emp_fresh _)⟩
  have H := H.2 hc32
  refine W_skip ?_
  refine W_seq ?_
  refine W_region ?_
  refine LP_ev ok 0 [(8, .slice none 0 0)] 1 rfl rfl ?_
  refine LP_end _ rfl ?_
  refine W_seq ?_
  refine W_seq ?_
  refine W_region ?_
  refine LP_ev ok 0 [(26, .slice a (List.length sx) c), (27, .slice a5 (List.length l) c6)] 2 rfl rfl ?_
  refine LP_call 2 rfl rfl rfl cal_80 rfl (spec_eMaximal_w _ _ _ _ H wx r ex13 r3 ex14) ?_
  rintro _ wx34 ⟨r33, vx36, hx37, H, rfl, x35, o, ex38, f⟩
  obtain ⟨a39, c40, rfl⟩ := o.shape
  refine LP_ev ok 3 [(29, I (ln r33)), (30, I 0)] 5 rfl rfl ?_
  refine LP_end _ rfl ?_
  refine W_block ?_
  have X61 := (X16.stepx x35)
  have f62 := f.mono X16.size
  have ex63 := (ex13.ext x35)
  have ex64 := (ex15.ext x35)
  obtain ⟨J, m, Hx, H⟩ := H
  refine W_loop (S := (List Edit) × Int) (fun s ρ' w' => J s.1 s.2 ∧ ∃ (ρ : Env) (vx41 : Value) (hx42 : PH) (hx46 : PH), ρ' = setAll [(0, .slice a (List.length sx) c), (2, .slice a11 (List.length vars) c12), (8, vx41), (28, .slice a39 (List.length r33) c40), (29, I (ln r33)), (30, I s.2)] ρ ∧ But emp w w' ∧ OD hx42 vx41 s.1 ∧ Sub hx42 w' ∧ Fresh w.heap.size hx42 ∧ DR hx46 (.slice a39 (List.length r33) c40) r33 (Int.toNat s.2) ∧ Sub hx46 w' ∧ Fresh w.heap.size hx46 ∧ Sub hx w' ∧ Sub hx8 w' ∧ Dj hx42 hx ∧ Dj hx42 hx8 ∧ Dj hx46 hx ∧ Dj hx46 hx8 ∧ Dj hx46 hx42) (fun s => m s.1 s.2) ([], 0) ⟨Hx, _, .slice none 0 0, emp, hx37, env_eq ⟨rfl, rfl, rfl, rfl, rfl, rfl, trivial⟩, X61, OD.nil, (emp_sub _), (emp_fresh _), (OD.drain o), ex38, f62, ex63, ex64, (fun _ => .inl rfl), (fun _ => .inl rfl), (Dj.of_fresh ex13 f).symm, (Dj.of_fresh ex15 f).symm, (fun _ => .inr rfl)⟩ ?_
  rintro ⟨out, x50⟩ _ wx51 ⟨Hi, ρ, vx41, hx42, hx46, rfl, X60, o43, ex44, f45, o47, ex48, f49, ex52, ex53, d, d56, d57, d58, d59⟩
  have H := H out x50 Hi
  obtain ⟨a54, c55, rfl⟩ := o43.shape
  refine W_seq ?_
  refine W_region ?_
  refine LP_ev ok 0 [(31, .bool (decide (x50 < (ln r33))))] 1 rfl rfl ?_
  refine LP_end _ rfl ?_
  refine W_seq ?_
  refine W_cond (decide (x50 < (ln r33))) rfl (fun hc65 => ?_) (fun hc65 => ?_)
  · have H := H.1 hc65
    refine W_skip ?_
    obtain ⟨k87, hk88, H⟩ := jn_elim H
    refine W_join2 (S := (List Edit)) (fun s ρ' w' => k87 s ∧ ∃ (ρ : Env) (vx67 : Value) (hx68 : PH) (hx72 : PH), ρ' = setAll [(0, .slice a (List.length sx) c), (2, .slice a11 (List.length vars) c12), (8, vx67), (28, .slice a39 (List.length r33) c40), (29, I (ln r33)), (30, I x50)] ρ ∧ But emp w w' ∧ OD hx68 vx67 s ∧ Sub hx68 w' ∧ Fresh w.heap.size hx68 ∧ DR hx72 (.slice a39 (List.length r33) c40) r33 (Int.toNat (wr (x50 + 1))) ∧ Sub hx72 w' ∧ Fresh w.heap.size hx72 ∧ Sub hx w' ∧ Sub hx8 w' ∧ Dj hx68 hx ∧ Dj hx68 hx8 ∧ Dj hx72 hx ∧ Dj hx72 hx8 ∧ Dj hx72 hx68) ?_ ?_
    · refine W_block ?_
      refine W_seq ?_
      refine W_region ?_
      obtain ⟨x89, hi, hx90, H⟩ := H
      refine LP_indexT (v := .slice a39 (List.length r33) c40) 0 rfl rfl rfl Try.underlying31 ti_50 rfl rfl o47 hi hx90 fun a91 c92 hx93 hx94 r95 ow o96 d97 l98 l99 => ?_
      have ex100 := Sub.le ex48 l98
      have ex101 := Sub.le ex48 l99
      obtain ⟨u, rfl, o102⟩ := Edit_tk ow
      obtain ⟨a103, c104, rfl⟩ := o102.shape
      have o105 : OS 3 hx93 emp (.slice a103 (List.length x89.Sets) c104) x89.Sets := OD.flat o102
      refine LP_ldpart (off := 0) 1 (v := .agg #[.slice a103 (List.length x89.Sets) c104]) rfl rfl rfl ti_50 ag_50 (fun h => by cases h) rfl r95 ex101 rfl rfl ?_
      refine LP_alloc 2 rfl rfl rfl ti_50 rfl fun b wx106 x107 ex108 f109 => ?_
      refine LP_stbox 3 (vs := [.slice a103 (List.length x89.Sets) c104]) (cs' := [.slice a103 (List.length x89.Sets) c104]) rfl rfl rfl ti_50 rfl rfl rfl rfl rfl ex108 rfl rfl fun wx110 ex111 y => ?_
      refine LP_end _ rfl ?_
      refine W_seq ?_
      refine W_region ?_
      refine LP_ev ok 0 [(11, .bool true)] 1 rfl rfl ?_
      refine LP_end _ rfl ?_
      refine W_seq ?_
      refine W_seq ?_
      refine W_region ?_
      refine LP_ev ok 0 [(34, .slice a (List.length sx) c)] 1 rfl rfl ?_
      refine LP_ldbox 1 (v := .agg #[.slice a103 (List.length x89.Sets) c104]) rfl rfl rfl ti_50 ag_50 (fun h => by cases h) rfl ex111 rfl rfl ?_
      have ex113 := ((ex52.ext x107).but y (Dj.of_fresh ex52 f109).symm)
      have ex114 := ((ex100.ext x107).but y (Dom.dj (Dom.of_le l98) (Dj.of_fresh ex48 f109)).symm)
      refine LP_call 2 rfl rfl rfl cal_83 rfl (spec_eInvolved_w _ _ _ H wx110 r ex113 o105.readf ex114) ?_
      rintro _ wx115 ⟨r112, vx117, hx118, H, rfl, x116, o119, ex120, f121⟩
      obtain ⟨a122, c123, rfl⟩ := o119.shape
      refine LP_ev ok 3 [(37, I (ln r112)), (38, I 0)] 5 rfl rfl ?_
      refine LP_end _ rfl ?_
      refine W_block ?_
      have f137 := f109.mono X60.size
      have X138 := (((X60.stepx x107).step y (f137.dom _)).stepx x116)
      have ex139 := (ex113.ext x116)
      have ex140 := (((ex53.ext x107).but y (Dj.of_fresh ex53 f109).symm).ext x116)
      have ex141 := (((ex101.ext x107).but y (Dom.dj (Dom.of_le l99) (Dj.of_fresh ex48 f109)).symm).ext x116)
      have ex142 := (((ex44.ext x107).but y (Dj.of_fresh ex44 f109).symm).ext x116)
      have ex143 := (ex114.ext x116)
      have ex144 := (ex111.ext x116)
      obtain ⟨J134, m135, Hx136, H⟩ := H
      refine W_loop (S := Bool × Int) (fun s ρ' w' => J134 s.1 s.2 ∧ ∃ (ρ : Env), ρ' = setAll [(0, .slice a (List.length sx) c), (2, .slice a11 (List.length vars) c12), (8, .slice a54 (List.length out) c55), (10, .pointer (some ⟨b, 0, none⟩)), (11, .bool s.1), (28, .slice a39 (List.length r33) c40), (29, I (ln r33)), (30, I x50), (36, .slice a122 (List.length r112) c123), (37, I (ln r112)), (38, I s.2)] ρ ∧ But emp w w' ∧ Sub hx w' ∧ Sub hx8 w' ∧ Sub hx94 w' ∧ Sub hx42 w' ∧ Sub hx93 w' ∧ Sub (bx b 50 [.slice a103 (List.length x89.Sets) c104]) w' ∧ Sub hx118 w') (fun s => m135 s.1 s.2) (true, 0) ⟨Hx136, _, env_eq ⟨rfl, rfl, rfl, rfl, rfl, rfl, rfl, rfl, rfl, rfl, rfl, trivial⟩, X138, ex139, ex140, ex141, ex142, ex143, ex144, ex120⟩ ?_
      rintro ⟨inx, x124⟩ _ wx125 ⟨Hi, ρ, rfl, X133, ex126, ex127, ex128, ex129, ex130, ex131, ex132⟩
      have H := H inx x124 Hi
      refine W_seq ?_
      refine W_region ?_
      refine LP_ev ok 0 [(39, .bool (decide (x124 < (ln r112))))] 1 rfl rfl ?_
      refine LP_end _ rfl ?_
      refine W_seq ?_
      refine W_cond (decide (x124 < (ln r112))) rfl (fun hc146 => ?_) (fun hc146 => ?_)
      · have H := H.1 hc146
        refine W_skip ?_
        obtain ⟨k157, hk158, H⟩ := jn_elim H
        refine W_join2 (S := Bool) (fun s ρ' w' => k157 s ∧ ∃ (ρ : Env), ρ' = setAll [(0, .slice a (List.length sx) c), (2, .slice a11 (List.length vars) c12), (8, .slice a54 (List.length out) c55), (10, .pointer (some ⟨b, 0, none⟩)), (11, .bool s), (28, .slice a39 (List.length r33) c40), (29, I (ln r33)), (30, I x50), (36, .slice a122 (List.length r112) c123), (37, I (ln r112)), (38, I x124)] ρ ∧ But emp w w' ∧ Sub hx w' ∧ Sub hx8 w' ∧ Sub hx94 w' ∧ Sub hx42 w' ∧ Sub hx93 w' ∧ Sub (bx b 50 [.slice a103 (List.length x89.Sets) c104]) w' ∧ Sub hx118 w') ?_ ?_
        · refine W_block ?_
          refine W_seq ?_
          refine W_region ?_
          obtain ⟨x159, hi160, hx161, H⟩ := H
          refine LP_index 0 rfl rfl rfl Try.underlying24 ti_3 rfl rfl o119.readf hi160 hx161 fun a162 cs r163 d164 => ?_
          refine LP_load 1 rfl rfl rfl ti_3 ag_3 rfl r163 d164 ex132 fun vx165 r166 => ?_
          obtain rfl := r166.int
          refine LP_ev ok 2 [(13, I x159)] 3 rfl rfl ?_
          refine LP_end _ rfl ?_
          refine W_region ?_
          refine LP_ev ok 0 [(42, .bool inx), (43, .bool inx)] 2 rfl rfl ?_
          refine LP_split 43 (inx) rfl (fun hc167 => ?_) (fun hc167 => ?_)
          · have H := H.1 hc167
            refine LP_ev ok 2 [(44, .slice a11 (List.length vars) c12), (45, I x159)] 4 rfl rfl ?_
            refine LP_call 4 rfl rfl rfl cal_126 rfl (spec_l1Has_w _ _ _ H wx125 r9 ex127) ?_
            rintro _ wx169 ⟨r168, H, rfl, x170⟩
            refine LP_ev ok 5 [(47, .bool r168), (11, .bool r168)] 7 rfl rfl ?_
            refine LP_end _ rfl ?_
            have X171 := (X133.stepx x170)
            have ex172 := (ex126.ext x170)
            have ex173 := (ex127.ext x170)
            have ex174 := (ex128.ext x170)
            have ex175 := (ex129.ext x170)
            have ex176 := (ex130.ext x170)
            have ex177 := (ex131.ext x170)
            have ex178 := (ex132.ext x170)
            exact ⟨r168, H, _, env_eq ⟨rfl, rfl, rfl, rfl, rfl, rfl, rfl, rfl, rfl, rfl, rfl, trivial⟩, X171, ex172, ex173, ex174, ex175, ex176, ex177, ex178⟩
          have H := H.2 hc167
          refine LP_ev ok 2 [(44, undef), (45, undef), (46, undef), (47, .bool false), (11, .bool false)] 7 rfl rfl ?_
          refine LP_end _ rfl ?_
          exact ⟨false, H, _, env_eq ⟨rfl, rfl, rfl, rfl, rfl, rfl, rfl, rfl, rfl, rfl, rfl, trivial⟩, X133, ex126, ex127, ex128, ex129, ex130, ex131, ex132⟩
        rintro inx147 _ wx148 ⟨H, ρ, rfl, X156, ex149, ex150, ex151, ex152, ex153, ex154, ex155⟩
        subst hk158
        refine W_region ?_
        refine LP_ev ok 0 [(48, I (wr (x124 + 1))), (38, I (wr (x124 + 1)))] 2 rfl rfl ?_
        refine LP_end _ rfl ?_
        exact ⟨(inx147, wr (x124 + 1)), ⟨H.1, _, env_eq ⟨rfl, rfl, rfl, rfl, rfl, rfl, rfl, rfl, rfl, rfl, rfl, trivial⟩, X156, ex149, ex150, ex151, ex152, ex153, ex154, ex155⟩, H.2⟩
      have H := H.2 hc146
      refine W_exit ?_
      refine (if_pos rfl).mpr ?_
      refine W_seq ?_
      refine W_region ?_
      refine LP_ev ok 0 [(49, .bool inx)] 1 rfl rfl ?_
      refine LP_end _ rfl ?_
      refine W_cond (inx) rfl (fun hc179 => ?_) (fun hc179 => ?_)
      · have H := H.1 hc179
        refine W_region ?_
        refine LP_ev ok 0 [(50, .slice a54 (List.length out) c55)] 1 rfl rfl ?_
        refine LP_ldbox 1 (v := .agg #[.slice a103 (List.length x89.Sets) c104]) rfl rfl rfl ti_50 ag_50 (fun h => by cases h) rfl ex131 rfl rfl ?_
        have rv : RVO hx93 (.agg #[.slice a103 (List.length x89.Sets) c104]) ((Edit.mk x89.Sets) : Edit) := ⟨_, ⟨_, rfl, (OS.od o105)⟩, rfl⟩
        refine LP_litD (α := Edit) 2 (vs := [.agg #[.slice a103 (List.length x89.Sets) c104]]) (xs := [((Edit.mk x89.Sets) : Edit)]) rfl rfl rfl Try.underlying31 ti_50 rfl rfl (allO.one rv) ex130 rfl rfl fun hx180 vx181 wx182 x183 o184 ex185 dm => ?_
        obtain ⟨a186, c187, rfl⟩ := o184.shape
        have ex188 := (ex129.ext x183)
        obtain ⟨hb, H⟩ := H
        refine LP_appendD (α := Edit) 3 rfl rfl rfl Try.underlying31 ti_50 rfl rfl rfl o43 ex188 o184 ex185 (DomLe.dj dm (Dom.dj (Dom.of_le l98) d59) ex129).symm (by first | omega | (simp only [ln] at *; omega)) (by first | omega | (simp only [ln] at *; omega)) fun hx189 vx190 wx191 hw o192 ex193 y194 dh dm195 => ?_
        obtain ⟨a196, c197, rfl⟩ := o192.shape
        refine LP_ev ok 4 [(8, .slice a196 (List.length (out ++ ([((Edit.mk x89.Sets) : Edit)]))) c197)] 5 rfl rfl ?_
        refine LP_end _ rfl ?_
        have X198 := ((X133.stepx x183).step (But.dom y194 dh) (f45.dom _))
        have f199 := Fresh.domOf f49 (Dom.of_le l98)
        have f200 := DomLe.fresh dm f199 X133.size
        have X202 := (X133.stepx x183)
        have f201 := DomLe.fresh dm195 (Fresh.un f45 f200) X202.size
        have ex203 := ((ex128.ext x183).but (But.dom y194 dh) (Dom.dj (Dom.of_le l99) d59).symm)
        have f204 := Fresh.domOf f49 (Dom.of_le l99)
        have ex205 := ((ex126.ext x183).but (But.dom y194 dh) d)
        have ex206 := ((ex127.ext x183).but (But.dom y194 dh) d56)
        have ex207 := (ex126.ext x183)
        have ex208 := (ex127.ext x183)
        have ex209 := (ex128.ext x183)
        exact ⟨out ++ ([((Edit.mk x89.Sets) : Edit)]), H, _, .slice a196 (List.length (out ++ ([((Edit.mk x89.Sets) : Edit)]))) c197, hx189, hx94, env_eq ⟨rfl, rfl, rfl, rfl, rfl, rfl, trivial⟩, X198, o192, ex193, f201, o96, ex203, f204, ex205, ex206, (DomLe.dj dm195 (Dj.un_l d (DomLe.dj dm (Dom.dj (Dom.of_le l98) d57) ex126)) ex207), (DomLe.dj dm195 (Dj.un_l d56 (DomLe.dj dm (Dom.dj (Dom.of_le l98) d58) ex127)) ex208), (Dom.dj (Dom.of_le l99) d57), (Dom.dj (Dom.of_le l99) d58), (DomLe.dj dm195 (Dj.un_l (Dom.dj (Dom.of_le l99) d59).symm (DomLe.dj dm d97 ex128)) ex209).symm⟩
      have H := H.2 hc179
      refine W_skip ?_
      have f210 := Fresh.domOf f49 (Dom.of_le l99)
      exact ⟨out, H, _, .slice a54 (List.length out) c55, hx42, hx94, env_eq ⟨rfl, rfl, rfl, rfl, rfl, rfl, trivial⟩, X133, o43, ex129, f45, o96, ex128, f210, ex126, ex127, d, d56, (Dom.dj (Dom.of_le l99) d57), (Dom.dj (Dom.of_le l99) d58), (Dom.dj (Dom.of_le l99) d59)⟩
    rintro out66 _ wx76 ⟨H, ρ, vx67, hx68, hx72, rfl, X86, o69, ex70, f71, o73, ex74, f75, ex77, ex78, d81, d82, d83, d84, d85⟩
    subst hk88
    obtain ⟨a79, c80, rfl⟩ := o69.shape
    refine W_region ?_
    refine LP_ev ok 0 [(54, I (wr (x50 + 1))), (30, I (wr (x50 + 1)))] 2 rfl rfl ?_
    refine LP_end _ rfl ?_
    exact ⟨(out66, wr (x50 + 1)), ⟨H.1, _, .slice a79 (List.length out66) c80, hx68, hx72, env_eq ⟨rfl, rfl, rfl, rfl, rfl, rfl, trivial⟩, X86, o69, ex70, f71, o73, ex74, f75, ex77, ex78, d81, d82, d83, d84, d85⟩, H.2⟩
  have H := H.2 hc65
  refine W_exit ?_
  refine (if_pos rfl).mpr ?_
  refine W_seq ?_
  refine W_region ?_
  refine LP_ev ok 0 [(55, .slice a54 (List.length out) c55), (6, .slice a54 (List.length out) c55), (7, .bool true)] 3 rfl rfl ?_
  refine LP_end _ rfl ?_
  refine W_ret ?_
  exact ⟨_, Ret_of [.slice a54 (List.length out) c55, .bool true] ⟨⟨rfl, rfl⟩, ⟨rfl, rfl⟩, trivial⟩, _, _, _, _, H, rfl, X60.ext, o43, ex44, f45⟩

set_option maxRecDepth 8000 in
set_option maxHeartbeats 4000000 in
theorem impl_involvedIn_w (sx : List Variable) (ex1 : Edit) (Q : (List Int) → Prop) (H : impl_involvedIn sx ex1 Q) (w : World) {vx : Value} {hx : PH} (r : RS hx vx sx) (ex : Sub hx w) {vx2 : Value} {hx3 : PH} (r4 : RS hx3 vx2 ex1.Sets) (ex5 : Sub hx3 w) :
    CallsTo Try.prog 127 #[vx, .agg #[vx2]] w fun v w' => ∃ r0 u0 g0, Q r0 ∧ v = u0 ∧ Ext w w' ∧ OS 3 g0 emp u0 r0 ∧ Sub g0 w' ∧ Fresh w.heap.size g0 := by
  obtain ⟨a, c, rfl⟩ := r.shape
  obtain ⟨a6, c7, rfl⟩ := r4.shape
  refine enter (args := [.slice a (List.length sx) c, .agg #[.slice a6 (List.length ex1.Sets) c7]]) 29 Try.func127 rfl rfl rfl ?_
  refine W_forget [(0, .slice a (List.length sx) c), (1, .agg #[.slice a6 (List.length ex1.Sets) c7])] ⟨rfl, rfl, trivial⟩ fun ρ => ?_
  have X := But.refl emp w
  refine W_seq ?_
  refine W_region ?_
  refine LP_box 0 (cs := [.slice a6 (List.length ex1.Sets) c7]) rfl rfl rfl rfl rfl fun b wx x ex8 f => ?_
  refine LP_ev ok 1 [(4, .slice none 0 0)] 2 rfl rfl ?_
  refine LP_end _ rfl ?_
  refine W_seq ?_
  refine W_region ?_
  refine LP_ev ok 0 [(5, .slice none 0 0)] 1 rfl rfl ?_
  refine LP_end _ rfl ?_
  refine W_seq ?_
  refine W_seq ?_
  refine W_region ?_
  refine LP_ev ok 0 [(8, .pointer (some ⟨b, 0, none⟩))] 1 rfl rfl ?_
  refine LP_ldbox 1 (v := .slice a6 (List.length ex1.Sets) c7) rfl rfl rfl ti_24 ag_24 (fun _ => rfl) rfl ex8 rfl rfl ?_
  refine LP_ev ok 2 [(10, I (ln ex1.Sets)), (11, I 0)] 4 rfl rfl ?_
  refine LP_end _ rfl ?_
  refine W_block ?_
  have X21 := (X.stepx x)
  have ex22 := (ex.ext x)
  have ex23 := (ex5.ext x)
  obtain ⟨J, m, Hx, H⟩ := H
  refine W_loop (S := (List Int) × Int) (fun s ρ' w' => J s.1 s.2 ∧ ∃ (ρ : Env) (vx9 : Value) (hx10 : PH), ρ' = setAll [(0, .slice a (List.length sx) c), (5, vx9), (9, .slice a6 (List.length ex1.Sets) c7), (10, I (ln ex1.Sets)), (11, I s.2)] ρ ∧ But emp w w' ∧ OS 3 hx10 emp vx9 s.1 ∧ Sub hx10 w' ∧ Fresh w.heap.size hx10 ∧ Sub hx w' ∧ Sub hx3 w' ∧ Dj hx10 hx ∧ Dj hx10 hx3) (fun s => m s.1 s.2) ([], 0) ⟨Hx, _, .slice none 0 0, emp, env_eq ⟨rfl, rfl, rfl, rfl, rfl, trivial⟩, X21, OS.nil, (emp_sub _), (emp_fresh _), ex22, ex23, (fun _ => .inl rfl), (fun _ => .inl rfl)⟩ ?_
  rintro ⟨vars, x13⟩ _ wx14 ⟨Hi, ρ, vx9, hx10, rfl, X20, o, ex11, f12, ex15, ex16, d, d19⟩
  have H := H vars x13 Hi
  obtain ⟨a17, c18, rfl⟩ := o.shape
  refine W_seq ?_
  refine W_region ?_
  refine LP_ev ok 0 [(12, .bool (decide (x13 < (ln ex1.Sets))))] 1 rfl rfl ?_
  refine LP_end _ rfl ?_
  refine W_seq ?_
  refine W_cond (decide (x13 < (ln ex1.Sets))) rfl (fun hc => ?_) (fun hc => ?_)
  · have H := H.1 hc
    refine W_skip ?_
    obtain ⟨k, hk, H⟩ := jn_elim H
    refine W_join2 (S := (List Int)) (fun s ρ' w' => k s ∧ ∃ (ρ : Env) (vx25 : Value) (hx26 : PH), ρ' = setAll [(0, .slice a (List.length sx) c), (5, vx25), (9, .slice a6 (List.length ex1.Sets) c7), (10, I (ln ex1.Sets)), (11, I x13)] ρ ∧ But emp w w' ∧ OS 3 hx26 emp vx25 s ∧ Sub hx26 w' ∧ Fresh w.heap.size hx26 ∧ Sub hx w' ∧ Sub hx3 w' ∧ Dj hx26 hx ∧ Dj hx26 hx3) ?_ ?_
    · refine W_block ?_
      refine W_seq ?_
      refine W_region ?_
      refine LP_ev ok 0 [(13, I x13)] 1 rfl rfl ?_
      obtain ⟨x38, hi, hx39, H⟩ := H
      refine LP_index 1 rfl rfl rfl Try.underlying24 ti_3 rfl rfl r4 hi hx39 fun a40 cs r41 d42 => ?_
      refine LP_load 2 rfl rfl rfl ti_3 ag_3 rfl r41 d42 ex16 fun vx43 r44 => ?_
      obtain rfl := r44.int
      refine LP_ev ok 3 [(6, I x13), (7, I x38)] 5 rfl rfl ?_
      refine LP_end _ rfl ?_
      refine W_seq ?_
      refine W_region ?_
      refine LP_ev ok 0 [(16, I x38), (17, .slice a (List.length sx) c), (18, I x13)] 3 rfl rfl ?_
      obtain ⟨x45, hi46, hx47, H⟩ := H
      refine LP_index 3 rfl rfl rfl Try.underlying29 ti_107 rfl rfl r hi46 hx47 fun a48 cs49 r50 d51 => ?_
      refine LP_load 4 rfl rfl rfl ti_107 ag_107 rfl r50 d51 ex15 fun vx52 r53 => ?_
      obtain rfl := Variable_rv r53
      refine LP_call 5 rfl rfl rfl cal_172 rfl (impl_fullSet_w _ _ H wx14 ) ?_
      rintro _ wx55 ⟨r54, H, rfl, x56⟩
      refine LP_ev ok 6 [(22, .bool (x38 != r54))] 7 rfl rfl ?_
      refine LP_end _ rfl ?_
      refine W_cond (x38 != r54) rfl (fun hc57 => ?_) (fun hc57 => ?_)
      · have H := H.1 hc57
        refine W_region ?_
        refine LP_ev ok 0 [(23, .slice a17 (List.length vars) c18), (24, I x13)] 2 rfl rfl ?_
        refine LP_lit (α := Int) (g := emp) 2 (vs := [I x13]) (xs := [x13]) rfl rfl rfl Try.underlying24 ti_3 rfl rfl ⟨⟨_, rfl, rfl⟩, trivial⟩ rfl rfl fun hx58 vx59 wx60 x61 o62 ex63 f64 => ?_
        obtain ⟨a65, c66, rfl⟩ := o62.shape
        have ex67 := ((ex11.ext x56).ext x61)
        obtain ⟨hb, H⟩ := H
        refine LP_appendf (α := Int) 3 rfl rfl rfl Try.underlying24 ti_3 rfl rfl rfl o ex67 o62.readf ex63 (by first | omega | (simp only [ln] at *; omega)) (by first | omega | (simp only [ln] at *; omega)) fun hx68 vx69 wx70 o71 ex72 y dm => ?_
        obtain ⟨a73, c74, rfl⟩ := o71.shape
        refine LP_ev ok 4 [(5, .slice a73 (List.length (vars ++ ([x13]))) c74)] 5 rfl rfl ?_
        refine LP_end _ rfl ?_
        have X75 := (((X20.stepx x56).stepx x61).step y (f12.dom _))
        have X77 := ((X20.stepx x56).stepx x61)
        have f76 := dm.fresh f12 X77.size
        have ex78 := (((ex15.ext x56).ext x61).but y d)
        have ex79 := (((ex16.ext x56).ext x61).but y d19)
        have ex80 := ((ex15.ext x56).ext x61)
        have ex81 := ((ex16.ext x56).ext x61)
        exact ⟨vars ++ ([x13]), H, _, .slice a73 (List.length (vars ++ ([x13]))) c74, hx68, env_eq ⟨rfl, rfl, rfl, rfl, rfl, trivial⟩, X75, o71, ex72, f76, ex78, ex79, (DomLe.dj dm d ex80), (DomLe.dj dm d19 ex81)⟩
      have H := H.2 hc57
      refine W_skip ?_
      have X82 := (X20.stepx x56)
      have ex83 := (ex11.ext x56)
      have ex84 := (ex15.ext x56)
      have ex85 := (ex16.ext x56)
      exact ⟨vars, H, _, .slice a17 (List.length vars) c18, hx10, env_eq ⟨rfl, rfl, rfl, rfl, rfl, trivial⟩, X82, o, ex83, f12, ex84, ex85, d, d19⟩
    rintro vars24 _ wx30 ⟨H, ρ, vx25, hx26, rfl, X37, o27, ex28, f29, ex31, ex32, d35, d36⟩
    subst hk
    obtain ⟨a33, c34, rfl⟩ := o27.shape
    refine W_region ?_
    refine LP_ev ok 0 [(27, I (wr (x13 + 1))), (11, I (wr (x13 + 1)))] 2 rfl rfl ?_
    refine LP_end _ rfl ?_
    exact ⟨(vars24, wr (x13 + 1)), ⟨H.1, _, .slice a33 (List.length vars24) c34, hx26, env_eq ⟨rfl, rfl, rfl, rfl, rfl, trivial⟩, X37, o27, ex28, f29, ex31, ex32, d35, d36⟩, H.2⟩
  have H := H.2 hc
  refine W_exit ?_
  refine (if_pos rfl).mpr ?_
  refine W_seq ?_
  refine W_region ?_
  refine LP_ev ok 0 [(28, .slice a17 (List.length vars) c18), (4, .slice a17 (List.length vars) c18)] 2 rfl rfl ?_
  refine LP_end _ rfl ?_
  refine W_ret ?_
  exact ⟨_, Ret_of [.slice a17 (List.length vars) c18] ⟨⟨rfl, rfl⟩, trivial⟩, _, _, _, H, rfl, X20.ext, o, ex11, f12⟩

end Go.Proofs.Ytdnpmgofkbjigaa
