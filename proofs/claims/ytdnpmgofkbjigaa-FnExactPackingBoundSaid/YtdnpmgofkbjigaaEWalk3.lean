/- The walks, further. -/
import Derived.Test.YtdnpmgofkbjigaaEWalk2
set_option linter.unusedVariables false
set_option autoImplicit false
namespace Go.Proofs.Ytdnpmgofkbjigaa
open Go Go.RowKit Go.Gv

open Go.Proofs
set_option maxRecDepth 8000 in
set_option maxHeartbeats 4000000 in
theorem impl_EditsOnly_w (sx : List Variable) (l : List Edit) (vars : List Int) (Q : (List Edit) → Bool → Prop) (H : impl_EditsOnly sx l vars Q) (w : World) {vx : Value} {hx : PH} (r : RS hx vx sx) (ex : Sub hx w) {vx1 : Value} {hx2 : PH} (r3 : RS hx2 vx1 l) (ex4 : Sub hx2 w) {vx7 : Value} {hx8 : PH} (r9 : RS hx8 vx7 vars) (ex10 : Sub hx8 w) :
    CallsTo Try.prog 57 #[vx, vx1, vx7] w fun v w' => ∃ r0 r1 u0 g0, Q r0 r1 ∧ v = .tuple #[u0, .bool r1] ∧ Ext w w' ∧ OD g0 u0 r0 ∧ Sub g0 w' ∧ Fresh w.heap.size g0 := by
  obtain ⟨a, c, rfl⟩ := r.shape
  obtain ⟨a5, c6, rfl⟩ := r3.shape
  obtain ⟨a11, c12, rfl⟩ := r9.shape
  refine enter (args := [.slice a (List.length sx) c, .slice a5 (List.length l) c6, .slice a11 (List.length vars) c12]) 59 Try.func57 rfl rfl rfl ?_
  refine W_forget [(0, .slice a (List.length sx) c), (1, .slice a5 (List.length l) c6), (2, .slice a11 (List.length vars) c12)] ⟨rfl, rfl, rfl, trivial⟩ fun ρ => ?_
  have X := But.refl emp w
  refine W_seq ?_
  refine W_region ?_
  refine LP_ev ok 0 [(6, .slice none 0 0), (7, .bool false)] 2 rfl rfl ?_
  refine LP_end _ rfl ?_
  refine W_seq ?_
  obtain ⟨k, hk, H⟩ := jn_elim H
  refine W_join2 (S := Bool) (fun s ρ' w' => k s ∧ ∃ (ρ : Env), ρ' = setAll [(0, .slice a (List.length sx) c), (1, .slice a5 (List.length l) c6), (2, .slice a11 (List.length vars) c12), (28, .bool s)] ρ ∧ But emp w w' ∧ Sub hx w' ∧ Sub hx2 w' ∧ Sub hx8 w') ?_ ?_
  · refine W_region ?_
    refine LP_ev ok 0 [(14, .slice a (List.length sx) c)] 1 rfl rfl ?_
    refine LP_call 1 rfl rfl rfl cal_86 rfl (impl_isSmall_w _ _ H w r ex) ?_
    rintro _ wx18 ⟨r17, H, rfl, x19⟩
    refine LP_ev ok 2 [(16, .bool (!r17)), (17, .bool (!r17))] 4 rfl rfl ?_
    refine LP_split 17 (!r17) rfl (fun hc => ?_) (fun hc => ?_)
    · have H := H.1 hc
      refine LP_ev ok 4 [(18, undef), (19, undef), (20, undef), (21, undef), (22, .bool true), (23, .bool true), (24, undef), (25, undef), (26, undef), (27, undef), (28, .bool true)] 15 rfl rfl ?_
      refine LP_end _ rfl ?_
      have X20 := (X.stepx x19)
      have ex21 := (ex.ext x19)
      have ex22 := (ex4.ext x19)
      have ex23 := (ex10.ext x19)
      exact ⟨true, H, _, env_eq ⟨rfl, rfl, rfl, rfl, trivial⟩, X20, ex21, ex22, ex23⟩
    have H := H.2 hc
    refine LP_ev ok 4 [(18, .slice a (List.length sx) c), (19, .slice a5 (List.length l) c6)] 6 rfl rfl ?_
    have ex25 := (ex.ext x19)
    have ex26 := (ex4.ext x19)
    refine LP_call 6 rfl rfl rfl cal_87 rfl (impl_areEdits_w _ _ _ H wx18 r ex25 r3 ex26) ?_
    rintro _ wx27 ⟨r24, H, rfl, x28⟩
    refine LP_ev ok 7 [(21, .bool (!r24)), (22, .bool (!r24)), (23, .bool (!r24))] 10 rfl rfl ?_
    refine LP_split 23 (!r24) rfl (fun hc29 => ?_) (fun hc29 => ?_)
    · have H := H.1 hc29
      refine LP_ev ok 10 [(24, undef), (25, undef), (26, undef), (27, undef), (28, .bool true)] 15 rfl rfl ?_
      refine LP_end _ rfl ?_
      have X30 := ((X.stepx x19).stepx x28)
      have ex31 := (ex25.ext x28)
      have ex32 := (ex26.ext x28)
      have ex33 := ((ex10.ext x19).ext x28)
      exact ⟨true, H, _, env_eq ⟨rfl, rfl, rfl, rfl, trivial⟩, X30, ex31, ex32, ex33⟩
    have H := H.2 hc29
    refine LP_ev ok 10 [(24, .slice a (List.length sx) c), (25, .slice a11 (List.length vars) c12)] 12 rfl rfl ?_
    have ex35 := (ex25.ext x28)
    have ex36 := ((ex10.ext x19).ext x28)
    refine LP_call 12 rfl rfl rfl cal_89 rfl (impl_areVars_w _ _ _ H wx27 r ex35 r9 ex36) ?_
    rintro _ wx37 ⟨r34, H, rfl, x38⟩
    refine LP_ev ok 13 [(27, .bool (!r34)), (28, .bool (!r34))] 15 rfl rfl ?_
    refine LP_end _ rfl ?_
    have X39 := (((X.stepx x19).stepx x28).stepx x38)
    have ex40 := (ex35.ext x38)
    have ex41 := ((ex26.ext x28).ext x38)
    have ex42 := (ex36.ext x38)
    exact ⟨!r34, H, _, env_eq ⟨rfl, rfl, rfl, rfl, trivial⟩, X39, ex40, ex41, ex42⟩
  rintro x _ wx ⟨H, ρ, rfl, X16, ex13, ex14, ex15⟩
  subst hk
  refine W_cond (x) rfl (fun hc43 => ?_) (fun hc43 => ?_)
  · have H := H.1 hc43
    refine W_seq ?_
    refine W_region ?_
    refine LP_ev ok 0 [(6, .slice none 0 0), (7, .bool false)] 2 rfl rfl ?_
    refine LP_end _ rfl ?_
    refine W_ret ?_
    exact ⟨_, Ret_of [.slice none 0 0, .bool false] ⟨⟨rfl, rfl⟩, ⟨rfl, rfl⟩, trivial⟩, _, _, _, emp, H, rfl, X16.ext, OD.nil, (emp_sub _), (emp_fresh _)⟩
  have H := H.2 hc43
  refine W_skip ?_
  refine W_seq ?_
  refine W_region ?_
  refine LP_ev ok 0 [(8, .slice none 0 0)] 1 rfl rfl ?_
  refine LP_end _ rfl ?_
  refine W_seq ?_
  refine W_seq ?_
  refine W_region ?_
  refine LP_ev ok 0 [(29, .slice a (List.length sx) c), (30, .slice a5 (List.length l) c6)] 2 rfl rfl ?_
  refine LP_call 2 rfl rfl rfl cal_95 rfl (impl_maximalEdits_w _ _ _ _ H wx r ex13 r3 ex14) ?_
  rintro _ wx45 ⟨r44, vx47, hx48, H, rfl, x46, o, ex49, f⟩
  obtain ⟨a50, c51, rfl⟩ := o.shape
  refine LP_ev ok 3 [(32, I (ln r44)), (33, I 0)] 5 rfl rfl ?_
  refine LP_end _ rfl ?_
  refine W_block ?_
  have X72 := (X16.stepx x46)
  have f73 := f.mono X16.size
  have ex74 := (ex13.ext x46)
  have ex75 := (ex15.ext x46)
  obtain ⟨J, m, Hx, H⟩ := H
  refine W_loop (S := (List Edit) × Int) (fun s ρ' w' => J s.1 s.2 ∧ ∃ (ρ : Env) (vx52 : Value) (hx53 : PH) (hx57 : PH), ρ' = setAll [(0, .slice a (List.length sx) c), (2, .slice a11 (List.length vars) c12), (8, vx52), (31, .slice a50 (List.length r44) c51), (32, I (ln r44)), (33, I s.2)] ρ ∧ But emp w w' ∧ OD hx53 vx52 s.1 ∧ Sub hx53 w' ∧ Fresh w.heap.size hx53 ∧ DR hx57 (.slice a50 (List.length r44) c51) r44 (Int.toNat s.2) ∧ Sub hx57 w' ∧ Fresh w.heap.size hx57 ∧ Sub hx w' ∧ Sub hx8 w' ∧ Dj hx53 hx ∧ Dj hx53 hx8 ∧ Dj hx57 hx ∧ Dj hx57 hx8 ∧ Dj hx57 hx53) (fun s => m s.1 s.2) ([], 0) ⟨Hx, _, .slice none 0 0, emp, hx48, env_eq ⟨rfl, rfl, rfl, rfl, rfl, rfl, trivial⟩, X72, OD.nil, (emp_sub _), (emp_fresh _), (OD.drain o), ex49, f73, ex74, ex75, (fun _ => .inl rfl), (fun _ => .inl rfl), (Dj.of_fresh ex13 f).symm, (Dj.of_fresh ex15 f).symm, (fun _ => .inr rfl)⟩ ?_
  rintro ⟨out, x61⟩ _ wx62 ⟨Hi, ρ, vx52, hx53, hx57, rfl, X71, o54, ex55, f56, o58, ex59, f60, ex63, ex64, d, d67, d68, d69, d70⟩
  have H := H out x61 Hi
  obtain ⟨a65, c66, rfl⟩ := o54.shape
  refine W_seq ?_
  refine W_region ?_
  refine LP_ev ok 0 [(34, .bool (decide (x61 < (ln r44))))] 1 rfl rfl ?_
  refine LP_end _ rfl ?_
  refine W_seq ?_
  refine W_cond (decide (x61 < (ln r44))) rfl (fun hc76 => ?_) (fun hc76 => ?_)
  · have H := H.1 hc76
    refine W_skip ?_
    obtain ⟨k98, hk99, H⟩ := jn_elim H
    refine W_join2 (S := (List Edit)) (fun s ρ' w' => k98 s ∧ ∃ (ρ : Env) (vx78 : Value) (hx79 : PH) (hx83 : PH), ρ' = setAll [(0, .slice a (List.length sx) c), (2, .slice a11 (List.length vars) c12), (8, vx78), (31, .slice a50 (List.length r44) c51), (32, I (ln r44)), (33, I x61)] ρ ∧ But emp w w' ∧ OD hx79 vx78 s ∧ Sub hx79 w' ∧ Fresh w.heap.size hx79 ∧ DR hx83 (.slice a50 (List.length r44) c51) r44 (Int.toNat (wr (x61 + 1))) ∧ Sub hx83 w' ∧ Fresh w.heap.size hx83 ∧ Sub hx w' ∧ Sub hx8 w' ∧ Dj hx79 hx ∧ Dj hx79 hx8 ∧ Dj hx83 hx ∧ Dj hx83 hx8 ∧ Dj hx83 hx79) ?_ ?_
    · refine W_block ?_
      refine W_seq ?_
      refine W_region ?_
      obtain ⟨x100, hi, hx101, H⟩ := H
      refine LP_indexT (v := .slice a50 (List.length r44) c51) 0 rfl rfl rfl Try.underlying31 ti_50 rfl rfl o58 hi hx101 fun a102 c103 hx104 hx105 r106 ow o107 d108 l109 l110 => ?_
      have ex111 := Sub.le ex59 l109
      have ex112 := Sub.le ex59 l110
      obtain ⟨u, rfl, o113⟩ := Edit_tk ow
      obtain ⟨a114, c115, rfl⟩ := o113.shape
      have o116 : OS 3 hx104 emp (.slice a114 (List.length x100.Sets) c115) x100.Sets := OD.flat o113
      refine LP_ldpart (off := 0) 1 (v := .agg #[.slice a114 (List.length x100.Sets) c115]) rfl rfl rfl ti_50 ag_50 (fun h => by cases h) rfl r106 ex112 rfl rfl ?_
      refine LP_alloc 2 rfl rfl rfl ti_50 rfl fun b wx117 x118 ex119 f120 => ?_
      refine LP_stbox 3 (vs := [.slice a114 (List.length x100.Sets) c115]) (cs' := [.slice a114 (List.length x100.Sets) c115]) rfl rfl rfl ti_50 rfl rfl rfl rfl rfl ex119 rfl rfl fun wx121 ex122 y => ?_
      refine LP_end _ rfl ?_
      refine W_seq ?_
      refine W_region ?_
      refine LP_ev ok 0 [(11, .bool true)] 1 rfl rfl ?_
      refine LP_end _ rfl ?_
      refine W_seq ?_
      refine W_seq ?_
      refine W_region ?_
      refine LP_ev ok 0 [(37, .slice a (List.length sx) c)] 1 rfl rfl ?_
      refine LP_ldbox 1 (v := .agg #[.slice a114 (List.length x100.Sets) c115]) rfl rfl rfl ti_50 ag_50 (fun h => by cases h) rfl ex122 rfl rfl ?_
      have ex124 := ((ex63.ext x118).but y (Dj.of_fresh ex63 f120).symm)
      have ex125 := ((ex111.ext x118).but y (Dom.dj (Dom.of_le l109) (Dj.of_fresh ex59 f120)).symm)
      refine LP_call 2 rfl rfl rfl cal_127 rfl (impl_involvedIn_w _ _ _ H wx121 r ex124 o116.readf ex125) ?_
      rintro _ wx126 ⟨r123, vx128, hx129, H, rfl, x127, o130, ex131, f132⟩
      obtain ⟨a133, c134, rfl⟩ := o130.shape
      refine LP_ev ok 3 [(40, I (ln r123)), (41, I 0)] 5 rfl rfl ?_
      refine LP_end _ rfl ?_
      refine W_block ?_
      have f148 := f120.mono X71.size
      have X149 := (((X71.stepx x118).step y (f148.dom _)).stepx x127)
      have ex150 := (ex124.ext x127)
      have ex151 := (((ex64.ext x118).but y (Dj.of_fresh ex64 f120).symm).ext x127)
      have ex152 := (((ex112.ext x118).but y (Dom.dj (Dom.of_le l110) (Dj.of_fresh ex59 f120)).symm).ext x127)
      have ex153 := (((ex55.ext x118).but y (Dj.of_fresh ex55 f120).symm).ext x127)
      have ex154 := (ex125.ext x127)
      have ex155 := (ex122.ext x127)
      obtain ⟨J145, m146, Hx147, H⟩ := H
      refine W_loop (S := Bool × Int) (fun s ρ' w' => J145 s.1 s.2 ∧ ∃ (ρ : Env), ρ' = setAll [(0, .slice a (List.length sx) c), (2, .slice a11 (List.length vars) c12), (8, .slice a65 (List.length out) c66), (10, .pointer (some ⟨b, 0, none⟩)), (11, .bool s.1), (31, .slice a50 (List.length r44) c51), (32, I (ln r44)), (33, I x61), (39, .slice a133 (List.length r123) c134), (40, I (ln r123)), (41, I s.2)] ρ ∧ But emp w w' ∧ Sub hx w' ∧ Sub hx8 w' ∧ Sub hx105 w' ∧ Sub hx53 w' ∧ Sub hx104 w' ∧ Sub (bx b 50 [.slice a114 (List.length x100.Sets) c115]) w' ∧ Sub hx129 w') (fun s => m146 s.1 s.2) (true, 0) ⟨Hx147, _, env_eq ⟨rfl, rfl, rfl, rfl, rfl, rfl, rfl, rfl, rfl, rfl, rfl, trivial⟩, X149, ex150, ex151, ex152, ex153, ex154, ex155, ex131⟩ ?_
      rintro ⟨only, x135⟩ _ wx136 ⟨Hi, ρ, rfl, X144, ex137, ex138, ex139, ex140, ex141, ex142, ex143⟩
      have H := H only x135 Hi
      refine W_seq ?_
      refine W_region ?_
      refine LP_ev ok 0 [(42, .bool (decide (x135 < (ln r123))))] 1 rfl rfl ?_
      refine LP_end _ rfl ?_
      refine W_seq ?_
      refine W_cond (decide (x135 < (ln r123))) rfl (fun hc157 => ?_) (fun hc157 => ?_)
      · have H := H.1 hc157
        refine W_skip ?_
        obtain ⟨k168, hk169, H⟩ := jn_elim H
        refine W_join2 (S := Bool) (fun s ρ' w' => k168 s ∧ ∃ (ρ : Env), ρ' = setAll [(0, .slice a (List.length sx) c), (2, .slice a11 (List.length vars) c12), (8, .slice a65 (List.length out) c66), (10, .pointer (some ⟨b, 0, none⟩)), (11, .bool s), (31, .slice a50 (List.length r44) c51), (32, I (ln r44)), (33, I x61), (39, .slice a133 (List.length r123) c134), (40, I (ln r123)), (41, I x135)] ρ ∧ But emp w w' ∧ Sub hx w' ∧ Sub hx8 w' ∧ Sub hx105 w' ∧ Sub hx53 w' ∧ Sub hx104 w' ∧ Sub (bx b 50 [.slice a114 (List.length x100.Sets) c115]) w' ∧ Sub hx129 w') ?_ ?_
        · refine W_block ?_
          refine W_seq ?_
          refine W_region ?_
          obtain ⟨x170, hi171, hx172, H⟩ := H
          refine LP_index 0 rfl rfl rfl Try.underlying24 ti_3 rfl rfl o130.readf hi171 hx172 fun a173 cs r174 d175 => ?_
          refine LP_load 1 rfl rfl rfl ti_3 ag_3 rfl r174 d175 ex143 fun vx176 r177 => ?_
          obtain rfl := r177.int
          refine LP_ev ok 2 [(13, I x170)] 3 rfl rfl ?_
          refine LP_end _ rfl ?_
          refine W_region ?_
          refine LP_ev ok 0 [(45, .bool only), (46, .bool only)] 2 rfl rfl ?_
          refine LP_split 46 (only) rfl (fun hc178 => ?_) (fun hc178 => ?_)
          · have H := H.1 hc178
            refine LP_ev ok 2 [(47, .slice a11 (List.length vars) c12), (48, I x170)] 4 rfl rfl ?_
            refine LP_call 4 rfl rfl rfl cal_128 rfl (slices_Contains_int_int_w _ _ _ H wx136 r9 ex138) ?_
            rintro _ wx180 ⟨r179, H, rfl, x181⟩
            refine LP_ev ok 5 [(50, .bool r179), (11, .bool r179)] 7 rfl rfl ?_
            refine LP_end _ rfl ?_
            have X182 := (X144.stepx x181)
            have ex183 := (ex137.ext x181)
            have ex184 := (ex138.ext x181)
            have ex185 := (ex139.ext x181)
            have ex186 := (ex140.ext x181)
            have ex187 := (ex141.ext x181)
            have ex188 := (ex142.ext x181)
            have ex189 := (ex143.ext x181)
            exact ⟨r179, H, _, env_eq ⟨rfl, rfl, rfl, rfl, rfl, rfl, rfl, rfl, rfl, rfl, rfl, trivial⟩, X182, ex183, ex184, ex185, ex186, ex187, ex188, ex189⟩
          have H := H.2 hc178
          refine LP_ev ok 2 [(47, undef), (48, undef), (49, undef), (50, .bool false), (11, .bool false)] 7 rfl rfl ?_
          refine LP_end _ rfl ?_
          exact ⟨false, H, _, env_eq ⟨rfl, rfl, rfl, rfl, rfl, rfl, rfl, rfl, rfl, rfl, rfl, trivial⟩, X144, ex137, ex138, ex139, ex140, ex141, ex142, ex143⟩
        rintro only158 _ wx159 ⟨H, ρ, rfl, X167, ex160, ex161, ex162, ex163, ex164, ex165, ex166⟩
        subst hk169
        refine W_region ?_
        refine LP_ev ok 0 [(51, I (wr (x135 + 1))), (41, I (wr (x135 + 1)))] 2 rfl rfl ?_
        refine LP_end _ rfl ?_
        exact ⟨(only158, wr (x135 + 1)), ⟨H.1, _, env_eq ⟨rfl, rfl, rfl, rfl, rfl, rfl, rfl, rfl, rfl, rfl, rfl, trivial⟩, X167, ex160, ex161, ex162, ex163, ex164, ex165, ex166⟩, H.2⟩
      have H := H.2 hc157
      refine W_exit ?_
      refine (if_pos rfl).mpr ?_
      refine W_seq ?_
      refine W_region ?_
      refine LP_ev ok 0 [(52, .bool only)] 1 rfl rfl ?_
      refine LP_end _ rfl ?_
      refine W_cond (only) rfl (fun hc190 => ?_) (fun hc190 => ?_)
      · have H := H.1 hc190
        refine W_region ?_
        refine LP_ev ok 0 [(53, .slice a65 (List.length out) c66)] 1 rfl rfl ?_
        refine LP_ldbox 1 (v := .agg #[.slice a114 (List.length x100.Sets) c115]) rfl rfl rfl ti_50 ag_50 (fun h => by cases h) rfl ex142 rfl rfl ?_
        have rv : RVO hx104 (.agg #[.slice a114 (List.length x100.Sets) c115]) ((Edit.mk x100.Sets) : Edit) := ⟨_, ⟨_, rfl, (OS.od o116)⟩, rfl⟩
        refine LP_litD (α := Edit) 2 (vs := [.agg #[.slice a114 (List.length x100.Sets) c115]]) (xs := [((Edit.mk x100.Sets) : Edit)]) rfl rfl rfl Try.underlying31 ti_50 rfl rfl (allO.one rv) ex141 rfl rfl fun hx191 vx192 wx193 x194 o195 ex196 dm => ?_
        obtain ⟨a197, c198, rfl⟩ := o195.shape
        have ex199 := (ex140.ext x194)
        obtain ⟨hb, H⟩ := H
        refine LP_appendD (α := Edit) 3 rfl rfl rfl Try.underlying31 ti_50 rfl rfl rfl o54 ex199 o195 ex196 (DomLe.dj dm (Dom.dj (Dom.of_le l109) d70) ex140).symm (by first | omega | (simp only [ln] at *; omega)) (by first | omega | (simp only [ln] at *; omega)) fun hx200 vx201 wx202 hw o203 ex204 y205 dh dm206 => ?_
        obtain ⟨a207, c208, rfl⟩ := o203.shape
        refine LP_ev ok 4 [(8, .slice a207 (List.length (out ++ ([((Edit.mk x100.Sets) : Edit)]))) c208)] 5 rfl rfl ?_
        refine LP_end _ rfl ?_
        have X209 := ((X144.stepx x194).step (But.dom y205 dh) (f56.dom _))
        have f210 := Fresh.domOf f60 (Dom.of_le l109)
        have f211 := DomLe.fresh dm f210 X144.size
        have X213 := (X144.stepx x194)
        have f212 := DomLe.fresh dm206 (Fresh.un f56 f211) X213.size
        have ex214 := ((ex139.ext x194).but (But.dom y205 dh) (Dom.dj (Dom.of_le l110) d70).symm)
        have f215 := Fresh.domOf f60 (Dom.of_le l110)
        have ex216 := ((ex137.ext x194).but (But.dom y205 dh) d)
        have ex217 := ((ex138.ext x194).but (But.dom y205 dh) d67)
        have ex218 := (ex137.ext x194)
        have ex219 := (ex138.ext x194)
        have ex220 := (ex139.ext x194)
        exact ⟨out ++ ([((Edit.mk x100.Sets) : Edit)]), H, _, .slice a207 (List.length (out ++ ([((Edit.mk x100.Sets) : Edit)]))) c208, hx200, hx105, env_eq ⟨rfl, rfl, rfl, rfl, rfl, rfl, trivial⟩, X209, o203, ex204, f212, o107, ex214, f215, ex216, ex217, (DomLe.dj dm206 (Dj.un_l d (DomLe.dj dm (Dom.dj (Dom.of_le l109) d68) ex137)) ex218), (DomLe.dj dm206 (Dj.un_l d67 (DomLe.dj dm (Dom.dj (Dom.of_le l109) d69) ex138)) ex219), (Dom.dj (Dom.of_le l110) d68), (Dom.dj (Dom.of_le l110) d69), (DomLe.dj dm206 (Dj.un_l (Dom.dj (Dom.of_le l110) d70).symm (DomLe.dj dm d108 ex139)) ex220).symm⟩
      have H := H.2 hc190
      refine W_skip ?_
      have f221 := Fresh.domOf f60 (Dom.of_le l110)
      exact ⟨out, H, _, .slice a65 (List.length out) c66, hx53, hx105, env_eq ⟨rfl, rfl, rfl, rfl, rfl, rfl, trivial⟩, X144, o54, ex140, f56, o107, ex139, f221, ex137, ex138, d, d67, (Dom.dj (Dom.of_le l110) d68), (Dom.dj (Dom.of_le l110) d69), (Dom.dj (Dom.of_le l110) d70)⟩
    rintro out77 _ wx87 ⟨H, ρ, vx78, hx79, hx83, rfl, X97, o80, ex81, f82, o84, ex85, f86, ex88, ex89, d92, d93, d94, d95, d96⟩
    subst hk99
    obtain ⟨a90, c91, rfl⟩ := o80.shape
    refine W_region ?_
    refine LP_ev ok 0 [(57, I (wr (x61 + 1))), (33, I (wr (x61 + 1)))] 2 rfl rfl ?_
    refine LP_end _ rfl ?_
    exact ⟨(out77, wr (x61 + 1)), ⟨H.1, _, .slice a90 (List.length out77) c91, hx79, hx83, env_eq ⟨rfl, rfl, rfl, rfl, rfl, rfl, trivial⟩, X97, o80, ex81, f82, o84, ex85, f86, ex88, ex89, d92, d93, d94, d95, d96⟩, H.2⟩
  have H := H.2 hc76
  refine W_exit ?_
  refine (if_pos rfl).mpr ?_
  refine W_seq ?_
  refine W_region ?_
  refine LP_ev ok 0 [(58, .slice a65 (List.length out) c66), (6, .slice a65 (List.length out) c66), (7, .bool true)] 3 rfl rfl ?_
  refine LP_end _ rfl ?_
  refine W_ret ?_
  exact ⟨_, Ret_of [.slice a65 (List.length out) c66, .bool true] ⟨⟨rfl, rfl⟩, ⟨rfl, rfl⟩, trivial⟩, _, _, _, _, H, rfl, X71.ext, o54, ex55, f56⟩

set_option maxRecDepth 8000 in
set_option maxHeartbeats 4000000 in
theorem laws_FnExactEditsOnly_w (aS : List Variable) (aL : List Edit) (aVars : List Int) (Q : Bool → Prop) (H : laws_FnExactEditsOnly aS aL aVars Q) (w : World) {vx : Value} {hx : PH} (r : RS hx vx aS) (ex : Sub hx w) {vx1 : Value} {hx2 : PH} (r3 : RS hx2 vx1 aL) (ex4 : Sub hx2 w) {vx7 : Value} {hx8 : PH} (r9 : RS hx8 vx7 aVars) (ex10 : Sub hx8 w) :
    CallsTo Try.prog 10 #[vx, vx1, vx7] w fun v w' => ∃ r0, Q r0 ∧ v = .bool r0 ∧ Ext w w' := by
  obtain ⟨a, c, rfl⟩ := r.shape
  obtain ⟨a5, c6, rfl⟩ := r3.shape
  obtain ⟨a11, c12, rfl⟩ := r9.shape
  refine enter (args := [.slice a (List.length aS) c, .slice a5 (List.length aL) c6, .slice a11 (List.length aVars) c12]) 140 Try.func10 rfl rfl rfl ?_
  refine W_forget [(0, .slice a (List.length aS) c), (1, .slice a5 (List.length aL) c6), (2, .slice a11 (List.length aVars) c12)] ⟨rfl, rfl, rfl, trivial⟩ fun ρ => ?_
  have X := But.refl emp w
  refine W_seq ?_
  refine W_region ?_
  refine LP_ev ok 0 [(6, .bool false)] 1 rfl rfl ?_
  refine LP_end _ rfl ?_
  refine W_seq ?_
  refine W_seq ?_
  refine W_region ?_
  refine LP_ev ok 0 [(20, .slice a11 (List.length aVars) c12), (21, I (ln aVars)), (22, .bool (decide ((ln aVars) > 1048576)))] 3 rfl rfl ?_
  refine LP_end _ rfl ?_
  refine W_cond (decide ((ln aVars) > 1048576)) rfl (fun hc => ?_) (fun hc => ?_)
  · have H := H.1 hc
    refine W_seq ?_
    refine W_region ?_
    refine LP_ev ok 0 [(6, .bool true)] 1 rfl rfl ?_
    refine LP_end _ rfl ?_
    refine W_ret ?_
    exact ⟨_, Ret_of [.bool true] ⟨⟨rfl, rfl⟩, trivial⟩, _, H, rfl, X.ext⟩
  have H := H.2 hc
  refine W_skip ?_
  refine W_seq ?_
  refine W_region ?_
  refine LP_ev ok 0 [(7, I 1048576)] 1 rfl rfl ?_
  refine LP_end _ rfl ?_
  refine W_seq ?_
  refine W_region ?_
  refine LP_ev ok 0 [(23, .slice a (List.length aS) c), (24, I 1048576)] 2 rfl rfl ?_
  refine LP_call 2 rfl rfl rfl cal_14 rfl (laws_szVariableS_w _ _ _ H w r ex) ?_
  rintro _ wx ⟨r13, H, rfl, x⟩
  refine LP_ev ok 3 [(7, I r13)] 4 rfl rfl ?_
  refine LP_end _ rfl ?_
  refine W_seq ?_
  refine W_seq ?_
  refine W_region ?_
  refine LP_ev ok 0 [(26, I r13), (27, .bool (decide (r13 < 0)))] 2 rfl rfl ?_
  refine LP_end _ rfl ?_
  refine W_cond (decide (r13 < 0)) rfl (fun hc14 => ?_) (fun hc14 => ?_)
  · have H := H.1 hc14
    refine W_seq ?_
    refine W_region ?_
    refine LP_ev ok 0 [(6, .bool true)] 1 rfl rfl ?_
    refine LP_end _ rfl ?_
    refine W_ret ?_
    have X15 := (X.stepx x)
    exact ⟨_, Ret_of [.bool true] ⟨⟨rfl, rfl⟩, trivial⟩, _, H, rfl, X15.ext⟩
  have H := H.2 hc14
  refine W_skip ?_
  refine W_seq ?_
  refine W_region ?_
  refine LP_ev ok 0 [(28, .slice a5 (List.length aL) c6), (29, I r13)] 2 rfl rfl ?_
  have ex17 := (ex4.ext x)
  refine LP_call 2 rfl rfl rfl cal_15 rfl (laws_szEditS_w _ _ _ H wx r3 ex17) ?_
  rintro _ wx18 ⟨r16, H, rfl, x19⟩
  refine LP_ev ok 3 [(7, I r16)] 4 rfl rfl ?_
  refine LP_end _ rfl ?_
  refine W_seq ?_
  refine W_seq ?_
  refine W_region ?_
  refine LP_ev ok 0 [(31, I r16), (32, .bool (decide (r16 < 0)))] 2 rfl rfl ?_
  refine LP_end _ rfl ?_
  refine W_cond (decide (r16 < 0)) rfl (fun hc20 => ?_) (fun hc20 => ?_)
  · have H := H.1 hc20
    refine W_seq ?_
    refine W_region ?_
    refine LP_ev ok 0 [(6, .bool true)] 1 rfl rfl ?_
    refine LP_end _ rfl ?_
    refine W_ret ?_
    have X21 := ((X.stepx x).stepx x19)
    exact ⟨_, Ret_of [.bool true] ⟨⟨rfl, rfl⟩, trivial⟩, _, H, rfl, X21.ext⟩
  have H := H.2 hc20
  refine W_skip ?_
  refine W_seq ?_
  refine W_region ?_
  refine LP_ev ok 0 [(34, .slice a (List.length aS) c)] 1 rfl rfl ?_
  have ex23 := ((ex.ext x).ext x19)
  refine LP_call 1 rfl rfl rfl cal_17 rfl (laws_toVariableS_w _ _ H wx18 r ex23) ?_
  rintro _ wx24 ⟨r22, vx26, hx27, H, rfl, x25, o, ex28, f⟩
  obtain ⟨a29, c30, rfl⟩ := o.shape
  refine LP_ev ok 2 [(36, .slice a5 (List.length aL) c6)] 3 rfl rfl ?_
  have ex32 := ((ex17.ext x19).ext x25)
  refine LP_call 3 rfl rfl rfl cal_18 rfl (laws_toEditS_w _ _ H wx24 r3 ex32) ?_
  rintro _ wx33 ⟨r31, vx35, hx36, H, rfl, x34, o37, ex38, f39⟩
  obtain ⟨a40, c41, rfl⟩ := o37.shape
  refine LP_ev ok 4 [(38, .slice a11 (List.length aVars) c12)] 5 rfl rfl ?_
  have ex43 := ((((ex10.ext x).ext x19).ext x25).ext x34)
  refine LP_call 5 rfl rfl rfl cal_19 rfl (laws_toIntS_w _ _ H wx33 r9 ex43) ?_
  rintro _ wx44 ⟨r42, vx46, hx47, H, rfl, x45, o48, ex49, f50⟩
  obtain ⟨a51, c52, rfl⟩ := o48.shape
  have ex55 := ((ex28.ext x34).ext x45)
  have ex56 := (ex38.ext x45)
  refine LP_call 6 rfl rfl rfl cal_56 rfl (spec_EditsOnly_w _ _ _ _ H wx44 o.readf ex55 o37.readf ex56 o48.readf ex49) ?_
  rintro _ wx57 ⟨r53, r54, vx59, hx60, H, rfl, x58, o61, ex62, f63⟩
  obtain ⟨a64, c65, rfl⟩ := o61.shape
  refine LP_ev ok 7 [(33, .tuple #[.slice a64 (List.length r53) c65, .bool r54]), (41, .slice a64 (List.length r53) c65), (42, .bool r54), (8, .slice a64 (List.length r53) c65), (9, .bool r54)] 12 rfl rfl ?_
  refine LP_end _ rfl ?_
  try refine W_forget [(0, .slice a (List.length aS) c), (1, .slice a5 (List.length aL) c6), (2, .slice a11 (List.length aVars) c12), (8, .slice a64 (List.length r53) c65), (9, .bool r54)] ⟨rfl, rfl, rfl, rfl, rfl, trivial⟩ fun ρ => ?_
  refine W_seq ?_
  refine W_region ?_
  refine LP_ev ok 0 [(43, .slice a (List.length aS) c)] 1 rfl rfl ?_
  have ex67 := ((((ex23.ext x25).ext x34).ext x45).ext x58)
  refine LP_call 1 rfl rfl rfl cal_17 rfl (laws_toVariableS_w _ _ H wx57 r ex67) ?_
  rintro _ wx68 ⟨r66, vx70, hx71, H, rfl, x69, o72, ex73, f74⟩
  obtain ⟨a75, c76, rfl⟩ := o72.shape
  refine LP_ev ok 2 [(10, .slice a75 (List.length r66) c76)] 3 rfl rfl ?_
  refine LP_end _ rfl ?_
  refine W_seq ?_
  refine W_region ?_
  refine LP_ev ok 0 [(45, .slice a5 (List.length aL) c6)] 1 rfl rfl ?_
  have ex78 := ((((ex32.ext x34).ext x45).ext x58).ext x69)
  refine LP_call 1 rfl rfl rfl cal_18 rfl (laws_toEditS_w _ _ H wx68 r3 ex78) ?_
  rintro _ wx79 ⟨r77, vx81, hx82, H, rfl, x80, o83, ex84, f85⟩
  obtain ⟨a86, c87, rfl⟩ := o83.shape
  refine LP_ev ok 2 [(11, .slice a86 (List.length r77) c87)] 3 rfl rfl ?_
  refine LP_end _ rfl ?_
  refine W_seq ?_
  refine W_region ?_
  refine LP_ev ok 0 [(47, .slice a11 (List.length aVars) c12)] 1 rfl rfl ?_
  have ex89 := ((((ex43.ext x45).ext x58).ext x69).ext x80)
  refine LP_call 1 rfl rfl rfl cal_19 rfl (laws_toIntS_w _ _ H wx79 r9 ex89) ?_
  rintro _ wx90 ⟨r88, vx92, hx93, H, rfl, x91, o94, ex95, f96⟩
  obtain ⟨a97, c98, rfl⟩ := o94.shape
  refine LP_ev ok 2 [(12, .slice a97 (List.length r88) c98)] 3 rfl rfl ?_
  refine LP_end _ rfl ?_
  refine W_seq ?_
  refine W_region ?_
  refine LP_ev ok 0 [(50, .slice a75 (List.length r66) c76), (51, .slice a86 (List.length r77) c87), (52, .slice a97 (List.length r88) c98)] 3 rfl rfl ?_
  have ex101 := ((ex73.ext x80).ext x91)
  have ex102 := (ex84.ext x91)
  refine LP_call 3 rfl rfl rfl cal_57 rfl (impl_EditsOnly_w _ _ _ _ H wx90 o72.readf ex101 o83.readf ex102 o94.readf ex95) ?_
  rintro _ wx103 ⟨r99, r100, vx105, hx106, H, rfl, x104, o107, ex108, f109⟩
  obtain ⟨a110, c111, rfl⟩ := o107.shape
  refine LP_ev ok 4 [(49, .tuple #[.slice a110 (List.length r99) c111, .bool r100]), (54, .slice a110 (List.length r99) c111), (55, .bool r100), (13, .slice a110 (List.length r99) c111), (14, .bool r100)] 9 rfl rfl ?_
  refine LP_end _ rfl ?_
  refine W_seq ?_
  obtain ⟨k, hk, H⟩ := jn_elim H
  refine W_join2 (S := Bool) (fun s ρ' w' => k s ∧ ∃ (ρ : Env), ρ' = setAll [(0, .slice a (List.length aS) c), (1, .slice a5 (List.length aL) c6), (2, .slice a11 (List.length aVars) c12), (8, .slice a64 (List.length r53) c65), (9, .bool r54), (10, .slice a75 (List.length r66) c76), (11, .slice a86 (List.length r77) c87), (12, .slice a97 (List.length r88) c98), (13, .slice a110 (List.length r99) c111), (14, .bool r100), (64, .bool s)] ρ ∧ But emp w w' ∧ Sub hx w' ∧ Sub hx2 w' ∧ Sub hx8 w' ∧ Sub hx60 w' ∧ Sub hx71 w' ∧ Sub hx82 w' ∧ Sub hx93 w' ∧ Sub hx106 w') ?_ ?_
  · refine W_region ?_
    refine LP_ev ok 0 [(56, .slice a110 (List.length r99) c111), (57, .slice a64 (List.length r53) c65)] 2 rfl rfl ?_
    have ex124 := ((((ex62.ext x69).ext x80).ext x91).ext x104)
    refine LP_call 2 rfl rfl rfl cal_22 rfl (laws_eqEditS_w _ _ _ H wx103 o107.readf ex108 o61.readf ex124) ?_
    rintro _ wx125 ⟨r123, H, rfl, x126⟩
    refine LP_ev ok 3 [(59, .bool (!r123)), (60, .bool (!r123))] 5 rfl rfl ?_
    refine LP_split 60 (!r123) rfl (fun hc127 => ?_) (fun hc127 => ?_)
    · have H := H.1 hc127
      refine LP_ev ok 5 [(61, undef), (62, undef), (63, undef), (64, .bool true)] 9 rfl rfl ?_
      refine LP_end _ rfl ?_
      try refine W_forget [(0, .slice a (List.length aS) c), (1, .slice a5 (List.length aL) c6), (2, .slice a11 (List.length aVars) c12), (8, .slice a64 (List.length r53) c65), (9, .bool r54), (10, .slice a75 (List.length r66) c76), (11, .slice a86 (List.length r77) c87), (12, .slice a97 (List.length r88) c98), (13, .slice a110 (List.length r99) c111), (14, .bool r100), (64, .bool true)] ⟨rfl, rfl, rfl, rfl, rfl, rfl, rfl, rfl, rfl, rfl, rfl, trivial⟩ fun ρ => ?_
      have X128 := (((((((((((X.stepx x).stepx x19).stepx x25).stepx x34).stepx x45).stepx x58).stepx x69).stepx x80).stepx x91).stepx x104).stepx x126)
      have ex129 := (((((ex67.ext x69).ext x80).ext x91).ext x104).ext x126)
      have ex130 := ((((ex78.ext x80).ext x91).ext x104).ext x126)
      have ex131 := (((ex89.ext x91).ext x104).ext x126)
      have ex132 := (ex124.ext x126)
      have ex133 := ((ex101.ext x104).ext x126)
      have ex134 := ((ex102.ext x104).ext x126)
      have ex135 := ((ex95.ext x104).ext x126)
      have ex136 := (ex108.ext x126)
      exact ⟨true, H, _, env_eq ⟨rfl, rfl, rfl, rfl, rfl, rfl, rfl, rfl, rfl, rfl, rfl, trivial⟩, X128, ex129, ex130, ex131, ex132, ex133, ex134, ex135, ex136⟩
    have H := H.2 hc127
    refine LP_ev ok 5 [(61, .bool r100), (62, .bool r54), (63, .bool (r100 != r54)), (64, .bool (r100 != r54))] 9 rfl rfl ?_
    refine LP_end _ rfl ?_
    try refine W_forget [(0, .slice a (List.length aS) c), (1, .slice a5 (List.length aL) c6), (2, .slice a11 (List.length aVars) c12), (8, .slice a64 (List.length r53) c65), (9, .bool r54), (10, .slice a75 (List.length r66) c76), (11, .slice a86 (List.length r77) c87), (12, .slice a97 (List.length r88) c98), (13, .slice a110 (List.length r99) c111), (14, .bool r100), (64, .bool (r100 != r54))] ⟨rfl, rfl, rfl, rfl, rfl, rfl, rfl, rfl, rfl, rfl, rfl, trivial⟩ fun ρ => ?_
    have X137 := (((((((((((X.stepx x).stepx x19).stepx x25).stepx x34).stepx x45).stepx x58).stepx x69).stepx x80).stepx x91).stepx x104).stepx x126)
    have ex138 := (((((ex67.ext x69).ext x80).ext x91).ext x104).ext x126)
    have ex139 := ((((ex78.ext x80).ext x91).ext x104).ext x126)
    have ex140 := (((ex89.ext x91).ext x104).ext x126)
    have ex141 := (ex124.ext x126)
    have ex142 := ((ex101.ext x104).ext x126)
    have ex143 := ((ex102.ext x104).ext x126)
    have ex144 := ((ex95.ext x104).ext x126)
    have ex145 := (ex108.ext x126)
    exact ⟨r100 != r54, H, _, env_eq ⟨rfl, rfl, rfl, rfl, rfl, rfl, rfl, rfl, rfl, rfl, rfl, trivial⟩, X137, ex138, ex139, ex140, ex141, ex142, ex143, ex144, ex145⟩
  rintro x112 _ wx113 ⟨H, ρ, rfl, X122, ex114, ex115, ex116, ex117, ex118, ex119, ex120, ex121⟩
  subst hk
  refine W_cond (x112) rfl (fun hc146 => ?_) (fun hc146 => ?_)
  · have H := H.1 hc146
    refine W_seq ?_
    refine W_region ?_
    refine LP_ev ok 0 [(6, .bool false)] 1 rfl rfl ?_
    refine LP_end _ rfl ?_
    refine W_ret ?_
    exact ⟨_, Ret_of [.bool false] ⟨⟨rfl, rfl⟩, trivial⟩, _, H, rfl, X122.ext⟩
  have H := H.2 hc146
  refine W_skip ?_
  refine W_seq ?_
  refine W_seq ?_
  refine W_region ?_
  refine LP_ev ok 0 [(65, .slice a75 (List.length r66) c76), (66, .slice a (List.length aS) c)] 2 rfl rfl ?_
  refine LP_call 2 rfl rfl rfl cal_17 rfl (laws_toVariableS_w _ _ H wx113 r ex114) ?_
  rintro _ wx148 ⟨r147, vx150, hx151, H, rfl, x149, o152, ex153, f154⟩
  obtain ⟨a155, c156, rfl⟩ := o152.shape
  have ex158 := (ex118.ext x149)
  refine LP_call 3 rfl rfl rfl cal_21 rfl (laws_eqVariableS_w _ _ _ H wx148 o72.readf ex158 o152.readf ex153) ?_
  rintro _ wx159 ⟨r157, H, rfl, x160⟩
  refine LP_ev ok 4 [(69, .bool (!r157))] 5 rfl rfl ?_
  refine LP_end _ rfl ?_
  refine W_cond (!r157) rfl (fun hc161 => ?_) (fun hc161 => ?_)
  · have H := H.1 hc161
    refine W_seq ?_
    refine W_region ?_
    refine LP_ev ok 0 [(6, .bool false)] 1 rfl rfl ?_
    refine LP_end _ rfl ?_
    refine W_ret ?_
    have X162 := ((X122.stepx x149).stepx x160)
    exact ⟨_, Ret_of [.bool false] ⟨⟨rfl, rfl⟩, trivial⟩, _, H, rfl, X162.ext⟩
  have H := H.2 hc161
  refine W_skip ?_
  refine W_seq ?_
  refine W_seq ?_
  refine W_region ?_
  refine LP_ev ok 0 [(70, .slice a86 (List.length r77) c87), (71, .slice a5 (List.length aL) c6)] 2 rfl rfl ?_
  have ex164 := ((ex115.ext x149).ext x160)
  refine LP_call 2 rfl rfl rfl cal_18 rfl (laws_toEditS_w _ _ H wx159 r3 ex164) ?_
  rintro _ wx165 ⟨r163, vx167, hx168, H, rfl, x166, o169, ex170, f171⟩
  obtain ⟨a172, c173, rfl⟩ := o169.shape
  have ex175 := (((ex119.ext x149).ext x160).ext x166)
  refine LP_call 3 rfl rfl rfl cal_22 rfl (laws_eqEditS_w _ _ _ H wx165 o83.readf ex175 o169.readf ex170) ?_
  rintro _ wx176 ⟨r174, H, rfl, x177⟩
  refine LP_ev ok 4 [(74, .bool (!r174))] 5 rfl rfl ?_
  refine LP_end _ rfl ?_
  refine W_cond (!r174) rfl (fun hc178 => ?_) (fun hc178 => ?_)
  · have H := H.1 hc178
    refine W_seq ?_
    refine W_region ?_
    refine LP_ev ok 0 [(6, .bool false)] 1 rfl rfl ?_
    refine LP_end _ rfl ?_
    refine W_ret ?_
    have X179 := ((((X122.stepx x149).stepx x160).stepx x166).stepx x177)
    exact ⟨_, Ret_of [.bool false] ⟨⟨rfl, rfl⟩, trivial⟩, _, H, rfl, X179.ext⟩
  have H := H.2 hc178
  refine W_skip ?_
  refine W_seq ?_
  refine W_seq ?_
  refine W_region ?_
  refine LP_ev ok 0 [(75, .slice a97 (List.length r88) c98), (76, .slice a11 (List.length aVars) c12)] 2 rfl rfl ?_
  have ex181 := ((((ex116.ext x149).ext x160).ext x166).ext x177)
  refine LP_call 2 rfl rfl rfl cal_19 rfl (laws_toIntS_w _ _ H wx176 r9 ex181) ?_
  rintro _ wx182 ⟨r180, vx184, hx185, H, rfl, x183, o186, ex187, f188⟩
  obtain ⟨a189, c190, rfl⟩ := o186.shape
  have ex192 := (((((ex120.ext x149).ext x160).ext x166).ext x177).ext x183)
  refine LP_call 3 rfl rfl rfl cal_23 rfl (laws_eqIntS_w _ _ _ H wx182 o94.readf ex192 o186.readf ex187) ?_
  rintro _ wx193 ⟨r191, H, rfl, x194⟩
  refine LP_ev ok 4 [(79, .bool (!r191))] 5 rfl rfl ?_
  refine LP_end _ rfl ?_
  refine W_cond (!r191) rfl (fun hc195 => ?_) (fun hc195 => ?_)
  · have H := H.1 hc195
    refine W_seq ?_
    refine W_region ?_
    refine LP_ev ok 0 [(6, .bool false)] 1 rfl rfl ?_
    refine LP_end _ rfl ?_
    refine W_ret ?_
    have X196 := ((((((X122.stepx x149).stepx x160).stepx x166).stepx x177).stepx x183).stepx x194)
    exact ⟨_, Ret_of [.bool false] ⟨⟨rfl, rfl⟩, trivial⟩, _, H, rfl, X196.ext⟩
  have H := H.2 hc195
  refine W_skip ?_
  refine W_seq ?_
  refine W_region ?_
  refine LP_ev ok 0 [(15, I 1)] 1 rfl rfl ?_
  refine LP_end _ rfl ?_
  refine W_seq ?_
  refine W_region ?_
  refine LP_ev ok 0 [(80, .slice a75 (List.length r66) c76), (81, I 1)] 2 rfl rfl ?_
  have ex199 := (((((ex158.ext x160).ext x166).ext x177).ext x183).ext x194)
  refine LP_call 2 rfl rfl rfl cal_26 rfl (laws_markVariableS_w _ _ _ H wx193 o72 ex199) ?_
  rintro _ wx200 ⟨r197, r198, hx202, H, rfl, x201, o203, ex204, dm⟩
  refine LP_ev ok 3 [(15, I r197)] 4 rfl rfl ?_
  refine LP_end _ rfl ?_
  refine W_seq ?_
  refine W_region ?_
  refine LP_ev ok 0 [(83, .slice a86 (List.length r77) c87), (84, I r197)] 2 rfl rfl ?_
  have ex207 := ((((ex175.ext x177).ext x183).ext x194).but x201 (Dj.of_fresh ex73 f85))
  refine LP_call 2 rfl rfl rfl cal_27 rfl (laws_markEditS_w _ _ _ H wx200 o83 ex207) ?_
  rintro _ wx208 ⟨r205, r206, hx210, H, rfl, x209, o211, ex212, dm213⟩
  refine LP_ev ok 3 [(15, I r205)] 4 rfl rfl ?_
  refine LP_end _ rfl ?_
  refine W_seq ?_
  refine W_region ?_
  refine LP_ev ok 0 [(86, .slice a97 (List.length r88) c98), (87, I r205)] 2 rfl rfl ?_
  have ex216 := (ex73.ext x80)
  have ex217 := (((ex192.ext x194).but x201 (Dj.of_fresh ex216 f96)).but x209 (Dj.of_fresh ex84 f96))
  refine LP_call 2 rfl rfl rfl cal_58 rfl (laws_markIntS_w _ _ _ H wx208 o94 ex217) ?_
  rintro _ wx218 ⟨r214, r215, hx220, H, rfl, x219, o221, ex222, dm223⟩
  refine LP_ev ok 3 [(15, I r214)] 4 rfl rfl ?_
  refine LP_end _ rfl ?_
  try refine W_forget [(0, .slice a (List.length aS) c), (1, .slice a5 (List.length aL) c6), (2, .slice a11 (List.length aVars) c12), (8, .slice a64 (List.length r53) c65), (9, .bool r54), (13, .slice a110 (List.length r99) c111), (14, .bool r100), (15, I r214)] ⟨rfl, rfl, rfl, rfl, rfl, rfl, rfl, rfl, trivial⟩ fun ρ => ?_
  refine W_seq ?_
  obtain ⟨k232, hk233, H⟩ := jn_elim H
  refine W_join2 (S := Bool) (fun s ρ' w' => k232 s ∧ ∃ (ρ : Env), ρ' = setAll [(0, .slice a (List.length aS) c), (1, .slice a5 (List.length aL) c6), (2, .slice a11 (List.length aVars) c12), (8, .slice a64 (List.length r53) c65), (9, .bool r54), (13, .slice a110 (List.length r99) c111), (101, .bool s)] ρ ∧ But emp w w' ∧ Sub hx w' ∧ Sub hx2 w' ∧ Sub hx8 w' ∧ Sub hx60 w' ∧ Sub hx106 w') ?_ ?_
  · refine W_region ?_
    refine LP_ev ok 0 [(89, I r214), (90, .bool (decide (r214 < 0))), (91, .bool (decide (r214 < 0)))] 3 rfl rfl ?_
    refine LP_split 91 (decide (r214 < 0)) rfl (fun hc234 => ?_) (fun hc234 => ?_)
    · have H := H.1 hc234
      refine LP_ev ok 3 [(92, undef), (93, undef), (94, undef), (95, undef), (96, .bool true), (97, .bool true), (98, undef), (99, undef), (100, undef), (101, .bool true)] 13 rfl rfl ?_
      refine LP_end _ rfl ?_
      have X236 := ((((((X.stepx x).stepx x19).stepx x25).stepx x34).stepx x45).stepx x58)
      have f235 := f74.mono X236.size
      have X238 := (X236.stepx x69)
      have f237 := f85.mono X238.size
      have X240 := (X238.stepx x80)
      have f239 := f96.mono X240.size
      have X241 := (((((((((X122.stepx x149).stepx x160).stepx x166).stepx x177).stepx x183).stepx x194).step x201 (f235.dom _)).step x209 (f237.dom _)).step x219 (f239.dom _))
      have ex242 := (ex67.ext x69)
      have ex243 := (ex242.ext x80)
      have ex244 := (((((((((ex114.ext x149).ext x160).ext x166).ext x177).ext x183).ext x194).but x201 (Dj.of_fresh ex67 f74).symm).but x209 (Dj.of_fresh ex242 f85).symm).but x219 (Dj.of_fresh ex243 f96).symm)
      have ex245 := (((ex32.ext x34).ext x45).ext x58)
      have ex246 := (ex78.ext x80)
      have ex247 := (((((((ex164.ext x166).ext x177).ext x183).ext x194).but x201 (Dj.of_fresh ex245 f74).symm).but x209 (Dj.of_fresh ex78 f85).symm).but x219 (Dj.of_fresh ex246 f96).symm)
      have ex248 := ((ex43.ext x45).ext x58)
      have ex249 := (ex248.ext x69)
      have ex250 := (((((ex181.ext x183).ext x194).but x201 (Dj.of_fresh ex248 f74).symm).but x209 (Dj.of_fresh ex249 f85).symm).but x219 (Dj.of_fresh ex89 f96).symm)
      have ex251 := (ex62.ext x69)
      have ex252 := (ex251.ext x80)
      have ex253 := (((((((((ex117.ext x149).ext x160).ext x166).ext x177).ext x183).ext x194).but x201 (Dj.of_fresh ex62 f74).symm).but x209 (Dj.of_fresh ex251 f85).symm).but x219 (Dj.of_fresh ex252 f96).symm)
      have ex254 := (((((((((ex121.ext x149).ext x160).ext x166).ext x177).ext x183).ext x194).but x201 (Dj.of_fresh ex101 f109)).but x209 (Dj.of_fresh ex102 f109)).but x219 (Dj.of_fresh ex95 f109))
      exact ⟨true, H, _, env_eq ⟨rfl, rfl, rfl, rfl, rfl, rfl, rfl, trivial⟩, X241, ex244, ex247, ex250, ex253, ex254⟩
    have H := H.2 hc234
    refine LP_ev ok 3 [(92, .slice a110 (List.length r99) c111), (93, .slice a64 (List.length r53) c65)] 5 rfl rfl ?_
    have ex256 := (((((((((ex121.ext x149).ext x160).ext x166).ext x177).ext x183).ext x194).but x201 (Dj.of_fresh ex101 f109)).but x209 (Dj.of_fresh ex102 f109)).but x219 (Dj.of_fresh ex95 f109))
    have ex257 := (ex62.ext x69)
    have ex258 := (ex257.ext x80)
    have ex259 := (((((((((ex117.ext x149).ext x160).ext x166).ext x177).ext x183).ext x194).but x201 (Dj.of_fresh ex62 f74).symm).but x209 (Dj.of_fresh ex257 f85).symm).but x219 (Dj.of_fresh ex258 f96).symm)
    refine LP_call 5 rfl rfl rfl cal_22 rfl (laws_eqEditS_w _ _ _ H wx218 o107.readf ex256 o61.readf ex259) ?_
    rintro _ wx260 ⟨r255, H, rfl, x261⟩
    refine LP_ev ok 6 [(95, .bool (!r255)), (96, .bool (!r255)), (97, .bool (!r255))] 9 rfl rfl ?_
    refine LP_split 97 (!r255) rfl (fun hc262 => ?_) (fun hc262 => ?_)
    · have H := H.1 hc262
      refine LP_ev ok 9 [(98, undef), (99, undef), (100, undef), (101, .bool true)] 13 rfl rfl ?_
      refine LP_end _ rfl ?_
      have X264 := ((((((X.stepx x).stepx x19).stepx x25).stepx x34).stepx x45).stepx x58)
      have f263 := f74.mono X264.size
      have X266 := (X264.stepx x69)
      have f265 := f85.mono X266.size
      have X268 := (X266.stepx x80)
      have f267 := f96.mono X268.size
      have X269 := ((((((((((X122.stepx x149).stepx x160).stepx x166).stepx x177).stepx x183).stepx x194).step x201 (f263.dom _)).step x209 (f265.dom _)).step x219 (f267.dom _)).stepx x261)
      have ex270 := (ex67.ext x69)
      have ex271 := (ex270.ext x80)
      have ex272 := ((((((((((ex114.ext x149).ext x160).ext x166).ext x177).ext x183).ext x194).but x201 (Dj.of_fresh ex67 f74).symm).but x209 (Dj.of_fresh ex270 f85).symm).but x219 (Dj.of_fresh ex271 f96).symm).ext x261)
      have ex273 := (((ex32.ext x34).ext x45).ext x58)
      have ex274 := (ex78.ext x80)
      have ex275 := ((((((((ex164.ext x166).ext x177).ext x183).ext x194).but x201 (Dj.of_fresh ex273 f74).symm).but x209 (Dj.of_fresh ex78 f85).symm).but x219 (Dj.of_fresh ex274 f96).symm).ext x261)
      have ex276 := ((ex43.ext x45).ext x58)
      have ex277 := (ex276.ext x69)
      have ex278 := ((((((ex181.ext x183).ext x194).but x201 (Dj.of_fresh ex276 f74).symm).but x209 (Dj.of_fresh ex277 f85).symm).but x219 (Dj.of_fresh ex89 f96).symm).ext x261)
      have ex279 := (ex259.ext x261)
      have ex280 := (ex256.ext x261)
      exact ⟨true, H, _, env_eq ⟨rfl, rfl, rfl, rfl, rfl, rfl, rfl, trivial⟩, X269, ex272, ex275, ex278, ex279, ex280⟩
    have H := H.2 hc262
    refine LP_ev ok 9 [(98, .bool r100), (99, .bool r54), (100, .bool (r100 != r54)), (101, .bool (r100 != r54))] 13 rfl rfl ?_
    refine LP_end _ rfl ?_
    have X282 := ((((((X.stepx x).stepx x19).stepx x25).stepx x34).stepx x45).stepx x58)
    have f281 := f74.mono X282.size
    have X284 := (X282.stepx x69)
    have f283 := f85.mono X284.size
    have X286 := (X284.stepx x80)
    have f285 := f96.mono X286.size
    have X287 := ((((((((((X122.stepx x149).stepx x160).stepx x166).stepx x177).stepx x183).stepx x194).step x201 (f281.dom _)).step x209 (f283.dom _)).step x219 (f285.dom _)).stepx x261)
    have ex288 := (ex67.ext x69)
    have ex289 := (ex288.ext x80)
    have ex290 := ((((((((((ex114.ext x149).ext x160).ext x166).ext x177).ext x183).ext x194).but x201 (Dj.of_fresh ex67 f74).symm).but x209 (Dj.of_fresh ex288 f85).symm).but x219 (Dj.of_fresh ex289 f96).symm).ext x261)
    have ex291 := (((ex32.ext x34).ext x45).ext x58)
    have ex292 := (ex78.ext x80)
    have ex293 := ((((((((ex164.ext x166).ext x177).ext x183).ext x194).but x201 (Dj.of_fresh ex291 f74).symm).but x209 (Dj.of_fresh ex78 f85).symm).but x219 (Dj.of_fresh ex292 f96).symm).ext x261)
    have ex294 := ((ex43.ext x45).ext x58)
    have ex295 := (ex294.ext x69)
    have ex296 := ((((((ex181.ext x183).ext x194).but x201 (Dj.of_fresh ex294 f74).symm).but x209 (Dj.of_fresh ex295 f85).symm).but x219 (Dj.of_fresh ex89 f96).symm).ext x261)
    have ex297 := (ex259.ext x261)
    have ex298 := (ex256.ext x261)
    exact ⟨r100 != r54, H, _, env_eq ⟨rfl, rfl, rfl, rfl, rfl, rfl, rfl, trivial⟩, X287, ex290, ex293, ex296, ex297, ex298⟩
  rintro x224 _ wx225 ⟨H, ρ, rfl, X231, ex226, ex227, ex228, ex229, ex230⟩
  subst hk233
  refine W_cond (x224) rfl (fun hc299 => ?_) (fun hc299 => ?_)
  · have H := H.1 hc299
    refine W_seq ?_
    refine W_region ?_
    refine LP_ev ok 0 [(6, .bool false)] 1 rfl rfl ?_
    refine LP_end _ rfl ?_
    refine W_ret ?_
    exact ⟨_, Ret_of [.bool false] ⟨⟨rfl, rfl⟩, trivial⟩, _, H, rfl, X231.ext⟩
  have H := H.2 hc299
  refine W_skip ?_
  refine W_seq ?_
  refine W_region ?_
  refine LP_ev ok 0 [(16, I 1)] 1 rfl rfl ?_
  refine LP_end _ rfl ?_
  refine W_seq ?_
  refine W_region ?_
  refine LP_ev ok 0 [(102, .slice a110 (List.length r99) c111), (103, I 1)] 2 rfl rfl ?_
  refine LP_call 2 rfl rfl rfl cal_27 rfl (laws_markEditS_w _ _ _ H wx225 o107 ex230) ?_
  rintro _ wx302 ⟨r300, r301, hx304, H, rfl, x303, o305, ex306, dm307⟩
  refine LP_ev ok 3 [(16, I r300)] 4 rfl rfl ?_
  refine LP_end _ rfl ?_
  refine W_seq ?_
  refine W_region ?_
  refine LP_ev ok 0 [(17, I 1)] 1 rfl rfl ?_
  refine LP_end _ rfl ?_
  refine W_seq ?_
  refine W_region ?_
  refine LP_ev ok 0 [(105, .slice a110 (List.length r99) c111), (106, I 1)] 2 rfl rfl ?_
  refine LP_call 2 rfl rfl rfl cal_28 rfl (laws_heldEditS_w _ _ _ H wx302 o305.readf ex306) ?_
  rintro _ wx309 ⟨r308, H, rfl, x310⟩
  refine LP_ev ok 3 [(17, I r308)] 4 rfl rfl ?_
  refine LP_end _ rfl ?_
  refine W_seq ?_
  refine W_seq ?_
  refine W_region ?_
  refine LP_ev ok 0 [(108, I r308), (109, .bool (decide (r308 < 0)))] 2 rfl rfl ?_
  refine LP_end _ rfl ?_
  refine W_cond (decide (r308 < 0)) rfl (fun hc311 => ?_) (fun hc311 => ?_)
  · have H := H.1 hc311
    refine W_seq ?_
    refine W_region ?_
    refine LP_ev ok 0 [(6, .bool false)] 1 rfl rfl ?_
    refine LP_end _ rfl ?_
    refine W_ret ?_
    have X313 := (((((((((X.stepx x).stepx x19).stepx x25).stepx x34).stepx x45).stepx x58).stepx x69).stepx x80).stepx x91)
    have f312 := f109.mono X313.size
    have X314 := ((X231.step x303 (f312.dom _)).stepx x310)
    exact ⟨_, Ret_of [.bool false] ⟨⟨rfl, rfl⟩, trivial⟩, _, H, rfl, X314.ext⟩
  have H := H.2 hc311
  refine W_skip ?_
  refine W_seq ?_
  refine W_seq ?_
  refine W_region ?_
  refine LP_ev ok 0 [(110, I r308), (111, I r300), (112, .bool (r308 != r300))] 3 rfl rfl ?_
  refine LP_end _ rfl ?_
  refine W_cond (r308 != r300) rfl (fun hc315 => ?_) (fun hc315 => ?_)
  · have H := H.1 hc315
    refine W_seq ?_
    refine W_region ?_
    refine LP_ev ok 0 [(6, .bool false)] 1 rfl rfl ?_
    refine LP_end _ rfl ?_
    refine W_ret ?_
    have X317 := (((((((((X.stepx x).stepx x19).stepx x25).stepx x34).stepx x45).stepx x58).stepx x69).stepx x80).stepx x91)
    have f316 := f109.mono X317.size
    have X318 := ((X231.step x303 (f316.dom _)).stepx x310)
    exact ⟨_, Ret_of [.bool false] ⟨⟨rfl, rfl⟩, trivial⟩, _, H, rfl, X318.ext⟩
  have H := H.2 hc315
  refine W_skip ?_
  refine W_seq ?_
  refine W_region ?_
  refine LP_ev ok 0 [(114, .slice a (List.length aS) c)] 1 rfl rfl ?_
  have ex320 := (((ex67.ext x69).ext x80).ext x91)
  have ex321 := ((ex226.but x303 (Dj.of_fresh ex320 f109).symm).ext x310)
  refine LP_call 1 rfl rfl rfl cal_17 rfl (laws_toVariableS_w _ _ H wx309 r ex321) ?_
  rintro _ wx322 ⟨r319, vx324, hx325, H, rfl, x323, o326, ex327, f328⟩
  obtain ⟨a329, c330, rfl⟩ := o326.shape
  refine LP_ev ok 2 [(116, .slice a5 (List.length aL) c6)] 3 rfl rfl ?_
  have ex332 := ((ex78.ext x80).ext x91)
  have ex333 := (((ex227.but x303 (Dj.of_fresh ex332 f109).symm).ext x310).ext x323)
  refine LP_call 3 rfl rfl rfl cal_18 rfl (laws_toEditS_w _ _ H wx322 r3 ex333) ?_
  rintro _ wx334 ⟨r331, vx336, hx337, H, rfl, x335, o338, ex339, f340⟩
  obtain ⟨a341, c342, rfl⟩ := o338.shape
  refine LP_ev ok 4 [(118, .slice a11 (List.length aVars) c12)] 5 rfl rfl ?_
  have ex344 := (ex89.ext x91)
  have ex345 := ((((ex228.but x303 (Dj.of_fresh ex344 f109).symm).ext x310).ext x323).ext x335)
  refine LP_call 5 rfl rfl rfl cal_19 rfl (laws_toIntS_w _ _ H wx334 r9 ex345) ?_
  rintro _ wx346 ⟨r343, vx348, hx349, H, rfl, x347, o350, ex351, f352⟩
  obtain ⟨a353, c354, rfl⟩ := o350.shape
  have ex357 := ((ex327.ext x335).ext x347)
  have ex358 := (ex339.ext x347)
  refine LP_call 6 rfl rfl rfl cal_57 rfl (impl_EditsOnly_w _ _ _ _ H wx346 o326.readf ex357 o338.readf ex358 o350.readf ex351) ?_
  rintro _ wx359 ⟨r355, r356, vx361, hx362, H, rfl, x360, o363, ex364, f365⟩
  obtain ⟨a366, c367, rfl⟩ := o363.shape
  refine LP_ev ok 7 [(113, .tuple #[.slice a366 (List.length r355) c367, .bool r356]), (121, .slice a366 (List.length r355) c367), (122, .bool r356), (18, .slice a366 (List.length r355) c367), (19, .bool r356)] 12 rfl rfl ?_
  refine LP_end _ rfl ?_
  try refine W_forget [(8, .slice a64 (List.length r53) c65), (9, .bool r54), (13, .slice a110 (List.length r99) c111), (16, I r300), (18, .slice a366 (List.length r355) c367), (19, .bool r356)] ⟨rfl, rfl, rfl, rfl, rfl, rfl, trivial⟩ fun ρ => ?_
  refine W_seq ?_
  obtain ⟨k372, hk373, H⟩ := jn_elim H
  refine W_join2 (S := Bool) (fun s ρ' w' => k372 s ∧ ∃ (ρ : Env), ρ' = setAll [(13, .slice a110 (List.length r99) c111), (16, I r300), (131, .bool s)] ρ ∧ But emp w w' ∧ Sub hx304 w') ?_ ?_
  · refine W_region ?_
    refine LP_ev ok 0 [(123, .slice a366 (List.length r355) c367), (124, .slice a64 (List.length r53) c65)] 2 rfl rfl ?_
    have ex375 := (((ex62.ext x69).ext x80).ext x91)
    have ex376 := ((((((ex229.but x303 (Dj.of_fresh ex375 f109).symm).ext x310).ext x323).ext x335).ext x347).ext x360)
    refine LP_call 2 rfl rfl rfl cal_22 rfl (laws_eqEditS_w _ _ _ H wx359 o363.readf ex364 o61.readf ex376) ?_
    rintro _ wx377 ⟨r374, H, rfl, x378⟩
    refine LP_ev ok 3 [(126, .bool (!r374)), (127, .bool (!r374))] 5 rfl rfl ?_
    refine LP_split 127 (!r374) rfl (fun hc379 => ?_) (fun hc379 => ?_)
    · have H := H.1 hc379
      refine LP_ev ok 5 [(128, undef), (129, undef), (130, undef), (131, .bool true)] 9 rfl rfl ?_
      refine LP_end _ rfl ?_
      have X381 := (((((((((X.stepx x).stepx x19).stepx x25).stepx x34).stepx x45).stepx x58).stepx x69).stepx x80).stepx x91)
      have f380 := f109.mono X381.size
      have X382 := (((((((X231.step x303 (f380.dom _)).stepx x310).stepx x323).stepx x335).stepx x347).stepx x360).stepx x378)
      have ex383 := ((((((ex306.ext x310).ext x323).ext x335).ext x347).ext x360).ext x378)
      exact ⟨true, H, _, env_eq ⟨rfl, rfl, rfl, trivial⟩, X382, ex383⟩
    have H := H.2 hc379
    refine LP_ev ok 5 [(128, .bool r356), (129, .bool r54), (130, .bool (r356 != r54)), (131, .bool (r356 != r54))] 9 rfl rfl ?_
    refine LP_end _ rfl ?_
    have X385 := (((((((((X.stepx x).stepx x19).stepx x25).stepx x34).stepx x45).stepx x58).stepx x69).stepx x80).stepx x91)
    have f384 := f109.mono X385.size
    have X386 := (((((((X231.step x303 (f384.dom _)).stepx x310).stepx x323).stepx x335).stepx x347).stepx x360).stepx x378)
    have ex387 := ((((((ex306.ext x310).ext x323).ext x335).ext x347).ext x360).ext x378)
    exact ⟨r356 != r54, H, _, env_eq ⟨rfl, rfl, rfl, trivial⟩, X386, ex387⟩
  rintro x368 _ wx369 ⟨H, ρ, rfl, X371, ex370⟩
  subst hk373
  refine W_cond (x368) rfl (fun hc388 => ?_) (fun hc388 => ?_)
  · have H := H.1 hc388
    refine W_seq ?_
    refine W_region ?_
    refine LP_ev ok 0 [(6, .bool false)] 1 rfl rfl ?_
    refine LP_end _ rfl ?_
    refine W_ret ?_
    exact ⟨_, Ret_of [.bool false] ⟨⟨rfl, rfl⟩, trivial⟩, _, H, rfl, X371.ext⟩
  have H := H.2 hc388
  refine W_skip ?_
  refine W_seq ?_
  refine W_region ?_
  refine LP_ev ok 0 [(17, I 1)] 1 rfl rfl ?_
  refine LP_end _ rfl ?_
  refine W_seq ?_
  refine W_region ?_
  refine LP_ev ok 0 [(132, .slice a110 (List.length r99) c111), (133, I 1)] 2 rfl rfl ?_
  refine LP_call 2 rfl rfl rfl cal_28 rfl (laws_heldEditS_w _ _ _ H wx369 o305.readf ex370) ?_
  rintro _ wx390 ⟨r389, H, rfl, x391⟩
  refine LP_ev ok 3 [(17, I r389)] 4 rfl rfl ?_
  refine LP_end _ rfl ?_
  refine W_seq ?_
  refine W_seq ?_
  refine W_region ?_
  refine LP_ev ok 0 [(135, I r389), (136, .bool (decide (r389 < 0)))] 2 rfl rfl ?_
  refine LP_end _ rfl ?_
  refine W_cond (decide (r389 < 0)) rfl (fun hc392 => ?_) (fun hc392 => ?_)
  · have H := H.1 hc392
    refine W_seq ?_
    refine W_region ?_
    refine LP_ev ok 0 [(6, .bool false)] 1 rfl rfl ?_
    refine LP_end _ rfl ?_
    refine W_ret ?_
    have X393 := (X371.stepx x391)
    exact ⟨_, Ret_of [.bool false] ⟨⟨rfl, rfl⟩, trivial⟩, _, H, rfl, X393.ext⟩
  have H := H.2 hc392
  refine W_skip ?_
  refine W_seq ?_
  refine W_seq ?_
  refine W_region ?_
  refine LP_ev ok 0 [(137, I r389), (138, I r300), (139, .bool (r389 != r300))] 3 rfl rfl ?_
  refine LP_end _ rfl ?_
  refine W_cond (r389 != r300) rfl (fun hc394 => ?_) (fun hc394 => ?_)
  · have H := H.1 hc394
    refine W_seq ?_
    refine W_region ?_
    refine LP_ev ok 0 [(6, .bool false)] 1 rfl rfl ?_
    refine LP_end _ rfl ?_
    refine W_ret ?_
    have X395 := (X371.stepx x391)
    exact ⟨_, Ret_of [.bool false] ⟨⟨rfl, rfl⟩, trivial⟩, _, H, rfl, X395.ext⟩
  have H := H.2 hc394
  refine W_skip ?_
  refine W_seq ?_
  refine W_region ?_
  refine LP_ev ok 0 [(6, .bool true)] 1 rfl rfl ?_
  refine LP_end _ rfl ?_
  refine W_ret ?_
  have X396 := (X371.stepx x391)
  exact ⟨_, Ret_of [.bool true] ⟨⟨rfl, rfl⟩, trivial⟩, _, H, rfl, X396.ext⟩

set_option maxRecDepth 8000 in
set_option maxHeartbeats 4000000 in
theorem spec_l1All_w (l : List Int) (lo : Int) (hi : Int) (Q : Bool → Prop) (H : spec_l1All l lo hi Q) (w : World) {vx : Value} {hx : PH} (r : RS hx vx l) (ex : Sub hx w) :
    CallsTo Try.prog 182 #[vx, I lo, I hi] w fun v w' => ∃ r0, Q r0 ∧ v = .bool r0 ∧ Ext w w' := by
  obtain ⟨a, c, rfl⟩ := r.shape
  refine enter (args := [.slice a (List.length l) c, I lo, I hi]) 21 Try.func182 rfl rfl rfl ?_
  refine W_forget [(0, .slice a (List.length l) c), (1, I lo), (2, I hi)] ⟨rfl, rfl, rfl, trivial⟩ fun ρ => ?_
  have X := But.refl emp w
  refine W_seq ?_
  refine W_region ?_
  refine LP_ev ok 0 [(6, .bool false)] 1 rfl rfl ?_
  refine LP_end _ rfl ?_
  refine W_seq ?_
  refine W_seq ?_
  refine W_region ?_
  refine LP_ev ok 0 [(9, .slice a (List.length l) c), (10, I (ln l)), (11, I 0)] 3 rfl rfl ?_
  refine LP_end _ rfl ?_
  refine W_block ?_
  obtain ⟨J, m, Hx, H⟩ := H
  refine W_loop (S := Int) (fun s ρ' w' => J s ∧ ∃ (ρ : Env), ρ' = setAll [(1, I lo), (2, I hi), (9, .slice a (List.length l) c), (10, I (ln l)), (11, I s)] ρ ∧ But emp w w' ∧ Sub hx w') (fun s => m s) 0 ⟨Hx, _, env_eq ⟨rfl, rfl, rfl, rfl, rfl, trivial⟩, X, ex⟩ ?_
  rintro x _ wx ⟨Hi, ρ, rfl, X2, ex1⟩
  have H := H x Hi
  refine W_seq ?_
  refine W_region ?_
  refine LP_ev ok 0 [(12, .bool (decide (x < (ln l))))] 1 rfl rfl ?_
  refine LP_end _ rfl ?_
  refine W_seq ?_
  refine W_cond (decide (x < (ln l))) rfl (fun hc => ?_) (fun hc => ?_)
  · have H := H.1 hc
    refine W_skip ?_
    refine W_seq ?_
    refine W_block ?_
    refine W_seq ?_
    refine W_region ?_
    obtain ⟨x3, hi4, hx5, H⟩ := H
    refine LP_index 0 rfl rfl rfl Try.underlying24 ti_3 rfl rfl r hi4 hx5 fun a6 cs r7 d => ?_
    refine LP_load 1 rfl rfl rfl ti_3 ag_3 rfl r7 d ex1 fun vx8 r9 => ?_
    obtain rfl := r9.int
    refine LP_ev ok 2 [(8, I x3)] 3 rfl rfl ?_
    refine LP_end _ rfl ?_
    refine W_seq ?_
    refine W_region ?_
    refine LP_ev ok 0 [(15, I x3), (16, I lo), (17, I hi)] 3 rfl rfl ?_
    refine LP_call 3 rfl rfl rfl cal_94 rfl (spec_l1In_w _ _ _ _ H wx ) ?_
    rintro _ wx11 ⟨r10, H, rfl, x12⟩
    refine LP_ev ok 4 [(19, .bool (!r10))] 5 rfl rfl ?_
    refine LP_end _ rfl ?_
    refine W_cond (!r10) rfl (fun hc13 => ?_) (fun hc13 => ?_)
    · have H := H.1 hc13
      refine W_seq ?_
      refine W_region ?_
      refine LP_ev ok 0 [(6, .bool false)] 1 rfl rfl ?_
      refine LP_end _ rfl ?_
      refine W_ret ?_
      have X14 := (X2.stepx x12)
      exact ⟨_, Ret_of [.bool false] ⟨⟨rfl, rfl⟩, trivial⟩, _, H, rfl, X14.ext⟩
    have H := H.2 hc13
    refine W_skip ?_
    refine W_region ?_
    refine LP_ev ok 0 [(20, I (wr (x + 1))), (11, I (wr (x + 1)))] 2 rfl rfl ?_
    refine LP_end _ rfl ?_
    have X15 := (X2.stepx x12)
    have ex16 := (ex1.ext x12)
    exact ⟨wr (x + 1), ⟨H.1, _, env_eq ⟨rfl, rfl, rfl, rfl, rfl, trivial⟩, X15, ex16⟩, H.2⟩
  have H := H.2 hc
  refine W_exit ?_
  refine (if_pos rfl).mpr ?_
  refine W_seq ?_
  refine W_region ?_
  refine LP_ev ok 0 [(6, .bool true)] 1 rfl rfl ?_
  refine LP_end _ rfl ?_
  refine W_ret ?_
  exact ⟨_, Ret_of [.bool true] ⟨⟨rfl, rfl⟩, trivial⟩, _, H, rfl, X2.ext⟩

set_option maxRecDepth 8000 in
set_option maxHeartbeats 4000000 in
theorem spec_iWeights_w (sx : List Variable) (wx : List Int) (Q : Bool → Prop) (H : spec_iWeights sx wx Q) (w : World) {vx : Value} {hx : PH} (r : RS hx vx sx) (ex : Sub hx w) {vx1 : Value} {hx2 : PH} (r3 : RS hx2 vx1 wx) (ex4 : Sub hx2 w) :
    CallsTo Try.prog 202 #[vx, vx1] w fun v w' => ∃ r0, Q r0 ∧ v = .bool r0 ∧ Ext w w' := by
  obtain ⟨a, c, rfl⟩ := r.shape
  obtain ⟨a5, c6, rfl⟩ := r3.shape
  refine enter (args := [.slice a (List.length sx) c, .slice a5 (List.length wx) c6]) 14 Try.func202 rfl rfl rfl ?_
  refine W_forget [(0, .slice a (List.length sx) c), (1, .slice a5 (List.length wx) c6)] ⟨rfl, rfl, trivial⟩ fun ρ => ?_
  have X := But.refl emp w
  refine W_seq ?_
  refine W_region ?_
  refine LP_ev ok 0 [(4, .bool false)] 1 rfl rfl ?_
  refine LP_end _ rfl ?_
  obtain ⟨k, hk, H⟩ := jn_elim H
  refine W_join2 (S := Bool) (fun s ρ' w' => k s ∧ ∃ (ρ : Env), ρ' = setAll [(4, .bool s)] ρ ∧ But emp w w') ?_ ?_
  · refine W_region ?_
    refine LP_ev ok 0 [(5, .slice a5 (List.length wx) c6), (6, I (ln wx)), (7, .slice a (List.length sx) c), (8, I (ln sx)), (9, .bool ((ln wx) == (ln sx))), (10, .bool ((ln wx) == (ln sx)))] 6 rfl rfl ?_
    refine LP_split 10 ((ln wx) == (ln sx)) rfl (fun hc => ?_) (fun hc => ?_)
    · have H := H.1 hc
      refine LP_ev ok 6 [(11, .slice a5 (List.length wx) c6)] 7 rfl rfl ?_
      refine LP_call 7 rfl rfl rfl cal_182 rfl (spec_l1All_w _ _ _ _ H w r3 ex4) ?_
      rintro _ wx10 ⟨r9, H, rfl, x11⟩
      refine LP_ev ok 8 [(13, .bool r9), (4, .bool r9)] 10 rfl rfl ?_
      refine LP_end _ rfl ?_
      have X12 := (X.stepx x11)
      exact ⟨r9, H, _, env_eq ⟨rfl, trivial⟩, X12⟩
    have H := H.2 hc
    refine LP_ev ok 6 [(11, undef), (12, undef), (13, .bool false), (4, .bool false)] 10 rfl rfl ?_
    refine LP_end _ rfl ?_
    exact ⟨false, H, _, env_eq ⟨rfl, trivial⟩, X⟩
  rintro x _ wx7 ⟨H, ρ, rfl, X8⟩
  subst hk
  refine W_ret ?_
  exact ⟨_, Ret_of [.bool x] ⟨⟨rfl, rfl⟩, trivial⟩, _, H, rfl, X8.ext⟩

set_option maxRecDepth 8000 in
set_option maxHeartbeats 4000000 in
theorem spec_iInput_w (sx : List Variable) (l : List Edit) (wx : List Int) (values : List Int) (Q : Bool → Prop) (H : spec_iInput sx l wx values Q) (w : World) {vx : Value} {hx : PH} (r : RS hx vx sx) (ex : Sub hx w) {vx1 : Value} {hx2 : PH} (r3 : RS hx2 vx1 l) (ex4 : Sub hx2 w) {vx7 : Value} {hx8 : PH} (r9 : RS hx8 vx7 wx) (ex10 : Sub hx8 w) {vx13 : Value} {hx14 : PH} (r15 : RS hx14 vx13 values) (ex16 : Sub hx14 w) :
    CallsTo Try.prog 134 #[vx, vx1, vx7, vx13] w fun v w' => ∃ r0, Q r0 ∧ v = .bool r0 ∧ Ext w w' := by
  obtain ⟨a, c, rfl⟩ := r.shape
  obtain ⟨a5, c6, rfl⟩ := r3.shape
  obtain ⟨a11, c12, rfl⟩ := r9.shape
  obtain ⟨a17, c18, rfl⟩ := r15.shape
  refine enter (args := [.slice a (List.length sx) c, .slice a5 (List.length l) c6, .slice a11 (List.length wx) c12, .slice a17 (List.length values) c18]) 22 Try.func134 rfl rfl rfl ?_
  refine W_forget [(0, .slice a (List.length sx) c), (1, .slice a5 (List.length l) c6), (2, .slice a11 (List.length wx) c12), (3, .slice a17 (List.length values) c18)] ⟨rfl, rfl, rfl, rfl, trivial⟩ fun ρ => ?_
  have X := But.refl emp w
  refine W_seq ?_
  refine W_region ?_
  refine LP_ev ok 0 [(8, .bool false)] 1 rfl rfl ?_
  refine LP_end _ rfl ?_
  obtain ⟨k, hk, H⟩ := jn_elim H
  refine W_join2 (S := Bool) (fun s ρ' w' => k s ∧ ∃ (ρ : Env), ρ' = setAll [(8, .bool s)] ρ ∧ But emp w w') ?_ ?_
  · refine W_region ?_
    refine LP_ev ok 0 [(9, .slice a (List.length sx) c), (10, .slice a5 (List.length l) c6)] 2 rfl rfl ?_
    refine LP_call 2 rfl rfl rfl cal_77 rfl (spec_eSmall_w _ _ _ H w r ex r3 ex4) ?_
    rintro _ wx22 ⟨r21, H, rfl, x23⟩
    refine LP_ev ok 3 [(12, .bool r21)] 4 rfl rfl ?_
    refine LP_split 12 (r21) rfl (fun hc => ?_) (fun hc => ?_)
    · have H := H.1 hc
      refine LP_ev ok 4 [(13, .slice a (List.length sx) c), (14, .slice a11 (List.length wx) c12)] 6 rfl rfl ?_
      have ex25 := (ex.ext x23)
      have ex26 := (ex10.ext x23)
      refine LP_call 6 rfl rfl rfl cal_202 rfl (spec_iWeights_w _ _ _ H wx22 r ex25 r9 ex26) ?_
      rintro _ wx27 ⟨r24, H, rfl, x28⟩
      refine LP_ev ok 7 [(16, .bool r24), (17, .bool r24)] 9 rfl rfl ?_
      refine LP_split 17 (r24) rfl (fun hc29 => ?_) (fun hc29 => ?_)
      · have H := H.1 hc29
        refine LP_ev ok 9 [(18, .slice a (List.length sx) c), (19, .slice a17 (List.length values) c18)] 11 rfl rfl ?_
        have ex31 := (ex25.ext x28)
        have ex32 := ((ex16.ext x23).ext x28)
        refine LP_call 11 rfl rfl rfl cal_78 rfl (spec_sFits_w _ _ _ H wx27 r ex31 r15 ex32) ?_
        rintro _ wx33 ⟨r30, H, rfl, x34⟩
        refine LP_ev ok 12 [(21, .bool r30), (8, .bool r30)] 14 rfl rfl ?_
        refine LP_end _ rfl ?_
        have X35 := (((X.stepx x23).stepx x28).stepx x34)
        exact ⟨r30, H, _, env_eq ⟨rfl, trivial⟩, X35⟩
      have H := H.2 hc29
      refine LP_ev ok 9 [(18, undef), (19, undef), (20, undef), (21, .bool false), (8, .bool false)] 14 rfl rfl ?_
      refine LP_end _ rfl ?_
      have X36 := ((X.stepx x23).stepx x28)
      exact ⟨false, H, _, env_eq ⟨rfl, trivial⟩, X36⟩
    have H := H.2 hc
    refine LP_ev ok 4 [(13, undef), (14, undef), (15, undef), (16, .bool false), (17, .bool false), (18, undef), (19, undef), (20, undef), (21, .bool false), (8, .bool false)] 14 rfl rfl ?_
    refine LP_end _ rfl ?_
    have X37 := (X.stepx x23)
    exact ⟨false, H, _, env_eq ⟨rfl, trivial⟩, X37⟩
  rintro x _ wx19 ⟨H, ρ, rfl, X20⟩
  subst hk
  refine W_ret ?_
  exact ⟨_, Ret_of [.bool x] ⟨⟨rfl, rfl⟩, trivial⟩, _, H, rfl, X20.ext⟩

set_option maxRecDepth 8000 in
set_option maxHeartbeats 4000000 in
theorem spec_iBits_w (mask : Int) (Q : (List Int) → Prop) (H : spec_iBits mask Q) (w : World)  :
    CallsTo Try.prog 135 #[I mask] w fun v w' => ∃ r0 u0 g0, Q r0 ∧ v = u0 ∧ Ext w w' ∧ OS 3 g0 emp u0 r0 ∧ Sub g0 w' ∧ Fresh w.heap.size g0 := by
  refine enter (args := [I mask]) 23 Try.func135 rfl rfl rfl ?_
  refine W_forget [(0, I mask)] ⟨rfl, trivial⟩ fun ρ => ?_
  have X := But.refl emp w
  refine W_seq ?_
  refine W_region ?_
  refine LP_ev ok 0 [(2, .slice none 0 0)] 1 rfl rfl ?_
  refine LP_end _ rfl ?_
  refine W_seq ?_
  refine W_region ?_
  refine LP_ev ok 0 [(3, .slice none 0 0)] 1 rfl rfl ?_
  refine LP_end _ rfl ?_
  refine W_seq ?_
  refine W_seq ?_
  refine W_region ?_
  refine LP_ev ok 0 [(4, I 0)] 1 rfl rfl ?_
  refine LP_end _ rfl ?_
  refine W_block ?_
  obtain ⟨J, m, Hx, H⟩ := H
  refine W_loop (S := (List Int) × Int) (fun s ρ' w' => J s.1 s.2 ∧ ∃ (ρ : Env) (vx : Value) (hx : PH), ρ' = setAll [(0, I mask), (3, vx), (4, I s.2)] ρ ∧ But emp w w' ∧ OS 3 hx emp vx s.1 ∧ Sub hx w' ∧ Fresh w.heap.size hx) (fun s => m s.1 s.2) ([], 0) ⟨Hx, _, .slice none 0 0, emp, env_eq ⟨rfl, rfl, rfl, trivial⟩, X, OS.nil, (emp_sub _), (emp_fresh _)⟩ ?_
  rintro ⟨out, i⟩ _ wx ⟨Hi, ρ, vx, hx, rfl, X1, o, ex, f⟩
  have H := H out i Hi
  obtain ⟨a, c, rfl⟩ := o.shape
  refine W_seq ?_
  refine W_seq ?_
  refine W_region ?_
  refine LP_ev ok 0 [(5, I mask), (6, I i), (7, .int .u64 (IntKind.u64.wrap (i)))] 3 rfl rfl ?_
  obtain ⟨hz, H⟩ := H
  refine LP_val 3 _ rfl rfl (ex_shr rfl rfl rfl hz _) ?_
  refine LP_ev ok 4 [(9, .bool (decide ((shr .i64 mask (IntKind.u64.wrap (i))) > 0)))] 5 rfl rfl ?_
  refine LP_end _ rfl ?_
  refine W_cond (decide ((shr .i64 mask (IntKind.u64.wrap (i))) > 0)) rfl (fun hc => ?_) (fun hc => ?_)
  · have H := H.1 hc
    refine W_skip ?_
    obtain ⟨k, hk, H⟩ := jn_elim H
    refine W_join2 (S := (List Int)) (fun s ρ' w' => k s ∧ ∃ (ρ : Env) (vx3 : Value) (hx4 : PH), ρ' = setAll [(0, I mask), (3, vx3), (4, I i)] ρ ∧ But emp w w' ∧ OS 3 hx4 emp vx3 s ∧ Sub hx4 w' ∧ Fresh w.heap.size hx4) ?_ ?_
    · refine W_block ?_
      refine W_seq ?_
      refine W_region ?_
      refine LP_ev ok 0 [(12, I mask), (13, I i), (14, .int .u64 (IntKind.u64.wrap (i)))] 3 rfl rfl ?_
      obtain ⟨hz12, H⟩ := H
      refine LP_val 3 _ rfl rfl (ex_shr rfl rfl rfl hz12 _) ?_
      refine LP_ev ok 4 [(16, I (bits .and .i64 (shr .i64 mask (IntKind.u64.wrap (i))) 1)), (17, .bool ((bits .and .i64 (shr .i64 mask (IntKind.u64.wrap (i))) 1) == 1))] 6 rfl rfl ?_
      refine LP_end _ rfl ?_
      refine W_cond ((bits .and .i64 (shr .i64 mask (IntKind.u64.wrap (i))) 1) == 1) rfl (fun hc13 => ?_) (fun hc13 => ?_)
      · have H := H.1 hc13
        refine W_region ?_
        refine LP_ev ok 0 [(18, .slice a (List.length out) c), (19, I i)] 2 rfl rfl ?_
        refine LP_lit (α := Int) (g := emp) 2 (vs := [I i]) (xs := [i]) rfl rfl rfl Try.underlying24 ti_3 rfl rfl ⟨⟨_, rfl, rfl⟩, trivial⟩ rfl rfl fun hx14 vx15 wx16 x o17 ex18 f19 => ?_
        obtain ⟨a20, c21, rfl⟩ := o17.shape
        have ex22 := (ex.ext x)
        obtain ⟨hb, H⟩ := H
        refine LP_appendf (α := Int) 3 rfl rfl rfl Try.underlying24 ti_3 rfl rfl rfl o ex22 o17.readf ex18 (by first | omega | (simp only [ln] at *; omega)) (by first | omega | (simp only [ln] at *; omega)) fun hx23 vx24 wx25 o26 ex27 y dm => ?_
        obtain ⟨a28, c29, rfl⟩ := o26.shape
        refine LP_ev ok 4 [(3, .slice a28 (List.length (out ++ ([i]))) c29)] 5 rfl rfl ?_
        refine LP_end _ rfl ?_
        have X30 := ((X1.stepx x).step y (f.dom _))
        have X32 := (X1.stepx x)
        have f31 := dm.fresh f X32.size
        exact ⟨out ++ ([i]), H, _, .slice a28 (List.length (out ++ ([i]))) c29, hx23, env_eq ⟨rfl, rfl, rfl, trivial⟩, X30, o26, ex27, f31⟩
      have H := H.2 hc13
      refine W_skip ?_
      exact ⟨out, H, _, .slice a (List.length out) c, hx, env_eq ⟨rfl, rfl, rfl, trivial⟩, X1, o, ex, f⟩
    rintro out2 _ wx8 ⟨H, ρ, vx3, hx4, rfl, X11, o5, ex6, f7⟩
    subst hk
    obtain ⟨a9, c10, rfl⟩ := o5.shape
    refine W_region ?_
    refine LP_ev ok 0 [(10, I i), (11, I (wr (i + 1))), (4, I (wr (i + 1)))] 3 rfl rfl ?_
    refine LP_end _ rfl ?_
    exact ⟨(out2, wr (i + 1)), ⟨H.1, _, .slice a9 (List.length out2) c10, hx4, env_eq ⟨rfl, rfl, rfl, trivial⟩, X11, o5, ex6, f7⟩, H.2⟩
  have H := H.2 hc
  refine W_exit ?_
  refine (if_pos rfl).mpr ?_
  refine W_seq ?_
  refine W_region ?_
  refine LP_ev ok 0 [(22, .slice a (List.length out) c), (2, .slice a (List.length out) c)] 2 rfl rfl ?_
  refine LP_end _ rfl ?_
  refine W_ret ?_
  exact ⟨_, Ret_of [.slice a (List.length out) c] ⟨⟨rfl, rfl⟩, trivial⟩, _, _, _, H, rfl, X1.ext, o, ex, f⟩

set_option maxRecDepth 8000 in
set_option maxHeartbeats 4000000 in
theorem spec_l1Least_w (a : Int) (b : Int) (Q : Int → Prop) (H : spec_l1Least a b Q) (w : World)  :
    CallsTo Try.prog 203 #[I a, I b] w fun v w' => ∃ r0, Q r0 ∧ v = I r0 ∧ Ext w w' := by
  refine enter (args := [I a, I b]) 10 Try.func203 rfl rfl rfl ?_
  refine W_forget [(0, I a), (1, I b)] ⟨rfl, rfl, trivial⟩ fun ρ => ?_
  have X := But.refl emp w
  refine W_seq ?_
  refine W_region ?_
  refine LP_ev ok 0 [(4, I 0)] 1 rfl rfl ?_
  refine LP_end _ rfl ?_
  refine W_seq ?_
  refine W_seq ?_
  refine W_region ?_
  refine LP_ev ok 0 [(5, I a), (6, I b), (7, .bool (decide (a < b)))] 3 rfl rfl ?_
  refine LP_end _ rfl ?_
  refine W_cond (decide (a < b)) rfl (fun hc => ?_) (fun hc => ?_)
  · have H := H.1 hc
    refine W_seq ?_
    refine W_region ?_
    refine LP_ev ok 0 [(8, I a), (4, I a)] 2 rfl rfl ?_
    refine LP_end _ rfl ?_
    refine W_ret ?_
    exact ⟨_, Ret_of [I a] ⟨⟨rfl, rfl⟩, trivial⟩, _, H, rfl, X.ext⟩
  have H := H.2 hc
  refine W_skip ?_
  refine W_seq ?_
  refine W_region ?_
  refine LP_ev ok 0 [(9, I b), (4, I b)] 2 rfl rfl ?_
  refine LP_end _ rfl ?_
  refine W_ret ?_
  exact ⟨_, Ret_of [I b] ⟨⟨rfl, rfl⟩, trivial⟩, _, H, rfl, X.ext⟩

set_option maxRecDepth 8000 in
set_option maxHeartbeats 4000000 in
theorem spec_iLeast_w (wx : List Int) (vars : List Int) (Q : Int → Prop) (H : spec_iLeast wx vars Q) (w : World) {vx : Value} {hx : PH} (r : RS hx vx wx) (ex : Sub hx w) {vx1 : Value} {hx2 : PH} (r3 : RS hx2 vx1 vars) (ex4 : Sub hx2 w) :
    CallsTo Try.prog 136 #[vx, vx1] w fun v w' => ∃ r0, Q r0 ∧ v = I r0 ∧ Ext w w' := by
  obtain ⟨a, c, rfl⟩ := r.shape
  obtain ⟨a5, c6, rfl⟩ := r3.shape
  refine enter (args := [.slice a (List.length wx) c, .slice a5 (List.length vars) c6]) 28 Try.func136 rfl rfl rfl ?_
  refine W_forget [(0, .slice a (List.length wx) c), (1, .slice a5 (List.length vars) c6)] ⟨rfl, rfl, trivial⟩ fun ρ => ?_
  have X := But.refl emp w
  refine W_seq ?_
  refine W_region ?_
  refine LP_ev ok 0 [(4, I 0)] 1 rfl rfl ?_
  refine LP_end _ rfl ?_
  refine W_seq ?_
  refine W_region ?_
  refine LP_ev ok 0 [(8, .slice a (List.length wx) c), (9, .slice a5 (List.length vars) c6)] 2 rfl rfl ?_
  obtain ⟨x, hi, hx7, H⟩ := H
  refine LP_index 2 rfl rfl rfl Try.underlying24 ti_3 rfl rfl r3 hi hx7 fun a8 cs r9 d => ?_
  refine LP_load 3 rfl rfl rfl ti_3 ag_3 rfl r9 d ex4 fun vx10 r11 => ?_
  obtain rfl := r11.int
  obtain ⟨x12, hi13, hx14, H⟩ := H
  refine LP_index 4 rfl rfl rfl Try.underlying24 ti_3 rfl rfl r hi13 hx14 fun a15 cs16 r17 d18 => ?_
  refine LP_load 5 rfl rfl rfl ti_3 ag_3 rfl r17 d18 ex fun vx19 r20 => ?_
  obtain rfl := r20.int
  refine LP_ev ok 6 [(5, I x12)] 7 rfl rfl ?_
  refine LP_end _ rfl ?_
  refine W_seq ?_
  refine W_seq ?_
  refine W_region ?_
  refine LP_ev ok 0 [(14, .slice a5 (List.length vars) c6), (15, I (ln vars)), (16, I 0)] 3 rfl rfl ?_
  refine LP_end _ rfl ?_
  refine W_block ?_
  obtain ⟨J, m, Hx, H⟩ := H
  refine W_loop (S := Int × Int) (fun s ρ' w' => J s.1 s.2 ∧ ∃ (ρ : Env), ρ' = setAll [(0, .slice a (List.length wx) c), (5, I s.1), (14, .slice a5 (List.length vars) c6), (15, I (ln vars)), (16, I s.2)] ρ ∧ But emp w w' ∧ Sub hx w' ∧ Sub hx2 w') (fun s => m s.1 s.2) (x12, 0) ⟨Hx, _, env_eq ⟨rfl, rfl, rfl, rfl, rfl, trivial⟩, X, ex, ex4⟩ ?_
  rintro ⟨best, x21⟩ _ wx22 ⟨Hi, ρ, rfl, X25, ex23, ex24⟩
  have H := H best x21 Hi
  refine W_seq ?_
  refine W_region ?_
  refine LP_ev ok 0 [(17, .bool (decide (x21 < (ln vars))))] 1 rfl rfl ?_
  refine LP_end _ rfl ?_
  refine W_seq ?_
  refine W_cond (decide (x21 < (ln vars))) rfl (fun hc => ?_) (fun hc => ?_)
  · have H := H.1 hc
    refine W_skip ?_
    refine W_seq ?_
    refine W_block ?_
    refine W_seq ?_
    refine W_region ?_
    obtain ⟨x26, hi27, hx28, H⟩ := H
    refine LP_index 0 rfl rfl rfl Try.underlying24 ti_3 rfl rfl r3 hi27 hx28 fun a29 cs30 r31 d32 => ?_
    refine LP_load 1 rfl rfl rfl ti_3 ag_3 rfl r31 d32 ex24 fun vx33 r34 => ?_
    obtain rfl := r34.int
    refine LP_ev ok 2 [(7, I x26)] 3 rfl rfl ?_
    refine LP_end _ rfl ?_
    refine W_region ?_
    refine LP_ev ok 0 [(20, I best), (21, .slice a (List.length wx) c), (22, I x26)] 3 rfl rfl ?_
    obtain ⟨x35, hi36, hx37, H⟩ := H
    refine LP_index 3 rfl rfl rfl Try.underlying24 ti_3 rfl rfl r hi36 hx37 fun a38 cs39 r40 d41 => ?_
    refine LP_load 4 rfl rfl rfl ti_3 ag_3 rfl r40 d41 ex23 fun vx42 r43 => ?_
    obtain rfl := r43.int
    refine LP_call 5 rfl rfl rfl cal_203 rfl (spec_l1Least_w _ _ _ H wx22 ) ?_
    rintro _ wx45 ⟨r44, H, rfl, x46⟩
    refine LP_ev ok 6 [(5, I r44)] 7 rfl rfl ?_
    refine LP_end _ rfl ?_
    refine W_region ?_
    refine LP_ev ok 0 [(26, I (wr (x21 + 1))), (16, I (wr (x21 + 1)))] 2 rfl rfl ?_
    refine LP_end _ rfl ?_
    have X47 := (X25.stepx x46)
    have ex48 := (ex23.ext x46)
    have ex49 := (ex24.ext x46)
    exact ⟨(r44, wr (x21 + 1)), ⟨H.1, _, env_eq ⟨rfl, rfl, rfl, rfl, rfl, trivial⟩, X47, ex48, ex49⟩, H.2⟩
  have H := H.2 hc
  refine W_exit ?_
  refine (if_pos rfl).mpr ?_
  refine W_seq ?_
  refine W_region ?_
  refine LP_ev ok 0 [(27, I best), (4, I best)] 2 rfl rfl ?_
  refine LP_end _ rfl ?_
  refine W_ret ?_
  exact ⟨_, Ret_of [I best] ⟨⟨rfl, rfl⟩, trivial⟩, _, H, rfl, X25.ext⟩

set_option maxRecDepth 8000 in
set_option maxHeartbeats 4000000 in
theorem spec_PackingBound_w (sx : List Variable) (l : List Edit) (weights : List Int) (values : List Int) (Q : Int → (List Int) → Bool → Prop) (H : spec_PackingBound sx l weights values Q) (w : World) {vx : Value} {hx : PH} (r : RS hx vx sx) (ex : Sub hx w) {vx1 : Value} {hx2 : PH} (r3 : RS hx2 vx1 l) (ex4 : Sub hx2 w) {vx7 : Value} {hx8 : PH} (r9 : RS hx8 vx7 weights) (ex10 : Sub hx8 w) {vx13 : Value} {hx14 : PH} (r15 : RS hx14 vx13 values) (ex16 : Sub hx14 w) :
    CallsTo Try.prog 61 #[vx, vx1, vx7, vx13] w fun v w' => ∃ r0 r1 r2 u1 g1, Q r0 r1 r2 ∧ v = .tuple #[I r0, u1, .bool r2] ∧ Ext w w' ∧ OS 3 g1 emp u1 r1 ∧ Sub g1 w' ∧ Fresh w.heap.size g1 := by
  obtain ⟨a, c, rfl⟩ := r.shape
  obtain ⟨a5, c6, rfl⟩ := r3.shape
  obtain ⟨a11, c12, rfl⟩ := r9.shape
  obtain ⟨a17, c18, rfl⟩ := r15.shape
  refine enter (args := [.slice a (List.length sx) c, .slice a5 (List.length l) c6, .slice a11 (List.length weights) c12, .slice a17 (List.length values) c18]) 119 Try.func61 rfl rfl rfl ?_
  refine W_forget [(0, .slice a (List.length sx) c), (1, .slice a5 (List.length l) c6), (2, .slice a11 (List.length weights) c12), (3, .slice a17 (List.length values) c18)] ⟨rfl, rfl, rfl, rfl, trivial⟩ fun ρ => ?_
  have X := But.refl emp w
  refine W_seq ?_
  refine W_region ?_
  refine LP_ev ok 0 [(8, I 0), (9, .slice none 0 0), (10, .bool false)] 3 rfl rfl ?_
  refine LP_end _ rfl ?_
  refine W_seq ?_
  refine W_seq ?_
  refine W_region ?_
  refine LP_ev ok 0 [(25, .slice a (List.length sx) c), (26, .slice a5 (List.length l) c6), (27, .slice a11 (List.length weights) c12), (28, .slice a17 (List.length values) c18)] 4 rfl rfl ?_
  refine LP_call 4 rfl rfl rfl cal_134 rfl (spec_iInput_w _ _ _ _ _ H w r ex r3 ex4 r9 ex10 r15 ex16) ?_
  rintro _ wx ⟨r19, H, rfl, x⟩
  refine LP_ev ok 5 [(30, .bool (!r19))] 6 rfl rfl ?_
  refine LP_end _ rfl ?_
  refine W_cond (!r19) rfl (fun hc => ?_) (fun hc => ?_)
  · have H := H.1 hc
    refine W_seq ?_
    refine W_region ?_
    refine LP_ev ok 0 [(8, I 0), (9, .slice none 0 0), (10, .bool false)] 3 rfl rfl ?_
    refine LP_end _ rfl ?_
    refine W_ret ?_
    have X20 := (X.stepx x)
    exact ⟨_, Ret_of [I 0, .slice none 0 0, .bool false] ⟨⟨rfl, rfl⟩, ⟨rfl, rfl⟩, ⟨rfl, rfl⟩, trivial⟩, _, _, _, _, emp, H, rfl, X20.ext, OS.nil, (emp_sub _), (emp_fresh _)⟩
  have H := H.2 hc
  refine W_skip ?_
  refine W_seq ?_
  refine W_region ?_
  refine LP_ev ok 0 [(11, .slice none 0 0)] 1 rfl rfl ?_
  refine LP_end _ rfl ?_
  refine W_seq ?_
  refine W_region ?_
  refine LP_ev ok 0 [(12, .slice none 0 0)] 1 rfl rfl ?_
  refine LP_end _ rfl ?_
  refine W_seq ?_
  refine W_seq ?_
  refine W_region ?_
  refine LP_ev ok 0 [(31, .slice a (List.length sx) c), (32, .slice a5 (List.length l) c6)] 2 rfl rfl ?_
  have ex22 := (ex.ext x)
  have ex23 := (ex4.ext x)
  refine LP_call 2 rfl rfl rfl cal_80 rfl (spec_eMaximal_w _ _ _ _ H wx r ex22 r3 ex23) ?_
  rintro _ wx24 ⟨r21, vx26, hx27, H, rfl, x25, o, ex28, f⟩
  obtain ⟨a29, c30, rfl⟩ := o.shape
  refine LP_ev ok 3 [(34, I (ln r21)), (35, I 0)] 5 rfl rfl ?_
  refine LP_end _ rfl ?_
  refine W_block ?_
  have X60 := ((X.stepx x).stepx x25)
  have ex61 := (ex22.ext x25)
  have ex62 := ((ex10.ext x).ext x25)
  have ex63 := ((ex16.ext x).ext x25)
  obtain ⟨J, m, Hx, H⟩ := H
  refine W_loop (S := (List Int) × (List (List Int)) × Int) (fun s ρ' w' => J s.1 s.2.1 s.2.2 ∧ ∃ (ρ : Env) (vx31 : Value) (hx32 : PH) (vx36 : Value) (hx37 : PH), ρ' = setAll [(0, .slice a (List.length sx) c), (2, .slice a11 (List.length weights) c12), (3, .slice a17 (List.length values) c18), (11, vx31), (12, vx36), (33, .slice a29 (List.length r21) c30), (34, I (ln r21)), (35, I s.2.2)] ρ ∧ But emp w w' ∧ OS 3 hx32 emp vx31 s.1 ∧ Sub hx32 w' ∧ Fresh w.heap.size hx32 ∧ OD hx37 vx36 s.2.1 ∧ Sub hx37 w' ∧ Fresh w.heap.size hx37 ∧ Sub hx w' ∧ Sub hx8 w' ∧ Sub hx14 w' ∧ Sub hx27 w' ∧ Dj hx32 hx ∧ Dj hx32 hx8 ∧ Dj hx32 hx14 ∧ Dj hx32 hx27 ∧ Dj hx37 hx ∧ Dj hx37 hx8 ∧ Dj hx37 hx14 ∧ Dj hx37 hx27 ∧ Dj hx37 hx32) (fun s => m s.1 s.2.1 s.2.2) ([], [], 0) ⟨Hx, _, .slice none 0 0, emp, .slice none 0 0, emp, env_eq ⟨rfl, rfl, rfl, rfl, rfl, rfl, rfl, rfl, trivial⟩, X60, OS.nil, (emp_sub _), (emp_fresh _), OD.nil, (emp_sub _), (emp_fresh _), ex61, ex62, ex63, ex28, (fun _ => .inl rfl), (fun _ => .inl rfl), (fun _ => .inl rfl), (fun _ => .inl rfl), (fun _ => .inl rfl), (fun _ => .inl rfl), (fun _ => .inl rfl), (fun _ => .inl rfl), (fun _ => .inl rfl)⟩ ?_
  rintro ⟨failed, involved, x41⟩ _ wx42 ⟨Hi, ρ, vx31, hx32, vx36, hx37, rfl, X59, o33, ex34, f35, o38, ex39, f40, ex43, ex44, ex45, ex46, d, d51, d52, d53, d54, d55, d56, d57, d58⟩
  have H := H failed involved x41 Hi
  obtain ⟨a47, c48, rfl⟩ := o33.shape
  obtain ⟨a49, c50, rfl⟩ := o38.shape
  refine W_seq ?_
  refine W_region ?_
  refine LP_ev ok 0 [(36, .bool (decide (x41 < (ln r21))))] 1 rfl rfl ?_
  refine LP_end _ rfl ?_
  refine W_seq ?_
  refine W_cond (decide (x41 < (ln r21))) rfl (fun hc64 => ?_) (fun hc64 => ?_)
  · have H := H.1 hc64
    refine W_skip ?_
    obtain ⟨k, hk, H⟩ := jn_elim H
    refine W_join2 (S := (List Int) × (List (List Int))) (fun s ρ' w' => k s.1 s.2 ∧ ∃ (ρ : Env) (vx66 : Value) (hx67 : PH) (vx72 : Value) (hx73 : PH), ρ' = setAll [(0, .slice a (List.length sx) c), (2, .slice a11 (List.length weights) c12), (3, .slice a17 (List.length values) c18), (11, vx66), (12, vx72), (33, .slice a29 (List.length r21) c30), (34, I (ln r21)), (35, I x41)] ρ ∧ But emp w w' ∧ OS 3 hx67 emp vx66 s.1 ∧ Sub hx67 w' ∧ Fresh w.heap.size hx67 ∧ OD hx73 vx72 s.2 ∧ Sub hx73 w' ∧ Fresh w.heap.size hx73 ∧ Sub hx w' ∧ Sub hx8 w' ∧ Sub hx14 w' ∧ Sub hx27 w' ∧ Dj hx67 hx ∧ Dj hx67 hx8 ∧ Dj hx67 hx14 ∧ Dj hx67 hx27 ∧ Dj hx73 hx ∧ Dj hx73 hx8 ∧ Dj hx73 hx14 ∧ Dj hx73 hx27 ∧ Dj hx73 hx67) ?_ ?_
    · refine W_block ?_
      refine W_seq ?_
      refine W_region ?_
      refine LP_ev ok 0 [(37, I x41)] 1 rfl rfl ?_
      obtain ⟨x96, hi, hx97, H⟩ := H
      refine LP_index 1 rfl rfl rfl Try.underlying31 ti_50 rfl rfl o.readf hi hx97 fun a98 cs r99 d100 => ?_
      have d101 := d100
      obtain ⟨u, rfl, r102⟩ := Edit_rd d101
      obtain ⟨a103, c104, rfl⟩ := r102.shape
      refine LP_load 2 rfl rfl rfl ti_50 ag_50 rfl r99 d100 ex46 fun vx105 r106 => ?_
      obtain ⟨u107, rfl, r108⟩ := Edit_rv r106
      obtain ⟨a109, c110, rfl⟩ := r108.shape
      refine LP_alloc 3 rfl rfl rfl ti_50 rfl fun b wx111 x112 ex113 f114 => ?_
      refine LP_ev ok 4 [(13, I x41)] 5 rfl rfl ?_
      refine LP_stbox 5 (vs := [.slice a109 (List.length x96.Sets) c110]) (cs' := [.slice a109 (List.length x96.Sets) c110]) rfl rfl rfl ti_50 rfl rfl rfl rfl rfl ex113 rfl rfl fun wx115 ex116 y => ?_
      refine LP_end _ rfl ?_
      refine W_seq ?_
      refine W_seq ?_
      refine W_region ?_
      refine LP_ldbox 0 (v := .agg #[.slice a109 (List.length x96.Sets) c110]) rfl rfl rfl ti_50 ag_50 (fun h => by cases h) rfl ex116 rfl rfl ?_
      refine LP_ev ok 1 [(41, .slice a17 (List.length values) c18)] 2 rfl rfl ?_
      have ex118 := ((ex46.ext x112).but y (Dj.of_fresh ex46 f114).symm)
      have ex119 := ((ex45.ext x112).but y (Dj.of_fresh ex45 f114).symm)
      refine LP_call 2 rfl rfl rfl cal_81 rfl (spec_eFails_w _ _ _ H wx115 r108 ex118 r15 ex119) ?_
      rintro _ wx120 ⟨r117, H, rfl, x121⟩
      refine LP_ev ok 3 [(43, .bool (!r117))] 4 rfl rfl ?_
      refine LP_end _ rfl ?_
      refine W_cond (!r117) rfl (fun hc122 => ?_) (fun hc122 => ?_)
      · have H := H.1 hc122
        refine W_exit ?_
        refine (if_pos rfl).mpr ?_
        have f123 := f114.mono X59.size
        have X124 := (((X59.stepx x112).step y (f123.dom _)).stepx x121)
        have ex125 := (((ex34.ext x112).but y (Dj.of_fresh ex34 f114).symm).ext x121)
        have ex126 := (((ex39.ext x112).but y (Dj.of_fresh ex39 f114).symm).ext x121)
        have ex127 := (((ex43.ext x112).but y (Dj.of_fresh ex43 f114).symm).ext x121)
        have ex128 := (((ex44.ext x112).but y (Dj.of_fresh ex44 f114).symm).ext x121)
        have ex129 := (ex119.ext x121)
        have ex130 := (ex118.ext x121)
        exact ⟨(failed, involved), H, _, .slice a47 (List.length failed) c48, hx32, .slice a49 (List.length involved) c50, hx37, env_eq ⟨rfl, rfl, rfl, rfl, rfl, rfl, rfl, rfl, trivial⟩, X124, o33, ex125, f35, o38, ex126, f40, ex127, ex128, ex129, ex130, d, d51, d52, d53, d54, d55, d56, d57, d58⟩
      have H := H.2 hc122
      refine W_skip ?_
      refine W_seq ?_
      refine W_region ?_
      refine LP_ev ok 0 [(44, .slice a (List.length sx) c)] 1 rfl rfl ?_
      have ex131 := (ex116.ext x121)
      refine LP_ldbox 1 (v := .agg #[.slice a109 (List.length x96.Sets) c110]) rfl rfl rfl ti_50 ag_50 (fun h => by cases h) rfl ex131 rfl rfl ?_
      have ex133 := (((ex43.ext x112).but y (Dj.of_fresh ex43 f114).symm).ext x121)
      have ex134 := (ex118.ext x121)
      refine LP_call 2 rfl rfl rfl cal_83 rfl (spec_eInvolved_w _ _ _ H wx120 r ex133 r108 ex134) ?_
      rintro _ wx135 ⟨r132, vx137, hx138, H, rfl, x136, o139, ex140, f141⟩
      obtain ⟨a142, c143, rfl⟩ := o139.shape
      refine LP_ev ok 3 [(15, .slice a142 (List.length r132) c143)] 4 rfl rfl ?_
      refine LP_end _ rfl ?_
      refine W_seq ?_
      refine W_seq ?_
      refine W_region ?_
      refine LP_ev ok 0 [(47, .slice a142 (List.length r132) c143), (48, I (ln r132)), (49, .bool ((ln r132) == 0))] 3 rfl rfl ?_
      refine LP_end _ rfl ?_
      refine W_cond ((ln r132) == 0) rfl (fun hc144 => ?_) (fun hc144 => ?_)
      · have H := H.1 hc144
        refine W_seq ?_
        refine W_region ?_
        refine LP_ev ok 0 [(8, I 0), (9, .slice none 0 0), (10, .bool false)] 3 rfl rfl ?_
        refine LP_end _ rfl ?_
        refine W_ret ?_
        have f145 := f114.mono X59.size
        have X146 := ((((X59.stepx x112).step y (f145.dom _)).stepx x121).stepx x136)
        exact ⟨_, Ret_of [I 0, .slice none 0 0, .bool false] ⟨⟨rfl, rfl⟩, ⟨rfl, rfl⟩, ⟨rfl, rfl⟩, trivial⟩, _, _, _, _, emp, H, rfl, X146.ext, OS.nil, (emp_sub _), (emp_fresh _)⟩
      have H := H.2 hc144
      refine W_skip ?_
      refine W_seq ?_
      refine W_region ?_
      refine LP_ev ok 0 [(50, .slice a47 (List.length failed) c48), (51, I x41)] 2 rfl rfl ?_
      refine LP_lit (α := Int) (g := emp) 2 (vs := [I x41]) (xs := [x41]) rfl rfl rfl Try.underlying24 ti_3 rfl rfl ⟨⟨_, rfl, rfl⟩, trivial⟩ rfl rfl fun hx147 vx148 wx149 x150 o151 ex152 f153 => ?_
      obtain ⟨a154, c155, rfl⟩ := o151.shape
      have ex156 := (((((ex34.ext x112).but y (Dj.of_fresh ex34 f114).symm).ext x121).ext x136).ext x150)
      obtain ⟨hb, H⟩ := H
      refine LP_appendf (α := Int) 3 rfl rfl rfl Try.underlying24 ti_3 rfl rfl rfl o33 ex156 o151.readf ex152 (by first | omega | (simp only [ln] at *; omega)) (by first | omega | (simp only [ln] at *; omega)) fun hx157 vx158 wx159 o160 ex161 y162 dm => ?_
      obtain ⟨a163, c164, rfl⟩ := o160.shape
      refine LP_ev ok 4 [(11, .slice a163 (List.length (failed ++ ([x41]))) c164)] 5 rfl rfl ?_
      refine LP_end _ rfl ?_
      refine W_region ?_
      refine LP_ev ok 0 [(54, .slice a49 (List.length involved) c50), (55, .slice a142 (List.length r132) c143)] 2 rfl rfl ?_
      have ex165 := (((ex34.ext x112).but y (Dj.of_fresh ex34 f114).symm).ext x121)
      have ex166 := ((ex140.ext x150).but y162 (Dj.of_fresh ex165 f141))
      refine LP_litD (α := List Int) 2 (vs := [.slice a142 (List.length r132) c143]) (xs := [r132]) rfl rfl rfl Try.underlying65 ti_24 rfl rfl (allO.one (OD.rvo (OS.od o139))) ex166 rfl rfl fun hx167 vx168 wx169 x170 o171 ex172 dm173 => ?_
      obtain ⟨a174, c175, rfl⟩ := o171.shape
      have ex176 := (((((((ex39.ext x112).but y (Dj.of_fresh ex39 f114).symm).ext x121).ext x136).ext x150).but y162 d58.symm).ext x170)
      have ex177 := (((ex39.ext x112).but y (Dj.of_fresh ex39 f114).symm).ext x121)
      have ex178 := (((ex177.ext x136).ext x150).but y162 d58.symm)
      obtain ⟨hb179, H⟩ := H
      refine LP_appendD (α := List Int) 3 rfl rfl rfl Try.underlying65 ti_24 rfl rfl rfl o38 ex176 o171 ex172 (DomLe.dj dm173 (Dj.of_fresh ex177 f141).symm ex178).symm (by first | omega | (simp only [ln] at *; omega)) (by first | omega | (simp only [ln] at *; omega)) fun hx180 vx181 wx182 hw o183 ex184 y185 dh dm186 => ?_
      obtain ⟨a187, c188, rfl⟩ := o183.shape
      refine LP_ev ok 4 [(12, .slice a187 (List.length (involved ++ ([r132]))) c188)] 5 rfl rfl ?_
      refine LP_end _ rfl ?_
      try refine W_forget [(0, .slice a (List.length sx) c), (2, .slice a11 (List.length weights) c12), (3, .slice a17 (List.length values) c18), (11, .slice a163 (List.length (failed ++ ([x41]))) c164), (12, .slice a187 (List.length (involved ++ ([r132]))) c188), (33, .slice a29 (List.length r21) c30), (34, I (ln r21)), (35, I x41)] ⟨rfl, rfl, rfl, rfl, rfl, rfl, rfl, rfl, trivial⟩ fun ρ => ?_
      have f189 := f114.mono X59.size
      have X190 := ((((((((X59.stepx x112).step y (f189.dom _)).stepx x121).stepx x136).stepx x150).step y162 (f35.dom _)).stepx x170).step (But.dom y185 dh) (f40.dom _))
      have ex191 := ((ex177.ext x136).ext x150)
      have ex192 := ((ex161.ext x170).but (But.dom y185 dh) (DomLe.dj dm d58.symm ex191).symm)
      have X194 := (((((X59.stepx x112).step y (f189.dom _)).stepx x121).stepx x136).stepx x150)
      have f193 := dm.fresh f35 X194.size
      have X196 := (((X59.stepx x112).step y (f189.dom _)).stepx x121)
      have f195 := f141.mono X196.size
      have X198 := (X194.step y162 (f35.dom _))
      have f197 := DomLe.fresh dm173 f195 X198.size
      have X200 := (X198.stepx x170)
      have f199 := DomLe.fresh dm186 (Fresh.un f40 f197) X200.size
      have ex201 := (((((ex133.ext x136).ext x150).but y162 d).ext x170).but (But.dom y185 dh) d54)
      have ex202 := ((((((((ex44.ext x112).but y (Dj.of_fresh ex44 f114).symm).ext x121).ext x136).ext x150).but y162 d51).ext x170).but (But.dom y185 dh) d55)
      have ex203 := ((((((ex119.ext x121).ext x136).ext x150).but y162 d52).ext x170).but (But.dom y185 dh) d56)
      have ex204 := (((((ex134.ext x136).ext x150).but y162 d53).ext x170).but (But.dom y185 dh) d57)
      have ex205 := ((ex133.ext x136).ext x150)
      have ex206 := (((((ex44.ext x112).but y (Dj.of_fresh ex44 f114).symm).ext x121).ext x136).ext x150)
      have ex207 := (((ex119.ext x121).ext x136).ext x150)
      have ex208 := ((ex134.ext x136).ext x150)
      have ex209 := (ex205.but y162 d)
      have ex210 := (ex209.ext x170)
      have ex211 := (((ex44.ext x112).but y (Dj.of_fresh ex44 f114).symm).ext x121)
      have ex212 := (ex206.but y162 d51)
      have ex213 := (ex212.ext x170)
      have ex214 := (ex119.ext x121)
      have ex215 := (ex207.but y162 d52)
      have ex216 := (ex215.ext x170)
      have ex217 := (ex208.but y162 d53)
      have ex218 := (ex217.ext x170)
      have ex219 := ((ex177.ext x136).ext x150)
      have ex220 := (ex140.ext x150)
      have ex221 := (ex161.ext x170)
      exact ⟨(failed ++ ([x41]), involved ++ ([r132])), H, _, .slice a163 (List.length (failed ++ ([x41]))) c164, hx157, .slice a187 (List.length (involved ++ ([r132]))) c188, hx180, env_eq ⟨rfl, rfl, rfl, rfl, rfl, rfl, rfl, rfl, trivial⟩, X190, o160, ex192, f193, o183, ex184, f199, ex201, ex202, ex203, ex204, (DomLe.dj dm d ex205), (DomLe.dj dm d51 ex206), (DomLe.dj dm d52 ex207), (DomLe.dj dm d53 ex208), (DomLe.dj dm186 (Dj.un_l d54 (DomLe.dj dm173 (Dj.of_fresh ex133 f141).symm ex209)) ex210), (DomLe.dj dm186 (Dj.un_l d55 (DomLe.dj dm173 (Dj.of_fresh ex211 f141).symm ex212)) ex213), (DomLe.dj dm186 (Dj.un_l d56 (DomLe.dj dm173 (Dj.of_fresh ex214 f141).symm ex215)) ex216), (DomLe.dj dm186 (Dj.un_l d57 (DomLe.dj dm173 (Dj.of_fresh ex134 f141).symm ex217)) ex218), (DomLe.dj dm186 (Dj.un_l (DomLe.dj dm d58.symm ex219).symm (DomLe.dj dm173 (DomLe.dj dm (Dj.of_fresh ex165 f141) ex220).symm ex161)) ex221)⟩
    rintro ⟨failed65, involved71⟩ _ wx77 ⟨H, ρ, vx66, hx67, vx72, hx73, rfl, X95, o68, ex69, f70, o74, ex75, f76, ex78, ex79, ex80, ex81, d86, d87, d88, d89, d90, d91, d92, d93, d94⟩
    subst hk
    obtain ⟨a82, c83, rfl⟩ := o68.shape
    obtain ⟨a84, c85, rfl⟩ := o74.shape
    refine W_region ?_
    refine LP_ev ok 0 [(58, I (wr (x41 + 1))), (35, I (wr (x41 + 1)))] 2 rfl rfl ?_
    refine LP_end _ rfl ?_
    exact ⟨(failed65, involved71, wr (x41 + 1)), ⟨H.1, _, .slice a82 (List.length failed65) c83, hx67, .slice a84 (List.length involved71) c85, hx73, env_eq ⟨rfl, rfl, rfl, rfl, rfl, rfl, rfl, rfl, trivial⟩, X95, o68, ex69, f70, o74, ex75, f76, ex78, ex79, ex80, ex81, d86, d87, d88, d89, d90, d91, d92, d93, d94⟩, H.2⟩
  have H := H.2 hc64
  refine W_exit ?_
  refine (if_pos rfl).mpr ?_
  refine W_seq ?_
  refine W_seq ?_
  refine W_region ?_
  refine LP_ev ok 0 [(59, .slice a47 (List.length failed) c48), (60, I (ln failed)), (61, .bool (decide ((ln failed) > 12)))] 3 rfl rfl ?_
  refine LP_end _ rfl ?_
  refine W_cond (decide ((ln failed) > 12)) rfl (fun hc222 => ?_) (fun hc222 => ?_)
  · have H := H.1 hc222
    refine W_seq ?_
    refine W_region ?_
    refine LP_ev ok 0 [(8, I 0), (9, .slice none 0 0), (10, .bool false)] 3 rfl rfl ?_
    refine LP_end _ rfl ?_
    refine W_ret ?_
    exact ⟨_, Ret_of [I 0, .slice none 0 0, .bool false] ⟨⟨rfl, rfl⟩, ⟨rfl, rfl⟩, ⟨rfl, rfl⟩, trivial⟩, _, _, _, _, emp, H, rfl, X59.ext, OS.nil, (emp_sub _), (emp_fresh _)⟩
  have H := H.2 hc222
  refine W_skip ?_
  refine W_seq ?_
  refine W_region ?_
  refine LP_ev ok 0 [(16, I 0)] 1 rfl rfl ?_
  refine LP_end _ rfl ?_
  refine W_seq ?_
  refine W_region ?_
  refine LP_ev ok 0 [(17, .slice none 0 0)] 1 rfl rfl ?_
  refine LP_end _ rfl ?_
  refine W_seq ?_
  refine W_seq ?_
  refine W_region ?_
  refine LP_ev ok 0 [(18, I 0)] 1 rfl rfl ?_
  refine LP_end _ rfl ?_
  refine W_block ?_
  obtain ⟨J238, m239, Hx240, H⟩ := H
  refine W_loop (S := Int × (List Int) × Int) (fun s ρ' w' => J238 s.1 s.2.1 s.2.2 ∧ ∃ (ρ : Env) (vx223 : Value) (hx224 : PH), ρ' = setAll [(2, .slice a11 (List.length weights) c12), (11, .slice a47 (List.length failed) c48), (12, .slice a49 (List.length involved) c50), (16, I s.1), (17, vx223), (18, I s.2.2)] ρ ∧ But emp w w' ∧ OS 3 hx224 emp vx223 s.2.1 ∧ Sub hx224 w' ∧ Fresh w.heap.size hx224 ∧ Sub hx8 w' ∧ Sub hx32 w' ∧ Sub hx37 w' ∧ Dj hx224 hx8 ∧ Dj hx224 hx32 ∧ Dj hx224 hx37) (fun s => m239 s.1 s.2.1 s.2.2) (0, [], 0) ⟨Hx240, _, .slice none 0 0, emp, env_eq ⟨rfl, rfl, rfl, rfl, rfl, rfl, trivial⟩, X59, OS.nil, (emp_sub _), (emp_fresh _), ex44, ex34, ex39, (fun _ => .inl rfl), (fun _ => .inl rfl), (fun _ => .inl rfl)⟩ ?_
  rintro ⟨best, out, mask⟩ _ wx228 ⟨Hi, ρ, vx223, hx224, rfl, X237, o225, ex226, f227, ex229, ex230, ex231, d234, d235, d236⟩
  have H := H best out mask Hi
  obtain ⟨a232, c233, rfl⟩ := o225.shape
  refine W_seq ?_
  refine W_seq ?_
  refine W_region ?_
  refine LP_ev ok 0 [(62, I mask), (63, .slice a47 (List.length failed) c48), (64, I (ln failed)), (65, .int .u64 (IntKind.u64.wrap (ln failed)))] 4 rfl rfl ?_
  obtain ⟨hz, H⟩ := H
  refine LP_val 4 _ rfl rfl (ex_shl rfl rfl rfl hz _) ?_
  refine LP_ev ok 5 [(67, .bool (decide (mask < (shl .i64 1 (IntKind.u64.wrap (ln failed))))))] 6 rfl rfl ?_
  refine LP_end _ rfl ?_
  refine W_cond (decide (mask < (shl .i64 1 (IntKind.u64.wrap (ln failed))))) rfl (fun hc242 => ?_) (fun hc242 => ?_)
  · have H := H.1 hc242
    refine W_skip ?_
    obtain ⟨k260, hk261, H⟩ := jn_elim H
    refine W_join2 (S := Int × (List Int)) (fun s ρ' w' => k260 s.1 s.2 ∧ ∃ (ρ : Env) (vx245 : Value) (hx246 : PH), ρ' = setAll [(2, .slice a11 (List.length weights) c12), (11, .slice a47 (List.length failed) c48), (12, .slice a49 (List.length involved) c50), (16, I s.1), (17, vx245), (18, I mask)] ρ ∧ But emp w w' ∧ OS 3 hx246 emp vx245 s.2 ∧ Sub hx246 w' ∧ Fresh w.heap.size hx246 ∧ Sub hx8 w' ∧ Sub hx32 w' ∧ Sub hx37 w' ∧ Dj hx246 hx8 ∧ Dj hx246 hx32 ∧ Dj hx246 hx37) ?_ ?_
    · refine W_block ?_
      refine W_seq ?_
      refine W_region ?_
      refine LP_ev ok 0 [(19, I 0)] 1 rfl rfl ?_
      refine LP_end _ rfl ?_
      refine W_seq ?_
      refine W_region ?_
      refine LP_ev ok 0 [(20, .bool true)] 1 rfl rfl ?_
      refine LP_end _ rfl ?_
      refine W_seq ?_
      refine W_region ?_
      refine LP_ev ok 0 [(21, .slice none 0 0), (22, .slice none 0 0)] 2 rfl rfl ?_
      refine LP_end _ rfl ?_
      refine W_seq ?_
      refine W_seq ?_
      refine W_region ?_
      refine LP_ev ok 0 [(70, I mask)] 1 rfl rfl ?_
      refine LP_call 1 rfl rfl rfl cal_135 rfl (spec_iBits_w _ _ H wx228 ) ?_
      rintro _ wx263 ⟨r262, vx265, hx266, H, rfl, x264, o267, ex268, f269⟩
      obtain ⟨a270, c271, rfl⟩ := o267.shape
      refine LP_ev ok 2 [(72, I (ln r262)), (73, I 0)] 4 rfl rfl ?_
      refine LP_end _ rfl ?_
      refine W_block ?_
      have X308 := (X237.stepx x264)
      have ex309 := (ex229.ext x264)
      have ex310 := (ex230.ext x264)
      have ex311 := (ex231.ext x264)
      have ex312 := (ex226.ext x264)
      obtain ⟨J305, m306, Hx307, H⟩ := H
      refine W_loop (S := Int × Bool × (List Int) × (List Int) × Int) (fun s ρ' w' => J305 s.1 s.2.1 s.2.2.1 s.2.2.2.1 s.2.2.2.2 ∧ ∃ (ρ : Env) (vx272 : Value) (hx273 : PH) (vx277 : Value) (hx278 : PH), ρ' = setAll [(2, .slice a11 (List.length weights) c12), (11, .slice a47 (List.length failed) c48), (12, .slice a49 (List.length involved) c50), (16, I best), (17, .slice a232 (List.length out) c233), (18, I mask), (19, I s.1), (20, .bool s.2.1), (21, vx272), (22, vx277), (71, .slice a270 (List.length r262) c271), (72, I (ln r262)), (73, I s.2.2.2.2)] ρ ∧ But emp w w' ∧ OS 3 hx273 emp vx272 s.2.2.1 ∧ Sub hx273 w' ∧ Fresh w.heap.size hx273 ∧ OS 3 hx278 emp vx277 s.2.2.2.1 ∧ Sub hx278 w' ∧ Fresh w.heap.size hx278 ∧ Sub hx8 w' ∧ Sub hx32 w' ∧ Sub hx37 w' ∧ Sub hx224 w' ∧ Sub hx266 w' ∧ Dj hx273 hx8 ∧ Dj hx273 hx32 ∧ Dj hx273 hx37 ∧ Dj hx273 hx224 ∧ Dj hx273 hx266 ∧ Dj hx278 hx8 ∧ Dj hx278 hx32 ∧ Dj hx278 hx37 ∧ Dj hx278 hx224 ∧ Dj hx278 hx266 ∧ Dj hx278 hx273) (fun s => m306 s.1 s.2.1 s.2.2.1 s.2.2.2.1 s.2.2.2.2) (0, true, [], [], 0) ⟨Hx307, _, .slice none 0 0, emp, .slice none 0 0, emp, env_eq ⟨rfl, rfl, rfl, rfl, rfl, rfl, rfl, rfl, rfl, rfl, rfl, rfl, rfl, trivial⟩, X308, OS.nil, (emp_sub _), (emp_fresh _), OS.nil, (emp_sub _), (emp_fresh _), ex309, ex310, ex311, ex312, ex268, (fun _ => .inl rfl), (fun _ => .inl rfl), (fun _ => .inl rfl), (fun _ => .inl rfl), (fun _ => .inl rfl), (fun _ => .inl rfl), (fun _ => .inl rfl), (fun _ => .inl rfl), (fun _ => .inl rfl), (fun _ => .inl rfl), (fun _ => .inl rfl)⟩ ?_
      rintro ⟨sum, apart, used, list, x282⟩ _ wx283 ⟨Hi, ρ, vx272, hx273, vx277, hx278, rfl, X304, o274, ex275, f276, o279, ex280, f281, ex284, ex285, ex286, ex287, ex288, d293, d294, d295, d296, d297, d298, d299, d300, d301, d302, d303⟩
      have H := H sum apart used list x282 Hi
      obtain ⟨a289, c290, rfl⟩ := o274.shape
      obtain ⟨a291, c292, rfl⟩ := o279.shape
      refine W_seq ?_
      refine W_region ?_
      refine LP_ev ok 0 [(74, .bool (decide (x282 < (ln r262))))] 1 rfl rfl ?_
      refine LP_end _ rfl ?_
      refine W_seq ?_
      refine W_cond (decide (x282 < (ln r262))) rfl (fun hc314 => ?_) (fun hc314 => ?_)
      · have H := H.1 hc314
        refine W_skip ?_
        refine W_seq ?_
        refine W_block ?_
        refine W_seq ?_
        refine W_region ?_
        obtain ⟨x315, hi316, hx317, H⟩ := H
        refine LP_index 0 rfl rfl rfl Try.underlying24 ti_3 rfl rfl o267.readf hi316 hx317 fun a318 cs319 r320 d321 => ?_
        refine LP_load 1 rfl rfl rfl ti_3 ag_3 rfl r320 d321 ex288 fun vx322 r323 => ?_
        obtain rfl := r323.int
        refine LP_ev ok 2 [(24, I x315)] 3 rfl rfl ?_
        refine LP_end _ rfl ?_
        obtain ⟨k334, hk335, H⟩ := jn_elim H
        refine W_join2 (S := Bool) (fun s ρ' w' => k334 s ∧ ∃ (ρ : Env), ρ' = setAll [(2, .slice a11 (List.length weights) c12), (11, .slice a47 (List.length failed) c48), (12, .slice a49 (List.length involved) c50), (16, I best), (17, .slice a232 (List.length out) c233), (18, I mask), (19, I sum), (20, .bool s), (21, .slice a289 (List.length used) c290), (22, .slice a291 (List.length list) c292), (24, I x315), (71, .slice a270 (List.length r262) c271), (72, I (ln r262)), (73, I x282)] ρ ∧ But emp w w' ∧ Sub hx8 w' ∧ Sub hx32 w' ∧ Sub hx37 w' ∧ Sub hx224 w' ∧ Sub hx266 w' ∧ Sub hx273 w' ∧ Sub hx278 w') ?_ ?_
        · refine W_region ?_
          refine LP_ev ok 0 [(77, .bool apart), (78, .bool apart)] 2 rfl rfl ?_
          refine LP_split 78 (apart) rfl (fun hc336 => ?_) (fun hc336 => ?_)
          · have H := H.1 hc336
            refine LP_ev ok 2 [(79, .slice a49 (List.length involved) c50), (80, I x315)] 4 rfl rfl ?_
            obtain ⟨x337, hi338, hx339, H⟩ := H
            refine LP_index 4 rfl rfl rfl Try.underlying65 ti_24 rfl rfl o38.readf hi338 hx339 fun a340 cs341 r342 d343 => ?_
            refine LP_load 5 rfl rfl rfl ti_24 ag_24 rfl r342 d343 ex286 fun vx344 r345 => ?_
            have r348 := r345.slice
            obtain ⟨a346, c347, rfl⟩ := r348.shape
            refine LP_ev ok 6 [(83, .slice a289 (List.length used) c290)] 7 rfl rfl ?_
            refine LP_call 7 rfl rfl rfl cal_82 rfl (spec_iShares_w _ _ _ H wx283 r348 ex286 o274.readf ex275) ?_
            rintro _ wx350 ⟨r349, H, rfl, x351⟩
            refine LP_ev ok 8 [(85, .bool (!r349)), (86, .bool (!r349)), (20, .bool (!r349))] 11 rfl rfl ?_
            refine LP_end _ rfl ?_
            have X352 := (X304.stepx x351)
            have ex353 := (ex284.ext x351)
            have ex354 := (ex285.ext x351)
            have ex355 := (ex286.ext x351)
            have ex356 := (ex287.ext x351)
            have ex357 := (ex288.ext x351)
            have ex358 := (ex275.ext x351)
            have ex359 := (ex280.ext x351)
            exact ⟨!r349, H, _, env_eq ⟨rfl, rfl, rfl, rfl, rfl, rfl, rfl, rfl, rfl, rfl, rfl, rfl, rfl, rfl, trivial⟩, X352, ex353, ex354, ex355, ex356, ex357, ex358, ex359⟩
          have H := H.2 hc336
          refine LP_ev ok 2 [(79, undef), (80, undef), (81, undef), (82, undef), (83, undef), (84, undef), (85, undef), (86, .bool false), (20, .bool false)] 11 rfl rfl ?_
          refine LP_end _ rfl ?_
          exact ⟨false, H, _, env_eq ⟨rfl, rfl, rfl, rfl, rfl, rfl, rfl, rfl, rfl, rfl, rfl, rfl, rfl, rfl, trivial⟩, X304, ex284, ex285, ex286, ex287, ex288, ex275, ex280⟩
        rintro apart324 _ wx325 ⟨H, ρ, rfl, X333, ex326, ex327, ex328, ex329, ex330, ex331, ex332⟩
        subst hk335
        refine W_seq ?_
        refine W_region ?_
        refine LP_ev ok 0 [(87, .slice a289 (List.length used) c290), (88, .slice a49 (List.length involved) c50), (89, I x315)] 3 rfl rfl ?_
        obtain ⟨x360, hi361, hx362, H⟩ := H
        refine LP_index 3 rfl rfl rfl Try.underlying65 ti_24 rfl rfl o38.readf hi361 hx362 fun a363 cs364 r365 d366 => ?_
        refine LP_load 4 rfl rfl rfl ti_24 ag_24 rfl r365 d366 ex328 fun vx367 r368 => ?_
        have r371 := r368.slice
        obtain ⟨a369, c370, rfl⟩ := r371.shape
        obtain ⟨hb372, H⟩ := H
        refine LP_appendf (α := Int) 5 rfl rfl rfl Try.underlying24 ti_3 rfl rfl rfl o274 ex331 r371 ex328 (by first | omega | (simp only [ln] at *; omega)) (by first | omega | (simp only [ln] at *; omega)) fun hx373 vx374 wx375 o376 ex377 y378 dm379 => ?_
        obtain ⟨a380, c381, rfl⟩ := o376.shape
        refine LP_ev ok 6 [(21, .slice a380 (List.length (used ++ x360)) c381)] 7 rfl rfl ?_
        refine LP_end _ rfl ?_
        refine W_seq ?_
        refine W_region ?_
        refine LP_ev ok 0 [(93, I sum), (94, .slice a11 (List.length weights) c12), (95, .slice a49 (List.length involved) c50), (96, I x315)] 4 rfl rfl ?_
        obtain ⟨x382, hi383, hx384, H⟩ := H
        refine LP_index 4 rfl rfl rfl Try.underlying65 ti_24 rfl rfl o38.readf hi383 hx384 fun a385 cs386 r387 d388 => ?_
        have ex389 := (ex328.but y378 d295)
        refine LP_load 5 rfl rfl rfl ti_24 ag_24 rfl r387 d388 ex389 fun vx390 r391 => ?_
        have r394 := r391.slice
        obtain ⟨a392, c393, rfl⟩ := r394.shape
        have ex396 := (ex326.but y378 d293)
        refine LP_call 6 rfl rfl rfl cal_136 rfl (spec_iLeast_w _ _ _ H wx375 r9 ex396 r394 ex389) ?_
        rintro _ wx397 ⟨r395, H, rfl, x398⟩
        refine LP_ev ok 7 [(100, I (wr (sum + r395))), (19, I (wr (sum + r395)))] 9 rfl rfl ?_
        refine LP_end _ rfl ?_
        refine W_region ?_
        refine LP_ev ok 0 [(101, .slice a291 (List.length list) c292), (102, .slice a47 (List.length failed) c48), (103, I x315)] 3 rfl rfl ?_
        obtain ⟨x399, hi400, hx401, H⟩ := H
        refine LP_index 3 rfl rfl rfl Try.underlying24 ti_3 rfl rfl o33.readf hi400 hx401 fun a402 cs403 r404 d405 => ?_
        have ex406 := ((ex327.but y378 d294).ext x398)
        refine LP_load 4 rfl rfl rfl ti_3 ag_3 rfl r404 d405 ex406 fun vx407 r408 => ?_
        obtain rfl := r408.int
        refine LP_lit (α := Int) (g := emp) 5 (vs := [I x399]) (xs := [x399]) rfl rfl rfl Try.underlying24 ti_3 rfl rfl ⟨⟨_, rfl, rfl⟩, trivial⟩ rfl rfl fun hx409 vx410 wx411 x412 o413 ex414 f415 => ?_
        obtain ⟨a416, c417, rfl⟩ := o413.shape
        have ex418 := (((ex332.but y378 d303.symm).ext x398).ext x412)
        obtain ⟨hb419, H⟩ := H
        refine LP_appendf (α := Int) 6 rfl rfl rfl Try.underlying24 ti_3 rfl rfl rfl o279 ex418 o413.readf ex414 (by first | omega | (simp only [ln] at *; omega)) (by first | omega | (simp only [ln] at *; omega)) fun hx420 vx421 wx422 o423 ex424 y425 dm426 => ?_
        obtain ⟨a427, c428, rfl⟩ := o423.shape
        refine LP_ev ok 7 [(22, .slice a427 (List.length (list ++ ([x399]))) c428)] 8 rfl rfl ?_
        refine LP_end _ rfl ?_
        refine W_region ?_
        refine LP_ev ok 0 [(108, I (wr (x282 + 1))), (73, I (wr (x282 + 1)))] 2 rfl rfl ?_
        refine LP_end _ rfl ?_
        try refine W_forget [(2, .slice a11 (List.length weights) c12), (11, .slice a47 (List.length failed) c48), (12, .slice a49 (List.length involved) c50), (16, I best), (17, .slice a232 (List.length out) c233), (18, I mask), (19, I (wr (sum + r395))), (20, .bool apart324), (21, .slice a380 (List.length (used ++ x360)) c381), (22, .slice a427 (List.length (list ++ ([x399]))) c428), (71, .slice a270 (List.length r262) c271), (72, I (ln r262)), (73, I (wr (x282 + 1)))] ⟨rfl, rfl, rfl, rfl, rfl, rfl, rfl, rfl, rfl, rfl, rfl, rfl, rfl, trivial⟩ fun ρ => ?_
        have X429 := ((((X333.step y378 (f276.dom _)).stepx x398).stepx x412).step y425 (f281.dom _))
        have ex430 := (((ex377.ext x398).ext x412).but y425 (DomLe.dj dm379 d303.symm ex332).symm)
        have f431 := dm379.fresh f276 X333.size
        have X433 := (((X333.step y378 (f276.dom _)).stepx x398).stepx x412)
        have f432 := dm426.fresh f281 X433.size
        have ex434 := (((ex396.ext x398).ext x412).but y425 d298)
        have ex435 := ((ex406.ext x412).but y425 d299)
        have ex436 := (((ex389.ext x398).ext x412).but y425 d300)
        have ex437 := ((((ex329.but y378 d296).ext x398).ext x412).but y425 d301)
        have ex438 := ((((ex330.but y378 d297).ext x398).ext x412).but y425 d302)
        have ex439 := ((ex396.ext x398).ext x412)
        have ex440 := (ex406.ext x412)
        have ex441 := ((ex389.ext x398).ext x412)
        have ex442 := (((ex329.but y378 d296).ext x398).ext x412)
        have ex443 := (((ex330.but y378 d297).ext x398).ext x412)
        have ex444 := ((ex377.ext x398).ext x412)
        exact ⟨(wr (sum + r395), apart324, used ++ x360, list ++ ([x399]), wr (x282 + 1)), ⟨H.1, _, .slice a380 (List.length (used ++ x360)) c381, hx373, .slice a427 (List.length (list ++ ([x399]))) c428, hx420, env_eq ⟨rfl, rfl, rfl, rfl, rfl, rfl, rfl, rfl, rfl, rfl, rfl, rfl, rfl, trivial⟩, X429, o376, ex430, f431, o423, ex424, f432, ex434, ex435, ex436, ex437, ex438, (DomLe.dj dm379 d293 ex326), (DomLe.dj dm379 d294 ex327), (DomLe.dj dm379 d295 ex328), (DomLe.dj dm379 d296 ex329), (DomLe.dj dm379 d297 ex330), (DomLe.dj dm426 d298 ex439), (DomLe.dj dm426 d299 ex440), (DomLe.dj dm426 d300 ex441), (DomLe.dj dm426 d301 ex442), (DomLe.dj dm426 d302 ex443), (DomLe.dj dm426 (DomLe.dj dm379 d303.symm ex332).symm ex444)⟩, H.2⟩
      have H := H.2 hc314
      refine W_exit ?_
      refine (if_pos rfl).mpr ?_
      obtain ⟨k447, hk448, H⟩ := jn_elim H
      refine W_join2 (S := Bool) (fun s ρ' w' => k447 s ∧ ∃ (ρ : Env), ρ' = setAll [(2, .slice a11 (List.length weights) c12), (11, .slice a47 (List.length failed) c48), (12, .slice a49 (List.length involved) c50), (16, I best), (17, .slice a232 (List.length out) c233), (18, I mask), (19, I sum), (22, .slice a291 (List.length list) c292), (114, .bool s)] ρ ∧ wx283 = w') ?_ ?_
      · refine W_region ?_
        refine LP_ev ok 0 [(109, .bool apart), (110, .bool apart)] 2 rfl rfl ?_
        refine LP_split 110 (apart) rfl (fun hc449 => ?_) (fun hc449 => ?_)
        · have H := H.1 hc449
          refine LP_ev ok 2 [(111, I sum), (112, I best), (113, .bool (decide (sum > best))), (114, .bool (decide (sum > best)))] 6 rfl rfl ?_
          refine LP_end _ rfl ?_
          exact ⟨decide (sum > best), H, _, env_eq ⟨rfl, rfl, rfl, rfl, rfl, rfl, rfl, rfl, rfl, trivial⟩, rfl⟩
        have H := H.2 hc449
        refine LP_ev ok 2 [(111, undef), (112, undef), (113, undef), (114, .bool false)] 6 rfl rfl ?_
        refine LP_end _ rfl ?_
        exact ⟨false, H, _, env_eq ⟨rfl, rfl, rfl, rfl, rfl, rfl, rfl, rfl, rfl, trivial⟩, rfl⟩
      rintro x445 _ _ ⟨H, ρ, rfl, rfl⟩
      subst hk448
      refine W_cond (x445) rfl (fun hc450 => ?_) (fun hc450 => ?_)
      · have H := H.1 hc450
        refine W_seq ?_
        refine W_region ?_
        refine LP_ev ok 0 [(115, I sum), (16, I sum)] 2 rfl rfl ?_
        refine LP_end _ rfl ?_
        refine W_region ?_
        refine LP_ev ok 0 [(116, .slice a291 (List.length list) c292), (17, .slice a291 (List.length list) c292)] 2 rfl rfl ?_
        refine LP_end _ rfl ?_
        exact ⟨(sum, list), H, _, .slice a291 (List.length list) c292, hx278, env_eq ⟨rfl, rfl, rfl, rfl, rfl, rfl, trivial⟩, X304, o279, ex280, f281, ex284, ex285, ex286, d298, d299, d300⟩
      have H := H.2 hc450
      refine W_skip ?_
      exact ⟨(best, out), H, _, .slice a232 (List.length out) c233, hx224, env_eq ⟨rfl, rfl, rfl, rfl, rfl, rfl, trivial⟩, X304, o225, ex287, f227, ex284, ex285, ex286, d234, d235, d236⟩
    rintro ⟨best243, out244⟩ _ wx250 ⟨H, ρ, vx245, hx246, rfl, X259, o247, ex248, f249, ex251, ex252, ex253, d256, d257, d258⟩
    subst hk261
    obtain ⟨a254, c255, rfl⟩ := o247.shape
    refine W_region ?_
    refine LP_ev ok 0 [(68, I mask), (69, I (wr (mask + 1))), (18, I (wr (mask + 1)))] 3 rfl rfl ?_
    refine LP_end _ rfl ?_
    exact ⟨(best243, out244, wr (mask + 1)), ⟨H.1, _, .slice a254 (List.length out244) c255, hx246, env_eq ⟨rfl, rfl, rfl, rfl, rfl, rfl, trivial⟩, X259, o247, ex248, f249, ex251, ex252, ex253, d256, d257, d258⟩, H.2⟩
  have H := H.2 hc242
  refine W_exit ?_
  refine (if_pos rfl).mpr ?_
  refine W_seq ?_
  refine W_region ?_
  refine LP_ev ok 0 [(117, I best), (118, .slice a232 (List.length out) c233), (8, I best), (9, .slice a232 (List.length out) c233), (10, .bool true)] 5 rfl rfl ?_
  refine LP_end _ rfl ?_
  refine W_ret ?_
  exact ⟨_, Ret_of [I best, .slice a232 (List.length out) c233, .bool true] ⟨⟨rfl, rfl⟩, ⟨rfl, rfl⟩, ⟨rfl, rfl⟩, trivial⟩, _, _, _, _, _, H, rfl, X237.ext, o225, ex226, f227⟩

set_option maxRecDepth 8000 in
set_option maxHeartbeats 4000000 in
theorem impl_areWeights_w (sx : List Variable) (weights : List Int) (Q : Bool → Prop) (H : impl_areWeights sx weights Q) (w : World) {vx : Value} {hx : PH} (r : RS hx vx sx) (ex : Sub hx w) {vx1 : Value} {hx2 : PH} (r3 : RS hx2 vx1 weights) (ex4 : Sub hx2 w) :
    CallsTo Try.prog 204 #[vx, vx1] w fun v w' => ∃ r0, Q r0 ∧ v = .bool r0 ∧ Ext w w' := by
  obtain ⟨a, c, rfl⟩ := r.shape
  obtain ⟨a5, c6, rfl⟩ := r3.shape
  refine enter (args := [.slice a (List.length sx) c, .slice a5 (List.length weights) c6]) 25 Try.func204 rfl rfl rfl ?_
  refine W_forget [(0, .slice a (List.length sx) c), (1, .slice a5 (List.length weights) c6)] ⟨rfl, rfl, trivial⟩ fun ρ => ?_
  have X := But.refl emp w
  refine W_seq ?_
  refine W_region ?_
  refine LP_ev ok 0 [(4, .bool false)] 1 rfl rfl ?_
  refine LP_end _ rfl ?_
  refine W_seq ?_
  refine W_seq ?_
  refine W_region ?_
  refine LP_ev ok 0 [(7, .slice a5 (List.length weights) c6), (8, I (ln weights)), (9, .slice a (List.length sx) c), (10, I (ln sx)), (11, .bool ((ln weights) != (ln sx)))] 5 rfl rfl ?_
  refine LP_end _ rfl ?_
  refine W_cond ((ln weights) != (ln sx)) rfl (fun hc => ?_) (fun hc => ?_)
  · have H := H.1 hc
    refine W_seq ?_
    refine W_region ?_
    refine LP_ev ok 0 [(4, .bool false)] 1 rfl rfl ?_
    refine LP_end _ rfl ?_
    refine W_ret ?_
    exact ⟨_, Ret_of [.bool false] ⟨⟨rfl, rfl⟩, trivial⟩, _, H, rfl, X.ext⟩
  have H := H.2 hc
  refine W_skip ?_
  refine W_seq ?_
  refine W_seq ?_
  refine W_region ?_
  refine LP_ev ok 0 [(12, .slice a5 (List.length weights) c6), (13, I (ln weights)), (14, I 0)] 3 rfl rfl ?_
  refine LP_end _ rfl ?_
  refine W_block ?_
  obtain ⟨J, m, Hx, H⟩ := H
  refine W_loop (S := Int) (fun s ρ' w' => J s ∧ ∃ (ρ : Env), ρ' = setAll [(12, .slice a5 (List.length weights) c6), (13, I (ln weights)), (14, I s)] ρ ∧ w = w') (fun s => m s) 0 ⟨Hx, _, env_eq ⟨rfl, rfl, rfl, trivial⟩, rfl⟩ ?_
  rintro x _ _ ⟨Hi, ρ, rfl, rfl⟩
  have H := H x Hi
  refine W_seq ?_
  refine W_region ?_
  refine LP_ev ok 0 [(15, .bool (decide (x < (ln weights))))] 1 rfl rfl ?_
  refine LP_end _ rfl ?_
  refine W_seq ?_
  refine W_cond (decide (x < (ln weights))) rfl (fun hc7 => ?_) (fun hc7 => ?_)
  · have H := H.1 hc7
    refine W_skip ?_
    refine W_seq ?_
    refine W_block ?_
    refine W_seq ?_
    refine W_region ?_
    obtain ⟨x8, hi, hx9, H⟩ := H
    refine LP_index 0 rfl rfl rfl Try.underlying24 ti_3 rfl rfl r3 hi hx9 fun a10 cs r11 d => ?_
    refine LP_load 1 rfl rfl rfl ti_3 ag_3 rfl r11 d ex4 fun vx12 r13 => ?_
    obtain rfl := r13.int
    refine LP_ev ok 2 [(6, I x8)] 3 rfl rfl ?_
    refine LP_end _ rfl ?_
    obtain ⟨k, hk, H⟩ := jn_elim H
    refine W_join2 (S := Bool) (fun s ρ' w' => k s ∧ ∃ (ρ : Env), ρ' = setAll [(12, .slice a5 (List.length weights) c6), (13, I (ln weights)), (14, I x), (23, .bool s)] ρ ∧ w = w') ?_ ?_
    · refine W_region ?_
      refine LP_ev ok 0 [(18, I x8), (19, .bool (decide (x8 < 1))), (20, .bool (decide (x8 < 1)))] 3 rfl rfl ?_
      refine LP_split 20 (decide (x8 < 1)) rfl (fun hc16 => ?_) (fun hc16 => ?_)
      · have H := H.1 hc16
        refine LP_ev ok 3 [(21, undef), (22, undef), (23, .bool true)] 6 rfl rfl ?_
        refine LP_end _ rfl ?_
        exact ⟨true, H, _, env_eq ⟨rfl, rfl, rfl, rfl, trivial⟩, rfl⟩
      have H := H.2 hc16
      refine LP_ev ok 3 [(21, I x8), (22, .bool (decide (x8 > 100))), (23, .bool (decide (x8 > 100)))] 6 rfl rfl ?_
      refine LP_end _ rfl ?_
      exact ⟨decide (x8 > 100), H, _, env_eq ⟨rfl, rfl, rfl, rfl, trivial⟩, rfl⟩
    rintro x14 _ _ ⟨H, ρ, rfl, rfl⟩
    subst hk
    refine W_cond (x14) rfl (fun hc17 => ?_) (fun hc17 => ?_)
    · have H := H.1 hc17
      refine W_seq ?_
      refine W_region ?_
      refine LP_ev ok 0 [(4, .bool false)] 1 rfl rfl ?_
      refine LP_end _ rfl ?_
      refine W_ret ?_
      exact ⟨_, Ret_of [.bool false] ⟨⟨rfl, rfl⟩, trivial⟩, _, H, rfl, X.ext⟩
    have H := H.2 hc17
    refine W_skip ?_
    refine W_region ?_
    refine LP_ev ok 0 [(24, I (wr (x + 1))), (14, I (wr (x + 1)))] 2 rfl rfl ?_
    refine LP_end _ rfl ?_
    exact ⟨wr (x + 1), ⟨H.1, _, env_eq ⟨rfl, rfl, rfl, trivial⟩, rfl⟩, H.2⟩
  have H := H.2 hc7
  refine W_exit ?_
  refine (if_pos rfl).mpr ?_
  refine W_seq ?_
  refine W_region ?_
  refine LP_ev ok 0 [(4, .bool true)] 1 rfl rfl ?_
  refine LP_end _ rfl ?_
  refine W_ret ?_
  exact ⟨_, Ret_of [.bool true] ⟨⟨rfl, rfl⟩, trivial⟩, _, H, rfl, X.ext⟩

set_option maxRecDepth 8000 in
set_option maxHeartbeats 4000000 in
theorem impl_isMendable_w (sx : List Variable) (l : List Edit) (weights : List Int) (Q : Bool → Prop) (H : impl_isMendable sx l weights Q) (w : World) {vx : Value} {hx : PH} (r : RS hx vx sx) (ex : Sub hx w) {vx1 : Value} {hx2 : PH} (r3 : RS hx2 vx1 l) (ex4 : Sub hx2 w) {vx7 : Value} {hx8 : PH} (r9 : RS hx8 vx7 weights) (ex10 : Sub hx8 w) :
    CallsTo Try.prog 137 #[vx, vx1, vx7] w fun v w' => ∃ r0, Q r0 ∧ v = .bool r0 ∧ Ext w w' := by
  obtain ⟨a, c, rfl⟩ := r.shape
  obtain ⟨a5, c6, rfl⟩ := r3.shape
  obtain ⟨a11, c12, rfl⟩ := r9.shape
  refine enter (args := [.slice a (List.length sx) c, .slice a5 (List.length l) c6, .slice a11 (List.length weights) c12]) 19 Try.func137 rfl rfl rfl ?_
  refine W_forget [(0, .slice a (List.length sx) c), (1, .slice a5 (List.length l) c6), (2, .slice a11 (List.length weights) c12)] ⟨rfl, rfl, rfl, trivial⟩ fun ρ => ?_
  have X := But.refl emp w
  refine W_seq ?_
  refine W_region ?_
  refine LP_ev ok 0 [(6, .bool false)] 1 rfl rfl ?_
  refine LP_end _ rfl ?_
  obtain ⟨k, hk, H⟩ := jn_elim H
  refine W_join2 (S := Bool) (fun s ρ' w' => k s ∧ ∃ (ρ : Env), ρ' = setAll [(6, .bool s)] ρ ∧ But emp w w') ?_ ?_
  · refine W_region ?_
    refine LP_ev ok 0 [(7, .slice a (List.length sx) c)] 1 rfl rfl ?_
    refine LP_call 1 rfl rfl rfl cal_86 rfl (impl_isSmall_w _ _ H w r ex) ?_
    rintro _ wx15 ⟨r14, H, rfl, x16⟩
    refine LP_ev ok 2 [(9, .bool r14)] 3 rfl rfl ?_
    refine LP_split 9 (r14) rfl (fun hc => ?_) (fun hc => ?_)
    · have H := H.1 hc
      refine LP_ev ok 3 [(10, .slice a (List.length sx) c), (11, .slice a5 (List.length l) c6)] 5 rfl rfl ?_
      have ex18 := (ex.ext x16)
      have ex19 := (ex4.ext x16)
      refine LP_call 5 rfl rfl rfl cal_87 rfl (impl_areEdits_w _ _ _ H wx15 r ex18 r3 ex19) ?_
      rintro _ wx20 ⟨r17, H, rfl, x21⟩
      refine LP_ev ok 6 [(13, .bool r17), (14, .bool r17)] 8 rfl rfl ?_
      refine LP_split 14 (r17) rfl (fun hc22 => ?_) (fun hc22 => ?_)
      · have H := H.1 hc22
        refine LP_ev ok 8 [(15, .slice a (List.length sx) c), (16, .slice a11 (List.length weights) c12)] 10 rfl rfl ?_
        have ex24 := (ex18.ext x21)
        have ex25 := ((ex10.ext x16).ext x21)
        refine LP_call 10 rfl rfl rfl cal_204 rfl (impl_areWeights_w _ _ _ H wx20 r ex24 r9 ex25) ?_
        rintro _ wx26 ⟨r23, H, rfl, x27⟩
        refine LP_ev ok 11 [(18, .bool r23), (6, .bool r23)] 13 rfl rfl ?_
        refine LP_end _ rfl ?_
        have X28 := (((X.stepx x16).stepx x21).stepx x27)
        exact ⟨r23, H, _, env_eq ⟨rfl, trivial⟩, X28⟩
      have H := H.2 hc22
      refine LP_ev ok 8 [(15, undef), (16, undef), (17, undef), (18, .bool false), (6, .bool false)] 13 rfl rfl ?_
      refine LP_end _ rfl ?_
      have X29 := ((X.stepx x16).stepx x21)
      exact ⟨false, H, _, env_eq ⟨rfl, trivial⟩, X29⟩
    have H := H.2 hc
    refine LP_ev ok 3 [(10, undef), (11, undef), (12, undef), (13, .bool false), (14, .bool false), (15, undef), (16, undef), (17, undef), (18, .bool false), (6, .bool false)] 13 rfl rfl ?_
    refine LP_end _ rfl ?_
    have X30 := (X.stepx x16)
    exact ⟨false, H, _, env_eq ⟨rfl, trivial⟩, X30⟩
  rintro x _ wx ⟨H, ρ, rfl, X13⟩
  subst hk
  refine W_ret ?_
  exact ⟨_, Ret_of [.bool x] ⟨⟨rfl, rfl⟩, trivial⟩, _, H, rfl, X13.ext⟩

set_option maxRecDepth 8000 in
set_option maxHeartbeats 4000000 in
theorem impl_membersOf_w (mask : Int) (Q : (List Int) → Prop) (H : impl_membersOf mask Q) (w : World)  :
    CallsTo Try.prog 138 #[I mask] w fun v w' => ∃ r0 u0 g0, Q r0 ∧ v = u0 ∧ Ext w w' ∧ OS 3 g0 emp u0 r0 ∧ Sub g0 w' ∧ Fresh w.heap.size g0 := by
  refine enter (args := [I mask]) 21 Try.func138 rfl rfl rfl ?_
  refine W_forget [(0, I mask)] ⟨rfl, trivial⟩ fun ρ => ?_
  have X := But.refl emp w
  refine W_seq ?_
  refine W_region ?_
  refine LP_ev ok 0 [(2, .slice none 0 0)] 1 rfl rfl ?_
  refine LP_end _ rfl ?_
  refine W_seq ?_
  refine W_region ?_
  refine LP_ev ok 0 [(3, .slice none 0 0)] 1 rfl rfl ?_
  refine LP_end _ rfl ?_
  refine W_seq ?_
  refine W_seq ?_
  refine W_region ?_
  refine LP_ev ok 0 [(4, I 0)] 1 rfl rfl ?_
  refine LP_end _ rfl ?_
  refine W_block ?_
  obtain ⟨J, m, Hx, H⟩ := H
  refine W_loop (S := (List Int) × Int) (fun s ρ' w' => J s.1 s.2 ∧ ∃ (ρ : Env) (vx : Value) (hx : PH), ρ' = setAll [(0, I mask), (3, vx), (4, I s.2)] ρ ∧ But emp w w' ∧ OS 3 hx emp vx s.1 ∧ Sub hx w' ∧ Fresh w.heap.size hx) (fun s => m s.1 s.2) ([], 0) ⟨Hx, _, .slice none 0 0, emp, env_eq ⟨rfl, rfl, rfl, trivial⟩, X, OS.nil, (emp_sub _), (emp_fresh _)⟩ ?_
  rintro ⟨out, i⟩ _ wx ⟨Hi, ρ, vx, hx, rfl, X1, o, ex, f⟩
  have H := H out i Hi
  obtain ⟨a, c, rfl⟩ := o.shape
  refine W_seq ?_
  refine W_seq ?_
  refine W_region ?_
  refine LP_ev ok 0 [(5, I mask), (6, I i)] 2 rfl rfl ?_
  obtain ⟨hz, H⟩ := H
  refine LP_val 2 _ rfl rfl (ex_shr rfl rfl rfl hz _) ?_
  refine LP_ev ok 3 [(8, .bool ((shr .i64 mask i) != 0))] 4 rfl rfl ?_
  refine LP_end _ rfl ?_
  refine W_cond ((shr .i64 mask i) != 0) rfl (fun hc => ?_) (fun hc => ?_)
  · have H := H.1 hc
    refine W_skip ?_
    obtain ⟨k, hk, H⟩ := jn_elim H
    refine W_join2 (S := (List Int)) (fun s ρ' w' => k s ∧ ∃ (ρ : Env) (vx3 : Value) (hx4 : PH), ρ' = setAll [(0, I mask), (3, vx3), (4, I i)] ρ ∧ But emp w w' ∧ OS 3 hx4 emp vx3 s ∧ Sub hx4 w' ∧ Fresh w.heap.size hx4) ?_ ?_
    · refine W_block ?_
      refine W_seq ?_
      refine W_region ?_
      refine LP_ev ok 0 [(11, I mask), (12, I i)] 2 rfl rfl ?_
      obtain ⟨hz12, H⟩ := H
      refine LP_val 2 _ rfl rfl (ex_shr rfl rfl rfl hz12 _) ?_
      refine LP_ev ok 3 [(14, I (bits .and .i64 (shr .i64 mask i) 1)), (15, .bool ((bits .and .i64 (shr .i64 mask i) 1) == 1))] 5 rfl rfl ?_
      refine LP_end _ rfl ?_
      refine W_cond ((bits .and .i64 (shr .i64 mask i) 1) == 1) rfl (fun hc13 => ?_) (fun hc13 => ?_)
      · have H := H.1 hc13
        refine W_region ?_
        refine LP_ev ok 0 [(16, .slice a (List.length out) c), (17, I i)] 2 rfl rfl ?_
        refine LP_lit (α := Int) (g := emp) 2 (vs := [I i]) (xs := [i]) rfl rfl rfl Try.underlying24 ti_3 rfl rfl ⟨⟨_, rfl, rfl⟩, trivial⟩ rfl rfl fun hx14 vx15 wx16 x o17 ex18 f19 => ?_
        obtain ⟨a20, c21, rfl⟩ := o17.shape
        have ex22 := (ex.ext x)
        obtain ⟨hb, H⟩ := H
        refine LP_appendf (α := Int) 3 rfl rfl rfl Try.underlying24 ti_3 rfl rfl rfl o ex22 o17.readf ex18 (by first | omega | (simp only [ln] at *; omega)) (by first | omega | (simp only [ln] at *; omega)) fun hx23 vx24 wx25 o26 ex27 y dm => ?_
        obtain ⟨a28, c29, rfl⟩ := o26.shape
        refine LP_ev ok 4 [(3, .slice a28 (List.length (out ++ ([i]))) c29)] 5 rfl rfl ?_
        refine LP_end _ rfl ?_
        have X30 := ((X1.stepx x).step y (f.dom _))
        have X32 := (X1.stepx x)
        have f31 := dm.fresh f X32.size
        exact ⟨out ++ ([i]), H, _, .slice a28 (List.length (out ++ ([i]))) c29, hx23, env_eq ⟨rfl, rfl, rfl, trivial⟩, X30, o26, ex27, f31⟩
      have H := H.2 hc13
      refine W_skip ?_
      exact ⟨out, H, _, .slice a (List.length out) c, hx, env_eq ⟨rfl, rfl, rfl, trivial⟩, X1, o, ex, f⟩
    rintro out2 _ wx8 ⟨H, ρ, vx3, hx4, rfl, X11, o5, ex6, f7⟩
    subst hk
    obtain ⟨a9, c10, rfl⟩ := o5.shape
    refine W_region ?_
    refine LP_ev ok 0 [(9, I i), (10, I (wr (i + 1))), (4, I (wr (i + 1)))] 3 rfl rfl ?_
    refine LP_end _ rfl ?_
    exact ⟨(out2, wr (i + 1)), ⟨H.1, _, .slice a9 (List.length out2) c10, hx4, env_eq ⟨rfl, rfl, rfl, trivial⟩, X11, o5, ex6, f7⟩, H.2⟩
  have H := H.2 hc
  refine W_exit ?_
  refine (if_pos rfl).mpr ?_
  refine W_seq ?_
  refine W_region ?_
  refine LP_ev ok 0 [(20, .slice a (List.length out) c), (2, .slice a (List.length out) c)] 2 rfl rfl ?_
  refine LP_end _ rfl ?_
  refine W_ret ?_
  exact ⟨_, Ret_of [.slice a (List.length out) c] ⟨⟨rfl, rfl⟩, trivial⟩, _, _, _, H, rfl, X1.ext, o, ex, f⟩

set_option maxRecDepth 8000 in
set_option maxHeartbeats 4000000 in
theorem impl_PackingBound_w (sx : List Variable) (l : List Edit) (weights : List Int) (values : List Int) (Q : Int → (List Int) → Bool → Prop) (H : impl_PackingBound sx l weights values Q) (w : World) {vx : Value} {hx : PH} (r : RS hx vx sx) (ex : Sub hx w) {vx1 : Value} {hx2 : PH} (r3 : RS hx2 vx1 l) (ex4 : Sub hx2 w) {vx7 : Value} {hx8 : PH} (r9 : RS hx8 vx7 weights) (ex10 : Sub hx8 w) {vx13 : Value} {hx14 : PH} (r15 : RS hx14 vx13 values) (ex16 : Sub hx14 w) :
    CallsTo Try.prog 62 #[vx, vx1, vx7, vx13] w fun v w' => ∃ r0 r1 r2 u1 g1, Q r0 r1 r2 ∧ v = .tuple #[I r0, u1, .bool r2] ∧ Ext w w' ∧ OS 3 g1 emp u1 r1 ∧ Sub g1 w' ∧ Fresh w.heap.size g1 := by
  obtain ⟨a, c, rfl⟩ := r.shape
  obtain ⟨a5, c6, rfl⟩ := r3.shape
  obtain ⟨a11, c12, rfl⟩ := r9.shape
  obtain ⟨a17, c18, rfl⟩ := r15.shape
  refine enter (args := [.slice a (List.length sx) c, .slice a5 (List.length l) c6, .slice a11 (List.length weights) c12, .slice a17 (List.length values) c18]) 149 Try.func62 rfl rfl rfl ?_
  refine W_forget [(0, .slice a (List.length sx) c), (1, .slice a5 (List.length l) c6), (2, .slice a11 (List.length weights) c12), (3, .slice a17 (List.length values) c18)] ⟨rfl, rfl, rfl, rfl, trivial⟩ fun ρ => ?_
  have X := But.refl emp w
  refine W_seq ?_
  refine W_region ?_
  refine LP_ev ok 0 [(8, I 0), (9, .slice none 0 0), (10, .bool false)] 3 rfl rfl ?_
  refine LP_end _ rfl ?_
  refine W_seq ?_
  obtain ⟨k, hk, H⟩ := jn_elim H
  refine W_join2 (S := Bool) (fun s ρ' w' => k s ∧ ∃ (ρ : Env), ρ' = setAll [(0, .slice a (List.length sx) c), (1, .slice a5 (List.length l) c6), (2, .slice a11 (List.length weights) c12), (3, .slice a17 (List.length values) c18), (40, .bool s)] ρ ∧ But emp w w' ∧ Sub hx w' ∧ Sub hx2 w' ∧ Sub hx8 w' ∧ Sub hx14 w') ?_ ?_
  · refine W_region ?_
    refine LP_ev ok 0 [(30, .slice a (List.length sx) c), (31, .slice a5 (List.length l) c6), (32, .slice a11 (List.length weights) c12)] 3 rfl rfl ?_
    refine LP_call 3 rfl rfl rfl cal_137 rfl (impl_isMendable_w _ _ _ _ H w r ex r3 ex4 r9 ex10) ?_
    rintro _ wx25 ⟨r24, H, rfl, x26⟩
    refine LP_ev ok 4 [(34, .bool (!r24)), (35, .bool (!r24))] 6 rfl rfl ?_
    refine LP_split 35 (!r24) rfl (fun hc => ?_) (fun hc => ?_)
    · have H := H.1 hc
      refine LP_ev ok 6 [(36, undef), (37, undef), (38, undef), (39, undef), (40, .bool true)] 11 rfl rfl ?_
      refine LP_end _ rfl ?_
      have X27 := (X.stepx x26)
      have ex28 := (ex.ext x26)
      have ex29 := (ex4.ext x26)
      have ex30 := (ex10.ext x26)
      have ex31 := (ex16.ext x26)
      exact ⟨true, H, _, env_eq ⟨rfl, rfl, rfl, rfl, rfl, trivial⟩, X27, ex28, ex29, ex30, ex31⟩
    have H := H.2 hc
    refine LP_ev ok 6 [(36, .slice a (List.length sx) c), (37, .slice a17 (List.length values) c18)] 8 rfl rfl ?_
    have ex33 := (ex.ext x26)
    have ex34 := (ex16.ext x26)
    refine LP_call 8 rfl rfl rfl cal_88 rfl (impl_areValues_w _ _ _ H wx25 r ex33 r15 ex34) ?_
    rintro _ wx35 ⟨r32, H, rfl, x36⟩
    refine LP_ev ok 9 [(39, .bool (!r32)), (40, .bool (!r32))] 11 rfl rfl ?_
    refine LP_end _ rfl ?_
    have X37 := ((X.stepx x26).stepx x36)
    have ex38 := (ex33.ext x36)
    have ex39 := ((ex4.ext x26).ext x36)
    have ex40 := ((ex10.ext x26).ext x36)
    have ex41 := (ex34.ext x36)
    exact ⟨!r32, H, _, env_eq ⟨rfl, rfl, rfl, rfl, rfl, trivial⟩, X37, ex38, ex39, ex40, ex41⟩
  rintro x _ wx ⟨H, ρ, rfl, X23, ex19, ex20, ex21, ex22⟩
  subst hk
  refine W_cond (x) rfl (fun hc42 => ?_) (fun hc42 => ?_)
  · have H := H.1 hc42
    refine W_seq ?_
    refine W_region ?_
    refine LP_ev ok 0 [(8, I 0), (9, .slice none 0 0), (10, .bool false)] 3 rfl rfl ?_
    refine LP_end _ rfl ?_
    refine W_ret ?_
    exact ⟨_, Ret_of [I 0, .slice none 0 0, .bool false] ⟨⟨rfl, rfl⟩, ⟨rfl, rfl⟩, ⟨rfl, rfl⟩, trivial⟩, _, _, _, _, emp, H, rfl, X23.ext, OS.nil, (emp_sub _), (emp_fresh _)⟩
  have H := H.2 hc42
  refine W_skip ?_
  refine W_seq ?_
  refine W_region ?_
  refine LP_ev ok 0 [(11, .slice none 0 0), (12, .slice none 0 0), (13, .slice none 0 0)] 3 rfl rfl ?_
  refine LP_end _ rfl ?_
  refine W_seq ?_
  refine W_seq ?_
  refine W_region ?_
  refine LP_ev ok 0 [(41, .slice a (List.length sx) c), (42, .slice a5 (List.length l) c6)] 2 rfl rfl ?_
  refine LP_call 2 rfl rfl rfl cal_95 rfl (impl_maximalEdits_w _ _ _ _ H wx r ex19 r3 ex20) ?_
  rintro _ wx44 ⟨r43, vx46, hx47, H, rfl, x45, o, ex48, f⟩
  obtain ⟨a49, c50, rfl⟩ := o.shape
  refine LP_ev ok 3 [(44, I (ln r43)), (45, I 0)] 5 rfl rfl ?_
  refine LP_end _ rfl ?_
  refine W_block ?_
  have X93 := (X23.stepx x45)
  have ex94 := (ex19.ext x45)
  have ex95 := (ex21.ext x45)
  have ex96 := (ex22.ext x45)
  obtain ⟨J, m, Hx, H⟩ := H
  refine W_loop (S := (List Int) × (List Int) × (List Int) × Int) (fun s ρ' w' => J s.1 s.2.1 s.2.2.1 s.2.2.2 ∧ ∃ (ρ : Env) (vx51 : Value) (hx52 : PH) (vx56 : Value) (hx57 : PH) (vx61 : Value) (hx62 : PH), ρ' = setAll [(0, .slice a (List.length sx) c), (2, .slice a11 (List.length weights) c12), (3, .slice a17 (List.length values) c18), (11, vx51), (12, vx56), (13, vx61), (43, .slice a49 (List.length r43) c50), (44, I (ln r43)), (45, I s.2.2.2)] ρ ∧ But emp w w' ∧ OS 3 hx52 emp vx51 s.1 ∧ Sub hx52 w' ∧ Fresh w.heap.size hx52 ∧ OS 3 hx57 emp vx56 s.2.1 ∧ Sub hx57 w' ∧ Fresh w.heap.size hx57 ∧ OS 3 hx62 emp vx61 s.2.2.1 ∧ Sub hx62 w' ∧ Fresh w.heap.size hx62 ∧ Sub hx w' ∧ Sub hx8 w' ∧ Sub hx14 w' ∧ Sub hx47 w' ∧ Dj hx52 hx ∧ Dj hx52 hx8 ∧ Dj hx52 hx14 ∧ Dj hx52 hx47 ∧ Dj hx57 hx ∧ Dj hx57 hx8 ∧ Dj hx57 hx14 ∧ Dj hx57 hx47 ∧ Dj hx57 hx52 ∧ Dj hx62 hx ∧ Dj hx62 hx8 ∧ Dj hx62 hx14 ∧ Dj hx62 hx47 ∧ Dj hx62 hx52 ∧ Dj hx62 hx57) (fun s => m s.1 s.2.1 s.2.2.1 s.2.2.2) ([], [], [], 0) ⟨Hx, _, .slice none 0 0, emp, .slice none 0 0, emp, .slice none 0 0, emp, env_eq ⟨rfl, rfl, rfl, rfl, rfl, rfl, rfl, rfl, rfl, trivial⟩, X93, OS.nil, (emp_sub _), (emp_fresh _), OS.nil, (emp_sub _), (emp_fresh _), OS.nil, (emp_sub _), (emp_fresh _), ex94, ex95, ex96, ex48, (fun _ => .inl rfl), (fun _ => .inl rfl), (fun _ => .inl rfl), (fun _ => .inl rfl), (fun _ => .inl rfl), (fun _ => .inl rfl), (fun _ => .inl rfl), (fun _ => .inl rfl), (fun _ => .inl rfl), (fun _ => .inl rfl), (fun _ => .inl rfl), (fun _ => .inl rfl), (fun _ => .inl rfl), (fun _ => .inl rfl), (fun _ => .inl rfl)⟩ ?_
  rintro ⟨failed, bounds, masks, x66⟩ _ wx67 ⟨Hi, ρ, vx51, hx52, vx56, hx57, vx61, hx62, rfl, X92, o53, ex54, f55, o58, ex59, f60, o63, ex64, f65, ex68, ex69, ex70, ex71, d, d78, d79, d80, d81, d82, d83, d84, d85, d86, d87, d88, d89, d90, d91⟩
  have H := H failed bounds masks x66 Hi
  obtain ⟨a72, c73, rfl⟩ := o53.shape
  obtain ⟨a74, c75, rfl⟩ := o58.shape
  obtain ⟨a76, c77, rfl⟩ := o63.shape
  refine W_seq ?_
  refine W_region ?_
  refine LP_ev ok 0 [(46, .bool (decide (x66 < (ln r43))))] 1 rfl rfl ?_
  refine LP_end _ rfl ?_
  refine W_seq ?_
  refine W_cond (decide (x66 < (ln r43))) rfl (fun hc97 => ?_) (fun hc97 => ?_)
  · have H := H.1 hc97
    refine W_skip ?_
    obtain ⟨k143, hk144, H⟩ := jn_elim H
    refine W_join2 (S := (List Int) × (List Int) × (List Int)) (fun s ρ' w' => k143 s.1 s.2.1 s.2.2 ∧ ∃ (ρ : Env) (vx99 : Value) (hx100 : PH) (vx105 : Value) (hx106 : PH) (vx111 : Value) (hx112 : PH), ρ' = setAll [(0, .slice a (List.length sx) c), (2, .slice a11 (List.length weights) c12), (3, .slice a17 (List.length values) c18), (11, vx99), (12, vx105), (13, vx111), (43, .slice a49 (List.length r43) c50), (44, I (ln r43)), (45, I x66)] ρ ∧ But emp w w' ∧ OS 3 hx100 emp vx99 s.1 ∧ Sub hx100 w' ∧ Fresh w.heap.size hx100 ∧ OS 3 hx106 emp vx105 s.2.1 ∧ Sub hx106 w' ∧ Fresh w.heap.size hx106 ∧ OS 3 hx112 emp vx111 s.2.2 ∧ Sub hx112 w' ∧ Fresh w.heap.size hx112 ∧ Sub hx w' ∧ Sub hx8 w' ∧ Sub hx14 w' ∧ Sub hx47 w' ∧ Dj hx100 hx ∧ Dj hx100 hx8 ∧ Dj hx100 hx14 ∧ Dj hx100 hx47 ∧ Dj hx106 hx ∧ Dj hx106 hx8 ∧ Dj hx106 hx14 ∧ Dj hx106 hx47 ∧ Dj hx106 hx100 ∧ Dj hx112 hx ∧ Dj hx112 hx8 ∧ Dj hx112 hx14 ∧ Dj hx112 hx47 ∧ Dj hx112 hx100 ∧ Dj hx112 hx106) ?_ ?_
    · refine W_block ?_
      refine W_seq ?_
      refine W_region ?_
      refine LP_ev ok 0 [(47, I x66)] 1 rfl rfl ?_
      obtain ⟨x145, hi, hx146, H⟩ := H
      refine LP_index 1 rfl rfl rfl Try.underlying31 ti_50 rfl rfl o.readf hi hx146 fun a147 cs r148 d149 => ?_
      have d150 := d149
      obtain ⟨u, rfl, r151⟩ := Edit_rd d150
      obtain ⟨a152, c153, rfl⟩ := r151.shape
      refine LP_load 2 rfl rfl rfl ti_50 ag_50 rfl r148 d149 ex71 fun vx154 r155 => ?_
      obtain ⟨u156, rfl, r157⟩ := Edit_rv r155
      obtain ⟨a158, c159, rfl⟩ := r157.shape
      refine LP_alloc 3 rfl rfl rfl ti_50 rfl fun b wx160 x161 ex162 f163 => ?_
      refine LP_ev ok 4 [(14, I x66)] 5 rfl rfl ?_
      refine LP_stbox 5 (vs := [.slice a158 (List.length x145.Sets) c159]) (cs' := [.slice a158 (List.length x145.Sets) c159]) rfl rfl rfl ti_50 rfl rfl rfl rfl rfl ex162 rfl rfl fun wx164 ex165 y => ?_
      refine LP_end _ rfl ?_
      refine W_seq ?_
      refine W_seq ?_
      refine W_region ?_
      refine LP_ldbox 0 (v := .agg #[.slice a158 (List.length x145.Sets) c159]) rfl rfl rfl ti_50 ag_50 (fun h => by cases h) rfl ex165 rfl rfl ?_
      refine LP_ev ok 1 [(51, .slice a17 (List.length values) c18)] 2 rfl rfl ?_
      have ex167 := ((ex71.ext x161).but y (Dj.of_fresh ex71 f163).symm)
      have ex168 := ((ex70.ext x161).but y (Dj.of_fresh ex70 f163).symm)
      refine LP_call 2 rfl rfl rfl cal_101 rfl (impl_fails_w _ _ _ H wx164 r157 ex167 r15 ex168) ?_
      rintro _ wx169 ⟨r166, H, rfl, x170⟩
      refine LP_ev ok 3 [(53, .bool (!r166))] 4 rfl rfl ?_
      refine LP_end _ rfl ?_
      refine W_cond (!r166) rfl (fun hc171 => ?_) (fun hc171 => ?_)
      · have H := H.1 hc171
        refine W_exit ?_
        refine (if_pos rfl).mpr ?_
        have f172 := f163.mono X92.size
        have X173 := (((X92.stepx x161).step y (f172.dom _)).stepx x170)
        have ex174 := (((ex54.ext x161).but y (Dj.of_fresh ex54 f163).symm).ext x170)
        have ex175 := (((ex59.ext x161).but y (Dj.of_fresh ex59 f163).symm).ext x170)
        have ex176 := (((ex64.ext x161).but y (Dj.of_fresh ex64 f163).symm).ext x170)
        have ex177 := (((ex68.ext x161).but y (Dj.of_fresh ex68 f163).symm).ext x170)
        have ex178 := (((ex69.ext x161).but y (Dj.of_fresh ex69 f163).symm).ext x170)
        have ex179 := (ex168.ext x170)
        have ex180 := (ex167.ext x170)
        exact ⟨(failed, bounds, masks), H, _, .slice a72 (List.length failed) c73, hx52, .slice a74 (List.length bounds) c75, hx57, .slice a76 (List.length masks) c77, hx62, env_eq ⟨rfl, rfl, rfl, rfl, rfl, rfl, rfl, rfl, rfl, trivial⟩, X173, o53, ex174, f55, o58, ex175, f60, o63, ex176, f65, ex177, ex178, ex179, ex180, d, d78, d79, d80, d81, d82, d83, d84, d85, d86, d87, d88, d89, d90, d91⟩
      have H := H.2 hc171
      refine W_skip ?_
      refine W_seq ?_
      refine W_region ?_
      refine LP_ev ok 0 [(16, I 101), (17, I 0)] 2 rfl rfl ?_
      refine LP_end _ rfl ?_
      refine W_seq ?_
      refine W_seq ?_
      refine W_region ?_
      refine LP_ev ok 0 [(54, .slice a (List.length sx) c)] 1 rfl rfl ?_
      have ex181 := (ex165.ext x170)
      refine LP_ldbox 1 (v := .agg #[.slice a158 (List.length x145.Sets) c159]) rfl rfl rfl ti_50 ag_50 (fun h => by cases h) rfl ex181 rfl rfl ?_
      have ex183 := (((ex68.ext x161).but y (Dj.of_fresh ex68 f163).symm).ext x170)
      have ex184 := (ex167.ext x170)
      refine LP_call 2 rfl rfl rfl cal_127 rfl (impl_involvedIn_w _ _ _ H wx169 r ex183 r157 ex184) ?_
      rintro _ wx185 ⟨r182, vx187, hx188, H, rfl, x186, o189, ex190, f191⟩
      obtain ⟨a192, c193, rfl⟩ := o189.shape
      refine LP_ev ok 3 [(57, I (ln r182)), (58, I 0)] 5 rfl rfl ?_
      refine LP_end _ rfl ?_
      refine W_block ?_
      obtain ⟨J196, m197, Hx198, H⟩ := H
      refine W_loop (S := Int × Int × Int) (fun s ρ' w' => J196 s.1 s.2.1 s.2.2 ∧ ∃ (ρ : Env), ρ' = setAll [(0, .slice a (List.length sx) c), (2, .slice a11 (List.length weights) c12), (3, .slice a17 (List.length values) c18), (11, .slice a72 (List.length failed) c73), (12, .slice a74 (List.length bounds) c75), (13, .slice a76 (List.length masks) c77), (14, I x66), (16, I s.1), (17, I s.2.1), (43, .slice a49 (List.length r43) c50), (44, I (ln r43)), (45, I x66), (56, .slice a192 (List.length r182) c193), (57, I (ln r182)), (58, I s.2.2)] ρ ∧ wx185 = w') (fun s => m197 s.1 s.2.1 s.2.2) (101, 0, 0) ⟨Hx198, _, env_eq ⟨rfl, rfl, rfl, rfl, rfl, rfl, rfl, rfl, rfl, rfl, rfl, rfl, rfl, rfl, rfl, trivial⟩, rfl⟩ ?_
      rintro ⟨bound, mask, x194⟩ _ _ ⟨Hi, ρ, rfl, rfl⟩
      have H := H bound mask x194 Hi
      refine W_seq ?_
      refine W_region ?_
      refine LP_ev ok 0 [(59, .bool (decide (x194 < (ln r182))))] 1 rfl rfl ?_
      refine LP_end _ rfl ?_
      refine W_seq ?_
      refine W_cond (decide (x194 < (ln r182))) rfl (fun hc200 => ?_) (fun hc200 => ?_)
      · have H := H.1 hc200
        refine W_skip ?_
        refine W_seq ?_
        refine W_block ?_
        refine W_seq ?_
        refine W_region ?_
        obtain ⟨x201, hi202, hx203, H⟩ := H
        refine LP_index 0 rfl rfl rfl Try.underlying24 ti_3 rfl rfl o189.readf hi202 hx203 fun a204 cs205 r206 d207 => ?_
        refine LP_load 1 rfl rfl rfl ti_3 ag_3 rfl r206 d207 ex190 fun vx208 r209 => ?_
        obtain rfl := r209.int
        refine LP_ev ok 2 [(19, I x201)] 3 rfl rfl ?_
        refine LP_end _ rfl ?_
        refine W_seq ?_
        refine W_region ?_
        refine LP_ev ok 0 [(62, I bound), (63, .slice a11 (List.length weights) c12), (64, I x201)] 3 rfl rfl ?_
        obtain ⟨x210, hi211, hx212, H⟩ := H
        refine LP_index 3 rfl rfl rfl Try.underlying24 ti_3 rfl rfl r9 hi211 hx212 fun a213 cs214 r215 d216 => ?_
        have ex217 := ((((ex69.ext x161).but y (Dj.of_fresh ex69 f163).symm).ext x170).ext x186)
        refine LP_load 4 rfl rfl rfl ti_3 ag_3 rfl r215 d216 ex217 fun vx218 r219 => ?_
        obtain rfl := r219.int
        refine LP_ev ok 5 [(67, I (mn bound x210)), (16, I (mn bound x210))] 7 rfl rfl ?_
        refine LP_end _ rfl ?_
        refine W_region ?_
        refine LP_ev ok 0 [(68, I mask), (69, I x201)] 2 rfl rfl ?_
        obtain ⟨hz, H⟩ := H
        refine LP_val 2 _ rfl rfl (ex_shl rfl rfl rfl hz _) ?_
        refine LP_ev ok 3 [(71, I (bits .or .i64 mask (shl .i64 1 x201))), (17, I (bits .or .i64 mask (shl .i64 1 x201)))] 5 rfl rfl ?_
        refine LP_end _ rfl ?_
        refine W_region ?_
        refine LP_ev ok 0 [(72, I (wr (x194 + 1))), (58, I (wr (x194 + 1)))] 2 rfl rfl ?_
        refine LP_end _ rfl ?_
        exact ⟨(mn bound x210, bits .or .i64 mask (shl .i64 1 x201), wr (x194 + 1)), ⟨H.1, _, env_eq ⟨rfl, rfl, rfl, rfl, rfl, rfl, rfl, rfl, rfl, rfl, rfl, rfl, rfl, rfl, rfl, trivial⟩, rfl⟩, H.2⟩
      have H := H.2 hc200
      refine W_exit ?_
      refine (if_pos rfl).mpr ?_
      refine W_seq ?_
      obtain ⟨k222, hk223, H⟩ := jn_elim H
      refine W_join2 (S := Bool) (fun s ρ' w' => k222 s ∧ ∃ (ρ : Env), ρ' = setAll [(0, .slice a (List.length sx) c), (2, .slice a11 (List.length weights) c12), (3, .slice a17 (List.length values) c18), (11, .slice a72 (List.length failed) c73), (12, .slice a74 (List.length bounds) c75), (13, .slice a76 (List.length masks) c77), (14, I x66), (16, I bound), (17, I mask), (43, .slice a49 (List.length r43) c50), (44, I (ln r43)), (45, I x66), (79, .bool s)] ρ ∧ wx185 = w') ?_ ?_
      · refine W_region ?_
        refine LP_ev ok 0 [(73, I mask), (74, .bool (mask == 0)), (75, .bool (mask == 0))] 3 rfl rfl ?_
        refine LP_split 75 (mask == 0) rfl (fun hc224 => ?_) (fun hc224 => ?_)
        · have H := H.1 hc224
          refine LP_ev ok 3 [(76, undef), (77, undef), (78, undef), (79, .bool true)] 7 rfl rfl ?_
          refine LP_end _ rfl ?_
          exact ⟨true, H, _, env_eq ⟨rfl, rfl, rfl, rfl, rfl, rfl, rfl, rfl, rfl, rfl, rfl, rfl, rfl, trivial⟩, rfl⟩
        have H := H.2 hc224
        refine LP_ev ok 3 [(76, .slice a72 (List.length failed) c73), (77, I (ln failed)), (78, .bool ((ln failed) == 12)), (79, .bool ((ln failed) == 12))] 7 rfl rfl ?_
        refine LP_end _ rfl ?_
        exact ⟨(ln failed) == 12, H, _, env_eq ⟨rfl, rfl, rfl, rfl, rfl, rfl, rfl, rfl, rfl, rfl, rfl, rfl, rfl, trivial⟩, rfl⟩
      rintro x220 _ _ ⟨H, ρ, rfl, rfl⟩
      subst hk223
      refine W_cond (x220) rfl (fun hc225 => ?_) (fun hc225 => ?_)
      · have H := H.1 hc225
        refine W_seq ?_
        refine W_region ?_
        refine LP_ev ok 0 [(8, I 0), (9, .slice none 0 0), (10, .bool false)] 3 rfl rfl ?_
        refine LP_end _ rfl ?_
        refine W_ret ?_
        have f226 := f163.mono X92.size
        have X227 := ((((X92.stepx x161).step y (f226.dom _)).stepx x170).stepx x186)
        exact ⟨_, Ret_of [I 0, .slice none 0 0, .bool false] ⟨⟨rfl, rfl⟩, ⟨rfl, rfl⟩, ⟨rfl, rfl⟩, trivial⟩, _, _, _, _, emp, H, rfl, X227.ext, OS.nil, (emp_sub _), (emp_fresh _)⟩
      have H := H.2 hc225
      refine W_skip ?_
      refine W_region ?_
      refine LP_ev ok 0 [(80, .slice a72 (List.length failed) c73), (81, I x66)] 2 rfl rfl ?_
      refine LP_lit (α := Int) (g := emp) 2 (vs := [I x66]) (xs := [x66]) rfl rfl rfl Try.underlying24 ti_3 rfl rfl ⟨⟨_, rfl, rfl⟩, trivial⟩ rfl rfl fun hx228 vx229 wx230 x231 o232 ex233 f234 => ?_
      obtain ⟨a235, c236, rfl⟩ := o232.shape
      have ex237 := (((((ex54.ext x161).but y (Dj.of_fresh ex54 f163).symm).ext x170).ext x186).ext x231)
      obtain ⟨hb, H⟩ := H
      refine LP_appendf (α := Int) 3 rfl rfl rfl Try.underlying24 ti_3 rfl rfl rfl o53 ex237 o232.readf ex233 (by first | omega | (simp only [ln] at *; omega)) (by first | omega | (simp only [ln] at *; omega)) fun hx238 vx239 wx240 o241 ex242 y243 dm => ?_
      obtain ⟨a244, c245, rfl⟩ := o241.shape
      refine LP_ev ok 4 [(84, .slice a74 (List.length bounds) c75), (85, I bound)] 6 rfl rfl ?_
      refine LP_lit (α := Int) (g := emp) 6 (vs := [I bound]) (xs := [bound]) rfl rfl rfl Try.underlying24 ti_3 rfl rfl ⟨⟨_, rfl, rfl⟩, trivial⟩ rfl rfl fun hx246 vx247 wx248 x249 o250 ex251 f252 => ?_
      obtain ⟨a253, c254, rfl⟩ := o250.shape
      have ex255 := (((((((ex59.ext x161).but y (Dj.of_fresh ex59 f163).symm).ext x170).ext x186).ext x231).but y243 d85.symm).ext x249)
      obtain ⟨hb256, H⟩ := H
      refine LP_appendf (α := Int) 7 rfl rfl rfl Try.underlying24 ti_3 rfl rfl rfl o58 ex255 o250.readf ex251 (by first | omega | (simp only [ln] at *; omega)) (by first | omega | (simp only [ln] at *; omega)) fun hx257 vx258 wx259 o260 ex261 y262 dm263 => ?_
      obtain ⟨a264, c265, rfl⟩ := o260.shape
      refine LP_ev ok 8 [(88, .slice a76 (List.length masks) c77), (89, I mask)] 10 rfl rfl ?_
      refine LP_lit (α := Int) (g := emp) 10 (vs := [I mask]) (xs := [mask]) rfl rfl rfl Try.underlying24 ti_3 rfl rfl ⟨⟨_, rfl, rfl⟩, trivial⟩ rfl rfl fun hx266 vx267 wx268 x269 o270 ex271 f272 => ?_
      obtain ⟨a273, c274, rfl⟩ := o270.shape
      have ex275 := (((((((((ex64.ext x161).but y (Dj.of_fresh ex64 f163).symm).ext x170).ext x186).ext x231).but y243 d90.symm).ext x249).but y262 d91.symm).ext x269)
      obtain ⟨hb276, H⟩ := H
      refine LP_appendf (α := Int) 11 rfl rfl rfl Try.underlying24 ti_3 rfl rfl rfl o63 ex275 o270.readf ex271 (by first | omega | (simp only [ln] at *; omega)) (by first | omega | (simp only [ln] at *; omega)) fun hx277 vx278 wx279 o280 ex281 y282 dm283 => ?_
      obtain ⟨a284, c285, rfl⟩ := o280.shape
      refine LP_ev ok 12 [(11, .slice a244 (List.length (failed ++ ([x66]))) c245), (12, .slice a264 (List.length (bounds ++ ([bound]))) c265), (13, .slice a284 (List.length (masks ++ ([mask]))) c285)] 15 rfl rfl ?_
      refine LP_end _ rfl ?_
      have f286 := f163.mono X92.size
      have X287 := ((((((((((X92.stepx x161).step y (f286.dom _)).stepx x170).stepx x186).stepx x231).step y243 (f55.dom _)).stepx x249).step y262 (f60.dom _)).stepx x269).step y282 (f65.dom _))
      have ex288 := (((((ex59.ext x161).but y (Dj.of_fresh ex59 f163).symm).ext x170).ext x186).ext x231)
      have ex289 := (((((ex64.ext x161).but y (Dj.of_fresh ex64 f163).symm).ext x170).ext x186).ext x231)
      have ex290 := ((((ex242.ext x249).but y262 (DomLe.dj dm d85.symm ex288).symm).ext x269).but y282 (DomLe.dj dm d90.symm ex289).symm)
      have X292 := (((((X92.stepx x161).step y (f286.dom _)).stepx x170).stepx x186).stepx x231)
      have f291 := dm.fresh f55 X292.size
      have ex293 := ((ex289.but y243 d90.symm).ext x249)
      have ex294 := ((ex261.ext x269).but y282 (DomLe.dj dm263 d91.symm ex293).symm)
      have X296 := ((X292.step y243 (f55.dom _)).stepx x249)
      have f295 := dm263.fresh f60 X296.size
      have X298 := ((X296.step y262 (f60.dom _)).stepx x269)
      have f297 := dm283.fresh f65 X298.size
      have ex299 := (((((((ex183.ext x186).ext x231).but y243 d).ext x249).but y262 d81).ext x269).but y282 d86)
      have ex300 := ((((((((((ex69.ext x161).but y (Dj.of_fresh ex69 f163).symm).ext x170).ext x186).ext x231).but y243 d78).ext x249).but y262 d82).ext x269).but y282 d87)
      have ex301 := ((((((((ex168.ext x170).ext x186).ext x231).but y243 d79).ext x249).but y262 d83).ext x269).but y282 d88)
      have ex302 := (((((((ex184.ext x186).ext x231).but y243 d80).ext x249).but y262 d84).ext x269).but y282 d89)
      have ex303 := ((ex183.ext x186).ext x231)
      have ex304 := (((((ex69.ext x161).but y (Dj.of_fresh ex69 f163).symm).ext x170).ext x186).ext x231)
      have ex305 := (((ex168.ext x170).ext x186).ext x231)
      have ex306 := ((ex184.ext x186).ext x231)
      have ex307 := ((ex303.but y243 d).ext x249)
      have ex308 := ((ex304.but y243 d78).ext x249)
      have ex309 := ((ex305.but y243 d79).ext x249)
      have ex310 := ((ex306.but y243 d80).ext x249)
      have ex311 := (ex242.ext x249)
      have ex312 := ((ex307.but y262 d81).ext x269)
      have ex313 := ((ex308.but y262 d82).ext x269)
      have ex314 := ((ex309.but y262 d83).ext x269)
      have ex315 := ((ex310.but y262 d84).ext x269)
      have ex316 := ((ex311.but y262 (DomLe.dj dm d85.symm ex288).symm).ext x269)
      have ex317 := (ex261.ext x269)
      exact ⟨(failed ++ ([x66]), bounds ++ ([bound]), masks ++ ([mask])), H, _, .slice a244 (List.length (failed ++ ([x66]))) c245, hx238, .slice a264 (List.length (bounds ++ ([bound]))) c265, hx257, .slice a284 (List.length (masks ++ ([mask]))) c285, hx277, env_eq ⟨rfl, rfl, rfl, rfl, rfl, rfl, rfl, rfl, rfl, trivial⟩, X287, o241, ex290, f291, o260, ex294, f295, o280, ex281, f297, ex299, ex300, ex301, ex302, (DomLe.dj dm d ex303), (DomLe.dj dm d78 ex304), (DomLe.dj dm d79 ex305), (DomLe.dj dm d80 ex306), (DomLe.dj dm263 d81 ex307), (DomLe.dj dm263 d82 ex308), (DomLe.dj dm263 d83 ex309), (DomLe.dj dm263 d84 ex310), (DomLe.dj dm263 (DomLe.dj dm d85.symm ex288).symm ex311), (DomLe.dj dm283 d86 ex312), (DomLe.dj dm283 d87 ex313), (DomLe.dj dm283 d88 ex314), (DomLe.dj dm283 d89 ex315), (DomLe.dj dm283 (DomLe.dj dm d90.symm ex289).symm ex316), (DomLe.dj dm283 (DomLe.dj dm263 d91.symm ex293).symm ex317)⟩
    rintro ⟨failed98, bounds104, masks110⟩ _ wx116 ⟨H, ρ, vx99, hx100, vx105, hx106, vx111, hx112, rfl, X142, o101, ex102, f103, o107, ex108, f109, o113, ex114, f115, ex117, ex118, ex119, ex120, d127, d128, d129, d130, d131, d132, d133, d134, d135, d136, d137, d138, d139, d140, d141⟩
    subst hk144
    obtain ⟨a121, c122, rfl⟩ := o101.shape
    obtain ⟨a123, c124, rfl⟩ := o107.shape
    obtain ⟨a125, c126, rfl⟩ := o113.shape
    refine W_region ?_
    refine LP_ev ok 0 [(92, I (wr (x66 + 1))), (45, I (wr (x66 + 1)))] 2 rfl rfl ?_
    refine LP_end _ rfl ?_
    exact ⟨(failed98, bounds104, masks110, wr (x66 + 1)), ⟨H.1, _, .slice a121 (List.length failed98) c122, hx100, .slice a123 (List.length bounds104) c124, hx106, .slice a125 (List.length masks110) c126, hx112, env_eq ⟨rfl, rfl, rfl, rfl, rfl, rfl, rfl, rfl, rfl, trivial⟩, X142, o101, ex102, f103, o107, ex108, f109, o113, ex114, f115, ex117, ex118, ex119, ex120, d127, d128, d129, d130, d131, d132, d133, d134, d135, d136, d137, d138, d139, d140, d141⟩, H.2⟩
  have H := H.2 hc97
  refine W_exit ?_
  refine (if_pos rfl).mpr ?_
  refine W_seq ?_
  refine W_region ?_
  refine LP_ev ok 0 [(20, I 0), (21, I 0)] 2 rfl rfl ?_
  refine LP_end _ rfl ?_
  refine W_seq ?_
  refine W_seq ?_
  refine W_region ?_
  refine LP_ev ok 0 [(22, I 1)] 1 rfl rfl ?_
  refine LP_end _ rfl ?_
  refine W_block ?_
  obtain ⟨J323, m324, Hx325, H⟩ := H
  refine W_loop (S := Int × Int × Int) (fun s ρ' w' => J323 s.1 s.2.1 s.2.2 ∧ ∃ (ρ : Env), ρ' = setAll [(11, .slice a72 (List.length failed) c73), (12, .slice a74 (List.length bounds) c75), (13, .slice a76 (List.length masks) c77), (20, I s.1), (21, I s.2.1), (22, I s.2.2)] ρ ∧ But emp w w' ∧ Sub hx52 w' ∧ Sub hx57 w' ∧ Sub hx62 w') (fun s => m324 s.1 s.2.1 s.2.2) (0, 0, 1) ⟨Hx325, _, env_eq ⟨rfl, rfl, rfl, rfl, rfl, rfl, trivial⟩, X92, ex54, ex59, ex64⟩ ?_
  rintro ⟨best, chosen, setx⟩ _ wx318 ⟨Hi, ρ, rfl, X322, ex319, ex320, ex321⟩
  have H := H best chosen setx Hi
  refine W_seq ?_
  refine W_seq ?_
  refine W_region ?_
  refine LP_ev ok 0 [(93, I setx), (94, .slice a72 (List.length failed) c73), (95, I (ln failed))] 3 rfl rfl ?_
  obtain ⟨hz327, H⟩ := H
  refine LP_val 3 _ rfl rfl (ex_shl rfl rfl rfl hz327 _) ?_
  refine LP_ev ok 4 [(97, .bool (decide (setx < (shl .i64 1 (ln failed)))))] 5 rfl rfl ?_
  refine LP_end _ rfl ?_
  refine W_cond (decide (setx < (shl .i64 1 (ln failed)))) rfl (fun hc328 => ?_) (fun hc328 => ?_)
  · have H := H.1 hc328
    refine W_skip ?_
    obtain ⟨k336, hk337, H⟩ := jn_elim H
    refine W_join2 (S := Int × Int) (fun s ρ' w' => k336 s.1 s.2 ∧ ∃ (ρ : Env), ρ' = setAll [(11, .slice a72 (List.length failed) c73), (12, .slice a74 (List.length bounds) c75), (13, .slice a76 (List.length masks) c77), (20, I s.1), (21, I s.2), (22, I setx)] ρ ∧ But emp w w' ∧ Sub hx52 w' ∧ Sub hx57 w' ∧ Sub hx62 w') ?_ ?_
    · refine W_block ?_
      refine W_seq ?_
      refine W_region ?_
      refine LP_ev ok 0 [(23, I 0), (24, I 0)] 2 rfl rfl ?_
      refine LP_end _ rfl ?_
      obtain ⟨k343, hk344, H⟩ := jn_elim H
      refine W_join2 (S := Int) (fun s ρ' w' => k343 s ∧ ∃ (ρ : Env), ρ' = setAll [(11, .slice a72 (List.length failed) c73), (12, .slice a74 (List.length bounds) c75), (13, .slice a76 (List.length masks) c77), (20, I best), (21, I chosen), (22, I setx), (23, I s)] ρ ∧ But emp w w' ∧ Sub hx52 w' ∧ Sub hx57 w' ∧ Sub hx62 w') ?_ ?_
      · refine W_seq ?_
        refine W_region ?_
        refine LP_ev ok 0 [(100, I setx)] 1 rfl rfl ?_
        refine LP_call 1 rfl rfl rfl cal_138 rfl (impl_membersOf_w _ _ H wx318 ) ?_
        rintro _ wx346 ⟨r345, vx348, hx349, H, rfl, x347, o350, ex351, f352⟩
        obtain ⟨a353, c354, rfl⟩ := o350.shape
        refine LP_ev ok 2 [(102, I (ln r345)), (103, I 0)] 4 rfl rfl ?_
        refine LP_end _ rfl ?_
        refine W_block ?_
        obtain ⟨J358, m359, Hx360, H⟩ := H
        refine W_loop (S := Int × Int × Int) (fun s ρ' w' => J358 s.1 s.2.1 s.2.2 ∧ ∃ (ρ : Env), ρ' = setAll [(11, .slice a72 (List.length failed) c73), (12, .slice a74 (List.length bounds) c75), (13, .slice a76 (List.length masks) c77), (20, I best), (21, I chosen), (22, I setx), (23, I s.1), (24, I s.2.1), (101, .slice a353 (List.length r345) c354), (102, I (ln r345)), (103, I s.2.2)] ρ ∧ wx346 = w') (fun s => m359 s.1 s.2.1 s.2.2) (0, 0, 0) ⟨Hx360, _, env_eq ⟨rfl, rfl, rfl, rfl, rfl, rfl, rfl, rfl, rfl, rfl, rfl, trivial⟩, rfl⟩ ?_
        rintro ⟨sum355, used, x356⟩ _ _ ⟨Hi, ρ, rfl, rfl⟩
        have H := H sum355 used x356 Hi
        refine W_seq ?_
        refine W_region ?_
        refine LP_ev ok 0 [(104, .bool (decide (x356 < (ln r345))))] 1 rfl rfl ?_
        refine LP_end _ rfl ?_
        refine W_seq ?_
        refine W_cond (decide (x356 < (ln r345))) rfl (fun hc362 => ?_) (fun hc362 => ?_)
        · have H := H.1 hc362
          refine W_skip ?_
          refine W_seq ?_
          refine W_block ?_
          refine W_seq ?_
          refine W_region ?_
          obtain ⟨x363, hi364, hx365, H⟩ := H
          refine LP_index 0 rfl rfl rfl Try.underlying24 ti_3 rfl rfl o350.readf hi364 hx365 fun a366 cs367 r368 d369 => ?_
          refine LP_load 1 rfl rfl rfl ti_3 ag_3 rfl r368 d369 ex351 fun vx370 r371 => ?_
          obtain rfl := r371.int
          refine LP_ev ok 2 [(26, I x363)] 3 rfl rfl ?_
          refine LP_end _ rfl ?_
          refine W_seq ?_
          refine W_seq ?_
          refine W_region ?_
          refine LP_ev ok 0 [(107, I used), (108, .slice a76 (List.length masks) c77), (109, I x363)] 3 rfl rfl ?_
          obtain ⟨x372, hi373, hx374, H⟩ := H
          refine LP_index 3 rfl rfl rfl Try.underlying24 ti_3 rfl rfl o63.readf hi373 hx374 fun a375 cs376 r377 d378 => ?_
          have ex379 := (ex321.ext x347)
          refine LP_load 4 rfl rfl rfl ti_3 ag_3 rfl r377 d378 ex379 fun vx380 r381 => ?_
          obtain rfl := r381.int
          refine LP_ev ok 5 [(112, I (bits .and .i64 used x372)), (113, .bool ((bits .and .i64 used x372) != 0))] 7 rfl rfl ?_
          refine LP_end _ rfl ?_
          refine W_cond ((bits .and .i64 used x372) != 0) rfl (fun hc382 => ?_) (fun hc382 => ?_)
          · have H := H.1 hc382
            refine W_seq ?_
            refine W_region ?_
            refine LP_ev ok 0 [(23, I ((-1)))] 1 rfl rfl ?_
            refine LP_end _ rfl ?_
            refine W_exit ?_
            refine (if_neg (by decide)).mpr ?_
            refine (if_pos rfl).mpr ?_
            have X383 := (X322.stepx x347)
            have ex384 := (ex319.ext x347)
            have ex385 := (ex320.ext x347)
            exact ⟨(-1), H, _, env_eq ⟨rfl, rfl, rfl, rfl, rfl, rfl, rfl, trivial⟩, X383, ex384, ex385, ex379⟩
          have H := H.2 hc382
          refine W_skip ?_
          refine W_seq ?_
          refine W_region ?_
          refine LP_ev ok 0 [(114, I used), (115, .slice a76 (List.length masks) c77), (116, I x363)] 3 rfl rfl ?_
          obtain ⟨x386, hi387, hx388, H⟩ := H
          refine LP_index 3 rfl rfl rfl Try.underlying24 ti_3 rfl rfl o63.readf hi387 hx388 fun a389 cs390 r391 d392 => ?_
          refine LP_load 4 rfl rfl rfl ti_3 ag_3 rfl r391 d392 ex379 fun vx393 r394 => ?_
          obtain rfl := r394.int
          refine LP_ev ok 5 [(119, I (bits .or .i64 used x386)), (24, I (bits .or .i64 used x386))] 7 rfl rfl ?_
          refine LP_end _ rfl ?_
          refine W_region ?_
          refine LP_ev ok 0 [(120, I sum355), (121, .slice a74 (List.length bounds) c75), (122, I x363)] 3 rfl rfl ?_
          obtain ⟨x395, hi396, hx397, H⟩ := H
          refine LP_index 3 rfl rfl rfl Try.underlying24 ti_3 rfl rfl o58.readf hi396 hx397 fun a398 cs399 r400 d401 => ?_
          have ex402 := (ex320.ext x347)
          refine LP_load 4 rfl rfl rfl ti_3 ag_3 rfl r400 d401 ex402 fun vx403 r404 => ?_
          obtain rfl := r404.int
          refine LP_ev ok 5 [(125, I (wr (sum355 + x395))), (23, I (wr (sum355 + x395)))] 7 rfl rfl ?_
          refine LP_end _ rfl ?_
          try refine W_forget [(11, .slice a72 (List.length failed) c73), (12, .slice a74 (List.length bounds) c75), (13, .slice a76 (List.length masks) c77), (20, I best), (21, I chosen), (22, I setx), (23, I (wr (sum355 + x395))), (24, I (bits .or .i64 used x386)), (101, .slice a353 (List.length r345) c354), (102, I (ln r345)), (103, I x356)] ⟨rfl, rfl, rfl, rfl, rfl, rfl, rfl, rfl, rfl, rfl, rfl, trivial⟩ fun ρ => ?_
          refine W_region ?_
          refine LP_ev ok 0 [(126, I (wr (x356 + 1))), (103, I (wr (x356 + 1)))] 2 rfl rfl ?_
          refine LP_end _ rfl ?_
          exact ⟨(wr (sum355 + x395), bits .or .i64 used x386, wr (x356 + 1)), ⟨H.1, _, env_eq ⟨rfl, rfl, rfl, rfl, rfl, rfl, rfl, rfl, rfl, rfl, rfl, trivial⟩, rfl⟩, H.2⟩
        have H := H.2 hc362
        refine W_exit ?_
        refine (if_pos rfl).mpr ?_
        have X405 := (X322.stepx x347)
        have ex406 := (ex319.ext x347)
        have ex407 := (ex320.ext x347)
        have ex408 := (ex321.ext x347)
        exact ⟨sum355, H, _, env_eq ⟨rfl, rfl, rfl, rfl, rfl, rfl, rfl, trivial⟩, X405, ex406, ex407, ex408⟩
      rintro sum _ wx338 ⟨H, ρ, rfl, X342, ex339, ex340, ex341⟩
      subst hk344
      refine W_seq ?_
      refine W_region ?_
      refine LP_ev ok 0 [(127, I sum), (128, I best), (129, .bool (decide (sum > best)))] 3 rfl rfl ?_
      refine LP_end _ rfl ?_
      refine W_cond (decide (sum > best)) rfl (fun hc409 => ?_) (fun hc409 => ?_)
      · have H := H.1 hc409
        refine W_region ?_
        refine LP_ev ok 0 [(130, I sum), (131, I setx), (20, I sum), (21, I setx)] 4 rfl rfl ?_
        refine LP_end _ rfl ?_
        exact ⟨(sum, setx), H, _, env_eq ⟨rfl, rfl, rfl, rfl, rfl, rfl, trivial⟩, X342, ex339, ex340, ex341⟩
      have H := H.2 hc409
      refine W_skip ?_
      exact ⟨(best, chosen), H, _, env_eq ⟨rfl, rfl, rfl, rfl, rfl, rfl, trivial⟩, X342, ex339, ex340, ex341⟩
    rintro ⟨best329, chosen330⟩ _ wx331 ⟨H, ρ, rfl, X335, ex332, ex333, ex334⟩
    subst hk337
    refine W_region ?_
    refine LP_ev ok 0 [(98, I setx), (99, I (wr (setx + 1))), (22, I (wr (setx + 1)))] 3 rfl rfl ?_
    refine LP_end _ rfl ?_
    exact ⟨(best329, chosen330, wr (setx + 1)), ⟨H.1, _, env_eq ⟨rfl, rfl, rfl, rfl, rfl, rfl, trivial⟩, X335, ex332, ex333, ex334⟩, H.2⟩
  have H := H.2 hc328
  refine W_exit ?_
  refine (if_pos rfl).mpr ?_
  refine W_seq ?_
  refine W_region ?_
  refine LP_ev ok 0 [(27, .slice none 0 0)] 1 rfl rfl ?_
  refine LP_end _ rfl ?_
  refine W_seq ?_
  refine W_seq ?_
  refine W_region ?_
  refine LP_ev ok 0 [(132, I chosen)] 1 rfl rfl ?_
  refine LP_call 1 rfl rfl rfl cal_138 rfl (impl_membersOf_w _ _ H wx318 ) ?_
  rintro _ wx411 ⟨r410, vx413, hx414, H, rfl, x412, o415, ex416, f417⟩
  obtain ⟨a418, c419, rfl⟩ := o415.shape
  refine LP_ev ok 2 [(134, I (ln r410)), (135, I 0)] 4 rfl rfl ?_
  refine LP_end _ rfl ?_
  refine W_block ?_
  have X437 := (X322.stepx x412)
  have ex438 := (ex319.ext x412)
  obtain ⟨J434, m435, Hx436, H⟩ := H
  refine W_loop (S := (List Int) × Int) (fun s ρ' w' => J434 s.1 s.2 ∧ ∃ (ρ : Env) (vx420 : Value) (hx421 : PH), ρ' = setAll [(11, .slice a72 (List.length failed) c73), (20, I best), (27, vx420), (133, .slice a418 (List.length r410) c419), (134, I (ln r410)), (135, I s.2)] ρ ∧ But emp w w' ∧ OS 3 hx421 emp vx420 s.1 ∧ Sub hx421 w' ∧ Fresh w.heap.size hx421 ∧ Sub hx52 w' ∧ Sub hx414 w' ∧ Dj hx421 hx52 ∧ Dj hx421 hx414) (fun s => m435 s.1 s.2) ([], 0) ⟨Hx436, _, .slice none 0 0, emp, env_eq ⟨rfl, rfl, rfl, rfl, rfl, rfl, trivial⟩, X437, OS.nil, (emp_sub _), (emp_fresh _), ex438, ex416, (fun _ => .inl rfl), (fun _ => .inl rfl)⟩ ?_
  rintro ⟨indices, x425⟩ _ wx426 ⟨Hi, ρ, vx420, hx421, rfl, X433, o422, ex423, f424, ex427, ex428, d431, d432⟩
  have H := H indices x425 Hi
  obtain ⟨a429, c430, rfl⟩ := o422.shape
  refine W_seq ?_
  refine W_region ?_
  refine LP_ev ok 0 [(136, .bool (decide (x425 < (ln r410))))] 1 rfl rfl ?_
  refine LP_end _ rfl ?_
  refine W_seq ?_
  refine W_cond (decide (x425 < (ln r410))) rfl (fun hc440 => ?_) (fun hc440 => ?_)
  · have H := H.1 hc440
    refine W_skip ?_
    refine W_seq ?_
    refine W_block ?_
    refine W_seq ?_
    refine W_region ?_
    obtain ⟨x441, hi442, hx443, H⟩ := H
    refine LP_index 0 rfl rfl rfl Try.underlying24 ti_3 rfl rfl o415.readf hi442 hx443 fun a444 cs445 r446 d447 => ?_
    refine LP_load 1 rfl rfl rfl ti_3 ag_3 rfl r446 d447 ex428 fun vx448 r449 => ?_
    obtain rfl := r449.int
    refine LP_ev ok 2 [(29, I x441)] 3 rfl rfl ?_
    refine LP_end _ rfl ?_
    refine W_region ?_
    refine LP_ev ok 0 [(139, .slice a429 (List.length indices) c430), (140, .slice a72 (List.length failed) c73), (141, I x441)] 3 rfl rfl ?_
    obtain ⟨x450, hi451, hx452, H⟩ := H
    refine LP_index 3 rfl rfl rfl Try.underlying24 ti_3 rfl rfl o53.readf hi451 hx452 fun a453 cs454 r455 d456 => ?_
    refine LP_load 4 rfl rfl rfl ti_3 ag_3 rfl r455 d456 ex427 fun vx457 r458 => ?_
    obtain rfl := r458.int
    refine LP_lit (α := Int) (g := emp) 5 (vs := [I x450]) (xs := [x450]) rfl rfl rfl Try.underlying24 ti_3 rfl rfl ⟨⟨_, rfl, rfl⟩, trivial⟩ rfl rfl fun hx459 vx460 wx461 x462 o463 ex464 f465 => ?_
    obtain ⟨a466, c467, rfl⟩ := o463.shape
    have ex468 := (ex423.ext x462)
    obtain ⟨hb469, H⟩ := H
    refine LP_appendf (α := Int) 6 rfl rfl rfl Try.underlying24 ti_3 rfl rfl rfl o422 ex468 o463.readf ex464 (by first | omega | (simp only [ln] at *; omega)) (by first | omega | (simp only [ln] at *; omega)) fun hx470 vx471 wx472 o473 ex474 y475 dm476 => ?_
    obtain ⟨a477, c478, rfl⟩ := o473.shape
    refine LP_ev ok 7 [(27, .slice a477 (List.length (indices ++ ([x450]))) c478)] 8 rfl rfl ?_
    refine LP_end _ rfl ?_
    refine W_region ?_
    refine LP_ev ok 0 [(146, I (wr (x425 + 1))), (135, I (wr (x425 + 1)))] 2 rfl rfl ?_
    refine LP_end _ rfl ?_
    have X479 := ((X433.stepx x462).step y475 (f424.dom _))
    have X481 := (X433.stepx x462)
    have f480 := dm476.fresh f424 X481.size
    have ex482 := ((ex427.ext x462).but y475 d431)
    have ex483 := ((ex428.ext x462).but y475 d432)
    have ex484 := (ex427.ext x462)
    have ex485 := (ex428.ext x462)
    exact ⟨(indices ++ ([x450]), wr (x425 + 1)), ⟨H.1, _, .slice a477 (List.length (indices ++ ([x450]))) c478, hx470, env_eq ⟨rfl, rfl, rfl, rfl, rfl, rfl, trivial⟩, X479, o473, ex474, f480, ex482, ex483, (DomLe.dj dm476 d431 ex484), (DomLe.dj dm476 d432 ex485)⟩, H.2⟩
  have H := H.2 hc440
  refine W_exit ?_
  refine (if_pos rfl).mpr ?_
  refine W_seq ?_
  refine W_region ?_
  refine LP_ev ok 0 [(147, I best), (148, .slice a429 (List.length indices) c430), (8, I best), (9, .slice a429 (List.length indices) c430), (10, .bool true)] 5 rfl rfl ?_
  refine LP_end _ rfl ?_
  refine W_ret ?_
  exact ⟨_, Ret_of [I best, .slice a429 (List.length indices) c430, .bool true] ⟨⟨rfl, rfl⟩, ⟨rfl, rfl⟩, ⟨rfl, rfl⟩, trivial⟩, _, _, _, _, _, H, rfl, X433.ext, o422, ex423, f424⟩

set_option maxRecDepth 8000 in
set_option maxHeartbeats 4000000 in
theorem laws_FnExactPackingBound_w (aS : List Variable) (aL : List Edit) (aWeights : List Int) (aValues : List Int) (Q : Bool → Prop) (H : laws_FnExactPackingBound aS aL aWeights aValues Q) (w : World) {vx : Value} {hx : PH} (r : RS hx vx aS) (ex : Sub hx w) {vx1 : Value} {hx2 : PH} (r3 : RS hx2 vx1 aL) (ex4 : Sub hx2 w) {vx7 : Value} {hx8 : PH} (r9 : RS hx8 vx7 aWeights) (ex10 : Sub hx8 w) {vx13 : Value} {hx14 : PH} (r15 : RS hx14 vx13 aValues) (ex16 : Sub hx14 w) :
    CallsTo Try.prog 12 #[vx, vx1, vx7, vx13] w fun v w' => ∃ r0, Q r0 ∧ v = .bool r0 ∧ Ext w w' := by
  obtain ⟨a, c, rfl⟩ := r.shape
  obtain ⟨a5, c6, rfl⟩ := r3.shape
  obtain ⟨a11, c12, rfl⟩ := r9.shape
  obtain ⟨a17, c18, rfl⟩ := r15.shape
  refine enter (args := [.slice a (List.length aS) c, .slice a5 (List.length aL) c6, .slice a11 (List.length aWeights) c12, .slice a17 (List.length aValues) c18]) 182 Try.func12 rfl rfl rfl ?_
  refine W_forget [(0, .slice a (List.length aS) c), (1, .slice a5 (List.length aL) c6), (2, .slice a11 (List.length aWeights) c12), (3, .slice a17 (List.length aValues) c18)] ⟨rfl, rfl, rfl, rfl, trivial⟩ fun ρ => ?_
  have X := But.refl emp w
  refine W_seq ?_
  refine W_region ?_
  refine LP_ev ok 0 [(8, .bool false)] 1 rfl rfl ?_
  refine LP_end _ rfl ?_
  refine W_seq ?_
  refine W_seq ?_
  refine W_region ?_
  refine LP_ev ok 0 [(26, .slice a11 (List.length aWeights) c12), (27, I (ln aWeights)), (28, .bool (decide ((ln aWeights) > 1048576)))] 3 rfl rfl ?_
  refine LP_end _ rfl ?_
  refine W_cond (decide ((ln aWeights) > 1048576)) rfl (fun hc => ?_) (fun hc => ?_)
  · have H := H.1 hc
    refine W_seq ?_
    refine W_region ?_
    refine LP_ev ok 0 [(8, .bool true)] 1 rfl rfl ?_
    refine LP_end _ rfl ?_
    refine W_ret ?_
    exact ⟨_, Ret_of [.bool true] ⟨⟨rfl, rfl⟩, trivial⟩, _, H, rfl, X.ext⟩
  have H := H.2 hc
  refine W_skip ?_
  refine W_seq ?_
  refine W_seq ?_
  refine W_region ?_
  refine LP_ev ok 0 [(29, .slice a17 (List.length aValues) c18), (30, I (ln aValues)), (31, .bool (decide ((ln aValues) > 1048576)))] 3 rfl rfl ?_
  refine LP_end _ rfl ?_
  refine W_cond (decide ((ln aValues) > 1048576)) rfl (fun hc19 => ?_) (fun hc19 => ?_)
  · have H := H.1 hc19
    refine W_seq ?_
    refine W_region ?_
    refine LP_ev ok 0 [(8, .bool true)] 1 rfl rfl ?_
    refine LP_end _ rfl ?_
    refine W_ret ?_
    exact ⟨_, Ret_of [.bool true] ⟨⟨rfl, rfl⟩, trivial⟩, _, H, rfl, X.ext⟩
  have H := H.2 hc19
  refine W_skip ?_
  refine W_seq ?_
  refine W_region ?_
  refine LP_ev ok 0 [(9, I 1048576)] 1 rfl rfl ?_
  refine LP_end _ rfl ?_
  refine W_seq ?_
  refine W_region ?_
  refine LP_ev ok 0 [(32, .slice a (List.length aS) c), (33, I 1048576)] 2 rfl rfl ?_
  refine LP_call 2 rfl rfl rfl cal_14 rfl (laws_szVariableS_w _ _ _ H w r ex) ?_
  rintro _ wx ⟨r20, H, rfl, x⟩
  refine LP_ev ok 3 [(9, I r20)] 4 rfl rfl ?_
  refine LP_end _ rfl ?_
  refine W_seq ?_
  refine W_seq ?_
  refine W_region ?_
  refine LP_ev ok 0 [(35, I r20), (36, .bool (decide (r20 < 0)))] 2 rfl rfl ?_
  refine LP_end _ rfl ?_
  refine W_cond (decide (r20 < 0)) rfl (fun hc21 => ?_) (fun hc21 => ?_)
  · have H := H.1 hc21
    refine W_seq ?_
    refine W_region ?_
    refine LP_ev ok 0 [(8, .bool true)] 1 rfl rfl ?_
    refine LP_end _ rfl ?_
    refine W_ret ?_
    have X22 := (X.stepx x)
    exact ⟨_, Ret_of [.bool true] ⟨⟨rfl, rfl⟩, trivial⟩, _, H, rfl, X22.ext⟩
  have H := H.2 hc21
  refine W_skip ?_
  refine W_seq ?_
  refine W_region ?_
  refine LP_ev ok 0 [(37, .slice a5 (List.length aL) c6), (38, I r20)] 2 rfl rfl ?_
  have ex24 := (ex4.ext x)
  refine LP_call 2 rfl rfl rfl cal_15 rfl (laws_szEditS_w _ _ _ H wx r3 ex24) ?_
  rintro _ wx25 ⟨r23, H, rfl, x26⟩
  refine LP_ev ok 3 [(9, I r23)] 4 rfl rfl ?_
  refine LP_end _ rfl ?_
  refine W_seq ?_
  refine W_seq ?_
  refine W_region ?_
  refine LP_ev ok 0 [(40, I r23), (41, .bool (decide (r23 < 0)))] 2 rfl rfl ?_
  refine LP_end _ rfl ?_
  refine W_cond (decide (r23 < 0)) rfl (fun hc27 => ?_) (fun hc27 => ?_)
  · have H := H.1 hc27
    refine W_seq ?_
    refine W_region ?_
    refine LP_ev ok 0 [(8, .bool true)] 1 rfl rfl ?_
    refine LP_end _ rfl ?_
    refine W_ret ?_
    have X28 := ((X.stepx x).stepx x26)
    exact ⟨_, Ret_of [.bool true] ⟨⟨rfl, rfl⟩, trivial⟩, _, H, rfl, X28.ext⟩
  have H := H.2 hc27
  refine W_skip ?_
  refine W_seq ?_
  refine W_region ?_
  refine LP_ev ok 0 [(43, .slice a (List.length aS) c)] 1 rfl rfl ?_
  have ex30 := ((ex.ext x).ext x26)
  refine LP_call 1 rfl rfl rfl cal_17 rfl (laws_toVariableS_w _ _ H wx25 r ex30) ?_
  rintro _ wx31 ⟨r29, vx33, hx34, H, rfl, x32, o, ex35, f⟩
  obtain ⟨a36, c37, rfl⟩ := o.shape
  refine LP_ev ok 2 [(45, .slice a5 (List.length aL) c6)] 3 rfl rfl ?_
  have ex39 := ((ex24.ext x26).ext x32)
  refine LP_call 3 rfl rfl rfl cal_18 rfl (laws_toEditS_w _ _ H wx31 r3 ex39) ?_
  rintro _ wx40 ⟨r38, vx42, hx43, H, rfl, x41, o44, ex45, f46⟩
  obtain ⟨a47, c48, rfl⟩ := o44.shape
  refine LP_ev ok 4 [(47, .slice a11 (List.length aWeights) c12)] 5 rfl rfl ?_
  have ex50 := ((((ex10.ext x).ext x26).ext x32).ext x41)
  refine LP_call 5 rfl rfl rfl cal_19 rfl (laws_toIntS_w _ _ H wx40 r9 ex50) ?_
  rintro _ wx51 ⟨r49, vx53, hx54, H, rfl, x52, o55, ex56, f57⟩
  obtain ⟨a58, c59, rfl⟩ := o55.shape
  refine LP_ev ok 6 [(49, .slice a17 (List.length aValues) c18)] 7 rfl rfl ?_
  have ex61 := (((((ex16.ext x).ext x26).ext x32).ext x41).ext x52)
  refine LP_call 7 rfl rfl rfl cal_19 rfl (laws_toIntS_w _ _ H wx51 r15 ex61) ?_
  rintro _ wx62 ⟨r60, vx64, hx65, H, rfl, x63, o66, ex67, f68⟩
  obtain ⟨a69, c70, rfl⟩ := o66.shape
  have ex74 := (((ex35.ext x41).ext x52).ext x63)
  have ex75 := ((ex45.ext x52).ext x63)
  have ex76 := (ex56.ext x63)
  refine LP_call 8 rfl rfl rfl cal_61 rfl (spec_PackingBound_w _ _ _ _ _ H wx62 o.readf ex74 o44.readf ex75 o55.readf ex76 o66.readf ex67) ?_
  rintro _ wx77 ⟨r71, r72, r73, vx79, hx80, H, rfl, x78, o81, ex82, f83⟩
  obtain ⟨a84, c85, rfl⟩ := o81.shape
  refine LP_ev ok 9 [(42, .tuple #[I r71, .slice a84 (List.length r72) c85, .bool r73]), (52, I r71), (53, .slice a84 (List.length r72) c85), (54, .bool r73), (10, I r71), (11, .slice a84 (List.length r72) c85), (12, .bool r73)] 16 rfl rfl ?_
  refine LP_end _ rfl ?_
  try refine W_forget [(0, .slice a (List.length aS) c), (1, .slice a5 (List.length aL) c6), (2, .slice a11 (List.length aWeights) c12), (3, .slice a17 (List.length aValues) c18), (10, I r71), (11, .slice a84 (List.length r72) c85), (12, .bool r73)] ⟨rfl, rfl, rfl, rfl, rfl, rfl, rfl, trivial⟩ fun ρ => ?_
  refine W_seq ?_
  refine W_region ?_
  refine LP_ev ok 0 [(55, .slice a (List.length aS) c)] 1 rfl rfl ?_
  have ex87 := (((((ex30.ext x32).ext x41).ext x52).ext x63).ext x78)
  refine LP_call 1 rfl rfl rfl cal_17 rfl (laws_toVariableS_w _ _ H wx77 r ex87) ?_
  rintro _ wx88 ⟨r86, vx90, hx91, H, rfl, x89, o92, ex93, f94⟩
  obtain ⟨a95, c96, rfl⟩ := o92.shape
  refine LP_ev ok 2 [(13, .slice a95 (List.length r86) c96)] 3 rfl rfl ?_
  refine LP_end _ rfl ?_
  refine W_seq ?_
  refine W_region ?_
  refine LP_ev ok 0 [(57, .slice a5 (List.length aL) c6)] 1 rfl rfl ?_
  have ex98 := (((((ex39.ext x41).ext x52).ext x63).ext x78).ext x89)
  refine LP_call 1 rfl rfl rfl cal_18 rfl (laws_toEditS_w _ _ H wx88 r3 ex98) ?_
  rintro _ wx99 ⟨r97, vx101, hx102, H, rfl, x100, o103, ex104, f105⟩
  obtain ⟨a106, c107, rfl⟩ := o103.shape
  refine LP_ev ok 2 [(14, .slice a106 (List.length r97) c107)] 3 rfl rfl ?_
  refine LP_end _ rfl ?_
  refine W_seq ?_
  refine W_region ?_
  refine LP_ev ok 0 [(59, .slice a11 (List.length aWeights) c12)] 1 rfl rfl ?_
  have ex109 := (((((ex50.ext x52).ext x63).ext x78).ext x89).ext x100)
  refine LP_call 1 rfl rfl rfl cal_19 rfl (laws_toIntS_w _ _ H wx99 r9 ex109) ?_
  rintro _ wx110 ⟨r108, vx112, hx113, H, rfl, x111, o114, ex115, f116⟩
  obtain ⟨a117, c118, rfl⟩ := o114.shape
  refine LP_ev ok 2 [(15, .slice a117 (List.length r108) c118)] 3 rfl rfl ?_
  refine LP_end _ rfl ?_
  refine W_seq ?_
  refine W_region ?_
  refine LP_ev ok 0 [(61, .slice a17 (List.length aValues) c18)] 1 rfl rfl ?_
  have ex120 := (((((ex61.ext x63).ext x78).ext x89).ext x100).ext x111)
  refine LP_call 1 rfl rfl rfl cal_19 rfl (laws_toIntS_w _ _ H wx110 r15 ex120) ?_
  rintro _ wx121 ⟨r119, vx123, hx124, H, rfl, x122, o125, ex126, f127⟩
  obtain ⟨a128, c129, rfl⟩ := o125.shape
  refine LP_ev ok 2 [(16, .slice a128 (List.length r119) c129)] 3 rfl rfl ?_
  refine LP_end _ rfl ?_
  refine W_seq ?_
  refine W_region ?_
  refine LP_ev ok 0 [(64, .slice a95 (List.length r86) c96), (65, .slice a106 (List.length r97) c107), (66, .slice a117 (List.length r108) c118), (67, .slice a128 (List.length r119) c129)] 4 rfl rfl ?_
  have ex133 := (((ex93.ext x100).ext x111).ext x122)
  have ex134 := ((ex104.ext x111).ext x122)
  have ex135 := (ex115.ext x122)
  refine LP_call 4 rfl rfl rfl cal_62 rfl (impl_PackingBound_w _ _ _ _ _ H wx121 o92.readf ex133 o103.readf ex134 o114.readf ex135 o125.readf ex126) ?_
  rintro _ wx136 ⟨r130, r131, r132, vx138, hx139, H, rfl, x137, o140, ex141, f142⟩
  obtain ⟨a143, c144, rfl⟩ := o140.shape
  refine LP_ev ok 5 [(63, .tuple #[I r130, .slice a143 (List.length r131) c144, .bool r132]), (69, I r130), (70, .slice a143 (List.length r131) c144), (71, .bool r132), (17, I r130), (18, .slice a143 (List.length r131) c144), (19, .bool r132)] 12 rfl rfl ?_
  refine LP_end _ rfl ?_
  refine W_seq ?_
  obtain ⟨k, hk, H⟩ := jn_elim H
  refine W_join2 (S := Bool) (fun s ρ' w' => k s ∧ ∃ (ρ : Env), ρ' = setAll [(0, .slice a (List.length aS) c), (1, .slice a5 (List.length aL) c6), (2, .slice a11 (List.length aWeights) c12), (3, .slice a17 (List.length aValues) c18), (10, I r71), (11, .slice a84 (List.length r72) c85), (12, .bool r73), (13, .slice a95 (List.length r86) c96), (14, .slice a106 (List.length r97) c107), (15, .slice a117 (List.length r108) c118), (16, .slice a128 (List.length r119) c129), (17, I r130), (18, .slice a143 (List.length r131) c144), (19, .bool r132), (85, .bool s)] ρ ∧ But emp w w' ∧ Sub hx w' ∧ Sub hx2 w' ∧ Sub hx8 w' ∧ Sub hx14 w' ∧ Sub hx80 w' ∧ Sub hx91 w' ∧ Sub hx102 w' ∧ Sub hx113 w' ∧ Sub hx124 w' ∧ Sub hx139 w') ?_ ?_
  · refine W_region ?_
    refine LP_ev ok 0 [(72, I r130), (73, I r71), (74, .bool (r130 != r71)), (75, .bool (r130 != r71))] 4 rfl rfl ?_
    refine LP_split 75 (r130 != r71) rfl (fun hc158 => ?_) (fun hc158 => ?_)
    · have H := H.1 hc158
      refine LP_ev ok 4 [(76, undef), (77, undef), (78, undef), (79, undef), (80, .bool true), (81, .bool true), (82, undef), (83, undef), (84, undef), (85, .bool true)] 14 rfl rfl ?_
      refine LP_end _ rfl ?_
      try refine W_forget [(0, .slice a (List.length aS) c), (1, .slice a5 (List.length aL) c6), (2, .slice a11 (List.length aWeights) c12), (3, .slice a17 (List.length aValues) c18), (10, I r71), (11, .slice a84 (List.length r72) c85), (12, .bool r73), (13, .slice a95 (List.length r86) c96), (14, .slice a106 (List.length r97) c107), (15, .slice a117 (List.length r108) c118), (16, .slice a128 (List.length r119) c129), (17, I r130), (18, .slice a143 (List.length r131) c144), (19, .bool r132), (85, .bool true)] ⟨rfl, rfl, rfl, rfl, rfl, rfl, rfl, rfl, rfl, rfl, rfl, rfl, rfl, rfl, rfl, trivial⟩ fun ρ => ?_
      have X159 := ((((((((((((X.stepx x).stepx x26).stepx x32).stepx x41).stepx x52).stepx x63).stepx x78).stepx x89).stepx x100).stepx x111).stepx x122).stepx x137)
      have ex160 := (((((ex87.ext x89).ext x100).ext x111).ext x122).ext x137)
      have ex161 := ((((ex98.ext x100).ext x111).ext x122).ext x137)
      have ex162 := (((ex109.ext x111).ext x122).ext x137)
      have ex163 := ((ex120.ext x122).ext x137)
      have ex164 := (((((ex82.ext x89).ext x100).ext x111).ext x122).ext x137)
      have ex165 := (ex133.ext x137)
      have ex166 := (ex134.ext x137)
      have ex167 := (ex135.ext x137)
      have ex168 := (ex126.ext x137)
      exact ⟨true, H, _, env_eq ⟨rfl, rfl, rfl, rfl, rfl, rfl, rfl, rfl, rfl, rfl, rfl, rfl, rfl, rfl, rfl, trivial⟩, X159, ex160, ex161, ex162, ex163, ex164, ex165, ex166, ex167, ex168, ex141⟩
    have H := H.2 hc158
    refine LP_ev ok 4 [(76, .slice a143 (List.length r131) c144), (77, .slice a84 (List.length r72) c85)] 6 rfl rfl ?_
    have ex170 := (((((ex82.ext x89).ext x100).ext x111).ext x122).ext x137)
    refine LP_call 6 rfl rfl rfl cal_23 rfl (laws_eqIntS_w _ _ _ H wx136 o140.readf ex141 o81.readf ex170) ?_
    rintro _ wx171 ⟨r169, H, rfl, x172⟩
    refine LP_ev ok 7 [(79, .bool (!r169)), (80, .bool (!r169)), (81, .bool (!r169))] 10 rfl rfl ?_
    refine LP_split 81 (!r169) rfl (fun hc173 => ?_) (fun hc173 => ?_)
    · have H := H.1 hc173
      refine LP_ev ok 10 [(82, undef), (83, undef), (84, undef), (85, .bool true)] 14 rfl rfl ?_
      refine LP_end _ rfl ?_
      try refine W_forget [(0, .slice a (List.length aS) c), (1, .slice a5 (List.length aL) c6), (2, .slice a11 (List.length aWeights) c12), (3, .slice a17 (List.length aValues) c18), (10, I r71), (11, .slice a84 (List.length r72) c85), (12, .bool r73), (13, .slice a95 (List.length r86) c96), (14, .slice a106 (List.length r97) c107), (15, .slice a117 (List.length r108) c118), (16, .slice a128 (List.length r119) c129), (17, I r130), (18, .slice a143 (List.length r131) c144), (19, .bool r132), (85, .bool true)] ⟨rfl, rfl, rfl, rfl, rfl, rfl, rfl, rfl, rfl, rfl, rfl, rfl, rfl, rfl, rfl, trivial⟩ fun ρ => ?_
      have X174 := (((((((((((((X.stepx x).stepx x26).stepx x32).stepx x41).stepx x52).stepx x63).stepx x78).stepx x89).stepx x100).stepx x111).stepx x122).stepx x137).stepx x172)
      have ex175 := ((((((ex87.ext x89).ext x100).ext x111).ext x122).ext x137).ext x172)
      have ex176 := (((((ex98.ext x100).ext x111).ext x122).ext x137).ext x172)
      have ex177 := ((((ex109.ext x111).ext x122).ext x137).ext x172)
      have ex178 := (((ex120.ext x122).ext x137).ext x172)
      have ex179 := (ex170.ext x172)
      have ex180 := ((ex133.ext x137).ext x172)
      have ex181 := ((ex134.ext x137).ext x172)
      have ex182 := ((ex135.ext x137).ext x172)
      have ex183 := ((ex126.ext x137).ext x172)
      have ex184 := (ex141.ext x172)
      exact ⟨true, H, _, env_eq ⟨rfl, rfl, rfl, rfl, rfl, rfl, rfl, rfl, rfl, rfl, rfl, rfl, rfl, rfl, rfl, trivial⟩, X174, ex175, ex176, ex177, ex178, ex179, ex180, ex181, ex182, ex183, ex184⟩
    have H := H.2 hc173
    refine LP_ev ok 10 [(82, .bool r132), (83, .bool r73), (84, .bool (r132 != r73)), (85, .bool (r132 != r73))] 14 rfl rfl ?_
    refine LP_end _ rfl ?_
    try refine W_forget [(0, .slice a (List.length aS) c), (1, .slice a5 (List.length aL) c6), (2, .slice a11 (List.length aWeights) c12), (3, .slice a17 (List.length aValues) c18), (10, I r71), (11, .slice a84 (List.length r72) c85), (12, .bool r73), (13, .slice a95 (List.length r86) c96), (14, .slice a106 (List.length r97) c107), (15, .slice a117 (List.length r108) c118), (16, .slice a128 (List.length r119) c129), (17, I r130), (18, .slice a143 (List.length r131) c144), (19, .bool r132), (85, .bool (r132 != r73))] ⟨rfl, rfl, rfl, rfl, rfl, rfl, rfl, rfl, rfl, rfl, rfl, rfl, rfl, rfl, rfl, trivial⟩ fun ρ => ?_
    have X185 := (((((((((((((X.stepx x).stepx x26).stepx x32).stepx x41).stepx x52).stepx x63).stepx x78).stepx x89).stepx x100).stepx x111).stepx x122).stepx x137).stepx x172)
    have ex186 := ((((((ex87.ext x89).ext x100).ext x111).ext x122).ext x137).ext x172)
    have ex187 := (((((ex98.ext x100).ext x111).ext x122).ext x137).ext x172)
    have ex188 := ((((ex109.ext x111).ext x122).ext x137).ext x172)
    have ex189 := (((ex120.ext x122).ext x137).ext x172)
    have ex190 := (ex170.ext x172)
    have ex191 := ((ex133.ext x137).ext x172)
    have ex192 := ((ex134.ext x137).ext x172)
    have ex193 := ((ex135.ext x137).ext x172)
    have ex194 := ((ex126.ext x137).ext x172)
    have ex195 := (ex141.ext x172)
    exact ⟨r132 != r73, H, _, env_eq ⟨rfl, rfl, rfl, rfl, rfl, rfl, rfl, rfl, rfl, rfl, rfl, rfl, rfl, rfl, rfl, trivial⟩, X185, ex186, ex187, ex188, ex189, ex190, ex191, ex192, ex193, ex194, ex195⟩
  rintro x145 _ wx146 ⟨H, ρ, rfl, X157, ex147, ex148, ex149, ex150, ex151, ex152, ex153, ex154, ex155, ex156⟩
  subst hk
  refine W_cond (x145) rfl (fun hc196 => ?_) (fun hc196 => ?_)
  · have H := H.1 hc196
    refine W_seq ?_
    refine W_region ?_
    refine LP_ev ok 0 [(8, .bool false)] 1 rfl rfl ?_
    refine LP_end _ rfl ?_
    refine W_ret ?_
    exact ⟨_, Ret_of [.bool false] ⟨⟨rfl, rfl⟩, trivial⟩, _, H, rfl, X157.ext⟩
  have H := H.2 hc196
  refine W_skip ?_
  refine W_seq ?_
  refine W_seq ?_
  refine W_region ?_
  refine LP_ev ok 0 [(86, .slice a95 (List.length r86) c96), (87, .slice a (List.length aS) c)] 2 rfl rfl ?_
  refine LP_call 2 rfl rfl rfl cal_17 rfl (laws_toVariableS_w _ _ H wx146 r ex147) ?_
  rintro _ wx198 ⟨r197, vx200, hx201, H, rfl, x199, o202, ex203, f204⟩
  obtain ⟨a205, c206, rfl⟩ := o202.shape
  have ex208 := (ex152.ext x199)
  refine LP_call 3 rfl rfl rfl cal_21 rfl (laws_eqVariableS_w _ _ _ H wx198 o92.readf ex208 o202.readf ex203) ?_
  rintro _ wx209 ⟨r207, H, rfl, x210⟩
  refine LP_ev ok 4 [(90, .bool (!r207))] 5 rfl rfl ?_
  refine LP_end _ rfl ?_
  refine W_cond (!r207) rfl (fun hc211 => ?_) (fun hc211 => ?_)
  · have H := H.1 hc211
    refine W_seq ?_
    refine W_region ?_
    refine LP_ev ok 0 [(8, .bool false)] 1 rfl rfl ?_
    refine LP_end _ rfl ?_
    refine W_ret ?_
    have X212 := ((X157.stepx x199).stepx x210)
    exact ⟨_, Ret_of [.bool false] ⟨⟨rfl, rfl⟩, trivial⟩, _, H, rfl, X212.ext⟩
  have H := H.2 hc211
  refine W_skip ?_
  refine W_seq ?_
  refine W_seq ?_
  refine W_region ?_
  refine LP_ev ok 0 [(91, .slice a106 (List.length r97) c107), (92, .slice a5 (List.length aL) c6)] 2 rfl rfl ?_
  have ex214 := ((ex148.ext x199).ext x210)
  refine LP_call 2 rfl rfl rfl cal_18 rfl (laws_toEditS_w _ _ H wx209 r3 ex214) ?_
  rintro _ wx215 ⟨r213, vx217, hx218, H, rfl, x216, o219, ex220, f221⟩
  obtain ⟨a222, c223, rfl⟩ := o219.shape
  have ex225 := (((ex153.ext x199).ext x210).ext x216)
  refine LP_call 3 rfl rfl rfl cal_22 rfl (laws_eqEditS_w _ _ _ H wx215 o103.readf ex225 o219.readf ex220) ?_
  rintro _ wx226 ⟨r224, H, rfl, x227⟩
  refine LP_ev ok 4 [(95, .bool (!r224))] 5 rfl rfl ?_
  refine LP_end _ rfl ?_
  refine W_cond (!r224) rfl (fun hc228 => ?_) (fun hc228 => ?_)
  · have H := H.1 hc228
    refine W_seq ?_
    refine W_region ?_
    refine LP_ev ok 0 [(8, .bool false)] 1 rfl rfl ?_
    refine LP_end _ rfl ?_
    refine W_ret ?_
    have X229 := ((((X157.stepx x199).stepx x210).stepx x216).stepx x227)
    exact ⟨_, Ret_of [.bool false] ⟨⟨rfl, rfl⟩, trivial⟩, _, H, rfl, X229.ext⟩
  have H := H.2 hc228
  refine W_skip ?_
  refine W_seq ?_
  refine W_seq ?_
  refine W_region ?_
  refine LP_ev ok 0 [(96, .slice a117 (List.length r108) c118), (97, .slice a11 (List.length aWeights) c12)] 2 rfl rfl ?_
  have ex231 := ((((ex149.ext x199).ext x210).ext x216).ext x227)
  refine LP_call 2 rfl rfl rfl cal_19 rfl (laws_toIntS_w _ _ H wx226 r9 ex231) ?_
  rintro _ wx232 ⟨r230, vx234, hx235, H, rfl, x233, o236, ex237, f238⟩
  obtain ⟨a239, c240, rfl⟩ := o236.shape
  have ex242 := (((((ex154.ext x199).ext x210).ext x216).ext x227).ext x233)
  refine LP_call 3 rfl rfl rfl cal_23 rfl (laws_eqIntS_w _ _ _ H wx232 o114.readf ex242 o236.readf ex237) ?_
  rintro _ wx243 ⟨r241, H, rfl, x244⟩
  refine LP_ev ok 4 [(100, .bool (!r241))] 5 rfl rfl ?_
  refine LP_end _ rfl ?_
  refine W_cond (!r241) rfl (fun hc245 => ?_) (fun hc245 => ?_)
  · have H := H.1 hc245
    refine W_seq ?_
    refine W_region ?_
    refine LP_ev ok 0 [(8, .bool false)] 1 rfl rfl ?_
    refine LP_end _ rfl ?_
    refine W_ret ?_
    have X246 := ((((((X157.stepx x199).stepx x210).stepx x216).stepx x227).stepx x233).stepx x244)
    exact ⟨_, Ret_of [.bool false] ⟨⟨rfl, rfl⟩, trivial⟩, _, H, rfl, X246.ext⟩
  have H := H.2 hc245
  refine W_skip ?_
  refine W_seq ?_
  refine W_seq ?_
  refine W_region ?_
  refine LP_ev ok 0 [(101, .slice a128 (List.length r119) c129), (102, .slice a17 (List.length aValues) c18)] 2 rfl rfl ?_
  have ex248 := ((((((ex150.ext x199).ext x210).ext x216).ext x227).ext x233).ext x244)
  refine LP_call 2 rfl rfl rfl cal_19 rfl (laws_toIntS_w _ _ H wx243 r15 ex248) ?_
  rintro _ wx249 ⟨r247, vx251, hx252, H, rfl, x250, o253, ex254, f255⟩
  obtain ⟨a256, c257, rfl⟩ := o253.shape
  have ex259 := (((((((ex155.ext x199).ext x210).ext x216).ext x227).ext x233).ext x244).ext x250)
  refine LP_call 3 rfl rfl rfl cal_23 rfl (laws_eqIntS_w _ _ _ H wx249 o125.readf ex259 o253.readf ex254) ?_
  rintro _ wx260 ⟨r258, H, rfl, x261⟩
  refine LP_ev ok 4 [(105, .bool (!r258))] 5 rfl rfl ?_
  refine LP_end _ rfl ?_
  refine W_cond (!r258) rfl (fun hc262 => ?_) (fun hc262 => ?_)
  · have H := H.1 hc262
    refine W_seq ?_
    refine W_region ?_
    refine LP_ev ok 0 [(8, .bool false)] 1 rfl rfl ?_
    refine LP_end _ rfl ?_
    refine W_ret ?_
    have X263 := ((((((((X157.stepx x199).stepx x210).stepx x216).stepx x227).stepx x233).stepx x244).stepx x250).stepx x261)
    exact ⟨_, Ret_of [.bool false] ⟨⟨rfl, rfl⟩, trivial⟩, _, H, rfl, X263.ext⟩
  have H := H.2 hc262
  refine W_skip ?_
  refine W_seq ?_
  refine W_region ?_
  refine LP_ev ok 0 [(20, I 1)] 1 rfl rfl ?_
  refine LP_end _ rfl ?_
  refine W_seq ?_
  refine W_region ?_
  refine LP_ev ok 0 [(106, .slice a95 (List.length r86) c96), (107, I 1)] 2 rfl rfl ?_
  have ex266 := (((((((ex208.ext x210).ext x216).ext x227).ext x233).ext x244).ext x250).ext x261)
  refine LP_call 2 rfl rfl rfl cal_26 rfl (laws_markVariableS_w _ _ _ H wx260 o92 ex266) ?_
  rintro _ wx267 ⟨r264, r265, hx269, H, rfl, x268, o270, ex271, dm⟩
  refine LP_ev ok 3 [(20, I r264)] 4 rfl rfl ?_
  refine LP_end _ rfl ?_
  try refine W_forget [(0, .slice a (List.length aS) c), (1, .slice a5 (List.length aL) c6), (2, .slice a11 (List.length aWeights) c12), (3, .slice a17 (List.length aValues) c18), (10, I r71), (11, .slice a84 (List.length r72) c85), (12, .bool r73), (14, .slice a106 (List.length r97) c107), (15, .slice a117 (List.length r108) c118), (16, .slice a128 (List.length r119) c129), (17, I r130), (18, .slice a143 (List.length r131) c144), (19, .bool r132), (20, I r264)] ⟨rfl, rfl, rfl, rfl, rfl, rfl, rfl, rfl, rfl, rfl, rfl, rfl, rfl, rfl, trivial⟩ fun ρ => ?_
  refine W_seq ?_
  refine W_region ?_
  refine LP_ev ok 0 [(109, .slice a106 (List.length r97) c107), (110, I r264)] 2 rfl rfl ?_
  have ex274 := ((((((ex225.ext x227).ext x233).ext x244).ext x250).ext x261).but x268 (Dj.of_fresh ex93 f105))
  refine LP_call 2 rfl rfl rfl cal_27 rfl (laws_markEditS_w _ _ _ H wx267 o103 ex274) ?_
  rintro _ wx275 ⟨r272, r273, hx277, H, rfl, x276, o278, ex279, dm280⟩
  refine LP_ev ok 3 [(20, I r272)] 4 rfl rfl ?_
  refine LP_end _ rfl ?_
  refine W_seq ?_
  refine W_region ?_
  refine LP_ev ok 0 [(112, .slice a117 (List.length r108) c118), (113, I r272)] 2 rfl rfl ?_
  have ex283 := (ex93.ext x100)
  have ex284 := (((((ex242.ext x244).ext x250).ext x261).but x268 (Dj.of_fresh ex283 f116)).but x276 (Dj.of_fresh ex104 f116))
  refine LP_call 2 rfl rfl rfl cal_58 rfl (laws_markIntS_w _ _ _ H wx275 o114 ex284) ?_
  rintro _ wx285 ⟨r281, r282, hx287, H, rfl, x286, o288, ex289, dm290⟩
  refine LP_ev ok 3 [(20, I r281)] 4 rfl rfl ?_
  refine LP_end _ rfl ?_
  refine W_seq ?_
  refine W_region ?_
  refine LP_ev ok 0 [(115, .slice a128 (List.length r119) c129), (116, I r281)] 2 rfl rfl ?_
  have ex293 := (ex283.ext x111)
  have ex294 := (ex104.ext x111)
  have ex295 := ((((ex259.ext x261).but x268 (Dj.of_fresh ex293 f127)).but x276 (Dj.of_fresh ex294 f127)).but x286 (Dj.of_fresh ex115 f127))
  refine LP_call 2 rfl rfl rfl cal_58 rfl (laws_markIntS_w _ _ _ H wx285 o125 ex295) ?_
  rintro _ wx296 ⟨r291, r292, hx298, H, rfl, x297, o299, ex300, dm301⟩
  refine LP_ev ok 3 [(20, I r291)] 4 rfl rfl ?_
  refine LP_end _ rfl ?_
  refine W_seq ?_
  obtain ⟨k311, hk312, H⟩ := jn_elim H
  refine W_join2 (S := Bool) (fun s ρ' w' => k311 s ∧ ∃ (ρ : Env), ρ' = setAll [(0, .slice a (List.length aS) c), (1, .slice a5 (List.length aL) c6), (2, .slice a11 (List.length aWeights) c12), (3, .slice a17 (List.length aValues) c18), (10, I r71), (11, .slice a84 (List.length r72) c85), (12, .bool r73), (18, .slice a143 (List.length r131) c144), (135, .bool s)] ρ ∧ But emp w w' ∧ Sub hx w' ∧ Sub hx2 w' ∧ Sub hx8 w' ∧ Sub hx14 w' ∧ Sub hx80 w' ∧ Sub hx139 w') ?_ ?_
  · refine W_region ?_
    refine LP_ev ok 0 [(118, I r291), (119, .bool (decide (r291 < 0))), (120, .bool (decide (r291 < 0)))] 3 rfl rfl ?_
    refine LP_split 120 (decide (r291 < 0)) rfl (fun hc313 => ?_) (fun hc313 => ?_)
    · have H := H.1 hc313
      refine LP_ev ok 3 [(121, undef), (122, undef), (123, undef), (124, .bool true), (125, .bool true), (126, undef), (127, undef), (128, undef), (129, undef), (130, .bool true), (131, .bool true), (132, undef), (133, undef), (134, undef), (135, .bool true)] 18 rfl rfl ?_
      refine LP_end _ rfl ?_
      try refine W_forget [(0, .slice a (List.length aS) c), (1, .slice a5 (List.length aL) c6), (2, .slice a11 (List.length aWeights) c12), (3, .slice a17 (List.length aValues) c18), (10, I r71), (11, .slice a84 (List.length r72) c85), (12, .bool r73), (18, .slice a143 (List.length r131) c144), (135, .bool true)] ⟨rfl, rfl, rfl, rfl, rfl, rfl, rfl, rfl, rfl, trivial⟩ fun ρ => ?_
      have X315 := (((((((X.stepx x).stepx x26).stepx x32).stepx x41).stepx x52).stepx x63).stepx x78)
      have f314 := f94.mono X315.size
      have X317 := (X315.stepx x89)
      have f316 := f105.mono X317.size
      have X319 := (X317.stepx x100)
      have f318 := f116.mono X319.size
      have X321 := (X319.stepx x111)
      have f320 := f127.mono X321.size
      have X322 := ((((((((((((X157.stepx x199).stepx x210).stepx x216).stepx x227).stepx x233).stepx x244).stepx x250).stepx x261).step x268 (f314.dom _)).step x276 (f316.dom _)).step x286 (f318.dom _)).step x297 (f320.dom _))
      have ex323 := (ex87.ext x89)
      have ex324 := (ex323.ext x100)
      have ex325 := (ex324.ext x111)
      have ex326 := ((((((((((((ex147.ext x199).ext x210).ext x216).ext x227).ext x233).ext x244).ext x250).ext x261).but x268 (Dj.of_fresh ex87 f94).symm).but x276 (Dj.of_fresh ex323 f105).symm).but x286 (Dj.of_fresh ex324 f116).symm).but x297 (Dj.of_fresh ex325 f127).symm)
      have ex327 := ((((ex39.ext x41).ext x52).ext x63).ext x78)
      have ex328 := (ex98.ext x100)
      have ex329 := (ex328.ext x111)
      have ex330 := ((((((((((ex214.ext x216).ext x227).ext x233).ext x244).ext x250).ext x261).but x268 (Dj.of_fresh ex327 f94).symm).but x276 (Dj.of_fresh ex98 f105).symm).but x286 (Dj.of_fresh ex328 f116).symm).but x297 (Dj.of_fresh ex329 f127).symm)
      have ex331 := (((ex50.ext x52).ext x63).ext x78)
      have ex332 := (ex331.ext x89)
      have ex333 := (ex109.ext x111)
      have ex334 := ((((((((ex231.ext x233).ext x244).ext x250).ext x261).but x268 (Dj.of_fresh ex331 f94).symm).but x276 (Dj.of_fresh ex332 f105).symm).but x286 (Dj.of_fresh ex109 f116).symm).but x297 (Dj.of_fresh ex333 f127).symm)
      have ex335 := ((ex61.ext x63).ext x78)
      have ex336 := (ex335.ext x89)
      have ex337 := (ex336.ext x100)
      have ex338 := ((((((ex248.ext x250).ext x261).but x268 (Dj.of_fresh ex335 f94).symm).but x276 (Dj.of_fresh ex336 f105).symm).but x286 (Dj.of_fresh ex337 f116).symm).but x297 (Dj.of_fresh ex120 f127).symm)
      have ex339 := (ex82.ext x89)
      have ex340 := (ex339.ext x100)
      have ex341 := (ex340.ext x111)
      have ex342 := ((((((((((((ex151.ext x199).ext x210).ext x216).ext x227).ext x233).ext x244).ext x250).ext x261).but x268 (Dj.of_fresh ex82 f94).symm).but x276 (Dj.of_fresh ex339 f105).symm).but x286 (Dj.of_fresh ex340 f116).symm).but x297 (Dj.of_fresh ex341 f127).symm)
      have ex343 := ((((((((((((ex156.ext x199).ext x210).ext x216).ext x227).ext x233).ext x244).ext x250).ext x261).but x268 (Dj.of_fresh ex133 f142)).but x276 (Dj.of_fresh ex134 f142)).but x286 (Dj.of_fresh ex135 f142)).but x297 (Dj.of_fresh ex126 f142))
      exact ⟨true, H, _, env_eq ⟨rfl, rfl, rfl, rfl, rfl, rfl, rfl, rfl, rfl, trivial⟩, X322, ex326, ex330, ex334, ex338, ex342, ex343⟩
    have H := H.2 hc313
    refine LP_ev ok 3 [(121, I r130), (122, I r71), (123, .bool (r130 != r71)), (124, .bool (r130 != r71)), (125, .bool (r130 != r71))] 8 rfl rfl ?_
    refine LP_split 125 (r130 != r71) rfl (fun hc344 => ?_) (fun hc344 => ?_)
    · have H := H.1 hc344
      refine LP_ev ok 8 [(126, undef), (127, undef), (128, undef), (129, undef), (130, .bool true), (131, .bool true), (132, undef), (133, undef), (134, undef), (135, .bool true)] 18 rfl rfl ?_
      refine LP_end _ rfl ?_
      try refine W_forget [(0, .slice a (List.length aS) c), (1, .slice a5 (List.length aL) c6), (2, .slice a11 (List.length aWeights) c12), (3, .slice a17 (List.length aValues) c18), (10, I r71), (11, .slice a84 (List.length r72) c85), (12, .bool r73), (18, .slice a143 (List.length r131) c144), (135, .bool true)] ⟨rfl, rfl, rfl, rfl, rfl, rfl, rfl, rfl, rfl, trivial⟩ fun ρ => ?_
      have X346 := (((((((X.stepx x).stepx x26).stepx x32).stepx x41).stepx x52).stepx x63).stepx x78)
      have f345 := f94.mono X346.size
      have X348 := (X346.stepx x89)
      have f347 := f105.mono X348.size
      have X350 := (X348.stepx x100)
      have f349 := f116.mono X350.size
      have X352 := (X350.stepx x111)
      have f351 := f127.mono X352.size
      have X353 := ((((((((((((X157.stepx x199).stepx x210).stepx x216).stepx x227).stepx x233).stepx x244).stepx x250).stepx x261).step x268 (f345.dom _)).step x276 (f347.dom _)).step x286 (f349.dom _)).step x297 (f351.dom _))
      have ex354 := (ex87.ext x89)
      have ex355 := (ex354.ext x100)
      have ex356 := (ex355.ext x111)
      have ex357 := ((((((((((((ex147.ext x199).ext x210).ext x216).ext x227).ext x233).ext x244).ext x250).ext x261).but x268 (Dj.of_fresh ex87 f94).symm).but x276 (Dj.of_fresh ex354 f105).symm).but x286 (Dj.of_fresh ex355 f116).symm).but x297 (Dj.of_fresh ex356 f127).symm)
      have ex358 := ((((ex39.ext x41).ext x52).ext x63).ext x78)
      have ex359 := (ex98.ext x100)
      have ex360 := (ex359.ext x111)
      have ex361 := ((((((((((ex214.ext x216).ext x227).ext x233).ext x244).ext x250).ext x261).but x268 (Dj.of_fresh ex358 f94).symm).but x276 (Dj.of_fresh ex98 f105).symm).but x286 (Dj.of_fresh ex359 f116).symm).but x297 (Dj.of_fresh ex360 f127).symm)
      have ex362 := (((ex50.ext x52).ext x63).ext x78)
      have ex363 := (ex362.ext x89)
      have ex364 := (ex109.ext x111)
      have ex365 := ((((((((ex231.ext x233).ext x244).ext x250).ext x261).but x268 (Dj.of_fresh ex362 f94).symm).but x276 (Dj.of_fresh ex363 f105).symm).but x286 (Dj.of_fresh ex109 f116).symm).but x297 (Dj.of_fresh ex364 f127).symm)
      have ex366 := ((ex61.ext x63).ext x78)
      have ex367 := (ex366.ext x89)
      have ex368 := (ex367.ext x100)
      have ex369 := ((((((ex248.ext x250).ext x261).but x268 (Dj.of_fresh ex366 f94).symm).but x276 (Dj.of_fresh ex367 f105).symm).but x286 (Dj.of_fresh ex368 f116).symm).but x297 (Dj.of_fresh ex120 f127).symm)
      have ex370 := (ex82.ext x89)
      have ex371 := (ex370.ext x100)
      have ex372 := (ex371.ext x111)
      have ex373 := ((((((((((((ex151.ext x199).ext x210).ext x216).ext x227).ext x233).ext x244).ext x250).ext x261).but x268 (Dj.of_fresh ex82 f94).symm).but x276 (Dj.of_fresh ex370 f105).symm).but x286 (Dj.of_fresh ex371 f116).symm).but x297 (Dj.of_fresh ex372 f127).symm)
      have ex374 := ((((((((((((ex156.ext x199).ext x210).ext x216).ext x227).ext x233).ext x244).ext x250).ext x261).but x268 (Dj.of_fresh ex133 f142)).but x276 (Dj.of_fresh ex134 f142)).but x286 (Dj.of_fresh ex135 f142)).but x297 (Dj.of_fresh ex126 f142))
      exact ⟨true, H, _, env_eq ⟨rfl, rfl, rfl, rfl, rfl, rfl, rfl, rfl, rfl, trivial⟩, X353, ex357, ex361, ex365, ex369, ex373, ex374⟩
    have H := H.2 hc344
    refine LP_ev ok 8 [(126, .slice a143 (List.length r131) c144), (127, .slice a84 (List.length r72) c85)] 10 rfl rfl ?_
    have ex376 := ((((((((((((ex156.ext x199).ext x210).ext x216).ext x227).ext x233).ext x244).ext x250).ext x261).but x268 (Dj.of_fresh ex133 f142)).but x276 (Dj.of_fresh ex134 f142)).but x286 (Dj.of_fresh ex135 f142)).but x297 (Dj.of_fresh ex126 f142))
    have ex377 := (ex82.ext x89)
    have ex378 := (ex377.ext x100)
    have ex379 := (ex378.ext x111)
    have ex380 := ((((((((((((ex151.ext x199).ext x210).ext x216).ext x227).ext x233).ext x244).ext x250).ext x261).but x268 (Dj.of_fresh ex82 f94).symm).but x276 (Dj.of_fresh ex377 f105).symm).but x286 (Dj.of_fresh ex378 f116).symm).but x297 (Dj.of_fresh ex379 f127).symm)
    refine LP_call 10 rfl rfl rfl cal_23 rfl (laws_eqIntS_w _ _ _ H wx296 o140.readf ex376 o81.readf ex380) ?_
    rintro _ wx381 ⟨r375, H, rfl, x382⟩
    refine LP_ev ok 11 [(129, .bool (!r375)), (130, .bool (!r375)), (131, .bool (!r375))] 14 rfl rfl ?_
    refine LP_split 131 (!r375) rfl (fun hc383 => ?_) (fun hc383 => ?_)
    · have H := H.1 hc383
      refine LP_ev ok 14 [(132, undef), (133, undef), (134, undef), (135, .bool true)] 18 rfl rfl ?_
      refine LP_end _ rfl ?_
      try refine W_forget [(0, .slice a (List.length aS) c), (1, .slice a5 (List.length aL) c6), (2, .slice a11 (List.length aWeights) c12), (3, .slice a17 (List.length aValues) c18), (10, I r71), (11, .slice a84 (List.length r72) c85), (12, .bool r73), (18, .slice a143 (List.length r131) c144), (135, .bool true)] ⟨rfl, rfl, rfl, rfl, rfl, rfl, rfl, rfl, rfl, trivial⟩ fun ρ => ?_
      have X385 := (((((((X.stepx x).stepx x26).stepx x32).stepx x41).stepx x52).stepx x63).stepx x78)
      have f384 := f94.mono X385.size
      have X387 := (X385.stepx x89)
      have f386 := f105.mono X387.size
      have X389 := (X387.stepx x100)
      have f388 := f116.mono X389.size
      have X391 := (X389.stepx x111)
      have f390 := f127.mono X391.size
      have X392 := (((((((((((((X157.stepx x199).stepx x210).stepx x216).stepx x227).stepx x233).stepx x244).stepx x250).stepx x261).step x268 (f384.dom _)).step x276 (f386.dom _)).step x286 (f388.dom _)).step x297 (f390.dom _)).stepx x382)
      have ex393 := (ex87.ext x89)
      have ex394 := (ex393.ext x100)
      have ex395 := (ex394.ext x111)
      have ex396 := (((((((((((((ex147.ext x199).ext x210).ext x216).ext x227).ext x233).ext x244).ext x250).ext x261).but x268 (Dj.of_fresh ex87 f94).symm).but x276 (Dj.of_fresh ex393 f105).symm).but x286 (Dj.of_fresh ex394 f116).symm).but x297 (Dj.of_fresh ex395 f127).symm).ext x382)
      have ex397 := ((((ex39.ext x41).ext x52).ext x63).ext x78)
      have ex398 := (ex98.ext x100)
      have ex399 := (ex398.ext x111)
      have ex400 := (((((((((((ex214.ext x216).ext x227).ext x233).ext x244).ext x250).ext x261).but x268 (Dj.of_fresh ex397 f94).symm).but x276 (Dj.of_fresh ex98 f105).symm).but x286 (Dj.of_fresh ex398 f116).symm).but x297 (Dj.of_fresh ex399 f127).symm).ext x382)
      have ex401 := (((ex50.ext x52).ext x63).ext x78)
      have ex402 := (ex401.ext x89)
      have ex403 := (ex109.ext x111)
      have ex404 := (((((((((ex231.ext x233).ext x244).ext x250).ext x261).but x268 (Dj.of_fresh ex401 f94).symm).but x276 (Dj.of_fresh ex402 f105).symm).but x286 (Dj.of_fresh ex109 f116).symm).but x297 (Dj.of_fresh ex403 f127).symm).ext x382)
      have ex405 := ((ex61.ext x63).ext x78)
      have ex406 := (ex405.ext x89)
      have ex407 := (ex406.ext x100)
      have ex408 := (((((((ex248.ext x250).ext x261).but x268 (Dj.of_fresh ex405 f94).symm).but x276 (Dj.of_fresh ex406 f105).symm).but x286 (Dj.of_fresh ex407 f116).symm).but x297 (Dj.of_fresh ex120 f127).symm).ext x382)
      have ex409 := (ex380.ext x382)
      have ex410 := (ex376.ext x382)
      exact ⟨true, H, _, env_eq ⟨rfl, rfl, rfl, rfl, rfl, rfl, rfl, rfl, rfl, trivial⟩, X392, ex396, ex400, ex404, ex408, ex409, ex410⟩
    have H := H.2 hc383
    refine LP_ev ok 14 [(132, .bool r132), (133, .bool r73), (134, .bool (r132 != r73)), (135, .bool (r132 != r73))] 18 rfl rfl ?_
    refine LP_end _ rfl ?_
    try refine W_forget [(0, .slice a (List.length aS) c), (1, .slice a5 (List.length aL) c6), (2, .slice a11 (List.length aWeights) c12), (3, .slice a17 (List.length aValues) c18), (10, I r71), (11, .slice a84 (List.length r72) c85), (12, .bool r73), (18, .slice a143 (List.length r131) c144), (135, .bool (r132 != r73))] ⟨rfl, rfl, rfl, rfl, rfl, rfl, rfl, rfl, rfl, trivial⟩ fun ρ => ?_
    have X412 := (((((((X.stepx x).stepx x26).stepx x32).stepx x41).stepx x52).stepx x63).stepx x78)
    have f411 := f94.mono X412.size
    have X414 := (X412.stepx x89)
    have f413 := f105.mono X414.size
    have X416 := (X414.stepx x100)
    have f415 := f116.mono X416.size
    have X418 := (X416.stepx x111)
    have f417 := f127.mono X418.size
    have X419 := (((((((((((((X157.stepx x199).stepx x210).stepx x216).stepx x227).stepx x233).stepx x244).stepx x250).stepx x261).step x268 (f411.dom _)).step x276 (f413.dom _)).step x286 (f415.dom _)).step x297 (f417.dom _)).stepx x382)
    have ex420 := (ex87.ext x89)
    have ex421 := (ex420.ext x100)
    have ex422 := (ex421.ext x111)
    have ex423 := (((((((((((((ex147.ext x199).ext x210).ext x216).ext x227).ext x233).ext x244).ext x250).ext x261).but x268 (Dj.of_fresh ex87 f94).symm).but x276 (Dj.of_fresh ex420 f105).symm).but x286 (Dj.of_fresh ex421 f116).symm).but x297 (Dj.of_fresh ex422 f127).symm).ext x382)
    have ex424 := ((((ex39.ext x41).ext x52).ext x63).ext x78)
    have ex425 := (ex98.ext x100)
    have ex426 := (ex425.ext x111)
    have ex427 := (((((((((((ex214.ext x216).ext x227).ext x233).ext x244).ext x250).ext x261).but x268 (Dj.of_fresh ex424 f94).symm).but x276 (Dj.of_fresh ex98 f105).symm).but x286 (Dj.of_fresh ex425 f116).symm).but x297 (Dj.of_fresh ex426 f127).symm).ext x382)
    have ex428 := (((ex50.ext x52).ext x63).ext x78)
    have ex429 := (ex428.ext x89)
    have ex430 := (ex109.ext x111)
    have ex431 := (((((((((ex231.ext x233).ext x244).ext x250).ext x261).but x268 (Dj.of_fresh ex428 f94).symm).but x276 (Dj.of_fresh ex429 f105).symm).but x286 (Dj.of_fresh ex109 f116).symm).but x297 (Dj.of_fresh ex430 f127).symm).ext x382)
    have ex432 := ((ex61.ext x63).ext x78)
    have ex433 := (ex432.ext x89)
    have ex434 := (ex433.ext x100)
    have ex435 := (((((((ex248.ext x250).ext x261).but x268 (Dj.of_fresh ex432 f94).symm).but x276 (Dj.of_fresh ex433 f105).symm).but x286 (Dj.of_fresh ex434 f116).symm).but x297 (Dj.of_fresh ex120 f127).symm).ext x382)
    have ex436 := (ex380.ext x382)
    have ex437 := (ex376.ext x382)
    exact ⟨r132 != r73, H, _, env_eq ⟨rfl, rfl, rfl, rfl, rfl, rfl, rfl, rfl, rfl, trivial⟩, X419, ex423, ex427, ex431, ex435, ex436, ex437⟩
  rintro x302 _ wx303 ⟨H, ρ, rfl, X310, ex304, ex305, ex306, ex307, ex308, ex309⟩
  subst hk312
  refine W_cond (x302) rfl (fun hc438 => ?_) (fun hc438 => ?_)
  · have H := H.1 hc438
    refine W_seq ?_
    refine W_region ?_
    refine LP_ev ok 0 [(8, .bool false)] 1 rfl rfl ?_
    refine LP_end _ rfl ?_
    refine W_ret ?_
    exact ⟨_, Ret_of [.bool false] ⟨⟨rfl, rfl⟩, trivial⟩, _, H, rfl, X310.ext⟩
  have H := H.2 hc438
  refine W_skip ?_
  refine W_seq ?_
  refine W_region ?_
  refine LP_ev ok 0 [(21, I 1)] 1 rfl rfl ?_
  refine LP_end _ rfl ?_
  refine W_seq ?_
  refine W_region ?_
  refine LP_ev ok 0 [(136, .slice a143 (List.length r131) c144), (137, I 1)] 2 rfl rfl ?_
  refine LP_call 2 rfl rfl rfl cal_58 rfl (laws_markIntS_w _ _ _ H wx303 o140 ex309) ?_
  rintro _ wx441 ⟨r439, r440, hx443, H, rfl, x442, o444, ex445, dm446⟩
  refine LP_ev ok 3 [(21, I r439)] 4 rfl rfl ?_
  refine LP_end _ rfl ?_
  refine W_seq ?_
  refine W_region ?_
  refine LP_ev ok 0 [(22, I 1)] 1 rfl rfl ?_
  refine LP_end _ rfl ?_
  refine W_seq ?_
  refine W_region ?_
  refine LP_ev ok 0 [(139, .slice a143 (List.length r131) c144), (140, I 1)] 2 rfl rfl ?_
  refine LP_call 2 rfl rfl rfl cal_63 rfl (laws_heldIntS_w _ _ _ H wx441 o444.readf ex445) ?_
  rintro _ wx448 ⟨r447, H, rfl, x449⟩
  refine LP_ev ok 3 [(22, I r447)] 4 rfl rfl ?_
  refine LP_end _ rfl ?_
  refine W_seq ?_
  refine W_seq ?_
  refine W_region ?_
  refine LP_ev ok 0 [(142, I r447), (143, .bool (decide (r447 < 0)))] 2 rfl rfl ?_
  refine LP_end _ rfl ?_
  refine W_cond (decide (r447 < 0)) rfl (fun hc450 => ?_) (fun hc450 => ?_)
  · have H := H.1 hc450
    refine W_seq ?_
    refine W_region ?_
    refine LP_ev ok 0 [(8, .bool false)] 1 rfl rfl ?_
    refine LP_end _ rfl ?_
    refine W_ret ?_
    have X452 := (((((((((((X.stepx x).stepx x26).stepx x32).stepx x41).stepx x52).stepx x63).stepx x78).stepx x89).stepx x100).stepx x111).stepx x122)
    have f451 := f142.mono X452.size
    have X453 := ((X310.step x442 (f451.dom _)).stepx x449)
    exact ⟨_, Ret_of [.bool false] ⟨⟨rfl, rfl⟩, trivial⟩, _, H, rfl, X453.ext⟩
  have H := H.2 hc450
  refine W_skip ?_
  refine W_seq ?_
  refine W_seq ?_
  refine W_region ?_
  refine LP_ev ok 0 [(144, I r447), (145, I r439), (146, .bool (r447 != r439))] 3 rfl rfl ?_
  refine LP_end _ rfl ?_
  refine W_cond (r447 != r439) rfl (fun hc454 => ?_) (fun hc454 => ?_)
  · have H := H.1 hc454
    refine W_seq ?_
    refine W_region ?_
    refine LP_ev ok 0 [(8, .bool false)] 1 rfl rfl ?_
    refine LP_end _ rfl ?_
    refine W_ret ?_
    have X456 := (((((((((((X.stepx x).stepx x26).stepx x32).stepx x41).stepx x52).stepx x63).stepx x78).stepx x89).stepx x100).stepx x111).stepx x122)
    have f455 := f142.mono X456.size
    have X457 := ((X310.step x442 (f455.dom _)).stepx x449)
    exact ⟨_, Ret_of [.bool false] ⟨⟨rfl, rfl⟩, trivial⟩, _, H, rfl, X457.ext⟩
  have H := H.2 hc454
  refine W_skip ?_
  refine W_seq ?_
  refine W_region ?_
  refine LP_ev ok 0 [(148, .slice a (List.length aS) c)] 1 rfl rfl ?_
  have ex459 := ((((ex87.ext x89).ext x100).ext x111).ext x122)
  have ex460 := ((ex304.but x442 (Dj.of_fresh ex459 f142).symm).ext x449)
  refine LP_call 1 rfl rfl rfl cal_17 rfl (laws_toVariableS_w _ _ H wx448 r ex460) ?_
  rintro _ wx461 ⟨r458, vx463, hx464, H, rfl, x462, o465, ex466, f467⟩
  obtain ⟨a468, c469, rfl⟩ := o465.shape
  refine LP_ev ok 2 [(150, .slice a5 (List.length aL) c6)] 3 rfl rfl ?_
  have ex471 := (((ex98.ext x100).ext x111).ext x122)
  have ex472 := (((ex305.but x442 (Dj.of_fresh ex471 f142).symm).ext x449).ext x462)
  refine LP_call 3 rfl rfl rfl cal_18 rfl (laws_toEditS_w _ _ H wx461 r3 ex472) ?_
  rintro _ wx473 ⟨r470, vx475, hx476, H, rfl, x474, o477, ex478, f479⟩
  obtain ⟨a480, c481, rfl⟩ := o477.shape
  refine LP_ev ok 4 [(152, .slice a11 (List.length aWeights) c12)] 5 rfl rfl ?_
  have ex483 := ((ex109.ext x111).ext x122)
  have ex484 := ((((ex306.but x442 (Dj.of_fresh ex483 f142).symm).ext x449).ext x462).ext x474)
  refine LP_call 5 rfl rfl rfl cal_19 rfl (laws_toIntS_w _ _ H wx473 r9 ex484) ?_
  rintro _ wx485 ⟨r482, vx487, hx488, H, rfl, x486, o489, ex490, f491⟩
  obtain ⟨a492, c493, rfl⟩ := o489.shape
  refine LP_ev ok 6 [(154, .slice a17 (List.length aValues) c18)] 7 rfl rfl ?_
  have ex495 := (ex120.ext x122)
  have ex496 := (((((ex307.but x442 (Dj.of_fresh ex495 f142).symm).ext x449).ext x462).ext x474).ext x486)
  refine LP_call 7 rfl rfl rfl cal_19 rfl (laws_toIntS_w _ _ H wx485 r15 ex496) ?_
  rintro _ wx497 ⟨r494, vx499, hx500, H, rfl, x498, o501, ex502, f503⟩
  obtain ⟨a504, c505, rfl⟩ := o501.shape
  have ex509 := (((ex466.ext x474).ext x486).ext x498)
  have ex510 := ((ex478.ext x486).ext x498)
  have ex511 := (ex490.ext x498)
  refine LP_call 8 rfl rfl rfl cal_62 rfl (impl_PackingBound_w _ _ _ _ _ H wx497 o465.readf ex509 o477.readf ex510 o489.readf ex511 o501.readf ex502) ?_
  rintro _ wx512 ⟨r506, r507, r508, vx514, hx515, H, rfl, x513, o516, ex517, f518⟩
  obtain ⟨a519, c520, rfl⟩ := o516.shape
  refine LP_ev ok 9 [(147, .tuple #[I r506, .slice a519 (List.length r507) c520, .bool r508]), (157, I r506), (158, .slice a519 (List.length r507) c520), (159, .bool r508), (23, I r506), (24, .slice a519 (List.length r507) c520), (25, .bool r508)] 16 rfl rfl ?_
  refine LP_end _ rfl ?_
  try refine W_forget [(10, I r71), (11, .slice a84 (List.length r72) c85), (12, .bool r73), (18, .slice a143 (List.length r131) c144), (21, I r439), (23, I r506), (24, .slice a519 (List.length r507) c520), (25, .bool r508)] ⟨rfl, rfl, rfl, rfl, rfl, rfl, rfl, rfl, trivial⟩ fun ρ => ?_
  refine W_seq ?_
  obtain ⟨k525, hk526, H⟩ := jn_elim H
  refine W_join2 (S := Bool) (fun s ρ' w' => k525 s ∧ ∃ (ρ : Env), ρ' = setAll [(18, .slice a143 (List.length r131) c144), (21, I r439), (173, .bool s)] ρ ∧ But emp w w' ∧ Sub hx443 w') ?_ ?_
  · refine W_region ?_
    refine LP_ev ok 0 [(160, I r506), (161, I r71), (162, .bool (r506 != r71)), (163, .bool (r506 != r71))] 4 rfl rfl ?_
    refine LP_split 163 (r506 != r71) rfl (fun hc527 => ?_) (fun hc527 => ?_)
    · have H := H.1 hc527
      refine LP_ev ok 4 [(164, undef), (165, undef), (166, undef), (167, undef), (168, .bool true), (169, .bool true), (170, undef), (171, undef), (172, undef), (173, .bool true)] 14 rfl rfl ?_
      refine LP_end _ rfl ?_
      have X529 := (((((((((((X.stepx x).stepx x26).stepx x32).stepx x41).stepx x52).stepx x63).stepx x78).stepx x89).stepx x100).stepx x111).stepx x122)
      have f528 := f142.mono X529.size
      have X530 := (((((((X310.step x442 (f528.dom _)).stepx x449).stepx x462).stepx x474).stepx x486).stepx x498).stepx x513)
      have ex531 := ((((((ex445.ext x449).ext x462).ext x474).ext x486).ext x498).ext x513)
      exact ⟨true, H, _, env_eq ⟨rfl, rfl, rfl, trivial⟩, X530, ex531⟩
    have H := H.2 hc527
    refine LP_ev ok 4 [(164, .slice a519 (List.length r507) c520), (165, .slice a84 (List.length r72) c85)] 6 rfl rfl ?_
    have ex533 := ((((ex82.ext x89).ext x100).ext x111).ext x122)
    have ex534 := (((((((ex308.but x442 (Dj.of_fresh ex533 f142).symm).ext x449).ext x462).ext x474).ext x486).ext x498).ext x513)
    refine LP_call 6 rfl rfl rfl cal_23 rfl (laws_eqIntS_w _ _ _ H wx512 o516.readf ex517 o81.readf ex534) ?_
    rintro _ wx535 ⟨r532, H, rfl, x536⟩
    refine LP_ev ok 7 [(167, .bool (!r532)), (168, .bool (!r532)), (169, .bool (!r532))] 10 rfl rfl ?_
    refine LP_split 169 (!r532) rfl (fun hc537 => ?_) (fun hc537 => ?_)
    · have H := H.1 hc537
      refine LP_ev ok 10 [(170, undef), (171, undef), (172, undef), (173, .bool true)] 14 rfl rfl ?_
      refine LP_end _ rfl ?_
      have X539 := (((((((((((X.stepx x).stepx x26).stepx x32).stepx x41).stepx x52).stepx x63).stepx x78).stepx x89).stepx x100).stepx x111).stepx x122)
      have f538 := f142.mono X539.size
      have X540 := ((((((((X310.step x442 (f538.dom _)).stepx x449).stepx x462).stepx x474).stepx x486).stepx x498).stepx x513).stepx x536)
      have ex541 := (((((((ex445.ext x449).ext x462).ext x474).ext x486).ext x498).ext x513).ext x536)
      exact ⟨true, H, _, env_eq ⟨rfl, rfl, rfl, trivial⟩, X540, ex541⟩
    have H := H.2 hc537
    refine LP_ev ok 10 [(170, .bool r508), (171, .bool r73), (172, .bool (r508 != r73)), (173, .bool (r508 != r73))] 14 rfl rfl ?_
    refine LP_end _ rfl ?_
    have X543 := (((((((((((X.stepx x).stepx x26).stepx x32).stepx x41).stepx x52).stepx x63).stepx x78).stepx x89).stepx x100).stepx x111).stepx x122)
    have f542 := f142.mono X543.size
    have X544 := ((((((((X310.step x442 (f542.dom _)).stepx x449).stepx x462).stepx x474).stepx x486).stepx x498).stepx x513).stepx x536)
    have ex545 := (((((((ex445.ext x449).ext x462).ext x474).ext x486).ext x498).ext x513).ext x536)
    exact ⟨r508 != r73, H, _, env_eq ⟨rfl, rfl, rfl, trivial⟩, X544, ex545⟩
  rintro x521 _ wx522 ⟨H, ρ, rfl, X524, ex523⟩
  subst hk526
  refine W_cond (x521) rfl (fun hc546 => ?_) (fun hc546 => ?_)
  · have H := H.1 hc546
    refine W_seq ?_
    refine W_region ?_
    refine LP_ev ok 0 [(8, .bool false)] 1 rfl rfl ?_
    refine LP_end _ rfl ?_
    refine W_ret ?_
    exact ⟨_, Ret_of [.bool false] ⟨⟨rfl, rfl⟩, trivial⟩, _, H, rfl, X524.ext⟩
  have H := H.2 hc546
  refine W_skip ?_
  refine W_seq ?_
  refine W_region ?_
  refine LP_ev ok 0 [(22, I 1)] 1 rfl rfl ?_
  refine LP_end _ rfl ?_
  refine W_seq ?_
  refine W_region ?_
  refine LP_ev ok 0 [(174, .slice a143 (List.length r131) c144), (175, I 1)] 2 rfl rfl ?_
  refine LP_call 2 rfl rfl rfl cal_63 rfl (laws_heldIntS_w _ _ _ H wx522 o444.readf ex523) ?_
  rintro _ wx548 ⟨r547, H, rfl, x549⟩
  refine LP_ev ok 3 [(22, I r547)] 4 rfl rfl ?_
  refine LP_end _ rfl ?_
  refine W_seq ?_
  refine W_seq ?_
  refine W_region ?_
  refine LP_ev ok 0 [(177, I r547), (178, .bool (decide (r547 < 0)))] 2 rfl rfl ?_
  refine LP_end _ rfl ?_
  refine W_cond (decide (r547 < 0)) rfl (fun hc550 => ?_) (fun hc550 => ?_)
  · have H := H.1 hc550
    refine W_seq ?_
    refine W_region ?_
    refine LP_ev ok 0 [(8, .bool false)] 1 rfl rfl ?_
    refine LP_end _ rfl ?_
    refine W_ret ?_
    have X551 := (X524.stepx x549)
    exact ⟨_, Ret_of [.bool false] ⟨⟨rfl, rfl⟩, trivial⟩, _, H, rfl, X551.ext⟩
  have H := H.2 hc550
  refine W_skip ?_
  refine W_seq ?_
  refine W_seq ?_
  refine W_region ?_
  refine LP_ev ok 0 [(179, I r547), (180, I r439), (181, .bool (r547 != r439))] 3 rfl rfl ?_
  refine LP_end _ rfl ?_
  refine W_cond (r547 != r439) rfl (fun hc552 => ?_) (fun hc552 => ?_)
  · have H := H.1 hc552
    refine W_seq ?_
    refine W_region ?_
    refine LP_ev ok 0 [(8, .bool false)] 1 rfl rfl ?_
    refine LP_end _ rfl ?_
    refine W_ret ?_
    have X553 := (X524.stepx x549)
    exact ⟨_, Ret_of [.bool false] ⟨⟨rfl, rfl⟩, trivial⟩, _, H, rfl, X553.ext⟩
  have H := H.2 hc552
  refine W_skip ?_
  refine W_seq ?_
  refine W_region ?_
  refine LP_ev ok 0 [(8, .bool true)] 1 rfl rfl ?_
  refine LP_end _ rfl ?_
  refine W_ret ?_
  have X554 := (X524.stepx x549)
  exact ⟨_, Ret_of [.bool true] ⟨⟨rfl, rfl⟩, trivial⟩, _, H, rfl, X554.ext⟩

end Go.Proofs.Ytdnpmgofkbjigaa
