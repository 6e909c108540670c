/- The walks, further. -/
import Derived.Test.YtnladfcokocfnaaGreatTWalk
set_option linter.unusedVariables false
set_option autoImplicit false
namespace Go.Proofs.YtnladfcokocfnaaGreat
open Go Go.RowKit Go.Gv

open Go.Proofs
set_option maxRecDepth 8000
set_option maxHeartbeats 4000000
theorem spec_zeSum_w (m : Int) (shares : List (List Int)) (Q : (List Int) → Prop) (H : spec_zeSum m shares Q) (w : World) {vx : Value} {hx : PH} (r : RS hx vx shares) (ex : Sub hx w) :
  CallsTo Tryz.prog 50 #[I m, vx] w fun v w' => ∃ r0 u0 g0, Q r0 ∧ v = u0 ∧ Ext w w' ∧ OS 3 g0 emp u0 r0 ∧ Sub g0 w' ∧ Fresh w.heap.size g0 := by
 obtain ⟨a, c, rfl⟩ := r.shape
 refine enter (args := [I m, sl a shares c]) 25 Tryz.func50 rfl rfl rfl ?_
 refine W_forget [(0, I m), (1, sl a shares c)] ⟨rfl, rfl, trivial⟩ fun ρ => ?_
 have X := But.refl emp w
 refine W_seq (W_region ?_)
 refine LP_ev ok 0 [(4, .slice none 0 0)] 1 rfl rfl ?_
 refine LP_end _ rfl (W_seq (W_region ?_))
 refine LP_ev ok 0 [(8, sl a shares c)] 1 rfl rfl ?_
 obtain ⟨x, hi, hx1, H⟩ := H
 refine LP_index 1 rfl rfl rfl Tryz.underlying29 ti_22 rfl rfl r hi hx1 fun a2 cs r3 d => ?_
 refine LP_load 2 rfl rfl rfl ti_22 ag_22 rfl r3 d ex fun vx4 r5 => ?_
 have r8 := r5.slice
 obtain ⟨a6, c7, rfl⟩ := r8.shape
 refine LP_ev ok 3 [(11, I (ln x))] 4 rfl rfl ?_
 obtain ⟨hn, hb, H⟩ := H
 refine LP_make (α := Int) 4 rfl rfl rfl Tryz.underlying22 ti_3 (x0 := (0 : Int)) rfl rfl hn (by first | omega | (simp only [ln] at *; omega)) (by first | omega | (simp only [ln] at *; omega)) fun hx9 vx10 wx x11 o ex12 f => ?_
 obtain ⟨a13, c14, rfl⟩ := o.shape
 refine LP_ev ok 5 [(5, .slice a13 (List.length (List.replicate (Int.toNat (ln x)) ((0 : Int)))) c14)] 6 rfl rfl ?_
 refine LP_end _ rfl (W_seq ?_)
 refine W_seq (W_region ?_)
 refine LP_ev ok 0 [(13, sl a shares c), (14, I (ln shares)), (15, I 0)] 3 rfl rfl ?_
 refine LP_end _ rfl ?_
 refine W_block ?_
 have f29 := f.mono X.size
 obtain ⟨J, m27, Hx, H⟩ := H
 refine W_loop (S := (List Int) × Int) (fun s ρ' w' => J s.1 s.2 ∧ ∃ (ρ : Env) (vx15 : Value) (hx16 : PH), ρ' = setAll [(0, I m), (5, vx15), (13, sl a shares c), (14, I (ln shares)), (15, I s.2)] ρ ∧ But emp w w' ∧ OS 3 hx16 emp vx15 s.1 ∧ Sub hx16 w' ∧ Fresh w.heap.size hx16 ∧ Sub hx w' ∧ Dj hx16 hx) (fun s => m27 s.1 s.2) (List.replicate (Int.toNat (ln x)) ((0 : Int)), 0) ⟨Hx, _, .slice a13 (List.length (List.replicate (Int.toNat (ln x)) ((0 : Int)))) c14, hx9, env_eq ⟨rfl, rfl, rfl, rfl, rfl, trivial⟩, (X.stepx x11), o, ex12, f29, (ex.ext x11), (Dj.of_fresh ex f).symm⟩ ?_
 rintro ⟨out, x20⟩ _ wx21 ⟨Hi, ρ, vx15, hx16, rfl, HF⟩
 revert HF
 refine bb6 fun X26 o17 ex18 f19 ex22 d25 => ?_
 have H := H out x20 Hi
 obtain ⟨a23, c24, rfl⟩ := o17.shape
 refine W_seq (W_region ?_)
 refine LP_ev ok 0 [(16, .bool (decide (x20 < (ln shares))))] 1 rfl rfl ?_
 refine LP_end _ rfl (W_seq ?_)
 refine W_cond (decide (x20 < (ln shares))) rfl (fun hc => ?_) (fun hc => ?_)
 ·have H := H.1 hc
  refine W_skip ?_
  refine W_seq ?_
  refine W_block ?_
  refine W_seq (W_region ?_)
  obtain ⟨x31, hi32, hx33, H⟩ := H
  refine LP_index 0 rfl rfl rfl Tryz.underlying29 ti_22 rfl rfl r hi32 hx33 fun a34 cs35 r36 d37 => ?_
  refine LP_load 1 rfl rfl rfl ti_22 ag_22 rfl r36 d37 ex22 fun vx38 r39 => ?_
  have r42 := r39.slice
  obtain ⟨a40, c41, rfl⟩ := r42.shape
  refine LP_ev ok 2 [(7, sl a40 x31 c41)] 3 rfl rfl ?_
  refine LP_end _ rfl ?_
  refine W_region ?_
  refine LP_ev ok 0 [(19, sl a23 out c24), (20, sl a40 x31 c41), (21, I m)] 3 rfl rfl ?_
  refine LP_call 3 rfl rfl rfl cal_84 rfl (spec_zeAdd_w _ _ _ _ _ H wx21 o17.readf ex18 r42 ex22) ?_
  rintro _ wx44 ⟨r43, vx46, hx47, H, rfl, x45, o48, ex49, f50⟩
  obtain ⟨a51, c52, rfl⟩ := o48.shape
  refine LP_ev ok 4 [(5, sl a51 r43 c52)] 5 rfl rfl ?_
  refine LP_end _ rfl ?_
  refine W_region ?_
  refine LP_ev ok 0 [(23, I (wr (x20 + 1))), (15, I (wr (x20 + 1)))] 2 rfl rfl ?_
  refine LP_end _ rfl ?_
  have f54 := f50.mono X26.size
  exact ⟨(r43, wr (x20 + 1)), ⟨H.1, _, sl a51 r43 c52, hx47, env_eq ⟨rfl, rfl, rfl, rfl, rfl, trivial⟩, (X26.stepx x45), o48, ex49, f54, (ex22.ext x45), (Dj.of_fresh ex22 f50).symm⟩, H.2⟩
 have H := H.2 hc
 refine W_exit ?_
 refine (if_pos rfl).mpr ?_
 refine W_seq (W_region ?_)
 refine LP_ev ok 0 [(24, sl a23 out c24), (4, sl a23 out c24)] 2 rfl rfl ?_
 refine LP_end _ rfl (W_ret ?_)
 exact ⟨_, Ret_of [sl a23 out c24] ⟨⟨rfl, rfl⟩, trivial⟩, _, _, _, H, rfl, X26.ext, o17, ex18, f19⟩

theorem spec_FederatedCells_w (g : Geo) (sx : List Variable) (t : Table) (sites : List (List Record)) (seeds : List (List Int)) (round : Int) (m : Int) (Q : (List Int) → Bool → Prop) (H : spec_FederatedCells g sx t sites seeds round m Q) (w : World) {vx : Value} {hx : PH} (r : RS hx vx g.Parents) (ex : Sub hx w) {vx1 : Value} {hx2 : PH} (r3 : RS hx2 vx1 sx) (ex4 : Sub hx2 w) {vx7 : Value} {hx8 : PH} (r9 : RS hx8 vx7 t.Vars) (ex10 : Sub hx8 w) {vx13 : Value} {hx14 : PH} (r15 : RS hx14 vx13 t.Where) (ex16 : Sub hx14 w) {vx19 : Value} {hx20 : PH} (r21 : RS hx20 vx19 sites) (ex22 : Sub hx20 w) {vx25 : Value} {hx26 : PH} (r27 : RS hx26 vx25 seeds) (ex28 : Sub hx26 w) :
  CallsTo Tryz.prog 10 #[.agg #[vx], vx1, .agg #[I t.Level, vx7, vx13, I t.Sum], vx19, vx25, I round, I m] w fun v w' => ∃ r0 r1 u0 g0, Q r0 r1 ∧ v = .tuple #[u0, .bool r1] ∧ Ext w w' ∧ OS 3 g0 emp u0 r0 ∧ Sub g0 w' ∧ Fresh w.heap.size g0 := by
 obtain ⟨a, c, rfl⟩ := r.shape
 obtain ⟨a5, c6, rfl⟩ := r3.shape
 obtain ⟨a11, c12, rfl⟩ := r9.shape
 obtain ⟨a17, c18, rfl⟩ := r15.shape
 obtain ⟨a23, c24, rfl⟩ := r21.shape
 obtain ⟨a29, c30, rfl⟩ := r27.shape
 refine enter (args := [.agg #[sl a g.Parents c], sl a5 sx c6, .agg #[I t.Level, sl a11 t.Vars c12, sl a17 t.Where c18, I t.Sum], sl a23 sites c24, sl a29 seeds c30, I round, I m]) 73 Tryz.func10 rfl rfl rfl ?_
 refine W_forget [(0, .agg #[sl a g.Parents c]), (1, sl a5 sx c6), (2, .agg #[I t.Level, sl a11 t.Vars c12, sl a17 t.Where c18, I t.Sum]), (3, sl a23 sites c24), (4, sl a29 seeds c30), (5, I round), (6, I m)] ⟨rfl, rfl, rfl, rfl, rfl, rfl, rfl, trivial⟩ fun ρ => ?_
 have X := But.refl emp w
 refine W_seq (W_region ?_)
 refine LP_box 0 (cs := [sl a g.Parents c]) rfl rfl rfl rfl rfl fun b wx x ex31 f => ?_
 refine LP_box 1 (cs := [I t.Level, sl a11 t.Vars c12, sl a17 t.Where c18, I t.Sum]) rfl rfl rfl rfl rfl fun b32 wx33 x34 ex35 f36 => ?_
 refine LP_ev ok 2 [(14, .slice none 0 0), (15, .bool false)] 4 rfl rfl ?_
 refine LP_end _ rfl (W_seq (W_region ?_))
 refine LP_ldbox 0 (v := .agg #[sl a g.Parents c]) rfl rfl rfl ti_37 ag_37 (fun h => by cases h) rfl (ex31.ext x34) rfl rfl ?_
 refine LP_ev ok 1 [(23, sl a5 sx c6)] 2 rfl rfl ?_
 refine LP_ldbox 2 (v := .agg #[I t.Level, sl a11 t.Vars c12, sl a17 t.Where c18, I t.Sum]) rfl rfl rfl ti_41 ag_41 (fun h => by cases h) rfl ex35 rfl rfl ?_
 refine LP_ev ok 3 [(25, sl a23 sites c24)] 4 rfl rfl ?_
 have xc := (x.trans x34)
 refine LP_call 4 rfl rfl rfl cal_34 rfl (spec_SiteCells_w _ _ _ _ _ H wx33 r (ex.ext xc) r3 (ex4.ext xc) r9 (ex10.ext xc) r15 (ex16.ext xc) r21 (ex22.ext xc)) ?_
 rintro _ wx45 ⟨r38, r39, vx47, hx48, H, rfl, x46, o, ex49, f50⟩
 obtain ⟨a51, c52, rfl⟩ := o.shape
 refine LP_ev ok 5 [(21, .tuple #[sl a51 r38 c52, .bool r39]), (27, sl a51 r38 c52), (28, .bool r39), (16, sl a51 r38 c52), (17, .bool r39)] 10 rfl rfl ?_
 refine LP_end _ rfl (W_seq ?_)
 obtain ⟨k, hk, H⟩ := jn_elim H
 refine W_join2 (S := Bool) (fun s ρ' w' => k s ∧ ∃ (ρ : Env), ρ' = setAll [(4, sl a29 seeds c30), (5, I round), (6, I m), (16, sl a51 r38 c52), (48, .bool s)] ρ ∧ But emp w w' ∧ Sub hx26 w' ∧ Sub hx48 w') ?_ ?_
 ·refine W_region ?_
  refine LP_ev ok 0 [(29, .bool r39), (30, .bool (!r39)), (31, .bool (!r39))] 3 rfl rfl ?_
  refine LP_split 31 (!r39) rfl (fun hc => ?_) (fun hc => ?_)
  ·have H := H.1 hc
   refine LP_ev ok 3 [(32, undef), (33, undef), (34, undef), (35, .bool true), (36, .bool true), (37, undef), (38, undef), (39, undef), (40, undef), (41, undef), (42, .bool true), (43, .bool true), (44, undef), (45, undef), (46, undef), (47, undef), (48, .bool true)] 20 rfl rfl ?_
   refine LP_end _ rfl ?_
   try refine W_forget [(4, sl a29 seeds c30), (5, I round), (6, I m), (16, sl a51 r38 c52), (48, .bool true)] ⟨rfl, rfl, rfl, rfl, rfl, trivial⟩ fun ρ => ?_
   have xc58 := (xc.trans x46)
   exact ⟨true, H, _, env_eq ⟨rfl, rfl, rfl, rfl, rfl, trivial⟩, (X.stepx xc58), (ex28.ext xc58), ex49⟩
  have H := H.2 hc
  refine LP_ev ok 3 [(32, sl a29 seeds c30)] 4 rfl rfl ?_
  have xc62 := (xc.trans x46)
  have ex63 := (ex28.ext xc62)
  refine LP_call 4 rfl rfl rfl cal_46 rfl (spec_zeSeeds_w _ _ H wx45 r27 ex63) ?_
  rintro _ wx64 ⟨r61, H, rfl, x65⟩
  refine LP_ev ok 5 [(34, .bool (!r61)), (35, .bool (!r61)), (36, .bool (!r61))] 8 rfl rfl ?_
  refine LP_split 36 (!r61) rfl (fun hc66 => ?_) (fun hc66 => ?_)
  ·have H := H.1 hc66
   refine LP_ev ok 8 [(37, undef), (38, undef), (39, undef), (40, undef), (41, undef), (42, .bool true), (43, .bool true), (44, undef), (45, undef), (46, undef), (47, undef), (48, .bool true)] 20 rfl rfl ?_
   refine LP_end _ rfl ?_
   try refine W_forget [(4, sl a29 seeds c30), (5, I round), (6, I m), (16, sl a51 r38 c52), (48, .bool true)] ⟨rfl, rfl, rfl, rfl, rfl, trivial⟩ fun ρ => ?_
   exact ⟨true, H, _, env_eq ⟨rfl, rfl, rfl, rfl, rfl, trivial⟩, (X.stepx (xc62.trans x65)), (ex63.ext x65), (ex49.ext x65)⟩
  have H := H.2 hc66
  refine LP_ev ok 8 [(37, sl a29 seeds c30), (38, I (ln seeds)), (39, sl a23 sites c24), (40, I (ln sites)), (41, .bool ((ln seeds) != (ln sites))), (42, .bool ((ln seeds) != (ln sites))), (43, .bool ((ln seeds) != (ln sites)))] 15 rfl rfl ?_
  refine LP_split 43 ((ln seeds) != (ln sites)) rfl (fun hc71 => ?_) (fun hc71 => ?_)
  ·have H := H.1 hc71
   refine LP_ev ok 15 [(44, undef), (45, undef), (46, undef), (47, undef), (48, .bool true)] 20 rfl rfl ?_
   refine LP_end _ rfl ?_
   try refine W_forget [(4, sl a29 seeds c30), (5, I round), (6, I m), (16, sl a51 r38 c52), (48, .bool true)] ⟨rfl, rfl, rfl, rfl, rfl, trivial⟩ fun ρ => ?_
   exact ⟨true, H, _, env_eq ⟨rfl, rfl, rfl, rfl, rfl, trivial⟩, (X.stepx (xc62.trans x65)), (ex63.ext x65), (ex49.ext x65)⟩
  have H := H.2 hc71
  refine LP_ev ok 15 [(44, I round), (45, I m)] 17 rfl rfl ?_
  refine LP_call 17 rfl rfl rfl cal_47 rfl (spec_zeRound_w _ _ _ _ H wx64 ) ?_
  rintro _ wx77 ⟨r76, H, rfl, x78⟩
  refine LP_ev ok 18 [(47, .bool (!r76)), (48, .bool (!r76))] 20 rfl rfl ?_
  refine LP_end _ rfl ?_
  try refine W_forget [(4, sl a29 seeds c30), (5, I round), (6, I m), (16, sl a51 r38 c52), (48, .bool (!r76))] ⟨rfl, rfl, rfl, rfl, rfl, trivial⟩ fun ρ => ?_
  have xc81 := (x65.trans x78)
  exact ⟨!r76, H, _, env_eq ⟨rfl, rfl, rfl, rfl, rfl, trivial⟩, (X.stepx ((((x.trans x34).trans x46).trans x65).trans x78)), (ex63.ext xc81), (ex49.ext xc81)⟩
 rintro x53 _ wx54 ⟨H, ρ, rfl, X57, ex55, ex56⟩
 subst hk
 refine W_cond (x53) rfl (fun hc84 => ?_) (fun hc84 => ?_)
 ·have H := H.1 hc84
  refine W_seq (W_region ?_)
  refine LP_ev ok 0 [(14, .slice none 0 0), (15, .bool false)] 2 rfl rfl ?_
  refine LP_end _ rfl (W_ret ?_)
  exact ⟨_, Ret_of [.slice none 0 0, .bool false] ⟨⟨rfl, rfl⟩, ⟨rfl, rfl⟩, trivial⟩, _, _, _, emp, H, rfl, X57.ext, OS.nil, (emp_sub _), (emp_fresh _)⟩
 have H := H.2 hc84
 refine W_skip ?_
 refine W_seq (W_region ?_)
 refine LP_ev ok 0 [(18, .slice none 0 0)] 1 rfl rfl ?_
 refine LP_end _ rfl (W_seq ?_)
 refine W_seq (W_region ?_)
 refine LP_ev ok 0 [(49, sl a51 r38 c52), (50, I (ln r38)), (51, I 0)] 3 rfl rfl ?_
 refine LP_end _ rfl ?_
 refine W_block ?_
 obtain ⟨J, m98, Hx, H⟩ := H
 refine W_loop (S := (List (List Int)) × Int) (fun s ρ' w' => J s.1 s.2 ∧ ∃ (ρ : Env) (vx85 : Value) (hx86 : PH), ρ' = setAll [(4, sl a29 seeds c30), (5, I round), (6, I m), (18, vx85), (49, sl a51 r38 c52), (50, I (ln r38)), (51, I s.2)] ρ ∧ But emp w w' ∧ OD hx86 vx85 s.1 ∧ Sub hx86 w' ∧ Fresh w.heap.size hx86 ∧ Sub hx26 w' ∧ Sub hx48 w' ∧ Dj hx86 hx26 ∧ Dj hx86 hx48) (fun s => m98 s.1 s.2) ([], 0) ⟨Hx, _, .slice none 0 0, emp, env_eq ⟨rfl, rfl, rfl, rfl, rfl, rfl, rfl, trivial⟩, X57, OD.nil, (emp_sub _), (emp_fresh _), ex55, ex56, (fun _ => .inl rfl), (fun _ => .inl rfl)⟩ ?_
 rintro ⟨shares, x90⟩ _ wx91 ⟨Hi, ρ, vx85, hx86, rfl, HF⟩
 revert HF
 refine bb8 fun X97 o87 ex88 f89 ex92 ex93 d d96 => ?_
 have H := H shares x90 Hi
 obtain ⟨a94, c95, rfl⟩ := o87.shape
 refine W_seq (W_region ?_)
 refine LP_ev ok 0 [(52, .bool (decide (x90 < (ln r38))))] 1 rfl rfl ?_
 refine LP_end _ rfl (W_seq ?_)
 refine W_cond (decide (x90 < (ln r38))) rfl (fun hc99 => ?_) (fun hc99 => ?_)
 ·have H := H.1 hc99
  refine W_skip ?_
  refine W_seq ?_
  refine W_block ?_
  refine W_seq (W_region ?_)
  refine LP_ev ok 0 [(53, I x90)] 1 rfl rfl ?_
  obtain ⟨x100, hi, hx101, H⟩ := H
  refine LP_index 1 rfl rfl rfl Tryz.underlying29 ti_22 rfl rfl o.readf hi hx101 fun a102 cs r103 d104 => ?_
  refine LP_load 2 rfl rfl rfl ti_22 ag_22 rfl r103 d104 ex93 fun vx105 r106 => ?_
  have r109 := r106.slice
  obtain ⟨a107, c108, rfl⟩ := r109.shape
  refine LP_ev ok 3 [(19, I x90), (20, sl a107 x100 c108)] 5 rfl rfl ?_
  refine LP_end _ rfl (W_seq ?_)
  refine W_seq (W_region ?_)
  refine LP_ev ok 0 [(56, I m), (57, sl a107 x100 c108)] 2 rfl rfl ?_
  refine LP_call 2 rfl rfl rfl cal_48 rfl (spec_zeValues_w _ _ _ H wx91 r109 ex93) ?_
  rintro _ wx111 ⟨r110, H, rfl, x112⟩
  refine LP_ev ok 3 [(59, .bool (!r110))] 4 rfl rfl ?_
  refine LP_end _ rfl ?_
  refine W_cond (!r110) rfl (fun hc113 => ?_) (fun hc113 => ?_)
  ·have H := H.1 hc113
   refine W_seq (W_region ?_)
   refine LP_ev ok 0 [(14, .slice none 0 0), (15, .bool false)] 2 rfl rfl ?_
   refine LP_end _ rfl (W_ret ?_)
   exact ⟨_, Ret_of [.slice none 0 0, .bool false] ⟨⟨rfl, rfl⟩, ⟨rfl, rfl⟩, trivial⟩, _, _, _, emp, H, rfl, (X97.stepx x112).ext, OS.nil, (emp_sub _), (emp_fresh _)⟩
  have H := H.2 hc113
  refine W_skip ?_
  refine W_region ?_
  refine LP_ev ok 0 [(60, sl a94 shares c95), (61, sl a29 seeds c30), (62, I x90), (63, I round), (64, I m), (65, sl a107 x100 c108)] 6 rfl rfl ?_
  have ex116 := (ex92.ext x112)
  have ex117 := (ex93.ext x112)
  refine LP_call 6 rfl rfl rfl cal_49 rfl (spec_zeShare_w _ _ _ _ _ _ H wx111 r27 ex116 r109 ex117) ?_
  rintro _ wx118 ⟨r115, vx120, hx121, H, rfl, x119, o122, ex123, f124⟩
  obtain ⟨a125, c126, rfl⟩ := o122.shape
  refine LP_litD (α := List Int) 7 (vs := [sl a125 r115 c126]) (xs := [r115]) rfl rfl rfl Tryz.underlying29 ti_22 rfl rfl (allO.one (OD.rvo (OS.od o122))) ex123 rfl rfl fun hx127 vx128 wx129 x130 o131 ex132 dm => ?_
  obtain ⟨a133, c134, rfl⟩ := o131.shape
  have xc135 := ((x112.trans x119).trans x130)
  have ex137 := (ex88.ext x112)
  obtain ⟨hb, H⟩ := H
  refine LP_appendD (α := List Int) 8 rfl rfl rfl Tryz.underlying29 ti_22 rfl rfl rfl o87 (ex88.ext xc135) o131 ex132 (DomLe.dj dm (Dj.of_fresh ex137 f124).symm (ex137.ext x119)).symm (by first | omega | (simp only [ln] at *; omega)) (by first | omega | (simp only [ln] at *; omega)) fun hx139 vx140 wx141 hw o142 ex143 y dh dm144 => ?_
  obtain ⟨a145, c146, rfl⟩ := o142.shape
  refine LP_ev ok 9 [(18, .slice a145 (List.length (shares ++ ([r115]))) c146)] 10 rfl rfl ?_
  refine LP_end _ rfl ?_
  refine W_region ?_
  refine LP_ev ok 0 [(69, I (wr (x90 + 1))), (51, I (wr (x90 + 1)))] 2 rfl rfl ?_
  refine LP_end _ rfl ?_
  have X149 := (X97.stepx x112)
  have f148 := f124.mono X149.size
  have X151 := (X149.stepx x119)
  have f150 := DomLe.fresh dm f148 X151.size
  have f152 := DomLe.fresh dm144 (Fresh.un f89 f150) (X151.stepx x130).size
  have xc154 := (x119.trans x130)
  have ex157 := (ex116.ext x119)
  have ex159 := (ex117.ext x119)
  exact ⟨(shares ++ ([r115]), wr (x90 + 1)), ⟨H.1, _, .slice a145 (List.length (shares ++ ([r115]))) c146, hx139, env_eq ⟨rfl, rfl, rfl, rfl, rfl, rfl, rfl, trivial⟩, ((X97.stepx xc135).step (But.dom y dh) (f89.dom _)), o142, ex143, f152, ((ex116.ext xc154).but (But.dom y dh) d), ((ex117.ext xc154).but (But.dom y dh) d96), (DomLe.dj dm144 (Dj.un_l d (DomLe.dj dm (Dj.of_fresh ex116 f124).symm ex157)) (ex157.ext x130)), (DomLe.dj dm144 (Dj.un_l d96 (DomLe.dj dm (Dj.of_fresh ex117 f124).symm ex159)) (ex159.ext x130))⟩, H.2⟩
 have H := H.2 hc99
 refine W_exit ?_
 refine (if_pos rfl).mpr ?_
 refine W_seq (W_region ?_)
 refine LP_ev ok 0 [(70, I m), (71, sl a94 shares c95)] 2 rfl rfl ?_
 refine LP_call 2 rfl rfl rfl cal_50 rfl (spec_zeSum_w _ _ _ H wx91 o87.readf ex88) ?_
 rintro _ wx162 ⟨r161, vx164, hx165, H, rfl, x163, o166, ex167, f168⟩
 obtain ⟨a169, c170, rfl⟩ := o166.shape
 refine LP_ev ok 3 [(14, sl a169 r161 c170), (15, .bool true)] 5 rfl rfl ?_
 refine LP_end _ rfl (W_ret ?_)
 have f171 := f168.mono X97.size
 exact ⟨_, Ret_of [sl a169 r161 c170, .bool true] ⟨⟨rfl, rfl⟩, ⟨rfl, rfl⟩, trivial⟩, _, _, _, _, H, rfl, (X97.stepx x163).ext, o166, ex167, f171⟩

theorem impl_IsGeo_w (g : Geo) (Q : Bool → Prop) (H : impl_IsGeo g Q) (w : World) {vx : Value} {hx : PH} (r : RS hx vx g.Parents) (ex : Sub hx w) :
  CallsTo Tryz.prog 111 #[.agg #[vx]] w fun v w' => ∃ r0, Q r0 ∧ v = .bool r0 ∧ Ext w w' := by
 obtain ⟨a, c, rfl⟩ := r.shape
 refine enter (args := [.agg #[sl a g.Parents c]]) 43 Tryz.func111 rfl rfl rfl ?_
 refine W_forget [(0, .agg #[sl a g.Parents c])] ⟨rfl, trivial⟩ fun ρ => ?_
 have X := But.refl emp w
 refine W_seq (W_region ?_)
 refine LP_box 0 (cs := [sl a g.Parents c]) rfl rfl rfl rfl rfl fun b wx x ex1 f => ?_
 refine LP_ev ok 1 [(2, .bool false)] 2 rfl rfl ?_
 refine LP_end _ rfl (W_seq ?_)
 obtain ⟨k, hk, H⟩ := jn_elim H
 refine W_join2 (S := Bool) (fun s ρ' w' => k s ∧ ∃ (ρ : Env), ρ' = setAll [(1, pb b), (20, .bool s)] ρ ∧ wx = w') ?_ ?_
 ·refine W_region ?_
  refine LP_ev ok 0 [(4, pb b)] 1 rfl rfl ?_
  refine LP_ldbox 1 (v := sl a g.Parents c) rfl rfl rfl ti_22 ag_22 (fun _ => rfl) rfl ex1 rfl rfl ?_
  refine LP_ev ok 2 [(6, I (ln g.Parents)), (7, .bool (decide ((ln g.Parents) < 1))), (8, .bool (decide ((ln g.Parents) < 1)))] 5 rfl rfl ?_
  refine LP_split 8 (decide ((ln g.Parents) < 1)) rfl (fun hc => ?_) (fun hc => ?_)
  ·have H := H.1 hc
   refine LP_ev ok 5 [(9, undef), (10, undef), (11, undef), (12, undef), (13, .bool true), (14, .bool true), (15, undef), (16, undef), (17, undef), (18, undef), (19, undef), (20, .bool true)] 17 rfl rfl ?_
   exact LP_end _ rfl ⟨true, H, _, env_eq ⟨rfl, rfl, trivial⟩, rfl⟩
  have H := H.2 hc
  refine LP_ev ok 5 [(9, pb b)] 6 rfl rfl ?_
  refine LP_ldbox 6 (v := sl a g.Parents c) rfl rfl rfl ti_22 ag_22 (fun _ => rfl) rfl ex1 rfl rfl ?_
  refine LP_ev ok 7 [(11, I (ln g.Parents)), (12, .bool (decide ((ln g.Parents) > 30))), (13, .bool (decide ((ln g.Parents) > 30))), (14, .bool (decide ((ln g.Parents) > 30)))] 11 rfl rfl ?_
  refine LP_split 14 (decide ((ln g.Parents) > 30)) rfl (fun hc4 => ?_) (fun hc4 => ?_)
  ·have H := H.1 hc4
   refine LP_ev ok 11 [(15, undef), (16, undef), (17, undef), (18, undef), (19, undef), (20, .bool true)] 17 rfl rfl ?_
   exact LP_end _ rfl ⟨true, H, _, env_eq ⟨rfl, rfl, trivial⟩, rfl⟩
  have H := H.2 hc4
  refine LP_ev ok 11 [(15, pb b)] 12 rfl rfl ?_
  refine LP_ldbox 12 (v := sl a g.Parents c) rfl rfl rfl ti_22 ag_22 (fun _ => rfl) rfl ex1 rfl rfl ?_
  obtain ⟨x5, hi, hx6, H⟩ := H
  refine LP_index 13 rfl rfl rfl Tryz.underlying22 ti_3 rfl rfl r hi hx6 fun a7 cs r8 d => ?_
  refine LP_load 14 rfl rfl rfl ti_3 ag_3 rfl r8 d (ex.ext x) fun vx10 r11 => ?_
  obtain rfl := r11.int
  refine LP_ev ok 15 [(19, .bool (x5 != ((-1)))), (20, .bool (x5 != ((-1))))] 17 rfl rfl ?_
  exact LP_end _ rfl ⟨x5 != ((-1)), H, _, env_eq ⟨rfl, rfl, trivial⟩, rfl⟩
 rintro x2 _ _ ⟨H, ρ, rfl, rfl⟩
 subst hk
 refine W_cond (x2) rfl (fun hc12 => ?_) (fun hc12 => ?_)
 ·have H := H.1 hc12
  refine W_seq (W_region ?_)
  refine LP_ev ok 0 [(2, .bool false)] 1 rfl rfl ?_
  refine LP_end _ rfl (W_ret ?_)
  exact ⟨_, Ret_of [.bool false] ⟨⟨rfl, rfl⟩, trivial⟩, _, H, rfl, (X.stepx x).ext⟩
 have H := H.2 hc12
 refine W_skip ?_
 refine W_seq ?_
 refine W_seq (W_region ?_)
 refine LP_ev ok 0 [(3, I 1)] 1 rfl rfl ?_
 refine LP_end _ rfl ?_
 refine W_block ?_
 obtain ⟨J, m, Hx, H⟩ := H
 refine W_loop (S := Int) (fun s ρ' w' => J s ∧ ∃ (ρ : Env), ρ' = setAll [(1, pb b), (3, I s)] ρ ∧ wx = w') (fun s => m s) 1 ⟨Hx, _, env_eq ⟨rfl, rfl, trivial⟩, rfl⟩ ?_
 rintro i _ _ ⟨Hi, ρ, rfl, rfl⟩
 have H := H i Hi
 refine W_seq ?_
 refine W_seq (W_region ?_)
 refine LP_ev ok 0 [(21, I i), (22, pb b)] 2 rfl rfl ?_
 refine LP_ldbox 2 (v := sl a g.Parents c) rfl rfl rfl ti_22 ag_22 (fun _ => rfl) rfl ex1 rfl rfl ?_
 refine LP_ev ok 3 [(24, I (ln g.Parents)), (25, .bool (decide (i < (ln g.Parents))))] 5 rfl rfl ?_
 refine LP_end _ rfl ?_
 refine W_cond (decide (i < (ln g.Parents))) rfl (fun hc15 => ?_) (fun hc15 => ?_)
 ·have H := H.1 hc15
  refine W_skip ?_
  refine W_seq ?_
  refine W_block ?_
  obtain ⟨k18, hk19, H⟩ := jn_elim H
  refine W_join2 (S := Bool) (fun s ρ' w' => k18 s ∧ ∃ (ρ : Env), ρ' = setAll [(1, pb b), (3, I i), (42, .bool s)] ρ ∧ wx = w') ?_ ?_
  ·refine W_region ?_
   refine LP_ev ok 0 [(28, pb b)] 1 rfl rfl ?_
   refine LP_ldbox 1 (v := sl a g.Parents c) rfl rfl rfl ti_22 ag_22 (fun _ => rfl) rfl ex1 rfl rfl ?_
   refine LP_ev ok 2 [(30, I i)] 3 rfl rfl ?_
   obtain ⟨x20, hi21, hx22, H⟩ := H
   refine LP_index 3 rfl rfl rfl Tryz.underlying22 ti_3 rfl rfl r hi21 hx22 fun a23 cs24 r25 d26 => ?_
   have ex27 := (ex.ext x)
   refine LP_load 4 rfl rfl rfl ti_3 ag_3 rfl r25 d26 ex27 fun vx28 r29 => ?_
   obtain rfl := r29.int
   refine LP_ev ok 5 [(33, .bool (decide (x20 < 0))), (34, .bool (decide (x20 < 0)))] 7 rfl rfl ?_
   refine LP_split 34 (decide (x20 < 0)) rfl (fun hc30 => ?_) (fun hc30 => ?_)
   ·have H := H.1 hc30
    refine LP_ev ok 7 [(35, undef), (36, undef), (37, undef), (38, undef), (39, undef), (40, undef), (41, undef), (42, .bool true)] 15 rfl rfl ?_
    exact LP_end _ rfl ⟨true, H, _, env_eq ⟨rfl, rfl, rfl, trivial⟩, rfl⟩
   have H := H.2 hc30
   refine LP_ev ok 7 [(35, pb b)] 8 rfl rfl ?_
   refine LP_ldbox 8 (v := sl a g.Parents c) rfl rfl rfl ti_22 ag_22 (fun _ => rfl) rfl ex1 rfl rfl ?_
   refine LP_ev ok 9 [(37, I i)] 10 rfl rfl ?_
   obtain ⟨x31, hi32, hx33, H⟩ := H
   refine LP_index 10 rfl rfl rfl Tryz.underlying22 ti_3 rfl rfl r hi32 hx33 fun a34 cs35 r36 d37 => ?_
   refine LP_load 11 rfl rfl rfl ti_3 ag_3 rfl r36 d37 ex27 fun vx38 r39 => ?_
   obtain rfl := r39.int
   refine LP_ev ok 12 [(40, I i), (41, .bool (decide (x31 ≥ i))), (42, .bool (decide (x31 ≥ i)))] 15 rfl rfl ?_
   exact LP_end _ rfl ⟨decide (x31 ≥ i), H, _, env_eq ⟨rfl, rfl, rfl, trivial⟩, rfl⟩
  rintro x16 _ _ ⟨H, ρ, rfl, rfl⟩
  subst hk19
  refine W_cond (x16) rfl (fun hc40 => ?_) (fun hc40 => ?_)
  ·have H := H.1 hc40
   refine W_seq (W_region ?_)
   refine LP_ev ok 0 [(2, .bool false)] 1 rfl rfl ?_
   refine LP_end _ rfl (W_ret ?_)
   exact ⟨_, Ret_of [.bool false] ⟨⟨rfl, rfl⟩, trivial⟩, _, H, rfl, (X.stepx x).ext⟩
  have H := H.2 hc40
  refine W_skip ?_
  refine W_region ?_
  refine LP_ev ok 0 [(26, I i), (27, I (wr (i + 1))), (3, I (wr (i + 1)))] 3 rfl rfl ?_
  exact LP_end _ rfl ⟨wr (i + 1), ⟨H.1, _, env_eq ⟨rfl, rfl, trivial⟩, rfl⟩, H.2⟩
 have H := H.2 hc15
 refine W_exit ?_
 refine (if_pos rfl).mpr ?_
 refine W_seq (W_region ?_)
 refine LP_ev ok 0 [(2, .bool true)] 1 rfl rfl ?_
 refine LP_end _ rfl (W_ret ?_)
 exact ⟨_, Ret_of [.bool true] ⟨⟨rfl, rfl⟩, trivial⟩, _, H, rfl, (X.stepx x).ext⟩

theorem impl_isWord_w (sx : ByteArray) (Q : Bool → Prop) (H : impl_isWord sx Q) (w : World)  :
  CallsTo Tryz.prog 143 #[.string sx] w fun v w' => ∃ r0, Q r0 ∧ v = .bool r0 ∧ Ext w w' := by
 refine enter (args := [.string sx]) 28 Tryz.func143 rfl rfl rfl ?_
 refine W_forget [(0, .string sx)] ⟨rfl, trivial⟩ fun ρ => ?_
 have X := But.refl emp w
 refine W_seq (W_region ?_)
 refine LP_ev ok 0 [(2, .bool false)] 1 rfl rfl ?_
 refine LP_end _ rfl (W_seq ?_)
 obtain ⟨k, hk, H⟩ := jn_elim H
 refine W_join2 (S := Bool) (fun s ρ' w' => k s ∧ ∃ (ρ : Env), ρ' = setAll [(0, .string sx), (11, .bool s)] ρ ∧ w = w') ?_ ?_
 ·refine W_region ?_
  refine LP_ev ok 0 [(4, .string sx), (5, I (sln sx)), (6, .bool (decide ((sln sx) < 1))), (7, .bool (decide ((sln sx) < 1)))] 4 rfl rfl ?_
  refine LP_split 7 (decide ((sln sx) < 1)) rfl (fun hc => ?_) (fun hc => ?_)
  ·have H := H.1 hc
   refine LP_ev ok 4 [(8, undef), (9, undef), (10, undef), (11, .bool true)] 8 rfl rfl ?_
   exact LP_end _ rfl ⟨true, H, _, env_eq ⟨rfl, rfl, trivial⟩, rfl⟩
  have H := H.2 hc
  refine LP_ev ok 4 [(8, .string sx), (9, I (sln sx)), (10, .bool (decide ((sln sx) > 8))), (11, .bool (decide ((sln sx) > 8)))] 8 rfl rfl ?_
  exact LP_end _ rfl ⟨decide ((sln sx) > 8), H, _, env_eq ⟨rfl, rfl, trivial⟩, rfl⟩
 rintro x _ _ ⟨H, ρ, rfl, rfl⟩
 subst hk
 refine W_cond (x) rfl (fun hc1 => ?_) (fun hc1 => ?_)
 ·have H := H.1 hc1
  refine W_seq (W_region ?_)
  refine LP_ev ok 0 [(2, .bool false)] 1 rfl rfl ?_
  refine LP_end _ rfl (W_ret ?_)
  exact ⟨_, Ret_of [.bool false] ⟨⟨rfl, rfl⟩, trivial⟩, _, H, rfl, X.ext⟩
 have H := H.2 hc1
 refine W_skip ?_
 refine W_seq ?_
 refine W_seq (W_region ?_)
 refine LP_ev ok 0 [(12, .string sx), (13, I (sln sx)), (14, I 0)] 3 rfl rfl ?_
 refine LP_end _ rfl ?_
 refine W_block ?_
 obtain ⟨J, m, Hx, H⟩ := H
 refine W_loop (S := Int) (fun s ρ' w' => J s ∧ ∃ (ρ : Env), ρ' = setAll [(0, .string sx), (13, I (sln sx)), (14, I s)] ρ ∧ w = w') (fun s => m s) 0 ⟨Hx, _, env_eq ⟨rfl, rfl, rfl, trivial⟩, rfl⟩ ?_
 rintro x2 _ _ ⟨Hi, ρ, rfl, rfl⟩
 have H := H x2 Hi
 refine W_seq (W_region ?_)
 refine LP_ev ok 0 [(15, .bool (decide (x2 < (sln sx))))] 1 rfl rfl ?_
 refine LP_end _ rfl (W_seq ?_)
 refine W_cond (decide (x2 < (sln sx))) rfl (fun hc4 => ?_) (fun hc4 => ?_)
 ·have H := H.1 hc4
  refine W_skip ?_
  refine W_seq ?_
  refine W_block ?_
  refine W_seq (W_region ?_)
  refine LP_ev ok 0 [(16, I x2), (3, I x2)] 2 rfl rfl ?_
  refine LP_end _ rfl ?_
  obtain ⟨k7, hk8, H⟩ := jn_elim H
  refine W_join2 (S := Bool) (fun s ρ' w' => k7 s ∧ ∃ (ρ : Env), ρ' = setAll [(0, .string sx), (13, I (sln sx)), (14, I x2), (26, .bool s)] ρ ∧ w = w') ?_ ?_
  ·refine W_region ?_
   refine LP_ev ok 0 [(17, .string sx), (18, I x2)] 2 rfl rfl ?_
   obtain ⟨c, hi, hx, H⟩ := H
   refine LP_val 2 _ rfl rfl (ex_sidx rfl rfl rfl Tryz.underlying9 hi hx _) ?_
   refine LP_ev ok 3 [(20, .bool (decide ((((UInt8.toNat c : Nat) : Int)) < 97))), (21, .bool (decide ((((UInt8.toNat c : Nat) : Int)) < 97)))] 5 rfl rfl ?_
   refine LP_split 21 (decide ((((UInt8.toNat c : Nat) : Int)) < 97)) rfl (fun hc9 => ?_) (fun hc9 => ?_)
   ·have H := H.1 hc9
    refine LP_ev ok 5 [(22, undef), (23, undef), (24, undef), (25, undef), (26, .bool true)] 10 rfl rfl ?_
    exact LP_end _ rfl ⟨true, H, _, env_eq ⟨rfl, rfl, rfl, rfl, trivial⟩, rfl⟩
   have H := H.2 hc9
   refine LP_ev ok 5 [(22, .string sx), (23, I x2)] 7 rfl rfl ?_
   obtain ⟨c10, hi11, hx12, H⟩ := H
   refine LP_val 7 _ rfl rfl (ex_sidx rfl rfl rfl Tryz.underlying9 hi11 hx12 _) ?_
   refine LP_ev ok 8 [(25, .bool (decide ((((UInt8.toNat c10 : Nat) : Int)) > 122))), (26, .bool (decide ((((UInt8.toNat c10 : Nat) : Int)) > 122)))] 10 rfl rfl ?_
   exact LP_end _ rfl ⟨decide ((((UInt8.toNat c10 : Nat) : Int)) > 122), H, _, env_eq ⟨rfl, rfl, rfl, rfl, trivial⟩, rfl⟩
  rintro x5 _ _ ⟨H, ρ, rfl, rfl⟩
  subst hk8
  refine W_cond (x5) rfl (fun hc13 => ?_) (fun hc13 => ?_)
  ·have H := H.1 hc13
   refine W_seq (W_region ?_)
   refine LP_ev ok 0 [(2, .bool false)] 1 rfl rfl ?_
   refine LP_end _ rfl (W_ret ?_)
   exact ⟨_, Ret_of [.bool false] ⟨⟨rfl, rfl⟩, trivial⟩, _, H, rfl, X.ext⟩
  have H := H.2 hc13
  refine W_skip ?_
  refine W_region ?_
  refine LP_ev ok 0 [(27, I (wr (x2 + 1))), (14, I (wr (x2 + 1)))] 2 rfl rfl ?_
  exact LP_end _ rfl ⟨wr (x2 + 1), ⟨H.1, _, env_eq ⟨rfl, rfl, rfl, trivial⟩, rfl⟩, H.2⟩
 have H := H.2 hc4
 refine W_exit ?_
 refine (if_pos rfl).mpr ?_
 refine W_seq (W_region ?_)
 refine LP_ev ok 0 [(2, .bool true)] 1 rfl rfl ?_
 refine LP_end _ rfl (W_ret ?_)
 exact ⟨_, Ret_of [.bool true] ⟨⟨rfl, rfl⟩, trivial⟩, _, H, rfl, X.ext⟩

theorem impl_IsSchema_w (sx : List Variable) (Q : Bool → Prop) (H : impl_IsSchema sx Q) (w : World) {vx : Value} {hx : PH} (r : RS hx vx sx) (ex : Sub hx w) :
  CallsTo Tryz.prog 112 #[vx] w fun v w' => ∃ r0, Q r0 ∧ v = .bool r0 ∧ Ext w w' := by
 obtain ⟨a, c, rfl⟩ := r.shape
 refine enter (args := [sl a sx c]) 51 Tryz.func112 rfl rfl rfl ?_
 refine W_forget [(0, sl a sx c)] ⟨rfl, trivial⟩ fun ρ => ?_
 have X := But.refl emp w
 refine W_seq (W_region ?_)
 refine LP_ev ok 0 [(2, .bool false)] 1 rfl rfl ?_
 refine LP_end _ rfl (W_seq ?_)
 obtain ⟨k, hk, H⟩ := jn_elim H
 refine W_join2 (S := Bool) (fun s ρ' w' => k s ∧ ∃ (ρ : Env), ρ' = setAll [(0, sl a sx c), (14, .bool s)] ρ ∧ w = w') ?_ ?_
 ·refine W_region ?_
  refine LP_ev ok 0 [(7, sl a sx c), (8, I (ln sx)), (9, .bool (decide ((ln sx) < 1))), (10, .bool (decide ((ln sx) < 1)))] 4 rfl rfl ?_
  refine LP_split 10 (decide ((ln sx) < 1)) rfl (fun hc => ?_) (fun hc => ?_)
  ·have H := H.1 hc
   refine LP_ev ok 4 [(11, undef), (12, undef), (13, undef), (14, .bool true)] 8 rfl rfl ?_
   exact LP_end _ rfl ⟨true, H, _, env_eq ⟨rfl, rfl, trivial⟩, rfl⟩
  have H := H.2 hc
  refine LP_ev ok 4 [(11, sl a sx c), (12, I (ln sx)), (13, .bool (decide ((ln sx) > 6))), (14, .bool (decide ((ln sx) > 6)))] 8 rfl rfl ?_
  exact LP_end _ rfl ⟨decide ((ln sx) > 6), H, _, env_eq ⟨rfl, rfl, trivial⟩, rfl⟩
 rintro x _ _ ⟨H, ρ, rfl, rfl⟩
 subst hk
 refine W_cond (x) rfl (fun hc1 => ?_) (fun hc1 => ?_)
 ·have H := H.1 hc1
  refine W_seq (W_region ?_)
  refine LP_ev ok 0 [(2, .bool false)] 1 rfl rfl ?_
  refine LP_end _ rfl (W_ret ?_)
  exact ⟨_, Ret_of [.bool false] ⟨⟨rfl, rfl⟩, trivial⟩, _, H, rfl, X.ext⟩
 have H := H.2 hc1
 refine W_skip ?_
 refine W_seq ?_
 refine W_seq (W_region ?_)
 refine LP_ev ok 0 [(15, sl a sx c), (16, I (ln sx)), (17, I 0)] 3 rfl rfl ?_
 refine LP_end _ rfl ?_
 refine W_block ?_
 obtain ⟨J, m, Hx, H⟩ := H
 refine W_loop (S := Int) (fun s ρ' w' => J s ∧ ∃ (ρ : Env), ρ' = setAll [(0, sl a sx c), (15, sl a sx c), (16, I (ln sx)), (17, I s)] ρ ∧ But emp w w' ∧ Sub hx w') (fun s => m s) 0 ⟨Hx, _, env_eq ⟨rfl, rfl, rfl, rfl, trivial⟩, X, ex⟩ ?_
 rintro x2 _ wx3 ⟨Hi, ρ, rfl, X5, ex4⟩
 have H := H x2 Hi
 refine W_seq (W_region ?_)
 refine LP_ev ok 0 [(18, .bool (decide (x2 < (ln sx))))] 1 rfl rfl ?_
 refine LP_end _ rfl (W_seq ?_)
 refine W_cond (decide (x2 < (ln sx))) rfl (fun hc6 => ?_) (fun hc6 => ?_)
 ·have H := H.1 hc6
  refine W_skip ?_
  refine W_seq ?_
  refine W_block ?_
  refine W_seq (W_region ?_)
  refine LP_ev ok 0 [(19, I x2)] 1 rfl rfl ?_
  obtain ⟨x7, hi, hx8, H⟩ := H
  refine LP_index 1 rfl rfl rfl Tryz.underlying39 ti_82 rfl rfl r hi hx8 fun a9 cs r10 d => ?_
  refine LP_load 2 rfl rfl rfl ti_82 ag_82 rfl r10 d ex4 fun vx11 r12 => ?_
  obtain rfl := Variable_rv r12
  refine LP_alloc 3 rfl rfl rfl ti_82 rfl fun b wx13 x14 ex15 f => ?_
  refine LP_ev ok 4 [(3, I x2)] 5 rfl rfl ?_
  refine LP_stbox 5 (vs := [.string x7.Name, I x7.Levels]) (cs' := [.string x7.Name, I x7.Levels]) rfl rfl rfl ti_82 rfl rfl rfl rfl rfl ex15 rfl rfl fun wx16 ex17 y => ?_
  refine LP_end _ rfl (W_seq ?_)
  obtain ⟨k23, hk24, H⟩ := jn_elim H
  refine W_join2 (S := Bool) (fun s ρ' w' => k23 s ∧ ∃ (ρ : Env), ρ' = setAll [(0, sl a sx c), (3, I x2), (4, pb b), (15, sl a sx c), (16, I (ln sx)), (17, I x2), (35, .bool s)] ρ ∧ But emp w w' ∧ Sub hx w' ∧ Sub (bx b 82 [.string x7.Name, I x7.Levels]) w') ?_ ?_
  ·refine W_region ?_
   refine LP_ev ok 0 [(22, pb b)] 1 rfl rfl ?_
   refine LP_ldbox 1 (v := .string x7.Name) rfl rfl rfl ti_9 ag_9 (fun _ => rfl) rfl ex17 rfl rfl ?_
   refine LP_call 2 rfl rfl rfl cal_143 rfl (impl_isWord_w _ _ H wx16 ) ?_
   rintro _ wx26 ⟨r25, H, rfl, x27⟩
   refine LP_ev ok 3 [(25, .bool (!r25)), (26, .bool (!r25))] 5 rfl rfl ?_
   refine LP_split 26 (!r25) rfl (fun hc28 => ?_) (fun hc28 => ?_)
   ·have H := H.1 hc28
    refine LP_ev ok 5 [(27, undef), (28, undef), (29, undef), (30, .bool true), (31, .bool true), (32, undef), (33, undef), (34, undef), (35, .bool true)] 14 rfl rfl ?_
    refine LP_end _ rfl ?_
    have f29 := f.mono X5.size
    exact ⟨true, H, _, env_eq ⟨rfl, rfl, rfl, rfl, rfl, rfl, rfl, trivial⟩, (((X5.stepx x14).step y (f29.dom _)).stepx x27), (((ex4.ext x14).but y (Dj.of_fresh ex4 f).symm).ext x27), (ex17.ext x27)⟩
   have H := H.2 hc28
   refine LP_ev ok 5 [(27, .pointer (some ⟨b, 1, none⟩))] 6 rfl rfl ?_
   have ex33 := (ex17.ext x27)
   refine LP_ldbox 6 (v := I x7.Levels) rfl rfl rfl ti_3 ag_3 (fun _ => rfl) rfl ex33 rfl rfl ?_
   refine LP_ev ok 7 [(29, .bool (decide (x7.Levels < 2))), (30, .bool (decide (x7.Levels < 2))), (31, .bool (decide (x7.Levels < 2)))] 10 rfl rfl ?_
   refine LP_split 31 (decide (x7.Levels < 2)) rfl (fun hc34 => ?_) (fun hc34 => ?_)
   ·have H := H.1 hc34
    refine LP_ev ok 10 [(32, undef), (33, undef), (34, undef), (35, .bool true)] 14 rfl rfl ?_
    refine LP_end _ rfl ?_
    have f35 := f.mono X5.size
    exact ⟨true, H, _, env_eq ⟨rfl, rfl, rfl, rfl, rfl, rfl, rfl, trivial⟩, (((X5.stepx x14).step y (f35.dom _)).stepx x27), (((ex4.ext x14).but y (Dj.of_fresh ex4 f).symm).ext x27), ex33⟩
   have H := H.2 hc34
   refine LP_ev ok 10 [(32, .pointer (some ⟨b, 1, none⟩))] 11 rfl rfl ?_
   refine LP_ldbox 11 (v := I x7.Levels) rfl rfl rfl ti_3 ag_3 (fun _ => rfl) rfl ex33 rfl rfl ?_
   refine LP_ev ok 12 [(34, .bool (decide (x7.Levels > 8))), (35, .bool (decide (x7.Levels > 8)))] 14 rfl rfl ?_
   refine LP_end _ rfl ?_
   have f38 := f.mono X5.size
   exact ⟨decide (x7.Levels > 8), H, _, env_eq ⟨rfl, rfl, rfl, rfl, rfl, rfl, rfl, trivial⟩, (((X5.stepx x14).step y (f38.dom _)).stepx x27), (((ex4.ext x14).but y (Dj.of_fresh ex4 f).symm).ext x27), ex33⟩
  rintro x18 _ wx19 ⟨H, ρ, rfl, X22, ex20, ex21⟩
  subst hk24
  refine W_cond (x18) rfl (fun hc41 => ?_) (fun hc41 => ?_)
  ·have H := H.1 hc41
   refine W_seq (W_region ?_)
   refine LP_ev ok 0 [(2, .bool false)] 1 rfl rfl ?_
   refine LP_end _ rfl (W_ret ?_)
   exact ⟨_, Ret_of [.bool false] ⟨⟨rfl, rfl⟩, trivial⟩, _, H, rfl, X22.ext⟩
  have H := H.2 hc41
  refine W_skip ?_
  refine W_seq (W_region ?_)
  refine LP_ev ok 0 [(36, sl a sx c), (37, I x2)] 2 rfl rfl ?_
  obtain ⟨hl, hu, hn, H⟩ := H
  refine LP_slice 2 0 x2 rfl rfl rfl Tryz.underlying39 ti_82 rfl rfl rfl r (.inl ⟨rfl, rfl⟩) (.inr rfl) hl hu hn fun vx42 r43 => ?_
  obtain ⟨a44, c45, rfl⟩ := r43.shape
  refine LP_ev ok 3 [(39, I (ln (List.take (Int.toNat x2 - Int.toNat 0) (List.drop (Int.toNat 0) sx)))), (40, I 0)] 5 rfl rfl ?_
  refine LP_end _ rfl ?_
  refine W_block ?_
  obtain ⟨J51, m52, Hx53, H⟩ := H
  refine W_loop (S := Int) (fun s ρ' w' => J51 s ∧ ∃ (ρ : Env), ρ' = setAll [(0, sl a sx c), (4, pb b), (15, sl a sx c), (16, I (ln sx)), (17, I x2), (38, .slice a44 (List.length (List.take (Int.toNat x2 - Int.toNat 0) (List.drop (Int.toNat 0) sx))) c45), (39, I (ln (List.take (Int.toNat x2 - Int.toNat 0) (List.drop (Int.toNat 0) sx)))), (40, I s)] ρ ∧ But emp w w' ∧ Sub hx w' ∧ Sub (bx b 82 [.string x7.Name, I x7.Levels]) w') (fun s => m52 s) 0 ⟨Hx53, _, env_eq ⟨rfl, rfl, rfl, rfl, rfl, rfl, rfl, rfl, trivial⟩, X22, ex20, ex21⟩ ?_
  rintro x46 _ wx47 ⟨Hi, ρ, rfl, X50, ex48, ex49⟩
  have H := H x46 Hi
  refine W_seq (W_region ?_)
  refine LP_ev ok 0 [(41, .bool (decide (x46 < (ln (List.take (Int.toNat x2 - Int.toNat 0) (List.drop (Int.toNat 0) sx))))))] 1 rfl rfl ?_
  refine LP_end _ rfl (W_seq ?_)
  refine W_cond (decide (x46 < (ln (List.take (Int.toNat x2 - Int.toNat 0) (List.drop (Int.toNat 0) sx))))) rfl (fun hc55 => ?_) (fun hc55 => ?_)
  ·have H := H.1 hc55
   refine W_skip ?_
   refine W_seq ?_
   refine W_block ?_
   refine W_seq (W_region ?_)
   obtain ⟨x56, hi57, hx58, H⟩ := H
   refine LP_index 0 rfl rfl rfl Tryz.underlying39 ti_82 rfl rfl r43 hi57 hx58 fun a59 cs60 r61 d62 => ?_
   refine LP_load 1 rfl rfl rfl ti_82 ag_82 rfl r61 d62 ex48 fun vx63 r64 => ?_
   obtain rfl := Variable_rv r64
   refine LP_alloc 2 rfl rfl rfl ti_82 rfl fun b65 wx66 x67 ex68 f69 => ?_
   refine LP_stbox 3 (vs := [.string x56.Name, I x56.Levels]) (cs' := [.string x56.Name, I x56.Levels]) rfl rfl rfl ti_82 rfl rfl rfl rfl rfl ex68 rfl rfl fun wx70 ex71 y72 => ?_
   refine LP_end _ rfl (W_seq (W_region ?_))
   refine LP_ev ok 0 [(44, pb b65)] 1 rfl rfl ?_
   refine LP_ldbox 1 (v := .string x56.Name) rfl rfl rfl ti_9 ag_9 (fun _ => rfl) rfl ex71 rfl rfl ?_
   refine LP_ev ok 2 [(46, pb b)] 3 rfl rfl ?_
   have ex73 := ((ex49.ext x67).but y72 (Dj.of_fresh ex49 f69).symm)
   refine LP_ldbox 3 (v := .string x7.Name) rfl rfl rfl ti_9 ag_9 (fun _ => rfl) rfl ex73 rfl rfl ?_
   refine LP_ev ok 4 [(48, .bool (streq x56.Name x7.Name))] 5 rfl rfl ?_
   refine LP_end _ rfl ?_
   refine W_cond (streq x56.Name x7.Name) rfl (fun hc74 => ?_) (fun hc74 => ?_)
   ·have H := H.1 hc74
    refine W_seq (W_region ?_)
    refine LP_ev ok 0 [(2, .bool false)] 1 rfl rfl ?_
    refine LP_end _ rfl (W_ret ?_)
    have f75 := f69.mono X50.size
    exact ⟨_, Ret_of [.bool false] ⟨⟨rfl, rfl⟩, trivial⟩, _, H, rfl, ((X50.stepx x67).step y72 (f75.dom _)).ext⟩
   have H := H.2 hc74
   refine W_skip ?_
   refine W_region ?_
   refine LP_ev ok 0 [(49, I (wr (x46 + 1))), (40, I (wr (x46 + 1)))] 2 rfl rfl ?_
   refine LP_end _ rfl ?_
   have f77 := f69.mono X50.size
   exact ⟨wr (x46 + 1), ⟨H.1, _, env_eq ⟨rfl, rfl, rfl, rfl, rfl, rfl, rfl, rfl, trivial⟩, ((X50.stepx x67).step y72 (f77.dom _)), ((ex48.ext x67).but y72 (Dj.of_fresh ex48 f69).symm), ex73⟩, H.2⟩
  have H := H.2 hc55
  refine W_exit ?_
  refine (if_pos rfl).mpr ?_
  refine W_region ?_
  refine LP_ev ok 0 [(50, I (wr (x2 + 1))), (17, I (wr (x2 + 1)))] 2 rfl rfl ?_
  exact LP_end _ rfl ⟨wr (x2 + 1), ⟨H.1, _, env_eq ⟨rfl, rfl, rfl, rfl, trivial⟩, X50, ex48⟩, H.2⟩
 have H := H.2 hc6
 refine W_exit ?_
 refine (if_pos rfl).mpr ?_
 refine W_seq (W_region ?_)
 refine LP_ev ok 0 [(2, .bool true)] 1 rfl rfl ?_
 refine LP_end _ rfl (W_ret ?_)
 exact ⟨_, Ret_of [.bool true] ⟨⟨rfl, rfl⟩, trivial⟩, _, H, rfl, X5.ext⟩

theorem impl_areVars_w (sx : List Variable) (vars : List Int) (Q : Bool → Prop) (H : impl_areVars sx vars Q) (w : World) {vx : Value} {hx : PH} (r : RS hx vx sx) (ex : Sub hx w) {vx1 : Value} {hx2 : PH} (r3 : RS hx2 vx1 vars) (ex4 : Sub hx2 w) :
  CallsTo Tryz.prog 144 #[vx, vx1] w fun v w' => ∃ r0, Q r0 ∧ v = .bool r0 ∧ Ext w w' := by
 obtain ⟨a, c, rfl⟩ := r.shape
 obtain ⟨a5, c6, rfl⟩ := r3.shape
 refine enter (args := [sl a sx c, sl a5 vars c6]) 25 Tryz.func144 rfl rfl rfl ?_
 refine W_forget [(0, sl a sx c), (1, sl a5 vars c6)] ⟨rfl, rfl, trivial⟩ fun ρ => ?_
 have X := But.refl emp w
 refine W_seq (W_region ?_)
 refine LP_ev ok 0 [(4, .bool false)] 1 rfl rfl ?_
 refine LP_end _ rfl (W_seq (W_region ?_))
 refine LP_ev ok 0 [(5, I ((-1)))] 1 rfl rfl ?_
 refine LP_end _ rfl (W_seq ?_)
 refine W_seq (W_region ?_)
 refine LP_ev ok 0 [(8, sl a5 vars c6), (9, I (ln vars)), (10, I 0)] 3 rfl rfl ?_
 refine LP_end _ rfl ?_
 refine W_block ?_
 obtain ⟨J, m, Hx, H⟩ := H
 refine W_loop (S := Int × Int) (fun s ρ' w' => J s.1 s.2 ∧ ∃ (ρ : Env), ρ' = setAll [(0, sl a sx c), (5, I s.1), (8, sl a5 vars c6), (9, I (ln vars)), (10, I s.2)] ρ ∧ w = w') (fun s => m s.1 s.2) ((-1), 0) ⟨Hx, _, env_eq ⟨rfl, rfl, rfl, rfl, rfl, trivial⟩, rfl⟩ ?_
 rintro ⟨last, x⟩ _ _ ⟨Hi, ρ, rfl, rfl⟩
 have H := H last x Hi
 refine W_seq (W_region ?_)
 refine LP_ev ok 0 [(11, .bool (decide (x < (ln vars))))] 1 rfl rfl ?_
 refine LP_end _ rfl (W_seq ?_)
 refine W_cond (decide (x < (ln vars))) rfl (fun hc => ?_) (fun hc => ?_)
 ·have H := H.1 hc
  refine W_skip ?_
  refine W_seq ?_
  refine W_block ?_
  refine W_seq (W_region ?_)
  obtain ⟨x7, hi, hx8, H⟩ := H
  refine LP_index 0 rfl rfl rfl Tryz.underlying22 ti_3 rfl rfl r3 hi hx8 fun a9 cs r10 d => ?_
  refine LP_load 1 rfl rfl rfl ti_3 ag_3 rfl r10 d ex4 fun vx11 r12 => ?_
  obtain rfl := r12.int
  refine LP_ev ok 2 [(7, I x7)] 3 rfl rfl ?_
  refine LP_end _ rfl (W_seq ?_)
  obtain ⟨k, hk, H⟩ := jn_elim H
  refine W_join2 (S := Bool) (fun s ρ' w' => k s ∧ ∃ (ρ : Env), ρ' = setAll [(0, sl a sx c), (7, I x7), (8, sl a5 vars c6), (9, I (ln vars)), (10, I x), (22, .bool s)] ρ ∧ w = w') ?_ ?_
  ·refine W_region ?_
   refine LP_ev ok 0 [(14, I x7), (15, I last), (16, .bool (decide (x7 ≤ last))), (17, .bool (decide (x7 ≤ last)))] 4 rfl rfl ?_
   refine LP_split 17 (decide (x7 ≤ last)) rfl (fun hc15 => ?_) (fun hc15 => ?_)
   ·have H := H.1 hc15
    refine LP_ev ok 4 [(18, undef), (19, undef), (20, undef), (21, undef), (22, .bool true)] 9 rfl rfl ?_
    exact LP_end _ rfl ⟨true, H, _, env_eq ⟨rfl, rfl, rfl, rfl, rfl, rfl, trivial⟩, rfl⟩
   have H := H.2 hc15
   refine LP_ev ok 4 [(18, I x7), (19, sl a sx c), (20, I (ln sx)), (21, .bool (decide (x7 ≥ (ln sx)))), (22, .bool (decide (x7 ≥ (ln sx))))] 9 rfl rfl ?_
   exact LP_end _ rfl ⟨decide (x7 ≥ (ln sx)), H, _, env_eq ⟨rfl, rfl, rfl, rfl, rfl, rfl, trivial⟩, rfl⟩
  rintro x13 _ _ ⟨H, ρ, rfl, rfl⟩
  subst hk
  refine W_cond (x13) rfl (fun hc16 => ?_) (fun hc16 => ?_)
  ·have H := H.1 hc16
   refine W_seq (W_region ?_)
   refine LP_ev ok 0 [(4, .bool false)] 1 rfl rfl ?_
   refine LP_end _ rfl (W_ret ?_)
   exact ⟨_, Ret_of [.bool false] ⟨⟨rfl, rfl⟩, trivial⟩, _, H, rfl, X.ext⟩
  have H := H.2 hc16
  refine W_skip ?_
  refine W_region ?_
  refine LP_ev ok 0 [(23, I x7), (5, I x7)] 2 rfl rfl ?_
  refine LP_end _ rfl ?_
  refine W_region ?_
  refine LP_ev ok 0 [(24, I (wr (x + 1))), (10, I (wr (x + 1)))] 2 rfl rfl ?_
  exact LP_end _ rfl ⟨(x7, wr (x + 1)), ⟨H.1, _, env_eq ⟨rfl, rfl, rfl, rfl, rfl, trivial⟩, rfl⟩, H.2⟩
 have H := H.2 hc
 refine W_exit ?_
 refine (if_pos rfl).mpr ?_
 refine W_seq (W_region ?_)
 refine LP_ev ok 0 [(4, .bool true)] 1 rfl rfl ?_
 refine LP_end _ rfl (W_ret ?_)
 exact ⟨_, Ret_of [.bool true] ⟨⟨rfl, rfl⟩, trivial⟩, _, H, rfl, X.ext⟩

theorem impl_fullSet_w (vx : Variable) (Q : Int → Prop) (H : impl_fullSet vx Q) (w : World)  :
  CallsTo Tryz.prog 164 #[.agg #[.string vx.Name, I vx.Levels]] w fun v w' => ∃ r0, Q r0 ∧ v = I r0 ∧ Ext w w' := by
 refine enter (args := [.agg #[.string vx.Name, I vx.Levels]]) 7 Tryz.func164 rfl rfl rfl ?_
 refine W_forget [(0, .agg #[.string vx.Name, I vx.Levels])] ⟨rfl, trivial⟩ fun ρ => ?_
 have X := But.refl emp w
 refine W_seq (W_region ?_)
 refine LP_box 0 (cs := [.string vx.Name, I vx.Levels]) rfl rfl rfl rfl rfl fun b wx x ex f => ?_
 refine LP_ev ok 1 [(2, I 0)] 2 rfl rfl ?_
 refine LP_end _ rfl (W_seq (W_region ?_))
 refine LP_ev ok 0 [(3, .pointer (some ⟨b, 1, none⟩))] 1 rfl rfl ?_
 refine LP_ldbox 1 (v := I vx.Levels) rfl rfl rfl ti_3 ag_3 (fun _ => rfl) rfl ex rfl rfl ?_
 obtain ⟨hz, H⟩ := H
 refine LP_val 2 _ rfl rfl (ex_shl rfl rfl rfl hz _) ?_
 refine LP_ev ok 3 [(6, I (wr ((shl .i64 1 vx.Levels) - 1))), (2, I (wr ((shl .i64 1 vx.Levels) - 1)))] 5 rfl rfl ?_
 refine LP_end _ rfl (W_ret ?_)
 exact ⟨_, Ret_of [I (wr ((shl .i64 1 vx.Levels) - 1))] ⟨⟨rfl, rfl⟩, trivial⟩, _, H, rfl, (X.stepx x).ext⟩

theorem impl_isWhere_w (sx : List Variable) (wherex : List Int) (Q : Bool → Prop) (H : impl_isWhere sx wherex Q) (w : World) {vx : Value} {hx : PH} (r : RS hx vx sx) (ex : Sub hx w) {vx1 : Value} {hx2 : PH} (r3 : RS hx2 vx1 wherex) (ex4 : Sub hx2 w) :
  CallsTo Tryz.prog 145 #[vx, vx1] w fun v w' => ∃ r0, Q r0 ∧ v = .bool r0 ∧ Ext w w' := by
 obtain ⟨a, c, rfl⟩ := r.shape
 obtain ⟨a5, c6, rfl⟩ := r3.shape
 refine enter (args := [sl a sx c, sl a5 wherex c6]) 31 Tryz.func145 rfl rfl rfl ?_
 refine W_forget [(0, sl a sx c), (1, sl a5 wherex c6)] ⟨rfl, rfl, trivial⟩ fun ρ => ?_
 have X := But.refl emp w
 refine W_seq (W_region ?_)
 refine LP_ev ok 0 [(4, .bool false)] 1 rfl rfl ?_
 refine LP_end _ rfl (W_seq ?_)
 refine W_seq (W_region ?_)
 refine LP_ev ok 0 [(7, sl a5 wherex c6), (8, I (ln wherex)), (9, sl a sx c), (10, I (ln sx)), (11, .bool ((ln wherex) != (ln sx)))] 5 rfl rfl ?_
 refine LP_end _ rfl ?_
 refine W_cond ((ln wherex) != (ln sx)) rfl (fun hc => ?_) (fun hc => ?_)
 ·have H := H.1 hc
  refine W_seq (W_region ?_)
  refine LP_ev ok 0 [(4, .bool false)] 1 rfl rfl ?_
  refine LP_end _ rfl (W_ret ?_)
  exact ⟨_, Ret_of [.bool false] ⟨⟨rfl, rfl⟩, trivial⟩, _, H, rfl, X.ext⟩
 have H := H.2 hc
 refine W_skip ?_
 refine W_seq ?_
 refine W_seq (W_region ?_)
 refine LP_ev ok 0 [(12, sl a5 wherex c6), (13, I (ln wherex)), (14, I 0)] 3 rfl rfl ?_
 refine LP_end _ rfl ?_
 refine W_block ?_
 obtain ⟨J, m, Hx, H⟩ := H
 refine W_loop (S := Int) (fun s ρ' w' => J s ∧ ∃ (ρ : Env), ρ' = setAll [(0, sl a sx c), (12, sl a5 wherex c6), (13, I (ln wherex)), (14, I s)] ρ ∧ But emp w w' ∧ Sub hx w' ∧ Sub hx2 w') (fun s => m s) 0 ⟨Hx, _, env_eq ⟨rfl, rfl, rfl, rfl, trivial⟩, X, ex, ex4⟩ ?_
 rintro x _ wx ⟨Hi, ρ, rfl, X9, ex7, ex8⟩
 have H := H x Hi
 refine W_seq (W_region ?_)
 refine LP_ev ok 0 [(15, .bool (decide (x < (ln wherex))))] 1 rfl rfl ?_
 refine LP_end _ rfl (W_seq ?_)
 refine W_cond (decide (x < (ln wherex))) rfl (fun hc10 => ?_) (fun hc10 => ?_)
 ·have H := H.1 hc10
  refine W_skip ?_
  refine W_seq ?_
  refine W_block ?_
  refine W_seq (W_region ?_)
  refine LP_ev ok 0 [(16, I x)] 1 rfl rfl ?_
  obtain ⟨x11, hi, hx12, H⟩ := H
  refine LP_index 1 rfl rfl rfl Tryz.underlying22 ti_3 rfl rfl r3 hi hx12 fun a13 cs r14 d => ?_
  refine LP_load 2 rfl rfl rfl ti_3 ag_3 rfl r14 d ex8 fun vx15 r16 => ?_
  obtain rfl := r16.int
  refine LP_ev ok 3 [(5, I x), (6, I x11)] 5 rfl rfl ?_
  refine LP_end _ rfl ?_
  obtain ⟨k, hk, H⟩ := jn_elim H
  refine W_join2 (S := Bool) (fun s ρ' w' => k s ∧ ∃ (ρ : Env), ρ' = setAll [(0, sl a sx c), (12, sl a5 wherex c6), (13, I (ln wherex)), (14, I x), (29, .bool s)] ρ ∧ But emp w w' ∧ Sub hx w' ∧ Sub hx2 w') ?_ ?_
  ·refine W_region ?_
   refine LP_ev ok 0 [(19, I x11), (20, .bool (decide (x11 < 0))), (21, .bool (decide (x11 < 0)))] 3 rfl rfl ?_
   refine LP_split 21 (decide (x11 < 0)) rfl (fun hc22 => ?_) (fun hc22 => ?_)
   ·have H := H.1 hc22
    refine LP_ev ok 3 [(22, undef), (23, undef), (24, undef), (25, undef), (26, undef), (27, undef), (28, undef), (29, .bool true)] 11 rfl rfl ?_
    exact LP_end _ rfl ⟨true, H, _, env_eq ⟨rfl, rfl, rfl, rfl, rfl, trivial⟩, X9, ex7, ex8⟩
   have H := H.2 hc22
   refine LP_ev ok 3 [(22, I x11), (23, sl a sx c), (24, I x)] 6 rfl rfl ?_
   obtain ⟨x23, hi24, hx25, H⟩ := H
   refine LP_index 6 rfl rfl rfl Tryz.underlying39 ti_82 rfl rfl r hi24 hx25 fun a26 cs27 r28 d29 => ?_
   refine LP_load 7 rfl rfl rfl ti_82 ag_82 rfl r28 d29 ex7 fun vx30 r31 => ?_
   obtain rfl := Variable_rv r31
   refine LP_call 8 rfl rfl rfl cal_164 rfl (impl_fullSet_w _ _ H wx ) ?_
   rintro _ wx33 ⟨r32, H, rfl, x34⟩
   refine LP_ev ok 9 [(28, .bool (decide (x11 > r32))), (29, .bool (decide (x11 > r32)))] 11 rfl rfl ?_
   exact LP_end _ rfl ⟨decide (x11 > r32), H, _, env_eq ⟨rfl, rfl, rfl, rfl, rfl, trivial⟩, (X9.stepx x34), (ex7.ext x34), (ex8.ext x34)⟩
  rintro x17 _ wx18 ⟨H, ρ, rfl, X21, ex19, ex20⟩
  subst hk
  refine W_cond (x17) rfl (fun hc38 => ?_) (fun hc38 => ?_)
  ·have H := H.1 hc38
   refine W_seq (W_region ?_)
   refine LP_ev ok 0 [(4, .bool false)] 1 rfl rfl ?_
   refine LP_end _ rfl (W_ret ?_)
   exact ⟨_, Ret_of [.bool false] ⟨⟨rfl, rfl⟩, trivial⟩, _, H, rfl, X21.ext⟩
  have H := H.2 hc38
  refine W_skip ?_
  refine W_region ?_
  refine LP_ev ok 0 [(30, I (wr (x + 1))), (14, I (wr (x + 1)))] 2 rfl rfl ?_
  exact LP_end _ rfl ⟨wr (x + 1), ⟨H.1, _, env_eq ⟨rfl, rfl, rfl, rfl, trivial⟩, X21, ex19, ex20⟩, H.2⟩
 have H := H.2 hc10
 refine W_exit ?_
 refine (if_pos rfl).mpr ?_
 refine W_seq (W_region ?_)
 refine LP_ev ok 0 [(4, .bool true)] 1 rfl rfl ?_
 refine LP_end _ rfl (W_ret ?_)
 exact ⟨_, Ret_of [.bool true] ⟨⟨rfl, rfl⟩, trivial⟩, _, H, rfl, X9.ext⟩

theorem impl_depthOf_w (g : Geo) (i : Int) (Q : Int → Prop) (H : impl_depthOf g i Q) (w : World) {vx : Value} {hx : PH} (r : RS hx vx g.Parents) (ex : Sub hx w) :
  CallsTo Tryz.prog 167 #[.agg #[vx], I i] w fun v w' => ∃ r0, Q r0 ∧ v = I r0 ∧ Ext w w' := by
 obtain ⟨a, c, rfl⟩ := r.shape
 refine enter (args := [.agg #[sl a g.Parents c], I i]) 16 Tryz.func167 rfl rfl rfl ?_
 refine W_forget [(0, .agg #[sl a g.Parents c]), (1, I i)] ⟨rfl, rfl, trivial⟩ fun ρ => ?_
 have X := But.refl emp w
 refine W_seq (W_region ?_)
 refine LP_box 0 (cs := [sl a g.Parents c]) rfl rfl rfl rfl rfl fun b wx x ex1 f => ?_
 refine LP_ev ok 1 [(4, I 0)] 2 rfl rfl ?_
 refine LP_end _ rfl (W_seq (W_region ?_))
 refine LP_ev ok 0 [(5, I 0)] 1 rfl rfl ?_
 refine LP_end _ rfl (W_seq ?_)
 refine W_block ?_
 obtain ⟨J, m, Hx, H⟩ := H
 refine W_loop (S := Int × Int) (fun s ρ' w' => J s.1 s.2 ∧ ∃ (ρ : Env), ρ' = setAll [(1, I s.1), (2, pb b), (5, I s.2)] ρ ∧ wx = w') (fun s => m s.1 s.2) (i, 0) ⟨Hx, _, env_eq ⟨rfl, rfl, rfl, trivial⟩, rfl⟩ ?_
 rintro ⟨i2, d⟩ _ _ ⟨Hi, ρ, rfl, rfl⟩
 have H := H i2 d Hi
 refine W_seq ?_
 refine W_seq (W_region ?_)
 refine LP_ev ok 0 [(6, I i2), (7, .bool (decide (i2 > 0)))] 2 rfl rfl ?_
 refine LP_end _ rfl ?_
 refine W_cond (decide (i2 > 0)) rfl (fun hc => ?_) (fun hc => ?_)
 ·have H := H.1 hc
  refine W_skip ?_
  refine W_block ?_
  refine W_seq (W_region ?_)
  refine LP_ev ok 0 [(8, pb b)] 1 rfl rfl ?_
  refine LP_ldbox 1 (v := sl a g.Parents c) rfl rfl rfl ti_22 ag_22 (fun _ => rfl) rfl ex1 rfl rfl ?_
  refine LP_ev ok 2 [(10, I i2)] 3 rfl rfl ?_
  obtain ⟨x4, hi, hx5, H⟩ := H
  refine LP_index 3 rfl rfl rfl Tryz.underlying22 ti_3 rfl rfl r hi hx5 fun a6 cs r7 d8 => ?_
  refine LP_load 4 rfl rfl rfl ti_3 ag_3 rfl r7 d8 (ex.ext x) fun vx10 r11 => ?_
  obtain rfl := r11.int
  refine LP_ev ok 5 [(1, I x4)] 6 rfl rfl ?_
  refine LP_end _ rfl ?_
  refine W_region ?_
  refine LP_ev ok 0 [(13, I d), (14, I (wr (d + 1))), (5, I (wr (d + 1)))] 3 rfl rfl ?_
  exact LP_end _ rfl ⟨(x4, wr (d + 1)), ⟨H.1, _, env_eq ⟨rfl, rfl, rfl, trivial⟩, rfl⟩, H.2⟩
 have H := H.2 hc
 refine W_exit ?_
 refine (if_pos rfl).mpr ?_
 refine W_seq (W_region ?_)
 refine LP_ev ok 0 [(15, I d), (4, I d)] 2 rfl rfl ?_
 refine LP_end _ rfl (W_ret ?_)
 exact ⟨_, Ret_of [I d] ⟨⟨rfl, rfl⟩, trivial⟩, _, H, rfl, (X.stepx x).ext⟩

theorem impl_areasAt_w (g : Geo) (level : Int) (Q : (List Int) → Prop) (H : impl_areasAt g level Q) (w : World) {vx : Value} {hx : PH} (r : RS hx vx g.Parents) (ex : Sub hx w) :
  CallsTo Tryz.prog 148 #[.agg #[vx], I level] w fun v w' => ∃ r0 u0 g0, Q r0 ∧ v = u0 ∧ Ext w w' ∧ OS 3 g0 emp u0 r0 ∧ Sub g0 w' ∧ Fresh w.heap.size g0 := by
 obtain ⟨a, c, rfl⟩ := r.shape
 refine enter (args := [.agg #[sl a g.Parents c], I level]) 24 Tryz.func148 rfl rfl rfl ?_
 refine W_forget [(0, .agg #[sl a g.Parents c]), (1, I level)] ⟨rfl, rfl, trivial⟩ fun ρ => ?_
 have X := But.refl emp w
 refine W_seq (W_region ?_)
 refine LP_box 0 (cs := [sl a g.Parents c]) rfl rfl rfl rfl rfl fun b wx x ex1 f => ?_
 refine LP_ev ok 1 [(4, .slice none 0 0)] 2 rfl rfl ?_
 refine LP_end _ rfl (W_seq (W_region ?_))
 refine LP_ev ok 0 [(5, .slice none 0 0)] 1 rfl rfl ?_
 refine LP_end _ rfl (W_seq ?_)
 refine W_seq (W_region ?_)
 refine LP_ev ok 0 [(7, pb b)] 1 rfl rfl ?_
 refine LP_ldbox 1 (v := sl a g.Parents c) rfl rfl rfl ti_22 ag_22 (fun _ => rfl) rfl ex1 rfl rfl ?_
 refine LP_ev ok 2 [(9, I (ln g.Parents)), (10, I 0)] 4 rfl rfl ?_
 refine LP_end _ rfl ?_
 refine W_block ?_
 obtain ⟨J, m, Hx, H⟩ := H
 refine W_loop (S := (List Int) × Int) (fun s ρ' w' => J s.1 s.2 ∧ ∃ (ρ : Env) (vx2 : Value) (hx3 : PH), ρ' = setAll [(1, I level), (2, pb b), (5, vx2), (9, I (ln g.Parents)), (10, I s.2)] ρ ∧ But emp w w' ∧ OS 3 hx3 emp vx2 s.1 ∧ Sub hx3 w' ∧ Fresh w.heap.size hx3 ∧ Sub hx w' ∧ Sub (bx b 37 [sl a g.Parents c]) w' ∧ Dj hx3 hx ∧ Dj hx3 (bx b 37 [sl a g.Parents c])) (fun s => m s.1 s.2) ([], 0) ⟨Hx, _, .slice none 0 0, emp, env_eq ⟨rfl, rfl, rfl, rfl, rfl, trivial⟩, (X.stepx x), OS.nil, (emp_sub _), (emp_fresh _), (ex.ext x), ex1, (fun _ => .inl rfl), (fun _ => .inl rfl)⟩ ?_
 rintro ⟨list, x6⟩ _ wx7 ⟨Hi, ρ, vx2, hx3, rfl, HF⟩
 revert HF
 refine bb8 fun X13 o ex4 f5 ex8 ex9 d d12 => ?_
 have H := H list x6 Hi
 obtain ⟨a10, c11, rfl⟩ := o.shape
 refine W_seq (W_region ?_)
 refine LP_ev ok 0 [(11, .bool (decide (x6 < (ln g.Parents))))] 1 rfl rfl ?_
 refine LP_end _ rfl (W_seq ?_)
 refine W_cond (decide (x6 < (ln g.Parents))) rfl (fun hc => ?_) (fun hc => ?_)
 ·have H := H.1 hc
  refine W_skip ?_
  obtain ⟨k, hk, H⟩ := jn_elim H
  refine W_join2 (S := (List Int)) (fun s ρ' w' => k s ∧ ∃ (ρ : Env) (vx17 : Value) (hx18 : PH), ρ' = setAll [(1, I level), (2, pb b), (5, vx17), (9, I (ln g.Parents)), (10, I x6)] ρ ∧ But emp w w' ∧ OS 3 hx18 emp vx17 s ∧ Sub hx18 w' ∧ Fresh w.heap.size hx18 ∧ Sub hx w' ∧ Sub (bx b 37 [sl a g.Parents c]) w' ∧ Dj hx18 hx ∧ Dj hx18 (bx b 37 [sl a g.Parents c])) ?_ ?_
  ·refine W_block ?_
   refine W_seq (W_region ?_)
   refine LP_ev ok 0 [(12, I x6), (6, I x6)] 2 rfl rfl ?_
   refine LP_end _ rfl (W_seq (W_region ?_))
   refine LP_ldbox 0 (v := .agg #[sl a g.Parents c]) rfl rfl rfl ti_37 ag_37 (fun h => by cases h) rfl ex9 rfl rfl ?_
   refine LP_ev ok 1 [(14, I x6)] 2 rfl rfl ?_
   refine LP_call 2 rfl rfl rfl cal_167 rfl (impl_depthOf_w _ _ _ H wx7 r ex8) ?_
   rintro _ wx31 ⟨r30, H, rfl, x32⟩
   refine LP_ev ok 3 [(16, I level), (17, .bool (r30 == level))] 5 rfl rfl ?_
   refine LP_end _ rfl ?_
   refine W_cond (r30 == level) rfl (fun hc33 => ?_) (fun hc33 => ?_)
   ·have H := H.1 hc33
    refine W_region ?_
    refine LP_ev ok 0 [(18, sl a10 list c11), (19, I x6)] 2 rfl rfl ?_
    refine LP_lit (α := Int) (g := emp) 2 (vs := [I x6]) (xs := [x6]) rfl rfl rfl Tryz.underlying22 ti_3 rfl rfl ⟨⟨_, rfl, rfl⟩, trivial⟩ rfl rfl fun hx34 vx35 wx36 x37 o38 ex39 f40 => ?_
    obtain ⟨a41, c42, rfl⟩ := o38.shape
    have xc := (x32.trans x37)
    obtain ⟨hb, H⟩ := H
    refine LP_appendf (α := Int) 3 rfl rfl rfl Tryz.underlying22 ti_3 rfl rfl rfl o (ex4.ext xc) o38.readf ex39 (by first | omega | (simp only [ln] at *; omega)) (by first | omega | (simp only [ln] at *; omega)) fun hx44 vx45 wx46 o47 ex48 y dm => ?_
    obtain ⟨a49, c50, rfl⟩ := o47.shape
    refine LP_ev ok 4 [(5, .slice a49 (List.length (list ++ ([x6]))) c50)] 5 rfl rfl ?_
    refine LP_end _ rfl ?_
    have f52 := dm.fresh f5 (X13.stepx xc).size
    exact ⟨list ++ ([x6]), H, _, .slice a49 (List.length (list ++ ([x6]))) c50, hx44, env_eq ⟨rfl, rfl, rfl, rfl, rfl, trivial⟩, ((X13.stepx xc).step y (f5.dom _)), o47, ex48, f52, ((ex8.ext xc).but y d), ((ex9.ext xc).but y d12), (DomLe.dj dm d (ex8.ext xc)), (DomLe.dj dm d12 (ex9.ext xc))⟩
   have H := H.2 hc33
   exact W_skip ⟨list, H, _, sl a10 list c11, hx3, env_eq ⟨rfl, rfl, rfl, rfl, rfl, trivial⟩, (X13.stepx x32), o, (ex4.ext x32), f5, (ex8.ext x32), (ex9.ext x32), d, d12⟩
  rintro list16 _ wx22 ⟨H, ρ, vx17, hx18, rfl, HF⟩
  revert HF
  refine bb8 fun X29 o19 ex20 f21 ex23 ex24 d27 d28 => ?_
  subst hk
  obtain ⟨a25, c26, rfl⟩ := o19.shape
  refine W_region ?_
  refine LP_ev ok 0 [(22, I (wr (x6 + 1))), (10, I (wr (x6 + 1)))] 2 rfl rfl ?_
  exact LP_end _ rfl ⟨(list16, wr (x6 + 1)), ⟨H.1, _, sl a25 list16 c26, hx18, env_eq ⟨rfl, rfl, rfl, rfl, rfl, trivial⟩, X29, o19, ex20, f21, ex23, ex24, d27, d28⟩, H.2⟩
 have H := H.2 hc
 refine W_exit ?_
 refine (if_pos rfl).mpr ?_
 refine W_seq (W_region ?_)
 refine LP_ev ok 0 [(23, sl a10 list c11), (4, sl a10 list c11)] 2 rfl rfl ?_
 refine LP_end _ rfl (W_ret ?_)
 exact ⟨_, Ret_of [sl a10 list c11] ⟨⟨rfl, rfl⟩, trivial⟩, _, _, _, H, rfl, X13.ext, o, ex4, f5⟩

theorem impl_crossed_w (sx : List Variable) (t : Table) (Q : (List Variable) → Prop) (H : impl_crossed sx t Q) (w : World) {vx : Value} {hx : PH} (r : RS hx vx sx) (ex : Sub hx w) {vx1 : Value} {hx2 : PH} (r3 : RS hx2 vx1 t.Vars) (ex4 : Sub hx2 w) {vx7 : Value} {hx8 : PH} (r9 : RS hx8 vx7 t.Where) (ex10 : Sub hx8 w) :
  CallsTo Tryz.prog 150 #[vx, .agg #[I t.Level, vx1, vx7, I t.Sum]] w fun v w' => ∃ r0 u0 g0, Q r0 ∧ v = u0 ∧ Ext w w' ∧ OS 82 g0 emp u0 r0 ∧ Sub g0 w' ∧ Fresh w.heap.size g0 := by
 obtain ⟨a, c, rfl⟩ := r.shape
 obtain ⟨a5, c6, rfl⟩ := r3.shape
 obtain ⟨a11, c12, rfl⟩ := r9.shape
 refine enter (args := [sl a sx c, .agg #[I t.Level, sl a5 t.Vars c6, sl a11 t.Where c12, I t.Sum]]) 29 Tryz.func150 rfl rfl rfl ?_
 refine W_forget [(0, sl a sx c), (1, .agg #[I t.Level, sl a5 t.Vars c6, sl a11 t.Where c12, I t.Sum])] ⟨rfl, rfl, trivial⟩ fun ρ => ?_
 have X := But.refl emp w
 refine W_seq (W_region ?_)
 refine LP_box 0 (cs := [I t.Level, sl a5 t.Vars c6, sl a11 t.Where c12, I t.Sum]) rfl rfl rfl rfl rfl fun b wx x ex13 f => ?_
 refine LP_ev ok 1 [(4, .slice none 0 0)] 2 rfl rfl ?_
 refine LP_end _ rfl (W_seq (W_region ?_))
 refine LP_ev ok 0 [(8, .pointer (some ⟨b, 1, none⟩))] 1 rfl rfl ?_
 refine LP_ldbox 1 (v := sl a5 t.Vars c6) rfl rfl rfl ti_22 ag_22 (fun _ => rfl) rfl ex13 rfl rfl ?_
 refine LP_ev ok 2 [(10, I (ln t.Vars))] 3 rfl rfl ?_
 obtain ⟨hn, hb, H⟩ := H
 refine LP_make (α := Variable) 3 rfl rfl rfl Tryz.underlying39 ti_82 (x0 := (Variable.mk ((ByteArray.mk #[])) ((0 : Int)))) rfl rfl hn (by first | omega | (simp only [ln] at *; omega)) (by first | omega | (simp only [ln] at *; omega)) fun hx14 vx15 wx16 x17 o ex18 f19 => ?_
 obtain ⟨a20, c21, rfl⟩ := o.shape
 refine LP_ev ok 4 [(5, .slice a20 (List.length (List.replicate (Int.toNat (ln t.Vars)) ((Variable.mk ((ByteArray.mk #[])) ((0 : Int)))))) c21)] 5 rfl rfl ?_
 refine LP_end _ rfl (W_seq ?_)
 refine W_seq (W_region ?_)
 refine LP_ev ok 0 [(12, .pointer (some ⟨b, 1, none⟩))] 1 rfl rfl ?_
 refine LP_ldbox 1 (v := sl a5 t.Vars c6) rfl rfl rfl ti_22 ag_22 (fun _ => rfl) rfl (ex13.ext x17) rfl rfl ?_
 refine LP_ev ok 2 [(14, I (ln t.Vars)), (15, I 0)] 4 rfl rfl ?_
 refine LP_end _ rfl ?_
 refine W_block ?_
 have xc := (x.trans x17)
 have f35 := f19.mono (X.stepx x).size
 obtain ⟨J, m, Hx, H⟩ := H
 refine W_loop (S := (List Variable) × Int) (fun s ρ' w' => J s.1 s.2 ∧ ∃ (ρ : Env) (hx24 : PH), ρ' = setAll [(0, sl a sx c), (5, .slice a20 (List.length (List.replicate (Int.toNat (ln t.Vars)) ((Variable.mk ((ByteArray.mk #[])) ((0 : Int)))))) c21), (13, sl a5 t.Vars c6), (14, I (ln t.Vars)), (15, I s.2)] ρ ∧ But emp w w' ∧ OS 82 hx24 emp (.slice a20 (List.length (List.replicate (Int.toNat (ln t.Vars)) ((Variable.mk ((ByteArray.mk #[])) ((0 : Int)))))) c21) s.1 ∧ Sub hx24 w' ∧ Fresh w.heap.size hx24 ∧ Sub hx w' ∧ Sub hx2 w' ∧ Dj hx24 hx ∧ Dj hx24 hx2) (fun s => m s.1 s.2) (List.replicate (Int.toNat (ln t.Vars)) ((Variable.mk ((ByteArray.mk #[])) ((0 : Int)))), 0) ⟨Hx, _, hx14, env_eq ⟨rfl, rfl, rfl, rfl, rfl, trivial⟩, (X.stepx xc), o, ex18, f35, (ex.ext xc), (ex4.ext xc), (Dj.of_fresh (ex.ext x) f19).symm, (Dj.of_fresh (ex4.ext x) f19).symm⟩ ?_
 rintro ⟨out, x28⟩ _ wx29 ⟨Hi, ρ, hx24, rfl, HF⟩
 revert HF
 refine bb8 fun X33 o25 ex26 f27 ex30 ex31 d d32 => ?_
 have H := H out x28 Hi
 refine W_seq (W_region ?_)
 refine LP_ev ok 0 [(16, .bool (decide (x28 < (ln t.Vars))))] 1 rfl rfl ?_
 refine LP_end _ rfl (W_seq ?_)
 refine W_cond (decide (x28 < (ln t.Vars))) rfl (fun hc => ?_) (fun hc => ?_)
 ·have H := H.1 hc
  refine W_skip ?_
  refine W_seq ?_
  refine W_block ?_
  refine W_seq (W_region ?_)
  refine LP_ev ok 0 [(17, I x28)] 1 rfl rfl ?_
  obtain ⟨x41, hi, hx42, H⟩ := H
  refine LP_index 1 rfl rfl rfl Tryz.underlying22 ti_3 rfl rfl r3 hi hx42 fun a43 cs r44 d45 => ?_
  refine LP_load 2 rfl rfl rfl ti_3 ag_3 rfl r44 d45 ex31 fun vx46 r47 => ?_
  obtain rfl := r47.int
  refine LP_ev ok 3 [(6, I x28), (7, I x41)] 5 rfl rfl ?_
  refine LP_end _ rfl ?_
  refine W_region ?_
  refine LP_ev ok 0 [(20, .slice a20 (List.length (List.replicate (Int.toNat (ln t.Vars)) ((Variable.mk ((ByteArray.mk #[])) ((0 : Int)))))) c21), (21, I x28), (22, sl a sx c), (23, I x41)] 4 rfl rfl ?_
  obtain ⟨x48, hi49, hx50, H⟩ := H
  refine LP_index 4 rfl rfl rfl Tryz.underlying39 ti_82 rfl rfl r hi49 hx50 fun a51 cs52 r53 d54 => ?_
  refine LP_load 5 rfl rfl rfl ti_82 ag_82 rfl r53 d54 ex30 fun vx55 r56 => ?_
  obtain rfl := Variable_rv r56
  obtain ⟨hi57, hl, H⟩ := H
  refine LP_indexw (v := .slice a20 (List.length (List.replicate (Int.toNat (ln t.Vars)) ((Variable.mk ((ByteArray.mk #[])) ((0 : Int)))))) c21) 6 rfl rfl rfl Tryz.underlying39 ti_82 rfl rfl o25 hi57 hl fun a58 wa => ?_
  refine LP_set 7 rfl rfl rfl rfl rfl wa (Le.refl emp) ⟨_, rfl, rfl⟩ ex26 fun hx59 wx60 o61 ex62 y dm => ?_
  refine LP_end _ rfl ?_
  refine W_region ?_
  refine LP_ev ok 0 [(27, I (wr (x28 + 1))), (15, I (wr (x28 + 1)))] 2 rfl rfl ?_
  refine LP_end _ rfl ?_
  have f64 := (dm _).fresh f27 X33.size
  exact ⟨(List.set out (Int.toNat x28) x48, wr (x28 + 1)), ⟨H.1, _, hx59, env_eq ⟨rfl, rfl, rfl, rfl, rfl, trivial⟩, (X33.step y (f27.dom _)), o61, ex62, f64, (ex30.but y d), (ex31.but y d32), (DomLe.dj (dm _) d ex30), (DomLe.dj (dm _) d32 ex31)⟩, H.2⟩
 have H := H.2 hc
 refine W_exit ?_
 refine (if_pos rfl).mpr ?_
 refine W_seq (W_region ?_)
 refine LP_ev ok 0 [(28, .slice a20 (List.length (List.replicate (Int.toNat (ln t.Vars)) ((Variable.mk ((ByteArray.mk #[])) ((0 : Int)))))) c21), (4, .slice a20 (List.length (List.replicate (Int.toNat (ln t.Vars)) ((Variable.mk ((ByteArray.mk #[])) ((0 : Int)))))) c21)] 2 rfl rfl ?_
 refine LP_end _ rfl (W_ret ?_)
 exact ⟨_, Ret_of [.slice a20 (List.length (List.replicate (Int.toNat (ln t.Vars)) ((Variable.mk ((ByteArray.mk #[])) ((0 : Int)))))) c21] ⟨⟨rfl, rfl⟩, trivial⟩, _, _, _, H, rfl, X33.ext, o25, ex26, f27⟩

theorem impl_combinations_w (sx : List Variable) (Q : Int → Prop) (H : impl_combinations sx Q) (w : World) {vx : Value} {hx : PH} (r : RS hx vx sx) (ex : Sub hx w) :
  CallsTo Tryz.prog 149 #[vx] w fun v w' => ∃ r0, Q r0 ∧ v = I r0 ∧ Ext w w' := by
 obtain ⟨a, c, rfl⟩ := r.shape
 refine enter (args := [sl a sx c]) 18 Tryz.func149 rfl rfl rfl ?_
 refine W_forget [(0, sl a sx c)] ⟨rfl, trivial⟩ fun ρ => ?_
 have X := But.refl emp w
 refine W_seq (W_region ?_)
 refine LP_ev ok 0 [(2, I 0)] 1 rfl rfl ?_
 refine LP_end _ rfl (W_seq (W_region ?_))
 refine LP_ev ok 0 [(3, I 1)] 1 rfl rfl ?_
 refine LP_end _ rfl (W_seq ?_)
 refine W_seq (W_region ?_)
 refine LP_ev ok 0 [(6, sl a sx c), (7, I (ln sx)), (8, I 0)] 3 rfl rfl ?_
 refine LP_end _ rfl ?_
 refine W_block ?_
 obtain ⟨J, m, Hx, H⟩ := H
 refine W_loop (S := Int × Int) (fun s ρ' w' => J s.1 s.2 ∧ ∃ (ρ : Env), ρ' = setAll [(3, I s.1), (6, sl a sx c), (7, I (ln sx)), (8, I s.2)] ρ ∧ But emp w w' ∧ Sub hx w') (fun s => m s.1 s.2) (1, 0) ⟨Hx, _, env_eq ⟨rfl, rfl, rfl, rfl, trivial⟩, X, ex⟩ ?_
 rintro ⟨n, x⟩ _ wx ⟨Hi, ρ, rfl, X2, ex1⟩
 have H := H n x Hi
 refine W_seq (W_region ?_)
 refine LP_ev ok 0 [(9, .bool (decide (x < (ln sx))))] 1 rfl rfl ?_
 refine LP_end _ rfl (W_seq ?_)
 refine W_cond (decide (x < (ln sx))) rfl (fun hc => ?_) (fun hc => ?_)
 ·have H := H.1 hc
  refine W_skip ?_
  refine W_seq ?_
  refine W_block ?_
  refine W_seq (W_region ?_)
  obtain ⟨x3, hi, hx4, H⟩ := H
  refine LP_index 0 rfl rfl rfl Tryz.underlying39 ti_82 rfl rfl r hi hx4 fun a5 cs r6 d => ?_
  refine LP_load 1 rfl rfl rfl ti_82 ag_82 rfl r6 d ex1 fun vx7 r8 => ?_
  obtain rfl := Variable_rv r8
  refine LP_alloc 2 rfl rfl rfl ti_82 rfl fun b wx9 x10 ex11 f => ?_
  refine LP_stbox 3 (vs := [.string x3.Name, I x3.Levels]) (cs' := [.string x3.Name, I x3.Levels]) rfl rfl rfl ti_82 rfl rfl rfl rfl rfl ex11 rfl rfl fun wx12 ex13 y => ?_
  refine LP_end _ rfl ?_
  refine W_region ?_
  refine LP_ev ok 0 [(12, I n), (13, .pointer (some ⟨b, 1, none⟩))] 2 rfl rfl ?_
  refine LP_ldbox 2 (v := I x3.Levels) rfl rfl rfl ti_3 ag_3 (fun _ => rfl) rfl ex13 rfl rfl ?_
  refine LP_ev ok 3 [(15, I (wr (n * x3.Levels))), (3, I (wr (n * x3.Levels)))] 5 rfl rfl ?_
  refine LP_end _ rfl ?_
  refine W_region ?_
  refine LP_ev ok 0 [(16, I (wr (x + 1))), (8, I (wr (x + 1)))] 2 rfl rfl ?_
  refine LP_end _ rfl ?_
  have f14 := f.mono X2.size
  exact ⟨(wr (n * x3.Levels), wr (x + 1)), ⟨H.1, _, env_eq ⟨rfl, rfl, rfl, rfl, trivial⟩, ((X2.stepx x10).step y (f14.dom _)), ((ex1.ext x10).but y (Dj.of_fresh ex1 f).symm)⟩, H.2⟩
 have H := H.2 hc
 refine W_exit ?_
 refine (if_pos rfl).mpr ?_
 refine W_seq (W_region ?_)
 refine LP_ev ok 0 [(17, I n), (2, I n)] 2 rfl rfl ?_
 refine LP_end _ rfl (W_ret ?_)
 exact ⟨_, Ret_of [I n] ⟨⟨rfl, rfl⟩, trivial⟩, _, H, rfl, X2.ext⟩

theorem impl_cellCount_w (g : Geo) (sx : List Variable) (t : Table) (Q : Int → Prop) (H : impl_cellCount g sx t Q) (w : World) {vx : Value} {hx : PH} (r : RS hx vx g.Parents) (ex : Sub hx w) {vx1 : Value} {hx2 : PH} (r3 : RS hx2 vx1 sx) (ex4 : Sub hx2 w) {vx7 : Value} {hx8 : PH} (r9 : RS hx8 vx7 t.Vars) (ex10 : Sub hx8 w) {vx13 : Value} {hx14 : PH} (r15 : RS hx14 vx13 t.Where) (ex16 : Sub hx14 w) :
  CallsTo Tryz.prog 117 #[.agg #[vx], vx1, .agg #[I t.Level, vx7, vx13, I t.Sum]] w fun v w' => ∃ r0, Q r0 ∧ v = I r0 ∧ Ext w w' := by
 obtain ⟨a, c, rfl⟩ := r.shape
 obtain ⟨a5, c6, rfl⟩ := r3.shape
 obtain ⟨a11, c12, rfl⟩ := r9.shape
 obtain ⟨a17, c18, rfl⟩ := r15.shape
 refine enter (args := [.agg #[sl a g.Parents c], sl a5 sx c6, .agg #[I t.Level, sl a11 t.Vars c12, sl a17 t.Where c18, I t.Sum]]) 17 Tryz.func117 rfl rfl rfl ?_
 refine W_forget [(0, .agg #[sl a g.Parents c]), (1, sl a5 sx c6), (2, .agg #[I t.Level, sl a11 t.Vars c12, sl a17 t.Where c18, I t.Sum])] ⟨rfl, rfl, rfl, trivial⟩ fun ρ => ?_
 have X := But.refl emp w
 refine W_seq (W_region ?_)
 refine LP_box 0 (cs := [sl a g.Parents c]) rfl rfl rfl rfl rfl fun b wx x ex19 f => ?_
 refine LP_box 1 (cs := [I t.Level, sl a11 t.Vars c12, sl a17 t.Where c18, I t.Sum]) rfl rfl rfl rfl rfl fun b20 wx21 x22 ex23 f24 => ?_
 refine LP_ev ok 2 [(6, I 0)] 3 rfl rfl ?_
 refine LP_end _ rfl (W_seq ?_)
 refine W_open mix fun wx25 x26 => ?_
 refine AP_game 9 [[], [], [1], [0, 1, 2], [0, 1, 2, 3], [], [], [0, 1, 2, 3, 5, 6], [0, 1, 2, 3, 5, 6, 7], [0, 1, 2, 3, 4, 5, 6, 7, 8], [0, 1, 2, 3, 4, 5, 6, 7, 8, 9]] [[(3, none)], [(5, none)], [(8, some 1)], [(7, some 0), (9, some 2)], [(10, some 3)], [(1, none)], [(5, none)], [(12, some 5), (13, some 6)], [(14, some 7)]] [(6, none), (11, some 4), (15, some 8)] [(0, false), (1, false), (2, false), (5, false), (6, false), (3, true), (4, false), (7, true), (8, false)] (by kernel_rfl) (by kernel_rfl) ?_
 refine GS_r1 [(3, pb b)] (.agg #[sl a g.Parents c]) rfl rfl (fun _ h => h) (fun _ w e => ex_ldbox rfl ti_37 ag_37 (fun h => by cases h) rfl e rfl rfl) (ex19.ext (x22.trans x26)) ?_
 refine GS_ev ok [(5, pb b20)] (pb b20) rfl rfl (fun _ h => h) (fun _ => rfl) ?_
 have ex28 := (ex23.ext x26)
 refine GS_r1 [(8, pb b20)] (I t.Level) rfl rfl (fun _ h => h) (fun _ w e => ex_ldbox rfl ti_3 ag_3 (fun _ => rfl) rfl e rfl rfl) ex28 ?_
 refine GS_ev ok [(1, sl a5 sx c6)] (sl a5 sx c6) rfl rfl (fun _ h => h) (fun _ => rfl) ?_
 refine GS_r1 [(5, pb b20)] (.agg #[I t.Level, sl a11 t.Vars c12, sl a17 t.Where c18, I t.Sum]) rfl rfl (fun _ h => h) (fun _ w e => ex_ldbox rfl ti_41 ag_41 (fun h => by cases h) rfl e rfl rfl) ex28 ?_
 refine GS_lp [(7, .agg #[sl a g.Parents c]), (9, I t.Level)] rfl rfl (fun _ h => h) rfl fun ρ wx29 x30 => ?_
 refine LP_call 0 rfl rfl rfl cal_148 rfl (impl_areasAt_w _ _ _ H wx29 r (ex.ext (((x.trans x22).trans x26).trans x30))) ?_
 rintro _ wx34 ⟨r31, vx36, hx37, H, rfl, x35, o, ex38, f39⟩
 obtain ⟨a40, c41, rfl⟩ := o.shape
 refine LP_gs ⟨⟨.inr (ex28.ext (x30.trans x35)), .inl rfl, .inl rfl, trivial⟩, ?_⟩
 refine GS_ev ok [(10, sl a40 r31 c41)] (I (ln r31)) rfl rfl (fun _ h => h) (fun _ => rfl) ?_
 refine GS_lp [(12, sl a5 sx c6), (13, .agg #[I t.Level, sl a11 t.Vars c12, sl a17 t.Where c18, I t.Sum])] rfl rfl (fun _ h => h) rfl fun ρ wx44 x45 => ?_
 have xc47 := (((((x.trans x22).trans x26).trans x30).trans x35).trans x45)
 refine LP_call 0 rfl rfl rfl cal_150 rfl (impl_crossed_w _ _ _ H wx44 r3 (ex4.ext xc47) r9 (ex10.ext xc47) r15 (ex16.ext xc47)) ?_
 rintro _ wx51 ⟨r46, vx53, hx54, H, rfl, x52, o55, ex56, f57⟩
 obtain ⟨a58, c59, rfl⟩ := o55.shape
 refine LP_gs ⟨⟨.inl rfl, .inl rfl, .inl rfl, trivial⟩, ?_⟩
 obtain ⟨r60, Hd, H⟩ := H
 refine GS_q [(14, sl a58 r46 c59)] (I r60) [hx54] [sl a58 r46 c59] rfl rfl (fun _ h => h) rfl cal_149 (fun _ => rfl) (fun w e => (impl_combinations_w _ _ Hd w o55.readf e.1).mono (fun _ _ h => by obtain ⟨_, rfl, rfl, x⟩ := h; exact ⟨rfl, x⟩)) ⟨ex56, trivial⟩ ?_
 intro wx61 x62 ρ hn
 refine AP_forget [(6, I 0), (11, I (ln r31)), (15, I r60)] (by exact hn) fun ρ => ?_
 refine AP_tail 9 [[], [], [1], [0, 1, 2], [0, 1, 2, 3], [], [], [0, 1, 2, 3, 5, 6], [0, 1, 2, 3, 5, 6, 7], [0, 1, 2, 3, 4, 5, 6, 7, 8], [0, 1, 2, 3, 4, 5, 6, 7, 8, 9]] (by kernel_rfl) ?_
 refine LP_ev ok 9 [(16, I (wr ((ln r31) * r60))), (6, I (wr ((ln r31) * r60)))] 11 rfl rfl ?_
 refine LP_end _ rfl (W_ret ?_)
 exact ⟨_, Ret_of [I (wr ((ln r31) * r60))] ⟨⟨rfl, rfl⟩, trivial⟩, _, H, rfl, (X.stepx (((((((x.trans x22).trans x26).trans x30).trans x35).trans x45).trans x52).trans x62)).ext⟩

theorem impl_isTable_w (g : Geo) (sx : List Variable) (t : Table) (Q : Bool → Prop) (H : impl_isTable g sx t Q) (w : World) {vx : Value} {hx : PH} (r : RS hx vx g.Parents) (ex : Sub hx w) {vx1 : Value} {hx2 : PH} (r3 : RS hx2 vx1 sx) (ex4 : Sub hx2 w) {vx7 : Value} {hx8 : PH} (r9 : RS hx8 vx7 t.Vars) (ex10 : Sub hx8 w) {vx13 : Value} {hx14 : PH} (r15 : RS hx14 vx13 t.Where) (ex16 : Sub hx14 w) :
  CallsTo Tryz.prog 113 #[.agg #[vx], vx1, .agg #[I t.Level, vx7, vx13, I t.Sum]] w fun v w' => ∃ r0, Q r0 ∧ v = .bool r0 ∧ Ext w w' := by
 obtain ⟨a, c, rfl⟩ := r.shape
 obtain ⟨a5, c6, rfl⟩ := r3.shape
 obtain ⟨a11, c12, rfl⟩ := r9.shape
 obtain ⟨a17, c18, rfl⟩ := r15.shape
 refine enter (args := [.agg #[sl a g.Parents c], sl a5 sx c6, .agg #[I t.Level, sl a11 t.Vars c12, sl a17 t.Where c18, I t.Sum]]) 42 Tryz.func113 rfl rfl rfl ?_
 refine W_forget [(0, .agg #[sl a g.Parents c]), (1, sl a5 sx c6), (2, .agg #[I t.Level, sl a11 t.Vars c12, sl a17 t.Where c18, I t.Sum])] ⟨rfl, rfl, rfl, trivial⟩ fun ρ => ?_
 have X := But.refl emp w
 refine W_seq (W_region ?_)
 refine LP_box 0 (cs := [sl a g.Parents c]) rfl rfl rfl rfl rfl fun b wx x ex19 f => ?_
 refine LP_box 1 (cs := [I t.Level, sl a11 t.Vars c12, sl a17 t.Where c18, I t.Sum]) rfl rfl rfl rfl rfl fun b20 wx21 x22 ex23 f24 => ?_
 refine LP_ev ok 2 [(6, .bool false)] 3 rfl rfl ?_
 refine LP_end _ rfl (W_seq ?_)
 obtain ⟨k, hk, H⟩ := jn_elim H
 refine W_join2 (S := Bool) (fun s ρ' w' => k s ∧ ∃ (ρ : Env), ρ' = setAll [(1, sl a5 sx c6), (3, pb b), (5, pb b20), (31, .bool s)] ρ ∧ But emp w w' ∧ Sub hx w' ∧ Sub hx2 w' ∧ Sub hx8 w' ∧ Sub hx14 w' ∧ Sub (bx b 37 [sl a g.Parents c]) w' ∧ Sub (bx b20 41 [I t.Level, sl a11 t.Vars c12, sl a17 t.Where c18, I t.Sum]) w') ?_ ?_
 ·refine W_region ?_
  refine LP_ev ok 0 [(8, sl a5 sx c6), (9, .pointer (some ⟨b20, 1, none⟩))] 2 rfl rfl ?_
  refine LP_ldbox 2 (v := sl a11 t.Vars c12) rfl rfl rfl ti_22 ag_22 (fun _ => rfl) rfl ex23 rfl rfl ?_
  have xc := (x.trans x22)
  have ex35 := (ex4.ext xc)
  have ex36 := (ex10.ext xc)
  refine LP_call 3 rfl rfl rfl cal_144 rfl (impl_areVars_w _ _ _ H wx21 r3 ex35 r9 ex36) ?_
  rintro _ wx37 ⟨r34, H, rfl, x38⟩
  refine LP_ev ok 4 [(12, .bool (!r34)), (13, .bool (!r34))] 6 rfl rfl ?_
  refine LP_split 13 (!r34) rfl (fun hc => ?_) (fun hc => ?_)
  ·have H := H.1 hc
   refine LP_ev ok 6 [(14, undef), (15, undef), (16, undef), (17, undef), (18, undef), (19, .bool true), (20, .bool true), (21, undef), (22, undef), (23, undef), (24, .bool true), (25, .bool true), (26, undef), (27, undef), (28, undef), (29, undef), (30, undef), (31, .bool true)] 24 rfl rfl ?_
   refine LP_end _ rfl ?_
   try refine W_forget [(1, sl a5 sx c6), (3, pb b), (5, pb b20), (31, .bool true)] ⟨rfl, rfl, rfl, rfl, trivial⟩ fun ρ => ?_
   have xc39 := (xc.trans x38)
   exact ⟨true, H, _, env_eq ⟨rfl, rfl, rfl, rfl, trivial⟩, (X.stepx xc39), (ex.ext xc39), (ex35.ext x38), (ex36.ext x38), (ex16.ext xc39), (ex19.ext (x22.trans x38)), (ex23.ext x38)⟩
  have H := H.2 hc
  refine LP_ev ok 6 [(14, sl a5 sx c6), (15, .pointer (some ⟨b20, 2, none⟩))] 8 rfl rfl ?_
  have ex48 := (ex23.ext x38)
  refine LP_ldbox 8 (v := sl a17 t.Where c18) rfl rfl rfl ti_22 ag_22 (fun _ => rfl) rfl ex48 rfl rfl ?_
  have ex50 := (ex35.ext x38)
  have xc51 := (xc.trans x38)
  have ex52 := (ex16.ext xc51)
  refine LP_call 9 rfl rfl rfl cal_145 rfl (impl_isWhere_w _ _ _ H wx37 r3 ex50 r15 ex52) ?_
  rintro _ wx53 ⟨r49, H, rfl, x54⟩
  refine LP_ev ok 10 [(18, .bool (!r49)), (19, .bool (!r49)), (20, .bool (!r49))] 13 rfl rfl ?_
  refine LP_split 20 (!r49) rfl (fun hc55 => ?_) (fun hc55 => ?_)
  ·have H := H.1 hc55
   refine LP_ev ok 13 [(21, undef), (22, undef), (23, undef), (24, .bool true), (25, .bool true), (26, undef), (27, undef), (28, undef), (29, undef), (30, undef), (31, .bool true)] 24 rfl rfl ?_
   refine LP_end _ rfl ?_
   try refine W_forget [(1, sl a5 sx c6), (3, pb b), (5, pb b20), (31, .bool true)] ⟨rfl, rfl, rfl, rfl, trivial⟩ fun ρ => ?_
   have xc56 := (xc51.trans x54)
   exact ⟨true, H, _, env_eq ⟨rfl, rfl, rfl, rfl, trivial⟩, (X.stepx xc56), (ex.ext xc56), (ex50.ext x54), (ex36.ext (x38.trans x54)), (ex52.ext x54), (ex19.ext ((x22.trans x38).trans x54)), (ex48.ext x54)⟩
  have H := H.2 hc55
  refine LP_ev ok 13 [(21, .pointer (some ⟨b20, 3, none⟩))] 14 rfl rfl ?_
  have ex66 := (ex48.ext x54)
  refine LP_ldbox 14 (v := I t.Sum) rfl rfl rfl ti_3 ag_3 (fun _ => rfl) rfl ex66 rfl rfl ?_
  refine LP_ev ok 15 [(23, .bool (decide (t.Sum < ((-1))))), (24, .bool (decide (t.Sum < ((-1))))), (25, .bool (decide (t.Sum < ((-1)))))] 18 rfl rfl ?_
  refine LP_split 25 (decide (t.Sum < ((-1)))) rfl (fun hc67 => ?_) (fun hc67 => ?_)
  ·have H := H.1 hc67
   refine LP_ev ok 18 [(26, undef), (27, undef), (28, undef), (29, undef), (30, undef), (31, .bool true)] 24 rfl rfl ?_
   refine LP_end _ rfl ?_
   try refine W_forget [(1, sl a5 sx c6), (3, pb b), (5, pb b20), (31, .bool true)] ⟨rfl, rfl, rfl, rfl, trivial⟩ fun ρ => ?_
   have xc68 := (xc51.trans x54)
   exact ⟨true, H, _, env_eq ⟨rfl, rfl, rfl, rfl, trivial⟩, (X.stepx xc68), (ex.ext xc68), (ex50.ext x54), (ex36.ext (x38.trans x54)), (ex52.ext x54), (ex19.ext ((x22.trans x38).trans x54)), ex66⟩
  have H := H.2 hc67
  refine LP_ev ok 18 [(26, .pointer (some ⟨b20, 3, none⟩))] 19 rfl rfl ?_
  refine LP_ldbox 19 (v := I t.Sum) rfl rfl rfl ti_3 ag_3 (fun _ => rfl) rfl ex66 rfl rfl ?_
  refine LP_ev ok 20 [(28, sl a5 sx c6), (29, I (ln sx)), (30, .bool (decide (t.Sum ≥ (ln sx)))), (31, .bool (decide (t.Sum ≥ (ln sx))))] 24 rfl rfl ?_
  refine LP_end _ rfl ?_
  try refine W_forget [(1, sl a5 sx c6), (3, pb b), (5, pb b20), (31, .bool (decide (t.Sum ≥ (ln sx))))] ⟨rfl, rfl, rfl, rfl, trivial⟩ fun ρ => ?_
  have xc77 := (xc51.trans x54)
  exact ⟨decide (t.Sum ≥ (ln sx)), H, _, env_eq ⟨rfl, rfl, rfl, rfl, trivial⟩, (X.stepx xc77), (ex.ext xc77), (ex50.ext x54), (ex36.ext (x38.trans x54)), (ex52.ext x54), (ex19.ext ((x22.trans x38).trans x54)), ex66⟩
 rintro x25 _ wx26 ⟨H, ρ, rfl, HF⟩
 revert HF
 refine bb7 fun X33 ex27 ex28 ex29 ex30 ex31 ex32 => ?_
 subst hk
 refine W_cond (x25) rfl (fun hc86 => ?_) (fun hc86 => ?_)
 ·have H := H.1 hc86
  refine W_seq (W_region ?_)
  refine LP_ev ok 0 [(6, .bool false)] 1 rfl rfl ?_
  refine LP_end _ rfl (W_ret ?_)
  exact ⟨_, Ret_of [.bool false] ⟨⟨rfl, rfl⟩, trivial⟩, _, H, rfl, X33.ext⟩
 have H := H.2 hc86
 refine W_skip ?_
 refine W_seq (W_region ?_)
 refine LP_ldbox 0 (v := .agg #[sl a g.Parents c]) rfl rfl rfl ti_37 ag_37 (fun h => by cases h) rfl ex31 rfl rfl ?_
 refine LP_ev ok 1 [(33, sl a5 sx c6)] 2 rfl rfl ?_
 refine LP_ldbox 2 (v := .agg #[I t.Level, sl a11 t.Vars c12, sl a17 t.Where c18, I t.Sum]) rfl rfl rfl ti_41 ag_41 (fun h => by cases h) rfl ex32 rfl rfl ?_
 refine LP_call 3 rfl rfl rfl cal_117 rfl (impl_cellCount_w _ _ _ _ H wx26 r ex27 r3 ex28 r9 ex29 r15 ex30) ?_
 rintro _ wx88 ⟨r87, H, rfl, x89⟩
 refine LP_ev ok 4 [(7, I r87)] 5 rfl rfl ?_
 refine LP_end _ rfl ?_
 obtain ⟨k92, hk93, H⟩ := jn_elim H
 refine W_join2 (S := Bool) (fun s ρ' w' => k92 s ∧ ∃ (ρ : Env), ρ' = setAll [(6, .bool s)] ρ ∧ wx88 = w') ?_ ?_
 ·refine W_region ?_
  refine LP_ev ok 0 [(36, I r87), (37, .bool (decide (r87 > 0))), (38, .bool (decide (r87 > 0)))] 3 rfl rfl ?_
  refine LP_split 38 (decide (r87 > 0)) rfl (fun hc94 => ?_) (fun hc94 => ?_)
  ·have H := H.1 hc94
   refine LP_ev ok 3 [(39, I r87), (40, .bool (decide (r87 ≤ 600))), (41, .bool (decide (r87 ≤ 600))), (6, .bool (decide (r87 ≤ 600)))] 7 rfl rfl ?_
   exact LP_end _ rfl ⟨decide (r87 ≤ 600), H, _, env_eq ⟨rfl, trivial⟩, rfl⟩
  have H := H.2 hc94
  refine LP_ev ok 3 [(39, undef), (40, undef), (41, .bool false), (6, .bool false)] 7 rfl rfl ?_
  exact LP_end _ rfl ⟨false, H, _, env_eq ⟨rfl, trivial⟩, rfl⟩
 rintro x90 _ _ ⟨H, ρ, rfl, rfl⟩
 subst hk93
 refine W_ret ?_
 exact ⟨_, Ret_of [.bool x90] ⟨⟨rfl, rfl⟩, trivial⟩, _, H, rfl, (X33.stepx x89).ext⟩

theorem impl_areTabled_w (g : Geo) (sx : List Variable) (t : Table) (Q : Bool → Prop) (H : impl_areTabled g sx t Q) (w : World) {vx : Value} {hx : PH} (r : RS hx vx g.Parents) (ex : Sub hx w) {vx1 : Value} {hx2 : PH} (r3 : RS hx2 vx1 sx) (ex4 : Sub hx2 w) {vx7 : Value} {hx8 : PH} (r9 : RS hx8 vx7 t.Vars) (ex10 : Sub hx8 w) {vx13 : Value} {hx14 : PH} (r15 : RS hx14 vx13 t.Where) (ex16 : Sub hx14 w) :
  CallsTo Tryz.prog 87 #[.agg #[vx], vx1, .agg #[I t.Level, vx7, vx13, I t.Sum]] w fun v w' => ∃ r0, Q r0 ∧ v = .bool r0 ∧ Ext w w' := by
 obtain ⟨a, c, rfl⟩ := r.shape
 obtain ⟨a5, c6, rfl⟩ := r3.shape
 obtain ⟨a11, c12, rfl⟩ := r9.shape
 obtain ⟨a17, c18, rfl⟩ := r15.shape
 refine enter (args := [.agg #[sl a g.Parents c], sl a5 sx c6, .agg #[I t.Level, sl a11 t.Vars c12, sl a17 t.Where c18, I t.Sum]]) 19 Tryz.func87 rfl rfl rfl ?_
 refine W_forget [(0, .agg #[sl a g.Parents c]), (1, sl a5 sx c6), (2, .agg #[I t.Level, sl a11 t.Vars c12, sl a17 t.Where c18, I t.Sum])] ⟨rfl, rfl, rfl, trivial⟩ fun ρ => ?_
 have X := But.refl emp w
 refine W_seq (W_region ?_)
 refine LP_box 0 (cs := [sl a g.Parents c]) rfl rfl rfl rfl rfl fun b wx x ex19 f => ?_
 refine LP_box 1 (cs := [I t.Level, sl a11 t.Vars c12, sl a17 t.Where c18, I t.Sum]) rfl rfl rfl rfl rfl fun b20 wx21 x22 ex23 f24 => ?_
 refine LP_ev ok 2 [(6, .bool false)] 3 rfl rfl ?_
 refine LP_end _ rfl ?_
 obtain ⟨k, hk, H⟩ := jn_elim H
 refine W_join2 (S := Bool) (fun s ρ' w' => k s ∧ ∃ (ρ : Env), ρ' = setAll [(6, .bool s)] ρ ∧ But emp w w') ?_ ?_
 ·refine W_region ?_
  have ex28 := (ex19.ext x22)
  refine LP_ldbox 0 (v := .agg #[sl a g.Parents c]) rfl rfl rfl ti_37 ag_37 (fun h => by cases h) rfl ex28 rfl rfl ?_
  have xc := (x.trans x22)
  have ex30 := (ex.ext xc)
  refine LP_call 1 rfl rfl rfl cal_111 rfl (impl_IsGeo_w _ _ H wx21 r ex30) ?_
  rintro _ wx31 ⟨r29, H, rfl, x32⟩
  refine LP_ev ok 2 [(9, .bool r29)] 3 rfl rfl ?_
  refine LP_split 9 (r29) rfl (fun hc => ?_) (fun hc => ?_)
  ·have H := H.1 hc
   refine LP_ev ok 3 [(10, sl a5 sx c6)] 4 rfl rfl ?_
   have xc34 := (xc.trans x32)
   have ex35 := (ex4.ext xc34)
   refine LP_call 4 rfl rfl rfl cal_112 rfl (impl_IsSchema_w _ _ H wx31 r3 ex35) ?_
   rintro _ wx36 ⟨r33, H, rfl, x37⟩
   refine LP_ev ok 5 [(12, .bool r33), (13, .bool r33)] 7 rfl rfl ?_
   refine LP_split 13 (r33) rfl (fun hc38 => ?_) (fun hc38 => ?_)
   ·have H := H.1 hc38
    have xc39 := (x32.trans x37)
    refine LP_ldbox 7 (v := .agg #[sl a g.Parents c]) rfl rfl rfl ti_37 ag_37 (fun h => by cases h) rfl (ex28.ext xc39) rfl rfl ?_
    refine LP_ev ok 8 [(15, sl a5 sx c6)] 9 rfl rfl ?_
    refine LP_ldbox 9 (v := .agg #[I t.Level, sl a11 t.Vars c12, sl a17 t.Where c18, I t.Sum]) rfl rfl rfl ti_41 ag_41 (fun h => by cases h) rfl (ex23.ext xc39) rfl rfl ?_
    have xc45 := (xc34.trans x37)
    refine LP_call 10 rfl rfl rfl cal_113 rfl (impl_isTable_w _ _ _ _ H wx36 r (ex30.ext xc39) r3 (ex35.ext x37) r9 (ex10.ext xc45) r15 (ex16.ext xc45)) ?_
    rintro _ wx48 ⟨r42, H, rfl, x49⟩
    refine LP_ev ok 11 [(18, .bool r42), (6, .bool r42)] 13 rfl rfl ?_
    exact LP_end _ rfl ⟨r42, H, _, env_eq ⟨rfl, trivial⟩, (X.stepx (xc45.trans x49))⟩
   have H := H.2 hc38
   refine LP_ev ok 7 [(14, undef), (15, undef), (16, undef), (17, undef), (18, .bool false), (6, .bool false)] 13 rfl rfl ?_
   exact LP_end _ rfl ⟨false, H, _, env_eq ⟨rfl, trivial⟩, (X.stepx (xc34.trans x37))⟩
  have H := H.2 hc
  refine LP_ev ok 3 [(10, undef), (11, undef), (12, .bool false), (13, .bool false), (14, undef), (15, undef), (16, undef), (17, undef), (18, .bool false), (6, .bool false)] 13 rfl rfl ?_
  exact LP_end _ rfl ⟨false, H, _, env_eq ⟨rfl, trivial⟩, (X.stepx (xc.trans x32))⟩
 rintro x25 _ wx26 ⟨H, ρ, rfl, X27⟩
 subst hk
 refine W_ret ?_
 exact ⟨_, Ret_of [.bool x25] ⟨⟨rfl, rfl⟩, trivial⟩, _, H, rfl, X27.ext⟩

theorem impl_areValues_w (sx : List Variable) (values : List Int) (Q : Bool → Prop) (H : impl_areValues sx values Q) (w : World) {vx : Value} {hx : PH} (r : RS hx vx sx) (ex : Sub hx w) {vx1 : Value} {hx2 : PH} (r3 : RS hx2 vx1 values) (ex4 : Sub hx2 w) :
  CallsTo Tryz.prog 165 #[vx, vx1] w fun v w' => ∃ r0, Q r0 ∧ v = .bool r0 ∧ Ext w w' := by
 obtain ⟨a, c, rfl⟩ := r.shape
 obtain ⟨a5, c6, rfl⟩ := r3.shape
 refine enter (args := [sl a sx c, sl a5 values c6]) 31 Tryz.func165 rfl rfl rfl ?_
 refine W_forget [(0, sl a sx c), (1, sl a5 values c6)] ⟨rfl, rfl, trivial⟩ fun ρ => ?_
 have X := But.refl emp w
 refine W_seq (W_region ?_)
 refine LP_ev ok 0 [(4, .bool false)] 1 rfl rfl ?_
 refine LP_end _ rfl (W_seq ?_)
 refine W_seq (W_region ?_)
 refine LP_ev ok 0 [(7, sl a5 values c6), (8, I (ln values)), (9, sl a sx c), (10, I (ln sx)), (11, .bool ((ln values) != (ln sx)))] 5 rfl rfl ?_
 refine LP_end _ rfl ?_
 refine W_cond ((ln values) != (ln sx)) rfl (fun hc => ?_) (fun hc => ?_)
 ·have H := H.1 hc
  refine W_seq (W_region ?_)
  refine LP_ev ok 0 [(4, .bool false)] 1 rfl rfl ?_
  refine LP_end _ rfl (W_ret ?_)
  exact ⟨_, Ret_of [.bool false] ⟨⟨rfl, rfl⟩, trivial⟩, _, H, rfl, X.ext⟩
 have H := H.2 hc
 refine W_skip ?_
 refine W_seq ?_
 refine W_seq (W_region ?_)
 refine LP_ev ok 0 [(12, sl a5 values c6), (13, I (ln values)), (14, I 0)] 3 rfl rfl ?_
 refine LP_end _ rfl ?_
 refine W_block ?_
 obtain ⟨J, m, Hx, H⟩ := H
 refine W_loop (S := Int) (fun s ρ' w' => J s ∧ ∃ (ρ : Env), ρ' = setAll [(0, sl a sx c), (12, sl a5 values c6), (13, I (ln values)), (14, I s)] ρ ∧ w = w') (fun s => m s) 0 ⟨Hx, _, env_eq ⟨rfl, rfl, rfl, rfl, trivial⟩, rfl⟩ ?_
 rintro x _ _ ⟨Hi, ρ, rfl, rfl⟩
 have H := H x Hi
 refine W_seq (W_region ?_)
 refine LP_ev ok 0 [(15, .bool (decide (x < (ln values))))] 1 rfl rfl ?_
 refine LP_end _ rfl (W_seq ?_)
 refine W_cond (decide (x < (ln values))) rfl (fun hc7 => ?_) (fun hc7 => ?_)
 ·have H := H.1 hc7
  refine W_skip ?_
  refine W_seq ?_
  refine W_block ?_
  refine W_seq (W_region ?_)
  refine LP_ev ok 0 [(16, I x)] 1 rfl rfl ?_
  obtain ⟨x8, hi, hx9, H⟩ := H
  refine LP_index 1 rfl rfl rfl Tryz.underlying22 ti_3 rfl rfl r3 hi hx9 fun a10 cs r11 d => ?_
  refine LP_load 2 rfl rfl rfl ti_3 ag_3 rfl r11 d ex4 fun vx12 r13 => ?_
  obtain rfl := r13.int
  refine LP_ev ok 3 [(5, I x), (6, I x8)] 5 rfl rfl ?_
  refine LP_end _ rfl ?_
  obtain ⟨k, hk, H⟩ := jn_elim H
  refine W_join2 (S := Bool) (fun s ρ' w' => k s ∧ ∃ (ρ : Env), ρ' = setAll [(0, sl a sx c), (12, sl a5 values c6), (13, I (ln values)), (14, I x), (29, .bool s)] ρ ∧ w = w') ?_ ?_
  ·refine W_region ?_
   refine LP_ev ok 0 [(19, I x8), (20, .bool (decide (x8 < 0))), (21, .bool (decide (x8 < 0)))] 3 rfl rfl ?_
   refine LP_split 21 (decide (x8 < 0)) rfl (fun hc16 => ?_) (fun hc16 => ?_)
   ·have H := H.1 hc16
    refine LP_ev ok 3 [(22, undef), (23, undef), (24, undef), (25, undef), (26, undef), (27, undef), (28, undef), (29, .bool true)] 11 rfl rfl ?_
    exact LP_end _ rfl ⟨true, H, _, env_eq ⟨rfl, rfl, rfl, rfl, rfl, trivial⟩, rfl⟩
   have H := H.2 hc16
   refine LP_ev ok 3 [(22, I x8), (23, sl a sx c), (24, I x)] 6 rfl rfl ?_
   obtain ⟨x17, hi18, hx19, H⟩ := H
   refine LP_index 6 rfl rfl rfl Tryz.underlying39 ti_82 rfl rfl r hi18 hx19 fun a20 cs21 r22 d23 => ?_
   refine LP_ev ok 7 [(26, .pointer (some (Addr.add a20 1)))] 8 rfl rfl ?_
   refine LP_ldfld (x := x17) (off := 1) 8 (v := I x17.Levels) rfl rfl rfl ti_3 ag_3 (fun _ => rfl) rfl r22 d23 ex rfl rfl ?_
   refine LP_ev ok 9 [(28, .bool (decide (x8 ≥ x17.Levels))), (29, .bool (decide (x8 ≥ x17.Levels)))] 11 rfl rfl ?_
   exact LP_end _ rfl ⟨decide (x8 ≥ x17.Levels), H, _, env_eq ⟨rfl, rfl, rfl, rfl, rfl, trivial⟩, rfl⟩
  rintro x14 _ _ ⟨H, ρ, rfl, rfl⟩
  subst hk
  refine W_cond (x14) rfl (fun hc24 => ?_) (fun hc24 => ?_)
  ·have H := H.1 hc24
   refine W_seq (W_region ?_)
   refine LP_ev ok 0 [(4, .bool false)] 1 rfl rfl ?_
   refine LP_end _ rfl (W_ret ?_)
   exact ⟨_, Ret_of [.bool false] ⟨⟨rfl, rfl⟩, trivial⟩, _, H, rfl, X.ext⟩
  have H := H.2 hc24
  refine W_skip ?_
  refine W_region ?_
  refine LP_ev ok 0 [(30, I (wr (x + 1))), (14, I (wr (x + 1)))] 2 rfl rfl ?_
  exact LP_end _ rfl ⟨wr (x + 1), ⟨H.1, _, env_eq ⟨rfl, rfl, rfl, rfl, trivial⟩, rfl⟩, H.2⟩
 have H := H.2 hc7
 refine W_exit ?_
 refine (if_pos rfl).mpr ?_
 refine W_seq (W_region ?_)
 refine LP_ev ok 0 [(4, .bool true)] 1 rfl rfl ?_
 refine LP_end _ rfl (W_ret ?_)
 exact ⟨_, Ret_of [.bool true] ⟨⟨rfl, rfl⟩, trivial⟩, _, H, rfl, X.ext⟩

theorem impl_isRecord_w (sx : List Variable) (r1 : Record) (Q : Bool → Prop) (H : impl_isRecord sx r1 Q) (w : World) {vx : Value} {hx : PH} (r : RS hx vx sx) (ex : Sub hx w) {vx2 : Value} {hx3 : PH} (r4 : RS hx3 vx2 r1.Values) (ex5 : Sub hx3 w) :
  CallsTo Tryz.prog 146 #[vx, .agg #[I r1.Area, I r1.House, vx2]] w fun v w' => ∃ r0, Q r0 ∧ v = .bool r0 ∧ Ext w w' := by
 obtain ⟨a, c, rfl⟩ := r.shape
 obtain ⟨a6, c7, rfl⟩ := r4.shape
 refine enter (args := [sl a sx c, .agg #[I r1.Area, I r1.House, sl a6 r1.Values c7]]) 29 Tryz.func146 rfl rfl rfl ?_
 refine W_forget [(0, sl a sx c), (1, .agg #[I r1.Area, I r1.House, sl a6 r1.Values c7])] ⟨rfl, rfl, trivial⟩ fun ρ => ?_
 have X := But.refl emp w
 refine W_seq (W_region ?_)
 refine LP_box 0 (cs := [I r1.Area, I r1.House, sl a6 r1.Values c7]) rfl rfl rfl rfl rfl fun b wx x ex8 f => ?_
 refine LP_ev ok 1 [(4, .bool false)] 2 rfl rfl ?_
 refine LP_end _ rfl ?_
 obtain ⟨k, hk, H⟩ := jn_elim H
 refine W_join2 (S := Bool) (fun s ρ' w' => k s ∧ ∃ (ρ : Env), ρ' = setAll [(4, .bool s)] ρ ∧ But emp w w') ?_ ?_
 ·refine W_region ?_
  refine LP_ev ok 0 [(5, pb b)] 1 rfl rfl ?_
  refine LP_ldbox 1 (v := I r1.Area) rfl rfl rfl ti_3 ag_3 (fun _ => rfl) rfl ex8 rfl rfl ?_
  refine LP_ev ok 2 [(7, .bool (decide (r1.Area ≥ 0))), (8, .bool (decide (r1.Area ≥ 0)))] 4 rfl rfl ?_
  refine LP_split 8 (decide (r1.Area ≥ 0)) rfl (fun hc => ?_) (fun hc => ?_)
  ·have H := H.1 hc
   refine LP_ev ok 4 [(9, pb b)] 5 rfl rfl ?_
   refine LP_ldbox 5 (v := I r1.Area) rfl rfl rfl ti_3 ag_3 (fun _ => rfl) rfl ex8 rfl rfl ?_
   refine LP_ev ok 6 [(11, .bool (decide (r1.Area ≤ 29))), (12, .bool (decide (r1.Area ≤ 29))), (13, .bool (decide (r1.Area ≤ 29)))] 9 rfl rfl ?_
   refine LP_split 13 (decide (r1.Area ≤ 29)) rfl (fun hc12 => ?_) (fun hc12 => ?_)
   ·have H := H.1 hc12
    refine LP_ev ok 9 [(14, .pointer (some ⟨b, 1, none⟩))] 10 rfl rfl ?_
    refine LP_ldbox 10 (v := I r1.House) rfl rfl rfl ti_3 ag_3 (fun _ => rfl) rfl ex8 rfl rfl ?_
    refine LP_ev ok 11 [(16, .bool (decide (r1.House ≥ 0))), (17, .bool (decide (r1.House ≥ 0))), (18, .bool (decide (r1.House ≥ 0)))] 14 rfl rfl ?_
    refine LP_split 18 (decide (r1.House ≥ 0)) rfl (fun hc13 => ?_) (fun hc13 => ?_)
    ·have H := H.1 hc13
     refine LP_ev ok 14 [(19, .pointer (some ⟨b, 1, none⟩))] 15 rfl rfl ?_
     refine LP_ldbox 15 (v := I r1.House) rfl rfl rfl ti_3 ag_3 (fun _ => rfl) rfl ex8 rfl rfl ?_
     refine LP_ev ok 16 [(21, .bool (decide (r1.House ≤ 999))), (22, .bool (decide (r1.House ≤ 999))), (23, .bool (decide (r1.House ≤ 999)))] 19 rfl rfl ?_
     refine LP_split 23 (decide (r1.House ≤ 999)) rfl (fun hc14 => ?_) (fun hc14 => ?_)
     ·have H := H.1 hc14
      refine LP_ev ok 19 [(24, sl a sx c), (25, .pointer (some ⟨b, 2, none⟩))] 21 rfl rfl ?_
      refine LP_ldbox 21 (v := sl a6 r1.Values c7) rfl rfl rfl ti_22 ag_22 (fun _ => rfl) rfl ex8 rfl rfl ?_
      refine LP_call 22 rfl rfl rfl cal_165 rfl (impl_areValues_w _ _ _ H wx r (ex.ext x) r4 (ex5.ext x)) ?_
      rintro _ wx18 ⟨r15, H, rfl, x19⟩
      refine LP_ev ok 23 [(28, .bool r15), (4, .bool r15)] 25 rfl rfl ?_
      refine LP_end _ rfl ?_
      try refine W_forget [(4, .bool r15)] ⟨rfl, trivial⟩ fun ρ => ?_
      exact ⟨r15, H, _, env_eq ⟨rfl, trivial⟩, (X.stepx (x.trans x19))⟩
     have H := H.2 hc14
     refine LP_ev ok 19 [(24, undef), (25, undef), (26, undef), (27, undef), (28, .bool false), (4, .bool false)] 25 rfl rfl ?_
     refine LP_end _ rfl ?_
     try refine W_forget [(4, .bool false)] ⟨rfl, trivial⟩ fun ρ => ?_
     exact ⟨false, H, _, env_eq ⟨rfl, trivial⟩, (X.stepx x)⟩
    have H := H.2 hc13
    refine LP_ev ok 14 [(19, undef), (20, undef), (21, undef), (22, .bool false), (23, .bool false), (24, undef), (25, undef), (26, undef), (27, undef), (28, .bool false), (4, .bool false)] 25 rfl rfl ?_
    refine LP_end _ rfl ?_
    try refine W_forget [(4, .bool false)] ⟨rfl, trivial⟩ fun ρ => ?_
    exact ⟨false, H, _, env_eq ⟨rfl, trivial⟩, (X.stepx x)⟩
   have H := H.2 hc12
   refine LP_ev ok 9 [(14, undef), (15, undef), (16, undef), (17, .bool false), (18, .bool false), (19, undef), (20, undef), (21, undef), (22, .bool false), (23, .bool false), (24, undef), (25, undef), (26, undef), (27, undef), (28, .bool false), (4, .bool false)] 25 rfl rfl ?_
   refine LP_end _ rfl ?_
   try refine W_forget [(4, .bool false)] ⟨rfl, trivial⟩ fun ρ => ?_
   exact ⟨false, H, _, env_eq ⟨rfl, trivial⟩, (X.stepx x)⟩
  have H := H.2 hc
  refine LP_ev ok 4 [(9, undef), (10, undef), (11, undef), (12, .bool false), (13, .bool false), (14, undef), (15, undef), (16, undef), (17, .bool false), (18, .bool false), (19, undef), (20, undef), (21, undef), (22, .bool false), (23, .bool false), (24, undef), (25, undef), (26, undef), (27, undef), (28, .bool false), (4, .bool false)] 25 rfl rfl ?_
  refine LP_end _ rfl ?_
  try refine W_forget [(4, .bool false)] ⟨rfl, trivial⟩ fun ρ => ?_
  exact ⟨false, H, _, env_eq ⟨rfl, trivial⟩, (X.stepx x)⟩
 rintro x9 _ wx10 ⟨H, ρ, rfl, X11⟩
 subst hk
 refine W_ret ?_
 exact ⟨_, Ret_of [.bool x9] ⟨⟨rfl, rfl⟩, trivial⟩, _, H, rfl, X11.ext⟩

theorem impl_isData_w (sx : List Variable) (l : List Record) (Q : Bool → Prop) (H : impl_isData sx l Q) (w : World) {vx : Value} {hx : PH} (r : RS hx vx sx) (ex : Sub hx w) {vx1 : Value} {hx2 : PH} (r3 : RS hx2 vx1 l) (ex4 : Sub hx2 w) :
  CallsTo Tryz.prog 114 #[vx, vx1] w fun v w' => ∃ r0, Q r0 ∧ v = .bool r0 ∧ Ext w w' := by
 obtain ⟨a, c, rfl⟩ := r.shape
 obtain ⟨a5, c6, rfl⟩ := r3.shape
 refine enter (args := [sl a sx c, sl a5 l c6]) 21 Tryz.func114 rfl rfl rfl ?_
 refine W_forget [(0, sl a sx c), (1, sl a5 l c6)] ⟨rfl, rfl, trivial⟩ fun ρ => ?_
 have X := But.refl emp w
 refine W_seq (W_region ?_)
 refine LP_ev ok 0 [(4, .bool false)] 1 rfl rfl ?_
 refine LP_end _ rfl (W_seq ?_)
 refine W_seq (W_region ?_)
 refine LP_ev ok 0 [(7, sl a5 l c6), (8, I (ln l)), (9, .bool (decide ((ln l) > 40)))] 3 rfl rfl ?_
 refine LP_end _ rfl ?_
 refine W_cond (decide ((ln l) > 40)) rfl (fun hc => ?_) (fun hc => ?_)
 ·have H := H.1 hc
  refine W_seq (W_region ?_)
  refine LP_ev ok 0 [(4, .bool false)] 1 rfl rfl ?_
  refine LP_end _ rfl (W_ret ?_)
  exact ⟨_, Ret_of [.bool false] ⟨⟨rfl, rfl⟩, trivial⟩, _, H, rfl, X.ext⟩
 have H := H.2 hc
 refine W_skip ?_
 refine W_seq ?_
 refine W_seq (W_region ?_)
 refine LP_ev ok 0 [(10, sl a5 l c6), (11, I (ln l)), (12, I 0)] 3 rfl rfl ?_
 refine LP_end _ rfl ?_
 refine W_block ?_
 obtain ⟨J, m, Hx, H⟩ := H
 refine W_loop (S := Int) (fun s ρ' w' => J s ∧ ∃ (ρ : Env), ρ' = setAll [(0, sl a sx c), (10, sl a5 l c6), (11, I (ln l)), (12, I s)] ρ ∧ But emp w w' ∧ Sub hx w' ∧ Sub hx2 w') (fun s => m s) 0 ⟨Hx, _, env_eq ⟨rfl, rfl, rfl, rfl, trivial⟩, X, ex, ex4⟩ ?_
 rintro x _ wx ⟨Hi, ρ, rfl, X9, ex7, ex8⟩
 have H := H x Hi
 refine W_seq (W_region ?_)
 refine LP_ev ok 0 [(13, .bool (decide (x < (ln l))))] 1 rfl rfl ?_
 refine LP_end _ rfl (W_seq ?_)
 refine W_cond (decide (x < (ln l))) rfl (fun hc10 => ?_) (fun hc10 => ?_)
 ·have H := H.1 hc10
  refine W_skip ?_
  refine W_seq ?_
  refine W_block ?_
  refine W_seq (W_region ?_)
  obtain ⟨x11, hi, hx12, H⟩ := H
  refine LP_index 0 rfl rfl rfl Tryz.underlying84 ti_118 rfl rfl r3 hi hx12 fun a13 cs r14 d => ?_
  have d15 := d
  obtain ⟨u, rfl, r16⟩ := Record_rd d15
  obtain ⟨a17, c18, rfl⟩ := r16.shape
  refine LP_load 1 rfl rfl rfl ti_118 ag_118 rfl r14 d ex8 fun vx19 r20 => ?_
  obtain ⟨u21, rfl, r22⟩ := Record_rv r20
  obtain ⟨a23, c24, rfl⟩ := r22.shape
  refine LP_alloc 2 rfl rfl rfl ti_118 rfl fun b wx25 x26 ex27 f => ?_
  refine LP_stbox 3 (vs := [I x11.Area, I x11.House, sl a23 x11.Values c24]) (cs' := [I x11.Area, I x11.House, sl a23 x11.Values c24]) rfl rfl rfl ti_118 rfl rfl rfl rfl rfl ex27 rfl rfl fun wx28 ex29 y => ?_
  refine LP_end _ rfl (W_seq (W_region ?_))
  refine LP_ev ok 0 [(16, sl a sx c)] 1 rfl rfl ?_
  refine LP_ldbox 1 (v := .agg #[I x11.Area, I x11.House, sl a23 x11.Values c24]) rfl rfl rfl ti_118 ag_118 (fun h => by cases h) rfl ex29 rfl rfl ?_
  have ex31 := ((ex7.ext x26).but y (Dj.of_fresh ex7 f).symm)
  have ex32 := ((ex8.ext x26).but y (Dj.of_fresh ex8 f).symm)
  refine LP_call 2 rfl rfl rfl cal_146 rfl (impl_isRecord_w _ _ _ H wx28 r ex31 r22 ex32) ?_
  rintro _ wx33 ⟨r30, H, rfl, x34⟩
  refine LP_ev ok 3 [(19, .bool (!r30))] 4 rfl rfl ?_
  refine LP_end _ rfl ?_
  refine W_cond (!r30) rfl (fun hc35 => ?_) (fun hc35 => ?_)
  ·have H := H.1 hc35
   refine W_seq (W_region ?_)
   refine LP_ev ok 0 [(4, .bool false)] 1 rfl rfl ?_
   refine LP_end _ rfl (W_ret ?_)
   have f36 := f.mono X9.size
   exact ⟨_, Ret_of [.bool false] ⟨⟨rfl, rfl⟩, trivial⟩, _, H, rfl, (((X9.stepx x26).step y (f36.dom _)).stepx x34).ext⟩
  have H := H.2 hc35
  refine W_skip ?_
  refine W_region ?_
  refine LP_ev ok 0 [(20, I (wr (x + 1))), (12, I (wr (x + 1)))] 2 rfl rfl ?_
  refine LP_end _ rfl ?_
  have f38 := f.mono X9.size
  exact ⟨wr (x + 1), ⟨H.1, _, env_eq ⟨rfl, rfl, rfl, rfl, trivial⟩, (((X9.stepx x26).step y (f38.dom _)).stepx x34), (ex31.ext x34), (ex32.ext x34)⟩, H.2⟩
 have H := H.2 hc10
 refine W_exit ?_
 refine (if_pos rfl).mpr ?_
 refine W_seq (W_region ?_)
 refine LP_ev ok 0 [(4, .bool true)] 1 rfl rfl ?_
 refine LP_end _ rfl (W_ret ?_)
 exact ⟨_, Ret_of [.bool true] ⟨⟨rfl, rfl⟩, trivial⟩, _, H, rfl, X9.ext⟩

theorem impl_isArea_w (g : Geo) (i : Int) (Q : Bool → Prop) (H : impl_isArea g i Q) (w : World) {vx : Value} {hx : PH} (r : RS hx vx g.Parents) (ex : Sub hx w) :
  CallsTo Tryz.prog 115 #[.agg #[vx], I i] w fun v w' => ∃ r0, Q r0 ∧ v = .bool r0 ∧ Ext w w' := by
 obtain ⟨a, c, rfl⟩ := r.shape
 refine enter (args := [.agg #[sl a g.Parents c], I i]) 14 Tryz.func115 rfl rfl rfl ?_
 refine W_forget [(0, .agg #[sl a g.Parents c]), (1, I i)] ⟨rfl, rfl, trivial⟩ fun ρ => ?_
 have X := But.refl emp w
 refine W_seq (W_region ?_)
 refine LP_box 0 (cs := [sl a g.Parents c]) rfl rfl rfl rfl rfl fun b wx x ex1 f => ?_
 refine LP_ev ok 1 [(4, .bool false)] 2 rfl rfl ?_
 refine LP_end _ rfl ?_
 obtain ⟨k, hk, H⟩ := jn_elim H
 refine W_join2 (S := Bool) (fun s ρ' w' => k s ∧ ∃ (ρ : Env), ρ' = setAll [(4, .bool s)] ρ ∧ wx = w') ?_ ?_
 ·refine W_region ?_
  refine LP_ev ok 0 [(5, I i), (6, .bool (decide (i ≥ 0))), (7, .bool (decide (i ≥ 0)))] 3 rfl rfl ?_
  refine LP_split 7 (decide (i ≥ 0)) rfl (fun hc => ?_) (fun hc => ?_)
  ·have H := H.1 hc
   refine LP_ev ok 3 [(8, I i), (9, pb b)] 5 rfl rfl ?_
   refine LP_ldbox 5 (v := sl a g.Parents c) rfl rfl rfl ti_22 ag_22 (fun _ => rfl) rfl ex1 rfl rfl ?_
   refine LP_ev ok 6 [(11, I (ln g.Parents)), (12, .bool (decide (i < (ln g.Parents)))), (13, .bool (decide (i < (ln g.Parents)))), (4, .bool (decide (i < (ln g.Parents))))] 10 rfl rfl ?_
   exact LP_end _ rfl ⟨decide (i < (ln g.Parents)), H, _, env_eq ⟨rfl, trivial⟩, rfl⟩
  have H := H.2 hc
  refine LP_ev ok 3 [(8, undef), (9, undef), (10, undef), (11, undef), (12, undef), (13, .bool false), (4, .bool false)] 10 rfl rfl ?_
  exact LP_end _ rfl ⟨false, H, _, env_eq ⟨rfl, trivial⟩, rfl⟩
 rintro x2 _ _ ⟨H, ρ, rfl, rfl⟩
 subst hk
 refine W_ret ?_
 exact ⟨_, Ret_of [.bool x2] ⟨⟨rfl, rfl⟩, trivial⟩, _, H, rfl, (X.stepx x).ext⟩

theorem slices_Index_int_int_w (sx : List Int) (vx1 : Int) (Q : Int → Prop) (H : slices_Index_int_int sx vx1 Q) (w : World) {vx : Value} {hx : PH} (r : RS hx vx sx) (ex : Sub hx w) :
  CallsTo Tryz.prog 166 #[vx, I vx1] w fun v w' => ∃ r0, Q r0 ∧ v = I r0 ∧ Ext w w' := by
 obtain ⟨a, c, rfl⟩ := r.shape
 refine enter (args := [sl a sx c, I vx1]) 19 Tryz.func166 rfl rfl rfl ?_
 refine W_forget [(0, sl a sx c), (1, I vx1)] ⟨rfl, rfl, trivial⟩ fun ρ => ?_
 have X := But.refl emp w
 refine W_seq (W_region ?_)
 refine LP_ev ok 0 [(4, I 0)] 1 rfl rfl ?_
 refine LP_end _ rfl (W_seq ?_)
 refine W_seq (W_region ?_)
 refine LP_ev ok 0 [(6, sl a sx c), (7, I (ln sx)), (8, I 0)] 3 rfl rfl ?_
 refine LP_end _ rfl ?_
 refine W_block ?_
 obtain ⟨J, m, Hx, H⟩ := H
 refine W_loop (S := Int) (fun s ρ' w' => J s ∧ ∃ (ρ : Env), ρ' = setAll [(0, sl a sx c), (1, I vx1), (7, I (ln sx)), (8, I s)] ρ ∧ w = w') (fun s => m s) 0 ⟨Hx, _, env_eq ⟨rfl, rfl, rfl, rfl, trivial⟩, rfl⟩ ?_
 rintro x _ _ ⟨Hi, ρ, rfl, rfl⟩
 have H := H x Hi
 refine W_seq (W_region ?_)
 refine LP_ev ok 0 [(9, .bool (decide (x < (ln sx))))] 1 rfl rfl ?_
 refine LP_end _ rfl (W_seq ?_)
 refine W_cond (decide (x < (ln sx))) rfl (fun hc => ?_) (fun hc => ?_)
 ·have H := H.1 hc
  refine W_skip ?_
  refine W_seq ?_
  refine W_block ?_
  refine W_seq (W_region ?_)
  refine LP_ev ok 0 [(10, I x), (5, I x)] 2 rfl rfl ?_
  refine LP_end _ rfl (W_seq (W_region ?_))
  refine LP_ev ok 0 [(11, I vx1), (12, sl a sx c), (13, I x)] 3 rfl rfl ?_
  obtain ⟨x2, hi, hx3, H⟩ := H
  refine LP_index 3 rfl rfl rfl Tryz.underlying22 ti_3 rfl rfl r hi hx3 fun a4 cs r5 d => ?_
  refine LP_load 4 rfl rfl rfl ti_3 ag_3 rfl r5 d ex fun vx6 r7 => ?_
  obtain rfl := r7.int
  refine LP_ev ok 5 [(16, .bool (vx1 == x2))] 6 rfl rfl ?_
  refine LP_end _ rfl ?_
  refine W_cond (vx1 == x2) rfl (fun hc8 => ?_) (fun hc8 => ?_)
  ·have H := H.1 hc8
   refine W_seq (W_region ?_)
   refine LP_ev ok 0 [(17, I x), (4, I x)] 2 rfl rfl ?_
   refine LP_end _ rfl (W_ret ?_)
   exact ⟨_, Ret_of [I x] ⟨⟨rfl, rfl⟩, trivial⟩, _, H, rfl, X.ext⟩
  have H := H.2 hc8
  refine W_skip ?_
  refine W_region ?_
  refine LP_ev ok 0 [(18, I (wr (x + 1))), (8, I (wr (x + 1)))] 2 rfl rfl ?_
  exact LP_end _ rfl ⟨wr (x + 1), ⟨H.1, _, env_eq ⟨rfl, rfl, rfl, rfl, trivial⟩, rfl⟩, H.2⟩
 have H := H.2 hc
 refine W_exit ?_
 refine (if_pos rfl).mpr ?_
 refine W_seq (W_region ?_)
 refine LP_ev ok 0 [(4, I ((-1)))] 1 rfl rfl ?_
 refine LP_end _ rfl (W_ret ?_)
 exact ⟨_, Ret_of [I ((-1))] ⟨⟨rfl, rfl⟩, trivial⟩, _, H, rfl, X.ext⟩

theorem slices_Contains_int_int_w (sx : List Int) (vx1 : Int) (Q : Bool → Prop) (H : slices_Contains_int_int sx vx1 Q) (w : World) {vx : Value} {hx : PH} (r : RS hx vx sx) (ex : Sub hx w) :
  CallsTo Tryz.prog 147 #[vx, I vx1] w fun v w' => ∃ r0, Q r0 ∧ v = .bool r0 ∧ Ext w w' := by
 obtain ⟨a, c, rfl⟩ := r.shape
 refine enter (args := [sl a sx c, I vx1]) 9 Tryz.func147 rfl rfl rfl ?_
 refine W_forget [(0, sl a sx c), (1, I vx1)] ⟨rfl, rfl, trivial⟩ fun ρ => ?_
 have X := But.refl emp w
 refine W_seq (W_region ?_)
 refine LP_ev ok 0 [(4, .bool false)] 1 rfl rfl ?_
 refine LP_end _ rfl (W_seq (W_region ?_))
 refine LP_ev ok 0 [(5, sl a sx c), (6, I vx1)] 2 rfl rfl ?_
 refine LP_call 2 rfl rfl rfl cal_166 rfl (slices_Index_int_int_w _ _ _ H w r ex) ?_
 rintro _ wx ⟨r2, H, rfl, x⟩
 refine LP_ev ok 3 [(8, .bool (decide (r2 ≥ 0))), (4, .bool (decide (r2 ≥ 0)))] 5 rfl rfl ?_
 refine LP_end _ rfl (W_ret ?_)
 exact ⟨_, Ret_of [.bool (decide (r2 ≥ 0))] ⟨⟨rfl, rfl⟩, trivial⟩, _, H, rfl, (X.stepx x).ext⟩

theorem impl_isLeaf_w (g : Geo) (i : Int) (Q : Bool → Prop) (H : impl_isLeaf g i Q) (w : World) {vx : Value} {hx : PH} (r : RS hx vx g.Parents) (ex : Sub hx w) :
  CallsTo Tryz.prog 116 #[.agg #[vx], I i] w fun v w' => ∃ r0, Q r0 ∧ v = .bool r0 ∧ Ext w w' := by
 obtain ⟨a, c, rfl⟩ := r.shape
 refine enter (args := [.agg #[sl a g.Parents c], I i]) 10 Tryz.func116 rfl rfl rfl ?_
 refine W_forget [(0, .agg #[sl a g.Parents c]), (1, I i)] ⟨rfl, rfl, trivial⟩ fun ρ => ?_
 have X := But.refl emp w
 refine W_seq (W_region ?_)
 refine LP_box 0 (cs := [sl a g.Parents c]) rfl rfl rfl rfl rfl fun b wx x ex1 f => ?_
 refine LP_ev ok 1 [(4, .bool false)] 2 rfl rfl ?_
 refine LP_end _ rfl (W_seq (W_region ?_))
 refine LP_ev ok 0 [(5, pb b)] 1 rfl rfl ?_
 refine LP_ldbox 1 (v := sl a g.Parents c) rfl rfl rfl ti_22 ag_22 (fun _ => rfl) rfl ex1 rfl rfl ?_
 refine LP_ev ok 2 [(7, I i)] 3 rfl rfl ?_
 refine LP_call 3 rfl rfl rfl cal_147 rfl (slices_Contains_int_int_w _ _ _ H wx r (ex.ext x)) ?_
 rintro _ wx4 ⟨r2, H, rfl, x5⟩
 refine LP_ev ok 4 [(9, .bool (!r2)), (4, .bool (!r2))] 6 rfl rfl ?_
 refine LP_end _ rfl (W_ret ?_)
 exact ⟨_, Ret_of [.bool (!r2)] ⟨⟨rfl, rfl⟩, trivial⟩, _, H, rfl, (X.stepx (x.trans x5)).ext⟩

theorem impl_isSurvey_w (g : Geo) (sx : List Variable) (l : List Record) (Q : Bool → Prop) (H : impl_isSurvey g sx l Q) (w : World) {vx : Value} {hx : PH} (r : RS hx vx g.Parents) (ex : Sub hx w) {vx1 : Value} {hx2 : PH} (r3 : RS hx2 vx1 sx) (ex4 : Sub hx2 w) {vx7 : Value} {hx8 : PH} (r9 : RS hx8 vx7 l) (ex10 : Sub hx8 w) :
  CallsTo Tryz.prog 88 #[.agg #[vx], vx1, vx7] w fun v w' => ∃ r0, Q r0 ∧ v = .bool r0 ∧ Ext w w' := by
 obtain ⟨a, c, rfl⟩ := r.shape
 obtain ⟨a5, c6, rfl⟩ := r3.shape
 obtain ⟨a11, c12, rfl⟩ := r9.shape
 refine enter (args := [.agg #[sl a g.Parents c], sl a5 sx c6, sl a11 l c12]) 32 Tryz.func88 rfl rfl rfl ?_
 refine W_forget [(0, .agg #[sl a g.Parents c]), (1, sl a5 sx c6), (2, sl a11 l c12)] ⟨rfl, rfl, rfl, trivial⟩ fun ρ => ?_
 have X := But.refl emp w
 refine W_seq (W_region ?_)
 refine LP_box 0 (cs := [sl a g.Parents c]) rfl rfl rfl rfl rfl fun b wx x ex13 f => ?_
 refine LP_ev ok 1 [(6, .bool false)] 2 rfl rfl ?_
 refine LP_end _ rfl (W_seq ?_)
 refine W_seq (W_region ?_)
 refine LP_ev ok 0 [(9, sl a5 sx c6), (10, sl a11 l c12)] 2 rfl rfl ?_
 have ex16 := (ex10.ext x)
 refine LP_call 2 rfl rfl rfl cal_114 rfl (impl_isData_w _ _ _ H wx r3 (ex4.ext x) r9 ex16) ?_
 rintro _ wx17 ⟨r14, H, rfl, x18⟩
 refine LP_ev ok 3 [(12, .bool (!r14))] 4 rfl rfl ?_
 refine LP_end _ rfl ?_
 refine W_cond (!r14) rfl (fun hc => ?_) (fun hc => ?_)
 ·have H := H.1 hc
  refine W_seq (W_region ?_)
  refine LP_ev ok 0 [(6, .bool false)] 1 rfl rfl ?_
  refine LP_end _ rfl (W_ret ?_)
  exact ⟨_, Ret_of [.bool false] ⟨⟨rfl, rfl⟩, trivial⟩, _, H, rfl, (X.stepx (x.trans x18)).ext⟩
 have H := H.2 hc
 refine W_skip ?_
 refine W_seq ?_
 refine W_seq (W_region ?_)
 refine LP_ev ok 0 [(13, sl a11 l c12), (14, I (ln l)), (15, I 0)] 3 rfl rfl ?_
 refine LP_end _ rfl ?_
 refine W_block ?_
 have xc26 := (x.trans x18)
 obtain ⟨J, m, Hx, H⟩ := H
 refine W_loop (S := Int) (fun s ρ' w' => J s ∧ ∃ (ρ : Env), ρ' = setAll [(3, pb b), (13, sl a11 l c12), (14, I (ln l)), (15, I s)] ρ ∧ But emp w w' ∧ Sub hx w' ∧ Sub hx8 w' ∧ Sub (bx b 37 [sl a g.Parents c]) w') (fun s => m s) 0 ⟨Hx, _, env_eq ⟨rfl, rfl, rfl, rfl, trivial⟩, (X.stepx xc26), (ex.ext xc26), (ex16.ext x18), (ex13.ext x18)⟩ ?_
 rintro x20 _ wx21 ⟨Hi, ρ, rfl, X25, ex22, ex23, ex24⟩
 have H := H x20 Hi
 refine W_seq (W_region ?_)
 refine LP_ev ok 0 [(16, .bool (decide (x20 < (ln l))))] 1 rfl rfl ?_
 refine LP_end _ rfl (W_seq ?_)
 refine W_cond (decide (x20 < (ln l))) rfl (fun hc31 => ?_) (fun hc31 => ?_)
 ·have H := H.1 hc31
  refine W_skip ?_
  refine W_seq ?_
  refine W_block ?_
  refine W_seq (W_region ?_)
  obtain ⟨x32, hi, hx33, H⟩ := H
  refine LP_index 0 rfl rfl rfl Tryz.underlying84 ti_118 rfl rfl r9 hi hx33 fun a34 cs r35 d => ?_
  have d36 := d
  obtain ⟨u, rfl, r37⟩ := Record_rd d36
  obtain ⟨a38, c39, rfl⟩ := r37.shape
  refine LP_load 1 rfl rfl rfl ti_118 ag_118 rfl r35 d ex23 fun vx40 r41 => ?_
  obtain ⟨u42, rfl, r43⟩ := Record_rv r41
  obtain ⟨a44, c45, rfl⟩ := r43.shape
  refine LP_alloc 2 rfl rfl rfl ti_118 rfl fun b46 wx47 x48 ex49 f50 => ?_
  refine LP_stbox 3 (vs := [I x32.Area, I x32.House, sl a44 x32.Values c45]) (cs' := [I x32.Area, I x32.House, sl a44 x32.Values c45]) rfl rfl rfl ti_118 rfl rfl rfl rfl rfl ex49 rfl rfl fun wx51 ex52 y => ?_
  refine LP_end _ rfl ?_
  obtain ⟨k, hk, H⟩ := jn_elim H
  refine W_join2 (S := Bool) (fun s ρ' w' => k s ∧ ∃ (ρ : Env), ρ' = setAll [(3, pb b), (13, sl a11 l c12), (14, I (ln l)), (15, I x20), (30, .bool s)] ρ ∧ But emp w w' ∧ Sub hx w' ∧ Sub hx8 w' ∧ Sub (bx b 37 [sl a g.Parents c]) w') ?_ ?_
  ·refine W_region ?_
   have ex59 := ((ex24.ext x48).but y (Dj.of_fresh ex24 f50).symm)
   refine LP_ldbox 0 (v := .agg #[sl a g.Parents c]) rfl rfl rfl ti_37 ag_37 (fun h => by cases h) rfl ex59 rfl rfl ?_
   refine LP_ev ok 1 [(20, pb b46)] 2 rfl rfl ?_
   refine LP_ldbox 2 (v := I x32.Area) rfl rfl rfl ti_3 ag_3 (fun _ => rfl) rfl ex52 rfl rfl ?_
   have ex61 := ((ex22.ext x48).but y (Dj.of_fresh ex22 f50).symm)
   refine LP_call 3 rfl rfl rfl cal_115 rfl (impl_isArea_w _ _ _ H wx51 r ex61) ?_
   rintro _ wx62 ⟨r60, H, rfl, x63⟩
   refine LP_ev ok 4 [(23, .bool (!r60)), (24, .bool (!r60))] 6 rfl rfl ?_
   refine LP_split 24 (!r60) rfl (fun hc64 => ?_) (fun hc64 => ?_)
   ·have H := H.1 hc64
    refine LP_ev ok 6 [(25, undef), (26, undef), (27, undef), (28, undef), (29, undef), (30, .bool true)] 12 rfl rfl ?_
    refine LP_end _ rfl ?_
    have f65 := f50.mono X25.size
    exact ⟨true, H, _, env_eq ⟨rfl, rfl, rfl, rfl, rfl, trivial⟩, (((X25.stepx x48).step y (f65.dom _)).stepx x63), (ex61.ext x63), (((ex23.ext x48).but y (Dj.of_fresh ex23 f50).symm).ext x63), (ex59.ext x63)⟩
   have H := H.2 hc64
   have ex70 := (ex59.ext x63)
   refine LP_ldbox 6 (v := .agg #[sl a g.Parents c]) rfl rfl rfl ti_37 ag_37 (fun h => by cases h) rfl ex70 rfl rfl ?_
   refine LP_ev ok 7 [(26, pb b46)] 8 rfl rfl ?_
   refine LP_ldbox 8 (v := I x32.Area) rfl rfl rfl ti_3 ag_3 (fun _ => rfl) rfl (ex52.ext x63) rfl rfl ?_
   have ex73 := (ex61.ext x63)
   refine LP_call 9 rfl rfl rfl cal_116 rfl (impl_isLeaf_w _ _ _ H wx62 r ex73) ?_
   rintro _ wx74 ⟨r72, H, rfl, x75⟩
   refine LP_ev ok 10 [(29, .bool (!r72)), (30, .bool (!r72))] 12 rfl rfl ?_
   refine LP_end _ rfl ?_
   have f76 := f50.mono X25.size
   have xc77 := (x63.trans x75)
   exact ⟨!r72, H, _, env_eq ⟨rfl, rfl, rfl, rfl, rfl, trivial⟩, (((X25.stepx x48).step y (f76.dom _)).stepx xc77), (ex73.ext x75), (((ex23.ext x48).but y (Dj.of_fresh ex23 f50).symm).ext xc77), (ex70.ext x75)⟩
  rintro x53 _ wx54 ⟨H, ρ, rfl, X58, ex55, ex56, ex57⟩
  subst hk
  refine W_cond (x53) rfl (fun hc82 => ?_) (fun hc82 => ?_)
  ·have H := H.1 hc82
   refine W_seq (W_region ?_)
   refine LP_ev ok 0 [(6, .bool false)] 1 rfl rfl ?_
   refine LP_end _ rfl (W_ret ?_)
   exact ⟨_, Ret_of [.bool false] ⟨⟨rfl, rfl⟩, trivial⟩, _, H, rfl, X58.ext⟩
  have H := H.2 hc82
  refine W_skip ?_
  refine W_region ?_
  refine LP_ev ok 0 [(31, I (wr (x20 + 1))), (15, I (wr (x20 + 1)))] 2 rfl rfl ?_
  exact LP_end _ rfl ⟨wr (x20 + 1), ⟨H.1, _, env_eq ⟨rfl, rfl, rfl, rfl, trivial⟩, X58, ex55, ex56, ex57⟩, H.2⟩
 have H := H.2 hc31
 refine W_exit ?_
 refine (if_pos rfl).mpr ?_
 refine W_seq (W_region ?_)
 refine LP_ev ok 0 [(6, .bool true)] 1 rfl rfl ?_
 refine LP_end _ rfl (W_ret ?_)
 exact ⟨_, Ret_of [.bool true] ⟨⟨rfl, rfl⟩, trivial⟩, _, H, rfl, X25.ext⟩

theorem impl_ancestorAt_w (g : Geo) (i : Int) (level : Int) (Q : Int → Prop) (H : impl_ancestorAt g i level Q) (w : World) {vx : Value} {hx : PH} (r : RS hx vx g.Parents) (ex : Sub hx w) :
  CallsTo Tryz.prog 151 #[.agg #[vx], I i, I level] w fun v w' => ∃ r0, Q r0 ∧ v = I r0 ∧ Ext w w' := by
 obtain ⟨a, c, rfl⟩ := r.shape
 refine enter (args := [.agg #[sl a g.Parents c], I i, I level]) 29 Tryz.func151 rfl rfl rfl ?_
 refine W_forget [(0, .agg #[sl a g.Parents c]), (1, I i), (2, I level)] ⟨rfl, rfl, rfl, trivial⟩ fun ρ => ?_
 have X := But.refl emp w
 refine W_seq (W_region ?_)
 refine LP_box 0 (cs := [sl a g.Parents c]) rfl rfl rfl rfl rfl fun b wx x ex1 f => ?_
 refine LP_ev ok 1 [(6, I 0)] 2 rfl rfl ?_
 refine LP_end _ rfl (W_seq (W_region ?_))
 refine LP_ldbox 0 (v := .agg #[sl a g.Parents c]) rfl rfl rfl ti_37 ag_37 (fun h => by cases h) rfl ex1 rfl rfl ?_
 refine LP_ev ok 1 [(9, I i)] 2 rfl rfl ?_
 have ex3 := (ex.ext x)
 refine LP_call 2 rfl rfl rfl cal_167 rfl (impl_depthOf_w _ _ _ H wx r ex3) ?_
 rintro _ wx4 ⟨r2, H, rfl, x5⟩
 refine LP_ev ok 3 [(7, I r2)] 4 rfl rfl ?_
 refine LP_end _ rfl (W_seq ?_)
 obtain ⟨k, hk, H⟩ := jn_elim H
 refine W_join2 (S := Bool) (fun s ρ' w' => k s ∧ ∃ (ρ : Env), ρ' = setAll [(1, I i), (2, I level), (3, pb b), (7, I r2), (17, .bool s)] ρ ∧ wx4 = w') ?_ ?_
 ·refine W_region ?_
  refine LP_ev ok 0 [(11, I level), (12, .bool (decide (level < 0))), (13, .bool (decide (level < 0)))] 3 rfl rfl ?_
  refine LP_split 13 (decide (level < 0)) rfl (fun hc => ?_) (fun hc => ?_)
  ·have H := H.1 hc
   refine LP_ev ok 3 [(14, undef), (15, undef), (16, undef), (17, .bool true)] 7 rfl rfl ?_
   exact LP_end _ rfl ⟨true, H, _, env_eq ⟨rfl, rfl, rfl, rfl, rfl, trivial⟩, rfl⟩
  have H := H.2 hc
  refine LP_ev ok 3 [(14, I r2), (15, I level), (16, .bool (decide (r2 < level))), (17, .bool (decide (r2 < level)))] 7 rfl rfl ?_
  exact LP_end _ rfl ⟨decide (r2 < level), H, _, env_eq ⟨rfl, rfl, rfl, rfl, rfl, trivial⟩, rfl⟩
 rintro x6 _ _ ⟨H, ρ, rfl, rfl⟩
 subst hk
 refine W_cond (x6) rfl (fun hc8 => ?_) (fun hc8 => ?_)
 ·have H := H.1 hc8
  refine W_seq (W_region ?_)
  refine LP_ev ok 0 [(6, I ((-1)))] 1 rfl rfl ?_
  refine LP_end _ rfl (W_ret ?_)
  exact ⟨_, Ret_of [I ((-1))] ⟨⟨rfl, rfl⟩, trivial⟩, _, H, rfl, (X.stepx (x.trans x5)).ext⟩
 have H := H.2 hc8
 refine W_skip ?_
 refine W_seq ?_
 refine W_block ?_
 obtain ⟨J, m, Hx, H⟩ := H
 refine W_loop (S := Int × Int) (fun s ρ' w' => J s.1 s.2 ∧ ∃ (ρ : Env), ρ' = setAll [(1, I s.1), (2, I level), (3, pb b), (7, I s.2)] ρ ∧ wx4 = w') (fun s => m s.1 s.2) (i, r2) ⟨Hx, _, env_eq ⟨rfl, rfl, rfl, rfl, trivial⟩, rfl⟩ ?_
 rintro ⟨i10, d⟩ _ _ ⟨Hi, ρ, rfl, rfl⟩
 have H := H i10 d Hi
 refine W_seq ?_
 refine W_seq (W_region ?_)
 refine LP_ev ok 0 [(18, I d), (19, I level), (20, .bool (decide (d > level)))] 3 rfl rfl ?_
 refine LP_end _ rfl ?_
 refine W_cond (decide (d > level)) rfl (fun hc12 => ?_) (fun hc12 => ?_)
 ·have H := H.1 hc12
  refine W_skip ?_
  refine W_seq ?_
  refine W_block ?_
  refine W_region ?_
  refine LP_ev ok 0 [(23, pb b)] 1 rfl rfl ?_
  refine LP_ldbox 1 (v := sl a g.Parents c) rfl rfl rfl ti_22 ag_22 (fun _ => rfl) rfl (ex1.ext x5) rfl rfl ?_
  refine LP_ev ok 2 [(25, I i10)] 3 rfl rfl ?_
  obtain ⟨x14, hi, hx15, H⟩ := H
  refine LP_index 3 rfl rfl rfl Tryz.underlying22 ti_3 rfl rfl r hi hx15 fun a16 cs r17 d18 => ?_
  refine LP_load 4 rfl rfl rfl ti_3 ag_3 rfl r17 d18 (ex3.ext x5) fun vx20 r21 => ?_
  obtain rfl := r21.int
  refine LP_ev ok 5 [(1, I x14)] 6 rfl rfl ?_
  refine LP_end _ rfl ?_
  refine W_region ?_
  refine LP_ev ok 0 [(21, I d), (22, I (wr (d - 1))), (7, I (wr (d - 1)))] 3 rfl rfl ?_
  exact LP_end _ rfl ⟨(x14, wr (d - 1)), ⟨H.1, _, env_eq ⟨rfl, rfl, rfl, rfl, trivial⟩, rfl⟩, H.2⟩
 have H := H.2 hc12
 refine W_exit ?_
 refine (if_pos rfl).mpr ?_
 refine W_seq (W_region ?_)
 refine LP_ev ok 0 [(28, I i10), (6, I i10)] 2 rfl rfl ?_
 refine LP_end _ rfl (W_ret ?_)
 exact ⟨_, Ret_of [I i10] ⟨⟨rfl, rfl⟩, trivial⟩, _, H, rfl, (X.stepx (x.trans x5)).ext⟩

theorem impl_meetsWhere_w (t : Table) (r7 : Record) (Q : Bool → Prop) (H : impl_meetsWhere t r7 Q) (w : World) {vx : Value} {hx : PH} (r : RS hx vx t.Vars) (ex : Sub hx w) {vx1 : Value} {hx2 : PH} (r3 : RS hx2 vx1 t.Where) (ex4 : Sub hx2 w) {vx8 : Value} {hx9 : PH} (r10 : RS hx9 vx8 r7.Values) (ex11 : Sub hx9 w) :
  CallsTo Tryz.prog 152 #[.agg #[I t.Level, vx, vx1, I t.Sum], .agg #[I r7.Area, I r7.House, vx8]] w fun v w' => ∃ r0, Q r0 ∧ v = .bool r0 ∧ Ext w w' := by
 obtain ⟨a, c, rfl⟩ := r.shape
 obtain ⟨a5, c6, rfl⟩ := r3.shape
 obtain ⟨a12, c13, rfl⟩ := r10.shape
 refine enter (args := [.agg #[I t.Level, sl a t.Vars c, sl a5 t.Where c6, I t.Sum], .agg #[I r7.Area, I r7.House, sl a12 r7.Values c13]]) 29 Tryz.func152 rfl rfl rfl ?_
 refine W_forget [(0, .agg #[I t.Level, sl a t.Vars c, sl a5 t.Where c6, I t.Sum]), (1, .agg #[I r7.Area, I r7.House, sl a12 r7.Values c13])] ⟨rfl, rfl, trivial⟩ fun ρ => ?_
 have X := But.refl emp w
 refine W_seq (W_region ?_)
 refine LP_box 0 (cs := [I t.Level, sl a t.Vars c, sl a5 t.Where c6, I t.Sum]) rfl rfl rfl rfl rfl fun b wx x ex14 f => ?_
 refine LP_box 1 (cs := [I r7.Area, I r7.House, sl a12 r7.Values c13]) rfl rfl rfl rfl rfl fun b15 wx16 x17 ex18 f19 => ?_
 refine LP_ev ok 2 [(4, .bool false)] 3 rfl rfl ?_
 refine LP_end _ rfl (W_seq ?_)
 refine W_seq (W_region ?_)
 refine LP_ev ok 0 [(7, .pointer (some ⟨b, 2, none⟩))] 1 rfl rfl ?_
 refine LP_ldbox 1 (v := sl a5 t.Where c6) rfl rfl rfl ti_22 ag_22 (fun _ => rfl) rfl (ex14.ext x17) rfl rfl ?_
 refine LP_ev ok 2 [(9, I (ln t.Where)), (10, I 0)] 4 rfl rfl ?_
 refine LP_end _ rfl ?_
 refine W_block ?_
 obtain ⟨J, m, Hx, H⟩ := H
 refine W_loop (S := Int) (fun s ρ' w' => J s ∧ ∃ (ρ : Env), ρ' = setAll [(3, pb b15), (8, sl a5 t.Where c6), (9, I (ln t.Where)), (10, I s)] ρ ∧ wx16 = w') (fun s => m s) 0 ⟨Hx, _, env_eq ⟨rfl, rfl, rfl, rfl, trivial⟩, rfl⟩ ?_
 rintro x21 _ _ ⟨Hi, ρ, rfl, rfl⟩
 have H := H x21 Hi
 refine W_seq (W_region ?_)
 refine LP_ev ok 0 [(11, .bool (decide (x21 < (ln t.Where))))] 1 rfl rfl ?_
 refine LP_end _ rfl (W_seq ?_)
 refine W_cond (decide (x21 < (ln t.Where))) rfl (fun hc => ?_) (fun hc => ?_)
 ·have H := H.1 hc
  refine W_skip ?_
  refine W_seq ?_
  refine W_block ?_
  refine W_seq (W_region ?_)
  refine LP_ev ok 0 [(12, I x21)] 1 rfl rfl ?_
  obtain ⟨x23, hi, hx24, H⟩ := H
  refine LP_index 1 rfl rfl rfl Tryz.underlying22 ti_3 rfl rfl r3 hi hx24 fun a25 cs r26 d => ?_
  have xc := (x.trans x17)
  refine LP_load 2 rfl rfl rfl ti_3 ag_3 rfl r26 d (ex4.ext xc) fun vx28 r29 => ?_
  obtain rfl := r29.int
  refine LP_ev ok 3 [(5, I x21), (6, I x23)] 5 rfl rfl ?_
  refine LP_end _ rfl ?_
  obtain ⟨k, hk, H⟩ := jn_elim H
  refine W_join2 (S := Bool) (fun s ρ' w' => k s ∧ ∃ (ρ : Env), ρ' = setAll [(3, pb b15), (8, sl a5 t.Where c6), (9, I (ln t.Where)), (10, I x21), (27, .bool s)] ρ ∧ wx16 = w') ?_ ?_
  ·refine W_region ?_
   refine LP_ev ok 0 [(15, I x23), (16, .bool (x23 != 0)), (17, .bool (x23 != 0))] 3 rfl rfl ?_
   refine LP_split 17 (x23 != 0) rfl (fun hc32 => ?_) (fun hc32 => ?_)
   ·have H := H.1 hc32
    refine LP_ev ok 3 [(18, I x23), (19, .pointer (some ⟨b15, 2, none⟩))] 5 rfl rfl ?_
    refine LP_ldbox 5 (v := sl a12 r7.Values c13) rfl rfl rfl ti_22 ag_22 (fun _ => rfl) rfl ex18 rfl rfl ?_
    refine LP_ev ok 6 [(21, I x21)] 7 rfl rfl ?_
    obtain ⟨x33, hi34, hx35, H⟩ := H
    refine LP_index 7 rfl rfl rfl Tryz.underlying22 ti_3 rfl rfl r10 hi34 hx35 fun a36 cs37 r38 d39 => ?_
    refine LP_load 8 rfl rfl rfl ti_3 ag_3 rfl r38 d39 (ex11.ext xc) fun vx41 r42 => ?_
    obtain rfl := r42.int
    obtain ⟨hz, H⟩ := H
    refine LP_val 9 _ rfl rfl (ex_shr rfl rfl rfl hz _) ?_
    refine LP_ev ok 10 [(25, I (bits .and .i64 (shr .i64 x23 x33) 1)), (26, .bool ((bits .and .i64 (shr .i64 x23 x33) 1) == 0)), (27, .bool ((bits .and .i64 (shr .i64 x23 x33) 1) == 0))] 13 rfl rfl ?_
    exact LP_end _ rfl ⟨(bits .and .i64 (shr .i64 x23 x33) 1) == 0, H, _, env_eq ⟨rfl, rfl, rfl, rfl, rfl, trivial⟩, rfl⟩
   have H := H.2 hc32
   refine LP_ev ok 3 [(18, undef), (19, undef), (20, undef), (21, undef), (22, undef), (23, undef), (24, undef), (25, undef), (26, undef), (27, .bool false)] 13 rfl rfl ?_
   exact LP_end _ rfl ⟨false, H, _, env_eq ⟨rfl, rfl, rfl, rfl, rfl, trivial⟩, rfl⟩
  rintro x30 _ _ ⟨H, ρ, rfl, rfl⟩
  subst hk
  refine W_cond (x30) rfl (fun hc43 => ?_) (fun hc43 => ?_)
  ·have H := H.1 hc43
   refine W_seq (W_region ?_)
   refine LP_ev ok 0 [(4, .bool false)] 1 rfl rfl ?_
   refine LP_end _ rfl (W_ret ?_)
   exact ⟨_, Ret_of [.bool false] ⟨⟨rfl, rfl⟩, trivial⟩, _, H, rfl, (X.stepx xc).ext⟩
  have H := H.2 hc43
  refine W_skip ?_
  refine W_region ?_
  refine LP_ev ok 0 [(28, I (wr (x21 + 1))), (10, I (wr (x21 + 1)))] 2 rfl rfl ?_
  exact LP_end _ rfl ⟨wr (x21 + 1), ⟨H.1, _, env_eq ⟨rfl, rfl, rfl, rfl, trivial⟩, rfl⟩, H.2⟩
 have H := H.2 hc
 refine W_exit ?_
 refine (if_pos rfl).mpr ?_
 refine W_seq (W_region ?_)
 refine LP_ev ok 0 [(4, .bool true)] 1 rfl rfl ?_
 refine LP_end _ rfl (W_ret ?_)
 exact ⟨_, Ret_of [.bool true] ⟨⟨rfl, rfl⟩, trivial⟩, _, H, rfl, (X.stepx (x.trans x17)).ext⟩

theorem cmp_isNaN_int_w (x : Int) (Q : Bool → Prop) (H : cmp_isNaN_int x Q) (w : World)  :
  CallsTo Tryz.prog 175 #[I x] w fun v w' => ∃ r0, Q r0 ∧ v = .bool r0 ∧ Ext w w' := by
 refine enter (args := [I x]) 6 Tryz.func175 rfl rfl rfl ?_
 refine W_forget [(0, I x)] ⟨rfl, trivial⟩ fun ρ => ?_
 have X := But.refl emp w
 refine W_seq (W_region ?_)
 refine LP_ev ok 0 [(2, .bool false)] 1 rfl rfl ?_
 refine LP_end _ rfl (W_seq (W_region ?_))
 refine LP_ev ok 0 [(3, I x), (4, I x), (5, .bool (x != x)), (2, .bool (x != x))] 4 rfl rfl ?_
 refine LP_end _ rfl (W_ret ?_)
 exact ⟨_, Ret_of [.bool (x != x)] ⟨⟨rfl, rfl⟩, trivial⟩, _, H, rfl, X.ext⟩

theorem cmp_Less_int_w (x : Int) (y : Int) (Q : Bool → Prop) (H : cmp_Less_int x y Q) (w : World)  :
  CallsTo Tryz.prog 172 #[I x, I y] w fun v w' => ∃ r0, Q r0 ∧ v = .bool r0 ∧ Ext w w' := by
 refine enter (args := [I x, I y]) 17 Tryz.func172 rfl rfl rfl ?_
 refine W_forget [(0, I x), (1, I y)] ⟨rfl, rfl, trivial⟩ fun ρ => ?_
 have X := But.refl emp w
 refine W_seq (W_region ?_)
 refine LP_ev ok 0 [(4, .bool false)] 1 rfl rfl ?_
 refine LP_end _ rfl ?_
 obtain ⟨k, hk, H⟩ := jn_elim H
 refine W_join2 (S := Bool) (fun s ρ' w' => k s ∧ ∃ (ρ : Env), ρ' = setAll [(4, .bool s)] ρ ∧ But emp w w') ?_ ?_
 ·refine W_region ?_
  refine LP_ev ok 0 [(5, I x)] 1 rfl rfl ?_
  refine LP_call 1 rfl rfl rfl cal_175 rfl (cmp_isNaN_int_w _ _ H w ) ?_
  rintro _ wx3 ⟨r, H, rfl, x4⟩
  refine LP_ev ok 2 [(7, .bool r)] 3 rfl rfl ?_
  refine LP_split 7 (r) rfl (fun hc => ?_) (fun hc => ?_)
  ·have H := H.1 hc
   refine LP_ev ok 3 [(8, I y)] 4 rfl rfl ?_
   refine LP_call 4 rfl rfl rfl cal_175 rfl (cmp_isNaN_int_w _ _ H wx3 ) ?_
   rintro _ wx6 ⟨r5, H, rfl, x7⟩
   refine LP_ev ok 5 [(10, .bool (!r5)), (11, .bool (!r5)), (12, .bool (!r5))] 8 rfl rfl ?_
   refine LP_split 12 (!r5) rfl (fun hc8 => ?_) (fun hc8 => ?_)
   ·have H := H.1 hc8
    refine LP_ev ok 8 [(13, undef), (14, undef), (15, undef), (16, .bool true), (4, .bool true)] 13 rfl rfl ?_
    exact LP_end _ rfl ⟨true, H, _, env_eq ⟨rfl, trivial⟩, (X.stepx (x4.trans x7))⟩
   have H := H.2 hc8
   refine LP_ev ok 8 [(13, I x), (14, I y), (15, .bool (decide (x < y))), (16, .bool (decide (x < y))), (4, .bool (decide (x < y)))] 13 rfl rfl ?_
   exact LP_end _ rfl ⟨decide (x < y), H, _, env_eq ⟨rfl, trivial⟩, (X.stepx (x4.trans x7))⟩
  have H := H.2 hc
  refine LP_ev ok 3 [(8, undef), (9, undef), (10, undef), (11, .bool false), (12, .bool false), (13, I x), (14, I y), (15, .bool (decide (x < y))), (16, .bool (decide (x < y))), (4, .bool (decide (x < y)))] 13 rfl rfl ?_
  exact LP_end _ rfl ⟨decide (x < y), H, _, env_eq ⟨rfl, trivial⟩, (X.stepx x4)⟩
 rintro x1 _ wx ⟨H, ρ, rfl, X2⟩
 subst hk
 refine W_ret ?_
 exact ⟨_, Ret_of [.bool x1] ⟨⟨rfl, rfl⟩, trivial⟩, _, H, rfl, X2.ext⟩

theorem slices_isNaN_int_w (x : Int) (Q : Bool → Prop) (H : slices_isNaN_int x Q) (w : World)  :
  CallsTo Tryz.prog 173 #[I x] w fun v w' => ∃ r0, Q r0 ∧ v = .bool r0 ∧ Ext w w' := by
 refine enter (args := [I x]) 6 Tryz.func173 rfl rfl rfl ?_
 refine W_forget [(0, I x)] ⟨rfl, trivial⟩ fun ρ => ?_
 have X := But.refl emp w
 refine W_seq (W_region ?_)
 refine LP_ev ok 0 [(2, .bool false)] 1 rfl rfl ?_
 refine LP_end _ rfl (W_seq (W_region ?_))
 refine LP_ev ok 0 [(3, I x), (4, I x), (5, .bool (x != x)), (2, .bool (x != x))] 4 rfl rfl ?_
 refine LP_end _ rfl (W_ret ?_)
 exact ⟨_, Ret_of [.bool (x != x)] ⟨⟨rfl, rfl⟩, trivial⟩, _, H, rfl, X.ext⟩

theorem slices_BinarySearch_int_int_w (x : List Int) (target : Int) (Q : Int → Bool → Prop) (H : slices_BinarySearch_int_int x target Q) (w : World) {vx : Value} {hx : PH} (r : RS hx vx x) (ex : Sub hx w) :
  CallsTo Tryz.prog 168 #[vx, I target] w fun v w' => ∃ r0 r1, Q r0 r1 ∧ v = .tuple #[I r0, .bool r1] ∧ Ext w w' := by
 obtain ⟨a, c, rfl⟩ := r.shape
 refine enter (args := [sl a x c, I target]) 54 Tryz.func168 rfl rfl rfl ?_
 refine W_forget [(0, sl a x c), (1, I target)] ⟨rfl, rfl, trivial⟩ fun ρ => ?_
 have X := But.refl emp w
 refine W_seq (W_region ?_)
 refine LP_ev ok 0 [(4, I 0), (5, .bool false)] 2 rfl rfl ?_
 refine LP_end _ rfl (W_seq (W_region ?_))
 refine LP_ev ok 0 [(10, sl a x c), (11, I (ln x)), (6, I (ln x))] 3 rfl rfl ?_
 refine LP_end _ rfl (W_seq (W_region ?_))
 refine LP_ev ok 0 [(12, I (ln x)), (7, I 0), (8, I (ln x))] 3 rfl rfl ?_
 refine LP_end _ rfl (W_seq ?_)
 refine W_block ?_
 obtain ⟨J, m, Hx, H⟩ := H
 refine W_loop (S := Int × Int) (fun s ρ' w' => J s.1 s.2 ∧ ∃ (ρ : Env), ρ' = setAll [(0, sl a x c), (1, I target), (6, I (ln x)), (7, I s.1), (8, I s.2)] ρ ∧ But emp w w' ∧ Sub hx w') (fun s => m s.1 s.2) (0, ln x) ⟨Hx, _, env_eq ⟨rfl, rfl, rfl, rfl, rfl, trivial⟩, X, ex⟩ ?_
 rintro ⟨i, j⟩ _ wx ⟨Hi, ρ, rfl, X2, ex1⟩
 have H := H i j Hi
 refine W_seq ?_
 refine W_seq (W_region ?_)
 refine LP_ev ok 0 [(13, I i), (14, I j), (15, .bool (decide (i < j)))] 3 rfl rfl ?_
 refine LP_end _ rfl ?_
 refine W_cond (decide (i < j)) rfl (fun hc => ?_) (fun hc => ?_)
 ·have H := H.1 hc
  refine W_skip ?_
  refine W_block ?_
  refine W_seq (W_region ?_)
  refine LP_ev ok 0 [(16, I i), (17, I j), (18, I (wr (i + j))), (19, .int .u64 (IntKind.u64.wrap (wr (i + j)))), (20, .int .u64 (Int.fdiv (IntKind.u64.wrap (wr (i + j))) (2 ^ 1))), (21, I (wr (Int.fdiv (IntKind.u64.wrap (wr (i + j))) (2 ^ 1)))), (9, I (wr (Int.fdiv (IntKind.u64.wrap (wr (i + j))) (2 ^ 1))))] 7 rfl rfl ?_
  refine LP_end _ rfl (W_seq (W_region ?_))
  refine LP_ev ok 0 [(22, sl a x c), (23, I (wr (Int.fdiv (IntKind.u64.wrap (wr (i + j))) (2 ^ 1))))] 2 rfl rfl ?_
  obtain ⟨x3, hi, hx4, H⟩ := H
  refine LP_index 2 rfl rfl rfl Tryz.underlying22 ti_3 rfl rfl r hi hx4 fun a5 cs r6 d => ?_
  refine LP_load 3 rfl rfl rfl ti_3 ag_3 rfl r6 d ex1 fun vx7 r8 => ?_
  obtain rfl := r8.int
  refine LP_ev ok 4 [(26, I target)] 5 rfl rfl ?_
  refine LP_call 5 rfl rfl rfl cal_172 rfl (cmp_Less_int_w _ _ _ H wx ) ?_
  rintro _ wx10 ⟨r9, H, rfl, x11⟩
  refine LP_end _ rfl ?_
  refine W_cond (r9) rfl (fun hc12 => ?_) (fun hc12 => ?_)
  ·have H := H.1 hc12
   refine W_region ?_
   refine LP_ev ok 0 [(28, I (wr (Int.fdiv (IntKind.u64.wrap (wr (i + j))) (2 ^ 1)))), (29, I (wr ((wr (Int.fdiv (IntKind.u64.wrap (wr (i + j))) (2 ^ 1))) + 1))), (7, I (wr ((wr (Int.fdiv (IntKind.u64.wrap (wr (i + j))) (2 ^ 1))) + 1)))] 3 rfl rfl ?_
   exact LP_end _ rfl ⟨(wr ((wr (Int.fdiv (IntKind.u64.wrap (wr (i + j))) (2 ^ 1))) + 1), j), ⟨H.1, _, env_eq ⟨rfl, rfl, rfl, rfl, rfl, trivial⟩, (X2.stepx x11), (ex1.ext x11)⟩, H.2⟩
  have H := H.2 hc12
  refine W_region ?_
  refine LP_ev ok 0 [(30, I (wr (Int.fdiv (IntKind.u64.wrap (wr (i + j))) (2 ^ 1)))), (8, I (wr (Int.fdiv (IntKind.u64.wrap (wr (i + j))) (2 ^ 1))))] 2 rfl rfl ?_
  exact LP_end _ rfl ⟨(i, wr (Int.fdiv (IntKind.u64.wrap (wr (i + j))) (2 ^ 1))), ⟨H.1, _, env_eq ⟨rfl, rfl, rfl, rfl, rfl, trivial⟩, (X2.stepx x11), (ex1.ext x11)⟩, H.2⟩
 have H := H.2 hc
 refine W_exit ?_
 refine (if_pos rfl).mpr ?_
 obtain ⟨k, hk, H⟩ := jn_elim H
 refine W_join2 (S := Int × Bool) (fun s ρ' w' => k s.1 s.2 ∧ ∃ (ρ : Env), ρ' = setAll [(4, I s.1), (5, .bool s.2)] ρ ∧ But emp w w') ?_ ?_
 ·refine W_region ?_
  refine LP_ev ok 0 [(31, I i), (32, I i), (33, I (ln x)), (34, .bool (decide (i < (ln x)))), (35, .bool (decide (i < (ln x))))] 5 rfl rfl ?_
  refine LP_split 35 (decide (i < (ln x))) rfl (fun hc21 => ?_) (fun hc21 => ?_)
  ·have H := H.1 hc21
   refine LP_ev ok 5 [(36, sl a x c), (37, I i)] 7 rfl rfl ?_
   obtain ⟨x22, hi23, hx24, H⟩ := H
   refine LP_index 7 rfl rfl rfl Tryz.underlying22 ti_3 rfl rfl r hi23 hx24 fun a25 cs26 r27 d28 => ?_
   refine LP_load 8 rfl rfl rfl ti_3 ag_3 rfl r27 d28 ex1 fun vx29 r30 => ?_
   obtain rfl := r30.int
   refine LP_ev ok 9 [(40, I target), (41, .bool (x22 == target)), (42, .bool (x22 == target))] 12 rfl rfl ?_
   refine LP_split 42 (x22 == target) rfl (fun hc31 => ?_) (fun hc31 => ?_)
   ·have H := H.1 hc31
    refine LP_ev ok 12 [(43, undef), (44, undef), (45, undef), (46, undef), (47, undef), (48, undef), (49, undef), (50, undef), (51, undef), (52, .bool true), (53, .bool true), (4, I i), (5, .bool true)] 25 rfl rfl ?_
    refine LP_end _ rfl ?_
    try refine W_forget [(4, I i), (5, .bool true)] ⟨rfl, rfl, trivial⟩ fun ρ => ?_
    exact ⟨(i, true), H, _, env_eq ⟨rfl, rfl, trivial⟩, X2⟩
   have H := H.2 hc31
   refine LP_ev ok 12 [(43, sl a x c), (44, I i)] 14 rfl rfl ?_
   obtain ⟨x32, hi33, hx34, H⟩ := H
   refine LP_index 14 rfl rfl rfl Tryz.underlying22 ti_3 rfl rfl r hi33 hx34 fun a35 cs36 r37 d38 => ?_
   refine LP_load 15 rfl rfl rfl ti_3 ag_3 rfl r37 d38 ex1 fun vx39 r40 => ?_
   obtain rfl := r40.int
   refine LP_call 16 rfl rfl rfl cal_173 rfl (slices_isNaN_int_w _ _ H wx ) ?_
   rintro _ wx42 ⟨r41, H, rfl, x43⟩
   refine LP_ev ok 17 [(48, .bool r41)] 18 rfl rfl ?_
   refine LP_split 48 (r41) rfl (fun hc44 => ?_) (fun hc44 => ?_)
   ·have H := H.1 hc44
    refine LP_ev ok 18 [(49, I target)] 19 rfl rfl ?_
    refine LP_call 19 rfl rfl rfl cal_173 rfl (slices_isNaN_int_w _ _ H wx42 ) ?_
    rintro _ wx46 ⟨r45, H, rfl, x47⟩
    refine LP_ev ok 20 [(51, .bool r45), (52, .bool r45), (53, .bool r45), (4, I i), (5, .bool r45)] 25 rfl rfl ?_
    refine LP_end _ rfl ?_
    try refine W_forget [(4, I i), (5, .bool r45)] ⟨rfl, rfl, trivial⟩ fun ρ => ?_
    exact ⟨(i, r45), H, _, env_eq ⟨rfl, rfl, trivial⟩, (X2.stepx (x43.trans x47))⟩
   have H := H.2 hc44
   refine LP_ev ok 18 [(49, undef), (50, undef), (51, .bool false), (52, .bool false), (53, .bool false), (4, I i), (5, .bool false)] 25 rfl rfl ?_
   refine LP_end _ rfl ?_
   try refine W_forget [(4, I i), (5, .bool false)] ⟨rfl, rfl, trivial⟩ fun ρ => ?_
   exact ⟨(i, false), H, _, env_eq ⟨rfl, rfl, trivial⟩, (X2.stepx x43)⟩
  have H := H.2 hc21
  refine LP_ev ok 5 [(36, undef), (37, undef), (38, undef), (39, undef), (40, undef), (41, undef), (42, undef), (43, undef), (44, undef), (45, undef), (46, undef), (47, undef), (48, undef), (49, undef), (50, undef), (51, undef), (52, undef), (53, .bool false), (4, I i), (5, .bool false)] 25 rfl rfl ?_
  refine LP_end _ rfl ?_
  try refine W_forget [(4, I i), (5, .bool false)] ⟨rfl, rfl, trivial⟩ fun ρ => ?_
  exact ⟨(i, false), H, _, env_eq ⟨rfl, rfl, trivial⟩, X2⟩
 rintro ⟨x17, x18⟩ _ wx19 ⟨H, ρ, rfl, X20⟩
 subst hk
 refine W_ret ?_
 exact ⟨_, Ret_of [I x17, .bool x18] ⟨⟨rfl, rfl⟩, ⟨rfl, rfl⟩, trivial⟩, _, _, H, rfl, X20.ext⟩

theorem impl_indexOfValues_w (sx : List Variable) (values : List Int) (Q : Int → Prop) (H : impl_indexOfValues sx values Q) (w : World) {vx : Value} {hx : PH} (r : RS hx vx sx) (ex : Sub hx w) {vx1 : Value} {hx2 : PH} (r3 : RS hx2 vx1 values) (ex4 : Sub hx2 w) :
  CallsTo Tryz.prog 169 #[vx, vx1] w fun v w' => ∃ r0, Q r0 ∧ v = I r0 ∧ Ext w w' := by
 obtain ⟨a, c, rfl⟩ := r.shape
 obtain ⟨a5, c6, rfl⟩ := r3.shape
 refine enter (args := [sl a sx c, sl a5 values c6]) 26 Tryz.func169 rfl rfl rfl ?_
 refine W_forget [(0, sl a sx c), (1, sl a5 values c6)] ⟨rfl, rfl, trivial⟩ fun ρ => ?_
 have X := But.refl emp w
 refine W_seq (W_region ?_)
 refine LP_ev ok 0 [(4, I 0)] 1 rfl rfl ?_
 refine LP_end _ rfl (W_seq (W_region ?_))
 refine LP_ev ok 0 [(5, I 0)] 1 rfl rfl ?_
 refine LP_end _ rfl (W_seq ?_)
 refine W_seq (W_region ?_)
 refine LP_ev ok 0 [(8, sl a5 values c6), (9, I (ln values)), (10, I 0)] 3 rfl rfl ?_
 refine LP_end _ rfl ?_
 refine W_block ?_
 obtain ⟨J, m, Hx, H⟩ := H
 refine W_loop (S := Int × Int) (fun s ρ' w' => J s.1 s.2 ∧ ∃ (ρ : Env), ρ' = setAll [(0, sl a sx c), (5, I s.1), (8, sl a5 values c6), (9, I (ln values)), (10, I s.2)] ρ ∧ w = w') (fun s => m s.1 s.2) (0, 0) ⟨Hx, _, env_eq ⟨rfl, rfl, rfl, rfl, rfl, trivial⟩, rfl⟩ ?_
 rintro ⟨i, x⟩ _ _ ⟨Hi, ρ, rfl, rfl⟩
 have H := H i x Hi
 refine W_seq (W_region ?_)
 refine LP_ev ok 0 [(11, .bool (decide (x < (ln values))))] 1 rfl rfl ?_
 refine LP_end _ rfl (W_seq ?_)
 refine W_cond (decide (x < (ln values))) rfl (fun hc => ?_) (fun hc => ?_)
 ·have H := H.1 hc
  refine W_skip ?_
  refine W_seq ?_
  refine W_block ?_
  refine W_seq (W_region ?_)
  refine LP_ev ok 0 [(12, I x)] 1 rfl rfl ?_
  obtain ⟨x7, hi, hx8, H⟩ := H
  refine LP_index 1 rfl rfl rfl Tryz.underlying22 ti_3 rfl rfl r3 hi hx8 fun a9 cs r10 d => ?_
  refine LP_load 2 rfl rfl rfl ti_3 ag_3 rfl r10 d ex4 fun vx11 r12 => ?_
  obtain rfl := r12.int
  refine LP_ev ok 3 [(6, I x), (7, I x7)] 5 rfl rfl ?_
  refine LP_end _ rfl ?_
  refine W_region ?_
  refine LP_ev ok 0 [(15, I i), (16, sl a sx c), (17, I x)] 3 rfl rfl ?_
  obtain ⟨x13, hi14, hx15, H⟩ := H
  refine LP_index 3 rfl rfl rfl Tryz.underlying39 ti_82 rfl rfl r hi14 hx15 fun a16 cs17 r18 d19 => ?_
  refine LP_ev ok 4 [(19, .pointer (some (Addr.add a16 1)))] 5 rfl rfl ?_
  refine LP_ldfld (x := x13) (off := 1) 5 (v := I x13.Levels) rfl rfl rfl ti_3 ag_3 (fun _ => rfl) rfl r18 d19 ex rfl rfl ?_
  refine LP_ev ok 6 [(21, I (wr (i * x13.Levels))), (22, I x7), (23, I (wr ((wr (i * x13.Levels)) + x7))), (5, I (wr ((wr (i * x13.Levels)) + x7)))] 10 rfl rfl ?_
  refine LP_end _ rfl ?_
  refine W_region ?_
  refine LP_ev ok 0 [(24, I (wr (x + 1))), (10, I (wr (x + 1)))] 2 rfl rfl ?_
  exact LP_end _ rfl ⟨(wr ((wr (i * x13.Levels)) + x7), wr (x + 1)), ⟨H.1, _, env_eq ⟨rfl, rfl, rfl, rfl, rfl, trivial⟩, rfl⟩, H.2⟩
 have H := H.2 hc
 refine W_exit ?_
 refine (if_pos rfl).mpr ?_
 refine W_seq (W_region ?_)
 refine LP_ev ok 0 [(25, I i), (4, I i)] 2 rfl rfl ?_
 refine LP_end _ rfl (W_ret ?_)
 exact ⟨_, Ret_of [I i] ⟨⟨rfl, rfl⟩, trivial⟩, _, H, rfl, X.ext⟩

theorem impl_cellIndex_w (g : Geo) (sx : List Variable) (t : Table) (area : Int) (values : List Int) (Q : Int → Prop) (H : impl_cellIndex g sx t area values Q) (w : World) {vx : Value} {hx : PH} (r : RS hx vx g.Parents) (ex : Sub hx w) {vx1 : Value} {hx2 : PH} (r3 : RS hx2 vx1 sx) (ex4 : Sub hx2 w) {vx7 : Value} {hx8 : PH} (r9 : RS hx8 vx7 t.Vars) (ex10 : Sub hx8 w) {vx13 : Value} {hx14 : PH} (r15 : RS hx14 vx13 t.Where) (ex16 : Sub hx14 w) {vx19 : Value} {hx20 : PH} (r21 : RS hx20 vx19 values) (ex22 : Sub hx20 w) :
  CallsTo Tryz.prog 153 #[.agg #[vx], vx1, .agg #[I t.Level, vx7, vx13, I t.Sum], I area, vx19] w fun v w' => ∃ r0, Q r0 ∧ v = I r0 ∧ Ext w w' := by
 obtain ⟨a, c, rfl⟩ := r.shape
 obtain ⟨a5, c6, rfl⟩ := r3.shape
 obtain ⟨a11, c12, rfl⟩ := r9.shape
 obtain ⟨a17, c18, rfl⟩ := r15.shape
 obtain ⟨a23, c24, rfl⟩ := r21.shape
 refine enter (args := [.agg #[sl a g.Parents c], sl a5 sx c6, .agg #[I t.Level, sl a11 t.Vars c12, sl a17 t.Where c18, I t.Sum], I area, sl a23 values c24]) 36 Tryz.func153 rfl rfl rfl ?_
 refine W_forget [(0, .agg #[sl a g.Parents c]), (1, sl a5 sx c6), (2, .agg #[I t.Level, sl a11 t.Vars c12, sl a17 t.Where c18, I t.Sum]), (3, I area), (4, sl a23 values c24)] ⟨rfl, rfl, rfl, rfl, rfl, trivial⟩ fun ρ => ?_
 have X := But.refl emp w
 refine W_seq (W_region ?_)
 refine LP_box 0 (cs := [sl a g.Parents c]) rfl rfl rfl rfl rfl fun b wx x ex25 f => ?_
 refine LP_box 1 (cs := [I t.Level, sl a11 t.Vars c12, sl a17 t.Where c18, I t.Sum]) rfl rfl rfl rfl rfl fun b26 wx27 x28 ex29 f30 => ?_
 refine LP_ev ok 2 [(10, I 0)] 3 rfl rfl ?_
 refine LP_end _ rfl (W_seq (W_region ?_))
 refine LP_ldbox 0 (v := .agg #[sl a g.Parents c]) rfl rfl rfl ti_37 ag_37 (fun h => by cases h) rfl (ex25.ext x28) rfl rfl ?_
 refine LP_ev ok 1 [(16, pb b26)] 2 rfl rfl ?_
 refine LP_ldbox 2 (v := I t.Level) rfl rfl rfl ti_3 ag_3 (fun _ => rfl) rfl ex29 rfl rfl ?_
 refine LP_call 3 rfl rfl rfl cal_148 rfl (impl_areasAt_w _ _ _ H wx27 r (ex.ext (x.trans x28))) ?_
 rintro _ wx34 ⟨r32, vx36, hx37, H, rfl, x35, o, ex38, f39⟩
 obtain ⟨a40, c41, rfl⟩ := o.shape
 refine LP_ev ok 4 [(19, I area)] 5 rfl rfl ?_
 refine LP_call 5 rfl rfl rfl cal_168 rfl (slices_BinarySearch_int_int_w _ _ _ H wx34 o.readf ex38) ?_
 rintro _ wx44 ⟨r42, r43, H, rfl, x45⟩
 refine LP_ev ok 6 [(14, .tuple #[I r42, .bool r43]), (21, I r42), (22, .bool r43), (11, I r42), (12, .bool r43)] 11 rfl rfl ?_
 refine LP_end _ rfl (W_seq ?_)
 refine W_seq (W_region ?_)
 refine LP_ev ok 0 [(23, .bool r43), (24, .bool (!r43))] 2 rfl rfl ?_
 refine LP_end _ rfl ?_
 refine W_cond (!r43) rfl (fun hc => ?_) (fun hc => ?_)
 ·have H := H.1 hc
  refine W_seq (W_region ?_)
  refine LP_ev ok 0 [(10, I ((-1)))] 1 rfl rfl ?_
  refine LP_end _ rfl (W_ret ?_)
  exact ⟨_, Ret_of [I ((-1))] ⟨⟨rfl, rfl⟩, trivial⟩, _, H, rfl, (X.stepx (((x.trans x28).trans x35).trans x45)).ext⟩
 have H := H.2 hc
 refine W_skip ?_
 refine W_seq (W_region ?_)
 refine LP_ev ok 0 [(25, sl a5 sx c6)] 1 rfl rfl ?_
 refine LP_ldbox 1 (v := .agg #[I t.Level, sl a11 t.Vars c12, sl a17 t.Where c18, I t.Sum]) rfl rfl rfl ti_41 ag_41 (fun h => by cases h) rfl (ex29.ext (x35.trans x45)) rfl rfl ?_
 have xc51 := (((x.trans x28).trans x35).trans x45)
 refine LP_call 2 rfl rfl rfl cal_150 rfl (impl_crossed_w _ _ _ H wx44 r3 (ex4.ext xc51) r9 (ex10.ext xc51) r15 (ex16.ext xc51)) ?_
 rintro _ wx55 ⟨r50, vx57, hx58, H, rfl, x56, o59, ex60, f61⟩
 obtain ⟨a62, c63, rfl⟩ := o59.shape
 refine LP_ev ok 3 [(13, sl a62 r50 c63)] 4 rfl rfl ?_
 refine LP_end _ rfl (W_seq (W_region ?_))
 refine LP_ev ok 0 [(28, I r42), (29, sl a62 r50 c63)] 2 rfl rfl ?_
 refine LP_call 2 rfl rfl rfl cal_149 rfl (impl_combinations_w _ _ H wx55 o59.readf ex60) ?_
 rintro _ wx65 ⟨r64, H, rfl, x66⟩
 refine LP_ev ok 3 [(31, I (wr (r42 * r64))), (32, sl a62 r50 c63), (33, sl a23 values c24)] 6 rfl rfl ?_
 have xc69 := (((((x.trans x28).trans x35).trans x45).trans x56).trans x66)
 refine LP_call 6 rfl rfl rfl cal_169 rfl (impl_indexOfValues_w _ _ _ H wx65 o59.readf (ex60.ext x66) r21 (ex22.ext xc69)) ?_
 rintro _ wx71 ⟨r67, H, rfl, x72⟩
 refine LP_ev ok 7 [(35, I (wr ((wr (r42 * r64)) + r67))), (10, I (wr ((wr (r42 * r64)) + r67)))] 9 rfl rfl ?_
 refine LP_end _ rfl ?_
 try refine W_forget [(10, I (wr ((wr (r42 * r64)) + r67)))] ⟨rfl, trivial⟩ fun ρ => ?_
 refine W_ret ?_
 exact ⟨_, Ret_of [I (wr ((wr (r42 * r64)) + r67))] ⟨⟨rfl, rfl⟩, trivial⟩, _, H, rfl, (X.stepx (xc69.trans x72)).ext⟩

theorem impl_contribution_w (g : Geo) (sx : List Variable) (t : Table) (r19 : Record) (Q : Int → Int → Prop) (H : impl_contribution g sx t r19 Q) (w : World) {vx : Value} {hx : PH} (r : RS hx vx g.Parents) (ex : Sub hx w) {vx1 : Value} {hx2 : PH} (r3 : RS hx2 vx1 sx) (ex4 : Sub hx2 w) {vx7 : Value} {hx8 : PH} (r9 : RS hx8 vx7 t.Vars) (ex10 : Sub hx8 w) {vx13 : Value} {hx14 : PH} (r15 : RS hx14 vx13 t.Where) (ex16 : Sub hx14 w) {vx20 : Value} {hx21 : PH} (r22 : RS hx21 vx20 r19.Values) (ex23 : Sub hx21 w) :
  CallsTo Tryz.prog 118 #[.agg #[vx], vx1, .agg #[I t.Level, vx7, vx13, I t.Sum], .agg #[I r19.Area, I r19.House, vx20]] w fun v w' => ∃ r0 r1, Q r0 r1 ∧ v = .tuple #[I r0, I r1] ∧ Ext w w' := by
 obtain ⟨a, c, rfl⟩ := r.shape
 obtain ⟨a5, c6, rfl⟩ := r3.shape
 obtain ⟨a11, c12, rfl⟩ := r9.shape
 obtain ⟨a17, c18, rfl⟩ := r15.shape
 obtain ⟨a24, c25, rfl⟩ := r22.shape
 refine enter (args := [.agg #[sl a g.Parents c], sl a5 sx c6, .agg #[I t.Level, sl a11 t.Vars c12, sl a17 t.Where c18, I t.Sum], .agg #[I r19.Area, I r19.House, sl a24 r19.Values c25]]) 66 Tryz.func118 rfl rfl rfl ?_
 refine W_forget [(0, .agg #[sl a g.Parents c]), (1, sl a5 sx c6), (2, .agg #[I t.Level, sl a11 t.Vars c12, sl a17 t.Where c18, I t.Sum]), (3, .agg #[I r19.Area, I r19.House, sl a24 r19.Values c25])] ⟨rfl, rfl, rfl, rfl, trivial⟩ fun ρ => ?_
 have X := But.refl emp w
 refine W_seq (W_region ?_)
 refine LP_box 0 (cs := [sl a g.Parents c]) rfl rfl rfl rfl rfl fun b wx x ex26 f => ?_
 refine LP_box 1 (cs := [I t.Level, sl a11 t.Vars c12, sl a17 t.Where c18, I t.Sum]) rfl rfl rfl rfl rfl fun b27 wx28 x29 ex30 f31 => ?_
 refine LP_box 2 (cs := [I r19.Area, I r19.House, sl a24 r19.Values c25]) rfl rfl rfl rfl rfl fun b32 wx33 x34 ex35 f36 => ?_
 refine LP_ev ok 3 [(8, I 0), (9, I 0)] 5 rfl rfl ?_
 refine LP_end _ rfl (W_seq (W_region ?_))
 have ex37 := (ex26.ext (x29.trans x34))
 refine LP_ldbox 0 (v := .agg #[sl a g.Parents c]) rfl rfl rfl ti_37 ag_37 (fun h => by cases h) rfl ex37 rfl rfl ?_
 refine LP_ev ok 1 [(16, pb b32)] 2 rfl rfl ?_
 refine LP_ldbox 2 (v := I r19.Area) rfl rfl rfl ti_3 ag_3 (fun _ => rfl) rfl ex35 rfl rfl ?_
 refine LP_ev ok 3 [(18, pb b27)] 4 rfl rfl ?_
 have ex38 := (ex30.ext x34)
 refine LP_ldbox 4 (v := I t.Level) rfl rfl rfl ti_3 ag_3 (fun _ => rfl) rfl ex38 rfl rfl ?_
 have xc40 := ((x.trans x29).trans x34)
 have ex41 := (ex.ext xc40)
 refine LP_call 5 rfl rfl rfl cal_151 rfl (impl_ancestorAt_w _ _ _ _ H wx33 r ex41) ?_
 rintro _ wx42 ⟨r39, H, rfl, x43⟩
 refine LP_ev ok 6 [(10, I r39)] 7 rfl rfl ?_
 refine LP_end _ rfl (W_seq ?_)
 obtain ⟨k, hk, H⟩ := jn_elim H
 refine W_join2 (S := Bool) (fun s ρ' w' => k s ∧ ∃ (ρ : Env), ρ' = setAll [(1, sl a5 sx c6), (4, pb b), (6, pb b27), (7, pb b32), (10, I r39), (28, .bool s)] ρ ∧ But emp w w' ∧ Sub hx w' ∧ Sub hx2 w' ∧ Sub hx8 w' ∧ Sub hx14 w' ∧ Sub hx21 w' ∧ Sub (bx b 37 [sl a g.Parents c]) w' ∧ Sub (bx b27 41 [I t.Level, sl a11 t.Vars c12, sl a17 t.Where c18, I t.Sum]) w' ∧ Sub (bx b32 118 [I r19.Area, I r19.House, sl a24 r19.Values c25]) w') ?_ ?_
 ·refine W_region ?_
  refine LP_ev ok 0 [(21, I r39), (22, .bool (decide (r39 < 0))), (23, .bool (decide (r39 < 0)))] 3 rfl rfl ?_
  refine LP_split 23 (decide (r39 < 0)) rfl (fun hc => ?_) (fun hc => ?_)
  ·have H := H.1 hc
   refine LP_ev ok 3 [(24, undef), (25, undef), (26, undef), (27, undef), (28, .bool true)] 8 rfl rfl ?_
   refine LP_end _ rfl ?_
   have xc55 := (xc40.trans x43)
   exact ⟨true, H, _, env_eq ⟨rfl, rfl, rfl, rfl, rfl, rfl, trivial⟩, (X.stepx xc55), (ex41.ext x43), (ex4.ext xc55), (ex10.ext xc55), (ex16.ext xc55), (ex23.ext xc55), (ex37.ext x43), (ex38.ext x43), (ex35.ext x43)⟩
  have H := H.2 hc
  have ex65 := (ex38.ext x43)
  refine LP_ldbox 3 (v := .agg #[I t.Level, sl a11 t.Vars c12, sl a17 t.Where c18, I t.Sum]) rfl rfl rfl ti_41 ag_41 (fun h => by cases h) rfl ex65 rfl rfl ?_
  have ex66 := (ex35.ext x43)
  refine LP_ldbox 4 (v := .agg #[I r19.Area, I r19.House, sl a24 r19.Values c25]) rfl rfl rfl ti_118 ag_118 (fun h => by cases h) rfl ex66 rfl rfl ?_
  have xc68 := (xc40.trans x43)
  have ex69 := (ex10.ext xc68)
  have ex70 := (ex16.ext xc68)
  have ex71 := (ex23.ext xc68)
  refine LP_call 5 rfl rfl rfl cal_152 rfl (impl_meetsWhere_w _ _ _ H wx42 r9 ex69 r15 ex70 r22 ex71) ?_
  rintro _ wx72 ⟨r67, H, rfl, x73⟩
  refine LP_ev ok 6 [(27, .bool (!r67)), (28, .bool (!r67))] 8 rfl rfl ?_
  refine LP_end _ rfl ?_
  have xc74 := (xc68.trans x73)
  have xc76 := (x43.trans x73)
  exact ⟨!r67, H, _, env_eq ⟨rfl, rfl, rfl, rfl, rfl, rfl, trivial⟩, (X.stepx xc74), (ex41.ext xc76), (ex4.ext xc74), (ex69.ext x73), (ex70.ext x73), (ex71.ext x73), (ex37.ext xc76), (ex65.ext x73), (ex66.ext x73)⟩
 rintro x44 _ wx45 ⟨H, ρ, rfl, HF⟩
 revert HF
 refine bb9 fun X54 ex46 ex47 ex48 ex49 ex50 ex51 ex52 ex53 => ?_
 subst hk
 refine W_cond (x44) rfl (fun hc85 => ?_) (fun hc85 => ?_)
 ·have H := H.1 hc85
  refine W_seq (W_region ?_)
  refine LP_ev ok 0 [(8, I ((-1))), (9, I 0)] 2 rfl rfl ?_
  refine LP_end _ rfl (W_ret ?_)
  exact ⟨_, Ret_of [I ((-1)), I 0] ⟨⟨rfl, rfl⟩, ⟨rfl, rfl⟩, trivial⟩, _, _, H, rfl, X54.ext⟩
 have H := H.2 hc85
 refine W_skip ?_
 refine W_seq (W_region ?_)
 refine LP_ev ok 0 [(29, .pointer (some ⟨b27, 1, none⟩))] 1 rfl rfl ?_
 refine LP_ldbox 1 (v := sl a11 t.Vars c12) rfl rfl rfl ti_22 ag_22 (fun _ => rfl) rfl ex52 rfl rfl ?_
 refine LP_ev ok 2 [(31, I (ln t.Vars))] 3 rfl rfl ?_
 obtain ⟨hn, hb, H⟩ := H
 refine LP_make (α := Int) 3 rfl rfl rfl Tryz.underlying22 ti_3 (x0 := (0 : Int)) rfl rfl hn (by first | omega | (simp only [ln] at *; omega)) (by first | omega | (simp only [ln] at *; omega)) fun hx86 vx87 wx88 x89 o ex90 f91 => ?_
 obtain ⟨a92, c93, rfl⟩ := o.shape
 refine LP_ev ok 4 [(11, .slice a92 (List.length (List.replicate (Int.toNat (ln t.Vars)) ((0 : Int)))) c93)] 5 rfl rfl ?_
 refine LP_end _ rfl (W_seq ?_)
 refine W_seq (W_region ?_)
 refine LP_ev ok 0 [(33, .pointer (some ⟨b27, 1, none⟩))] 1 rfl rfl ?_
 have ex94 := (ex52.ext x89)
 refine LP_ldbox 1 (v := sl a11 t.Vars c12) rfl rfl rfl ti_22 ag_22 (fun _ => rfl) rfl ex94 rfl rfl ?_
 refine LP_ev ok 2 [(35, I (ln t.Vars)), (36, I 0)] 4 rfl rfl ?_
 refine LP_end _ rfl ?_
 refine W_block ?_
 have f119 := f91.mono X54.size
 obtain ⟨J, m, Hx, H⟩ := H
 refine W_loop (S := (List Int) × Int) (fun s ρ' w' => J s.1 s.2 ∧ ∃ (ρ : Env) (hx96 : PH), ρ' = setAll [(1, sl a5 sx c6), (4, pb b), (6, pb b27), (7, pb b32), (10, I r39), (11, .slice a92 (List.length (List.replicate (Int.toNat (ln t.Vars)) ((0 : Int)))) c93), (34, sl a11 t.Vars c12), (35, I (ln t.Vars)), (36, I s.2)] ρ ∧ But emp w w' ∧ OS 3 hx96 emp (.slice a92 (List.length (List.replicate (Int.toNat (ln t.Vars)) ((0 : Int)))) c93) s.1 ∧ Sub hx96 w' ∧ Fresh w.heap.size hx96 ∧ Sub hx w' ∧ Sub hx2 w' ∧ Sub hx8 w' ∧ Sub hx14 w' ∧ Sub hx21 w' ∧ Sub (bx b 37 [sl a g.Parents c]) w' ∧ Sub (bx b27 41 [I t.Level, sl a11 t.Vars c12, sl a17 t.Where c18, I t.Sum]) w' ∧ Sub (bx b32 118 [I r19.Area, I r19.House, sl a24 r19.Values c25]) w' ∧ Dj hx96 hx ∧ Dj hx96 hx2 ∧ Dj hx96 hx8 ∧ Dj hx96 hx14 ∧ Dj hx96 hx21 ∧ Dj hx96 (bx b 37 [sl a g.Parents c]) ∧ Dj hx96 (bx b27 41 [I t.Level, sl a11 t.Vars c12, sl a17 t.Where c18, I t.Sum]) ∧ Dj hx96 (bx b32 118 [I r19.Area, I r19.House, sl a24 r19.Values c25])) (fun s => m s.1 s.2) (List.replicate (Int.toNat (ln t.Vars)) ((0 : Int)), 0) ⟨Hx, _, hx86, env_eq ⟨rfl, rfl, rfl, rfl, rfl, rfl, rfl, rfl, rfl, trivial⟩, (X54.stepx x89), o, ex90, f119, (ex46.ext x89), (ex47.ext x89), (ex48.ext x89), (ex49.ext x89), (ex50.ext x89), (ex51.ext x89), ex94, (ex53.ext x89), (Dj.of_fresh ex46 f91).symm, (Dj.of_fresh ex47 f91).symm, (Dj.of_fresh ex48 f91).symm, (Dj.of_fresh ex49 f91).symm, (Dj.of_fresh ex50 f91).symm, (Dj.of_fresh ex51 f91).symm, (Dj.of_fresh ex52 f91).symm, (Dj.of_fresh ex53 f91).symm⟩ ?_
 rintro ⟨values, x100⟩ _ wx101 ⟨Hi, ρ, hx96, rfl, HF⟩
 revert HF
 refine bb9 fun X117 o97 ex98 f99 ex102 ex103 ex104 ex105 => ?_
 refine bb9 fun ex106 ex107 ex108 ex109 d d110 d111 d112 => ?_
 refine bb4 fun d113 d114 d115 d116 => ?_
 have H := H values x100 Hi
 refine W_seq (W_region ?_)
 refine LP_ev ok 0 [(37, .bool (decide (x100 < (ln t.Vars))))] 1 rfl rfl ?_
 refine LP_end _ rfl (W_seq ?_)
 refine W_cond (decide (x100 < (ln t.Vars))) rfl (fun hc127 => ?_) (fun hc127 => ?_)
 ·have H := H.1 hc127
  refine W_skip ?_
  refine W_seq ?_
  refine W_block ?_
  refine W_seq (W_region ?_)
  refine LP_ev ok 0 [(38, I x100)] 1 rfl rfl ?_
  obtain ⟨x128, hi, hx129, H⟩ := H
  refine LP_index 1 rfl rfl rfl Tryz.underlying22 ti_3 rfl rfl r9 hi hx129 fun a130 cs r131 d132 => ?_
  refine LP_load 2 rfl rfl rfl ti_3 ag_3 rfl r131 d132 ex104 fun vx133 r134 => ?_
  obtain rfl := r134.int
  refine LP_ev ok 3 [(12, I x100), (13, I x128)] 5 rfl rfl ?_
  refine LP_end _ rfl ?_
  refine W_region ?_
  refine LP_ev ok 0 [(41, .slice a92 (List.length (List.replicate (Int.toNat (ln t.Vars)) ((0 : Int)))) c93), (42, I x100), (43, .pointer (some ⟨b32, 2, none⟩))] 3 rfl rfl ?_
  refine LP_ldbox 3 (v := sl a24 r19.Values c25) rfl rfl rfl ti_22 ag_22 (fun _ => rfl) rfl ex109 rfl rfl ?_
  refine LP_ev ok 4 [(45, I x128)] 5 rfl rfl ?_
  obtain ⟨x135, hi136, hx137, H⟩ := H
  refine LP_index 5 rfl rfl rfl Tryz.underlying22 ti_3 rfl rfl r22 hi136 hx137 fun a138 cs139 r140 d141 => ?_
  refine LP_load 6 rfl rfl rfl ti_3 ag_3 rfl r140 d141 ex106 fun vx142 r143 => ?_
  obtain rfl := r143.int
  obtain ⟨hi144, hl, H⟩ := H
  refine LP_indexw (v := .slice a92 (List.length (List.replicate (Int.toNat (ln t.Vars)) ((0 : Int)))) c93) 7 rfl rfl rfl Tryz.underlying22 ti_3 rfl rfl o97 hi144 hl fun a145 wa => ?_
  refine LP_set 8 rfl rfl rfl rfl rfl wa (Le.refl emp) ⟨_, rfl, rfl⟩ ex98 fun hx146 wx147 o148 ex149 y dm => ?_
  refine LP_end _ rfl ?_
  refine W_region ?_
  refine LP_ev ok 0 [(49, I (wr (x100 + 1))), (36, I (wr (x100 + 1)))] 2 rfl rfl ?_
  refine LP_end _ rfl ?_
  have f151 := (dm _).fresh f99 X117.size
  exact ⟨(List.set values (Int.toNat x100) x135, wr (x100 + 1)), ⟨H.1, _, hx146, env_eq ⟨rfl, rfl, rfl, rfl, rfl, rfl, rfl, rfl, rfl, trivial⟩, (X117.step y (f99.dom _)), o148, ex149, f151, (ex102.but y d), (ex103.but y d110), (ex104.but y d111), (ex105.but y d112), (ex106.but y d113), (ex107.but y d114), (ex108.but y d115), (ex109.but y d116), (DomLe.dj (dm _) d ex102), (DomLe.dj (dm _) d110 ex103), (DomLe.dj (dm _) d111 ex104), (DomLe.dj (dm _) d112 ex105), (DomLe.dj (dm _) d113 ex106), (DomLe.dj (dm _) d114 ex107), (DomLe.dj (dm _) d115 ex108), (DomLe.dj (dm _) d116 ex109)⟩, H.2⟩
 have H := H.2 hc127
 refine W_exit ?_
 refine (if_pos rfl).mpr ?_
 refine W_seq (W_region ?_)
 refine LP_ev ok 0 [(14, I 1)] 1 rfl rfl ?_
 refine LP_end _ rfl ?_
 obtain ⟨k161, hk162, H⟩ := jn_elim H
 refine W_join2 (S := Int) (fun s ρ' w' => k161 s ∧ ∃ (ρ : Env), ρ' = setAll [(1, sl a5 sx c6), (4, pb b), (6, pb b27), (10, I r39), (11, .slice a92 (List.length (List.replicate (Int.toNat (ln t.Vars)) ((0 : Int)))) c93), (14, I s)] ρ ∧ wx101 = w') ?_ ?_
 ·refine W_seq (W_region ?_)
  refine LP_ev ok 0 [(50, .pointer (some ⟨b27, 3, none⟩))] 1 rfl rfl ?_
  refine LP_ldbox 1 (v := I t.Sum) rfl rfl rfl ti_3 ag_3 (fun _ => rfl) rfl ex108 rfl rfl ?_
  refine LP_ev ok 2 [(52, .bool (decide (t.Sum ≥ 0)))] 3 rfl rfl ?_
  refine LP_end _ rfl ?_
  refine W_cond (decide (t.Sum ≥ 0)) rfl (fun hc163 => ?_) (fun hc163 => ?_)
  ·have H := H.1 hc163
   refine W_region ?_
   refine LP_ev ok 0 [(53, .pointer (some ⟨b32, 2, none⟩))] 1 rfl rfl ?_
   refine LP_ldbox 1 (v := sl a24 r19.Values c25) rfl rfl rfl ti_22 ag_22 (fun _ => rfl) rfl ex109 rfl rfl ?_
   refine LP_ev ok 2 [(55, .pointer (some ⟨b27, 3, none⟩))] 3 rfl rfl ?_
   refine LP_ldbox 3 (v := I t.Sum) rfl rfl rfl ti_3 ag_3 (fun _ => rfl) rfl ex108 rfl rfl ?_
   obtain ⟨x164, hi165, hx166, H⟩ := H
   refine LP_index 4 rfl rfl rfl Tryz.underlying22 ti_3 rfl rfl r22 hi165 hx166 fun a167 cs168 r169 d170 => ?_
   refine LP_load 5 rfl rfl rfl ti_3 ag_3 rfl r169 d170 ex106 fun vx171 r172 => ?_
   obtain rfl := r172.int
   refine LP_ev ok 6 [(14, I x164)] 7 rfl rfl ?_
   exact LP_end _ rfl ⟨x164, H, _, env_eq ⟨rfl, rfl, rfl, rfl, rfl, rfl, trivial⟩, rfl⟩
  have H := H.2 hc163
  exact W_skip ⟨1, H, _, env_eq ⟨rfl, rfl, rfl, rfl, rfl, rfl, trivial⟩, rfl⟩
 rintro amount _ _ ⟨H, ρ, rfl, rfl⟩
 subst hk162
 refine W_seq (W_region ?_)
 refine LP_ldbox 0 (v := .agg #[sl a g.Parents c]) rfl rfl rfl ti_37 ag_37 (fun h => by cases h) rfl ex107 rfl rfl ?_
 refine LP_ev ok 1 [(60, sl a5 sx c6)] 2 rfl rfl ?_
 refine LP_ldbox 2 (v := .agg #[I t.Level, sl a11 t.Vars c12, sl a17 t.Where c18, I t.Sum]) rfl rfl rfl ti_41 ag_41 (fun h => by cases h) rfl ex108 rfl rfl ?_
 refine LP_ev ok 3 [(62, I r39), (63, .slice a92 (List.length (List.replicate (Int.toNat (ln t.Vars)) ((0 : Int)))) c93)] 5 rfl rfl ?_
 refine LP_call 5 rfl rfl rfl cal_153 rfl (impl_cellIndex_w _ _ _ _ _ _ H wx101 r ex102 r3 ex103 r9 ex104 r15 ex105 o97.readf ex98) ?_
 rintro _ wx174 ⟨r173, H, rfl, x175⟩
 refine LP_ev ok 6 [(65, I amount), (8, I r173), (9, I amount)] 9 rfl rfl ?_
 refine LP_end _ rfl (W_ret ?_)
 exact ⟨_, Ret_of [I r173, I amount] ⟨⟨rfl, rfl⟩, ⟨rfl, rfl⟩, trivial⟩, _, _, H, rfl, (X117.stepx x175).ext⟩

theorem impl_tableOf_w (g : Geo) (sx : List Variable) (t : Table) (l : List Record) (Q : (List Int) → Prop) (H : impl_tableOf g sx t l Q) (w : World) {vx : Value} {hx : PH} (r : RS hx vx g.Parents) (ex : Sub hx w) {vx1 : Value} {hx2 : PH} (r3 : RS hx2 vx1 sx) (ex4 : Sub hx2 w) {vx7 : Value} {hx8 : PH} (r9 : RS hx8 vx7 t.Vars) (ex10 : Sub hx8 w) {vx13 : Value} {hx14 : PH} (r15 : RS hx14 vx13 t.Where) (ex16 : Sub hx14 w) {vx19 : Value} {hx20 : PH} (r21 : RS hx20 vx19 l) (ex22 : Sub hx20 w) :
  CallsTo Tryz.prog 89 #[.agg #[vx], vx1, .agg #[I t.Level, vx7, vx13, I t.Sum], vx19] w fun v w' => ∃ r0 u0 g0, Q r0 ∧ v = u0 ∧ Ext w w' ∧ OS 3 g0 emp u0 r0 ∧ Sub g0 w' ∧ Fresh w.heap.size g0 := by
 obtain ⟨a, c, rfl⟩ := r.shape
 obtain ⟨a5, c6, rfl⟩ := r3.shape
 obtain ⟨a11, c12, rfl⟩ := r9.shape
 obtain ⟨a17, c18, rfl⟩ := r15.shape
 obtain ⟨a23, c24, rfl⟩ := r21.shape
 refine enter (args := [.agg #[sl a g.Parents c], sl a5 sx c6, .agg #[I t.Level, sl a11 t.Vars c12, sl a17 t.Where c18, I t.Sum], sl a23 l c24]) 44 Tryz.func89 rfl rfl rfl ?_
 refine W_forget [(0, .agg #[sl a g.Parents c]), (1, sl a5 sx c6), (2, .agg #[I t.Level, sl a11 t.Vars c12, sl a17 t.Where c18, I t.Sum]), (3, sl a23 l c24)] ⟨rfl, rfl, rfl, rfl, trivial⟩ fun ρ => ?_
 have X := But.refl emp w
 refine W_seq (W_region ?_)
 refine LP_box 0 (cs := [sl a g.Parents c]) rfl rfl rfl rfl rfl fun b wx x ex25 f => ?_
 refine LP_box 1 (cs := [I t.Level, sl a11 t.Vars c12, sl a17 t.Where c18, I t.Sum]) rfl rfl rfl rfl rfl fun b26 wx27 x28 ex29 f30 => ?_
 refine LP_ev ok 2 [(8, .slice none 0 0)] 3 rfl rfl ?_
 refine LP_end _ rfl (W_seq (W_region ?_))
 have ex31 := (ex25.ext x28)
 refine LP_ldbox 0 (v := .agg #[sl a g.Parents c]) rfl rfl rfl ti_37 ag_37 (fun h => by cases h) rfl ex31 rfl rfl ?_
 refine LP_ev ok 1 [(15, sl a5 sx c6)] 2 rfl rfl ?_
 refine LP_ldbox 2 (v := .agg #[I t.Level, sl a11 t.Vars c12, sl a17 t.Where c18, I t.Sum]) rfl rfl rfl ti_41 ag_41 (fun h => by cases h) rfl ex29 rfl rfl ?_
 have xc := (x.trans x28)
 have ex33 := (ex.ext xc)
 have ex34 := (ex4.ext xc)
 have ex35 := (ex10.ext xc)
 have ex36 := (ex16.ext xc)
 refine LP_call 3 rfl rfl rfl cal_117 rfl (impl_cellCount_w _ _ _ _ H wx27 r ex33 r3 ex34 r9 ex35 r15 ex36) ?_
 rintro _ wx37 ⟨r32, H, rfl, x38⟩
 obtain ⟨hn, hb, H⟩ := H
 refine LP_make (α := Int) 4 rfl rfl rfl Tryz.underlying22 ti_3 (x0 := (0 : Int)) rfl rfl hn (by first | omega | (simp only [ln] at *; omega)) (by first | omega | (simp only [ln] at *; omega)) fun hx39 vx40 wx41 x42 o ex43 f44 => ?_
 obtain ⟨a45, c46, rfl⟩ := o.shape
 refine LP_ev ok 5 [(9, .slice a45 (List.length (List.replicate (Int.toNat r32) ((0 : Int)))) c46)] 6 rfl rfl ?_
 refine LP_end _ rfl (W_seq ?_)
 refine W_seq (W_region ?_)
 refine LP_ev ok 0 [(19, sl a23 l c24), (20, I (ln l)), (21, I 0)] 3 rfl rfl ?_
 refine LP_end _ rfl ?_
 refine W_block ?_
 have xc68 := (((x.trans x28).trans x38).trans x42)
 have xc71 := (xc.trans x38)
 have f70 := f44.mono (X.stepx xc71).size
 have xc73 := (x38.trans x42)
 obtain ⟨J, m, Hx, H⟩ := H
 refine W_loop (S := (List Int) × Int) (fun s ρ' w' => J s.1 s.2 ∧ ∃ (ρ : Env) (hx48 : PH), ρ' = setAll [(1, sl a5 sx c6), (4, pb b), (6, pb b26), (9, .slice a45 (List.length (List.replicate (Int.toNat r32) ((0 : Int)))) c46), (19, sl a23 l c24), (20, I (ln l)), (21, I s.2)] ρ ∧ But emp w w' ∧ OS 3 hx48 emp (.slice a45 (List.length (List.replicate (Int.toNat r32) ((0 : Int)))) c46) s.1 ∧ Sub hx48 w' ∧ Fresh w.heap.size hx48 ∧ Sub hx w' ∧ Sub hx2 w' ∧ Sub hx8 w' ∧ Sub hx14 w' ∧ Sub hx20 w' ∧ Sub (bx b 37 [sl a g.Parents c]) w' ∧ Sub (bx b26 41 [I t.Level, sl a11 t.Vars c12, sl a17 t.Where c18, I t.Sum]) w' ∧ Dj hx48 hx ∧ Dj hx48 hx2 ∧ Dj hx48 hx8 ∧ Dj hx48 hx14 ∧ Dj hx48 hx20 ∧ Dj hx48 (bx b 37 [sl a g.Parents c]) ∧ Dj hx48 (bx b26 41 [I t.Level, sl a11 t.Vars c12, sl a17 t.Where c18, I t.Sum])) (fun s => m s.1 s.2) (List.replicate (Int.toNat r32) ((0 : Int)), 0) ⟨Hx, _, hx39, env_eq ⟨rfl, rfl, rfl, rfl, rfl, rfl, rfl, trivial⟩, (X.stepx xc68), o, ex43, f70, (ex33.ext xc73), (ex34.ext xc73), (ex35.ext xc73), (ex36.ext xc73), (ex22.ext xc68), (ex31.ext xc73), (ex29.ext xc73), (Dj.of_fresh (ex33.ext x38) f44).symm, (Dj.of_fresh (ex34.ext x38) f44).symm, (Dj.of_fresh (ex35.ext x38) f44).symm, (Dj.of_fresh (ex36.ext x38) f44).symm, (Dj.of_fresh (ex22.ext xc71) f44).symm, (Dj.of_fresh (ex31.ext x38) f44).symm, (Dj.of_fresh (ex29.ext x38) f44).symm⟩ ?_
 rintro ⟨cells, x52⟩ _ wx53 ⟨Hi, ρ, hx48, rfl, HF⟩
 revert HF
 refine bb9 fun X67 o49 ex50 f51 ex54 ex55 ex56 ex57 => ?_
 refine bb9 fun ex58 ex59 ex60 d d61 d62 d63 d64 => ?_
 refine bb2 fun d65 d66 => ?_
 have H := H cells x52 Hi
 refine W_seq (W_region ?_)
 refine LP_ev ok 0 [(22, .bool (decide (x52 < (ln l))))] 1 rfl rfl ?_
 refine LP_end _ rfl (W_seq ?_)
 refine W_cond (decide (x52 < (ln l))) rfl (fun hc => ?_) (fun hc => ?_)
 ·have H := H.1 hc
  refine W_skip ?_
  obtain ⟨k, hk, H⟩ := jn_elim H
  refine W_join2 (S := (List Int)) (fun s ρ' w' => k s ∧ ∃ (ρ : Env) (hx90 : PH), ρ' = setAll [(1, sl a5 sx c6), (4, pb b), (6, pb b26), (9, .slice a45 (List.length (List.replicate (Int.toNat r32) ((0 : Int)))) c46), (19, sl a23 l c24), (20, I (ln l)), (21, I x52)] ρ ∧ But emp w w' ∧ OS 3 hx90 emp (.slice a45 (List.length (List.replicate (Int.toNat r32) ((0 : Int)))) c46) s ∧ Sub hx90 w' ∧ Fresh w.heap.size hx90 ∧ Sub hx w' ∧ Sub hx2 w' ∧ Sub hx8 w' ∧ Sub hx14 w' ∧ Sub hx20 w' ∧ Sub (bx b 37 [sl a g.Parents c]) w' ∧ Sub (bx b26 41 [I t.Level, sl a11 t.Vars c12, sl a17 t.Where c18, I t.Sum]) w' ∧ Dj hx90 hx ∧ Dj hx90 hx2 ∧ Dj hx90 hx8 ∧ Dj hx90 hx14 ∧ Dj hx90 hx20 ∧ Dj hx90 (bx b 37 [sl a g.Parents c]) ∧ Dj hx90 (bx b26 41 [I t.Level, sl a11 t.Vars c12, sl a17 t.Where c18, I t.Sum])) ?_ ?_
  ·refine W_block ?_
   refine W_seq (W_region ?_)
   obtain ⟨x110, hi, hx111, H⟩ := H
   refine LP_index 0 rfl rfl rfl Tryz.underlying84 ti_118 rfl rfl r21 hi hx111 fun a112 cs r113 d114 => ?_
   have d115 := d114
   obtain ⟨u, rfl, r116⟩ := Record_rd d115
   obtain ⟨a117, c118, rfl⟩ := r116.shape
   refine LP_load 1 rfl rfl rfl ti_118 ag_118 rfl r113 d114 ex58 fun vx119 r120 => ?_
   obtain ⟨u121, rfl, r122⟩ := Record_rv r120
   obtain ⟨a123, c124, rfl⟩ := r122.shape
   refine LP_alloc 2 rfl rfl rfl ti_118 rfl fun b125 wx126 x127 ex128 f129 => ?_
   refine LP_stbox 3 (vs := [I x110.Area, I x110.House, sl a123 x110.Values c124]) (cs' := [I x110.Area, I x110.House, sl a123 x110.Values c124]) rfl rfl rfl ti_118 rfl rfl rfl rfl rfl ex128 rfl rfl fun wx130 ex131 y => ?_
   refine LP_end _ rfl (W_seq (W_region ?_))
   have ex132 := ((ex59.ext x127).but y (Dj.of_fresh ex59 f129).symm)
   refine LP_ldbox 0 (v := .agg #[sl a g.Parents c]) rfl rfl rfl ti_37 ag_37 (fun h => by cases h) rfl ex132 rfl rfl ?_
   refine LP_ev ok 1 [(27, sl a5 sx c6)] 2 rfl rfl ?_
   have ex133 := ((ex60.ext x127).but y (Dj.of_fresh ex60 f129).symm)
   refine LP_ldbox 2 (v := .agg #[I t.Level, sl a11 t.Vars c12, sl a17 t.Where c18, I t.Sum]) rfl rfl rfl ti_41 ag_41 (fun h => by cases h) rfl ex133 rfl rfl ?_
   refine LP_ldbox 3 (v := .agg #[I x110.Area, I x110.House, sl a123 x110.Values c124]) rfl rfl rfl ti_118 ag_118 (fun h => by cases h) rfl ex131 rfl rfl ?_
   have ex136 := ((ex54.ext x127).but y (Dj.of_fresh ex54 f129).symm)
   have ex137 := ((ex55.ext x127).but y (Dj.of_fresh ex55 f129).symm)
   have ex138 := ((ex56.ext x127).but y (Dj.of_fresh ex56 f129).symm)
   have ex139 := ((ex57.ext x127).but y (Dj.of_fresh ex57 f129).symm)
   have ex140 := ((ex58.ext x127).but y (Dj.of_fresh ex58 f129).symm)
   refine LP_call 4 rfl rfl rfl cal_118 rfl (impl_contribution_w _ _ _ _ _ H wx130 r ex136 r3 ex137 r9 ex138 r15 ex139 r122 ex140) ?_
   rintro _ wx141 ⟨r134, r135, H, rfl, x142⟩
   refine LP_ev ok 5 [(25, .tuple #[I r134, I r135]), (31, I r134), (32, I r135), (12, I r134), (13, I r135)] 10 rfl rfl ?_
   refine LP_end _ rfl (W_seq (W_region ?_))
   refine LP_ev ok 0 [(33, I r134), (34, .bool (decide (r134 ≥ 0)))] 2 rfl rfl ?_
   refine LP_end _ rfl ?_
   refine W_cond (decide (r134 ≥ 0)) rfl (fun hc143 => ?_) (fun hc143 => ?_)
   ·have H := H.1 hc143
    refine W_region ?_
    refine LP_ev ok 0 [(35, .slice a45 (List.length (List.replicate (Int.toNat r32) ((0 : Int)))) c46), (36, I r134)] 2 rfl rfl ?_
    obtain ⟨x144, hi145, hx146, H⟩ := H
    refine LP_index 2 rfl rfl rfl Tryz.underlying22 ti_3 rfl rfl o49.readf hi145 hx146 fun a147 cs148 r149 d150 => ?_
    have ex151 := (((ex50.ext x127).but y (Dj.of_fresh ex50 f129).symm).ext x142)
    refine LP_load 3 rfl rfl rfl ti_3 ag_3 rfl r149 d150 ex151 fun vx152 r153 => ?_
    obtain rfl := r153.int
    refine LP_ev ok 4 [(39, I r135), (40, I (wr (x144 + r135)))] 6 rfl rfl ?_
    obtain ⟨hi154, hl, H⟩ := H
    refine LP_indexw (v := .slice a45 (List.length (List.replicate (Int.toNat r32) ((0 : Int)))) c46) 6 rfl rfl rfl Tryz.underlying22 ti_3 rfl rfl o49 hi154 hl fun a155 wa => ?_
    refine LP_set 7 rfl rfl rfl rfl rfl wa (Le.refl emp) ⟨_, rfl, rfl⟩ ex151 fun hx156 wx157 o158 ex159 y160 dm => ?_
    refine LP_end _ rfl ?_
    try refine W_forget [(1, sl a5 sx c6), (4, pb b), (6, pb b26), (9, .slice a45 (List.length (List.replicate (Int.toNat r32) ((0 : Int)))) c46), (19, sl a23 l c24), (20, I (ln l)), (21, I x52)] ⟨rfl, rfl, rfl, rfl, rfl, rfl, rfl, trivial⟩ fun ρ => ?_
    have f161 := f129.mono X67.size
    have f163 := (dm _).fresh f51 (((X67.stepx x127).step y (f161.dom _)).stepx x142).size
    exact ⟨List.set cells (Int.toNat r134) (wr (x144 + r135)), H, _, hx156, env_eq ⟨rfl, rfl, rfl, rfl, rfl, rfl, rfl, trivial⟩, ((((X67.stepx x127).step y (f161.dom _)).stepx x142).step y160 (f51.dom _)), o158, ex159, f163, ((ex136.ext x142).but y160 d), ((ex137.ext x142).but y160 d61), ((ex138.ext x142).but y160 d62), ((ex139.ext x142).but y160 d63), ((ex140.ext x142).but y160 d64), ((ex132.ext x142).but y160 d65), ((ex133.ext x142).but y160 d66), (DomLe.dj (dm _) d (ex136.ext x142)), (DomLe.dj (dm _) d61 (ex137.ext x142)), (DomLe.dj (dm _) d62 (ex138.ext x142)), (DomLe.dj (dm _) d63 (ex139.ext x142)), (DomLe.dj (dm _) d64 (ex140.ext x142)), (DomLe.dj (dm _) d65 (ex132.ext x142)), (DomLe.dj (dm _) d66 (ex133.ext x142))⟩
   have H := H.2 hc143
   refine W_skip ?_
   have f179 := f129.mono X67.size
   exact ⟨cells, H, _, hx48, env_eq ⟨rfl, rfl, rfl, rfl, rfl, rfl, rfl, trivial⟩, (((X67.stepx x127).step y (f179.dom _)).stepx x142), o49, (((ex50.ext x127).but y (Dj.of_fresh ex50 f129).symm).ext x142), f51, (ex136.ext x142), (ex137.ext x142), (ex138.ext x142), (ex139.ext x142), (ex140.ext x142), (ex132.ext x142), (ex133.ext x142), d, d61, d62, d63, d64, d65, d66⟩
  rintro cells88 _ wx94 ⟨H, ρ, hx90, rfl, HF⟩
  revert HF
  refine bb9 fun X109 o91 ex92 f93 ex95 ex96 ex97 ex98 => ?_
  refine bb9 fun ex99 ex100 ex101 d102 d103 d104 d105 d106 => ?_
  refine bb2 fun d107 d108 => ?_
  subst hk
  refine W_region ?_
  refine LP_ev ok 0 [(42, I (wr (x52 + 1))), (21, I (wr (x52 + 1)))] 2 rfl rfl ?_
  exact LP_end _ rfl ⟨(cells88, wr (x52 + 1)), ⟨H.1, _, hx90, env_eq ⟨rfl, rfl, rfl, rfl, rfl, rfl, rfl, trivial⟩, X109, o91, ex92, f93, ex95, ex96, ex97, ex98, ex99, ex100, ex101, d102, d103, d104, d105, d106, d107, d108⟩, H.2⟩
 have H := H.2 hc
 refine W_exit ?_
 refine (if_pos rfl).mpr ?_
 refine W_seq (W_region ?_)
 refine LP_ev ok 0 [(43, .slice a45 (List.length (List.replicate (Int.toNat r32) ((0 : Int)))) c46), (8, .slice a45 (List.length (List.replicate (Int.toNat r32) ((0 : Int)))) c46)] 2 rfl rfl ?_
 refine LP_end _ rfl (W_ret ?_)
 exact ⟨_, Ret_of [.slice a45 (List.length (List.replicate (Int.toNat r32) ((0 : Int)))) c46] ⟨⟨rfl, rfl⟩, trivial⟩, _, _, _, H, rfl, X67.ext, o49, ex50, f51⟩

theorem impl_siteCells_w (g : Geo) (sx : List Variable) (t : Table) (sites : List (List Record)) (Q : (List (List Int)) → Bool → Prop) (H : impl_siteCells g sx t sites Q) (w : World) {vx : Value} {hx : PH} (r : RS hx vx g.Parents) (ex : Sub hx w) {vx1 : Value} {hx2 : PH} (r3 : RS hx2 vx1 sx) (ex4 : Sub hx2 w) {vx7 : Value} {hx8 : PH} (r9 : RS hx8 vx7 t.Vars) (ex10 : Sub hx8 w) {vx13 : Value} {hx14 : PH} (r15 : RS hx14 vx13 t.Where) (ex16 : Sub hx14 w) {vx19 : Value} {hx20 : PH} (r21 : RS hx20 vx19 sites) (ex22 : Sub hx20 w) :
  CallsTo Tryz.prog 54 #[.agg #[vx], vx1, .agg #[I t.Level, vx7, vx13, I t.Sum], vx19] w fun v w' => ∃ r0 r1 u0 g0, Q r0 r1 ∧ v = .tuple #[u0, .bool r1] ∧ Ext w w' ∧ OD g0 u0 r0 ∧ Sub g0 w' ∧ Fresh w.heap.size g0 := by
 obtain ⟨a, c, rfl⟩ := r.shape
 obtain ⟨a5, c6, rfl⟩ := r3.shape
 obtain ⟨a11, c12, rfl⟩ := r9.shape
 obtain ⟨a17, c18, rfl⟩ := r15.shape
 obtain ⟨a23, c24, rfl⟩ := r21.shape
 refine enter (args := [.agg #[sl a g.Parents c], sl a5 sx c6, .agg #[I t.Level, sl a11 t.Vars c12, sl a17 t.Where c18, I t.Sum], sl a23 sites c24]) 53 Tryz.func54 rfl rfl rfl ?_
 refine W_forget [(0, .agg #[sl a g.Parents c]), (1, sl a5 sx c6), (2, .agg #[I t.Level, sl a11 t.Vars c12, sl a17 t.Where c18, I t.Sum]), (3, sl a23 sites c24)] ⟨rfl, rfl, rfl, rfl, trivial⟩ fun ρ => ?_
 have X := But.refl emp w
 refine W_seq (W_region ?_)
 refine LP_box 0 (cs := [sl a g.Parents c]) rfl rfl rfl rfl rfl fun b wx x ex25 f => ?_
 refine LP_box 1 (cs := [I t.Level, sl a11 t.Vars c12, sl a17 t.Where c18, I t.Sum]) rfl rfl rfl rfl rfl fun b26 wx27 x28 ex29 f30 => ?_
 refine LP_ev ok 2 [(8, .slice none 0 0), (9, .bool false)] 4 rfl rfl ?_
 refine LP_end _ rfl (W_seq ?_)
 obtain ⟨k, hk, H⟩ := jn_elim H
 refine W_join2 (S := Bool) (fun s ρ' w' => k s ∧ ∃ (ρ : Env), ρ' = setAll [(1, sl a5 sx c6), (3, sl a23 sites c24), (4, pb b), (6, pb b26), (27, .bool s)] ρ ∧ But emp w w' ∧ Sub hx w' ∧ Sub hx2 w' ∧ Sub hx8 w' ∧ Sub hx14 w' ∧ Sub hx20 w' ∧ Sub (bx b 37 [sl a g.Parents c]) w' ∧ Sub (bx b26 41 [I t.Level, sl a11 t.Vars c12, sl a17 t.Where c18, I t.Sum]) w') ?_ ?_
 ·refine W_region ?_
  have ex41 := (ex25.ext x28)
  refine LP_ldbox 0 (v := .agg #[sl a g.Parents c]) rfl rfl rfl ti_37 ag_37 (fun h => by cases h) rfl ex41 rfl rfl ?_
  refine LP_ev ok 1 [(14, sl a5 sx c6)] 2 rfl rfl ?_
  refine LP_ldbox 2 (v := .agg #[I t.Level, sl a11 t.Vars c12, sl a17 t.Where c18, I t.Sum]) rfl rfl rfl ti_41 ag_41 (fun h => by cases h) rfl ex29 rfl rfl ?_
  have xc := (x.trans x28)
  have ex43 := (ex.ext xc)
  have ex44 := (ex4.ext xc)
  have ex45 := (ex10.ext xc)
  have ex46 := (ex16.ext xc)
  refine LP_call 3 rfl rfl rfl cal_87 rfl (impl_areTabled_w _ _ _ _ H wx27 r ex43 r3 ex44 r9 ex45 r15 ex46) ?_
  rintro _ wx47 ⟨r42, H, rfl, x48⟩
  refine LP_ev ok 4 [(17, .bool (!r42)), (18, .bool (!r42))] 6 rfl rfl ?_
  refine LP_split 18 (!r42) rfl (fun hc => ?_) (fun hc => ?_)
  ·have H := H.1 hc
   refine LP_ev ok 6 [(19, undef), (20, undef), (21, undef), (22, .bool true), (23, .bool true), (24, undef), (25, undef), (26, undef), (27, .bool true)] 15 rfl rfl ?_
   refine LP_end _ rfl ?_
   have xc49 := (xc.trans x48)
   exact ⟨true, H, _, env_eq ⟨rfl, rfl, rfl, rfl, rfl, trivial⟩, (X.stepx xc49), (ex43.ext x48), (ex44.ext x48), (ex45.ext x48), (ex46.ext x48), (ex22.ext xc49), (ex41.ext x48), (ex29.ext x48)⟩
  have H := H.2 hc
  refine LP_ev ok 6 [(19, sl a23 sites c24), (20, I (ln sites)), (21, .bool (decide ((ln sites) < 2))), (22, .bool (decide ((ln sites) < 2))), (23, .bool (decide ((ln sites) < 2)))] 11 rfl rfl ?_
  refine LP_split 23 (decide ((ln sites) < 2)) rfl (fun hc58 => ?_) (fun hc58 => ?_)
  ·have H := H.1 hc58
   refine LP_ev ok 11 [(24, undef), (25, undef), (26, undef), (27, .bool true)] 15 rfl rfl ?_
   refine LP_end _ rfl ?_
   have xc59 := (xc.trans x48)
   exact ⟨true, H, _, env_eq ⟨rfl, rfl, rfl, rfl, rfl, trivial⟩, (X.stepx xc59), (ex43.ext x48), (ex44.ext x48), (ex45.ext x48), (ex46.ext x48), (ex22.ext xc59), (ex41.ext x48), (ex29.ext x48)⟩
  have H := H.2 hc58
  refine LP_ev ok 11 [(24, sl a23 sites c24), (25, I (ln sites)), (26, .bool (decide ((ln sites) > 8))), (27, .bool (decide ((ln sites) > 8)))] 15 rfl rfl ?_
  refine LP_end _ rfl ?_
  have xc68 := (xc.trans x48)
  exact ⟨decide ((ln sites) > 8), H, _, env_eq ⟨rfl, rfl, rfl, rfl, rfl, trivial⟩, (X.stepx xc68), (ex43.ext x48), (ex44.ext x48), (ex45.ext x48), (ex46.ext x48), (ex22.ext xc68), (ex41.ext x48), (ex29.ext x48)⟩
 rintro x31 _ wx32 ⟨H, ρ, rfl, HF⟩
 revert HF
 refine bb8 fun X40 ex33 ex34 ex35 ex36 ex37 ex38 ex39 => ?_
 subst hk
 refine W_cond (x31) rfl (fun hc77 => ?_) (fun hc77 => ?_)
 ·have H := H.1 hc77
  refine W_seq (W_region ?_)
  refine LP_ev ok 0 [(8, .slice none 0 0), (9, .bool false)] 2 rfl rfl ?_
  refine LP_end _ rfl (W_ret ?_)
  exact ⟨_, Ret_of [.slice none 0 0, .bool false] ⟨⟨rfl, rfl⟩, ⟨rfl, rfl⟩, trivial⟩, _, _, _, emp, H, rfl, X40.ext, OD.nil, (emp_sub _), (emp_fresh _)⟩
 have H := H.2 hc77
 refine W_skip ?_
 refine W_seq (W_region ?_)
 refine LP_ev ok 0 [(28, sl a23 sites c24), (29, I (ln sites))] 2 rfl rfl ?_
 obtain ⟨hn, hb, H⟩ := H
 refine LP_maked (β := Int) 2 rfl rfl rfl Tryz.underlying29 ti_22 rfl hn (by first | omega | (simp only [ln] at *; omega)) (by first | omega | (simp only [ln] at *; omega)) fun hx78 vx79 wx80 x81 o ex82 f83 => ?_
 obtain ⟨a84, c85, rfl⟩ := o.shape
 refine LP_ev ok 3 [(10, .slice a84 (List.length (List.replicate (Int.toNat (ln sites)) (([] : List Int)))) c85)] 4 rfl rfl ?_
 refine LP_end _ rfl (W_seq ?_)
 refine W_seq (W_region ?_)
 refine LP_ev ok 0 [(31, sl a23 sites c24), (32, I (ln sites)), (33, I 0)] 3 rfl rfl ?_
 refine LP_end _ rfl ?_
 refine W_block ?_
 have f108 := f83.mono X40.size
 obtain ⟨J, m, Hx, H⟩ := H
 refine W_loop (S := (List (List Int)) × Int) (fun s ρ' w' => J s.1 s.2 ∧ ∃ (ρ : Env) (hx87 : PH), ρ' = setAll [(1, sl a5 sx c6), (4, pb b), (6, pb b26), (10, .slice a84 (List.length (List.replicate (Int.toNat (ln sites)) (([] : List Int)))) c85), (31, sl a23 sites c24), (32, I (ln sites)), (33, I s.2)] ρ ∧ But emp w w' ∧ OD hx87 (.slice a84 (List.length (List.replicate (Int.toNat (ln sites)) (([] : List Int)))) c85) s.1 ∧ Sub hx87 w' ∧ Fresh w.heap.size hx87 ∧ Sub hx w' ∧ Sub hx2 w' ∧ Sub hx8 w' ∧ Sub hx14 w' ∧ Sub hx20 w' ∧ Sub (bx b 37 [sl a g.Parents c]) w' ∧ Sub (bx b26 41 [I t.Level, sl a11 t.Vars c12, sl a17 t.Where c18, I t.Sum]) w' ∧ Dj hx87 hx ∧ Dj hx87 hx2 ∧ Dj hx87 hx8 ∧ Dj hx87 hx14 ∧ Dj hx87 hx20 ∧ Dj hx87 (bx b 37 [sl a g.Parents c]) ∧ Dj hx87 (bx b26 41 [I t.Level, sl a11 t.Vars c12, sl a17 t.Where c18, I t.Sum])) (fun s => m s.1 s.2) (List.replicate (Int.toNat (ln sites)) (([] : List Int)), 0) ⟨Hx, _, hx78, env_eq ⟨rfl, rfl, rfl, rfl, rfl, rfl, rfl, trivial⟩, (X40.stepx x81), o, ex82, f108, (ex33.ext x81), (ex34.ext x81), (ex35.ext x81), (ex36.ext x81), (ex37.ext x81), (ex38.ext x81), (ex39.ext x81), (Dj.of_fresh ex33 f83).symm, (Dj.of_fresh ex34 f83).symm, (Dj.of_fresh ex35 f83).symm, (Dj.of_fresh ex36 f83).symm, (Dj.of_fresh ex37 f83).symm, (Dj.of_fresh ex38 f83).symm, (Dj.of_fresh ex39 f83).symm⟩ ?_
 rintro ⟨out, x91⟩ _ wx92 ⟨Hi, ρ, hx87, rfl, HF⟩
 revert HF
 refine bb9 fun X106 o88 ex89 f90 ex93 ex94 ex95 ex96 => ?_
 refine bb9 fun ex97 ex98 ex99 d d100 d101 d102 d103 => ?_
 refine bb2 fun d104 d105 => ?_
 have H := H out x91 Hi
 refine W_seq (W_region ?_)
 refine LP_ev ok 0 [(34, .bool (decide (x91 < (ln sites))))] 1 rfl rfl ?_
 refine LP_end _ rfl (W_seq ?_)
 refine W_cond (decide (x91 < (ln sites))) rfl (fun hc116 => ?_) (fun hc116 => ?_)
 ·have H := H.1 hc116
  refine W_skip ?_
  refine W_seq ?_
  refine W_block ?_
  refine W_seq (W_region ?_)
  refine LP_ev ok 0 [(35, I x91)] 1 rfl rfl ?_
  obtain ⟨x117, hi, hx118, H⟩ := H
  refine LP_index 1 rfl rfl rfl Tryz.underlying43 ti_84 rfl rfl r21 hi hx118 fun a119 cs r120 d121 => ?_
  refine LP_load 2 rfl rfl rfl ti_84 ag_84 rfl r120 d121 ex97 fun vx122 r123 => ?_
  have r126 := r123.slice
  obtain ⟨a124, c125, rfl⟩ := r126.shape
  refine LP_ev ok 3 [(11, I x91), (12, sl a124 x117 c125)] 5 rfl rfl ?_
  refine LP_end _ rfl (W_seq ?_)
  refine W_seq (W_region ?_)
  refine LP_ldbox 0 (v := .agg #[sl a g.Parents c]) rfl rfl rfl ti_37 ag_37 (fun h => by cases h) rfl ex98 rfl rfl ?_
  refine LP_ev ok 1 [(39, sl a5 sx c6), (40, sl a124 x117 c125)] 3 rfl rfl ?_
  refine LP_call 3 rfl rfl rfl cal_88 rfl (impl_isSurvey_w _ _ _ _ H wx92 r ex93 r3 ex94 r126 ex97) ?_
  rintro _ wx128 ⟨r127, H, rfl, x129⟩
  refine LP_ev ok 4 [(42, .bool (!r127))] 5 rfl rfl ?_
  refine LP_end _ rfl ?_
  refine W_cond (!r127) rfl (fun hc130 => ?_) (fun hc130 => ?_)
  ·have H := H.1 hc130
   refine W_seq (W_region ?_)
   refine LP_ev ok 0 [(8, .slice none 0 0), (9, .bool false)] 2 rfl rfl ?_
   refine LP_end _ rfl (W_ret ?_)
   exact ⟨_, Ret_of [.slice none 0 0, .bool false] ⟨⟨rfl, rfl⟩, ⟨rfl, rfl⟩, trivial⟩, _, _, _, emp, H, rfl, (X106.stepx x129).ext, OD.nil, (emp_sub _), (emp_fresh _)⟩
  have H := H.2 hc130
  refine W_skip ?_
  refine W_region ?_
  refine LP_ev ok 0 [(43, .slice a84 (List.length (List.replicate (Int.toNat (ln sites)) (([] : List Int)))) c85), (44, I x91)] 2 rfl rfl ?_
  have ex132 := (ex98.ext x129)
  refine LP_ldbox 2 (v := .agg #[sl a g.Parents c]) rfl rfl rfl ti_37 ag_37 (fun h => by cases h) rfl ex132 rfl rfl ?_
  refine LP_ev ok 3 [(46, sl a5 sx c6)] 4 rfl rfl ?_
  have ex133 := (ex99.ext x129)
  refine LP_ldbox 4 (v := .agg #[I t.Level, sl a11 t.Vars c12, sl a17 t.Where c18, I t.Sum]) rfl rfl rfl ti_41 ag_41 (fun h => by cases h) rfl ex133 rfl rfl ?_
  refine LP_ev ok 5 [(48, sl a124 x117 c125)] 6 rfl rfl ?_
  have ex135 := (ex93.ext x129)
  have ex136 := (ex94.ext x129)
  have ex137 := (ex95.ext x129)
  have ex138 := (ex96.ext x129)
  have ex139 := (ex97.ext x129)
  refine LP_call 6 rfl rfl rfl cal_89 rfl (impl_tableOf_w _ _ _ _ _ H wx128 r ex135 r3 ex136 r9 ex137 r15 ex138 r126 ex139) ?_
  rintro _ wx140 ⟨r134, vx142, hx143, H, rfl, x141, o144, ex145, f146⟩
  obtain ⟨a147, c148, rfl⟩ := o144.shape
  obtain ⟨hi149, hl, H⟩ := H
  refine LP_indexd (v := .slice a84 (List.length (List.replicate (Int.toNat (ln sites)) (([] : List Int)))) c85) 7 rfl rfl rfl Tryz.underlying29 ti_22 rfl rfl o88 hi149 hl fun a150 wa => ?_
  have xc156 := (x129.trans x141)
  refine LP_setD (y := r134) 8 rfl rfl rfl rfl rfl wa (OD.rvo (OS.od o144)) (ex89.ext xc156) ex145 (Dj.of_fresh (ex89.ext x129) f146) fun hx151 hw wx152 o153 ex154 y dh dq ex155 => ?_
  refine LP_end _ rfl ?_
  refine W_region ?_
  refine LP_ev ok 0 [(51, I (wr (x91 + 1))), (33, I (wr (x91 + 1)))] 2 rfl rfl ?_
  refine LP_end _ rfl ?_
  have f160 := f146.mono (X106.stepx x129).size
  have f162 := Fresh.domOf (Fresh.un f90 f160) dq
  exact ⟨(List.set out (Int.toNat x91) r134, wr (x91 + 1)), ⟨H.1, _, hx151, env_eq ⟨rfl, rfl, rfl, rfl, rfl, rfl, rfl, trivial⟩, ((X106.stepx xc156).step (But.dom y dh) (f90.dom _)), o153, ex154, f162, ((ex135.ext x141).but (But.dom y dh) d), ((ex136.ext x141).but (But.dom y dh) d100), ((ex137.ext x141).but (But.dom y dh) d101), ((ex138.ext x141).but (But.dom y dh) d102), ((ex139.ext x141).but (But.dom y dh) d103), ((ex132.ext x141).but (But.dom y dh) d104), ((ex133.ext x141).but (But.dom y dh) d105), (Dom.dj dq (Dj.un_l d (Dj.of_fresh ex135 f146).symm)), (Dom.dj dq (Dj.un_l d100 (Dj.of_fresh ex136 f146).symm)), (Dom.dj dq (Dj.un_l d101 (Dj.of_fresh ex137 f146).symm)), (Dom.dj dq (Dj.un_l d102 (Dj.of_fresh ex138 f146).symm)), (Dom.dj dq (Dj.un_l d103 (Dj.of_fresh ex139 f146).symm)), (Dom.dj dq (Dj.un_l d104 (Dj.of_fresh ex132 f146).symm)), (Dom.dj dq (Dj.un_l d105 (Dj.of_fresh ex133 f146).symm))⟩, H.2⟩
 have H := H.2 hc116
 refine W_exit ?_
 refine (if_pos rfl).mpr ?_
 refine W_seq (W_region ?_)
 refine LP_ev ok 0 [(52, .slice a84 (List.length (List.replicate (Int.toNat (ln sites)) (([] : List Int)))) c85), (8, .slice a84 (List.length (List.replicate (Int.toNat (ln sites)) (([] : List Int)))) c85), (9, .bool true)] 3 rfl rfl ?_
 refine LP_end _ rfl (W_ret ?_)
 exact ⟨_, Ret_of [.slice a84 (List.length (List.replicate (Int.toNat (ln sites)) (([] : List Int)))) c85, .bool true] ⟨⟨rfl, rfl⟩, ⟨rfl, rfl⟩, trivial⟩, _, _, _, _, H, rfl, X106.ext, o88, ex89, f90⟩

theorem impl_isSeed_w (n : Int) (Q : Bool → Prop) (H : impl_isSeed n Q) (w : World)  :
  CallsTo Tryz.prog 119 #[I n] w fun v w' => ∃ r0, Q r0 ∧ v = .bool r0 ∧ Ext w w' := by
 refine enter (args := [I n]) 9 Tryz.func119 rfl rfl rfl ?_
 refine W_forget [(0, I n)] ⟨rfl, trivial⟩ fun ρ => ?_
 have X := But.refl emp w
 refine W_seq (W_region ?_)
 refine LP_ev ok 0 [(2, .bool false)] 1 rfl rfl ?_
 refine LP_end _ rfl ?_
 obtain ⟨k, hk, H⟩ := jn_elim H
 refine W_join2 (S := Bool) (fun s ρ' w' => k s ∧ ∃ (ρ : Env), ρ' = setAll [(2, .bool s)] ρ ∧ w = w') ?_ ?_
 ·refine W_region ?_
  refine LP_ev ok 0 [(3, I n), (4, .bool (decide (n ≥ 0))), (5, .bool (decide (n ≥ 0)))] 3 rfl rfl ?_
  refine LP_split 5 (decide (n ≥ 0)) rfl (fun hc => ?_) (fun hc => ?_)
  ·have H := H.1 hc
   refine LP_ev ok 3 [(6, I n), (7, .bool (decide (n ≤ 4611686016279904236))), (8, .bool (decide (n ≤ 4611686016279904236))), (2, .bool (decide (n ≤ 4611686016279904236)))] 7 rfl rfl ?_
   exact LP_end _ rfl ⟨decide (n ≤ 4611686016279904236), H, _, env_eq ⟨rfl, trivial⟩, rfl⟩
  have H := H.2 hc
  refine LP_ev ok 3 [(6, undef), (7, undef), (8, .bool false), (2, .bool false)] 7 rfl rfl ?_
  exact LP_end _ rfl ⟨false, H, _, env_eq ⟨rfl, trivial⟩, rfl⟩
 rintro x _ _ ⟨H, ρ, rfl, rfl⟩
 subst hk
 refine W_ret ?_
 exact ⟨_, Ret_of [.bool x] ⟨⟨rfl, rfl⟩, trivial⟩, _, H, rfl, X.ext⟩

theorem impl_areSeeds_w (l : List Int) (Q : Bool → Prop) (H : impl_areSeeds l Q) (w : World) {vx : Value} {hx : PH} (r : RS hx vx l) (ex : Sub hx w) :
  CallsTo Tryz.prog 90 #[vx] w fun v w' => ∃ r0, Q r0 ∧ v = .bool r0 ∧ Ext w w' := by
 obtain ⟨a, c, rfl⟩ := r.shape
 refine enter (args := [sl a l c]) 18 Tryz.func90 rfl rfl rfl ?_
 refine W_forget [(0, sl a l c)] ⟨rfl, trivial⟩ fun ρ => ?_
 have X := But.refl emp w
 refine W_seq (W_region ?_)
 refine LP_ev ok 0 [(2, .bool false)] 1 rfl rfl ?_
 refine LP_end _ rfl (W_seq ?_)
 refine W_seq (W_region ?_)
 refine LP_ev ok 0 [(5, sl a l c), (6, I (ln l)), (7, .bool (decide ((ln l) > 392)))] 3 rfl rfl ?_
 refine LP_end _ rfl ?_
 refine W_cond (decide ((ln l) > 392)) rfl (fun hc => ?_) (fun hc => ?_)
 ·have H := H.1 hc
  refine W_seq (W_region ?_)
  refine LP_ev ok 0 [(2, .bool false)] 1 rfl rfl ?_
  refine LP_end _ rfl (W_ret ?_)
  exact ⟨_, Ret_of [.bool false] ⟨⟨rfl, rfl⟩, trivial⟩, _, H, rfl, X.ext⟩
 have H := H.2 hc
 refine W_skip ?_
 refine W_seq ?_
 refine W_seq (W_region ?_)
 refine LP_ev ok 0 [(8, sl a l c), (9, I (ln l)), (10, I 0)] 3 rfl rfl ?_
 refine LP_end _ rfl ?_
 refine W_block ?_
 obtain ⟨J, m, Hx, H⟩ := H
 refine W_loop (S := Int) (fun s ρ' w' => J s ∧ ∃ (ρ : Env), ρ' = setAll [(8, sl a l c), (9, I (ln l)), (10, I s)] ρ ∧ But emp w w' ∧ Sub hx w') (fun s => m s) 0 ⟨Hx, _, env_eq ⟨rfl, rfl, rfl, trivial⟩, X, ex⟩ ?_
 rintro x _ wx ⟨Hi, ρ, rfl, X2, ex1⟩
 have H := H x Hi
 refine W_seq (W_region ?_)
 refine LP_ev ok 0 [(11, .bool (decide (x < (ln l))))] 1 rfl rfl ?_
 refine LP_end _ rfl (W_seq ?_)
 refine W_cond (decide (x < (ln l))) rfl (fun hc3 => ?_) (fun hc3 => ?_)
 ·have H := H.1 hc3
  refine W_skip ?_
  refine W_seq ?_
  refine W_block ?_
  refine W_seq (W_region ?_)
  obtain ⟨x4, hi, hx5, H⟩ := H
  refine LP_index 0 rfl rfl rfl Tryz.underlying22 ti_3 rfl rfl r hi hx5 fun a6 cs r7 d => ?_
  refine LP_load 1 rfl rfl rfl ti_3 ag_3 rfl r7 d ex1 fun vx8 r9 => ?_
  obtain rfl := r9.int
  refine LP_ev ok 2 [(4, I x4)] 3 rfl rfl ?_
  refine LP_end _ rfl (W_seq (W_region ?_))
  refine LP_ev ok 0 [(14, I x4)] 1 rfl rfl ?_
  refine LP_call 1 rfl rfl rfl cal_119 rfl (impl_isSeed_w _ _ H wx ) ?_
  rintro _ wx11 ⟨r10, H, rfl, x12⟩
  refine LP_ev ok 2 [(16, .bool (!r10))] 3 rfl rfl ?_
  refine LP_end _ rfl ?_
  refine W_cond (!r10) rfl (fun hc13 => ?_) (fun hc13 => ?_)
  ·have H := H.1 hc13
   refine W_seq (W_region ?_)
   refine LP_ev ok 0 [(2, .bool false)] 1 rfl rfl ?_
   refine LP_end _ rfl (W_ret ?_)
   exact ⟨_, Ret_of [.bool false] ⟨⟨rfl, rfl⟩, trivial⟩, _, H, rfl, (X2.stepx x12).ext⟩
  have H := H.2 hc13
  refine W_skip ?_
  refine W_region ?_
  refine LP_ev ok 0 [(17, I (wr (x + 1))), (10, I (wr (x + 1)))] 2 rfl rfl ?_
  exact LP_end _ rfl ⟨wr (x + 1), ⟨H.1, _, env_eq ⟨rfl, rfl, rfl, trivial⟩, (X2.stepx x12), (ex1.ext x12)⟩, H.2⟩
 have H := H.2 hc3
 refine W_exit ?_
 refine (if_pos rfl).mpr ?_
 refine W_seq (W_region ?_)
 refine LP_ev ok 0 [(2, .bool true)] 1 rfl rfl ?_
 refine LP_end _ rfl (W_ret ?_)
 exact ⟨_, Ret_of [.bool true] ⟨⟨rfl, rfl⟩, trivial⟩, _, H, rfl, X2.ext⟩

theorem impl_areSeedRows_w (seeds : List (List Int)) (Q : Bool → Prop) (H : impl_areSeedRows seeds Q) (w : World) {vx : Value} {hx : PH} (r : RS hx vx seeds) (ex : Sub hx w) :
  CallsTo Tryz.prog 55 #[vx] w fun v w' => ∃ r0, Q r0 ∧ v = .bool r0 ∧ Ext w w' := by
 obtain ⟨a, c, rfl⟩ := r.shape
 refine enter (args := [sl a seeds c]) 49 Tryz.func55 rfl rfl rfl ?_
 refine W_forget [(0, sl a seeds c)] ⟨rfl, trivial⟩ fun ρ => ?_
 have X := But.refl emp w
 refine W_seq (W_region ?_)
 refine LP_ev ok 0 [(2, .bool false)] 1 rfl rfl ?_
 refine LP_end _ rfl (W_seq ?_)
 obtain ⟨k, hk, H⟩ := jn_elim H
 refine W_join2 (S := Bool) (fun s ρ' w' => k s ∧ ∃ (ρ : Env), ρ' = setAll [(0, sl a seeds c), (13, .bool s)] ρ ∧ w = w') ?_ ?_
 ·refine W_region ?_
  refine LP_ev ok 0 [(6, sl a seeds c), (7, I (ln seeds)), (8, .bool (decide ((ln seeds) < 2))), (9, .bool (decide ((ln seeds) < 2)))] 4 rfl rfl ?_
  refine LP_split 9 (decide ((ln seeds) < 2)) rfl (fun hc => ?_) (fun hc => ?_)
  ·have H := H.1 hc
   refine LP_ev ok 4 [(10, undef), (11, undef), (12, undef), (13, .bool true)] 8 rfl rfl ?_
   exact LP_end _ rfl ⟨true, H, _, env_eq ⟨rfl, rfl, trivial⟩, rfl⟩
  have H := H.2 hc
  refine LP_ev ok 4 [(10, sl a seeds c), (11, I (ln seeds)), (12, .bool (decide ((ln seeds) > 8))), (13, .bool (decide ((ln seeds) > 8)))] 8 rfl rfl ?_
  exact LP_end _ rfl ⟨decide ((ln seeds) > 8), H, _, env_eq ⟨rfl, rfl, trivial⟩, rfl⟩
 rintro x _ _ ⟨H, ρ, rfl, rfl⟩
 subst hk
 refine W_cond (x) rfl (fun hc1 => ?_) (fun hc1 => ?_)
 ·have H := H.1 hc1
  refine W_seq (W_region ?_)
  refine LP_ev ok 0 [(2, .bool false)] 1 rfl rfl ?_
  refine LP_end _ rfl (W_ret ?_)
  exact ⟨_, Ret_of [.bool false] ⟨⟨rfl, rfl⟩, trivial⟩, _, H, rfl, X.ext⟩
 have H := H.2 hc1
 refine W_skip ?_
 refine W_seq ?_
 refine W_seq (W_region ?_)
 refine LP_ev ok 0 [(14, sl a seeds c), (15, I (ln seeds)), (16, I 0)] 3 rfl rfl ?_
 refine LP_end _ rfl ?_
 refine W_block ?_
 obtain ⟨J, m, Hx, H⟩ := H
 refine W_loop (S := Int) (fun s ρ' w' => J s ∧ ∃ (ρ : Env), ρ' = setAll [(0, sl a seeds c), (14, sl a seeds c), (15, I (ln seeds)), (16, I s)] ρ ∧ But emp w w' ∧ Sub hx w') (fun s => m s) 0 ⟨Hx, _, env_eq ⟨rfl, rfl, rfl, rfl, trivial⟩, X, ex⟩ ?_
 rintro x2 _ wx3 ⟨Hi, ρ, rfl, X5, ex4⟩
 have H := H x2 Hi
 refine W_seq (W_region ?_)
 refine LP_ev ok 0 [(17, .bool (decide (x2 < (ln seeds))))] 1 rfl rfl ?_
 refine LP_end _ rfl (W_seq ?_)
 refine W_cond (decide (x2 < (ln seeds))) rfl (fun hc6 => ?_) (fun hc6 => ?_)
 ·have H := H.1 hc6
  refine W_skip ?_
  refine W_seq ?_
  refine W_block ?_
  refine W_seq (W_region ?_)
  refine LP_ev ok 0 [(18, I x2)] 1 rfl rfl ?_
  obtain ⟨x7, hi, hx8, H⟩ := H
  refine LP_index 1 rfl rfl rfl Tryz.underlying29 ti_22 rfl rfl r hi hx8 fun a9 cs r10 d => ?_
  refine LP_load 2 rfl rfl rfl ti_22 ag_22 rfl r10 d ex4 fun vx11 r12 => ?_
  have r15 := r12.slice
  obtain ⟨a13, c14, rfl⟩ := r15.shape
  refine LP_ev ok 3 [(3, I x2), (4, sl a13 x7 c14)] 5 rfl rfl ?_
  refine LP_end _ rfl (W_seq ?_)
  obtain ⟨k20, hk21, H⟩ := jn_elim H
  refine W_join2 (S := Bool) (fun s ρ' w' => k20 s ∧ ∃ (ρ : Env), ρ' = setAll [(0, sl a seeds c), (3, I x2), (4, sl a13 x7 c14), (14, sl a seeds c), (15, I (ln seeds)), (16, I x2), (30, .bool s)] ρ ∧ But emp w w' ∧ Sub hx w') ?_ ?_
  ·refine W_region ?_
   refine LP_ev ok 0 [(21, sl a13 x7 c14), (22, I (ln x7)), (23, sl a seeds c), (24, I (ln seeds)), (25, .bool ((ln x7) != (ln seeds))), (26, .bool ((ln x7) != (ln seeds)))] 6 rfl rfl ?_
   refine LP_split 26 ((ln x7) != (ln seeds)) rfl (fun hc22 => ?_) (fun hc22 => ?_)
   ·have H := H.1 hc22
    refine LP_ev ok 6 [(27, undef), (28, undef), (29, undef), (30, .bool true)] 10 rfl rfl ?_
    exact LP_end _ rfl ⟨true, H, _, env_eq ⟨rfl, rfl, rfl, rfl, rfl, rfl, rfl, trivial⟩, X5, ex4⟩
   have H := H.2 hc22
   refine LP_ev ok 6 [(27, sl a13 x7 c14)] 7 rfl rfl ?_
   refine LP_call 7 rfl rfl rfl cal_90 rfl (impl_areSeeds_w _ _ H wx3 r15 ex4) ?_
   rintro _ wx24 ⟨r23, H, rfl, x25⟩
   refine LP_ev ok 8 [(29, .bool (!r23)), (30, .bool (!r23))] 10 rfl rfl ?_
   exact LP_end _ rfl ⟨!r23, H, _, env_eq ⟨rfl, rfl, rfl, rfl, rfl, rfl, rfl, trivial⟩, (X5.stepx x25), (ex4.ext x25)⟩
  rintro x16 _ wx17 ⟨H, ρ, rfl, X19, ex18⟩
  subst hk21
  refine W_cond (x16) rfl (fun hc28 => ?_) (fun hc28 => ?_)
  ·have H := H.1 hc28
   refine W_seq (W_region ?_)
   refine LP_ev ok 0 [(2, .bool false)] 1 rfl rfl ?_
   refine LP_end _ rfl (W_ret ?_)
   exact ⟨_, Ret_of [.bool false] ⟨⟨rfl, rfl⟩, trivial⟩, _, H, rfl, X19.ext⟩
  have H := H.2 hc28
  refine W_skip ?_
  refine W_seq (W_region ?_)
  refine LP_ev ok 0 [(31, I x2), (32, I 0)] 2 rfl rfl ?_
  refine LP_end _ rfl ?_
  refine W_block ?_
  obtain ⟨J33, m34, Hx35, H⟩ := H
  refine W_loop (S := Int) (fun s ρ' w' => J33 s ∧ ∃ (ρ : Env), ρ' = setAll [(0, sl a seeds c), (3, I x2), (4, sl a13 x7 c14), (14, sl a seeds c), (15, I (ln seeds)), (16, I x2), (31, I x2), (32, I s)] ρ ∧ But emp w w' ∧ Sub hx w') (fun s => m34 s) 0 ⟨Hx35, _, env_eq ⟨rfl, rfl, rfl, rfl, rfl, rfl, rfl, rfl, trivial⟩, X19, ex18⟩ ?_
  rintro x29 _ wx30 ⟨Hi, ρ, rfl, X32, ex31⟩
  have H := H x29 Hi
  refine W_seq (W_region ?_)
  refine LP_ev ok 0 [(33, .bool (decide (x29 < x2)))] 1 rfl rfl ?_
  refine LP_end _ rfl (W_seq ?_)
  refine W_cond (decide (x29 < x2)) rfl (fun hc37 => ?_) (fun hc37 => ?_)
  ·have H := H.1 hc37
   refine W_skip ?_
   refine W_seq ?_
   refine W_block ?_
   refine W_seq (W_region ?_)
   refine LP_ev ok 0 [(34, I x29), (5, I x29)] 2 rfl rfl ?_
   refine LP_end _ rfl (W_seq ?_)
   refine W_quiet mix (by kernel_rfl) ?_
   refine QP_ev ok 0 [(35, sl a13 x7 c14), (36, I x29)] 2 rfl rfl ?_
   obtain ⟨x38, hi39, hx40, H⟩ := H
   refine QP_index 2 rfl rfl rfl Tryz.underlying22 ti_3 rfl rfl r15 hi39 hx40 fun a41 cs42 r43 d44 => ?_
   refine QP_load 3 rfl rfl rfl ti_3 ag_3 rfl r43 d44 ex31 fun vx45 r46 => ?_
   obtain rfl := r46.int
   refine QP_ev ok 4 [(39, sl a seeds c), (40, I x29)] 6 rfl rfl ?_
   obtain ⟨x47, hi48, hx49, H⟩ := H
   refine QP_index 6 rfl rfl rfl Tryz.underlying29 ti_22 rfl rfl r hi48 hx49 fun a50 cs51 r52 d53 => ?_
   refine QP_load 7 rfl rfl rfl ti_22 ag_22 rfl r52 d53 ex31 fun vx54 r55 => ?_
   have r58 := r55.slice
   obtain ⟨a56, c57, rfl⟩ := r58.shape
   refine QP_ev ok 8 [(43, I x2)] 9 rfl rfl ?_
   obtain ⟨x59, hi60, hx61, H⟩ := H
   refine QP_index 9 rfl rfl rfl Tryz.underlying22 ti_3 rfl rfl r58 hi60 hx61 fun a62 cs63 r64 d65 => ?_
   refine QP_load 10 rfl rfl rfl ti_3 ag_3 rfl r64 d65 ex31 fun vx66 r67 => ?_
   obtain rfl := r67.int
   refine QP_ev ok 11 [(46, .bool (x38 != x59))] 12 rfl rfl ?_
   refine QP_end _ rfl fun wx68 x69 => ?_
   refine W_cond (x38 != x59) rfl (fun hc70 => ?_) (fun hc70 => ?_)
   ·have H := H.1 hc70
    refine W_seq (W_region ?_)
    refine LP_ev ok 0 [(2, .bool false)] 1 rfl rfl ?_
    refine LP_end _ rfl (W_ret ?_)
    exact ⟨_, Ret_of [.bool false] ⟨⟨rfl, rfl⟩, trivial⟩, _, H, rfl, (X32.stepx x69).ext⟩
   have H := H.2 hc70
   refine W_skip ?_
   refine W_region ?_
   refine LP_ev ok 0 [(47, I (wr (x29 + 1))), (32, I (wr (x29 + 1)))] 2 rfl rfl ?_
   exact LP_end _ rfl ⟨wr (x29 + 1), ⟨H.1, _, env_eq ⟨rfl, rfl, rfl, rfl, rfl, rfl, rfl, rfl, trivial⟩, (X32.stepx x69), (ex31.ext x69)⟩, H.2⟩
  have H := H.2 hc37
  refine W_exit ?_
  refine (if_pos rfl).mpr ?_
  refine W_region ?_
  refine LP_ev ok 0 [(48, I (wr (x2 + 1))), (16, I (wr (x2 + 1)))] 2 rfl rfl ?_
  exact LP_end _ rfl ⟨wr (x2 + 1), ⟨H.1, _, env_eq ⟨rfl, rfl, rfl, rfl, trivial⟩, X32, ex31⟩, H.2⟩
 have H := H.2 hc6
 refine W_exit ?_
 refine (if_pos rfl).mpr ?_
 refine W_seq (W_region ?_)
 refine LP_ev ok 0 [(2, .bool true)] 1 rfl rfl ?_
 refine LP_end _ rfl (W_ret ?_)
 exact ⟨_, Ret_of [.bool true] ⟨⟨rfl, rfl⟩, trivial⟩, _, H, rfl, X5.ext⟩

theorem impl_isRound_w (round : Int) (Q : Bool → Prop) (H : impl_isRound round Q) (w : World)  :
  CallsTo Tryz.prog 56 #[I round] w fun v w' => ∃ r0, Q r0 ∧ v = .bool r0 ∧ Ext w w' := by
 refine enter (args := [I round]) 9 Tryz.func56 rfl rfl rfl ?_
 refine W_forget [(0, I round)] ⟨rfl, trivial⟩ fun ρ => ?_
 have X := But.refl emp w
 refine W_seq (W_region ?_)
 refine LP_ev ok 0 [(2, .bool false)] 1 rfl rfl ?_
 refine LP_end _ rfl ?_
 obtain ⟨k, hk, H⟩ := jn_elim H
 refine W_join2 (S := Bool) (fun s ρ' w' => k s ∧ ∃ (ρ : Env), ρ' = setAll [(2, .bool s)] ρ ∧ w = w') ?_ ?_
 ·refine W_region ?_
  refine LP_ev ok 0 [(3, I round), (4, .bool (decide (round ≥ 0))), (5, .bool (decide (round ≥ 0)))] 3 rfl rfl ?_
  refine LP_split 5 (decide (round ≥ 0)) rfl (fun hc => ?_) (fun hc => ?_)
  ·have H := H.1 hc
   refine LP_ev ok 3 [(6, I round), (7, .bool (decide (round ≤ 1000000))), (8, .bool (decide (round ≤ 1000000))), (2, .bool (decide (round ≤ 1000000)))] 7 rfl rfl ?_
   exact LP_end _ rfl ⟨decide (round ≤ 1000000), H, _, env_eq ⟨rfl, trivial⟩, rfl⟩
  have H := H.2 hc
  refine LP_ev ok 3 [(6, undef), (7, undef), (8, .bool false), (2, .bool false)] 7 rfl rfl ?_
  exact LP_end _ rfl ⟨false, H, _, env_eq ⟨rfl, trivial⟩, rfl⟩
 rintro x _ _ ⟨H, ρ, rfl, rfl⟩
 subst hk
 refine W_ret ?_
 exact ⟨_, Ret_of [.bool x] ⟨⟨rfl, rfl⟩, trivial⟩, _, H, rfl, X.ext⟩

theorem impl_isModulus_w (m : Int) (Q : Bool → Prop) (H : impl_isModulus m Q) (w : World)  :
  CallsTo Tryz.prog 57 #[I m] w fun v w' => ∃ r0, Q r0 ∧ v = .bool r0 ∧ Ext w w' := by
 refine enter (args := [I m]) 9 Tryz.func57 rfl rfl rfl ?_
 refine W_forget [(0, I m)] ⟨rfl, trivial⟩ fun ρ => ?_
 have X := But.refl emp w
 refine W_seq (W_region ?_)
 refine LP_ev ok 0 [(2, .bool false)] 1 rfl rfl ?_
 refine LP_end _ rfl ?_
 obtain ⟨k, hk, H⟩ := jn_elim H
 refine W_join2 (S := Bool) (fun s ρ' w' => k s ∧ ∃ (ρ : Env), ρ' = setAll [(2, .bool s)] ρ ∧ w = w') ?_ ?_
 ·refine W_region ?_
  refine LP_ev ok 0 [(3, I m), (4, .bool (decide (m ≥ 2))), (5, .bool (decide (m ≥ 2)))] 3 rfl rfl ?_
  refine LP_split 5 (decide (m ≥ 2)) rfl (fun hc => ?_) (fun hc => ?_)
  ·have H := H.1 hc
   refine LP_ev ok 3 [(6, I m), (7, .bool (decide (m ≤ 1000000007))), (8, .bool (decide (m ≤ 1000000007))), (2, .bool (decide (m ≤ 1000000007)))] 7 rfl rfl ?_
   exact LP_end _ rfl ⟨decide (m ≤ 1000000007), H, _, env_eq ⟨rfl, trivial⟩, rfl⟩
  have H := H.2 hc
  refine LP_ev ok 3 [(6, undef), (7, undef), (8, .bool false), (2, .bool false)] 7 rfl rfl ?_
  exact LP_end _ rfl ⟨false, H, _, env_eq ⟨rfl, trivial⟩, rfl⟩
 rintro x _ _ ⟨H, ρ, rfl, rfl⟩
 subst hk
 refine W_ret ?_
 exact ⟨_, Ret_of [.bool x] ⟨⟨rfl, rfl⟩, trivial⟩, _, H, rfl, X.ext⟩

theorem impl_areWithin_w (l : List Int) (lo : Int) (hi : Int) (Q : Bool → Prop) (H : impl_areWithin l lo hi Q) (w : World) {vx : Value} {hx : PH} (r : RS hx vx l) (ex : Sub hx w) :
  CallsTo Tryz.prog 91 #[vx, I lo, I hi] w fun v w' => ∃ r0, Q r0 ∧ v = .bool r0 ∧ Ext w w' := by
 obtain ⟨a, c, rfl⟩ := r.shape
 refine enter (args := [sl a l c, I lo, I hi]) 24 Tryz.func91 rfl rfl rfl ?_
 refine W_forget [(0, sl a l c), (1, I lo), (2, I hi)] ⟨rfl, rfl, rfl, trivial⟩ fun ρ => ?_
 have X := But.refl emp w
 refine W_seq (W_region ?_)
 refine LP_ev ok 0 [(6, .bool false)] 1 rfl rfl ?_
 refine LP_end _ rfl (W_seq ?_)
 refine W_seq (W_region ?_)
 refine LP_ev ok 0 [(9, sl a l c), (10, I (ln l)), (11, I 0)] 3 rfl rfl ?_
 refine LP_end _ rfl ?_
 refine W_block ?_
 obtain ⟨J, m, Hx, H⟩ := H
 refine W_loop (S := Int) (fun s ρ' w' => J s ∧ ∃ (ρ : Env), ρ' = setAll [(1, I lo), (2, I hi), (9, sl a l c), (10, I (ln l)), (11, I s)] ρ ∧ w = w') (fun s => m s) 0 ⟨Hx, _, env_eq ⟨rfl, rfl, rfl, rfl, rfl, trivial⟩, rfl⟩ ?_
 rintro x _ _ ⟨Hi, ρ, rfl, rfl⟩
 have H := H x Hi
 refine W_seq (W_region ?_)
 refine LP_ev ok 0 [(12, .bool (decide (x < (ln l))))] 1 rfl rfl ?_
 refine LP_end _ rfl (W_seq ?_)
 refine W_cond (decide (x < (ln l))) rfl (fun hc => ?_) (fun hc => ?_)
 ·have H := H.1 hc
  refine W_skip ?_
  refine W_seq ?_
  refine W_block ?_
  refine W_seq (W_region ?_)
  obtain ⟨x1, hi2, hx3, H⟩ := H
  refine LP_index 0 rfl rfl rfl Tryz.underlying22 ti_3 rfl rfl r hi2 hx3 fun a4 cs r5 d => ?_
  refine LP_load 1 rfl rfl rfl ti_3 ag_3 rfl r5 d ex fun vx6 r7 => ?_
  obtain rfl := r7.int
  refine LP_ev ok 2 [(8, I x1)] 3 rfl rfl ?_
  refine LP_end _ rfl ?_
  obtain ⟨k, hk, H⟩ := jn_elim H
  refine W_join2 (S := Bool) (fun s ρ' w' => k s ∧ ∃ (ρ : Env), ρ' = setAll [(1, I lo), (2, I hi), (9, sl a l c), (10, I (ln l)), (11, I x), (22, .bool s)] ρ ∧ w = w') ?_ ?_
  ·refine W_region ?_
   refine LP_ev ok 0 [(15, I x1), (16, I lo), (17, .bool (decide (x1 < lo))), (18, .bool (decide (x1 < lo)))] 4 rfl rfl ?_
   refine LP_split 18 (decide (x1 < lo)) rfl (fun hc10 => ?_) (fun hc10 => ?_)
   ·have H := H.1 hc10
    refine LP_ev ok 4 [(19, undef), (20, undef), (21, undef), (22, .bool true)] 8 rfl rfl ?_
    exact LP_end _ rfl ⟨true, H, _, env_eq ⟨rfl, rfl, rfl, rfl, rfl, rfl, trivial⟩, rfl⟩
   have H := H.2 hc10
   refine LP_ev ok 4 [(19, I x1), (20, I hi), (21, .bool (decide (x1 > hi))), (22, .bool (decide (x1 > hi)))] 8 rfl rfl ?_
   exact LP_end _ rfl ⟨decide (x1 > hi), H, _, env_eq ⟨rfl, rfl, rfl, rfl, rfl, rfl, trivial⟩, rfl⟩
  rintro x8 _ _ ⟨H, ρ, rfl, rfl⟩
  subst hk
  refine W_cond (x8) rfl (fun hc11 => ?_) (fun hc11 => ?_)
  ·have H := H.1 hc11
   refine W_seq (W_region ?_)
   refine LP_ev ok 0 [(6, .bool false)] 1 rfl rfl ?_
   refine LP_end _ rfl (W_ret ?_)
   exact ⟨_, Ret_of [.bool false] ⟨⟨rfl, rfl⟩, trivial⟩, _, H, rfl, X.ext⟩
  have H := H.2 hc11
  refine W_skip ?_
  refine W_region ?_
  refine LP_ev ok 0 [(23, I (wr (x + 1))), (11, I (wr (x + 1)))] 2 rfl rfl ?_
  exact LP_end _ rfl ⟨wr (x + 1), ⟨H.1, _, env_eq ⟨rfl, rfl, rfl, rfl, rfl, trivial⟩, rfl⟩, H.2⟩
 have H := H.2 hc
 refine W_exit ?_
 refine (if_pos rfl).mpr ?_
 refine W_seq (W_region ?_)
 refine LP_ev ok 0 [(6, .bool true)] 1 rfl rfl ?_
 refine LP_end _ rfl (W_ret ?_)
 exact ⟨_, Ret_of [.bool true] ⟨⟨rfl, rfl⟩, trivial⟩, _, H, rfl, X.ext⟩

theorem impl_areResidues_w (values : List Int) (m : Int) (Q : Bool → Prop) (H : impl_areResidues values m Q) (w : World) {vx : Value} {hx : PH} (r : RS hx vx values) (ex : Sub hx w) :
  CallsTo Tryz.prog 58 #[vx, I m] w fun v w' => ∃ r0, Q r0 ∧ v = .bool r0 ∧ Ext w w' := by
 obtain ⟨a, c, rfl⟩ := r.shape
 refine enter (args := [sl a values c, I m]) 14 Tryz.func58 rfl rfl rfl ?_
 refine W_forget [(0, sl a values c), (1, I m)] ⟨rfl, rfl, trivial⟩ fun ρ => ?_
 have X := But.refl emp w
 refine W_seq (W_region ?_)
 refine LP_ev ok 0 [(4, .bool false)] 1 rfl rfl ?_
 refine LP_end _ rfl ?_
 obtain ⟨k, hk, H⟩ := jn_elim H
 refine W_join2 (S := Bool) (fun s ρ' w' => k s ∧ ∃ (ρ : Env), ρ' = setAll [(4, .bool s)] ρ ∧ But emp w w') ?_ ?_
 ·refine W_region ?_
  refine LP_ev ok 0 [(5, sl a values c), (6, I (ln values)), (7, .bool (decide ((ln values) ≤ 600))), (8, .bool (decide ((ln values) ≤ 600)))] 4 rfl rfl ?_
  refine LP_split 8 (decide ((ln values) ≤ 600)) rfl (fun hc => ?_) (fun hc => ?_)
  ·have H := H.1 hc
   refine LP_ev ok 4 [(9, sl a values c), (10, I m), (11, I (wr (m - 1)))] 7 rfl rfl ?_
   refine LP_call 7 rfl rfl rfl cal_91 rfl (impl_areWithin_w _ _ _ _ H w r ex) ?_
   rintro _ wx3 ⟨r2, H, rfl, x4⟩
   refine LP_ev ok 8 [(13, .bool r2), (4, .bool r2)] 10 rfl rfl ?_
   exact LP_end _ rfl ⟨r2, H, _, env_eq ⟨rfl, trivial⟩, (X.stepx x4)⟩
  have H := H.2 hc
  refine LP_ev ok 4 [(9, undef), (10, undef), (11, undef), (12, undef), (13, .bool false), (4, .bool false)] 10 rfl rfl ?_
  exact LP_end _ rfl ⟨false, H, _, env_eq ⟨rfl, trivial⟩, X⟩
 rintro x _ wx ⟨H, ρ, rfl, X1⟩
 subst hk
 refine W_ret ?_
 exact ⟨_, Ret_of [.bool x] ⟨⟨rfl, rfl⟩, trivial⟩, _, H, rfl, X1.ext⟩

theorem impl_step_w (factor : Int) (n : Int) (x : Int) (more : Int) (p : Int) (Q : Int → Prop) (H : impl_step factor n x more p Q) (w : World)  :
  CallsTo Tryz.prog 170 #[I factor, I n, I x, I more, I p] w fun v w' => ∃ r0, Q r0 ∧ v = I r0 ∧ Ext w w' := by
 refine enter (args := [I factor, I n, I x, I more, I p]) 28 Tryz.func170 rfl rfl rfl ?_
 refine W_forget [(0, I factor), (1, I n), (2, I x), (3, I more), (4, I p)] ⟨rfl, rfl, rfl, rfl, rfl, trivial⟩ fun ρ => ?_
 have X := But.refl emp w
 refine W_seq (W_region ?_)
 refine LP_ev ok 0 [(10, I 0)] 1 rfl rfl ?_
 refine LP_end _ rfl (W_seq (W_region ?_))
 refine LP_ev ok 0 [(11, I x), (12, I p)] 2 rfl rfl ?_
 obtain ⟨hz, H⟩ := H
 refine LP_val 2 _ rfl rfl (ex_rem rfl rfl rfl hz _) ?_
 refine LP_ev ok 3 [(2, I (Int.tmod x p))] 4 rfl rfl ?_
 refine LP_end _ rfl ?_
 obtain ⟨k, hk, H⟩ := jn_elim H
 refine W_join2 (S := Int) (fun s ρ' w' => k s ∧ ∃ (ρ : Env), ρ' = setAll [(0, I factor), (1, I n), (2, I s), (3, I more), (4, I p)] ρ ∧ w = w') ?_ ?_
 ·refine W_seq (W_region ?_)
  refine LP_ev ok 0 [(14, I (Int.tmod x p)), (15, .bool (decide ((Int.tmod x p) < 0)))] 2 rfl rfl ?_
  refine LP_end _ rfl ?_
  refine W_cond (decide ((Int.tmod x p) < 0)) rfl (fun hc => ?_) (fun hc => ?_)
  ·have H := H.1 hc
   refine W_region ?_
   refine LP_ev ok 0 [(16, I (Int.tmod x p)), (17, I p), (18, I (wr ((Int.tmod x p) + p))), (2, I (wr ((Int.tmod x p) + p)))] 4 rfl rfl ?_
   exact LP_end _ rfl ⟨wr ((Int.tmod x p) + p), H, _, env_eq ⟨rfl, rfl, rfl, rfl, rfl, trivial⟩, rfl⟩
  have H := H.2 hc
  exact W_skip ⟨Int.tmod x p, H, _, env_eq ⟨rfl, rfl, rfl, rfl, rfl, trivial⟩, rfl⟩
 rintro x1 _ _ ⟨H, ρ, rfl, rfl⟩
 subst hk
 refine W_seq (W_region ?_)
 refine LP_ev ok 0 [(19, I factor), (20, I n), (21, I (wr (factor * n))), (22, I x1), (23, I (wr ((wr (factor * n)) + x1))), (24, I more), (25, I (wr ((wr ((wr (factor * n)) + x1)) + more))), (26, I p)] 8 rfl rfl ?_
 obtain ⟨hz2, H⟩ := H
 refine LP_val 8 _ rfl rfl (ex_rem rfl rfl rfl hz2 _) ?_
 refine LP_ev ok 9 [(10, I (Int.tmod (wr ((wr ((wr (factor * n)) + x1)) + more)) p))] 10 rfl rfl ?_
 refine LP_end _ rfl (W_ret ?_)
 exact ⟨_, Ret_of [I (Int.tmod (wr ((wr ((wr (factor * n)) + x1)) + more)) p)] ⟨⟨rfl, rfl⟩, trivial⟩, _, H, rfl, X.ext⟩

theorem impl_digest_w (l : List Int) (Q : Int → Prop) (H : impl_digest l Q) (w : World) {vx : Value} {hx : PH} (r : RS hx vx l) (ex : Sub hx w) :
  CallsTo Tryz.prog 154 #[vx] w fun v w' => ∃ r0, Q r0 ∧ v = I r0 ∧ Ext w w' := by
 obtain ⟨a, c, rfl⟩ := r.shape
 refine enter (args := [sl a l c]) 37 Tryz.func154 rfl rfl rfl ?_
 refine W_forget [(0, sl a l c)] ⟨rfl, trivial⟩ fun ρ => ?_
 have X := But.refl emp w
 refine W_seq (W_region ?_)
 refine LP_ev ok 0 [(2, I 0)] 1 rfl rfl ?_
 refine LP_end _ rfl (W_seq (W_region ?_))
 refine LP_ev ok 0 [(7, sl a l c), (8, I (ln l))] 2 rfl rfl ?_
 refine LP_val 2 _ rfl rfl (ex_rem rfl rfl rfl (by decide) _) ?_
 refine LP_ev ok 3 [(3, I (Int.tmod (ln l) 2147483647)), (4, I 1)] 5 rfl rfl ?_
 refine LP_end _ rfl (W_seq ?_)
 refine W_seq (W_region ?_)
 refine LP_ev ok 0 [(10, sl a l c), (11, I (ln l)), (12, I (wr ((ln l) + 4))), (13, I 0)] 4 rfl rfl ?_
 refine LP_end _ rfl ?_
 refine W_block ?_
 obtain ⟨J, m, Hx, H⟩ := H
 refine W_loop (S := Int × Int × Int) (fun s ρ' w' => J s.1 s.2.1 s.2.2 ∧ ∃ (ρ : Env), ρ' = setAll [(0, sl a l c), (3, I s.1), (4, I s.2.1), (12, I (wr ((ln l) + 4))), (13, I s.2.2)] ρ ∧ But emp w w' ∧ Sub hx w') (fun s => m s.1 s.2.1 s.2.2) (Int.tmod (ln l) 2147483647, 1, 0) ⟨Hx, _, env_eq ⟨rfl, rfl, rfl, rfl, rfl, trivial⟩, X, ex⟩ ?_
 rintro ⟨a1, b, x⟩ _ wx ⟨Hi, ρ, rfl, X3, ex2⟩
 have H := H a1 b x Hi
 refine W_seq (W_region ?_)
 refine LP_ev ok 0 [(14, .bool (decide (x < (wr ((ln l) + 4)))))] 1 rfl rfl ?_
 refine LP_end _ rfl (W_seq ?_)
 refine W_cond (decide (x < (wr ((ln l) + 4)))) rfl (fun hc => ?_) (fun hc => ?_)
 ·have H := H.1 hc
  refine W_skip ?_
  refine W_seq ?_
  refine W_block ?_
  refine W_seq (W_region ?_)
  refine LP_ev ok 0 [(15, I x), (5, I x)] 2 rfl rfl ?_
  refine LP_end _ rfl (W_seq (W_region ?_))
  refine LP_ev ok 0 [(6, I 0)] 1 rfl rfl ?_
  refine LP_end _ rfl ?_
  obtain ⟨k, hk, H⟩ := jn_elim H
  refine W_join2 (S := Int) (fun s ρ' w' => k s ∧ ∃ (ρ : Env), ρ' = setAll [(0, sl a l c), (3, I a1), (4, I b), (6, I s), (12, I (wr ((ln l) + 4))), (13, I x)] ρ ∧ wx = w') ?_ ?_
  ·refine W_seq (W_region ?_)
   refine LP_ev ok 0 [(16, I x), (17, sl a l c), (18, I (ln l)), (19, .bool (decide (x < (ln l))))] 4 rfl rfl ?_
   refine LP_end _ rfl ?_
   refine W_cond (decide (x < (ln l))) rfl (fun hc6 => ?_) (fun hc6 => ?_)
   ·have H := H.1 hc6
    refine W_region ?_
    refine LP_ev ok 0 [(20, sl a l c), (21, I x)] 2 rfl rfl ?_
    obtain ⟨x7, hi, hx8, H⟩ := H
    refine LP_index 2 rfl rfl rfl Tryz.underlying22 ti_3 rfl rfl r hi hx8 fun a9 cs r10 d => ?_
    refine LP_load 3 rfl rfl rfl ti_3 ag_3 rfl r10 d ex2 fun vx11 r12 => ?_
    obtain rfl := r12.int
    refine LP_ev ok 4 [(6, I x7)] 5 rfl rfl ?_
    exact LP_end _ rfl ⟨x7, H, _, env_eq ⟨rfl, rfl, rfl, rfl, rfl, rfl, trivial⟩, rfl⟩
   have H := H.2 hc6
   exact W_skip ⟨0, H, _, env_eq ⟨rfl, rfl, rfl, rfl, rfl, rfl, trivial⟩, rfl⟩
  rintro x4 _ _ ⟨H, ρ, rfl, rfl⟩
  subst hk
  refine W_seq (W_region ?_)
  refine LP_ev ok 0 [(24, I a1), (25, I x4)] 2 rfl rfl ?_
  refine LP_call 2 rfl rfl rfl cal_170 rfl (impl_step_w _ _ _ _ _ _ H wx ) ?_
  rintro _ wx14 ⟨r13, H, rfl, x15⟩
  refine LP_ev ok 3 [(3, I r13)] 4 rfl rfl ?_
  refine LP_end _ rfl ?_
  refine W_region ?_
  refine LP_ev ok 0 [(27, I b), (28, I x4), (29, I r13)] 3 rfl rfl ?_
  refine LP_val 3 _ rfl rfl (ex_rem rfl rfl rfl (by decide) _) ?_
  refine LP_call 4 rfl rfl rfl cal_170 rfl (impl_step_w _ _ _ _ _ _ H wx14 ) ?_
  rintro _ wx17 ⟨r16, H, rfl, x18⟩
  refine LP_ev ok 5 [(4, I r16)] 6 rfl rfl ?_
  refine LP_end _ rfl ?_
  refine W_region ?_
  refine LP_ev ok 0 [(32, I (wr (x + 1))), (13, I (wr (x + 1)))] 2 rfl rfl ?_
  refine LP_end _ rfl ?_
  have xc := (x15.trans x18)
  exact ⟨(r13, r16, wr (x + 1)), ⟨H.1, _, env_eq ⟨rfl, rfl, rfl, rfl, rfl, trivial⟩, (X3.stepx xc), (ex2.ext xc)⟩, H.2⟩
 have H := H.2 hc
 refine W_exit ?_
 refine (if_pos rfl).mpr ?_
 refine W_seq (W_region ?_)
 refine LP_ev ok 0 [(33, I a1), (34, I (wr (a1 * 2 ^ 31))), (35, I b), (36, I (wr ((wr (a1 * 2 ^ 31)) + b))), (2, I (wr ((wr (a1 * 2 ^ 31)) + b)))] 5 rfl rfl ?_
 refine LP_end _ rfl (W_ret ?_)
 exact ⟨_, Ret_of [I (wr ((wr (a1 * 2 ^ 31)) + b))] ⟨⟨rfl, rfl⟩, trivial⟩, _, H, rfl, X3.ext⟩

theorem impl_pairMask_w (seed : Int) (i : Int) (k : Int) (round : Int) (n : Int) (m : Int) (Q : (List Int) → Prop) (H : impl_pairMask seed i k round n m Q) (w : World)  :
  CallsTo Tryz.prog 120 #[I seed, I i, I k, I round, I n, I m] w fun v w' => ∃ r0 u0 g0, Q r0 ∧ v = u0 ∧ Ext w w' ∧ OS 3 g0 emp u0 r0 ∧ Sub g0 w' ∧ Fresh w.heap.size g0 := by
 refine enter (args := [I seed, I i, I k, I round, I n, I m]) 36 Tryz.func120 rfl rfl rfl ?_
 refine W_forget [(0, I seed), (1, I i), (2, I k), (3, I round), (4, I n), (5, I m)] ⟨rfl, rfl, rfl, rfl, rfl, rfl, trivial⟩ fun ρ => ?_
 have X := But.refl emp w
 refine W_seq (W_region ?_)
 refine LP_ev ok 0 [(12, .slice none 0 0)] 1 rfl rfl ?_
 refine LP_end _ rfl (W_seq (W_region ?_))
 refine LP_ev ok 0 [(15, I n)] 1 rfl rfl ?_
 obtain ⟨hn, hb, H⟩ := H
 refine LP_make (α := Int) 1 rfl rfl rfl Tryz.underlying22 ti_3 (x0 := (0 : Int)) rfl rfl hn (by first | omega | (simp only [ln] at *; omega)) (by first | omega | (simp only [ln] at *; omega)) fun hx vx wx x o ex f => ?_
 obtain ⟨a, c, rfl⟩ := o.shape
 refine LP_ev ok 2 [(13, .slice a (List.length (List.replicate (Int.toNat n) ((0 : Int)))) c)] 3 rfl rfl ?_
 refine LP_end _ rfl (W_seq ?_)
 refine W_seq (W_region ?_)
 refine LP_ev ok 0 [(17, .slice a (List.length (List.replicate (Int.toNat n) ((0 : Int)))) c), (18, I (ln (List.replicate (Int.toNat n) ((0 : Int))))), (19, I 0)] 3 rfl rfl ?_
 refine LP_end _ rfl ?_
 refine W_block ?_
 have f11 := f.mono X.size
 obtain ⟨J, m9, Hx, H⟩ := H
 refine W_loop (S := (List Int) × Int) (fun s ρ' w' => J s.1 s.2 ∧ ∃ (ρ : Env) (hx2 : PH), ρ' = setAll [(0, I seed), (1, I i), (2, I k), (3, I round), (5, I m), (13, .slice a (List.length (List.replicate (Int.toNat n) ((0 : Int)))) c), (18, I (ln (List.replicate (Int.toNat n) ((0 : Int))))), (19, I s.2)] ρ ∧ But emp w w' ∧ OS 3 hx2 emp (.slice a (List.length (List.replicate (Int.toNat n) ((0 : Int)))) c) s.1 ∧ Sub hx2 w' ∧ Fresh w.heap.size hx2) (fun s => m9 s.1 s.2) (List.replicate (Int.toNat n) ((0 : Int)), 0) ⟨Hx, _, hx, env_eq ⟨rfl, rfl, rfl, rfl, rfl, rfl, rfl, rfl, trivial⟩, (X.stepx x), o, ex, f11⟩ ?_
 rintro ⟨out, x6⟩ _ wx7 ⟨Hi, ρ, hx2, rfl, X8, o3, ex4, f5⟩
 have H := H out x6 Hi
 refine W_seq (W_region ?_)
 refine LP_ev ok 0 [(20, .bool (decide (x6 < (ln (List.replicate (Int.toNat n) ((0 : Int)))))))] 1 rfl rfl ?_
 refine LP_end _ rfl (W_seq ?_)
 refine W_cond (decide (x6 < (ln (List.replicate (Int.toNat n) ((0 : Int)))))) rfl (fun hc => ?_) (fun hc => ?_)
 ·have H := H.1 hc
  refine W_skip ?_
  refine W_seq ?_
  refine W_block ?_
  refine W_seq (W_region ?_)
  refine LP_ev ok 0 [(21, I x6), (14, I x6)] 2 rfl rfl ?_
  refine LP_end _ rfl ?_
  refine W_region ?_
  refine LP_ev ok 0 [(22, .slice a (List.length (List.replicate (Int.toNat n) ((0 : Int)))) c), (23, I x6), (24, I seed), (25, I i), (26, I k), (27, I round), (28, I x6)] 7 rfl rfl ?_
  refine LP_lit (α := Int) (g := emp) 7 (vs := [I 5, I seed, I i, I k, I round, I x6]) (xs := [5, seed, i, k, round, x6]) rfl rfl rfl Tryz.underlying22 ti_3 rfl rfl ⟨⟨_, rfl, rfl⟩, ⟨_, rfl, rfl⟩, ⟨_, rfl, rfl⟩, ⟨_, rfl, rfl⟩, ⟨_, rfl, rfl⟩, ⟨_, rfl, rfl⟩, trivial⟩ rfl rfl fun hx12 vx13 wx14 x15 o16 ex17 f18 => ?_
  obtain ⟨a19, c20, rfl⟩ := o16.shape
  refine LP_call 8 rfl rfl rfl cal_154 rfl (impl_digest_w _ _ H wx14 o16.readf ex17) ?_
  rintro _ wx21 ⟨r, H, rfl, x22⟩
  refine LP_ev ok 9 [(31, I m)] 10 rfl rfl ?_
  obtain ⟨hz, H⟩ := H
  refine LP_val 10 _ rfl rfl (ex_rem rfl rfl rfl hz _) ?_
  obtain ⟨hi, hl, H⟩ := H
  refine LP_indexw (v := .slice a (List.length (List.replicate (Int.toNat n) ((0 : Int)))) c) 11 rfl rfl rfl Tryz.underlying22 ti_3 rfl rfl o3 hi hl fun a23 wa => ?_
  have xc := (x15.trans x22)
  refine LP_set 12 rfl rfl rfl rfl rfl wa (Le.refl emp) ⟨_, rfl, rfl⟩ (ex4.ext xc) fun hx24 wx25 o26 ex27 y dm => ?_
  refine LP_end _ rfl ?_
  refine W_region ?_
  refine LP_ev ok 0 [(34, I (wr (x6 + 1))), (19, I (wr (x6 + 1)))] 2 rfl rfl ?_
  refine LP_end _ rfl ?_
  have f30 := (dm _).fresh f5 (X8.stepx xc).size
  exact ⟨(List.set out (Int.toNat x6) (Int.tmod r m), wr (x6 + 1)), ⟨H.1, _, hx24, env_eq ⟨rfl, rfl, rfl, rfl, rfl, rfl, rfl, rfl, trivial⟩, ((X8.stepx xc).step y (f5.dom _)), o26, ex27, f30⟩, H.2⟩
 have H := H.2 hc
 refine W_exit ?_
 refine (if_pos rfl).mpr ?_
 refine W_seq (W_region ?_)
 refine LP_ev ok 0 [(35, .slice a (List.length (List.replicate (Int.toNat n) ((0 : Int)))) c), (12, .slice a (List.length (List.replicate (Int.toNat n) ((0 : Int)))) c)] 2 rfl rfl ?_
 refine LP_end _ rfl (W_ret ?_)
 exact ⟨_, Ret_of [.slice a (List.length (List.replicate (Int.toNat n) ((0 : Int)))) c] ⟨⟨rfl, rfl⟩, trivial⟩, _, _, _, H, rfl, X8.ext, o3, ex4, f5⟩

theorem impl_combine_w (sum : List Int) (l : List Int) (sign : Int) (m : Int) (Q : (List Int) → Prop) (H : impl_combine sum l sign m Q) (w : World) {vx : Value} {hx : PH} (r : OS 3 hx emp vx sum) (ex : Sub hx w) {vx1 : Value} {hx2 : PH} (r3 : RS hx2 vx1 l) (ex4 : Sub hx2 w) (d : Dj hx hx2) :
  CallsTo Tryz.prog 78 #[vx, vx1, I sign, I m] w fun v w' => ∃ m1 k1, Q m1 ∧ v = .tuple #[] ∧ But hx w w' ∧ OS 3 k1 emp vx m1 ∧ Sub k1 w' ∧ (∀ n, DomLe hx n k1) := by
 obtain ⟨a, c, rfl⟩ := r.shape
 obtain ⟨a5, c6, rfl⟩ := r3.shape
 refine enter (args := [sl a sum c, sl a5 l c6, I sign, I m]) 33 Tryz.func78 rfl rfl rfl ?_
 refine W_forget [(0, sl a sum c), (1, sl a5 l c6), (2, I sign), (3, I m)] ⟨rfl, rfl, rfl, rfl, trivial⟩ fun ρ => ?_
 have D : Dom hx hx := (Dom.refl _)
 have X := But.refl hx w
 refine W_seq (W_region ?_)
 refine LP_ev ok 0 [(10, sl a5 l c6), (11, I (ln l)), (12, I 0)] 3 rfl rfl ?_
 refine LP_end _ rfl ?_
 refine W_block ?_
 obtain ⟨J, m14, Hx, H⟩ := H
 refine W_loop (S := (List Int) × Int) (fun s ρ' w' => J s.1 s.2 ∧ ∃ (ρ : Env) (hx9 : PH), ρ' = setAll [(0, sl a sum c), (2, I sign), (3, I m), (10, sl a5 l c6), (11, I (ln l)), (12, I s.2)] ρ ∧ But hx w w' ∧ OS 3 hx9 emp (sl a sum c) s.1 ∧ Sub hx9 w' ∧ (∀ n, DomLe hx n hx9) ∧ Sub hx2 w' ∧ Dj hx9 hx2) (fun s => m14 s.1 s.2) (sum, 0) ⟨Hx, _, hx, env_eq ⟨rfl, rfl, rfl, rfl, rfl, rfl, trivial⟩, X, r, ex, (fun _ => DomLe.refl _ _), ex4, d⟩ ?_
 rintro ⟨sum7, x⟩ _ wx ⟨Hi, ρ, hx9, rfl, HF⟩
 revert HF
 refine bb6 fun X13 o ex10 f ex11 d12 => ?_
 have H := H sum7 x Hi
 refine W_seq (W_region ?_)
 refine LP_ev ok 0 [(13, .bool (decide (x < (ln l))))] 1 rfl rfl ?_
 refine LP_end _ rfl (W_seq ?_)
 refine W_cond (decide (x < (ln l))) rfl (fun hc => ?_) (fun hc => ?_)
 ·have H := H.1 hc
  refine W_skip ?_
  refine W_seq ?_
  refine W_block ?_
  refine W_seq (W_region ?_)
  refine LP_ev ok 0 [(14, I x)] 1 rfl rfl ?_
  obtain ⟨x15, hi, hx16, H⟩ := H
  refine LP_index 1 rfl rfl rfl Tryz.underlying22 ti_3 rfl rfl r3 hi hx16 fun a17 cs r18 d19 => ?_
  refine LP_load 2 rfl rfl rfl ti_3 ag_3 rfl r18 d19 ex11 fun vx20 r21 => ?_
  obtain rfl := r21.int
  refine LP_ev ok 3 [(8, I x), (9, I x15)] 5 rfl rfl ?_
  refine LP_end _ rfl ?_
  refine W_region ?_
  refine LP_ev ok 0 [(17, sl a sum c), (18, I x), (19, sl a sum c), (20, I x)] 4 rfl rfl ?_
  obtain ⟨x22, hi23, hx24, H⟩ := H
  refine LP_index 4 rfl rfl rfl Tryz.underlying22 ti_3 rfl rfl o.readf hi23 hx24 fun a25 cs26 r27 d28 => ?_
  refine LP_load 5 rfl rfl rfl ti_3 ag_3 rfl r27 d28 ex10 fun vx29 r30 => ?_
  obtain rfl := r30.int
  refine LP_ev ok 6 [(23, I sign), (24, I x15), (25, I (wr (sign * x15))), (26, I (wr (x22 + (wr (sign * x15))))), (27, I m), (28, I (wr ((wr (x22 + (wr (sign * x15)))) + m))), (29, I m)] 13 rfl rfl ?_
  obtain ⟨hz, H⟩ := H
  refine LP_val 13 _ rfl rfl (ex_rem rfl rfl rfl hz _) ?_
  obtain ⟨hi31, hl, H⟩ := H
  refine LP_indexw (v := sl a sum c) 14 rfl rfl rfl Tryz.underlying22 ti_3 rfl rfl o hi31 hl fun a32 wa => ?_
  refine LP_set 15 rfl rfl rfl rfl rfl wa (Le.refl emp) ⟨_, rfl, rfl⟩ ex10 fun hx33 wx34 o35 ex36 y dm => ?_
  refine LP_end _ rfl ?_
  refine W_region ?_
  refine LP_ev ok 0 [(32, I (wr (x + 1))), (12, I (wr (x + 1)))] 2 rfl rfl ?_
  exact LP_end _ rfl ⟨(List.set sum7 (Int.toNat x) (Int.tmod (wr ((wr (x22 + (wr (sign * x15)))) + m)) m), wr (x + 1)), ⟨H.1, _, hx33, env_eq ⟨rfl, rfl, rfl, rfl, rfl, rfl, trivial⟩, (X13.step y (DomLe.dom D (f _))), o35, ex36, (fun _ => DomLe.trans (f _) ((dm _)) (Nat.le_refl _)), (ex11.but y d12), (DomLe.dj (dm _) d12 ex11)⟩, H.2⟩
 have H := H.2 hc
 refine W_exit ?_
 refine (if_pos rfl).mpr ?_
 exact ⟨_, Ret_of [] trivial, _, _, H, rfl, X13, o, ex10, (fun _ => f _)⟩

theorem impl_maskOf_w (seeds : List (List Int)) (i : Int) (round : Int) (n : Int) (m : Int) (Q : (List Int) → Prop) (H : impl_maskOf seeds i round n m Q) (w : World) {vx : Value} {hx : PH} (r : RS hx vx seeds) (ex : Sub hx w) :
  CallsTo Tryz.prog 92 #[vx, I i, I round, I n, I m] w fun v w' => ∃ r0 u0 g0, Q r0 ∧ v = u0 ∧ Ext w w' ∧ OS 3 g0 emp u0 r0 ∧ Sub g0 w' ∧ Fresh w.heap.size g0 := by
 obtain ⟨a, c, rfl⟩ := r.shape
 refine enter (args := [sl a seeds c, I i, I round, I n, I m]) 62 Tryz.func92 rfl rfl rfl ?_
 refine W_forget [(0, sl a seeds c), (1, I i), (2, I round), (3, I n), (4, I m)] ⟨rfl, rfl, rfl, rfl, rfl, trivial⟩ fun ρ => ?_
 have X := But.refl emp w
 refine W_seq (W_region ?_)
 refine LP_ev ok 0 [(10, .slice none 0 0)] 1 rfl rfl ?_
 refine LP_end _ rfl (W_seq (W_region ?_))
 refine LP_ev ok 0 [(13, I n)] 1 rfl rfl ?_
 obtain ⟨hn, hb, H⟩ := H
 refine LP_make (α := Int) 1 rfl rfl rfl Tryz.underlying22 ti_3 (x0 := (0 : Int)) rfl rfl hn (by first | omega | (simp only [ln] at *; omega)) (by first | omega | (simp only [ln] at *; omega)) fun hx1 vx2 wx x o ex3 f => ?_
 obtain ⟨a4, c5, rfl⟩ := o.shape
 refine LP_ev ok 2 [(11, .slice a4 (List.length (List.replicate (Int.toNat n) ((0 : Int)))) c5)] 3 rfl rfl ?_
 refine LP_end _ rfl (W_seq ?_)
 refine W_seq (W_region ?_)
 refine LP_ev ok 0 [(15, sl a seeds c), (16, I (ln seeds)), (17, I 0)] 3 rfl rfl ?_
 refine LP_end _ rfl ?_
 refine W_block ?_
 have f17 := f.mono X.size
 obtain ⟨J, m15, Hx, H⟩ := H
 refine W_loop (S := (List Int) × Int) (fun s ρ' w' => J s.1 s.2 ∧ ∃ (ρ : Env) (hx7 : PH), ρ' = setAll [(0, sl a seeds c), (1, I i), (2, I round), (3, I n), (4, I m), (11, .slice a4 (List.length (List.replicate (Int.toNat n) ((0 : Int)))) c5), (16, I (ln seeds)), (17, I s.2)] ρ ∧ But emp w w' ∧ OS 3 hx7 emp (.slice a4 (List.length (List.replicate (Int.toNat n) ((0 : Int)))) c5) s.1 ∧ Sub hx7 w' ∧ Fresh w.heap.size hx7 ∧ Sub hx w' ∧ Dj hx7 hx) (fun s => m15 s.1 s.2) (List.replicate (Int.toNat n) ((0 : Int)), 0) ⟨Hx, _, hx1, env_eq ⟨rfl, rfl, rfl, rfl, rfl, rfl, rfl, rfl, trivial⟩, (X.stepx x), o, ex3, f17, (ex.ext x), (Dj.of_fresh ex f).symm⟩ ?_
 rintro ⟨out, x11⟩ _ wx12 ⟨Hi, ρ, hx7, rfl, HF⟩
 revert HF
 refine bb6 fun X14 o8 ex9 f10 ex13 d => ?_
 have H := H out x11 Hi
 refine W_seq (W_region ?_)
 refine LP_ev ok 0 [(18, .bool (decide (x11 < (ln seeds))))] 1 rfl rfl ?_
 refine LP_end _ rfl (W_seq ?_)
 refine W_cond (decide (x11 < (ln seeds))) rfl (fun hc => ?_) (fun hc => ?_)
 ·have H := H.1 hc
  refine W_skip ?_
  obtain ⟨k, hk, H⟩ := jn_elim H
  refine W_join2 (S := (List Int)) (fun s ρ' w' => k s ∧ ∃ (ρ : Env) (hx21 : PH), ρ' = setAll [(0, sl a seeds c), (1, I i), (2, I round), (3, I n), (4, I m), (11, .slice a4 (List.length (List.replicate (Int.toNat n) ((0 : Int)))) c5), (16, I (ln seeds)), (17, I x11)] ρ ∧ But emp w w' ∧ OS 3 hx21 emp (.slice a4 (List.length (List.replicate (Int.toNat n) ((0 : Int)))) c5) s ∧ Sub hx21 w' ∧ Fresh w.heap.size hx21 ∧ Sub hx w' ∧ Dj hx21 hx) ?_ ?_
  ·refine W_block ?_
   refine W_seq (W_region ?_)
   refine LP_ev ok 0 [(19, I x11), (12, I x11)] 2 rfl rfl ?_
   refine LP_end _ rfl ?_
   refine W_block ?_
   refine W_seq (W_region ?_)
   refine LP_ev ok 0 [(21, I x11), (22, I i), (23, .bool (decide (x11 > i))), (20, .bool (decide (x11 > i)))] 4 rfl rfl ?_
   refine LP_end _ rfl ?_
   refine W_cond (decide (x11 > i)) rfl (fun hc29 => ?_) (fun hc29 => ?_)
   ·have H := H.1 hc29
    refine W_region ?_
    refine LP_ev ok 0 [(24, .slice a4 (List.length (List.replicate (Int.toNat n) ((0 : Int)))) c5), (25, sl a seeds c), (26, I i)] 3 rfl rfl ?_
    obtain ⟨x30, hi, hx31, H⟩ := H
    refine LP_index 3 rfl rfl rfl Tryz.underlying29 ti_22 rfl rfl r hi hx31 fun a32 cs r33 d34 => ?_
    refine LP_load 4 rfl rfl rfl ti_22 ag_22 rfl r33 d34 ex13 fun vx35 r36 => ?_
    have r39 := r36.slice
    obtain ⟨a37, c38, rfl⟩ := r39.shape
    refine LP_ev ok 5 [(29, I x11)] 6 rfl rfl ?_
    obtain ⟨x40, hi41, hx42, H⟩ := H
    refine LP_index 6 rfl rfl rfl Tryz.underlying22 ti_3 rfl rfl r39 hi41 hx42 fun a43 cs44 r45 d46 => ?_
    refine LP_load 7 rfl rfl rfl ti_3 ag_3 rfl r45 d46 ex13 fun vx47 r48 => ?_
    obtain rfl := r48.int
    refine LP_ev ok 8 [(32, I i), (33, I x11), (34, I round), (35, I n), (36, I m)] 13 rfl rfl ?_
    refine LP_call 13 rfl rfl rfl cal_120 rfl (impl_pairMask_w _ _ _ _ _ _ _ H wx12 ) ?_
    rintro _ wx50 ⟨r49, vx52, hx53, H, rfl, x51, o54, ex55, f56⟩
    obtain ⟨a57, c58, rfl⟩ := o54.shape
    refine LP_ev ok 14 [(38, I m)] 15 rfl rfl ?_
    refine LP_call 15 rfl rfl rfl cal_78 rfl (impl_combine_w _ _ _ _ _ H wx50 o8 (ex9.ext x51) o54.readf ex55 (Dj.of_fresh ex9 f56)) ?_
    rintro _ wx61 ⟨r59, hx63, H, rfl, x62, o64, ex65, dm⟩
    refine LP_end _ rfl ?_
    have f67 := (dm _).fresh f10 (X14.stepx x51).size
    exact ⟨r59, H, _, hx63, env_eq ⟨rfl, rfl, rfl, rfl, rfl, rfl, rfl, rfl, trivial⟩, ((X14.stepx x51).step x62 (f10.dom _)), o64, ex65, f67, ((ex13.ext x51).but x62 d), (DomLe.dj (dm _) d (ex13.ext x51))⟩
   have H := H.2 hc29
   refine W_seq (W_region ?_)
   refine LP_ev ok 0 [(41, I x11), (42, I i), (43, .bool (decide (x11 < i))), (40, .bool (decide (x11 < i)))] 4 rfl rfl ?_
   refine LP_end _ rfl ?_
   refine W_cond (decide (x11 < i)) rfl (fun hc71 => ?_) (fun hc71 => ?_)
   ·have H := H.1 hc71
    refine W_region ?_
    refine LP_ev ok 0 [(44, .slice a4 (List.length (List.replicate (Int.toNat n) ((0 : Int)))) c5), (45, sl a seeds c), (46, I i)] 3 rfl rfl ?_
    obtain ⟨x72, hi73, hx74, H⟩ := H
    refine LP_index 3 rfl rfl rfl Tryz.underlying29 ti_22 rfl rfl r hi73 hx74 fun a75 cs76 r77 d78 => ?_
    refine LP_load 4 rfl rfl rfl ti_22 ag_22 rfl r77 d78 ex13 fun vx79 r80 => ?_
    have r83 := r80.slice
    obtain ⟨a81, c82, rfl⟩ := r83.shape
    refine LP_ev ok 5 [(49, I x11)] 6 rfl rfl ?_
    obtain ⟨x84, hi85, hx86, H⟩ := H
    refine LP_index 6 rfl rfl rfl Tryz.underlying22 ti_3 rfl rfl r83 hi85 hx86 fun a87 cs88 r89 d90 => ?_
    refine LP_load 7 rfl rfl rfl ti_3 ag_3 rfl r89 d90 ex13 fun vx91 r92 => ?_
    obtain rfl := r92.int
    refine LP_ev ok 8 [(52, I x11), (53, I i), (54, I round), (55, I n), (56, I m)] 13 rfl rfl ?_
    refine LP_call 13 rfl rfl rfl cal_120 rfl (impl_pairMask_w _ _ _ _ _ _ _ H wx12 ) ?_
    rintro _ wx94 ⟨r93, vx96, hx97, H, rfl, x95, o98, ex99, f100⟩
    obtain ⟨a101, c102, rfl⟩ := o98.shape
    refine LP_ev ok 14 [(58, I m)] 15 rfl rfl ?_
    refine LP_call 15 rfl rfl rfl cal_78 rfl (impl_combine_w _ _ _ _ _ H wx94 o8 (ex9.ext x95) o98.readf ex99 (Dj.of_fresh ex9 f100)) ?_
    rintro _ wx105 ⟨r103, hx107, H, rfl, x106, o108, ex109, dm110⟩
    refine LP_end _ rfl ?_
    try refine W_forget [(0, sl a seeds c), (1, I i), (2, I round), (3, I n), (4, I m), (11, .slice a4 (List.length (List.replicate (Int.toNat n) ((0 : Int)))) c5), (16, I (ln seeds)), (17, I x11)] ⟨rfl, rfl, rfl, rfl, rfl, rfl, rfl, rfl, trivial⟩ fun ρ => ?_
    have f112 := (dm110 _).fresh f10 (X14.stepx x95).size
    exact ⟨r103, H, _, hx107, env_eq ⟨rfl, rfl, rfl, rfl, rfl, rfl, rfl, rfl, trivial⟩, ((X14.stepx x95).step x106 (f10.dom _)), o108, ex109, f112, ((ex13.ext x95).but x106 d), (DomLe.dj (dm110 _) d (ex13.ext x95))⟩
   have H := H.2 hc71
   exact W_skip ⟨out, H, _, hx7, env_eq ⟨rfl, rfl, rfl, rfl, rfl, rfl, rfl, rfl, trivial⟩, X14, o8, ex9, f10, ex13, d⟩
  rintro out19 _ wx25 ⟨H, ρ, hx21, rfl, HF⟩
  revert HF
  refine bb6 fun X28 o22 ex23 f24 ex26 d27 => ?_
  subst hk
  refine W_region ?_
  refine LP_ev ok 0 [(60, I (wr (x11 + 1))), (17, I (wr (x11 + 1)))] 2 rfl rfl ?_
  exact LP_end _ rfl ⟨(out19, wr (x11 + 1)), ⟨H.1, _, hx21, env_eq ⟨rfl, rfl, rfl, rfl, rfl, rfl, rfl, rfl, trivial⟩, X28, o22, ex23, f24, ex26, d27⟩, H.2⟩
 have H := H.2 hc
 refine W_exit ?_
 refine (if_pos rfl).mpr ?_
 refine W_seq (W_region ?_)
 refine LP_ev ok 0 [(61, .slice a4 (List.length (List.replicate (Int.toNat n) ((0 : Int)))) c5), (10, .slice a4 (List.length (List.replicate (Int.toNat n) ((0 : Int)))) c5)] 2 rfl rfl ?_
 refine LP_end _ rfl (W_ret ?_)
 exact ⟨_, Ret_of [.slice a4 (List.length (List.replicate (Int.toNat n) ((0 : Int)))) c5] ⟨⟨rfl, rfl⟩, trivial⟩, _, _, _, H, rfl, X14.ext, o8, ex9, f10⟩

theorem impl_shareOf_w (seeds : List (List Int)) (i : Int) (round : Int) (m : Int) (values : List Int) (Q : (List Int) → Prop) (H : impl_shareOf seeds i round m values Q) (w : World) {vx : Value} {hx : PH} (r : RS hx vx seeds) (ex : Sub hx w) {vx1 : Value} {hx2 : PH} (r3 : RS hx2 vx1 values) (ex4 : Sub hx2 w) :
  CallsTo Tryz.prog 59 #[vx, I i, I round, I m, vx1] w fun v w' => ∃ r0 u0 g0, Q r0 ∧ v = u0 ∧ Ext w w' ∧ OS 3 g0 emp u0 r0 ∧ Sub g0 w' ∧ Fresh w.heap.size g0 := by
 obtain ⟨a, c, rfl⟩ := r.shape
 obtain ⟨a5, c6, rfl⟩ := r3.shape
 refine enter (args := [sl a seeds c, I i, I round, I m, sl a5 values c6]) 24 Tryz.func59 rfl rfl rfl ?_
 refine W_forget [(0, sl a seeds c), (1, I i), (2, I round), (3, I m), (4, sl a5 values c6)] ⟨rfl, rfl, rfl, rfl, rfl, trivial⟩ fun ρ => ?_
 have X := But.refl emp w
 refine W_seq (W_region ?_)
 refine LP_ev ok 0 [(10, .slice none 0 0)] 1 rfl rfl ?_
 refine LP_end _ rfl (W_seq (W_region ?_))
 refine LP_ev ok 0 [(12, sl a seeds c), (13, I i), (14, I round), (15, sl a5 values c6), (16, I (ln values)), (17, I m)] 6 rfl rfl ?_
 refine LP_call 6 rfl rfl rfl cal_92 rfl (impl_maskOf_w _ _ _ _ _ _ H w r ex) ?_
 rintro _ wx ⟨r7, vx8, hx9, H, rfl, x, o, ex10, f⟩
 obtain ⟨a11, c12, rfl⟩ := o.shape
 refine LP_ev ok 7 [(11, sl a11 r7 c12)] 8 rfl rfl ?_
 refine LP_end _ rfl (W_seq (W_region ?_))
 refine LP_ev ok 0 [(19, sl a11 r7 c12), (20, sl a5 values c6), (21, I m)] 3 rfl rfl ?_
 refine LP_call 3 rfl rfl rfl cal_78 rfl (impl_combine_w _ _ _ _ _ H wx o ex10 r3 (ex4.ext x) (Dj.of_fresh ex4 f).symm) ?_
 rintro _ wx15 ⟨r13, hx17, H, rfl, x16, o18, ex19, dm⟩
 refine LP_end _ rfl (W_seq (W_region ?_))
 refine LP_ev ok 0 [(23, sl a11 r7 c12), (10, sl a11 r7 c12)] 2 rfl rfl ?_
 refine LP_end _ rfl (W_ret ?_)
 have f21 := f.mono X.size
 have X22 := (X.stepx x)
 have f20 := (dm _).fresh f21 X22.size
 exact ⟨_, Ret_of [sl a11 r7 c12] ⟨⟨rfl, rfl⟩, trivial⟩, _, _, _, H, rfl, (X22.step x16 (f21.dom _)).ext, o18, ex19, f20⟩

theorem impl_sumOfShares_w (m : Int) (shares : List (List Int)) (Q : (List Int) → Prop) (H : impl_sumOfShares m shares Q) (w : World) {vx : Value} {hx : PH} (r : RS hx vx shares) (ex : Sub hx w) :
  CallsTo Tryz.prog 60 #[I m, vx] w fun v w' => ∃ r0 u0 g0, Q r0 ∧ v = u0 ∧ Ext w w' ∧ OS 3 g0 emp u0 r0 ∧ Sub g0 w' ∧ Fresh w.heap.size g0 := by
 obtain ⟨a, c, rfl⟩ := r.shape
 refine enter (args := [I m, sl a shares c]) 25 Tryz.func60 rfl rfl rfl ?_
 refine W_forget [(0, I m), (1, sl a shares c)] ⟨rfl, rfl, trivial⟩ fun ρ => ?_
 have X := But.refl emp w
 refine W_seq (W_region ?_)
 refine LP_ev ok 0 [(4, .slice none 0 0)] 1 rfl rfl ?_
 refine LP_end _ rfl (W_seq (W_region ?_))
 refine LP_ev ok 0 [(8, sl a shares c)] 1 rfl rfl ?_
 obtain ⟨x, hi, hx1, H⟩ := H
 refine LP_index 1 rfl rfl rfl Tryz.underlying29 ti_22 rfl rfl r hi hx1 fun a2 cs r3 d => ?_
 refine LP_load 2 rfl rfl rfl ti_22 ag_22 rfl r3 d ex fun vx4 r5 => ?_
 have r8 := r5.slice
 obtain ⟨a6, c7, rfl⟩ := r8.shape
 refine LP_ev ok 3 [(11, I (ln x))] 4 rfl rfl ?_
 obtain ⟨hn, hb, H⟩ := H
 refine LP_make (α := Int) 4 rfl rfl rfl Tryz.underlying22 ti_3 (x0 := (0 : Int)) rfl rfl hn (by first | omega | (simp only [ln] at *; omega)) (by first | omega | (simp only [ln] at *; omega)) fun hx9 vx10 wx x11 o ex12 f => ?_
 obtain ⟨a13, c14, rfl⟩ := o.shape
 refine LP_ev ok 5 [(5, .slice a13 (List.length (List.replicate (Int.toNat (ln x)) ((0 : Int)))) c14)] 6 rfl rfl ?_
 refine LP_end _ rfl (W_seq ?_)
 refine W_seq (W_region ?_)
 refine LP_ev ok 0 [(13, sl a shares c), (14, I (ln shares)), (15, I 0)] 3 rfl rfl ?_
 refine LP_end _ rfl ?_
 refine W_block ?_
 have f27 := f.mono X.size
 obtain ⟨J, m25, Hx, H⟩ := H
 refine W_loop (S := (List Int) × Int) (fun s ρ' w' => J s.1 s.2 ∧ ∃ (ρ : Env) (hx16 : PH), ρ' = setAll [(0, I m), (5, .slice a13 (List.length (List.replicate (Int.toNat (ln x)) ((0 : Int)))) c14), (13, sl a shares c), (14, I (ln shares)), (15, I s.2)] ρ ∧ But emp w w' ∧ OS 3 hx16 emp (.slice a13 (List.length (List.replicate (Int.toNat (ln x)) ((0 : Int)))) c14) s.1 ∧ Sub hx16 w' ∧ Fresh w.heap.size hx16 ∧ Sub hx w' ∧ Dj hx16 hx) (fun s => m25 s.1 s.2) (List.replicate (Int.toNat (ln x)) ((0 : Int)), 0) ⟨Hx, _, hx9, env_eq ⟨rfl, rfl, rfl, rfl, rfl, trivial⟩, (X.stepx x11), o, ex12, f27, (ex.ext x11), (Dj.of_fresh ex f).symm⟩ ?_
 rintro ⟨out, x20⟩ _ wx21 ⟨Hi, ρ, hx16, rfl, HF⟩
 revert HF
 refine bb6 fun X24 o17 ex18 f19 ex22 d23 => ?_
 have H := H out x20 Hi
 refine W_seq (W_region ?_)
 refine LP_ev ok 0 [(16, .bool (decide (x20 < (ln shares))))] 1 rfl rfl ?_
 refine LP_end _ rfl (W_seq ?_)
 refine W_cond (decide (x20 < (ln shares))) rfl (fun hc => ?_) (fun hc => ?_)
 ·have H := H.1 hc
  refine W_skip ?_
  refine W_seq ?_
  refine W_block ?_
  refine W_seq (W_region ?_)
  obtain ⟨x29, hi30, hx31, H⟩ := H
  refine LP_index 0 rfl rfl rfl Tryz.underlying29 ti_22 rfl rfl r hi30 hx31 fun a32 cs33 r34 d35 => ?_
  refine LP_load 1 rfl rfl rfl ti_22 ag_22 rfl r34 d35 ex22 fun vx36 r37 => ?_
  have r40 := r37.slice
  obtain ⟨a38, c39, rfl⟩ := r40.shape
  refine LP_ev ok 2 [(7, sl a38 x29 c39)] 3 rfl rfl ?_
  refine LP_end _ rfl ?_
  refine W_region ?_
  refine LP_ev ok 0 [(19, .slice a13 (List.length (List.replicate (Int.toNat (ln x)) ((0 : Int)))) c14), (20, sl a38 x29 c39), (21, I m)] 3 rfl rfl ?_
  refine LP_call 3 rfl rfl rfl cal_78 rfl (impl_combine_w _ _ _ _ _ H wx21 o17 ex18 r40 ex22 d23) ?_
  rintro _ wx42 ⟨r41, hx44, H, rfl, x43, o45, ex46, dm⟩
  refine LP_end _ rfl ?_
  refine W_region ?_
  refine LP_ev ok 0 [(23, I (wr (x20 + 1))), (15, I (wr (x20 + 1)))] 2 rfl rfl ?_
  refine LP_end _ rfl ?_
  have f48 := (dm _).fresh f19 X24.size
  exact ⟨(r41, wr (x20 + 1)), ⟨H.1, _, hx44, env_eq ⟨rfl, rfl, rfl, rfl, rfl, trivial⟩, (X24.step x43 (f19.dom _)), o45, ex46, f48, (ex22.but x43 d23), (DomLe.dj (dm _) d23 ex22)⟩, H.2⟩
 have H := H.2 hc
 refine W_exit ?_
 refine (if_pos rfl).mpr ?_
 refine W_seq (W_region ?_)
 refine LP_ev ok 0 [(24, .slice a13 (List.length (List.replicate (Int.toNat (ln x)) ((0 : Int)))) c14), (4, .slice a13 (List.length (List.replicate (Int.toNat (ln x)) ((0 : Int)))) c14)] 2 rfl rfl ?_
 refine LP_end _ rfl (W_ret ?_)
 exact ⟨_, Ret_of [.slice a13 (List.length (List.replicate (Int.toNat (ln x)) ((0 : Int)))) c14] ⟨⟨rfl, rfl⟩, trivial⟩, _, _, _, H, rfl, X24.ext, o17, ex18, f19⟩

theorem impl_FederatedCells_w (g : Geo) (sx : List Variable) (t : Table) (sites : List (List Record)) (seeds : List (List Int)) (round : Int) (m : Int) (Q : (List Int) → Bool → Prop) (H : impl_FederatedCells g sx t sites seeds round m Q) (w : World) {vx : Value} {hx : PH} (r : RS hx vx g.Parents) (ex : Sub hx w) {vx1 : Value} {hx2 : PH} (r3 : RS hx2 vx1 sx) (ex4 : Sub hx2 w) {vx7 : Value} {hx8 : PH} (r9 : RS hx8 vx7 t.Vars) (ex10 : Sub hx8 w) {vx13 : Value} {hx14 : PH} (r15 : RS hx14 vx13 t.Where) (ex16 : Sub hx14 w) {vx19 : Value} {hx20 : PH} (r21 : RS hx20 vx19 sites) (ex22 : Sub hx20 w) {vx25 : Value} {hx26 : PH} (r27 : RS hx26 vx25 seeds) (ex28 : Sub hx26 w) :
  CallsTo Tryz.prog 16 #[.agg #[vx], vx1, .agg #[I t.Level, vx7, vx13, I t.Sum], vx19, vx25, I round, I m] w fun v w' => ∃ r0 r1 u0 g0, Q r0 r1 ∧ v = .tuple #[u0, .bool r1] ∧ Ext w w' ∧ OS 3 g0 emp u0 r0 ∧ Sub g0 w' ∧ Fresh w.heap.size g0 := by
 obtain ⟨a, c, rfl⟩ := r.shape
 obtain ⟨a5, c6, rfl⟩ := r3.shape
 obtain ⟨a11, c12, rfl⟩ := r9.shape
 obtain ⟨a17, c18, rfl⟩ := r15.shape
 obtain ⟨a23, c24, rfl⟩ := r21.shape
 obtain ⟨a29, c30, rfl⟩ := r27.shape
 refine enter (args := [.agg #[sl a g.Parents c], sl a5 sx c6, .agg #[I t.Level, sl a11 t.Vars c12, sl a17 t.Where c18, I t.Sum], sl a23 sites c24, sl a29 seeds c30, I round, I m]) 80 Tryz.func16 rfl rfl rfl ?_
 refine W_forget [(0, .agg #[sl a g.Parents c]), (1, sl a5 sx c6), (2, .agg #[I t.Level, sl a11 t.Vars c12, sl a17 t.Where c18, I t.Sum]), (3, sl a23 sites c24), (4, sl a29 seeds c30), (5, I round), (6, I m)] ⟨rfl, rfl, rfl, rfl, rfl, rfl, rfl, trivial⟩ fun ρ => ?_
 have X := But.refl emp w
 refine W_seq (W_region ?_)
 refine LP_box 0 (cs := [sl a g.Parents c]) rfl rfl rfl rfl rfl fun b wx x ex31 f => ?_
 refine LP_box 1 (cs := [I t.Level, sl a11 t.Vars c12, sl a17 t.Where c18, I t.Sum]) rfl rfl rfl rfl rfl fun b32 wx33 x34 ex35 f36 => ?_
 refine LP_ev ok 2 [(14, .slice none 0 0), (15, .bool false)] 4 rfl rfl ?_
 refine LP_end _ rfl (W_seq (W_region ?_))
 refine LP_ldbox 0 (v := .agg #[sl a g.Parents c]) rfl rfl rfl ti_37 ag_37 (fun h => by cases h) rfl (ex31.ext x34) rfl rfl ?_
 refine LP_ev ok 1 [(23, sl a5 sx c6)] 2 rfl rfl ?_
 refine LP_ldbox 2 (v := .agg #[I t.Level, sl a11 t.Vars c12, sl a17 t.Where c18, I t.Sum]) rfl rfl rfl ti_41 ag_41 (fun h => by cases h) rfl ex35 rfl rfl ?_
 refine LP_ev ok 3 [(25, sl a23 sites c24)] 4 rfl rfl ?_
 have xc := (x.trans x34)
 refine LP_call 4 rfl rfl rfl cal_54 rfl (impl_siteCells_w _ _ _ _ _ H wx33 r (ex.ext xc) r3 (ex4.ext xc) r9 (ex10.ext xc) r15 (ex16.ext xc) r21 (ex22.ext xc)) ?_
 rintro _ wx45 ⟨r38, r39, vx47, hx48, H, rfl, x46, o, ex49, f50⟩
 obtain ⟨a51, c52, rfl⟩ := o.shape
 refine LP_ev ok 5 [(21, .tuple #[sl a51 r38 c52, .bool r39]), (27, sl a51 r38 c52), (28, .bool r39), (16, sl a51 r38 c52), (17, .bool r39)] 10 rfl rfl ?_
 refine LP_end _ rfl (W_seq ?_)
 obtain ⟨k, hk, H⟩ := jn_elim H
 refine W_join2 (S := Bool) (fun s ρ' w' => k s ∧ ∃ (ρ : Env), ρ' = setAll [(4, sl a29 seeds c30), (5, I round), (6, I m), (16, sl a51 r38 c52), (52, .bool s)] ρ ∧ But emp w w' ∧ Sub hx26 w' ∧ Sub hx48 w') ?_ ?_
 ·refine W_region ?_
  refine LP_ev ok 0 [(29, .bool r39), (30, .bool (!r39)), (31, .bool (!r39))] 3 rfl rfl ?_
  refine LP_split 31 (!r39) rfl (fun hc => ?_) (fun hc => ?_)
  ·have H := H.1 hc
   refine LP_ev ok 3 [(32, undef), (33, undef), (34, undef), (35, .bool true), (36, .bool true), (37, undef), (38, undef), (39, undef), (40, undef), (41, undef), (42, .bool true), (43, .bool true), (44, undef), (45, undef), (46, undef), (47, .bool true), (48, .bool true), (49, undef), (50, undef), (51, undef), (52, .bool true)] 24 rfl rfl ?_
   refine LP_end _ rfl ?_
   try refine W_forget [(4, sl a29 seeds c30), (5, I round), (6, I m), (16, sl a51 r38 c52), (52, .bool true)] ⟨rfl, rfl, rfl, rfl, rfl, trivial⟩ fun ρ => ?_
   have xc58 := (xc.trans x46)
   exact ⟨true, H, _, env_eq ⟨rfl, rfl, rfl, rfl, rfl, trivial⟩, (X.stepx xc58), (ex28.ext xc58), ex49⟩
  have H := H.2 hc
  refine LP_ev ok 3 [(32, sl a29 seeds c30)] 4 rfl rfl ?_
  have xc62 := (xc.trans x46)
  have ex63 := (ex28.ext xc62)
  refine LP_call 4 rfl rfl rfl cal_55 rfl (impl_areSeedRows_w _ _ H wx45 r27 ex63) ?_
  rintro _ wx64 ⟨r61, H, rfl, x65⟩
  refine LP_ev ok 5 [(34, .bool (!r61)), (35, .bool (!r61)), (36, .bool (!r61))] 8 rfl rfl ?_
  refine LP_split 36 (!r61) rfl (fun hc66 => ?_) (fun hc66 => ?_)
  ·have H := H.1 hc66
   refine LP_ev ok 8 [(37, undef), (38, undef), (39, undef), (40, undef), (41, undef), (42, .bool true), (43, .bool true), (44, undef), (45, undef), (46, undef), (47, .bool true), (48, .bool true), (49, undef), (50, undef), (51, undef), (52, .bool true)] 24 rfl rfl ?_
   refine LP_end _ rfl ?_
   try refine W_forget [(4, sl a29 seeds c30), (5, I round), (6, I m), (16, sl a51 r38 c52), (52, .bool true)] ⟨rfl, rfl, rfl, rfl, rfl, trivial⟩ fun ρ => ?_
   exact ⟨true, H, _, env_eq ⟨rfl, rfl, rfl, rfl, rfl, trivial⟩, (X.stepx (xc62.trans x65)), (ex63.ext x65), (ex49.ext x65)⟩
  have H := H.2 hc66
  refine LP_ev ok 8 [(37, sl a29 seeds c30), (38, I (ln seeds)), (39, sl a23 sites c24), (40, I (ln sites)), (41, .bool ((ln seeds) != (ln sites))), (42, .bool ((ln seeds) != (ln sites))), (43, .bool ((ln seeds) != (ln sites)))] 15 rfl rfl ?_
  refine LP_split 43 ((ln seeds) != (ln sites)) rfl (fun hc71 => ?_) (fun hc71 => ?_)
  ·have H := H.1 hc71
   refine LP_ev ok 15 [(44, undef), (45, undef), (46, undef), (47, .bool true), (48, .bool true), (49, undef), (50, undef), (51, undef), (52, .bool true)] 24 rfl rfl ?_
   refine LP_end _ rfl ?_
   try refine W_forget [(4, sl a29 seeds c30), (5, I round), (6, I m), (16, sl a51 r38 c52), (52, .bool true)] ⟨rfl, rfl, rfl, rfl, rfl, trivial⟩ fun ρ => ?_
   exact ⟨true, H, _, env_eq ⟨rfl, rfl, rfl, rfl, rfl, trivial⟩, (X.stepx (xc62.trans x65)), (ex63.ext x65), (ex49.ext x65)⟩
  have H := H.2 hc71
  refine LP_ev ok 15 [(44, I round)] 16 rfl rfl ?_
  refine LP_call 16 rfl rfl rfl cal_56 rfl (impl_isRound_w _ _ H wx64 ) ?_
  rintro _ wx77 ⟨r76, H, rfl, x78⟩
  refine LP_ev ok 17 [(46, .bool (!r76)), (47, .bool (!r76)), (48, .bool (!r76))] 20 rfl rfl ?_
  refine LP_split 48 (!r76) rfl (fun hc79 => ?_) (fun hc79 => ?_)
  ·have H := H.1 hc79
   refine LP_ev ok 20 [(49, undef), (50, undef), (51, undef), (52, .bool true)] 24 rfl rfl ?_
   refine LP_end _ rfl ?_
   try refine W_forget [(4, sl a29 seeds c30), (5, I round), (6, I m), (16, sl a51 r38 c52), (52, .bool true)] ⟨rfl, rfl, rfl, rfl, rfl, trivial⟩ fun ρ => ?_
   have xc82 := (x65.trans x78)
   exact ⟨true, H, _, env_eq ⟨rfl, rfl, rfl, rfl, rfl, trivial⟩, (X.stepx ((((x.trans x34).trans x46).trans x65).trans x78)), (ex63.ext xc82), (ex49.ext xc82)⟩
  have H := H.2 hc79
  refine LP_ev ok 20 [(49, I m)] 21 rfl rfl ?_
  refine LP_call 21 rfl rfl rfl cal_57 rfl (impl_isModulus_w _ _ H wx77 ) ?_
  rintro _ wx86 ⟨r85, H, rfl, x87⟩
  refine LP_ev ok 22 [(51, .bool (!r85)), (52, .bool (!r85))] 24 rfl rfl ?_
  refine LP_end _ rfl ?_
  try refine W_forget [(4, sl a29 seeds c30), (5, I round), (6, I m), (16, sl a51 r38 c52), (52, .bool (!r85))] ⟨rfl, rfl, rfl, rfl, rfl, trivial⟩ fun ρ => ?_
  have xc90 := ((x65.trans x78).trans x87)
  exact ⟨!r85, H, _, env_eq ⟨rfl, rfl, rfl, rfl, rfl, trivial⟩, (X.stepx (((((x.trans x34).trans x46).trans x65).trans x78).trans x87)), (ex63.ext xc90), (ex49.ext xc90)⟩
 rintro x53 _ wx54 ⟨H, ρ, rfl, X57, ex55, ex56⟩
 subst hk
 refine W_cond (x53) rfl (fun hc93 => ?_) (fun hc93 => ?_)
 ·have H := H.1 hc93
  refine W_seq (W_region ?_)
  refine LP_ev ok 0 [(14, .slice none 0 0), (15, .bool false)] 2 rfl rfl ?_
  refine LP_end _ rfl (W_ret ?_)
  exact ⟨_, Ret_of [.slice none 0 0, .bool false] ⟨⟨rfl, rfl⟩, ⟨rfl, rfl⟩, trivial⟩, _, _, _, emp, H, rfl, X57.ext, OS.nil, (emp_sub _), (emp_fresh _)⟩
 have H := H.2 hc93
 refine W_skip ?_
 refine W_seq (W_region ?_)
 refine LP_ev ok 0 [(53, sl a51 r38 c52), (54, I (ln r38))] 2 rfl rfl ?_
 obtain ⟨hn, hb, H⟩ := H
 refine LP_maked (β := Int) 2 rfl rfl rfl Tryz.underlying29 ti_22 rfl hn (by first | omega | (simp only [ln] at *; omega)) (by first | omega | (simp only [ln] at *; omega)) fun hx94 vx95 wx96 x97 o98 ex99 f100 => ?_
 obtain ⟨a101, c102, rfl⟩ := o98.shape
 refine LP_ev ok 3 [(18, .slice a101 (List.length (List.replicate (Int.toNat (ln r38)) (([] : List Int)))) c102)] 4 rfl rfl ?_
 refine LP_end _ rfl (W_seq ?_)
 refine W_seq (W_region ?_)
 refine LP_ev ok 0 [(56, sl a51 r38 c52), (57, I (ln r38)), (58, I 0)] 3 rfl rfl ?_
 refine LP_end _ rfl ?_
 refine W_block ?_
 have f116 := f100.mono X57.size
 obtain ⟨J, m114, Hx, H⟩ := H
 refine W_loop (S := (List (List Int)) × Int) (fun s ρ' w' => J s.1 s.2 ∧ ∃ (ρ : Env) (hx104 : PH), ρ' = setAll [(4, sl a29 seeds c30), (5, I round), (6, I m), (18, .slice a101 (List.length (List.replicate (Int.toNat (ln r38)) (([] : List Int)))) c102), (56, sl a51 r38 c52), (57, I (ln r38)), (58, I s.2)] ρ ∧ But emp w w' ∧ OD hx104 (.slice a101 (List.length (List.replicate (Int.toNat (ln r38)) (([] : List Int)))) c102) s.1 ∧ Sub hx104 w' ∧ Fresh w.heap.size hx104 ∧ Sub hx26 w' ∧ Sub hx48 w' ∧ Dj hx104 hx26 ∧ Dj hx104 hx48) (fun s => m114 s.1 s.2) (List.replicate (Int.toNat (ln r38)) (([] : List Int)), 0) ⟨Hx, _, hx94, env_eq ⟨rfl, rfl, rfl, rfl, rfl, rfl, rfl, trivial⟩, (X57.stepx x97), o98, ex99, f116, (ex55.ext x97), (ex56.ext x97), (Dj.of_fresh ex55 f100).symm, (Dj.of_fresh ex56 f100).symm⟩ ?_
 rintro ⟨shares, x108⟩ _ wx109 ⟨Hi, ρ, hx104, rfl, HF⟩
 revert HF
 refine bb8 fun X113 o105 ex106 f107 ex110 ex111 d d112 => ?_
 have H := H shares x108 Hi
 refine W_seq (W_region ?_)
 refine LP_ev ok 0 [(59, .bool (decide (x108 < (ln r38))))] 1 rfl rfl ?_
 refine LP_end _ rfl (W_seq ?_)
 refine W_cond (decide (x108 < (ln r38))) rfl (fun hc119 => ?_) (fun hc119 => ?_)
 ·have H := H.1 hc119
  refine W_skip ?_
  refine W_seq ?_
  refine W_block ?_
  refine W_seq (W_region ?_)
  refine LP_ev ok 0 [(60, I x108)] 1 rfl rfl ?_
  obtain ⟨x120, hi, hx121, H⟩ := H
  refine LP_index 1 rfl rfl rfl Tryz.underlying29 ti_22 rfl rfl o.readf hi hx121 fun a122 cs r123 d124 => ?_
  refine LP_load 2 rfl rfl rfl ti_22 ag_22 rfl r123 d124 ex111 fun vx125 r126 => ?_
  have r129 := r126.slice
  obtain ⟨a127, c128, rfl⟩ := r129.shape
  refine LP_ev ok 3 [(19, I x108), (20, sl a127 x120 c128)] 5 rfl rfl ?_
  refine LP_end _ rfl (W_seq ?_)
  refine W_seq (W_region ?_)
  refine LP_ev ok 0 [(63, sl a127 x120 c128), (64, I m)] 2 rfl rfl ?_
  refine LP_call 2 rfl rfl rfl cal_58 rfl (impl_areResidues_w _ _ _ H wx109 r129 ex111) ?_
  rintro _ wx131 ⟨r130, H, rfl, x132⟩
  refine LP_ev ok 3 [(66, .bool (!r130))] 4 rfl rfl ?_
  refine LP_end _ rfl ?_
  refine W_cond (!r130) rfl (fun hc133 => ?_) (fun hc133 => ?_)
  ·have H := H.1 hc133
   refine W_seq (W_region ?_)
   refine LP_ev ok 0 [(14, .slice none 0 0), (15, .bool false)] 2 rfl rfl ?_
   refine LP_end _ rfl (W_ret ?_)
   exact ⟨_, Ret_of [.slice none 0 0, .bool false] ⟨⟨rfl, rfl⟩, ⟨rfl, rfl⟩, trivial⟩, _, _, _, emp, H, rfl, (X113.stepx x132).ext, OS.nil, (emp_sub _), (emp_fresh _)⟩
  have H := H.2 hc133
  refine W_skip ?_
  refine W_region ?_
  refine LP_ev ok 0 [(67, .slice a101 (List.length (List.replicate (Int.toNat (ln r38)) (([] : List Int)))) c102), (68, I x108), (69, sl a29 seeds c30), (70, I x108), (71, I round), (72, I m), (73, sl a127 x120 c128)] 7 rfl rfl ?_
  have ex136 := (ex110.ext x132)
  have ex137 := (ex111.ext x132)
  refine LP_call 7 rfl rfl rfl cal_59 rfl (impl_shareOf_w _ _ _ _ _ _ H wx131 r27 ex136 r129 ex137) ?_
  rintro _ wx138 ⟨r135, vx140, hx141, H, rfl, x139, o142, ex143, f144⟩
  obtain ⟨a145, c146, rfl⟩ := o142.shape
  obtain ⟨hi147, hl, H⟩ := H
  refine LP_indexd (v := .slice a101 (List.length (List.replicate (Int.toNat (ln r38)) (([] : List Int)))) c102) 8 rfl rfl rfl Tryz.underlying29 ti_22 rfl rfl o105 hi147 hl fun a148 wa => ?_
  have xc154 := (x132.trans x139)
  refine LP_setD (y := r135) 9 rfl rfl rfl rfl rfl wa (OD.rvo (OS.od o142)) (ex106.ext xc154) ex143 (Dj.of_fresh (ex106.ext x132) f144) fun hx149 hw wx150 o151 ex152 y dh dq ex153 => ?_
  refine LP_end _ rfl ?_
  refine W_region ?_
  refine LP_ev ok 0 [(76, I (wr (x108 + 1))), (58, I (wr (x108 + 1)))] 2 rfl rfl ?_
  refine LP_end _ rfl ?_
  have f158 := f144.mono (X113.stepx x132).size
  have f160 := Fresh.domOf (Fresh.un f107 f158) dq
  exact ⟨(List.set shares (Int.toNat x108) r135, wr (x108 + 1)), ⟨H.1, _, hx149, env_eq ⟨rfl, rfl, rfl, rfl, rfl, rfl, rfl, trivial⟩, ((X113.stepx xc154).step (But.dom y dh) (f107.dom _)), o151, ex152, f160, ((ex136.ext x139).but (But.dom y dh) d), ((ex137.ext x139).but (But.dom y dh) d112), (Dom.dj dq (Dj.un_l d (Dj.of_fresh ex136 f144).symm)), (Dom.dj dq (Dj.un_l d112 (Dj.of_fresh ex137 f144).symm))⟩, H.2⟩
 have H := H.2 hc119
 refine W_exit ?_
 refine (if_pos rfl).mpr ?_
 refine W_seq (W_region ?_)
 refine LP_ev ok 0 [(77, I m), (78, .slice a101 (List.length (List.replicate (Int.toNat (ln r38)) (([] : List Int)))) c102)] 2 rfl rfl ?_
 refine LP_call 2 rfl rfl rfl cal_60 rfl (impl_sumOfShares_w _ _ _ H wx109 o105.readf ex106) ?_
 rintro _ wx164 ⟨r163, vx166, hx167, H, rfl, x165, o168, ex169, f170⟩
 obtain ⟨a171, c172, rfl⟩ := o168.shape
 refine LP_ev ok 3 [(14, sl a171 r163 c172), (15, .bool true)] 5 rfl rfl ?_
 refine LP_end _ rfl (W_ret ?_)
 have f173 := f170.mono X113.size
 exact ⟨_, Ret_of [sl a171 r163 c172, .bool true] ⟨⟨rfl, rfl⟩, ⟨rfl, rfl⟩, trivial⟩, _, _, _, _, H, rfl, (X113.stepx x165).ext, o168, ex169, f173⟩

theorem laws_eqIntS_w (a : List Int) (b : List Int) (Q : Bool → Prop) (H : laws_eqIntS a b Q) (w : World) {vx : Value} {hx : PH} (r : RS hx vx a) (ex : Sub hx w) {vx2 : Value} {hx3 : PH} (r4 : RS hx3 vx2 b) (ex5 : Sub hx3 w) :
  CallsTo Tryz.prog 17 #[vx, vx2] w fun v w' => ∃ r0, Q r0 ∧ v = .bool r0 ∧ Ext w w' := by
 obtain ⟨a1, c, rfl⟩ := r.shape
 obtain ⟨a6, c7, rfl⟩ := r4.shape
 refine enter (args := [sl a1 a c, sl a6 b c7]) 26 Tryz.func17 rfl rfl rfl ?_
 refine W_forget [(0, sl a1 a c), (1, sl a6 b c7)] ⟨rfl, rfl, trivial⟩ fun ρ => ?_
 have X := But.refl emp w
 refine W_seq (W_region ?_)
 refine LP_ev ok 0 [(4, .bool false)] 1 rfl rfl ?_
 refine LP_end _ rfl (W_seq ?_)
 refine W_seq (W_region ?_)
 refine LP_ev ok 0 [(6, sl a1 a c), (7, I (ln a)), (8, sl a6 b c7), (9, I (ln b)), (10, .bool ((ln a) != (ln b)))] 5 rfl rfl ?_
 refine LP_end _ rfl ?_
 refine W_cond ((ln a) != (ln b)) rfl (fun hc => ?_) (fun hc => ?_)
 ·have H := H.1 hc
  refine W_seq (W_region ?_)
  refine LP_ev ok 0 [(4, .bool false)] 1 rfl rfl ?_
  refine LP_end _ rfl (W_ret ?_)
  exact ⟨_, Ret_of [.bool false] ⟨⟨rfl, rfl⟩, trivial⟩, _, H, rfl, X.ext⟩
 have H := H.2 hc
 refine W_skip ?_
 refine W_seq ?_
 refine W_seq (W_region ?_)
 refine LP_ev ok 0 [(5, I 0)] 1 rfl rfl ?_
 refine LP_end _ rfl ?_
 refine W_block ?_
 obtain ⟨J, m, Hx, H⟩ := H
 refine W_loop (S := Int) (fun s ρ' w' => J s ∧ ∃ (ρ : Env), ρ' = setAll [(0, sl a1 a c), (1, sl a6 b c7), (5, I s)] ρ ∧ But emp w w' ∧ Sub hx w' ∧ Sub hx3 w') (fun s => m s) 0 ⟨Hx, _, env_eq ⟨rfl, rfl, rfl, trivial⟩, X, ex, ex5⟩ ?_
 rintro i _ wx ⟨Hi, ρ, rfl, X10, ex8, ex9⟩
 have H := H i Hi
 refine W_seq ?_
 refine W_seq (W_region ?_)
 refine LP_ev ok 0 [(11, I i), (12, sl a1 a c), (13, I (ln a)), (14, .bool (decide (i < (ln a))))] 4 rfl rfl ?_
 refine LP_end _ rfl ?_
 refine W_cond (decide (i < (ln a))) rfl (fun hc11 => ?_) (fun hc11 => ?_)
 ·have H := H.1 hc11
  refine W_skip ?_
  refine W_seq ?_
  refine W_block ?_
  refine W_seq ?_
  refine W_quiet mix (by kernel_rfl) ?_
  refine QP_ev ok 0 [(17, sl a1 a c), (18, I i)] 2 rfl rfl ?_
  obtain ⟨x, hi, hx12, H⟩ := H
  refine QP_index 2 rfl rfl rfl Tryz.underlying22 ti_3 rfl rfl r hi hx12 fun a13 cs r14 d => ?_
  refine QP_load 3 rfl rfl rfl ti_3 ag_3 rfl r14 d ex8 fun vx15 r16 => ?_
  obtain rfl := r16.int
  refine QP_ev ok 4 [(21, sl a6 b c7), (22, I i)] 6 rfl rfl ?_
  obtain ⟨x17, hi18, hx19, H⟩ := H
  refine QP_index 6 rfl rfl rfl Tryz.underlying22 ti_3 rfl rfl r4 hi18 hx19 fun a20 cs21 r22 d23 => ?_
  refine QP_load 7 rfl rfl rfl ti_3 ag_3 rfl r22 d23 ex9 fun vx24 r25 => ?_
  obtain rfl := r25.int
  refine QP_ev ok 8 [(25, .bool (x != x17))] 9 rfl rfl ?_
  refine QP_end _ rfl fun wx26 x27 => ?_
  refine W_cond (x != x17) rfl (fun hc28 => ?_) (fun hc28 => ?_)
  ·have H := H.1 hc28
   refine W_seq (W_region ?_)
   refine LP_ev ok 0 [(4, .bool false)] 1 rfl rfl ?_
   refine LP_end _ rfl (W_ret ?_)
   exact ⟨_, Ret_of [.bool false] ⟨⟨rfl, rfl⟩, trivial⟩, _, H, rfl, (X10.stepx x27).ext⟩
  have H := H.2 hc28
  refine W_skip ?_
  refine W_region ?_
  refine LP_ev ok 0 [(15, I i), (16, I (wr (i + 1))), (5, I (wr (i + 1)))] 3 rfl rfl ?_
  exact LP_end _ rfl ⟨wr (i + 1), ⟨H.1, _, env_eq ⟨rfl, rfl, rfl, trivial⟩, (X10.stepx x27), (ex8.ext x27), (ex9.ext x27)⟩, H.2⟩
 have H := H.2 hc11
 refine W_exit ?_
 refine (if_pos rfl).mpr ?_
 refine W_seq (W_region ?_)
 refine LP_ev ok 0 [(4, .bool true)] 1 rfl rfl ?_
 refine LP_end _ rfl (W_ret ?_)
 exact ⟨_, Ret_of [.bool true] ⟨⟨rfl, rfl⟩, trivial⟩, _, H, rfl, X10.ext⟩

theorem laws_eqGeo_w (a : Geo) (b : Geo) (Q : Bool → Prop) (H : laws_eqGeo a b Q) (w : World) {vx : Value} {hx : PH} (r : RS hx vx a.Parents) (ex : Sub hx w) {vx2 : Value} {hx3 : PH} (r4 : RS hx3 vx2 b.Parents) (ex5 : Sub hx3 w) :
  CallsTo Tryz.prog 18 #[.agg #[vx], .agg #[vx2]] w fun v w' => ∃ r0, Q r0 ∧ v = .bool r0 ∧ Ext w w' := by
 obtain ⟨a1, c, rfl⟩ := r.shape
 obtain ⟨a6, c7, rfl⟩ := r4.shape
 refine enter (args := [.agg #[sl a1 a.Parents c], .agg #[sl a6 b.Parents c7]]) 11 Tryz.func18 rfl rfl rfl ?_
 refine W_forget [(0, .agg #[sl a1 a.Parents c]), (1, .agg #[sl a6 b.Parents c7])] ⟨rfl, rfl, trivial⟩ fun ρ => ?_
 have X := But.refl emp w
 refine W_seq (W_region ?_)
 refine LP_box 0 (cs := [sl a1 a.Parents c]) rfl rfl rfl rfl rfl fun b8 wx x ex9 f => ?_
 refine LP_box 1 (cs := [sl a6 b.Parents c7]) rfl rfl rfl rfl rfl fun b10 wx11 x12 ex13 f14 => ?_
 refine LP_ev ok 2 [(4, .bool false)] 3 rfl rfl ?_
 refine LP_end _ rfl (W_seq ?_)
 refine W_seq (W_region ?_)
 refine LP_ev ok 0 [(5, pb b8)] 1 rfl rfl ?_
 refine LP_ldbox 1 (v := sl a1 a.Parents c) rfl rfl rfl ti_22 ag_22 (fun _ => rfl) rfl (ex9.ext x12) rfl rfl ?_
 refine LP_ev ok 2 [(7, pb b10)] 3 rfl rfl ?_
 refine LP_ldbox 3 (v := sl a6 b.Parents c7) rfl rfl rfl ti_22 ag_22 (fun _ => rfl) rfl ex13 rfl rfl ?_
 have xc := (x.trans x12)
 refine LP_call 4 rfl rfl rfl cal_17 rfl (laws_eqIntS_w _ _ _ H wx11 r (ex.ext xc) r4 (ex5.ext xc)) ?_
 rintro _ wx19 ⟨r16, H, rfl, x20⟩
 refine LP_ev ok 5 [(10, .bool (!r16))] 6 rfl rfl ?_
 refine LP_end _ rfl ?_
 refine W_cond (!r16) rfl (fun hc => ?_) (fun hc => ?_)
 ·have H := H.1 hc
  refine W_seq (W_region ?_)
  refine LP_ev ok 0 [(4, .bool false)] 1 rfl rfl ?_
  refine LP_end _ rfl (W_ret ?_)
  exact ⟨_, Ret_of [.bool false] ⟨⟨rfl, rfl⟩, trivial⟩, _, H, rfl, (X.stepx (xc.trans x20)).ext⟩
 have H := H.2 hc
 refine W_skip ?_
 refine W_seq (W_region ?_)
 refine LP_ev ok 0 [(4, .bool true)] 1 rfl rfl ?_
 refine LP_end _ rfl (W_ret ?_)
 exact ⟨_, Ret_of [.bool true] ⟨⟨rfl, rfl⟩, trivial⟩, _, H, rfl, (X.stepx (xc.trans x20)).ext⟩

theorem laws_eqVariable_w (a : Variable) (b : Variable) (Q : Bool → Prop) (H : laws_eqVariable a b Q) (w : World)  :
  CallsTo Tryz.prog 61 #[.agg #[.string a.Name, I a.Levels], .agg #[.string b.Name, I b.Levels]] w fun v w' => ∃ r0, Q r0 ∧ v = .bool r0 ∧ Ext w w' := by
 refine enter (args := [.agg #[.string a.Name, I a.Levels], .agg #[.string b.Name, I b.Levels]]) 15 Tryz.func61 rfl rfl rfl ?_
 refine W_forget [(0, .agg #[.string a.Name, I a.Levels]), (1, .agg #[.string b.Name, I b.Levels])] ⟨rfl, rfl, trivial⟩ fun ρ => ?_
 have X := But.refl emp w
 refine W_seq (W_region ?_)
 refine LP_box 0 (cs := [.string a.Name, I a.Levels]) rfl rfl rfl rfl rfl fun b1 wx x ex f => ?_
 refine LP_box 1 (cs := [.string b.Name, I b.Levels]) rfl rfl rfl rfl rfl fun b2 wx3 x4 ex5 f6 => ?_
 refine LP_ev ok 2 [(4, .bool false)] 3 rfl rfl ?_
 refine LP_end _ rfl (W_seq ?_)
 refine W_seq (W_region ?_)
 refine LP_ev ok 0 [(5, pb b1)] 1 rfl rfl ?_
 have ex7 := (ex.ext x4)
 refine LP_ldbox 1 (v := .string a.Name) rfl rfl rfl ti_9 ag_9 (fun _ => rfl) rfl ex7 rfl rfl ?_
 refine LP_ev ok 2 [(7, pb b2)] 3 rfl rfl ?_
 refine LP_ldbox 3 (v := .string b.Name) rfl rfl rfl ti_9 ag_9 (fun _ => rfl) rfl ex5 rfl rfl ?_
 refine LP_ev ok 4 [(9, .bool (!streq a.Name b.Name))] 5 rfl rfl ?_
 refine LP_end _ rfl ?_
 refine W_cond (!streq a.Name b.Name) rfl (fun hc => ?_) (fun hc => ?_)
 ·have H := H.1 hc
  refine W_seq (W_region ?_)
  refine LP_ev ok 0 [(4, .bool false)] 1 rfl rfl ?_
  refine LP_end _ rfl (W_ret ?_)
  exact ⟨_, Ret_of [.bool false] ⟨⟨rfl, rfl⟩, trivial⟩, _, H, rfl, (X.stepx (x.trans x4)).ext⟩
 have H := H.2 hc
 refine W_skip ?_
 refine W_seq ?_
 refine W_seq (W_region ?_)
 refine LP_ev ok 0 [(10, .pointer (some ⟨b1, 1, none⟩))] 1 rfl rfl ?_
 refine LP_ldbox 1 (v := I a.Levels) rfl rfl rfl ti_3 ag_3 (fun _ => rfl) rfl ex7 rfl rfl ?_
 refine LP_ev ok 2 [(12, .pointer (some ⟨b2, 1, none⟩))] 3 rfl rfl ?_
 refine LP_ldbox 3 (v := I b.Levels) rfl rfl rfl ti_3 ag_3 (fun _ => rfl) rfl ex5 rfl rfl ?_
 refine LP_ev ok 4 [(14, .bool (a.Levels != b.Levels))] 5 rfl rfl ?_
 refine LP_end _ rfl ?_
 refine W_cond (a.Levels != b.Levels) rfl (fun hc9 => ?_) (fun hc9 => ?_)
 ·have H := H.1 hc9
  refine W_seq (W_region ?_)
  refine LP_ev ok 0 [(4, .bool false)] 1 rfl rfl ?_
  refine LP_end _ rfl (W_ret ?_)
  exact ⟨_, Ret_of [.bool false] ⟨⟨rfl, rfl⟩, trivial⟩, _, H, rfl, (X.stepx (x.trans x4)).ext⟩
 have H := H.2 hc9
 refine W_skip ?_
 refine W_seq (W_region ?_)
 refine LP_ev ok 0 [(4, .bool true)] 1 rfl rfl ?_
 refine LP_end _ rfl (W_ret ?_)
 exact ⟨_, Ret_of [.bool true] ⟨⟨rfl, rfl⟩, trivial⟩, _, H, rfl, (X.stepx (x.trans x4)).ext⟩

theorem laws_eqVariableS_w (a : List Variable) (b : List Variable) (Q : Bool → Prop) (H : laws_eqVariableS a b Q) (w : World) {vx : Value} {hx : PH} (r : RS hx vx a) (ex : Sub hx w) {vx2 : Value} {hx3 : PH} (r4 : RS hx3 vx2 b) (ex5 : Sub hx3 w) :
  CallsTo Tryz.prog 19 #[vx, vx2] w fun v w' => ∃ r0, Q r0 ∧ v = .bool r0 ∧ Ext w w' := by
 obtain ⟨a1, c, rfl⟩ := r.shape
 obtain ⟨a6, c7, rfl⟩ := r4.shape
 refine enter (args := [sl a1 a c, sl a6 b c7]) 27 Tryz.func19 rfl rfl rfl ?_
 refine W_forget [(0, sl a1 a c), (1, sl a6 b c7)] ⟨rfl, rfl, trivial⟩ fun ρ => ?_
 have X := But.refl emp w
 refine W_seq (W_region ?_)
 refine LP_ev ok 0 [(4, .bool false)] 1 rfl rfl ?_
 refine LP_end _ rfl (W_seq ?_)
 refine W_seq (W_region ?_)
 refine LP_ev ok 0 [(6, sl a1 a c), (7, I (ln a)), (8, sl a6 b c7), (9, I (ln b)), (10, .bool ((ln a) != (ln b)))] 5 rfl rfl ?_
 refine LP_end _ rfl ?_
 refine W_cond ((ln a) != (ln b)) rfl (fun hc => ?_) (fun hc => ?_)
 ·have H := H.1 hc
  refine W_seq (W_region ?_)
  refine LP_ev ok 0 [(4, .bool false)] 1 rfl rfl ?_
  refine LP_end _ rfl (W_ret ?_)
  exact ⟨_, Ret_of [.bool false] ⟨⟨rfl, rfl⟩, trivial⟩, _, H, rfl, X.ext⟩
 have H := H.2 hc
 refine W_skip ?_
 refine W_seq ?_
 refine W_seq (W_region ?_)
 refine LP_ev ok 0 [(5, I 0)] 1 rfl rfl ?_
 refine LP_end _ rfl ?_
 refine W_block ?_
 obtain ⟨J, m, Hx, H⟩ := H
 refine W_loop (S := Int) (fun s ρ' w' => J s ∧ ∃ (ρ : Env), ρ' = setAll [(0, sl a1 a c), (1, sl a6 b c7), (5, I s)] ρ ∧ But emp w w' ∧ Sub hx w' ∧ Sub hx3 w') (fun s => m s) 0 ⟨Hx, _, env_eq ⟨rfl, rfl, rfl, trivial⟩, X, ex, ex5⟩ ?_
 rintro i _ wx ⟨Hi, ρ, rfl, X10, ex8, ex9⟩
 have H := H i Hi
 refine W_seq ?_
 refine W_seq (W_region ?_)
 refine LP_ev ok 0 [(11, I i), (12, sl a1 a c), (13, I (ln a)), (14, .bool (decide (i < (ln a))))] 4 rfl rfl ?_
 refine LP_end _ rfl ?_
 refine W_cond (decide (i < (ln a))) rfl (fun hc11 => ?_) (fun hc11 => ?_)
 ·have H := H.1 hc11
  refine W_skip ?_
  refine W_seq ?_
  refine W_block ?_
  refine W_seq ?_
  refine W_quiet mix (by kernel_rfl) ?_
  refine QP_ev ok 0 [(17, sl a1 a c), (18, I i)] 2 rfl rfl ?_
  obtain ⟨x, hi, hx12, H⟩ := H
  refine QP_index 2 rfl rfl rfl Tryz.underlying39 ti_82 rfl rfl r hi hx12 fun a13 cs r14 d => ?_
  refine QP_load 3 rfl rfl rfl ti_82 ag_82 rfl r14 d ex8 fun vx15 r16 => ?_
  obtain rfl := Variable_rv r16
  refine QP_ev ok 4 [(21, sl a6 b c7), (22, I i)] 6 rfl rfl ?_
  obtain ⟨x17, hi18, hx19, H⟩ := H
  refine QP_index 6 rfl rfl rfl Tryz.underlying39 ti_82 rfl rfl r4 hi18 hx19 fun a20 cs21 r22 d23 => ?_
  refine QP_load 7 rfl rfl rfl ti_82 ag_82 rfl r22 d23 ex9 fun vx24 r25 => ?_
  obtain rfl := Variable_rv r25
  obtain ⟨r26, Hd, H⟩ := H
  refine QP_call (.bool r26) 8 rfl rfl rfl cal_61 rfl (fun wx27 x28 => (laws_eqVariable_w _ _ _ Hd wx27 ).mono ?_) ?_
  ·rintro _ _ ⟨_, rfl, rfl, x⟩; exact ⟨rfl, x⟩
  refine QP_ev ok 9 [(26, .bool (!r26))] 10 rfl rfl ?_
  refine QP_end _ rfl fun wx29 x30 => ?_
  refine W_cond (!r26) rfl (fun hc31 => ?_) (fun hc31 => ?_)
  ·have H := H.1 hc31
   refine W_seq (W_region ?_)
   refine LP_ev ok 0 [(4, .bool false)] 1 rfl rfl ?_
   refine LP_end _ rfl (W_ret ?_)
   exact ⟨_, Ret_of [.bool false] ⟨⟨rfl, rfl⟩, trivial⟩, _, H, rfl, (X10.stepx x30).ext⟩
  have H := H.2 hc31
  refine W_skip ?_
  refine W_region ?_
  refine LP_ev ok 0 [(15, I i), (16, I (wr (i + 1))), (5, I (wr (i + 1)))] 3 rfl rfl ?_
  exact LP_end _ rfl ⟨wr (i + 1), ⟨H.1, _, env_eq ⟨rfl, rfl, rfl, trivial⟩, (X10.stepx x30), (ex8.ext x30), (ex9.ext x30)⟩, H.2⟩
 have H := H.2 hc11
 refine W_exit ?_
 refine (if_pos rfl).mpr ?_
 refine W_seq (W_region ?_)
 refine LP_ev ok 0 [(4, .bool true)] 1 rfl rfl ?_
 refine LP_end _ rfl (W_ret ?_)
 exact ⟨_, Ret_of [.bool true] ⟨⟨rfl, rfl⟩, trivial⟩, _, H, rfl, X10.ext⟩

theorem laws_eqTable_w (a : Table) (b : Table) (Q : Bool → Prop) (H : laws_eqTable a b Q) (w : World) {vx : Value} {hx : PH} (r : RS hx vx a.Vars) (ex : Sub hx w) {vx2 : Value} {hx3 : PH} (r4 : RS hx3 vx2 a.Where) (ex5 : Sub hx3 w) {vx8 : Value} {hx9 : PH} (r10 : RS hx9 vx8 b.Vars) (ex11 : Sub hx9 w) {vx14 : Value} {hx15 : PH} (r16 : RS hx15 vx14 b.Where) (ex17 : Sub hx15 w) :
  CallsTo Tryz.prog 20 #[.agg #[I a.Level, vx, vx2, I a.Sum], .agg #[I b.Level, vx8, vx14, I b.Sum]] w fun v w' => ∃ r0, Q r0 ∧ v = .bool r0 ∧ Ext w w' := by
 obtain ⟨a1, c, rfl⟩ := r.shape
 obtain ⟨a6, c7, rfl⟩ := r4.shape
 obtain ⟨a12, c13, rfl⟩ := r10.shape
 obtain ⟨a18, c19, rfl⟩ := r16.shape
 refine enter (args := [.agg #[I a.Level, sl a1 a.Vars c, sl a6 a.Where c7, I a.Sum], .agg #[I b.Level, sl a12 b.Vars c13, sl a18 b.Where c19, I b.Sum]]) 27 Tryz.func20 rfl rfl rfl ?_
 refine W_forget [(0, .agg #[I a.Level, sl a1 a.Vars c, sl a6 a.Where c7, I a.Sum]), (1, .agg #[I b.Level, sl a12 b.Vars c13, sl a18 b.Where c19, I b.Sum])] ⟨rfl, rfl, trivial⟩ fun ρ => ?_
 have X := But.refl emp w
 refine W_seq (W_region ?_)
 refine LP_box 0 (cs := [I a.Level, sl a1 a.Vars c, sl a6 a.Where c7, I a.Sum]) rfl rfl rfl rfl rfl fun b20 wx x ex21 f => ?_
 refine LP_box 1 (cs := [I b.Level, sl a12 b.Vars c13, sl a18 b.Where c19, I b.Sum]) rfl rfl rfl rfl rfl fun b22 wx23 x24 ex25 f26 => ?_
 refine LP_ev ok 2 [(4, .bool false)] 3 rfl rfl ?_
 refine LP_end _ rfl (W_seq ?_)
 refine W_seq (W_region ?_)
 refine LP_ev ok 0 [(5, pb b20)] 1 rfl rfl ?_
 have ex27 := (ex21.ext x24)
 refine LP_ldbox 1 (v := I a.Level) rfl rfl rfl ti_3 ag_3 (fun _ => rfl) rfl ex27 rfl rfl ?_
 refine LP_ev ok 2 [(7, pb b22)] 3 rfl rfl ?_
 refine LP_ldbox 3 (v := I b.Level) rfl rfl rfl ti_3 ag_3 (fun _ => rfl) rfl ex25 rfl rfl ?_
 refine LP_ev ok 4 [(9, .bool (a.Level != b.Level))] 5 rfl rfl ?_
 refine LP_end _ rfl ?_
 refine W_cond (a.Level != b.Level) rfl (fun hc => ?_) (fun hc => ?_)
 ·have H := H.1 hc
  refine W_seq (W_region ?_)
  refine LP_ev ok 0 [(4, .bool false)] 1 rfl rfl ?_
  refine LP_end _ rfl (W_ret ?_)
  exact ⟨_, Ret_of [.bool false] ⟨⟨rfl, rfl⟩, trivial⟩, _, H, rfl, (X.stepx (x.trans x24)).ext⟩
 have H := H.2 hc
 refine W_skip ?_
 refine W_seq ?_
 refine W_seq (W_region ?_)
 refine LP_ev ok 0 [(10, .pointer (some ⟨b20, 1, none⟩))] 1 rfl rfl ?_
 refine LP_ldbox 1 (v := sl a1 a.Vars c) rfl rfl rfl ti_22 ag_22 (fun _ => rfl) rfl ex27 rfl rfl ?_
 refine LP_ev ok 2 [(12, .pointer (some ⟨b22, 1, none⟩))] 3 rfl rfl ?_
 refine LP_ldbox 3 (v := sl a12 b.Vars c13) rfl rfl rfl ti_22 ag_22 (fun _ => rfl) rfl ex25 rfl rfl ?_
 have xc30 := (x.trans x24)
 refine LP_call 4 rfl rfl rfl cal_17 rfl (laws_eqIntS_w _ _ _ H wx23 r (ex.ext xc30) r10 (ex11.ext xc30)) ?_
 rintro _ wx33 ⟨r29, H, rfl, x34⟩
 refine LP_ev ok 5 [(15, .bool (!r29))] 6 rfl rfl ?_
 refine LP_end _ rfl ?_
 refine W_cond (!r29) rfl (fun hc35 => ?_) (fun hc35 => ?_)
 ·have H := H.1 hc35
  refine W_seq (W_region ?_)
  refine LP_ev ok 0 [(4, .bool false)] 1 rfl rfl ?_
  refine LP_end _ rfl (W_ret ?_)
  exact ⟨_, Ret_of [.bool false] ⟨⟨rfl, rfl⟩, trivial⟩, _, H, rfl, (X.stepx (xc30.trans x34)).ext⟩
 have H := H.2 hc35
 refine W_skip ?_
 refine W_seq ?_
 refine W_seq (W_region ?_)
 refine LP_ev ok 0 [(16, .pointer (some ⟨b20, 2, none⟩))] 1 rfl rfl ?_
 have ex38 := (ex27.ext x34)
 refine LP_ldbox 1 (v := sl a6 a.Where c7) rfl rfl rfl ti_22 ag_22 (fun _ => rfl) rfl ex38 rfl rfl ?_
 refine LP_ev ok 2 [(18, .pointer (some ⟨b22, 2, none⟩))] 3 rfl rfl ?_
 have ex39 := (ex25.ext x34)
 refine LP_ldbox 3 (v := sl a18 b.Where c19) rfl rfl rfl ti_22 ag_22 (fun _ => rfl) rfl ex39 rfl rfl ?_
 have xc41 := (xc30.trans x34)
 refine LP_call 4 rfl rfl rfl cal_17 rfl (laws_eqIntS_w _ _ _ H wx33 r4 (ex5.ext xc41) r16 (ex17.ext xc41)) ?_
 rintro _ wx44 ⟨r40, H, rfl, x45⟩
 refine LP_ev ok 5 [(21, .bool (!r40))] 6 rfl rfl ?_
 refine LP_end _ rfl ?_
 refine W_cond (!r40) rfl (fun hc46 => ?_) (fun hc46 => ?_)
 ·have H := H.1 hc46
  refine W_seq (W_region ?_)
  refine LP_ev ok 0 [(4, .bool false)] 1 rfl rfl ?_
  refine LP_end _ rfl (W_ret ?_)
  exact ⟨_, Ret_of [.bool false] ⟨⟨rfl, rfl⟩, trivial⟩, _, H, rfl, (X.stepx (xc41.trans x45)).ext⟩
 have H := H.2 hc46
 refine W_skip ?_
 refine W_seq ?_
 refine W_seq (W_region ?_)
 refine LP_ev ok 0 [(22, .pointer (some ⟨b20, 3, none⟩))] 1 rfl rfl ?_
 refine LP_ldbox 1 (v := I a.Sum) rfl rfl rfl ti_3 ag_3 (fun _ => rfl) rfl (ex38.ext x45) rfl rfl ?_
 refine LP_ev ok 2 [(24, .pointer (some ⟨b22, 3, none⟩))] 3 rfl rfl ?_
 refine LP_ldbox 3 (v := I b.Sum) rfl rfl rfl ti_3 ag_3 (fun _ => rfl) rfl (ex39.ext x45) rfl rfl ?_
 refine LP_ev ok 4 [(26, .bool (a.Sum != b.Sum))] 5 rfl rfl ?_
 refine LP_end _ rfl ?_
 try refine W_forget [(26, .bool (a.Sum != b.Sum))] ⟨rfl, trivial⟩ fun ρ => ?_
 refine W_cond (a.Sum != b.Sum) rfl (fun hc51 => ?_) (fun hc51 => ?_)
 ·have H := H.1 hc51
  refine W_seq (W_region ?_)
  refine LP_ev ok 0 [(4, .bool false)] 1 rfl rfl ?_
  refine LP_end _ rfl (W_ret ?_)
  exact ⟨_, Ret_of [.bool false] ⟨⟨rfl, rfl⟩, trivial⟩, _, H, rfl, (X.stepx (xc41.trans x45)).ext⟩
 have H := H.2 hc51
 refine W_skip ?_
 refine W_seq (W_region ?_)
 refine LP_ev ok 0 [(4, .bool true)] 1 rfl rfl ?_
 refine LP_end _ rfl (W_ret ?_)
 exact ⟨_, Ret_of [.bool true] ⟨⟨rfl, rfl⟩, trivial⟩, _, H, rfl, (X.stepx (xc41.trans x45)).ext⟩

theorem laws_eqRecord_w (a : Record) (b : Record) (Q : Bool → Prop) (H : laws_eqRecord a b Q) (w : World) {vx : Value} {hx : PH} (r : RS hx vx a.Values) (ex : Sub hx w) {vx2 : Value} {hx3 : PH} (r4 : RS hx3 vx2 b.Values) (ex5 : Sub hx3 w) :
  CallsTo Tryz.prog 93 #[.agg #[I a.Area, I a.House, vx], .agg #[I b.Area, I b.House, vx2]] w fun v w' => ∃ r0, Q r0 ∧ v = .bool r0 ∧ Ext w w' := by
 obtain ⟨a1, c, rfl⟩ := r.shape
 obtain ⟨a6, c7, rfl⟩ := r4.shape
 refine enter (args := [.agg #[I a.Area, I a.House, sl a1 a.Values c], .agg #[I b.Area, I b.House, sl a6 b.Values c7]]) 21 Tryz.func93 rfl rfl rfl ?_
 refine W_forget [(0, .agg #[I a.Area, I a.House, sl a1 a.Values c]), (1, .agg #[I b.Area, I b.House, sl a6 b.Values c7])] ⟨rfl, rfl, trivial⟩ fun ρ => ?_
 have X := But.refl emp w
 refine W_seq (W_region ?_)
 refine LP_box 0 (cs := [I a.Area, I a.House, sl a1 a.Values c]) rfl rfl rfl rfl rfl fun b8 wx x ex9 f => ?_
 refine LP_box 1 (cs := [I b.Area, I b.House, sl a6 b.Values c7]) rfl rfl rfl rfl rfl fun b10 wx11 x12 ex13 f14 => ?_
 refine LP_ev ok 2 [(4, .bool false)] 3 rfl rfl ?_
 refine LP_end _ rfl (W_seq ?_)
 refine W_seq (W_region ?_)
 refine LP_ev ok 0 [(5, pb b8)] 1 rfl rfl ?_
 have ex15 := (ex9.ext x12)
 refine LP_ldbox 1 (v := I a.Area) rfl rfl rfl ti_3 ag_3 (fun _ => rfl) rfl ex15 rfl rfl ?_
 refine LP_ev ok 2 [(7, pb b10)] 3 rfl rfl ?_
 refine LP_ldbox 3 (v := I b.Area) rfl rfl rfl ti_3 ag_3 (fun _ => rfl) rfl ex13 rfl rfl ?_
 refine LP_ev ok 4 [(9, .bool (a.Area != b.Area))] 5 rfl rfl ?_
 refine LP_end _ rfl ?_
 refine W_cond (a.Area != b.Area) rfl (fun hc => ?_) (fun hc => ?_)
 ·have H := H.1 hc
  refine W_seq (W_region ?_)
  refine LP_ev ok 0 [(4, .bool false)] 1 rfl rfl ?_
  refine LP_end _ rfl (W_ret ?_)
  exact ⟨_, Ret_of [.bool false] ⟨⟨rfl, rfl⟩, trivial⟩, _, H, rfl, (X.stepx (x.trans x12)).ext⟩
 have H := H.2 hc
 refine W_skip ?_
 refine W_seq ?_
 refine W_seq (W_region ?_)
 refine LP_ev ok 0 [(10, .pointer (some ⟨b8, 1, none⟩))] 1 rfl rfl ?_
 refine LP_ldbox 1 (v := I a.House) rfl rfl rfl ti_3 ag_3 (fun _ => rfl) rfl ex15 rfl rfl ?_
 refine LP_ev ok 2 [(12, .pointer (some ⟨b10, 1, none⟩))] 3 rfl rfl ?_
 refine LP_ldbox 3 (v := I b.House) rfl rfl rfl ti_3 ag_3 (fun _ => rfl) rfl ex13 rfl rfl ?_
 refine LP_ev ok 4 [(14, .bool (a.House != b.House))] 5 rfl rfl ?_
 refine LP_end _ rfl ?_
 refine W_cond (a.House != b.House) rfl (fun hc17 => ?_) (fun hc17 => ?_)
 ·have H := H.1 hc17
  refine W_seq (W_region ?_)
  refine LP_ev ok 0 [(4, .bool false)] 1 rfl rfl ?_
  refine LP_end _ rfl (W_ret ?_)
  exact ⟨_, Ret_of [.bool false] ⟨⟨rfl, rfl⟩, trivial⟩, _, H, rfl, (X.stepx (x.trans x12)).ext⟩
 have H := H.2 hc17
 refine W_skip ?_
 refine W_seq ?_
 refine W_seq (W_region ?_)
 refine LP_ev ok 0 [(15, .pointer (some ⟨b8, 2, none⟩))] 1 rfl rfl ?_
 refine LP_ldbox 1 (v := sl a1 a.Values c) rfl rfl rfl ti_22 ag_22 (fun _ => rfl) rfl ex15 rfl rfl ?_
 refine LP_ev ok 2 [(17, .pointer (some ⟨b10, 2, none⟩))] 3 rfl rfl ?_
 refine LP_ldbox 3 (v := sl a6 b.Values c7) rfl rfl rfl ti_22 ag_22 (fun _ => rfl) rfl ex13 rfl rfl ?_
 have xc21 := (x.trans x12)
 refine LP_call 4 rfl rfl rfl cal_17 rfl (laws_eqIntS_w _ _ _ H wx11 r (ex.ext xc21) r4 (ex5.ext xc21)) ?_
 rintro _ wx24 ⟨r20, H, rfl, x25⟩
 refine LP_ev ok 5 [(20, .bool (!r20))] 6 rfl rfl ?_
 refine LP_end _ rfl ?_
 refine W_cond (!r20) rfl (fun hc26 => ?_) (fun hc26 => ?_)
 ·have H := H.1 hc26
  refine W_seq (W_region ?_)
  refine LP_ev ok 0 [(4, .bool false)] 1 rfl rfl ?_
  refine LP_end _ rfl (W_ret ?_)
  exact ⟨_, Ret_of [.bool false] ⟨⟨rfl, rfl⟩, trivial⟩, _, H, rfl, (X.stepx (xc21.trans x25)).ext⟩
 have H := H.2 hc26
 refine W_skip ?_
 refine W_seq (W_region ?_)
 refine LP_ev ok 0 [(4, .bool true)] 1 rfl rfl ?_
 refine LP_end _ rfl (W_ret ?_)
 exact ⟨_, Ret_of [.bool true] ⟨⟨rfl, rfl⟩, trivial⟩, _, H, rfl, (X.stepx (xc21.trans x25)).ext⟩

theorem laws_eqRecordS_w (a : List Record) (b : List Record) (Q : Bool → Prop) (H : laws_eqRecordS a b Q) (w : World) {vx : Value} {hx : PH} (r : RS hx vx a) (ex : Sub hx w) {vx2 : Value} {hx3 : PH} (r4 : RS hx3 vx2 b) (ex5 : Sub hx3 w) :
  CallsTo Tryz.prog 62 #[vx, vx2] w fun v w' => ∃ r0, Q r0 ∧ v = .bool r0 ∧ Ext w w' := by
 obtain ⟨a1, c, rfl⟩ := r.shape
 obtain ⟨a6, c7, rfl⟩ := r4.shape
 refine enter (args := [sl a1 a c, sl a6 b c7]) 27 Tryz.func62 rfl rfl rfl ?_
 refine W_forget [(0, sl a1 a c), (1, sl a6 b c7)] ⟨rfl, rfl, trivial⟩ fun ρ => ?_
 have X := But.refl emp w
 refine W_seq (W_region ?_)
 refine LP_ev ok 0 [(4, .bool false)] 1 rfl rfl ?_
 refine LP_end _ rfl (W_seq ?_)
 refine W_seq (W_region ?_)
 refine LP_ev ok 0 [(6, sl a1 a c), (7, I (ln a)), (8, sl a6 b c7), (9, I (ln b)), (10, .bool ((ln a) != (ln b)))] 5 rfl rfl ?_
 refine LP_end _ rfl ?_
 refine W_cond ((ln a) != (ln b)) rfl (fun hc => ?_) (fun hc => ?_)
 ·have H := H.1 hc
  refine W_seq (W_region ?_)
  refine LP_ev ok 0 [(4, .bool false)] 1 rfl rfl ?_
  refine LP_end _ rfl (W_ret ?_)
  exact ⟨_, Ret_of [.bool false] ⟨⟨rfl, rfl⟩, trivial⟩, _, H, rfl, X.ext⟩
 have H := H.2 hc
 refine W_skip ?_
 refine W_seq ?_
 refine W_seq (W_region ?_)
 refine LP_ev ok 0 [(5, I 0)] 1 rfl rfl ?_
 refine LP_end _ rfl ?_
 refine W_block ?_
 obtain ⟨J, m, Hx, H⟩ := H
 refine W_loop (S := Int) (fun s ρ' w' => J s ∧ ∃ (ρ : Env), ρ' = setAll [(0, sl a1 a c), (1, sl a6 b c7), (5, I s)] ρ ∧ But emp w w' ∧ Sub hx w' ∧ Sub hx3 w') (fun s => m s) 0 ⟨Hx, _, env_eq ⟨rfl, rfl, rfl, trivial⟩, X, ex, ex5⟩ ?_
 rintro i _ wx ⟨Hi, ρ, rfl, X10, ex8, ex9⟩
 have H := H i Hi
 refine W_seq ?_
 refine W_seq (W_region ?_)
 refine LP_ev ok 0 [(11, I i), (12, sl a1 a c), (13, I (ln a)), (14, .bool (decide (i < (ln a))))] 4 rfl rfl ?_
 refine LP_end _ rfl ?_
 refine W_cond (decide (i < (ln a))) rfl (fun hc11 => ?_) (fun hc11 => ?_)
 ·have H := H.1 hc11
  refine W_skip ?_
  refine W_seq ?_
  refine W_block ?_
  refine W_seq ?_
  refine W_quiet mix (by kernel_rfl) ?_
  refine QP_ev ok 0 [(17, sl a1 a c), (18, I i)] 2 rfl rfl ?_
  obtain ⟨x, hi, hx12, H⟩ := H
  refine QP_index 2 rfl rfl rfl Tryz.underlying84 ti_118 rfl rfl r hi hx12 fun a13 cs r14 d => ?_
  have d15 := d
  obtain ⟨u, rfl, r16⟩ := Record_rd d15
  obtain ⟨a17, c18, rfl⟩ := r16.shape
  refine QP_load 3 rfl rfl rfl ti_118 ag_118 rfl r14 d ex8 fun vx19 r20 => ?_
  obtain ⟨u21, rfl, r22⟩ := Record_rv r20
  obtain ⟨a23, c24, rfl⟩ := r22.shape
  refine QP_ev ok 4 [(21, sl a6 b c7), (22, I i)] 6 rfl rfl ?_
  obtain ⟨x25, hi26, hx27, H⟩ := H
  refine QP_index 6 rfl rfl rfl Tryz.underlying84 ti_118 rfl rfl r4 hi26 hx27 fun a28 cs29 r30 d31 => ?_
  have d32 := d31
  obtain ⟨u33, rfl, r34⟩ := Record_rd d32
  obtain ⟨a35, c36, rfl⟩ := r34.shape
  refine QP_load 7 rfl rfl rfl ti_118 ag_118 rfl r30 d31 ex9 fun vx37 r38 => ?_
  obtain ⟨u39, rfl, r40⟩ := Record_rv r38
  obtain ⟨a41, c42, rfl⟩ := r40.shape
  obtain ⟨r43, Hd, H⟩ := H
  refine QP_call (.bool r43) 8 rfl rfl rfl cal_93 rfl (fun wx44 x45 => (laws_eqRecord_w _ _ _ Hd wx44 r22 (ex8.ext x45) r40 (ex9.ext x45)).mono ?_) ?_
  ·rintro _ _ ⟨_, rfl, rfl, x⟩; exact ⟨rfl, x⟩
  refine QP_ev ok 9 [(26, .bool (!r43))] 10 rfl rfl ?_
  refine QP_end _ rfl fun wx46 x47 => ?_
  refine W_cond (!r43) rfl (fun hc48 => ?_) (fun hc48 => ?_)
  ·have H := H.1 hc48
   refine W_seq (W_region ?_)
   refine LP_ev ok 0 [(4, .bool false)] 1 rfl rfl ?_
   refine LP_end _ rfl (W_ret ?_)
   exact ⟨_, Ret_of [.bool false] ⟨⟨rfl, rfl⟩, trivial⟩, _, H, rfl, (X10.stepx x47).ext⟩
  have H := H.2 hc48
  refine W_skip ?_
  refine W_region ?_
  refine LP_ev ok 0 [(15, I i), (16, I (wr (i + 1))), (5, I (wr (i + 1)))] 3 rfl rfl ?_
  exact LP_end _ rfl ⟨wr (i + 1), ⟨H.1, _, env_eq ⟨rfl, rfl, rfl, trivial⟩, (X10.stepx x47), (ex8.ext x47), (ex9.ext x47)⟩, H.2⟩
 have H := H.2 hc11
 refine W_exit ?_
 refine (if_pos rfl).mpr ?_
 refine W_seq (W_region ?_)
 refine LP_ev ok 0 [(4, .bool true)] 1 rfl rfl ?_
 refine LP_end _ rfl (W_ret ?_)
 exact ⟨_, Ret_of [.bool true] ⟨⟨rfl, rfl⟩, trivial⟩, _, H, rfl, X10.ext⟩

theorem laws_eqRecordSS_w (a : List (List Record)) (b : List (List Record)) (Q : Bool → Prop) (H : laws_eqRecordSS a b Q) (w : World) {vx : Value} {hx : PH} (r : RS hx vx a) (ex : Sub hx w) {vx2 : Value} {hx3 : PH} (r4 : RS hx3 vx2 b) (ex5 : Sub hx3 w) :
  CallsTo Tryz.prog 21 #[vx, vx2] w fun v w' => ∃ r0, Q r0 ∧ v = .bool r0 ∧ Ext w w' := by
 obtain ⟨a1, c, rfl⟩ := r.shape
 obtain ⟨a6, c7, rfl⟩ := r4.shape
 refine enter (args := [sl a1 a c, sl a6 b c7]) 27 Tryz.func21 rfl rfl rfl ?_
 refine W_forget [(0, sl a1 a c), (1, sl a6 b c7)] ⟨rfl, rfl, trivial⟩ fun ρ => ?_
 have X := But.refl emp w
 refine W_seq (W_region ?_)
 refine LP_ev ok 0 [(4, .bool false)] 1 rfl rfl ?_
 refine LP_end _ rfl (W_seq ?_)
 refine W_seq (W_region ?_)
 refine LP_ev ok 0 [(6, sl a1 a c), (7, I (ln a)), (8, sl a6 b c7), (9, I (ln b)), (10, .bool ((ln a) != (ln b)))] 5 rfl rfl ?_
 refine LP_end _ rfl ?_
 refine W_cond ((ln a) != (ln b)) rfl (fun hc => ?_) (fun hc => ?_)
 ·have H := H.1 hc
  refine W_seq (W_region ?_)
  refine LP_ev ok 0 [(4, .bool false)] 1 rfl rfl ?_
  refine LP_end _ rfl (W_ret ?_)
  exact ⟨_, Ret_of [.bool false] ⟨⟨rfl, rfl⟩, trivial⟩, _, H, rfl, X.ext⟩
 have H := H.2 hc
 refine W_skip ?_
 refine W_seq ?_
 refine W_seq (W_region ?_)
 refine LP_ev ok 0 [(5, I 0)] 1 rfl rfl ?_
 refine LP_end _ rfl ?_
 refine W_block ?_
 obtain ⟨J, m, Hx, H⟩ := H
 refine W_loop (S := Int) (fun s ρ' w' => J s ∧ ∃ (ρ : Env), ρ' = setAll [(0, sl a1 a c), (1, sl a6 b c7), (5, I s)] ρ ∧ But emp w w' ∧ Sub hx w' ∧ Sub hx3 w') (fun s => m s) 0 ⟨Hx, _, env_eq ⟨rfl, rfl, rfl, trivial⟩, X, ex, ex5⟩ ?_
 rintro i _ wx ⟨Hi, ρ, rfl, X10, ex8, ex9⟩
 have H := H i Hi
 refine W_seq ?_
 refine W_seq (W_region ?_)
 refine LP_ev ok 0 [(11, I i), (12, sl a1 a c), (13, I (ln a)), (14, .bool (decide (i < (ln a))))] 4 rfl rfl ?_
 refine LP_end _ rfl ?_
 refine W_cond (decide (i < (ln a))) rfl (fun hc11 => ?_) (fun hc11 => ?_)
 ·have H := H.1 hc11
  refine W_skip ?_
  refine W_seq ?_
  refine W_block ?_
  refine W_seq ?_
  refine W_quiet mix (by kernel_rfl) ?_
  refine QP_ev ok 0 [(17, sl a1 a c), (18, I i)] 2 rfl rfl ?_
  obtain ⟨x, hi, hx12, H⟩ := H
  refine QP_index 2 rfl rfl rfl Tryz.underlying43 ti_84 rfl rfl r hi hx12 fun a13 cs r14 d => ?_
  refine QP_load 3 rfl rfl rfl ti_84 ag_84 rfl r14 d ex8 fun vx15 r16 => ?_
  have r19 := r16.slice
  obtain ⟨a17, c18, rfl⟩ := r19.shape
  refine QP_ev ok 4 [(21, sl a6 b c7), (22, I i)] 6 rfl rfl ?_
  obtain ⟨x20, hi21, hx22, H⟩ := H
  refine QP_index 6 rfl rfl rfl Tryz.underlying43 ti_84 rfl rfl r4 hi21 hx22 fun a23 cs24 r25 d26 => ?_
  refine QP_load 7 rfl rfl rfl ti_84 ag_84 rfl r25 d26 ex9 fun vx27 r28 => ?_
  have r31 := r28.slice
  obtain ⟨a29, c30, rfl⟩ := r31.shape
  obtain ⟨r32, Hd, H⟩ := H
  refine QP_call (.bool r32) 8 rfl rfl rfl cal_62 rfl (fun wx33 x34 => (laws_eqRecordS_w _ _ _ Hd wx33 r19 (ex8.ext x34) r31 (ex9.ext x34)).mono ?_) ?_
  ·rintro _ _ ⟨_, rfl, rfl, x⟩; exact ⟨rfl, x⟩
  refine QP_ev ok 9 [(26, .bool (!r32))] 10 rfl rfl ?_
  refine QP_end _ rfl fun wx35 x36 => ?_
  refine W_cond (!r32) rfl (fun hc37 => ?_) (fun hc37 => ?_)
  ·have H := H.1 hc37
   refine W_seq (W_region ?_)
   refine LP_ev ok 0 [(4, .bool false)] 1 rfl rfl ?_
   refine LP_end _ rfl (W_ret ?_)
   exact ⟨_, Ret_of [.bool false] ⟨⟨rfl, rfl⟩, trivial⟩, _, H, rfl, (X10.stepx x36).ext⟩
  have H := H.2 hc37
  refine W_skip ?_
  refine W_region ?_
  refine LP_ev ok 0 [(15, I i), (16, I (wr (i + 1))), (5, I (wr (i + 1)))] 3 rfl rfl ?_
  exact LP_end _ rfl ⟨wr (i + 1), ⟨H.1, _, env_eq ⟨rfl, rfl, rfl, trivial⟩, (X10.stepx x36), (ex8.ext x36), (ex9.ext x36)⟩, H.2⟩
 have H := H.2 hc11
 refine W_exit ?_
 refine (if_pos rfl).mpr ?_
 refine W_seq (W_region ?_)
 refine LP_ev ok 0 [(4, .bool true)] 1 rfl rfl ?_
 refine LP_end _ rfl (W_ret ?_)
 exact ⟨_, Ret_of [.bool true] ⟨⟨rfl, rfl⟩, trivial⟩, _, H, rfl, X10.ext⟩

theorem laws_eqIntSS_w (a : List (List Int)) (b : List (List Int)) (Q : Bool → Prop) (H : laws_eqIntSS a b Q) (w : World) {vx : Value} {hx : PH} (r : RS hx vx a) (ex : Sub hx w) {vx2 : Value} {hx3 : PH} (r4 : RS hx3 vx2 b) (ex5 : Sub hx3 w) :
  CallsTo Tryz.prog 22 #[vx, vx2] w fun v w' => ∃ r0, Q r0 ∧ v = .bool r0 ∧ Ext w w' := by
 obtain ⟨a1, c, rfl⟩ := r.shape
 obtain ⟨a6, c7, rfl⟩ := r4.shape
 refine enter (args := [sl a1 a c, sl a6 b c7]) 27 Tryz.func22 rfl rfl rfl ?_
 refine W_forget [(0, sl a1 a c), (1, sl a6 b c7)] ⟨rfl, rfl, trivial⟩ fun ρ => ?_
 have X := But.refl emp w
 refine W_seq (W_region ?_)
 refine LP_ev ok 0 [(4, .bool false)] 1 rfl rfl ?_
 refine LP_end _ rfl (W_seq ?_)
 refine W_seq (W_region ?_)
 refine LP_ev ok 0 [(6, sl a1 a c), (7, I (ln a)), (8, sl a6 b c7), (9, I (ln b)), (10, .bool ((ln a) != (ln b)))] 5 rfl rfl ?_
 refine LP_end _ rfl ?_
 refine W_cond ((ln a) != (ln b)) rfl (fun hc => ?_) (fun hc => ?_)
 ·have H := H.1 hc
  refine W_seq (W_region ?_)
  refine LP_ev ok 0 [(4, .bool false)] 1 rfl rfl ?_
  refine LP_end _ rfl (W_ret ?_)
  exact ⟨_, Ret_of [.bool false] ⟨⟨rfl, rfl⟩, trivial⟩, _, H, rfl, X.ext⟩
 have H := H.2 hc
 refine W_skip ?_
 refine W_seq ?_
 refine W_seq (W_region ?_)
 refine LP_ev ok 0 [(5, I 0)] 1 rfl rfl ?_
 refine LP_end _ rfl ?_
 refine W_block ?_
 obtain ⟨J, m, Hx, H⟩ := H
 refine W_loop (S := Int) (fun s ρ' w' => J s ∧ ∃ (ρ : Env), ρ' = setAll [(0, sl a1 a c), (1, sl a6 b c7), (5, I s)] ρ ∧ But emp w w' ∧ Sub hx w' ∧ Sub hx3 w') (fun s => m s) 0 ⟨Hx, _, env_eq ⟨rfl, rfl, rfl, trivial⟩, X, ex, ex5⟩ ?_
 rintro i _ wx ⟨Hi, ρ, rfl, X10, ex8, ex9⟩
 have H := H i Hi
 refine W_seq ?_
 refine W_seq (W_region ?_)
 refine LP_ev ok 0 [(11, I i), (12, sl a1 a c), (13, I (ln a)), (14, .bool (decide (i < (ln a))))] 4 rfl rfl ?_
 refine LP_end _ rfl ?_
 refine W_cond (decide (i < (ln a))) rfl (fun hc11 => ?_) (fun hc11 => ?_)
 ·have H := H.1 hc11
  refine W_skip ?_
  refine W_seq ?_
  refine W_block ?_
  refine W_seq ?_
  refine W_quiet mix (by kernel_rfl) ?_
  refine QP_ev ok 0 [(17, sl a1 a c), (18, I i)] 2 rfl rfl ?_
  obtain ⟨x, hi, hx12, H⟩ := H
  refine QP_index 2 rfl rfl rfl Tryz.underlying29 ti_22 rfl rfl r hi hx12 fun a13 cs r14 d => ?_
  refine QP_load 3 rfl rfl rfl ti_22 ag_22 rfl r14 d ex8 fun vx15 r16 => ?_
  have r19 := r16.slice
  obtain ⟨a17, c18, rfl⟩ := r19.shape
  refine QP_ev ok 4 [(21, sl a6 b c7), (22, I i)] 6 rfl rfl ?_
  obtain ⟨x20, hi21, hx22, H⟩ := H
  refine QP_index 6 rfl rfl rfl Tryz.underlying29 ti_22 rfl rfl r4 hi21 hx22 fun a23 cs24 r25 d26 => ?_
  refine QP_load 7 rfl rfl rfl ti_22 ag_22 rfl r25 d26 ex9 fun vx27 r28 => ?_
  have r31 := r28.slice
  obtain ⟨a29, c30, rfl⟩ := r31.shape
  obtain ⟨r32, Hd, H⟩ := H
  refine QP_call (.bool r32) 8 rfl rfl rfl cal_17 rfl (fun wx33 x34 => (laws_eqIntS_w _ _ _ Hd wx33 r19 (ex8.ext x34) r31 (ex9.ext x34)).mono ?_) ?_
  ·rintro _ _ ⟨_, rfl, rfl, x⟩; exact ⟨rfl, x⟩
  refine QP_ev ok 9 [(26, .bool (!r32))] 10 rfl rfl ?_
  refine QP_end _ rfl fun wx35 x36 => ?_
  refine W_cond (!r32) rfl (fun hc37 => ?_) (fun hc37 => ?_)
  ·have H := H.1 hc37
   refine W_seq (W_region ?_)
   refine LP_ev ok 0 [(4, .bool false)] 1 rfl rfl ?_
   refine LP_end _ rfl (W_ret ?_)
   exact ⟨_, Ret_of [.bool false] ⟨⟨rfl, rfl⟩, trivial⟩, _, H, rfl, (X10.stepx x36).ext⟩
  have H := H.2 hc37
  refine W_skip ?_
  refine W_region ?_
  refine LP_ev ok 0 [(15, I i), (16, I (wr (i + 1))), (5, I (wr (i + 1)))] 3 rfl rfl ?_
  exact LP_end _ rfl ⟨wr (i + 1), ⟨H.1, _, env_eq ⟨rfl, rfl, rfl, trivial⟩, (X10.stepx x36), (ex8.ext x36), (ex9.ext x36)⟩, H.2⟩
 have H := H.2 hc11
 refine W_exit ?_
 refine (if_pos rfl).mpr ?_
 refine W_seq (W_region ?_)
 refine LP_ev ok 0 [(4, .bool true)] 1 rfl rfl ?_
 refine LP_end _ rfl (W_ret ?_)
 exact ⟨_, Ret_of [.bool true] ⟨⟨rfl, rfl⟩, trivial⟩, _, H, rfl, X10.ext⟩

theorem laws_markIntS_w (a : List Int) (k : Int) (Q : Int → (List Int) → Prop) (H : laws_markIntS a k Q) (w : World) {vx : Value} {hx : PH} (r : OS 3 hx emp vx a) (ex : Sub hx w) :
  CallsTo Tryz.prog 28 #[vx, I k] w fun v w' => ∃ r0 m1 k1, Q r0 m1 ∧ v = I r0 ∧ But hx w w' ∧ OS 3 k1 emp vx m1 ∧ Sub k1 w' ∧ (∀ n, DomLe hx n k1) := by
 obtain ⟨a1, c, rfl⟩ := r.shape
 refine enter (args := [sl a1 a c, I k]) 19 Tryz.func28 rfl rfl rfl ?_
 refine W_forget [(0, sl a1 a c), (1, I k)] ⟨rfl, rfl, trivial⟩ fun ρ => ?_
 have D : Dom hx hx := (Dom.refl _)
 have X := But.refl hx w
 refine W_seq (W_region ?_)
 refine LP_ev ok 0 [(4, I 0)] 1 rfl rfl ?_
 refine LP_end _ rfl (W_seq ?_)
 refine W_seq (W_region ?_)
 refine LP_ev ok 0 [(5, I 0)] 1 rfl rfl ?_
 refine LP_end _ rfl ?_
 refine W_block ?_
 obtain ⟨J, m, Hx, H⟩ := H
 refine W_loop (S := (List Int) × Int × Int) (fun s ρ' w' => J s.1 s.2.1 s.2.2 ∧ ∃ (ρ : Env) (hx4 : PH), ρ' = setAll [(0, sl a1 a c), (1, I s.2.1), (5, I s.2.2)] ρ ∧ But hx w w' ∧ OS 3 hx4 emp (sl a1 a c) s.1 ∧ Sub hx4 w' ∧ (∀ n, DomLe hx n hx4)) (fun s => m s.1 s.2.1 s.2.2) (a, k, 0) ⟨Hx, _, hx, env_eq ⟨rfl, rfl, rfl, trivial⟩, X, r, ex, (fun _ => DomLe.refl _ _)⟩ ?_
 rintro ⟨a2, k6, i⟩ _ wx ⟨Hi, ρ, hx4, rfl, X7, o, ex5, f⟩
 have H := H a2 k6 i Hi
 refine W_seq ?_
 refine W_seq (W_region ?_)
 refine LP_ev ok 0 [(6, I i), (7, sl a1 a c), (8, I (ln a)), (9, .bool (decide (i < (ln a))))] 4 rfl rfl ?_
 refine LP_end _ rfl ?_
 refine W_cond (decide (i < (ln a))) rfl (fun hc => ?_) (fun hc => ?_)
 ·have H := H.1 hc
  refine W_skip ?_
  refine W_seq ?_
  refine W_block ?_
  refine W_seq (W_region ?_)
  refine LP_ev ok 0 [(12, sl a1 a c), (13, I i), (14, I k6)] 3 rfl rfl ?_
  obtain ⟨hi, hl, H⟩ := H
  refine LP_indexw (v := sl a1 a c) 3 rfl rfl rfl Tryz.underlying22 ti_3 rfl rfl o hi hl fun a8 wa => ?_
  refine LP_set 4 rfl rfl rfl rfl rfl wa (Le.refl emp) ⟨_, rfl, rfl⟩ ex5 fun hx9 wx10 o11 ex12 y dm => ?_
  refine LP_end _ rfl ?_
  refine W_region ?_
  refine LP_ev ok 0 [(16, I k6), (17, I (wr (k6 + 1))), (1, I (wr (k6 + 1)))] 3 rfl rfl ?_
  refine LP_end _ rfl ?_
  refine W_region ?_
  refine LP_ev ok 0 [(10, I i), (11, I (wr (i + 1))), (5, I (wr (i + 1)))] 3 rfl rfl ?_
  exact LP_end _ rfl ⟨(List.set a2 (Int.toNat i) k6, wr (k6 + 1), wr (i + 1)), ⟨H.1, _, hx9, env_eq ⟨rfl, rfl, rfl, trivial⟩, (X7.step y (DomLe.dom D (f _))), o11, ex12, (fun _ => DomLe.trans (f _) ((dm _)) (Nat.le_refl _))⟩, H.2⟩
 have H := H.2 hc
 refine W_exit ?_
 refine (if_pos rfl).mpr ?_
 refine W_seq (W_region ?_)
 refine LP_ev ok 0 [(18, I k6), (4, I k6)] 2 rfl rfl ?_
 refine LP_end _ rfl (W_ret ?_)
 exact ⟨_, Ret_of [I k6] ⟨⟨rfl, rfl⟩, trivial⟩, _, _, _, H, rfl, X7, o, ex5, (fun _ => f _)⟩

theorem laws_markGeo_w (a : Geo) (k : Int) (Q : Int → (List Int) → Prop) (H : laws_markGeo a k Q) (w : World) {vx : Value} {hx : PH} (r : OS 3 hx emp vx a.Parents) (ex : Sub hx w) :
  CallsTo Tryz.prog 23 #[.agg #[vx], I k] w fun v w' => ∃ r0 m1 k1, Q r0 m1 ∧ v = I r0 ∧ But hx w w' ∧ OS 3 k1 emp vx m1 ∧ Sub k1 w' ∧ (∀ n, DomLe hx n k1) := by
 obtain ⟨a1, c, rfl⟩ := r.shape
 refine enter (args := [.agg #[sl a1 a.Parents c], I k]) 10 Tryz.func23 rfl rfl rfl ?_
 refine W_forget [(0, .agg #[sl a1 a.Parents c]), (1, I k)] ⟨rfl, rfl, trivial⟩ fun ρ => ?_
 have D : Dom hx hx := (Dom.refl _)
 have X := But.refl hx w
 refine W_seq (W_region ?_)
 refine LP_box 0 (cs := [sl a1 a.Parents c]) rfl rfl rfl rfl rfl fun b wx x ex2 f => ?_
 refine LP_ev ok 1 [(4, I 0)] 2 rfl rfl ?_
 refine LP_end _ rfl (W_seq (W_region ?_))
 refine LP_ev ok 0 [(5, pb b)] 1 rfl rfl ?_
 refine LP_ldbox 1 (v := sl a1 a.Parents c) rfl rfl rfl ti_22 ag_22 (fun _ => rfl) rfl ex2 rfl rfl ?_
 refine LP_ev ok 2 [(7, I k)] 3 rfl rfl ?_
 refine LP_call 3 rfl rfl rfl cal_28 rfl (laws_markIntS_w _ _ _ H wx r (ex.ext x)) ?_
 rintro _ wx6 ⟨r3, r4, hx8, H, rfl, x7, o, ex9, dm⟩
 refine LP_ev ok 4 [(1, I r3)] 5 rfl rfl ?_
 refine LP_end _ rfl (W_seq (W_region ?_))
 refine LP_ev ok 0 [(9, I r3), (4, I r3)] 2 rfl rfl ?_
 refine LP_end _ rfl (W_ret ?_)
 exact ⟨_, Ret_of [I r3] ⟨⟨rfl, rfl⟩, trivial⟩, _, _, _, H, rfl, ((X.stepx x).step x7 (Dom.le D _)), o, ex9, (fun _ => DomLe.trans (DomLe.refl _ _) ((dm _)) (Nat.le_refl _))⟩

end Go.Proofs.YtnladfcokocfnaaGreat
