/- The walks, further. -/
import Derived.Test.YtbegmfmabcpofaaAWalk2
set_option linter.unusedVariables false
set_option autoImplicit false
namespace Go.Proofs.Ytbegmfmabcpofaa
open Go Go.RowKit Go.Gv

open Go.Proofs
set_option maxRecDepth 8000 in
set_option maxHeartbeats 4000000 in
theorem spec_DrawMaskRepair_w (code : List B8) (Q : (List (List Int)) → (List Int) → Int → Int → Int → Prop) (H : spec_DrawMaskRepair code Q) (w : World) {vx : Value} {hx : PH} (r : RS hx vx code) (ex : Sub hx w) :
    CallsTo Try.prog 73 #[vx] w fun v w' => ∃ r0 r1 r2 r3 r4 u0 g0 u1 g1, Q r0 r1 r2 r3 r4 ∧ v = .tuple #[u0, u1, I r2, I r3, I r4] ∧ Ext w w' ∧ RS g0 u0 r0 ∧ Sub g0 w' ∧ Fresh w.heap.size g0 ∧ OS 3 g1 emp u1 r1 ∧ Sub g1 w' ∧ Fresh w.heap.size g1 := by
  obtain ⟨a, c, rfl⟩ := r.shape
  refine enter (args := [.slice a (List.length code) c]) 32 Try.func73 rfl rfl rfl ?_
  refine W_forget [(0, .slice a (List.length code) c)] ⟨rfl, trivial⟩ fun ρ => ?_
  have X := But.refl emp w
  refine W_seq ?_
  refine W_region ?_
  refine LP_ev ok 0 [(2, .slice none 0 0), (3, .slice none 0 0), (4, I 0), (5, I 0), (6, I 0)] 5 rfl rfl ?_
  refine LP_end _ rfl ?_
  refine W_seq ?_
  refine W_region ?_
  refine LP_ev ok 0 [(13, .slice a (List.length code) c), (14, .agg #[.slice a (List.length code) c, I 0, .int .u64 0])] 2 rfl rfl ?_
  refine LP_box 2 (cs := [.slice a (List.length code) c, I 0, .int .u64 0]) rfl rfl rfl rfl rfl fun b wx x ex1 f => ?_
  refine LP_ev ok 3 [(7, .pointer (some ⟨b, 0, none⟩))] 4 rfl rfl ?_
  refine LP_end _ rfl ?_
  refine W_seq ?_
  refine W_region ?_
  refine LP_ev ok 0 [(17, .slice a (List.length code) c)] 1 rfl rfl ?_
  have ex7 := (ex.ext x)
  refine LP_call 1 rfl rfl rfl cal_70 rfl (spec_DrawMaskOf_w _ _ H wx r ex7) ?_
  rintro _ wx8 ⟨r2, r3, r4, r5, r6, vx10, hx11, H, rfl, x9, o, ex12, f13⟩
  obtain ⟨a14, c15, rfl⟩ := o.shape
  refine LP_ev ok 2 [(16, .tuple #[.slice a14 (List.length r2) c15, I r3, I r4, I r5, I r6]), (19, .slice a14 (List.length r2) c15), (20, I r3), (21, I r4), (22, I r5), (23, I r6), (8, .slice a14 (List.length r2) c15), (9, I r3), (10, I r4), (11, I r5), (12, I r6)] 13 rfl rfl ?_
  refine LP_end _ rfl ?_
  refine W_seq ?_
  refine W_region ?_
  refine LP_ev ok 0 [(24, .slice a14 (List.length r2) c15), (25, .pointer (some ⟨b, 0, none⟩)), (26, .slice a14 (List.length r2) c15), (27, I (ln r2))] 4 rfl rfl ?_
  have ex19 := (ex7.ext x9)
  have ex20 := (ex1.ext x9)
  refine LP_call 4 rfl rfl rfl cal_137 rfl (spec_l1Cur_present_w _ _ _ H wx8 r ex19 ex20 (Dj.of_fresh ex f).symm) ?_
  rintro _ wx21 ⟨r16, r17, r18, vx23, hx24, H, rfl, x22, o25, ex26, f27, ex28⟩
  obtain ⟨a31, c32, rfl⟩ := o25.shape
  refine LP_ev ok 5 [(29, I r4), (30, I r5), (31, I r6), (2, .slice a14 (List.length r2) c15), (3, .slice a31 (List.length r16) c32), (4, I r4), (5, I r5), (6, I r6)] 13 rfl rfl ?_
  refine LP_end _ rfl ?_
  try refine W_forget [(2, .slice a14 (List.length r2) c15), (3, .slice a31 (List.length r16) c32), (4, I r4), (5, I r5), (6, I r6)] ⟨rfl, rfl, rfl, rfl, rfl, trivial⟩ fun ρ => ?_
  refine W_ret ?_
  have ex33 := (ex12.but x22 (Dj.of_fresh ex1 f13))
  have X35 := (X.stepx x)
  have f34 := f13.mono X35.size
  have X37 := (X35.stepx x9)
  have f36 := f27.mono X37.size
  have f38 := f.mono X.size
  have X39 := (X37.step x22 (f38.dom _))
  exact ⟨_, Ret_of [.slice a14 (List.length r2) c15, .slice a31 (List.length r16) c32, I r4, I r5, I r6] ⟨⟨rfl, rfl⟩, ⟨rfl, rfl⟩, ⟨rfl, rfl⟩, ⟨rfl, rfl⟩, ⟨rfl, rfl⟩, trivial⟩, _, _, _, _, _, _, _, _, _, H, rfl, X39.ext, o, ex33, f34, o25, ex26, f36⟩

set_option maxRecDepth 8000 in
set_option maxHeartbeats 4000000 in
theorem spec_l1Least_w (a : Int) (b : Int) (Q : Int → Prop) (H : spec_l1Least a b Q) (w : World)  :
    CallsTo Try.prog 155 #[I a, I b] w fun v w' => ∃ r0, Q r0 ∧ v = I r0 ∧ Ext w w' := by
  refine enter (args := [I a, I b]) 10 Try.func155 rfl rfl rfl ?_
  refine W_forget [(0, I a), (1, I b)] ⟨rfl, rfl, trivial⟩ fun ρ => ?_
  have X := But.refl emp w
  refine W_seq ?_
  refine W_region ?_
  refine LP_ev ok 0 [(4, I 0)] 1 rfl rfl ?_
  refine LP_end _ rfl ?_
  refine W_seq ?_
  refine W_seq ?_
  refine W_region ?_
  refine LP_ev ok 0 [(5, I a), (6, I b), (7, .bool (decide (a < b)))] 3 rfl rfl ?_
  refine LP_end _ rfl ?_
  refine W_cond (decide (a < b)) rfl (fun hc => ?_) (fun hc => ?_)
  · have H := H.1 hc
    refine W_seq ?_
    refine W_region ?_
    refine LP_ev ok 0 [(8, I a), (4, I a)] 2 rfl rfl ?_
    refine LP_end _ rfl ?_
    refine W_ret ?_
    exact ⟨_, Ret_of [I a] ⟨⟨rfl, rfl⟩, trivial⟩, _, H, rfl, X.ext⟩
  have H := H.2 hc
  refine W_skip ?_
  refine W_seq ?_
  refine W_region ?_
  refine LP_ev ok 0 [(9, I b), (4, I b)] 2 rfl rfl ?_
  refine LP_end _ rfl ?_
  refine W_ret ?_
  exact ⟨_, Ret_of [I b] ⟨⟨rfl, rfl⟩, trivial⟩, _, H, rfl, X.ext⟩

set_option maxRecDepth 8000 in
set_option maxHeartbeats 4000000 in
theorem spec_l1Most_w (a : Int) (b : Int) (Q : Int → Prop) (H : spec_l1Most a b Q) (w : World)  :
    CallsTo Try.prog 144 #[I a, I b] w fun v w' => ∃ r0, Q r0 ∧ v = I r0 ∧ Ext w w' := by
  refine enter (args := [I a, I b]) 10 Try.func144 rfl rfl rfl ?_
  refine W_forget [(0, I a), (1, I b)] ⟨rfl, rfl, trivial⟩ fun ρ => ?_
  have X := But.refl emp w
  refine W_seq ?_
  refine W_region ?_
  refine LP_ev ok 0 [(4, I 0)] 1 rfl rfl ?_
  refine LP_end _ rfl ?_
  refine W_seq ?_
  refine W_seq ?_
  refine W_region ?_
  refine LP_ev ok 0 [(5, I a), (6, I b), (7, .bool (decide (a > b)))] 3 rfl rfl ?_
  refine LP_end _ rfl ?_
  refine W_cond (decide (a > b)) rfl (fun hc => ?_) (fun hc => ?_)
  · have H := H.1 hc
    refine W_seq ?_
    refine W_region ?_
    refine LP_ev ok 0 [(8, I a), (4, I a)] 2 rfl rfl ?_
    refine LP_end _ rfl ?_
    refine W_ret ?_
    exact ⟨_, Ret_of [I a] ⟨⟨rfl, rfl⟩, trivial⟩, _, H, rfl, X.ext⟩
  have H := H.2 hc
  refine W_skip ?_
  refine W_seq ?_
  refine W_region ?_
  refine LP_ev ok 0 [(9, I b), (4, I b)] 2 rfl rfl ?_
  refine LP_end _ rfl ?_
  refine W_ret ?_
  exact ⟨_, Ret_of [I b] ⟨⟨rfl, rfl⟩, trivial⟩, _, H, rfl, X.ext⟩

set_option maxRecDepth 8000 in
set_option maxHeartbeats 4000000 in
theorem spec_l1Cur_valuesBelow_w (c : L1Cur) (m : Int) (n : Int) (Q : (List Int) → Int → Int → Prop) (H : spec_l1Cur_valuesBelow c m n Q) (w : World) {vx : Value} {hx : PH} (r : RS hx vx c.Code) (ex : Sub hx w) {b : Nat} (ex2 : Sub (bx b 114 [vx, I c.At, .int .u64 c.Seed]) w) (d : Dj (bx b 114 [vx, I c.At, .int .u64 c.Seed]) hx) :
    CallsTo Try.prog 138 #[.pointer (some ⟨b, 0, none⟩), I m, I n] w fun v w' => ∃ r0 m0_1 m0_2 u0 g0, Q r0 m0_1 m0_2 ∧ v = u0 ∧ But (bx b 114 [vx, I c.At, .int .u64 c.Seed]) w w' ∧ OS 3 g0 emp u0 r0 ∧ Sub g0 w' ∧ Fresh w.heap.size g0 ∧ Sub (bx b 114 [vx, I m0_1, .int .u64 m0_2]) w' := by
  obtain ⟨a, c1, rfl⟩ := r.shape
  refine enter (args := [.pointer (some ⟨b, 0, none⟩), I m, I n]) 21 Try.func138 rfl rfl rfl ?_
  refine W_forget [(0, .pointer (some ⟨b, 0, none⟩)), (1, I m), (2, I n)] ⟨rfl, rfl, rfl, trivial⟩ fun ρ => ?_
  have X := But.refl (bx b 114 [.slice a (List.length c.Code) c1, I c.At, .int .u64 c.Seed]) w
  refine W_seq ?_
  refine W_region ?_
  refine LP_ev ok 0 [(6, .slice none 0 0)] 1 rfl rfl ?_
  refine LP_end _ rfl ?_
  refine W_seq ?_
  refine W_region ?_
  refine LP_ev ok 0 [(7, .slice none 0 0)] 1 rfl rfl ?_
  refine LP_end _ rfl ?_
  refine W_seq ?_
  refine W_block ?_
  obtain ⟨J, m14, Hx, H⟩ := H
  refine W_loop (S := Int × (List Int) × Int × Int) (fun s ρ' w' => J s.1 s.2.1 s.2.2.1 s.2.2.2 ∧ ∃ (ρ : Env) (vx4 : Value) (hx5 : PH), ρ' = setAll [(0, .pointer (some ⟨b, 0, none⟩)), (1, I m), (2, I s.1), (7, vx4)] ρ ∧ But (bx b 114 [.slice a (List.length c.Code) c1, I c.At, .int .u64 c.Seed]) w w' ∧ OS 3 hx5 emp vx4 s.2.1 ∧ Sub hx5 w' ∧ Fresh w.heap.size hx5 ∧ Sub hx w' ∧ Sub (bx b 114 [.slice a (List.length c.Code) c1, I s.2.2.1, .int .u64 s.2.2.2]) w' ∧ Dj hx5 hx ∧ Dj hx5 (bx b 114 [.slice a (List.length c.Code) c1, I s.2.2.1, .int .u64 s.2.2.2])) (fun s => m14 s.1 s.2.1 s.2.2.1 s.2.2.2) (n, [], c.At, c.Seed) ⟨Hx, _, .slice none 0 0, emp, env_eq ⟨rfl, rfl, rfl, rfl, trivial⟩, X, OS.nil, (emp_sub _), (emp_fresh _), ex, ex2, (fun _ => .inl rfl), (fun _ => .inl rfl)⟩ ?_
  rintro ⟨n3, l, atx, seed⟩ _ wx ⟨Hi, ρ, vx4, hx5, rfl, X13, o, ex6, f, ex7, ex10, d11, d12⟩
  have H := H n3 l atx seed Hi
  obtain ⟨a8, c9, rfl⟩ := o.shape
  refine W_seq ?_
  refine W_seq ?_
  refine W_region ?_
  refine LP_ev ok 0 [(8, I n3), (9, .bool (decide (n3 > 0)))] 2 rfl rfl ?_
  refine LP_end _ rfl ?_
  refine W_cond (decide (n3 > 0)) rfl (fun hc => ?_) (fun hc => ?_)
  · have H := H.1 hc
    refine W_skip ?_
    refine W_seq ?_
    refine W_block ?_
    refine W_region ?_
    refine LP_ev ok 0 [(12, .slice a8 (List.length l) c9), (13, .pointer (some ⟨b, 0, none⟩)), (14, I m)] 3 rfl rfl ?_
    refine LP_call 3 rfl rfl rfl cal_155 rfl (spec_l1Least_w _ _ _ H wx ) ?_
    rintro _ wx16 ⟨r15, H, rfl, x⟩
    refine LP_call 4 rfl rfl rfl cal_144 rfl (spec_l1Most_w _ _ _ H wx16 ) ?_
    rintro _ wx18 ⟨r17, H, rfl, x19⟩
    have ex23 := ((ex7.ext x).ext x19)
    have ex24 := ((ex10.ext x).ext x19)
    refine LP_call 5 rfl rfl rfl cal_130 rfl (spec_l1Cur_pick_w _ _ _ H wx18 r ex23 ex24 (Dj.box d)) ?_
    rintro _ wx25 ⟨r20, r21, r22, H, rfl, x26, ex27⟩
    refine LP_lit (α := Int) (g := emp) 6 (vs := [I r20]) (xs := [r20]) rfl rfl rfl Try.underlying22 ti_3 rfl rfl ⟨⟨_, rfl, rfl⟩, trivial⟩ rfl rfl fun hx30 vx31 wx32 x33 o34 ex35 f36 => ?_
    obtain ⟨a37, c38, rfl⟩ := o34.shape
    have ex39 := ((((ex6.ext x).ext x19).but x26 d12.symm).ext x33)
    obtain ⟨hb, H⟩ := H
    refine LP_appendf (α := Int) 7 rfl rfl rfl Try.underlying22 ti_3 rfl rfl rfl o ex39 o34.readf ex35 (by first | omega | (simp only [ln] at *; omega)) (by first | omega | (simp only [ln] at *; omega)) fun hx40 vx41 wx42 o43 ex44 y dm => ?_
    obtain ⟨a45, c46, rfl⟩ := o43.shape
    refine LP_ev ok 8 [(7, .slice a45 (List.length (l ++ ([r20]))) c46)] 9 rfl rfl ?_
    refine LP_end _ rfl ?_
    refine W_region ?_
    refine LP_ev ok 0 [(10, I n3), (11, I (wr (n3 - 1))), (2, I (wr (n3 - 1)))] 3 rfl rfl ?_
    refine LP_end _ rfl ?_
    have X47 := (((((X13.stepx x).stepx x19).step x26 (single_dom : DomLe (bx b 114 [.slice a (List.length c.Code) c1, I c.At, .int .u64 c.Seed]) _ (bx b 114 [.slice a (List.length c.Code) c1, I atx, .int .u64 seed]))).stepx x33).step y (f.dom _))
    have X49 := ((((X13.stepx x).stepx x19).step x26 (single_dom : DomLe (bx b 114 [.slice a (List.length c.Code) c1, I c.At, .int .u64 c.Seed]) _ (bx b 114 [.slice a (List.length c.Code) c1, I atx, .int .u64 seed]))).stepx x33)
    have f48 := dm.fresh f X49.size
    have ex50 := (((ex23.but x26 (Dj.box d)).ext x33).but y d11)
    have ex51 := ((ex27.ext x33).but y (Dj.box d12.symm).symm)
    have ex52 := ((ex23.but x26 (Dj.box d)).ext x33)
    have ex53 := (ex27.ext x33)
    exact ⟨(wr (n3 - 1), l ++ ([r20]), r21, r22), ⟨H.1, _, .slice a45 (List.length (l ++ ([r20]))) c46, hx40, env_eq ⟨rfl, rfl, rfl, rfl, trivial⟩, X47, o43, ex44, f48, ex50, ex51, (DomLe.dj dm d11 ex52), (DomLe.dj dm (Dj.box d12.symm).symm ex53)⟩, H.2⟩
  have H := H.2 hc
  refine W_exit ?_
  refine (if_pos rfl).mpr ?_
  refine W_seq ?_
  refine W_region ?_
  refine LP_ev ok 0 [(20, .slice a8 (List.length l) c9), (6, .slice a8 (List.length l) c9)] 2 rfl rfl ?_
  refine LP_end _ rfl ?_
  refine W_ret ?_
  exact ⟨_, Ret_of [.slice a8 (List.length l) c9] ⟨⟨rfl, rfl⟩, trivial⟩, _, _, _, _, _, H, rfl, X13, o, ex6, f, ex10⟩

set_option maxRecDepth 8000 in
set_option maxHeartbeats 4000000 in
theorem spec_DrawSumPresent_w (code : List B8) (Q : (List (List Int)) → (List Int) → Int → Int → (List (List Int)) → Prop) (H : spec_DrawSumPresent code Q) (w : World) {vx : Value} {hx : PH} (r : RS hx vx code) (ex : Sub hx w) :
    CallsTo Try.prog 74 #[vx] w fun v w' => ∃ r0 r1 r2 r3 r4 u0 g0 u1 g1 u4 g4, Q r0 r1 r2 r3 r4 ∧ v = .tuple #[u0, u1, I r2, I r3, u4] ∧ Ext w w' ∧ RS g0 u0 r0 ∧ Sub g0 w' ∧ Fresh w.heap.size g0 ∧ OS 3 g1 emp u1 r1 ∧ Sub g1 w' ∧ Fresh w.heap.size g1 ∧ OD g4 u4 r4 ∧ Sub g4 w' ∧ Fresh w.heap.size g4 := by
  obtain ⟨a, c, rfl⟩ := r.shape
  refine enter (args := [.slice a (List.length code) c]) 51 Try.func74 rfl rfl rfl ?_
  refine W_forget [(0, .slice a (List.length code) c)] ⟨rfl, trivial⟩ fun ρ => ?_
  have X := But.refl emp w
  refine W_seq ?_
  refine W_region ?_
  refine LP_ev ok 0 [(2, .slice none 0 0), (3, .slice none 0 0), (4, I 0), (5, I 0), (6, .slice none 0 0)] 5 rfl rfl ?_
  refine LP_end _ rfl ?_
  refine W_seq ?_
  refine W_region ?_
  refine LP_ev ok 0 [(14, .slice a (List.length code) c), (15, .agg #[.slice a (List.length code) c, I 0, .int .u64 0])] 2 rfl rfl ?_
  refine LP_box 2 (cs := [.slice a (List.length code) c, I 0, .int .u64 0]) rfl rfl rfl rfl rfl fun b wx x ex1 f => ?_
  refine LP_ev ok 3 [(7, .pointer (some ⟨b, 0, none⟩))] 4 rfl rfl ?_
  refine LP_end _ rfl ?_
  refine W_seq ?_
  refine W_region ?_
  refine LP_ev ok 0 [(18, .slice a (List.length code) c)] 1 rfl rfl ?_
  have ex7 := (ex.ext x)
  refine LP_call 1 rfl rfl rfl cal_73 rfl (spec_DrawMaskRepair_w _ _ H wx r ex7) ?_
  rintro _ wx8 ⟨r2, r3, r4, r5, r6, vx10, hx11, vx14, hx15, H, rfl, x9, o, ex12, f13, o16, ex17, f18⟩
  obtain ⟨a19, c20, rfl⟩ := o.shape
  obtain ⟨a21, c22, rfl⟩ := o16.shape
  refine LP_ev ok 2 [(17, .tuple #[.slice a19 (List.length r2) c20, .slice a21 (List.length r3) c22, I r4, I r5, I r6]), (20, .slice a19 (List.length r2) c20), (21, .slice a21 (List.length r3) c22), (22, I r4), (23, I r5), (24, I r6), (8, .slice a19 (List.length r2) c20), (9, .slice a21 (List.length r3) c22), (10, I r4), (11, I r5), (12, I r6)] 13 rfl rfl ?_
  refine LP_end _ rfl ?_
  refine W_seq ?_
  refine W_region ?_
  refine LP_ev ok 0 [(13, .slice none 0 0)] 1 rfl rfl ?_
  refine LP_end _ rfl ?_
  refine W_seq ?_
  refine W_seq ?_
  refine W_region ?_
  refine LP_ev ok 0 [(25, .slice a21 (List.length r3) c22), (26, I (ln r3)), (27, I 0)] 3 rfl rfl ?_
  refine LP_end _ rfl ?_
  try refine W_forget [(7, .pointer (some ⟨b, 0, none⟩)), (8, .slice a19 (List.length r2) c20), (9, .slice a21 (List.length r3) c22), (10, I r4), (11, I r5), (12, I r6), (13, .slice none 0 0), (26, I (ln r3)), (27, I 0)] ⟨rfl, rfl, rfl, rfl, rfl, rfl, rfl, rfl, rfl, trivial⟩ fun ρ => ?_
  refine W_block ?_
  obtain ⟨J, m, Hx, H⟩ := H
  have X40 := ((X.stepx x).stepx x9)
  have ex41 := (ex7.ext x9)
  have ex42 := (ex1.ext x9)
  refine W_loop (S := (List (List Int)) × Int × Int × Int) (fun s ρ' w' => J s.1 s.2.1 s.2.2.1 s.2.2.2 ∧ ∃ (ρ : Env) (vx23 : Value) (hx24 : PH), ρ' = setAll [(7, .pointer (some ⟨b, 0, none⟩)), (8, .slice a19 (List.length r2) c20), (9, .slice a21 (List.length r3) c22), (10, I r4), (11, I r5), (12, I r6), (13, vx23), (26, I (ln r3)), (27, I s.2.1)] ρ ∧ But emp w w' ∧ OD hx24 vx23 s.1 ∧ Sub hx24 w' ∧ Fresh w.heap.size hx24 ∧ Sub hx w' ∧ Sub hx11 w' ∧ Sub hx15 w' ∧ Sub (bx b 114 [.slice a (List.length code) c, I s.2.2.1, .int .u64 s.2.2.2]) w' ∧ Dj hx24 hx ∧ Dj hx24 hx11 ∧ Dj hx24 hx15 ∧ Dj hx24 (bx b 114 [.slice a (List.length code) c, I s.2.2.1, .int .u64 s.2.2.2])) (fun s => m s.1 s.2.1 s.2.2.1 s.2.2.2) ([], 0, 0, 0) ⟨Hx, _, .slice none 0 0, emp, env_eq ⟨rfl, rfl, rfl, rfl, rfl, rfl, rfl, rfl, rfl, trivial⟩, X40, OD.nil, (emp_sub _), (emp_fresh _), ex41, ex12, ex17, ex42, (fun _ => .inl rfl), (fun _ => .inl rfl), (fun _ => .inl rfl), (fun _ => .inl rfl)⟩ ?_
  rintro ⟨shares, x28, atx, seed⟩ _ wx29 ⟨Hi, ρ, vx23, hx24, rfl, X39, o25, ex26, f27, ex30, ex31, ex32, ex35, d, d36, d37, d38⟩
  have H := H shares x28 atx seed Hi
  obtain ⟨a33, c34, rfl⟩ := o25.shape
  refine W_seq ?_
  refine W_region ?_
  refine LP_ev ok 0 [(28, .bool (decide (x28 < (ln r3))))] 1 rfl rfl ?_
  refine LP_end _ rfl ?_
  refine W_seq ?_
  refine W_cond (decide (x28 < (ln r3))) rfl (fun hc => ?_) (fun hc => ?_)
  · have H := H.1 hc
    refine W_skip ?_
    refine W_seq ?_
    refine W_block ?_
    refine W_region ?_
    refine LP_ev ok 0 [(29, .slice a33 (List.length shares) c34), (30, .pointer (some ⟨b, 0, none⟩)), (31, I r6), (32, I r5)] 4 rfl rfl ?_
    refine LP_call 4 rfl rfl rfl cal_138 rfl (spec_l1Cur_valuesBelow_w _ _ _ _ H wx29 r ex30 ex35 (Dj.box (Dj.of_fresh ex f).symm)) ?_
    rintro _ wx46 ⟨r43, r44, r45, vx48, hx49, H, rfl, x47, o50, ex51, f52, ex53⟩
    obtain ⟨a56, c57, rfl⟩ := o50.shape
    refine LP_litD (α := List Int) 5 (vs := [.slice a56 (List.length r43) c57]) (xs := [r43]) rfl rfl rfl Try.underlying49 ti_22 rfl rfl (allO.one (OD.rvo (OS.od o50))) ex51 rfl rfl fun hx58 vx59 wx60 x61 o62 ex63 dm => ?_
    obtain ⟨a64, c65, rfl⟩ := o62.shape
    have ex66 := ((ex26.but x47 d38.symm).ext x61)
    have ex67 := (ex26.but x47 d38.symm)
    obtain ⟨hb, H⟩ := H
    refine LP_appendD (α := List Int) 6 rfl rfl rfl Try.underlying49 ti_22 rfl rfl rfl o25 ex66 o62 ex63 (DomLe.dj dm (Dj.of_fresh ex26 f52).symm ex67).symm (by first | omega | (simp only [ln] at *; omega)) (by first | omega | (simp only [ln] at *; omega)) fun hx68 vx69 wx70 hw o71 ex72 y dh dm73 => ?_
    obtain ⟨a74, c75, rfl⟩ := o71.shape
    refine LP_ev ok 7 [(13, .slice a74 (List.length (shares ++ ([r43]))) c75)] 8 rfl rfl ?_
    refine LP_end _ rfl ?_
    refine W_region ?_
    refine LP_ev ok 0 [(36, I (wr (x28 + 1))), (27, I (wr (x28 + 1)))] 2 rfl rfl ?_
    refine LP_end _ rfl ?_
    have f76 := f.mono X.size
    have X77 := (((X39.step x47 ((Fresh.box f76).dom _)).stepx x61).step (But.dom y dh) (f27.dom _))
    have f78 := f52.mono X39.size
    have X80 := (X39.step x47 ((Fresh.box f76).dom _))
    have f79 := DomLe.fresh dm f78 X80.size
    have X82 := (X80.stepx x61)
    have f81 := DomLe.fresh dm73 (Fresh.un f27 f79) X82.size
    have ex83 := (((ex30.but x47 (Dj.box (Dj.of_fresh ex f).symm)).ext x61).but (But.dom y dh) d)
    have ex84 := (((ex31.but x47 (Dj.box (Dj.of_fresh ex1 f13))).ext x61).but (But.dom y dh) d36)
    have ex85 := (((ex32.but x47 (Dj.box (Dj.of_fresh ex1 f18))).ext x61).but (But.dom y dh) d37)
    have ex86 := ((ex53.ext x61).but (But.dom y dh) (Dj.box d38.symm).symm)
    have ex87 := (ex30.but x47 (Dj.box (Dj.of_fresh ex f).symm))
    have ex88 := (ex87.ext x61)
    have ex89 := (ex31.but x47 (Dj.box (Dj.of_fresh ex1 f13)))
    have ex90 := (ex89.ext x61)
    have ex91 := (ex32.but x47 (Dj.box (Dj.of_fresh ex1 f18)))
    have ex92 := (ex91.ext x61)
    have ex93 := (ex53.ext x61)
    exact ⟨(shares ++ ([r43]), wr (x28 + 1), r44, r45), ⟨H.1, _, .slice a74 (List.length (shares ++ ([r43]))) c75, hx68, env_eq ⟨rfl, rfl, rfl, rfl, rfl, rfl, rfl, rfl, rfl, trivial⟩, X77, o71, ex72, f81, ex83, ex84, ex85, ex86, (DomLe.dj dm73 (Dj.un_l d (DomLe.dj dm (Dj.of_fresh ex30 f52).symm ex87)) ex88), (DomLe.dj dm73 (Dj.un_l d36 (DomLe.dj dm (Dj.of_fresh ex31 f52).symm ex89)) ex90), (DomLe.dj dm73 (Dj.un_l d37 (DomLe.dj dm (Dj.of_fresh ex32 f52).symm ex91)) ex92), (DomLe.dj dm73 (Dj.un_l (Dj.box d38.symm).symm (DomLe.dj dm (Dj.box (Dj.of_fresh ex35 f52)).symm ex53)) ex93)⟩, H.2⟩
  have H := H.2 hc
  refine W_exit ?_
  refine (if_pos rfl).mpr ?_
  obtain ⟨k, hk, H⟩ := jn_elim H
  refine W_join2 (S := (List (List Int))) (fun s ρ' w' => k s ∧ ∃ (ρ : Env) (vx95 : Value) (hx96 : PH), ρ' = setAll [(8, .slice a19 (List.length r2) c20), (9, .slice a21 (List.length r3) c22), (10, I r4), (12, I r6), (13, vx95)] ρ ∧ But emp w w' ∧ OD hx96 vx95 s ∧ Sub hx96 w' ∧ Fresh w.heap.size hx96 ∧ Sub hx11 w' ∧ Sub hx15 w' ∧ Dj hx96 hx11 ∧ Dj hx96 hx15) ?_ ?_
  · refine W_seq ?_
    refine W_region ?_
    refine LP_ev ok 0 [(37, .pointer (some ⟨b, 0, none⟩))] 1 rfl rfl ?_
    refine LP_call 1 rfl rfl rfl cal_139 rfl (spec_l1Cur_one_w _ _ _ H wx29 r ex30 ex35 (Dj.box (Dj.of_fresh ex f).symm)) ?_
    rintro _ wx111 ⟨r108, r109, r110, H, rfl, x112, ex113⟩
    refine LP_end _ rfl ?_
    refine W_cond (r108) rfl (fun hc117 => ?_) (fun hc117 => ?_)
    · have H := H.1 hc117
      refine W_region ?_
      refine LP_ev ok 0 [(39, .slice a33 (List.length shares) c34), (40, .pointer (some ⟨b, 0, none⟩)), (41, I r6), (42, I r5)] 4 rfl rfl ?_
      have ex121 := (ex30.but x112 (Dj.box (Dj.of_fresh ex f).symm))
      refine LP_call 4 rfl rfl rfl cal_138 rfl (spec_l1Cur_valuesBelow_w _ _ _ _ H wx111 r ex121 ex113 (Dj.box (Dj.of_fresh ex f).symm)) ?_
      rintro _ wx122 ⟨r118, r119, r120, vx124, hx125, H, rfl, x123, o126, ex127, f128, ex129⟩
      obtain ⟨a133, c134, rfl⟩ := o126.shape
      refine LP_litD (α := List Int) 5 (vs := [.slice a133 (List.length r118) c134]) (xs := [r118]) rfl rfl rfl Try.underlying49 ti_22 rfl rfl (allO.one (OD.rvo (OS.od o126))) ex127 rfl rfl fun hx135 vx136 wx137 x138 o139 ex140 dm141 => ?_
      obtain ⟨a142, c143, rfl⟩ := o139.shape
      have ex144 := (((ex26.but x112 d38.symm).but x123 (Dj.box d38.symm)).ext x138)
      have ex145 := (ex26.but x112 d38.symm)
      have ex146 := (ex145.but x123 (Dj.box d38.symm))
      obtain ⟨hb147, H⟩ := H
      refine LP_appendD (α := List Int) 6 rfl rfl rfl Try.underlying49 ti_22 rfl rfl rfl o25 ex144 o139 ex140 (DomLe.dj dm141 (Dj.of_fresh ex145 f128).symm ex146).symm (by first | omega | (simp only [ln] at *; omega)) (by first | omega | (simp only [ln] at *; omega)) fun hx148 vx149 wx150 hw151 o152 ex153 y154 dh155 dm156 => ?_
      obtain ⟨a157, c158, rfl⟩ := o152.shape
      refine LP_ev ok 7 [(13, .slice a157 (List.length (shares ++ ([r118]))) c158)] 8 rfl rfl ?_
      refine LP_end _ rfl ?_
      have f159 := f.mono X.size
      have X160 := ((((X39.step x112 ((Fresh.box f159).dom _)).step x123 ((Fresh.box f159).dom _)).stepx x138).step (But.dom y154 dh155) (f27.dom _))
      have X162 := (X39.step x112 ((Fresh.box f159).dom _))
      have f161 := f128.mono X162.size
      have X164 := (X162.step x123 ((Fresh.box f159).dom _))
      have f163 := DomLe.fresh dm141 f161 X164.size
      have X166 := (X164.stepx x138)
      have f165 := DomLe.fresh dm156 (Fresh.un f27 f163) X166.size
      have ex167 := ((((ex31.but x112 (Dj.box (Dj.of_fresh ex1 f13))).but x123 (Dj.box (Dj.of_fresh ex1 f13))).ext x138).but (But.dom y154 dh155) d36)
      have ex168 := ((((ex32.but x112 (Dj.box (Dj.of_fresh ex1 f18))).but x123 (Dj.box (Dj.of_fresh ex1 f18))).ext x138).but (But.dom y154 dh155) d37)
      have ex169 := (ex31.but x112 (Dj.box (Dj.of_fresh ex1 f13)))
      have ex170 := (ex169.but x123 (Dj.box (Dj.of_fresh ex1 f13)))
      have ex171 := (ex170.ext x138)
      have ex172 := (ex32.but x112 (Dj.box (Dj.of_fresh ex1 f18)))
      have ex173 := (ex172.but x123 (Dj.box (Dj.of_fresh ex1 f18)))
      have ex174 := (ex173.ext x138)
      exact ⟨shares ++ ([r118]), H, _, .slice a157 (List.length (shares ++ ([r118]))) c158, hx148, env_eq ⟨rfl, rfl, rfl, rfl, rfl, trivial⟩, X160, o152, ex153, f165, ex167, ex168, (DomLe.dj dm156 (Dj.un_l d36 (DomLe.dj dm141 (Dj.of_fresh ex169 f128).symm ex170)) ex171), (DomLe.dj dm156 (Dj.un_l d37 (DomLe.dj dm141 (Dj.of_fresh ex172 f128).symm ex173)) ex174)⟩
    have H := H.2 hc117
    refine W_skip ?_
    have f175 := f.mono X.size
    have X176 := (X39.step x112 ((Fresh.box f175).dom _))
    have ex177 := (ex26.but x112 d38.symm)
    have ex178 := (ex31.but x112 (Dj.box (Dj.of_fresh ex1 f13)))
    have ex179 := (ex32.but x112 (Dj.box (Dj.of_fresh ex1 f18)))
    exact ⟨shares, H, _, .slice a33 (List.length shares) c34, hx24, env_eq ⟨rfl, rfl, rfl, rfl, rfl, trivial⟩, X176, o25, ex177, f27, ex178, ex179, d36, d37⟩
  rintro shares94 _ wx100 ⟨H, ρ, vx95, hx96, rfl, X107, o97, ex98, f99, ex101, ex102, d105, d106⟩
  subst hk
  obtain ⟨a103, c104, rfl⟩ := o97.shape
  refine W_seq ?_
  refine W_region ?_
  refine LP_ev ok 0 [(46, .slice a19 (List.length r2) c20), (47, .slice a21 (List.length r3) c22), (48, I r4), (49, I r6), (50, .slice a103 (List.length shares94) c104), (2, .slice a19 (List.length r2) c20), (3, .slice a21 (List.length r3) c22), (4, I r4), (5, I r6), (6, .slice a103 (List.length shares94) c104)] 10 rfl rfl ?_
  refine LP_end _ rfl ?_
  refine W_ret ?_
  have X181 := (X.stepx x)
  have f180 := f13.mono X181.size
  have f182 := f18.mono X181.size
  exact ⟨_, Ret_of [.slice a19 (List.length r2) c20, .slice a21 (List.length r3) c22, I r4, I r6, .slice a103 (List.length shares94) c104] ⟨⟨rfl, rfl⟩, ⟨rfl, rfl⟩, ⟨rfl, rfl⟩, ⟨rfl, rfl⟩, ⟨rfl, rfl⟩, trivial⟩, _, _, _, _, _, _, _, _, _, _, _, H, rfl, X107.ext, o, ex101, f180, o16, ex102, f182, o97, ex98, f99⟩

set_option maxRecDepth 8000 in
set_option maxHeartbeats 4000000 in
theorem spec_DrawMaskCounts_w (code : List B8) (Q : Int → Int → Prop) (H : spec_DrawMaskCounts code Q) (w : World) {vx : Value} {hx : PH} (r : RS hx vx code) (ex : Sub hx w) :
    CallsTo Try.prog 75 #[vx] w fun v w' => ∃ r0 r1, Q r0 r1 ∧ v = .tuple #[I r0, I r1] ∧ Ext w w' := by
  obtain ⟨a, c, rfl⟩ := r.shape
  refine enter (args := [.slice a (List.length code) c]) 13 Try.func75 rfl rfl rfl ?_
  refine W_forget [(0, .slice a (List.length code) c)] ⟨rfl, trivial⟩ fun ρ => ?_
  have X := But.refl emp w
  refine W_seq ?_
  refine W_region ?_
  refine LP_ev ok 0 [(2, I 0), (3, I 0)] 2 rfl rfl ?_
  refine LP_end _ rfl ?_
  refine W_seq ?_
  refine W_region ?_
  refine LP_ev ok 0 [(5, .slice a (List.length code) c), (6, .agg #[.slice a (List.length code) c, I 0, .int .u64 0])] 2 rfl rfl ?_
  refine LP_box 2 (cs := [.slice a (List.length code) c, I 0, .int .u64 0]) rfl rfl rfl rfl rfl fun b wx x ex1 f => ?_
  refine LP_ev ok 3 [(4, .pointer (some ⟨b, 0, none⟩))] 4 rfl rfl ?_
  refine LP_end _ rfl ?_
  refine W_seq ?_
  refine W_region ?_
  refine LP_ev ok 0 [(8, .pointer (some ⟨b, 0, none⟩))] 1 rfl rfl ?_
  refine LP_lit (α := Int) (g := emp) 1 (vs := [I 2, I 3, I 5, I 10, I 20, I 21, I 1]) (xs := [2, 3, 5, 10, 20, 21, 1]) rfl rfl rfl Try.underlying22 ti_3 rfl rfl ⟨⟨_, rfl, rfl⟩, ⟨_, rfl, rfl⟩, ⟨_, rfl, rfl⟩, ⟨_, rfl, rfl⟩, ⟨_, rfl, rfl⟩, ⟨_, rfl, rfl⟩, ⟨_, rfl, rfl⟩, trivial⟩ rfl rfl fun hx2 vx3 wx4 x5 o ex6 f7 => ?_
  obtain ⟨a8, c9, rfl⟩ := o.shape
  have ex13 := ((ex.ext x).ext x5)
  have ex14 := (ex1.ext x5)
  refine LP_call 2 rfl rfl rfl cal_135 rfl (spec_l1Cur_among_w _ _ _ H wx4 r ex13 ex14 o.readf ex6 (Dj.of_fresh ex f).symm (Dj.of_fresh ex1 f7)) ?_
  rintro _ wx15 ⟨r10, r11, r12, H, rfl, x16, ex17⟩
  refine LP_ev ok 3 [(11, .pointer (some ⟨b, 0, none⟩))] 4 rfl rfl ?_
  have ex23 := (ex13.but x16 (Dj.of_fresh ex f).symm)
  refine LP_call 4 rfl rfl rfl cal_130 rfl (spec_l1Cur_pick_w _ _ _ H wx15 r ex23 ex17 (Dj.box (Dj.of_fresh ex f).symm)) ?_
  rintro _ wx24 ⟨r20, r21, r22, H, rfl, x25, ex26⟩
  refine LP_ev ok 5 [(2, I r10), (3, I r20)] 7 rfl rfl ?_
  refine LP_end _ rfl ?_
  refine W_ret ?_
  have f30 := f.mono X.size
  have X31 := ((((X.stepx x).stepx x5).step x16 (f30.dom _)).step x25 ((Fresh.box f30).dom _))
  exact ⟨_, Ret_of [I r10, I r20] ⟨⟨rfl, rfl⟩, ⟨rfl, rfl⟩, trivial⟩, _, _, H, rfl, X31.ext⟩

set_option maxRecDepth 8000 in
set_option maxHeartbeats 4000000 in
theorem laws_FnMasks_w (code : List B8) (more : List B8) (Q : Bool → Prop) (H : laws_FnMasks code more Q) (w : World) {vx : Value} {hx : PH} (r : RS hx vx code) (ex : Sub hx w) {vx1 : Value} {hx2 : PH} (r3 : RS hx2 vx1 more) (ex4 : Sub hx2 w) :
    CallsTo Try.prog 19 #[vx, vx1] w fun v w' => ∃ r0, Q r0 ∧ v = .bool r0 ∧ Ext w w' := by
  obtain ⟨a, c, rfl⟩ := r.shape
  obtain ⟨a5, c6, rfl⟩ := r3.shape
  refine enter (args := [.slice a (List.length code) c, .slice a5 (List.length more) c6]) 226 Try.func19 rfl rfl rfl ?_
  refine W_forget [(0, .slice a (List.length code) c), (1, .slice a5 (List.length more) c6)] ⟨rfl, rfl, trivial⟩ fun ρ => ?_
  have X := But.refl emp w
  refine W_seq ?_
  refine W_region ?_
  refine LP_ev ok 0 [(4, .bool false)] 1 rfl rfl ?_
  refine LP_end _ rfl ?_
  refine W_seq ?_
  refine W_seq ?_
  refine W_region ?_
  refine LP_ev ok 0 [(45, .slice a (List.length code) c), (46, .slice a5 (List.length more) c6)] 2 rfl rfl ?_
  refine LP_call 2 rfl rfl rfl cal_69 rfl (laws_big_w _ _ _ H w r ex r3 ex4) ?_
  rintro _ wx ⟨r7, H, rfl, x⟩
  refine LP_end _ rfl ?_
  refine W_cond (r7) rfl (fun hc => ?_) (fun hc => ?_)
  · have H := H.1 hc
    refine W_seq ?_
    refine W_region ?_
    refine LP_ev ok 0 [(4, .bool true)] 1 rfl rfl ?_
    refine LP_end _ rfl ?_
    refine W_ret ?_
    have X8 := (X.stepx x)
    exact ⟨_, Ret_of [.bool true] ⟨⟨rfl, rfl⟩, trivial⟩, _, H, rfl, X8.ext⟩
  have H := H.2 hc
  refine W_skip ?_
  refine W_seq ?_
  refine W_region ?_
  refine LP_ev ok 0 [(49, .slice a (List.length code) c)] 1 rfl rfl ?_
  have ex14 := (ex.ext x)
  refine LP_call 1 rfl rfl rfl cal_70 rfl (spec_DrawMaskOf_w _ _ H wx r ex14) ?_
  rintro _ wx15 ⟨r9, r10, r11, r12, r13, vx17, hx18, H, rfl, x16, o, ex19, f⟩
  obtain ⟨a20, c21, rfl⟩ := o.shape
  refine LP_ev ok 2 [(48, .tuple #[.slice a20 (List.length r9) c21, I r10, I r11, I r12, I r13]), (51, .slice a20 (List.length r9) c21), (52, I r10), (53, I r11), (54, I r12), (55, I r13), (5, .slice a20 (List.length r9) c21), (6, I r10), (7, I r11), (8, I r12), (9, I r13)] 13 rfl rfl ?_
  refine LP_end _ rfl ?_
  refine W_seq ?_
  refine W_region ?_
  refine LP_ev ok 0 [(10, .slice none 0 0)] 1 rfl rfl ?_
  refine LP_end _ rfl ?_
  refine W_seq ?_
  refine W_region ?_
  refine LP_ev ok 0 [(11, .bool true)] 1 rfl rfl ?_
  refine LP_end _ rfl ?_
  refine W_seq ?_
  refine W_seq ?_
  refine W_region ?_
  refine LP_ev ok 0 [(56, .slice a20 (List.length r9) c21), (57, I (ln r9)), (58, I 0)] 3 rfl rfl ?_
  refine LP_end _ rfl ?_
  refine W_block ?_
  obtain ⟨J, m, Hx, H⟩ := H
  have X35 := ((X.stepx x).stepx x16)
  have ex36 := ((ex4.ext x).ext x16)
  refine W_loop (S := (List (List Int)) × Bool × Int) (fun s ρ' w' => J s.1 s.2.1 s.2.2 ∧ ∃ (ρ : Env) (vx22 : Value) (hx23 : PH), ρ' = setAll [(1, .slice a5 (List.length more) c6), (5, .slice a20 (List.length r9) c21), (7, I r11), (8, I r12), (9, I r13), (10, vx22), (11, .bool s.2.1), (57, I (ln r9)), (58, I s.2.2)] ρ ∧ But emp w w' ∧ OD hx23 vx22 s.1 ∧ Sub hx23 w' ∧ Fresh w.heap.size hx23 ∧ Sub hx2 w' ∧ Sub hx18 w' ∧ Dj hx23 hx2 ∧ Dj hx23 hx18) (fun s => m s.1 s.2.1 s.2.2) ([], true, 0) ⟨Hx, _, .slice none 0 0, emp, env_eq ⟨rfl, rfl, rfl, rfl, rfl, rfl, rfl, rfl, rfl, trivial⟩, X35, OD.nil, (emp_sub _), (emp_fresh _), ex36, ex19, (fun _ => .inl rfl), (fun _ => .inl rfl)⟩ ?_
  rintro ⟨masks, all, x27⟩ _ wx28 ⟨Hi, ρ, vx22, hx23, rfl, X34, o24, ex25, f26, ex29, ex30, d, d33⟩
  have H := H masks all x27 Hi
  obtain ⟨a31, c32, rfl⟩ := o24.shape
  refine W_seq ?_
  refine W_region ?_
  refine LP_ev ok 0 [(59, .bool (decide (x27 < (ln r9))))] 1 rfl rfl ?_
  refine LP_end _ rfl ?_
  refine W_seq ?_
  refine W_cond (decide (x27 < (ln r9))) rfl (fun hc37 => ?_) (fun hc37 => ?_)
  · have H := H.1 hc37
    refine W_skip ?_
    refine W_seq ?_
    refine W_block ?_
    refine W_seq ?_
    refine W_region ?_
    refine LP_ev ok 0 [(60, I x27), (12, I x27)] 2 rfl rfl ?_
    refine LP_end _ rfl ?_
    refine W_seq ?_
    refine W_region ?_
    refine LP_ev ok 0 [(62, .slice a20 (List.length r9) c21), (63, I x27), (64, I r11), (65, I r12), (66, I r13)] 5 rfl rfl ?_
    refine LP_call 5 rfl rfl rfl cal_58 rfl (impl_MaskOf_w _ _ _ _ _ _ H wx28 o ex30) ?_
    rintro _ wx40 ⟨r38, r39, vx42, hx43, H, rfl, x41, o44, ex45, f46⟩
    obtain ⟨a47, c48, rfl⟩ := o44.shape
    refine LP_ev ok 6 [(61, .tuple #[.slice a47 (List.length r38) c48, .bool r39]), (68, .slice a47 (List.length r38) c48), (69, .bool r39), (13, .slice a47 (List.length r38) c48), (14, .bool r39)] 11 rfl rfl ?_
    refine LP_end _ rfl ?_
    refine W_seq ?_
    refine W_region ?_
    refine LP_ev ok 0 [(71, .slice a20 (List.length r9) c21), (72, I x27), (73, I r11), (74, I r12), (75, I r13)] 5 rfl rfl ?_
    have ex51 := (ex30.ext x41)
    refine LP_call 5 rfl rfl rfl cal_57 rfl (spec_MaskOf_w _ _ _ _ _ _ H wx40 o ex51) ?_
    rintro _ wx52 ⟨r49, r50, vx54, hx55, H, rfl, x53, o56, ex57, f58⟩
    obtain ⟨a59, c60, rfl⟩ := o56.shape
    refine LP_ev ok 6 [(70, .tuple #[.slice a59 (List.length r49) c60, .bool r50]), (77, .slice a59 (List.length r49) c60), (78, .bool r50), (15, .slice a59 (List.length r49) c60), (16, .bool r50)] 11 rfl rfl ?_
    refine LP_end _ rfl ?_
    try refine W_forget [(1, .slice a5 (List.length more) c6), (5, .slice a20 (List.length r9) c21), (7, I r11), (8, I r12), (9, I r13), (10, .slice a31 (List.length masks) c32), (11, .bool all), (13, .slice a47 (List.length r38) c48), (14, .bool r39), (15, .slice a59 (List.length r49) c60), (16, .bool r50), (57, I (ln r9)), (58, I x27)] ⟨rfl, rfl, rfl, rfl, rfl, rfl, rfl, rfl, rfl, rfl, rfl, rfl, rfl, trivial⟩ fun ρ => ?_
    refine W_seq ?_
    obtain ⟨k, hk, H⟩ := jn_elim H
    refine W_join2 (S := Bool) (fun s ρ' w' => k s ∧ ∃ (ρ : Env), ρ' = setAll [(1, .slice a5 (List.length more) c6), (5, .slice a20 (List.length r9) c21), (7, I r11), (8, I r12), (9, I r13), (10, .slice a31 (List.length masks) c32), (11, .bool all), (14, .bool r39), (15, .slice a59 (List.length r49) c60), (57, I (ln r9)), (58, I x27), (87, .bool s)] ρ ∧ But emp w w' ∧ Sub hx2 w' ∧ Sub hx18 w' ∧ Sub hx23 w' ∧ Sub hx55 w') ?_ ?_
    · refine W_region ?_
      refine LP_ev ok 0 [(79, .bool r39), (80, .bool r50), (81, .bool (r39 != r50)), (82, .bool (r39 != r50))] 4 rfl rfl ?_
      refine LP_split 82 (r39 != r50) rfl (fun hc68 => ?_) (fun hc68 => ?_)
      · have H := H.1 hc68
        refine LP_ev ok 4 [(83, undef), (84, undef), (85, undef), (86, undef), (87, .bool true)] 9 rfl rfl ?_
        refine LP_end _ rfl ?_
        have X69 := ((X34.stepx x41).stepx x53)
        have ex70 := ((ex29.ext x41).ext x53)
        have ex71 := (ex51.ext x53)
        have ex72 := ((ex25.ext x41).ext x53)
        exact ⟨true, H, _, env_eq ⟨rfl, rfl, rfl, rfl, rfl, rfl, rfl, rfl, rfl, rfl, rfl, rfl, trivial⟩, X69, ex70, ex71, ex72, ex57⟩
      have H := H.2 hc68
      refine LP_ev ok 4 [(83, .slice a47 (List.length r38) c48), (84, .slice a59 (List.length r49) c60)] 6 rfl rfl ?_
      have ex74 := (ex45.ext x53)
      refine LP_call 6 rfl rfl rfl cal_71 rfl (laws_sameInts_w _ _ _ H wx52 o44.readf ex74 o56.readf ex57) ?_
      rintro _ wx75 ⟨r73, H, rfl, x76⟩
      refine LP_ev ok 7 [(86, .bool (!r73)), (87, .bool (!r73))] 9 rfl rfl ?_
      refine LP_end _ rfl ?_
      have X77 := (((X34.stepx x41).stepx x53).stepx x76)
      have ex78 := (((ex29.ext x41).ext x53).ext x76)
      have ex79 := ((ex51.ext x53).ext x76)
      have ex80 := (((ex25.ext x41).ext x53).ext x76)
      have ex81 := (ex57.ext x76)
      exact ⟨!r73, H, _, env_eq ⟨rfl, rfl, rfl, rfl, rfl, rfl, rfl, rfl, rfl, rfl, rfl, rfl, trivial⟩, X77, ex78, ex79, ex80, ex81⟩
    rintro x61 _ wx62 ⟨H, ρ, rfl, X67, ex63, ex64, ex65, ex66⟩
    subst hk
    refine W_cond (x61) rfl (fun hc82 => ?_) (fun hc82 => ?_)
    · have H := H.1 hc82
      refine W_seq ?_
      refine W_region ?_
      refine LP_ev ok 0 [(4, .bool false)] 1 rfl rfl ?_
      refine LP_end _ rfl ?_
      refine W_ret ?_
      exact ⟨_, Ret_of [.bool false] ⟨⟨rfl, rfl⟩, trivial⟩, _, H, rfl, X67.ext⟩
    have H := H.2 hc82
    refine W_skip ?_
    obtain ⟨k85, hk86, H⟩ := jn_elim H
    refine W_join2 (S := Bool) (fun s ρ' w' => k85 s ∧ ∃ (ρ : Env), ρ' = setAll [(1, .slice a5 (List.length more) c6), (5, .slice a20 (List.length r9) c21), (7, I r11), (8, I r12), (9, I r13), (10, .slice a31 (List.length masks) c32), (11, .bool s), (15, .slice a59 (List.length r49) c60), (57, I (ln r9)), (58, I x27)] ρ ∧ wx62 = w') ?_ ?_
    · refine W_region ?_
      refine LP_ev ok 0 [(88, .bool all), (89, .bool all)] 2 rfl rfl ?_
      refine LP_split 89 (all) rfl (fun hc87 => ?_) (fun hc87 => ?_)
      · have H := H.1 hc87
        refine LP_ev ok 2 [(90, .bool r39), (91, .bool r39), (11, .bool r39)] 5 rfl rfl ?_
        refine LP_end _ rfl ?_
        exact ⟨r39, H, _, env_eq ⟨rfl, rfl, rfl, rfl, rfl, rfl, rfl, rfl, rfl, rfl, trivial⟩, rfl⟩
      have H := H.2 hc87
      refine LP_ev ok 2 [(90, undef), (91, .bool false), (11, .bool false)] 5 rfl rfl ?_
      refine LP_end _ rfl ?_
      exact ⟨false, H, _, env_eq ⟨rfl, rfl, rfl, rfl, rfl, rfl, rfl, rfl, rfl, rfl, trivial⟩, rfl⟩
    rintro all83 _ _ ⟨H, ρ, rfl, rfl⟩
    subst hk86
    refine W_region ?_
    refine LP_ev ok 0 [(92, .slice a31 (List.length masks) c32), (93, .slice a59 (List.length r49) c60)] 2 rfl rfl ?_
    refine LP_litD (α := List Int) 2 (vs := [.slice a59 (List.length r49) c60]) (xs := [r49]) rfl rfl rfl Try.underlying49 ti_22 rfl rfl (allO.one (OD.rvo (OS.od o56))) ex66 rfl rfl fun hx88 vx89 wx90 x91 o92 ex93 dm => ?_
    obtain ⟨a94, c95, rfl⟩ := o92.shape
    have ex96 := (ex65.ext x91)
    have ex97 := (ex25.ext x41)
    obtain ⟨hb, H⟩ := H
    refine LP_appendD (α := List Int) 3 rfl rfl rfl Try.underlying49 ti_22 rfl rfl rfl o24 ex96 o92 ex93 (DomLe.dj dm (Dj.of_fresh ex97 f58).symm ex65).symm (by first | omega | (simp only [ln] at *; omega)) (by first | omega | (simp only [ln] at *; omega)) fun hx98 vx99 wx100 hw o101 ex102 y dh dm103 => ?_
    obtain ⟨a104, c105, rfl⟩ := o101.shape
    refine LP_ev ok 4 [(10, .slice a104 (List.length (masks ++ ([r49]))) c105)] 5 rfl rfl ?_
    refine LP_end _ rfl ?_
    refine W_region ?_
    refine LP_ev ok 0 [(96, I (wr (x27 + 1))), (58, I (wr (x27 + 1)))] 2 rfl rfl ?_
    refine LP_end _ rfl ?_
    have X106 := ((X67.stepx x91).step (But.dom y dh) (f26.dom _))
    have X108 := (X34.stepx x41)
    have f107 := f58.mono X108.size
    have f109 := DomLe.fresh dm f107 X67.size
    have X111 := (X67.stepx x91)
    have f110 := DomLe.fresh dm103 (Fresh.un f26 f109) X111.size
    have ex112 := ((ex63.ext x91).but (But.dom y dh) d)
    have ex113 := ((ex64.ext x91).but (But.dom y dh) d33)
    have ex114 := (ex29.ext x41)
    have ex115 := (ex63.ext x91)
    have ex116 := (ex64.ext x91)
    exact ⟨(masks ++ ([r49]), all83, wr (x27 + 1)), ⟨H.1, _, .slice a104 (List.length (masks ++ ([r49]))) c105, hx98, env_eq ⟨rfl, rfl, rfl, rfl, rfl, rfl, rfl, rfl, rfl, trivial⟩, X106, o101, ex102, f110, ex112, ex113, (DomLe.dj dm103 (Dj.un_l d (DomLe.dj dm (Dj.of_fresh ex114 f58).symm ex63)) ex115), (DomLe.dj dm103 (Dj.un_l d33 (DomLe.dj dm (Dj.of_fresh ex51 f58).symm ex64)) ex116)⟩, H.2⟩
  have H := H.2 hc37
  refine W_exit ?_
  refine (if_pos rfl).mpr ?_
  obtain ⟨k120, hk121, H⟩ := jn_elim H
  refine W_join2 (S := Unit) (fun s ρ' w' => k120 ∧ ∃ (ρ : Env), ρ' = setAll [(1, .slice a5 (List.length more) c6)] ρ ∧ But emp w w' ∧ Sub hx2 w') ?_ ?_
  · obtain ⟨k124, hk125, H⟩ := jn_elim H
    refine W_join2 (S := Bool) (fun s ρ' w' => k124 s ∧ ∃ (ρ : Env), ρ' = setAll [(1, .slice a5 (List.length more) c6), (8, I r12), (9, I r13), (10, .slice a31 (List.length masks) c32), (102, .bool s)] ρ ∧ wx28 = w') ?_ ?_
    · refine W_region ?_
      refine LP_ev ok 0 [(97, .bool all), (98, .bool all)] 2 rfl rfl ?_
      refine LP_split 98 (all) rfl (fun hc126 => ?_) (fun hc126 => ?_)
      · have H := H.1 hc126
        refine LP_ev ok 2 [(99, .slice a31 (List.length masks) c32), (100, I (ln masks)), (101, .bool (decide ((ln masks) > 0))), (102, .bool (decide ((ln masks) > 0)))] 6 rfl rfl ?_
        refine LP_end _ rfl ?_
        exact ⟨decide ((ln masks) > 0), H, _, env_eq ⟨rfl, rfl, rfl, rfl, rfl, trivial⟩, rfl⟩
      have H := H.2 hc126
      refine LP_ev ok 2 [(99, undef), (100, undef), (101, undef), (102, .bool false)] 6 rfl rfl ?_
      refine LP_end _ rfl ?_
      exact ⟨false, H, _, env_eq ⟨rfl, rfl, rfl, rfl, rfl, trivial⟩, rfl⟩
    rintro x122 _ _ ⟨H, ρ, rfl, rfl⟩
    subst hk125
    refine W_cond (x122) rfl (fun hc127 => ?_) (fun hc127 => ?_)
    · have H := H.1 hc127
      refine W_seq ?_
      refine W_region ?_
      refine LP_ev ok 0 [(104, I r13), (105, .slice a31 (List.length masks) c32)] 2 rfl rfl ?_
      refine LP_call 2 rfl rfl rfl cal_42 rfl (impl_SumOfShares_w _ _ _ H wx28 o24.readf ex25) ?_
      rintro _ wx130 ⟨r128, r129, vx132, hx133, H, rfl, x131, o134, ex135, f136⟩
      obtain ⟨a137, c138, rfl⟩ := o134.shape
      refine LP_ev ok 3 [(103, .tuple #[.slice a137 (List.length r128) c138, .bool r129]), (107, .slice a137 (List.length r128) c138), (108, .bool r129), (17, .slice a137 (List.length r128) c138), (18, .bool r129)] 8 rfl rfl ?_
      refine LP_end _ rfl ?_
      refine W_seq ?_
      obtain ⟨k144, hk145, H⟩ := jn_elim H
      refine W_join2 (S := Bool) (fun s ρ' w' => k144 s ∧ ∃ (ρ : Env), ρ' = setAll [(1, .slice a5 (List.length more) c6), (17, .slice a137 (List.length r128) c138), (121, .bool s)] ρ ∧ But emp w w' ∧ Sub hx2 w' ∧ Sub hx133 w') ?_ ?_
      · refine W_region ?_
        refine LP_ev ok 0 [(109, .bool r129), (110, .bool (!r129)), (111, .bool (!r129))] 3 rfl rfl ?_
        refine LP_split 111 (!r129) rfl (fun hc146 => ?_) (fun hc146 => ?_)
        · have H := H.1 hc146
          refine LP_ev ok 3 [(112, undef), (113, undef), (114, undef), (115, undef), (116, .bool true), (117, .bool true), (118, undef), (119, undef), (120, undef), (121, .bool true)] 13 rfl rfl ?_
          refine LP_end _ rfl ?_
          have X147 := (X34.stepx x131)
          have ex148 := (ex29.ext x131)
          exact ⟨true, H, _, env_eq ⟨rfl, rfl, rfl, trivial⟩, X147, ex148, ex135⟩
        have H := H.2 hc146
        refine LP_ev ok 3 [(112, .slice a137 (List.length r128) c138), (113, I (ln r128)), (114, I r12), (115, .bool ((ln r128) != r12)), (116, .bool ((ln r128) != r12)), (117, .bool ((ln r128) != r12))] 9 rfl rfl ?_
        refine LP_split 117 ((ln r128) != r12) rfl (fun hc149 => ?_) (fun hc149 => ?_)
        · have H := H.1 hc149
          refine LP_ev ok 9 [(118, undef), (119, undef), (120, undef), (121, .bool true)] 13 rfl rfl ?_
          refine LP_end _ rfl ?_
          have X150 := (X34.stepx x131)
          have ex151 := (ex29.ext x131)
          exact ⟨true, H, _, env_eq ⟨rfl, rfl, rfl, trivial⟩, X150, ex151, ex135⟩
        have H := H.2 hc149
        refine LP_ev ok 9 [(118, .slice a137 (List.length r128) c138)] 10 rfl rfl ?_
        refine LP_call 10 rfl rfl rfl cal_72 rfl (laws_pSum_w _ _ H wx130 o134.readf ex135) ?_
        rintro _ wx153 ⟨r152, H, rfl, x154⟩
        refine LP_ev ok 11 [(120, .bool (r152 != 0)), (121, .bool (r152 != 0))] 13 rfl rfl ?_
        refine LP_end _ rfl ?_
        have X155 := ((X34.stepx x131).stepx x154)
        have ex156 := ((ex29.ext x131).ext x154)
        have ex157 := (ex135.ext x154)
        exact ⟨r152 != 0, H, _, env_eq ⟨rfl, rfl, rfl, trivial⟩, X155, ex156, ex157⟩
      rintro x139 _ wx140 ⟨H, ρ, rfl, X143, ex141, ex142⟩
      subst hk145
      refine W_cond (x139) rfl (fun hc158 => ?_) (fun hc158 => ?_)
      · have H := H.1 hc158
        refine W_seq ?_
        refine W_region ?_
        refine LP_ev ok 0 [(4, .bool false)] 1 rfl rfl ?_
        refine LP_end _ rfl ?_
        refine W_ret ?_
        exact ⟨_, Ret_of [.bool false] ⟨⟨rfl, rfl⟩, trivial⟩, _, H, rfl, X143.ext⟩
      have H := H.2 hc158
      refine W_skip ?_
      refine W_seq ?_
      refine W_region ?_
      refine LP_ev ok 0 [(122, .slice a137 (List.length r128) c138), (123, I (ln r128)), (124, I 0)] 3 rfl rfl ?_
      refine LP_end _ rfl ?_
      refine W_block ?_
      obtain ⟨J161, m162, Hx163, H⟩ := H
      refine W_loop (S := Int) (fun s ρ' w' => J161 s ∧ ∃ (ρ : Env), ρ' = setAll [(1, .slice a5 (List.length more) c6), (122, .slice a137 (List.length r128) c138), (123, I (ln r128)), (124, I s)] ρ ∧ wx140 = w') (fun s => m162 s) 0 ⟨Hx163, _, env_eq ⟨rfl, rfl, rfl, rfl, trivial⟩, rfl⟩ ?_
      rintro x159 _ _ ⟨Hi, ρ, rfl, rfl⟩
      have H := H x159 Hi
      refine W_seq ?_
      refine W_region ?_
      refine LP_ev ok 0 [(125, .bool (decide (x159 < (ln r128))))] 1 rfl rfl ?_
      refine LP_end _ rfl ?_
      refine W_seq ?_
      refine W_cond (decide (x159 < (ln r128))) rfl (fun hc165 => ?_) (fun hc165 => ?_)
      · have H := H.1 hc165
        refine W_skip ?_
        refine W_seq ?_
        refine W_block ?_
        refine W_seq ?_
        refine W_region ?_
        obtain ⟨x166, hi, hx167, H⟩ := H
        refine LP_index 0 rfl rfl rfl Try.underlying22 ti_3 rfl rfl o134.readf hi hx167 fun a168 cs r169 d170 => ?_
        refine LP_load 1 rfl rfl rfl ti_3 ag_3 rfl r169 d170 ex142 fun vx171 r172 => ?_
        obtain rfl := r172.int
        refine LP_ev ok 2 [(20, I x166)] 3 rfl rfl ?_
        refine LP_end _ rfl ?_
        refine W_seq ?_
        refine W_region ?_
        refine LP_ev ok 0 [(128, I x166), (129, .bool (x166 != 0))] 2 rfl rfl ?_
        refine LP_end _ rfl ?_
        refine W_cond (x166 != 0) rfl (fun hc173 => ?_) (fun hc173 => ?_)
        · have H := H.1 hc173
          refine W_seq ?_
          refine W_region ?_
          refine LP_ev ok 0 [(4, .bool false)] 1 rfl rfl ?_
          refine LP_end _ rfl ?_
          refine W_ret ?_
          exact ⟨_, Ret_of [.bool false] ⟨⟨rfl, rfl⟩, trivial⟩, _, H, rfl, X143.ext⟩
        have H := H.2 hc173
        refine W_skip ?_
        refine W_region ?_
        refine LP_ev ok 0 [(130, I (wr (x159 + 1))), (124, I (wr (x159 + 1)))] 2 rfl rfl ?_
        refine LP_end _ rfl ?_
        exact ⟨wr (x159 + 1), ⟨H.1, _, env_eq ⟨rfl, rfl, rfl, rfl, trivial⟩, rfl⟩, H.2⟩
      have H := H.2 hc165
      refine W_exit ?_
      refine (if_pos rfl).mpr ?_
      exact ⟨(), H, _, env_eq ⟨rfl, trivial⟩, X143, ex141⟩
    have H := H.2 hc127
    refine W_skip ?_
    exact ⟨(), H, _, env_eq ⟨rfl, trivial⟩, X34, ex29⟩
  rintro ⟨⟩ _ wx117 ⟨H, ρ, rfl, X119, ex118⟩
  subst hk121
  refine W_seq ?_
  refine W_region ?_
  refine LP_ev ok 0 [(132, .slice a5 (List.length more) c6)] 1 rfl rfl ?_
  refine LP_call 1 rfl rfl rfl cal_73 rfl (spec_DrawMaskRepair_w _ _ H wx117 r3 ex118) ?_
  rintro _ wx179 ⟨r174, r175, r176, r177, r178, vx181, hx182, vx186, hx187, H, rfl, x180, o183, ex184, f185, o188, ex189, f190⟩
  obtain ⟨a191, c192, rfl⟩ := o183.shape
  obtain ⟨a193, c194, rfl⟩ := o188.shape
  refine LP_ev ok 2 [(131, .tuple #[.slice a191 (List.length r174) c192, .slice a193 (List.length r175) c194, I r176, I r177, I r178]), (134, .slice a191 (List.length r174) c192), (135, .slice a193 (List.length r175) c194), (136, I r176), (137, I r177), (138, I r178), (21, .slice a191 (List.length r174) c192), (22, .slice a193 (List.length r175) c194), (23, I r176), (24, I r177), (25, I r178)] 13 rfl rfl ?_
  refine LP_end _ rfl ?_
  refine W_seq ?_
  refine W_region ?_
  refine LP_ev ok 0 [(140, .slice a191 (List.length r174) c192), (141, .slice a193 (List.length r175) c194), (142, I r176), (143, I r177), (144, I r178)] 5 rfl rfl ?_
  refine LP_call 5 rfl rfl rfl cal_62 rfl (impl_MaskRepair_w _ _ _ _ _ _ H wx179 o183 ex184 o188.readf ex189) ?_
  rintro _ wx197 ⟨r195, r196, vx199, hx200, H, rfl, x198, o201, ex202, f203⟩
  obtain ⟨a204, c205, rfl⟩ := o201.shape
  refine LP_ev ok 6 [(139, .tuple #[.slice a204 (List.length r195) c205, .bool r196]), (146, .slice a204 (List.length r195) c205), (147, .bool r196), (26, .slice a204 (List.length r195) c205), (27, .bool r196)] 11 rfl rfl ?_
  refine LP_end _ rfl ?_
  refine W_seq ?_
  refine W_region ?_
  refine LP_ev ok 0 [(149, .slice a191 (List.length r174) c192), (150, .slice a193 (List.length r175) c194), (151, I r176), (152, I r177), (153, I r178)] 5 rfl rfl ?_
  have ex208 := (ex184.ext x198)
  have ex209 := (ex189.ext x198)
  refine LP_call 5 rfl rfl rfl cal_61 rfl (spec_MaskRepair_w _ _ _ _ _ _ H wx197 o183 ex208 o188.readf ex209) ?_
  rintro _ wx210 ⟨r206, r207, vx212, hx213, H, rfl, x211, o214, ex215, f216⟩
  obtain ⟨a217, c218, rfl⟩ := o214.shape
  refine LP_ev ok 6 [(148, .tuple #[.slice a217 (List.length r206) c218, .bool r207]), (155, .slice a217 (List.length r206) c218), (156, .bool r207), (28, .slice a217 (List.length r206) c218), (29, .bool r207)] 11 rfl rfl ?_
  refine LP_end _ rfl ?_
  try refine W_forget [(1, .slice a5 (List.length more) c6), (26, .slice a204 (List.length r195) c205), (27, .bool r196), (28, .slice a217 (List.length r206) c218), (29, .bool r207)] ⟨rfl, rfl, rfl, rfl, rfl, trivial⟩ fun ρ => ?_
  refine W_seq ?_
  obtain ⟨k223, hk224, H⟩ := jn_elim H
  refine W_join2 (S := Bool) (fun s ρ' w' => k223 s ∧ ∃ (ρ : Env), ρ' = setAll [(1, .slice a5 (List.length more) c6), (165, .bool s)] ρ ∧ But emp w w' ∧ Sub hx2 w') ?_ ?_
  · refine W_region ?_
    refine LP_ev ok 0 [(157, .bool r196), (158, .bool r207), (159, .bool (r196 != r207)), (160, .bool (r196 != r207))] 4 rfl rfl ?_
    refine LP_split 160 (r196 != r207) rfl (fun hc225 => ?_) (fun hc225 => ?_)
    · have H := H.1 hc225
      refine LP_ev ok 4 [(161, undef), (162, undef), (163, undef), (164, undef), (165, .bool true)] 9 rfl rfl ?_
      refine LP_end _ rfl ?_
      have X226 := (((X119.stepx x180).stepx x198).stepx x211)
      have ex227 := (((ex118.ext x180).ext x198).ext x211)
      exact ⟨true, H, _, env_eq ⟨rfl, rfl, trivial⟩, X226, ex227⟩
    have H := H.2 hc225
    refine LP_ev ok 4 [(161, .slice a204 (List.length r195) c205), (162, .slice a217 (List.length r206) c218)] 6 rfl rfl ?_
    have ex229 := (ex202.ext x211)
    refine LP_call 6 rfl rfl rfl cal_71 rfl (laws_sameInts_w _ _ _ H wx210 o201.readf ex229 o214.readf ex215) ?_
    rintro _ wx230 ⟨r228, H, rfl, x231⟩
    refine LP_ev ok 7 [(164, .bool (!r228)), (165, .bool (!r228))] 9 rfl rfl ?_
    refine LP_end _ rfl ?_
    have X232 := ((((X119.stepx x180).stepx x198).stepx x211).stepx x231)
    have ex233 := ((((ex118.ext x180).ext x198).ext x211).ext x231)
    exact ⟨!r228, H, _, env_eq ⟨rfl, rfl, trivial⟩, X232, ex233⟩
  rintro x219 _ wx220 ⟨H, ρ, rfl, X222, ex221⟩
  subst hk224
  refine W_cond (x219) rfl (fun hc234 => ?_) (fun hc234 => ?_)
  · have H := H.1 hc234
    refine W_seq ?_
    refine W_region ?_
    refine LP_ev ok 0 [(4, .bool false)] 1 rfl rfl ?_
    refine LP_end _ rfl ?_
    refine W_ret ?_
    exact ⟨_, Ret_of [.bool false] ⟨⟨rfl, rfl⟩, trivial⟩, _, H, rfl, X222.ext⟩
  have H := H.2 hc234
  refine W_skip ?_
  refine W_seq ?_
  refine W_region ?_
  refine LP_ev ok 0 [(167, .slice a5 (List.length more) c6)] 1 rfl rfl ?_
  refine LP_call 1 rfl rfl rfl cal_74 rfl (spec_DrawSumPresent_w _ _ H wx220 r3 ex221) ?_
  rintro _ wx240 ⟨r235, r236, r237, r238, r239, vx242, hx243, vx247, hx248, vx252, hx253, H, rfl, x241, o244, ex245, f246, o249, ex250, f251, o254, ex255, f256⟩
  obtain ⟨a257, c258, rfl⟩ := o244.shape
  obtain ⟨a259, c260, rfl⟩ := o249.shape
  obtain ⟨a261, c262, rfl⟩ := o254.shape
  refine LP_ev ok 2 [(166, .tuple #[.slice a257 (List.length r235) c258, .slice a259 (List.length r236) c260, I r237, I r238, .slice a261 (List.length r239) c262]), (169, .slice a257 (List.length r235) c258), (170, .slice a259 (List.length r236) c260), (171, I r237), (172, I r238), (173, .slice a261 (List.length r239) c262), (30, .slice a257 (List.length r235) c258), (31, .slice a259 (List.length r236) c260), (32, I r237), (33, I r238), (34, .slice a261 (List.length r239) c262)] 13 rfl rfl ?_
  refine LP_end _ rfl ?_
  refine W_seq ?_
  refine W_region ?_
  refine LP_ev ok 0 [(175, .slice a257 (List.length r235) c258), (176, .slice a259 (List.length r236) c260), (177, I r237), (178, I r238), (179, .slice a261 (List.length r239) c262)] 5 rfl rfl ?_
  refine LP_call 5 rfl rfl rfl cal_64 rfl (impl_SumPresent_w _ _ _ _ _ _ H wx240 o244 ex245 o249.readf ex250 o254.readf ex255) ?_
  rintro _ wx265 ⟨r263, r264, vx267, hx268, H, rfl, x266, o269, ex270, f271⟩
  obtain ⟨a272, c273, rfl⟩ := o269.shape
  refine LP_ev ok 6 [(174, .tuple #[.slice a272 (List.length r263) c273, .bool r264]), (181, .slice a272 (List.length r263) c273), (182, .bool r264), (35, .slice a272 (List.length r263) c273), (36, .bool r264)] 11 rfl rfl ?_
  refine LP_end _ rfl ?_
  refine W_seq ?_
  refine W_region ?_
  refine LP_ev ok 0 [(184, .slice a257 (List.length r235) c258), (185, .slice a259 (List.length r236) c260), (186, I r237), (187, I r238), (188, .slice a261 (List.length r239) c262)] 5 rfl rfl ?_
  have ex276 := (ex245.ext x266)
  have ex277 := (ex250.ext x266)
  have ex278 := (ex255.ext x266)
  refine LP_call 5 rfl rfl rfl cal_63 rfl (spec_SumPresent_w _ _ _ _ _ _ H wx265 o244 ex276 o249.readf ex277 o254.readf ex278) ?_
  rintro _ wx279 ⟨r274, r275, vx281, hx282, H, rfl, x280, o283, ex284, f285⟩
  obtain ⟨a286, c287, rfl⟩ := o283.shape
  refine LP_ev ok 6 [(183, .tuple #[.slice a286 (List.length r274) c287, .bool r275]), (190, .slice a286 (List.length r274) c287), (191, .bool r275), (37, .slice a286 (List.length r274) c287), (38, .bool r275)] 11 rfl rfl ?_
  refine LP_end _ rfl ?_
  try refine W_forget [(1, .slice a5 (List.length more) c6), (35, .slice a272 (List.length r263) c273), (36, .bool r264), (37, .slice a286 (List.length r274) c287), (38, .bool r275)] ⟨rfl, rfl, rfl, rfl, rfl, trivial⟩ fun ρ => ?_
  refine W_seq ?_
  obtain ⟨k292, hk293, H⟩ := jn_elim H
  refine W_join2 (S := Bool) (fun s ρ' w' => k292 s ∧ ∃ (ρ : Env), ρ' = setAll [(1, .slice a5 (List.length more) c6), (200, .bool s)] ρ ∧ But emp w w' ∧ Sub hx2 w') ?_ ?_
  · refine W_region ?_
    refine LP_ev ok 0 [(192, .bool r264), (193, .bool r275), (194, .bool (r264 != r275)), (195, .bool (r264 != r275))] 4 rfl rfl ?_
    refine LP_split 195 (r264 != r275) rfl (fun hc294 => ?_) (fun hc294 => ?_)
    · have H := H.1 hc294
      refine LP_ev ok 4 [(196, undef), (197, undef), (198, undef), (199, undef), (200, .bool true)] 9 rfl rfl ?_
      refine LP_end _ rfl ?_
      have X295 := (((X222.stepx x241).stepx x266).stepx x280)
      have ex296 := (((ex221.ext x241).ext x266).ext x280)
      exact ⟨true, H, _, env_eq ⟨rfl, rfl, trivial⟩, X295, ex296⟩
    have H := H.2 hc294
    refine LP_ev ok 4 [(196, .slice a272 (List.length r263) c273), (197, .slice a286 (List.length r274) c287)] 6 rfl rfl ?_
    have ex298 := (ex270.ext x280)
    refine LP_call 6 rfl rfl rfl cal_71 rfl (laws_sameInts_w _ _ _ H wx279 o269.readf ex298 o283.readf ex284) ?_
    rintro _ wx299 ⟨r297, H, rfl, x300⟩
    refine LP_ev ok 7 [(199, .bool (!r297)), (200, .bool (!r297))] 9 rfl rfl ?_
    refine LP_end _ rfl ?_
    have X301 := ((((X222.stepx x241).stepx x266).stepx x280).stepx x300)
    have ex302 := ((((ex221.ext x241).ext x266).ext x280).ext x300)
    exact ⟨!r297, H, _, env_eq ⟨rfl, rfl, trivial⟩, X301, ex302⟩
  rintro x288 _ wx289 ⟨H, ρ, rfl, X291, ex290⟩
  subst hk293
  refine W_cond (x288) rfl (fun hc303 => ?_) (fun hc303 => ?_)
  · have H := H.1 hc303
    refine W_seq ?_
    refine W_region ?_
    refine LP_ev ok 0 [(4, .bool false)] 1 rfl rfl ?_
    refine LP_end _ rfl ?_
    refine W_ret ?_
    exact ⟨_, Ret_of [.bool false] ⟨⟨rfl, rfl⟩, trivial⟩, _, H, rfl, X291.ext⟩
  have H := H.2 hc303
  refine W_skip ?_
  refine W_seq ?_
  refine W_region ?_
  refine LP_ev ok 0 [(202, .slice a5 (List.length more) c6)] 1 rfl rfl ?_
  refine LP_call 1 rfl rfl rfl cal_75 rfl (spec_DrawMaskCounts_w _ _ H wx289 r3 ex290) ?_
  rintro _ wx306 ⟨r304, r305, H, rfl, x307⟩
  refine LP_ev ok 2 [(201, .tuple #[I r304, I r305]), (204, I r304), (205, I r305), (39, I r304), (40, I r305)] 7 rfl rfl ?_
  refine LP_end _ rfl ?_
  refine W_seq ?_
  refine W_region ?_
  refine LP_ev ok 0 [(207, I r304), (208, I r305)] 2 rfl rfl ?_
  refine LP_call 2 rfl rfl rfl cal_21 rfl (impl_MaskCounts_w _ _ _ H wx306 ) ?_
  rintro _ wx310 ⟨r308, r309, vx312, hx313, H, rfl, x311, o314, ex315, f316⟩
  obtain ⟨a317, c318, rfl⟩ := o314.shape
  refine LP_ev ok 3 [(206, .tuple #[.slice a317 (List.length r308) c318, .bool r309]), (210, .slice a317 (List.length r308) c318), (211, .bool r309), (41, .slice a317 (List.length r308) c318), (42, .bool r309)] 8 rfl rfl ?_
  refine LP_end _ rfl ?_
  refine W_seq ?_
  refine W_region ?_
  refine LP_ev ok 0 [(213, I r304), (214, I r305)] 2 rfl rfl ?_
  refine LP_call 2 rfl rfl rfl cal_20 rfl (spec_MaskCounts_w _ _ _ H wx310 ) ?_
  rintro _ wx321 ⟨r319, r320, vx323, hx324, H, rfl, x322, o325, ex326, f327⟩
  obtain ⟨a328, c329, rfl⟩ := o325.shape
  refine LP_ev ok 3 [(212, .tuple #[.slice a328 (List.length r319) c329, .bool r320]), (216, .slice a328 (List.length r319) c329), (217, .bool r320), (43, .slice a328 (List.length r319) c329), (44, .bool r320)] 8 rfl rfl ?_
  refine LP_end _ rfl ?_
  obtain ⟨k333, hk334, H⟩ := jn_elim H
  refine W_join2 (S := Bool) (fun s ρ' w' => k333 s ∧ ∃ (ρ : Env), ρ' = setAll [(4, .bool s)] ρ ∧ But emp w w') ?_ ?_
  · refine W_region ?_
    refine LP_ev ok 0 [(218, .bool r309), (219, .bool r320), (220, .bool (r309 == r320)), (221, .bool (r309 == r320))] 4 rfl rfl ?_
    refine LP_split 221 (r309 == r320) rfl (fun hc335 => ?_) (fun hc335 => ?_)
    · have H := H.1 hc335
      refine LP_ev ok 4 [(222, .slice a317 (List.length r308) c318), (223, .slice a328 (List.length r319) c329)] 6 rfl rfl ?_
      have ex337 := (ex315.ext x322)
      refine LP_call 6 rfl rfl rfl cal_71 rfl (laws_sameInts_w _ _ _ H wx321 o314.readf ex337 o325.readf ex326) ?_
      rintro _ wx338 ⟨r336, H, rfl, x339⟩
      refine LP_ev ok 7 [(225, .bool r336), (4, .bool r336)] 9 rfl rfl ?_
      refine LP_end _ rfl ?_
      try refine W_forget [(4, .bool r336)] ⟨rfl, trivial⟩ fun ρ => ?_
      have X340 := ((((X291.stepx x307).stepx x311).stepx x322).stepx x339)
      exact ⟨r336, H, _, env_eq ⟨rfl, trivial⟩, X340⟩
    have H := H.2 hc335
    refine LP_ev ok 4 [(222, undef), (223, undef), (224, undef), (225, .bool false), (4, .bool false)] 9 rfl rfl ?_
    refine LP_end _ rfl ?_
    try refine W_forget [(4, .bool false)] ⟨rfl, trivial⟩ fun ρ => ?_
    have X341 := (((X291.stepx x307).stepx x311).stepx x322)
    exact ⟨false, H, _, env_eq ⟨rfl, trivial⟩, X341⟩
  rintro x330 _ wx331 ⟨H, ρ, rfl, X332⟩
  subst hk334
  refine W_ret ?_
  exact ⟨_, Ret_of [.bool x330] ⟨⟨rfl, rfl⟩, trivial⟩, _, H, rfl, X332.ext⟩

end Go.Proofs.Ytbegmfmabcpofaa
