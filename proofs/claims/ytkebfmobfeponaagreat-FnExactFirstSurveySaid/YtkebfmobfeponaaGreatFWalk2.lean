/- The walks, further. -/
import Derived.Test.YtkebfmobfeponaaGreatFWalk
set_option linter.unusedVariables false
set_option autoImplicit false
namespace Go.Proofs.YtkebfmobfeponaaGreat
open Go Go.RowKit Go.Gv

open Go.Proofs
set_option maxRecDepth 8000
set_option maxHeartbeats 4000000
theorem spec_FirstSurvey_w (g : Geo) (sx : List Variable) (pubs : List Published) (n : Int) (Q : (List Int) → Bool → Prop) (H : spec_FirstSurvey g sx pubs n Q) (w : World) {vx : Value} {hx : PH} (r : RS hx vx g.Parents) (ex : Sub hx w) {vx1 : Value} {hx2 : PH} (r3 : RS hx2 vx1 sx) (ex4 : Sub hx2 w) {vx7 : Value} {hx8 : PH} (r9 : RS hx8 vx7 pubs) (ex10 : Sub hx8 w) :
  CallsTo Tryz.prog 12 #[.agg #[vx], vx1, vx7, I n] w fun v w' => ∃ r0 r1 u0 g0, Q r0 r1 ∧ v = .tuple #[u0, .bool r1] ∧ Ext w w' ∧ RS g0 u0 r0 ∧ Sub g0 w' ∧ Fresh w.heap.size g0 := by
 obtain ⟨a, c, rfl⟩ := r.shape
 obtain ⟨a5, c6, rfl⟩ := r3.shape
 obtain ⟨a11, c12, rfl⟩ := r9.shape
 refine enter (args := [.agg #[sl a g.Parents c], sl a5 sx c6, sl a11 pubs c12, I n]) 28 Tryz.func12 rfl rfl rfl ?_
 refine W_forget [(0, .agg #[sl a g.Parents c]), (1, sl a5 sx c6), (2, sl a11 pubs c12), (3, I n)] ⟨rfl, rfl, rfl, rfl, trivial⟩ fun ρ => ?_
 have X := But.refl emp w
 refine W_seq ?_
 refine W_region ?_
 refine LP_box 0 (cs := [sl a g.Parents c]) rfl rfl rfl rfl rfl fun b wx x ex13 f => ?_
 refine LP_ev ok 1 [(8, .slice none 0 0), (9, .bool false)] 3 rfl rfl ?_
 refine LP_end _ rfl ?_
 refine W_seq ?_
 refine W_seq ?_
 refine W_region ?_
 refine LP_ldbox 0 (v := .agg #[sl a g.Parents c]) rfl rfl rfl ti_32 ag_32 (fun h => by cases h) rfl ex13 rfl rfl ?_
 refine LP_ev ok 1 [(12, sl a5 sx c6), (13, sl a11 pubs c12), (14, I n)] 4 rfl rfl ?_
 have ex15 := (ex.ext x)
 have ex16 := (ex4.ext x)
 have ex17 := (ex10.ext x)
 refine LP_call 4 rfl rfl rfl cal_58 rfl (spec_aAsked_w _ _ _ _ _ H wx r ex15 r3 ex16 r9 ex17) ?_
 rintro _ wx18 ⟨r14, H, rfl, x19⟩
 refine LP_ev ok 5 [(16, .bool (!r14))] 6 rfl rfl ?_
 refine LP_end _ rfl ?_
 refine W_cond (!r14) rfl (fun hc => ?_) (fun hc => ?_)
 ·have H := H.1 hc
  refine W_seq ?_
  refine W_region ?_
  refine LP_ev ok 0 [(8, .slice none 0 0), (9, .bool false)] 2 rfl rfl ?_
  refine LP_end _ rfl ?_
  refine W_ret ?_
  have X20 := ((X.stepx x).stepx x19)
  exact ⟨_, Ret_of [.slice none 0 0, .bool false] ⟨⟨rfl, rfl⟩, ⟨rfl, rfl⟩, trivial⟩, _, _, _, emp, H, rfl, X20.ext, (.inl ⟨rfl, rfl⟩), (emp_sub _), (emp_fresh _)⟩
 have H := H.2 hc
 refine W_skip ?_
 refine W_seq ?_
 refine W_region ?_
 have ex21 := (ex13.ext x19)
 refine LP_ldbox 0 (v := .agg #[sl a g.Parents c]) rfl rfl rfl ti_32 ag_32 (fun h => by cases h) rfl ex21 rfl rfl ?_
 refine LP_ev ok 1 [(18, sl a5 sx c6), (19, sl a11 pubs c12), (20, I n)] 4 rfl rfl ?_
 have ex23 := (ex15.ext x19)
 have ex24 := (ex16.ext x19)
 have ex25 := (ex17.ext x19)
 refine LP_call 4 rfl rfl rfl cal_59 rfl (spec_aSolve_w _ _ _ _ _ _ H wx18 r ex23 r3 ex24 r9 ex25) ?_
 rintro _ wx26 ⟨r22, vx28, hx29, H, rfl, x27, o, ex30, f31⟩
 obtain ⟨a32, c33, rfl⟩ := o.shape
 refine LP_ev ok 5 [(10, sl a32 r22 c33)] 6 rfl rfl ?_
 refine LP_end _ rfl ?_
 refine W_seq ?_
 refine W_seq ?_
 refine W_region ?_
 refine LP_ev ok 0 [(22, sl a32 r22 c33), (23, I (ln r22)), (24, .bool ((ln r22) == 0))] 3 rfl rfl ?_
 refine LP_end _ rfl ?_
 refine W_cond ((ln r22) == 0) rfl (fun hc34 => ?_) (fun hc34 => ?_)
 ·have H := H.1 hc34
  refine W_seq ?_
  refine W_region ?_
  refine LP_ev ok 0 [(8, .slice none 0 0), (9, .bool false)] 2 rfl rfl ?_
  refine LP_end _ rfl ?_
  refine W_ret ?_
  have X35 := (((X.stepx x).stepx x19).stepx x27)
  exact ⟨_, Ret_of [.slice none 0 0, .bool false] ⟨⟨rfl, rfl⟩, ⟨rfl, rfl⟩, trivial⟩, _, _, _, emp, H, rfl, X35.ext, (.inl ⟨rfl, rfl⟩), (emp_sub _), (emp_fresh _)⟩
 have H := H.2 hc34
 refine W_skip ?_
 refine W_seq ?_
 refine W_region ?_
 refine LP_ev ok 0 [(25, sl a32 r22 c33)] 1 rfl rfl ?_
 obtain ⟨x36, hi, hx37, H⟩ := H
 refine LP_index 1 rfl rfl rfl Tryz.underlying95 ti_22 rfl rfl o.readf hi hx37 fun a38 cs r39 d => ?_
 refine LP_load 2 rfl rfl rfl ti_22 ag_22 rfl r39 d ex30 fun vx40 r41 => ?_
 have r44 := r41.slice
 obtain ⟨a42, c43, rfl⟩ := r44.shape
 refine LP_ev ok 3 [(8, sl a42 x36 c43), (9, .bool true)] 5 rfl rfl ?_
 refine LP_end _ rfl ?_
 refine W_ret ?_
 have X46 := ((X.stepx x).stepx x19)
 have f45 := f31.mono X46.size
 have X47 := (X46.stepx x27)
 exact ⟨_, Ret_of [sl a42 x36 c43, .bool true] ⟨⟨rfl, rfl⟩, ⟨rfl, rfl⟩, trivial⟩, _, _, _, _, H, rfl, X47.ext, r44, ex30, f45⟩

theorem impl_IsGeo_w (g : Geo) (Q : Bool → Prop) (H : impl_IsGeo g Q) (w : World) {vx : Value} {hx : PH} (r : RS hx vx g.Parents) (ex : Sub hx w) :
  CallsTo Tryz.prog 150 #[.agg #[vx]] w fun v w' => ∃ r0, Q r0 ∧ v = .bool r0 ∧ Ext w w' := by
 obtain ⟨a, c, rfl⟩ := r.shape
 refine enter (args := [.agg #[sl a g.Parents c]]) 43 Tryz.func150 rfl rfl rfl ?_
 refine W_forget [(0, .agg #[sl a g.Parents c])] ⟨rfl, trivial⟩ fun ρ => ?_
 have X := But.refl emp w
 refine W_seq ?_
 refine W_region ?_
 refine LP_box 0 (cs := [sl a g.Parents c]) rfl rfl rfl rfl rfl fun b wx x ex1 f => ?_
 refine LP_ev ok 1 [(2, .bool false)] 2 rfl rfl ?_
 refine LP_end _ rfl ?_
 refine W_seq ?_
 obtain ⟨k, hk, H⟩ := jn_elim H
 refine W_join2 (S := Bool) (fun s ρ' w' => k s ∧ ∃ (ρ : Env), ρ' = setAll [(1, pb b), (20, .bool s)] ρ ∧ wx = w') ?_ ?_
 ·refine W_region ?_
  refine LP_ev ok 0 [(4, pb b)] 1 rfl rfl ?_
  refine LP_ldbox 1 (v := sl a g.Parents c) rfl rfl rfl ti_22 ag_22 (fun _ => rfl) rfl ex1 rfl rfl ?_
  refine LP_ev ok 2 [(6, I (ln g.Parents)), (7, .bool (decide ((ln g.Parents) < 1))), (8, .bool (decide ((ln g.Parents) < 1)))] 5 rfl rfl ?_
  refine LP_split 8 (decide ((ln g.Parents) < 1)) rfl (fun hc => ?_) (fun hc => ?_)
  ·have H := H.1 hc
   refine LP_ev ok 5 [(9, undef), (10, undef), (11, undef), (12, undef), (13, .bool true), (14, .bool true), (15, undef), (16, undef), (17, undef), (18, undef), (19, undef), (20, .bool true)] 17 rfl rfl ?_
   refine LP_end _ rfl ?_
   exact ⟨true, H, _, env_eq ⟨rfl, rfl, trivial⟩, rfl⟩
  have H := H.2 hc
  refine LP_ev ok 5 [(9, pb b)] 6 rfl rfl ?_
  refine LP_ldbox 6 (v := sl a g.Parents c) rfl rfl rfl ti_22 ag_22 (fun _ => rfl) rfl ex1 rfl rfl ?_
  refine LP_ev ok 7 [(11, I (ln g.Parents)), (12, .bool (decide ((ln g.Parents) > 30))), (13, .bool (decide ((ln g.Parents) > 30))), (14, .bool (decide ((ln g.Parents) > 30)))] 11 rfl rfl ?_
  refine LP_split 14 (decide ((ln g.Parents) > 30)) rfl (fun hc4 => ?_) (fun hc4 => ?_)
  ·have H := H.1 hc4
   refine LP_ev ok 11 [(15, undef), (16, undef), (17, undef), (18, undef), (19, undef), (20, .bool true)] 17 rfl rfl ?_
   refine LP_end _ rfl ?_
   exact ⟨true, H, _, env_eq ⟨rfl, rfl, trivial⟩, rfl⟩
  have H := H.2 hc4
  refine LP_ev ok 11 [(15, pb b)] 12 rfl rfl ?_
  refine LP_ldbox 12 (v := sl a g.Parents c) rfl rfl rfl ti_22 ag_22 (fun _ => rfl) rfl ex1 rfl rfl ?_
  obtain ⟨x5, hi, hx6, H⟩ := H
  refine LP_index 13 rfl rfl rfl Tryz.underlying22 ti_3 rfl rfl r hi hx6 fun a7 cs r8 d => ?_
  have ex9 := (ex.ext x)
  refine LP_load 14 rfl rfl rfl ti_3 ag_3 rfl r8 d ex9 fun vx10 r11 => ?_
  obtain rfl := r11.int
  refine LP_ev ok 15 [(19, .bool (x5 != ((-1)))), (20, .bool (x5 != ((-1))))] 17 rfl rfl ?_
  refine LP_end _ rfl ?_
  exact ⟨x5 != ((-1)), H, _, env_eq ⟨rfl, rfl, trivial⟩, rfl⟩
 rintro x2 _ _ ⟨H, ρ, rfl, rfl⟩
 subst hk
 refine W_cond (x2) rfl (fun hc12 => ?_) (fun hc12 => ?_)
 ·have H := H.1 hc12
  refine W_seq ?_
  refine W_region ?_
  refine LP_ev ok 0 [(2, .bool false)] 1 rfl rfl ?_
  refine LP_end _ rfl ?_
  refine W_ret ?_
  have X13 := (X.stepx x)
  exact ⟨_, Ret_of [.bool false] ⟨⟨rfl, rfl⟩, trivial⟩, _, H, rfl, X13.ext⟩
 have H := H.2 hc12
 refine W_skip ?_
 refine W_seq ?_
 refine W_seq ?_
 refine W_region ?_
 refine LP_ev ok 0 [(3, I 1)] 1 rfl rfl ?_
 refine LP_end _ rfl ?_
 refine W_block ?_
 obtain ⟨J, m, Hx, H⟩ := H
 refine W_loop (S := Int) (fun s ρ' w' => J s ∧ ∃ (ρ : Env), ρ' = setAll [(1, pb b), (3, I s)] ρ ∧ wx = w') (fun s => m s) 1 ⟨Hx, _, env_eq ⟨rfl, rfl, trivial⟩, rfl⟩ ?_
 rintro i _ _ ⟨Hi, ρ, rfl, rfl⟩
 have H := H i Hi
 refine W_seq ?_
 refine W_seq ?_
 refine W_region ?_
 refine LP_ev ok 0 [(21, I i), (22, pb b)] 2 rfl rfl ?_
 refine LP_ldbox 2 (v := sl a g.Parents c) rfl rfl rfl ti_22 ag_22 (fun _ => rfl) rfl ex1 rfl rfl ?_
 refine LP_ev ok 3 [(24, I (ln g.Parents)), (25, .bool (decide (i < (ln g.Parents))))] 5 rfl rfl ?_
 refine LP_end _ rfl ?_
 refine W_cond (decide (i < (ln g.Parents))) rfl (fun hc15 => ?_) (fun hc15 => ?_)
 ·have H := H.1 hc15
  refine W_skip ?_
  refine W_seq ?_
  refine W_block ?_
  obtain ⟨k18, hk19, H⟩ := jn_elim H
  refine W_join2 (S := Bool) (fun s ρ' w' => k18 s ∧ ∃ (ρ : Env), ρ' = setAll [(1, pb b), (3, I i), (42, .bool s)] ρ ∧ wx = w') ?_ ?_
  ·refine W_region ?_
   refine LP_ev ok 0 [(28, pb b)] 1 rfl rfl ?_
   refine LP_ldbox 1 (v := sl a g.Parents c) rfl rfl rfl ti_22 ag_22 (fun _ => rfl) rfl ex1 rfl rfl ?_
   refine LP_ev ok 2 [(30, I i)] 3 rfl rfl ?_
   obtain ⟨x20, hi21, hx22, H⟩ := H
   refine LP_index 3 rfl rfl rfl Tryz.underlying22 ti_3 rfl rfl r hi21 hx22 fun a23 cs24 r25 d26 => ?_
   have ex27 := (ex.ext x)
   refine LP_load 4 rfl rfl rfl ti_3 ag_3 rfl r25 d26 ex27 fun vx28 r29 => ?_
   obtain rfl := r29.int
   refine LP_ev ok 5 [(33, .bool (decide (x20 < 0))), (34, .bool (decide (x20 < 0)))] 7 rfl rfl ?_
   refine LP_split 34 (decide (x20 < 0)) rfl (fun hc30 => ?_) (fun hc30 => ?_)
   ·have H := H.1 hc30
    refine LP_ev ok 7 [(35, undef), (36, undef), (37, undef), (38, undef), (39, undef), (40, undef), (41, undef), (42, .bool true)] 15 rfl rfl ?_
    refine LP_end _ rfl ?_
    exact ⟨true, H, _, env_eq ⟨rfl, rfl, rfl, trivial⟩, rfl⟩
   have H := H.2 hc30
   refine LP_ev ok 7 [(35, pb b)] 8 rfl rfl ?_
   refine LP_ldbox 8 (v := sl a g.Parents c) rfl rfl rfl ti_22 ag_22 (fun _ => rfl) rfl ex1 rfl rfl ?_
   refine LP_ev ok 9 [(37, I i)] 10 rfl rfl ?_
   obtain ⟨x31, hi32, hx33, H⟩ := H
   refine LP_index 10 rfl rfl rfl Tryz.underlying22 ti_3 rfl rfl r hi32 hx33 fun a34 cs35 r36 d37 => ?_
   refine LP_load 11 rfl rfl rfl ti_3 ag_3 rfl r36 d37 ex27 fun vx38 r39 => ?_
   obtain rfl := r39.int
   refine LP_ev ok 12 [(40, I i), (41, .bool (decide (x31 ≥ i))), (42, .bool (decide (x31 ≥ i)))] 15 rfl rfl ?_
   refine LP_end _ rfl ?_
   exact ⟨decide (x31 ≥ i), H, _, env_eq ⟨rfl, rfl, rfl, trivial⟩, rfl⟩
  rintro x16 _ _ ⟨H, ρ, rfl, rfl⟩
  subst hk19
  refine W_cond (x16) rfl (fun hc40 => ?_) (fun hc40 => ?_)
  ·have H := H.1 hc40
   refine W_seq ?_
   refine W_region ?_
   refine LP_ev ok 0 [(2, .bool false)] 1 rfl rfl ?_
   refine LP_end _ rfl ?_
   refine W_ret ?_
   have X41 := (X.stepx x)
   exact ⟨_, Ret_of [.bool false] ⟨⟨rfl, rfl⟩, trivial⟩, _, H, rfl, X41.ext⟩
  have H := H.2 hc40
  refine W_skip ?_
  refine W_region ?_
  refine LP_ev ok 0 [(26, I i), (27, I (wr (i + 1))), (3, I (wr (i + 1)))] 3 rfl rfl ?_
  refine LP_end _ rfl ?_
  exact ⟨wr (i + 1), ⟨H.1, _, env_eq ⟨rfl, rfl, trivial⟩, rfl⟩, H.2⟩
 have H := H.2 hc15
 refine W_exit ?_
 refine (if_pos rfl).mpr ?_
 refine W_seq ?_
 refine W_region ?_
 refine LP_ev ok 0 [(2, .bool true)] 1 rfl rfl ?_
 refine LP_end _ rfl ?_
 refine W_ret ?_
 have X42 := (X.stepx x)
 exact ⟨_, Ret_of [.bool true] ⟨⟨rfl, rfl⟩, trivial⟩, _, H, rfl, X42.ext⟩

theorem impl_isWord_w (sx : ByteArray) (Q : Bool → Prop) (H : impl_isWord sx Q) (w : World)  :
  CallsTo Tryz.prog 174 #[.string sx] w fun v w' => ∃ r0, Q r0 ∧ v = .bool r0 ∧ Ext w w' := by
 refine enter (args := [.string sx]) 28 Tryz.func174 rfl rfl rfl ?_
 refine W_forget [(0, .string sx)] ⟨rfl, trivial⟩ fun ρ => ?_
 have X := But.refl emp w
 refine W_seq ?_
 refine W_region ?_
 refine LP_ev ok 0 [(2, .bool false)] 1 rfl rfl ?_
 refine LP_end _ rfl ?_
 refine W_seq ?_
 obtain ⟨k, hk, H⟩ := jn_elim H
 refine W_join2 (S := Bool) (fun s ρ' w' => k s ∧ ∃ (ρ : Env), ρ' = setAll [(0, .string sx), (11, .bool s)] ρ ∧ w = w') ?_ ?_
 ·refine W_region ?_
  refine LP_ev ok 0 [(4, .string sx), (5, I (sln sx)), (6, .bool (decide ((sln sx) < 1))), (7, .bool (decide ((sln sx) < 1)))] 4 rfl rfl ?_
  refine LP_split 7 (decide ((sln sx) < 1)) rfl (fun hc => ?_) (fun hc => ?_)
  ·have H := H.1 hc
   refine LP_ev ok 4 [(8, undef), (9, undef), (10, undef), (11, .bool true)] 8 rfl rfl ?_
   refine LP_end _ rfl ?_
   exact ⟨true, H, _, env_eq ⟨rfl, rfl, trivial⟩, rfl⟩
  have H := H.2 hc
  refine LP_ev ok 4 [(8, .string sx), (9, I (sln sx)), (10, .bool (decide ((sln sx) > 8))), (11, .bool (decide ((sln sx) > 8)))] 8 rfl rfl ?_
  refine LP_end _ rfl ?_
  exact ⟨decide ((sln sx) > 8), H, _, env_eq ⟨rfl, rfl, trivial⟩, rfl⟩
 rintro x _ _ ⟨H, ρ, rfl, rfl⟩
 subst hk
 refine W_cond (x) rfl (fun hc1 => ?_) (fun hc1 => ?_)
 ·have H := H.1 hc1
  refine W_seq ?_
  refine W_region ?_
  refine LP_ev ok 0 [(2, .bool false)] 1 rfl rfl ?_
  refine LP_end _ rfl ?_
  refine W_ret ?_
  exact ⟨_, Ret_of [.bool false] ⟨⟨rfl, rfl⟩, trivial⟩, _, H, rfl, X.ext⟩
 have H := H.2 hc1
 refine W_skip ?_
 refine W_seq ?_
 refine W_seq ?_
 refine W_region ?_
 refine LP_ev ok 0 [(12, .string sx), (13, I (sln sx)), (14, I 0)] 3 rfl rfl ?_
 refine LP_end _ rfl ?_
 refine W_block ?_
 obtain ⟨J, m, Hx, H⟩ := H
 refine W_loop (S := Int) (fun s ρ' w' => J s ∧ ∃ (ρ : Env), ρ' = setAll [(0, .string sx), (13, I (sln sx)), (14, I s)] ρ ∧ w = w') (fun s => m s) 0 ⟨Hx, _, env_eq ⟨rfl, rfl, rfl, trivial⟩, rfl⟩ ?_
 rintro x2 _ _ ⟨Hi, ρ, rfl, rfl⟩
 have H := H x2 Hi
 refine W_seq ?_
 refine W_region ?_
 refine LP_ev ok 0 [(15, .bool (decide (x2 < (sln sx))))] 1 rfl rfl ?_
 refine LP_end _ rfl ?_
 refine W_seq ?_
 refine W_cond (decide (x2 < (sln sx))) rfl (fun hc4 => ?_) (fun hc4 => ?_)
 ·have H := H.1 hc4
  refine W_skip ?_
  refine W_seq ?_
  refine W_block ?_
  refine W_seq ?_
  refine W_region ?_
  refine LP_ev ok 0 [(16, I x2), (3, I x2)] 2 rfl rfl ?_
  refine LP_end _ rfl ?_
  obtain ⟨k7, hk8, H⟩ := jn_elim H
  refine W_join2 (S := Bool) (fun s ρ' w' => k7 s ∧ ∃ (ρ : Env), ρ' = setAll [(0, .string sx), (13, I (sln sx)), (14, I x2), (26, .bool s)] ρ ∧ w = w') ?_ ?_
  ·refine W_region ?_
   refine LP_ev ok 0 [(17, .string sx), (18, I x2)] 2 rfl rfl ?_
   obtain ⟨c, hi, hx, H⟩ := H
   refine LP_val 2 _ rfl rfl (ex_sidx rfl rfl rfl Tryz.underlying9 hi hx _) ?_
   refine LP_ev ok 3 [(20, .bool (decide ((((UInt8.toNat c : Nat) : Int)) < 97))), (21, .bool (decide ((((UInt8.toNat c : Nat) : Int)) < 97)))] 5 rfl rfl ?_
   refine LP_split 21 (decide ((((UInt8.toNat c : Nat) : Int)) < 97)) rfl (fun hc9 => ?_) (fun hc9 => ?_)
   ·have H := H.1 hc9
    refine LP_ev ok 5 [(22, undef), (23, undef), (24, undef), (25, undef), (26, .bool true)] 10 rfl rfl ?_
    refine LP_end _ rfl ?_
    exact ⟨true, H, _, env_eq ⟨rfl, rfl, rfl, rfl, trivial⟩, rfl⟩
   have H := H.2 hc9
   refine LP_ev ok 5 [(22, .string sx), (23, I x2)] 7 rfl rfl ?_
   obtain ⟨c10, hi11, hx12, H⟩ := H
   refine LP_val 7 _ rfl rfl (ex_sidx rfl rfl rfl Tryz.underlying9 hi11 hx12 _) ?_
   refine LP_ev ok 8 [(25, .bool (decide ((((UInt8.toNat c10 : Nat) : Int)) > 122))), (26, .bool (decide ((((UInt8.toNat c10 : Nat) : Int)) > 122)))] 10 rfl rfl ?_
   refine LP_end _ rfl ?_
   exact ⟨decide ((((UInt8.toNat c10 : Nat) : Int)) > 122), H, _, env_eq ⟨rfl, rfl, rfl, rfl, trivial⟩, rfl⟩
  rintro x5 _ _ ⟨H, ρ, rfl, rfl⟩
  subst hk8
  refine W_cond (x5) rfl (fun hc13 => ?_) (fun hc13 => ?_)
  ·have H := H.1 hc13
   refine W_seq ?_
   refine W_region ?_
   refine LP_ev ok 0 [(2, .bool false)] 1 rfl rfl ?_
   refine LP_end _ rfl ?_
   refine W_ret ?_
   exact ⟨_, Ret_of [.bool false] ⟨⟨rfl, rfl⟩, trivial⟩, _, H, rfl, X.ext⟩
  have H := H.2 hc13
  refine W_skip ?_
  refine W_region ?_
  refine LP_ev ok 0 [(27, I (wr (x2 + 1))), (14, I (wr (x2 + 1)))] 2 rfl rfl ?_
  refine LP_end _ rfl ?_
  exact ⟨wr (x2 + 1), ⟨H.1, _, env_eq ⟨rfl, rfl, rfl, trivial⟩, rfl⟩, H.2⟩
 have H := H.2 hc4
 refine W_exit ?_
 refine (if_pos rfl).mpr ?_
 refine W_seq ?_
 refine W_region ?_
 refine LP_ev ok 0 [(2, .bool true)] 1 rfl rfl ?_
 refine LP_end _ rfl ?_
 refine W_ret ?_
 exact ⟨_, Ret_of [.bool true] ⟨⟨rfl, rfl⟩, trivial⟩, _, H, rfl, X.ext⟩

theorem impl_IsSchema_w (sx : List Variable) (Q : Bool → Prop) (H : impl_IsSchema sx Q) (w : World) {vx : Value} {hx : PH} (r : RS hx vx sx) (ex : Sub hx w) :
  CallsTo Tryz.prog 151 #[vx] w fun v w' => ∃ r0, Q r0 ∧ v = .bool r0 ∧ Ext w w' := by
 obtain ⟨a, c, rfl⟩ := r.shape
 refine enter (args := [sl a sx c]) 51 Tryz.func151 rfl rfl rfl ?_
 refine W_forget [(0, sl a sx c)] ⟨rfl, trivial⟩ fun ρ => ?_
 have X := But.refl emp w
 refine W_seq ?_
 refine W_region ?_
 refine LP_ev ok 0 [(2, .bool false)] 1 rfl rfl ?_
 refine LP_end _ rfl ?_
 refine W_seq ?_
 obtain ⟨k, hk, H⟩ := jn_elim H
 refine W_join2 (S := Bool) (fun s ρ' w' => k s ∧ ∃ (ρ : Env), ρ' = setAll [(0, sl a sx c), (14, .bool s)] ρ ∧ w = w') ?_ ?_
 ·refine W_region ?_
  refine LP_ev ok 0 [(7, sl a sx c), (8, I (ln sx)), (9, .bool (decide ((ln sx) < 1))), (10, .bool (decide ((ln sx) < 1)))] 4 rfl rfl ?_
  refine LP_split 10 (decide ((ln sx) < 1)) rfl (fun hc => ?_) (fun hc => ?_)
  ·have H := H.1 hc
   refine LP_ev ok 4 [(11, undef), (12, undef), (13, undef), (14, .bool true)] 8 rfl rfl ?_
   refine LP_end _ rfl ?_
   exact ⟨true, H, _, env_eq ⟨rfl, rfl, trivial⟩, rfl⟩
  have H := H.2 hc
  refine LP_ev ok 4 [(11, sl a sx c), (12, I (ln sx)), (13, .bool (decide ((ln sx) > 6))), (14, .bool (decide ((ln sx) > 6)))] 8 rfl rfl ?_
  refine LP_end _ rfl ?_
  exact ⟨decide ((ln sx) > 6), H, _, env_eq ⟨rfl, rfl, trivial⟩, rfl⟩
 rintro x _ _ ⟨H, ρ, rfl, rfl⟩
 subst hk
 refine W_cond (x) rfl (fun hc1 => ?_) (fun hc1 => ?_)
 ·have H := H.1 hc1
  refine W_seq ?_
  refine W_region ?_
  refine LP_ev ok 0 [(2, .bool false)] 1 rfl rfl ?_
  refine LP_end _ rfl ?_
  refine W_ret ?_
  exact ⟨_, Ret_of [.bool false] ⟨⟨rfl, rfl⟩, trivial⟩, _, H, rfl, X.ext⟩
 have H := H.2 hc1
 refine W_skip ?_
 refine W_seq ?_
 refine W_seq ?_
 refine W_region ?_
 refine LP_ev ok 0 [(15, sl a sx c), (16, I (ln sx)), (17, I 0)] 3 rfl rfl ?_
 refine LP_end _ rfl ?_
 refine W_block ?_
 obtain ⟨J, m, Hx, H⟩ := H
 refine W_loop (S := Int) (fun s ρ' w' => J s ∧ ∃ (ρ : Env), ρ' = setAll [(0, sl a sx c), (15, sl a sx c), (16, I (ln sx)), (17, I s)] ρ ∧ But emp w w' ∧ Sub hx w') (fun s => m s) 0 ⟨Hx, _, env_eq ⟨rfl, rfl, rfl, rfl, trivial⟩, X, ex⟩ ?_
 rintro x2 _ wx3 ⟨Hi, ρ, rfl, X5, ex4⟩
 have H := H x2 Hi
 refine W_seq ?_
 refine W_region ?_
 refine LP_ev ok 0 [(18, .bool (decide (x2 < (ln sx))))] 1 rfl rfl ?_
 refine LP_end _ rfl ?_
 refine W_seq ?_
 refine W_cond (decide (x2 < (ln sx))) rfl (fun hc6 => ?_) (fun hc6 => ?_)
 ·have H := H.1 hc6
  refine W_skip ?_
  refine W_seq ?_
  refine W_block ?_
  refine W_seq ?_
  refine W_region ?_
  refine LP_ev ok 0 [(19, I x2)] 1 rfl rfl ?_
  obtain ⟨x7, hi, hx8, H⟩ := H
  refine LP_index 1 rfl rfl rfl Tryz.underlying34 ti_98 rfl rfl r hi hx8 fun a9 cs r10 d => ?_
  refine LP_load 2 rfl rfl rfl ti_98 ag_98 rfl r10 d ex4 fun vx11 r12 => ?_
  obtain rfl := Variable_rv r12
  refine LP_alloc 3 rfl rfl rfl ti_98 rfl fun b wx13 x14 ex15 f => ?_
  refine LP_ev ok 4 [(3, I x2)] 5 rfl rfl ?_
  refine LP_stbox 5 (vs := [.string x7.Name, I x7.Levels]) (cs' := [.string x7.Name, I x7.Levels]) rfl rfl rfl ti_98 rfl rfl rfl rfl rfl ex15 rfl rfl fun wx16 ex17 y => ?_
  refine LP_end _ rfl ?_
  refine W_seq ?_
  obtain ⟨k23, hk24, H⟩ := jn_elim H
  refine W_join2 (S := Bool) (fun s ρ' w' => k23 s ∧ ∃ (ρ : Env), ρ' = setAll [(0, sl a sx c), (3, I x2), (4, pb b), (15, sl a sx c), (16, I (ln sx)), (17, I x2), (35, .bool s)] ρ ∧ But emp w w' ∧ Sub hx w' ∧ Sub (bx b 98 [.string x7.Name, I x7.Levels]) w') ?_ ?_
  ·refine W_region ?_
   refine LP_ev ok 0 [(22, pb b)] 1 rfl rfl ?_
   refine LP_ldbox 1 (v := .string x7.Name) rfl rfl rfl ti_9 ag_9 (fun _ => rfl) rfl ex17 rfl rfl ?_
   refine LP_call 2 rfl rfl rfl cal_174 rfl (impl_isWord_w _ _ H wx16 ) ?_
   rintro _ wx26 ⟨r25, H, rfl, x27⟩
   refine LP_ev ok 3 [(25, .bool (!r25)), (26, .bool (!r25))] 5 rfl rfl ?_
   refine LP_split 26 (!r25) rfl (fun hc28 => ?_) (fun hc28 => ?_)
   ·have H := H.1 hc28
    refine LP_ev ok 5 [(27, undef), (28, undef), (29, undef), (30, .bool true), (31, .bool true), (32, undef), (33, undef), (34, undef), (35, .bool true)] 14 rfl rfl ?_
    refine LP_end _ rfl ?_
    have f29 := f.mono X5.size
    have X30 := (((X5.stepx x14).step y (f29.dom _)).stepx x27)
    have ex31 := (((ex4.ext x14).but y (Dj.of_fresh ex4 f).symm).ext x27)
    have ex32 := (ex17.ext x27)
    exact ⟨true, H, _, env_eq ⟨rfl, rfl, rfl, rfl, rfl, rfl, rfl, trivial⟩, X30, ex31, ex32⟩
   have H := H.2 hc28
   refine LP_ev ok 5 [(27, .pointer (some ⟨b, 1, none⟩))] 6 rfl rfl ?_
   have ex33 := (ex17.ext x27)
   refine LP_ldbox 6 (v := I x7.Levels) rfl rfl rfl ti_3 ag_3 (fun _ => rfl) rfl ex33 rfl rfl ?_
   refine LP_ev ok 7 [(29, .bool (decide (x7.Levels < 2))), (30, .bool (decide (x7.Levels < 2))), (31, .bool (decide (x7.Levels < 2)))] 10 rfl rfl ?_
   refine LP_split 31 (decide (x7.Levels < 2)) rfl (fun hc34 => ?_) (fun hc34 => ?_)
   ·have H := H.1 hc34
    refine LP_ev ok 10 [(32, undef), (33, undef), (34, undef), (35, .bool true)] 14 rfl rfl ?_
    refine LP_end _ rfl ?_
    have f35 := f.mono X5.size
    have X36 := (((X5.stepx x14).step y (f35.dom _)).stepx x27)
    have ex37 := (((ex4.ext x14).but y (Dj.of_fresh ex4 f).symm).ext x27)
    exact ⟨true, H, _, env_eq ⟨rfl, rfl, rfl, rfl, rfl, rfl, rfl, trivial⟩, X36, ex37, ex33⟩
   have H := H.2 hc34
   refine LP_ev ok 10 [(32, .pointer (some ⟨b, 1, none⟩))] 11 rfl rfl ?_
   refine LP_ldbox 11 (v := I x7.Levels) rfl rfl rfl ti_3 ag_3 (fun _ => rfl) rfl ex33 rfl rfl ?_
   refine LP_ev ok 12 [(34, .bool (decide (x7.Levels > 8))), (35, .bool (decide (x7.Levels > 8)))] 14 rfl rfl ?_
   refine LP_end _ rfl ?_
   have f38 := f.mono X5.size
   have X39 := (((X5.stepx x14).step y (f38.dom _)).stepx x27)
   have ex40 := (((ex4.ext x14).but y (Dj.of_fresh ex4 f).symm).ext x27)
   exact ⟨decide (x7.Levels > 8), H, _, env_eq ⟨rfl, rfl, rfl, rfl, rfl, rfl, rfl, trivial⟩, X39, ex40, ex33⟩
  rintro x18 _ wx19 ⟨H, ρ, rfl, X22, ex20, ex21⟩
  subst hk24
  refine W_cond (x18) rfl (fun hc41 => ?_) (fun hc41 => ?_)
  ·have H := H.1 hc41
   refine W_seq ?_
   refine W_region ?_
   refine LP_ev ok 0 [(2, .bool false)] 1 rfl rfl ?_
   refine LP_end _ rfl ?_
   refine W_ret ?_
   exact ⟨_, Ret_of [.bool false] ⟨⟨rfl, rfl⟩, trivial⟩, _, H, rfl, X22.ext⟩
  have H := H.2 hc41
  refine W_skip ?_
  refine W_seq ?_
  refine W_region ?_
  refine LP_ev ok 0 [(36, sl a sx c), (37, I x2)] 2 rfl rfl ?_
  obtain ⟨hl, hu, hn, H⟩ := H
  refine LP_slice 2 0 x2 rfl rfl rfl Tryz.underlying34 ti_98 rfl rfl rfl r (.inl ⟨rfl, rfl⟩) (.inr rfl) hl hu hn fun vx42 r43 => ?_
  obtain ⟨a44, c45, rfl⟩ := r43.shape
  refine LP_ev ok 3 [(39, I (ln (List.take (Int.toNat x2 - Int.toNat 0) (List.drop (Int.toNat 0) sx)))), (40, I 0)] 5 rfl rfl ?_
  refine LP_end _ rfl ?_
  refine W_block ?_
  obtain ⟨J51, m52, Hx53, H⟩ := H
  refine W_loop (S := Int) (fun s ρ' w' => J51 s ∧ ∃ (ρ : Env), ρ' = setAll [(0, sl a sx c), (4, pb b), (15, sl a sx c), (16, I (ln sx)), (17, I x2), (38, .slice a44 (List.length (List.take (Int.toNat x2 - Int.toNat 0) (List.drop (Int.toNat 0) sx))) c45), (39, I (ln (List.take (Int.toNat x2 - Int.toNat 0) (List.drop (Int.toNat 0) sx)))), (40, I s)] ρ ∧ But emp w w' ∧ Sub hx w' ∧ Sub (bx b 98 [.string x7.Name, I x7.Levels]) w') (fun s => m52 s) 0 ⟨Hx53, _, env_eq ⟨rfl, rfl, rfl, rfl, rfl, rfl, rfl, rfl, trivial⟩, X22, ex20, ex21⟩ ?_
  rintro x46 _ wx47 ⟨Hi, ρ, rfl, X50, ex48, ex49⟩
  have H := H x46 Hi
  refine W_seq ?_
  refine W_region ?_
  refine LP_ev ok 0 [(41, .bool (decide (x46 < (ln (List.take (Int.toNat x2 - Int.toNat 0) (List.drop (Int.toNat 0) sx))))))] 1 rfl rfl ?_
  refine LP_end _ rfl ?_
  refine W_seq ?_
  refine W_cond (decide (x46 < (ln (List.take (Int.toNat x2 - Int.toNat 0) (List.drop (Int.toNat 0) sx))))) rfl (fun hc55 => ?_) (fun hc55 => ?_)
  ·have H := H.1 hc55
   refine W_skip ?_
   refine W_seq ?_
   refine W_block ?_
   refine W_seq ?_
   refine W_region ?_
   obtain ⟨x56, hi57, hx58, H⟩ := H
   refine LP_index 0 rfl rfl rfl Tryz.underlying34 ti_98 rfl rfl r43 hi57 hx58 fun a59 cs60 r61 d62 => ?_
   refine LP_load 1 rfl rfl rfl ti_98 ag_98 rfl r61 d62 ex48 fun vx63 r64 => ?_
   obtain rfl := Variable_rv r64
   refine LP_alloc 2 rfl rfl rfl ti_98 rfl fun b65 wx66 x67 ex68 f69 => ?_
   refine LP_stbox 3 (vs := [.string x56.Name, I x56.Levels]) (cs' := [.string x56.Name, I x56.Levels]) rfl rfl rfl ti_98 rfl rfl rfl rfl rfl ex68 rfl rfl fun wx70 ex71 y72 => ?_
   refine LP_end _ rfl ?_
   refine W_seq ?_
   refine W_region ?_
   refine LP_ev ok 0 [(44, pb b65)] 1 rfl rfl ?_
   refine LP_ldbox 1 (v := .string x56.Name) rfl rfl rfl ti_9 ag_9 (fun _ => rfl) rfl ex71 rfl rfl ?_
   refine LP_ev ok 2 [(46, pb b)] 3 rfl rfl ?_
   have ex73 := ((ex49.ext x67).but y72 (Dj.of_fresh ex49 f69).symm)
   refine LP_ldbox 3 (v := .string x7.Name) rfl rfl rfl ti_9 ag_9 (fun _ => rfl) rfl ex73 rfl rfl ?_
   refine LP_ev ok 4 [(48, .bool (streq x56.Name x7.Name))] 5 rfl rfl ?_
   refine LP_end _ rfl ?_
   refine W_cond (streq x56.Name x7.Name) rfl (fun hc74 => ?_) (fun hc74 => ?_)
   ·have H := H.1 hc74
    refine W_seq ?_
    refine W_region ?_
    refine LP_ev ok 0 [(2, .bool false)] 1 rfl rfl ?_
    refine LP_end _ rfl ?_
    refine W_ret ?_
    have f75 := f69.mono X50.size
    have X76 := ((X50.stepx x67).step y72 (f75.dom _))
    exact ⟨_, Ret_of [.bool false] ⟨⟨rfl, rfl⟩, trivial⟩, _, H, rfl, X76.ext⟩
   have H := H.2 hc74
   refine W_skip ?_
   refine W_region ?_
   refine LP_ev ok 0 [(49, I (wr (x46 + 1))), (40, I (wr (x46 + 1)))] 2 rfl rfl ?_
   refine LP_end _ rfl ?_
   have f77 := f69.mono X50.size
   have X78 := ((X50.stepx x67).step y72 (f77.dom _))
   have ex79 := ((ex48.ext x67).but y72 (Dj.of_fresh ex48 f69).symm)
   exact ⟨wr (x46 + 1), ⟨H.1, _, env_eq ⟨rfl, rfl, rfl, rfl, rfl, rfl, rfl, rfl, trivial⟩, X78, ex79, ex73⟩, H.2⟩
  have H := H.2 hc55
  refine W_exit ?_
  refine (if_pos rfl).mpr ?_
  refine W_region ?_
  refine LP_ev ok 0 [(50, I (wr (x2 + 1))), (17, I (wr (x2 + 1)))] 2 rfl rfl ?_
  refine LP_end _ rfl ?_
  exact ⟨wr (x2 + 1), ⟨H.1, _, env_eq ⟨rfl, rfl, rfl, rfl, trivial⟩, X50, ex48⟩, H.2⟩
 have H := H.2 hc6
 refine W_exit ?_
 refine (if_pos rfl).mpr ?_
 refine W_seq ?_
 refine W_region ?_
 refine LP_ev ok 0 [(2, .bool true)] 1 rfl rfl ?_
 refine LP_end _ rfl ?_
 refine W_ret ?_
 exact ⟨_, Ret_of [.bool true] ⟨⟨rfl, rfl⟩, trivial⟩, _, H, rfl, X5.ext⟩

theorem slices_Index_int_int_w (sx : List Int) (vx1 : Int) (Q : Int → Prop) (H : slices_Index_int_int sx vx1 Q) (w : World) {vx : Value} {hx : PH} (r : RS hx vx sx) (ex : Sub hx w) :
  CallsTo Tryz.prog 184 #[vx, I vx1] w fun v w' => ∃ r0, Q r0 ∧ v = I r0 ∧ Ext w w' := by
 obtain ⟨a, c, rfl⟩ := r.shape
 refine enter (args := [sl a sx c, I vx1]) 19 Tryz.func184 rfl rfl rfl ?_
 refine W_forget [(0, sl a sx c), (1, I vx1)] ⟨rfl, rfl, trivial⟩ fun ρ => ?_
 have X := But.refl emp w
 refine W_seq ?_
 refine W_region ?_
 refine LP_ev ok 0 [(4, I 0)] 1 rfl rfl ?_
 refine LP_end _ rfl ?_
 refine W_seq ?_
 refine W_seq ?_
 refine W_region ?_
 refine LP_ev ok 0 [(6, sl a sx c), (7, I (ln sx)), (8, I 0)] 3 rfl rfl ?_
 refine LP_end _ rfl ?_
 refine W_block ?_
 obtain ⟨J, m, Hx, H⟩ := H
 refine W_loop (S := Int) (fun s ρ' w' => J s ∧ ∃ (ρ : Env), ρ' = setAll [(0, sl a sx c), (1, I vx1), (7, I (ln sx)), (8, I s)] ρ ∧ w = w') (fun s => m s) 0 ⟨Hx, _, env_eq ⟨rfl, rfl, rfl, rfl, trivial⟩, rfl⟩ ?_
 rintro x _ _ ⟨Hi, ρ, rfl, rfl⟩
 have H := H x Hi
 refine W_seq ?_
 refine W_region ?_
 refine LP_ev ok 0 [(9, .bool (decide (x < (ln sx))))] 1 rfl rfl ?_
 refine LP_end _ rfl ?_
 refine W_seq ?_
 refine W_cond (decide (x < (ln sx))) rfl (fun hc => ?_) (fun hc => ?_)
 ·have H := H.1 hc
  refine W_skip ?_
  refine W_seq ?_
  refine W_block ?_
  refine W_seq ?_
  refine W_region ?_
  refine LP_ev ok 0 [(10, I x), (5, I x)] 2 rfl rfl ?_
  refine LP_end _ rfl ?_
  refine W_seq ?_
  refine W_region ?_
  refine LP_ev ok 0 [(11, I vx1), (12, sl a sx c), (13, I x)] 3 rfl rfl ?_
  obtain ⟨x2, hi, hx3, H⟩ := H
  refine LP_index 3 rfl rfl rfl Tryz.underlying22 ti_3 rfl rfl r hi hx3 fun a4 cs r5 d => ?_
  refine LP_load 4 rfl rfl rfl ti_3 ag_3 rfl r5 d ex fun vx6 r7 => ?_
  obtain rfl := r7.int
  refine LP_ev ok 5 [(16, .bool (vx1 == x2))] 6 rfl rfl ?_
  refine LP_end _ rfl ?_
  refine W_cond (vx1 == x2) rfl (fun hc8 => ?_) (fun hc8 => ?_)
  ·have H := H.1 hc8
   refine W_seq ?_
   refine W_region ?_
   refine LP_ev ok 0 [(17, I x), (4, I x)] 2 rfl rfl ?_
   refine LP_end _ rfl ?_
   refine W_ret ?_
   exact ⟨_, Ret_of [I x] ⟨⟨rfl, rfl⟩, trivial⟩, _, H, rfl, X.ext⟩
  have H := H.2 hc8
  refine W_skip ?_
  refine W_region ?_
  refine LP_ev ok 0 [(18, I (wr (x + 1))), (8, I (wr (x + 1)))] 2 rfl rfl ?_
  refine LP_end _ rfl ?_
  exact ⟨wr (x + 1), ⟨H.1, _, env_eq ⟨rfl, rfl, rfl, rfl, trivial⟩, rfl⟩, H.2⟩
 have H := H.2 hc
 refine W_exit ?_
 refine (if_pos rfl).mpr ?_
 refine W_seq ?_
 refine W_region ?_
 refine LP_ev ok 0 [(4, I ((-1)))] 1 rfl rfl ?_
 refine LP_end _ rfl ?_
 refine W_ret ?_
 exact ⟨_, Ret_of [I ((-1))] ⟨⟨rfl, rfl⟩, trivial⟩, _, H, rfl, X.ext⟩

theorem slices_Contains_int_int_w (sx : List Int) (vx1 : Int) (Q : Bool → Prop) (H : slices_Contains_int_int sx vx1 Q) (w : World) {vx : Value} {hx : PH} (r : RS hx vx sx) (ex : Sub hx w) :
  CallsTo Tryz.prog 176 #[vx, I vx1] w fun v w' => ∃ r0, Q r0 ∧ v = .bool r0 ∧ Ext w w' := by
 obtain ⟨a, c, rfl⟩ := r.shape
 refine enter (args := [sl a sx c, I vx1]) 9 Tryz.func176 rfl rfl rfl ?_
 refine W_forget [(0, sl a sx c), (1, I vx1)] ⟨rfl, rfl, trivial⟩ fun ρ => ?_
 have X := But.refl emp w
 refine W_seq ?_
 refine W_region ?_
 refine LP_ev ok 0 [(4, .bool false)] 1 rfl rfl ?_
 refine LP_end _ rfl ?_
 refine W_seq ?_
 refine W_region ?_
 refine LP_ev ok 0 [(5, sl a sx c), (6, I vx1)] 2 rfl rfl ?_
 refine LP_call 2 rfl rfl rfl cal_184 rfl (slices_Index_int_int_w _ _ _ H w r ex) ?_
 rintro _ wx ⟨r2, H, rfl, x⟩
 refine LP_ev ok 3 [(8, .bool (decide (r2 ≥ 0))), (4, .bool (decide (r2 ≥ 0)))] 5 rfl rfl ?_
 refine LP_end _ rfl ?_
 refine W_ret ?_
 have X3 := (X.stepx x)
 exact ⟨_, Ret_of [.bool (decide (r2 ≥ 0))] ⟨⟨rfl, rfl⟩, trivial⟩, _, H, rfl, X3.ext⟩

theorem impl_isLeaf_w (g : Geo) (i : Int) (Q : Bool → Prop) (H : impl_isLeaf g i Q) (w : World) {vx : Value} {hx : PH} (r : RS hx vx g.Parents) (ex : Sub hx w) :
  CallsTo Tryz.prog 154 #[.agg #[vx], I i] w fun v w' => ∃ r0, Q r0 ∧ v = .bool r0 ∧ Ext w w' := by
 obtain ⟨a, c, rfl⟩ := r.shape
 refine enter (args := [.agg #[sl a g.Parents c], I i]) 10 Tryz.func154 rfl rfl rfl ?_
 refine W_forget [(0, .agg #[sl a g.Parents c]), (1, I i)] ⟨rfl, rfl, trivial⟩ fun ρ => ?_
 have X := But.refl emp w
 refine W_seq ?_
 refine W_region ?_
 refine LP_box 0 (cs := [sl a g.Parents c]) rfl rfl rfl rfl rfl fun b wx x ex1 f => ?_
 refine LP_ev ok 1 [(4, .bool false)] 2 rfl rfl ?_
 refine LP_end _ rfl ?_
 refine W_seq ?_
 refine W_region ?_
 refine LP_ev ok 0 [(5, pb b)] 1 rfl rfl ?_
 refine LP_ldbox 1 (v := sl a g.Parents c) rfl rfl rfl ti_22 ag_22 (fun _ => rfl) rfl ex1 rfl rfl ?_
 refine LP_ev ok 2 [(7, I i)] 3 rfl rfl ?_
 have ex3 := (ex.ext x)
 refine LP_call 3 rfl rfl rfl cal_176 rfl (slices_Contains_int_int_w _ _ _ H wx r ex3) ?_
 rintro _ wx4 ⟨r2, H, rfl, x5⟩
 refine LP_ev ok 4 [(9, .bool (!r2)), (4, .bool (!r2))] 6 rfl rfl ?_
 refine LP_end _ rfl ?_
 refine W_ret ?_
 have X6 := ((X.stepx x).stepx x5)
 exact ⟨_, Ret_of [.bool (!r2)] ⟨⟨rfl, rfl⟩, trivial⟩, _, H, rfl, X6.ext⟩

theorem impl_leavesOf_w (g : Geo) (Q : (List Int) → Prop) (H : impl_leavesOf g Q) (w : World) {vx : Value} {hx : PH} (r : RS hx vx g.Parents) (ex : Sub hx w) :
  CallsTo Tryz.prog 103 #[.agg #[vx]] w fun v w' => ∃ r0 u0 g0, Q r0 ∧ v = u0 ∧ Ext w w' ∧ OS 3 g0 emp u0 r0 ∧ Sub g0 w' ∧ Fresh w.heap.size g0 := by
 obtain ⟨a, c, rfl⟩ := r.shape
 refine enter (args := [.agg #[sl a g.Parents c]]) 20 Tryz.func103 rfl rfl rfl ?_
 refine W_forget [(0, .agg #[sl a g.Parents c])] ⟨rfl, trivial⟩ fun ρ => ?_
 have X := But.refl emp w
 refine W_seq ?_
 refine W_region ?_
 refine LP_box 0 (cs := [sl a g.Parents c]) rfl rfl rfl rfl rfl fun b wx x ex1 f => ?_
 refine LP_ev ok 1 [(2, .slice none 0 0)] 2 rfl rfl ?_
 refine LP_end _ rfl ?_
 refine W_seq ?_
 refine W_region ?_
 refine LP_ev ok 0 [(3, .slice none 0 0)] 1 rfl rfl ?_
 refine LP_end _ rfl ?_
 refine W_seq ?_
 refine W_seq ?_
 refine W_region ?_
 refine LP_ev ok 0 [(5, pb b)] 1 rfl rfl ?_
 refine LP_ldbox 1 (v := sl a g.Parents c) rfl rfl rfl ti_22 ag_22 (fun _ => rfl) rfl ex1 rfl rfl ?_
 refine LP_ev ok 2 [(7, I (ln g.Parents)), (8, I 0)] 4 rfl rfl ?_
 refine LP_end _ rfl ?_
 refine W_block ?_
 have X14 := (X.stepx x)
 have ex15 := (ex.ext x)
 obtain ⟨J, m, Hx, H⟩ := H
 refine W_loop (S := (List Int) × Int) (fun s ρ' w' => J s.1 s.2 ∧ ∃ (ρ : Env) (vx2 : Value) (hx3 : PH), ρ' = setAll [(1, pb b), (3, vx2), (7, I (ln g.Parents)), (8, I s.2)] ρ ∧ But emp w w' ∧ OS 3 hx3 emp vx2 s.1 ∧ Sub hx3 w' ∧ Fresh w.heap.size hx3 ∧ Sub hx w' ∧ Sub (bx b 32 [sl a g.Parents c]) w' ∧ Dj hx3 hx ∧ Dj hx3 (bx b 32 [sl a g.Parents c])) (fun s => m s.1 s.2) ([], 0) ⟨Hx, _, .slice none 0 0, emp, env_eq ⟨rfl, rfl, rfl, rfl, trivial⟩, X14, OS.nil, (emp_sub _), (emp_fresh _), ex15, ex1, (fun _ => .inl rfl), (fun _ => .inl rfl)⟩ ?_
 rintro ⟨list, x6⟩ _ wx7 ⟨Hi, ρ, vx2, hx3, rfl, HF⟩
 revert HF
 refine bb8 fun X13 o ex4 f5 ex8 ex9 d d12 => ?_
 have H := H list x6 Hi
 obtain ⟨a10, c11, rfl⟩ := o.shape
 refine W_seq ?_
 refine W_region ?_
 refine LP_ev ok 0 [(9, .bool (decide (x6 < (ln g.Parents))))] 1 rfl rfl ?_
 refine LP_end _ rfl ?_
 refine W_seq ?_
 refine W_cond (decide (x6 < (ln g.Parents))) rfl (fun hc => ?_) (fun hc => ?_)
 ·have H := H.1 hc
  refine W_skip ?_
  obtain ⟨k, hk, H⟩ := jn_elim H
  refine W_join2 (S := (List Int)) (fun s ρ' w' => k s ∧ ∃ (ρ : Env) (vx17 : Value) (hx18 : PH), ρ' = setAll [(1, pb b), (3, vx17), (7, I (ln g.Parents)), (8, I x6)] ρ ∧ But emp w w' ∧ OS 3 hx18 emp vx17 s ∧ Sub hx18 w' ∧ Fresh w.heap.size hx18 ∧ Sub hx w' ∧ Sub (bx b 32 [sl a g.Parents c]) w' ∧ Dj hx18 hx ∧ Dj hx18 (bx b 32 [sl a g.Parents c])) ?_ ?_
  ·refine W_block ?_
   refine W_seq ?_
   refine W_region ?_
   refine LP_ev ok 0 [(10, I x6), (4, I x6)] 2 rfl rfl ?_
   refine LP_end _ rfl ?_
   refine W_seq ?_
   refine W_region ?_
   refine LP_ldbox 0 (v := .agg #[sl a g.Parents c]) rfl rfl rfl ti_32 ag_32 (fun h => by cases h) rfl ex9 rfl rfl ?_
   refine LP_ev ok 1 [(12, I x6)] 2 rfl rfl ?_
   refine LP_call 2 rfl rfl rfl cal_154 rfl (impl_isLeaf_w _ _ _ H wx7 r ex8) ?_
   rintro _ wx31 ⟨r30, H, rfl, x32⟩
   refine LP_end _ rfl ?_
   refine W_cond (r30) rfl (fun hc33 => ?_) (fun hc33 => ?_)
   ·have H := H.1 hc33
    refine W_region ?_
    refine LP_ev ok 0 [(14, sl a10 list c11), (15, I x6)] 2 rfl rfl ?_
    refine LP_lit (α := Int) (g := emp) 2 (vs := [I x6]) (xs := [x6]) rfl rfl rfl Tryz.underlying22 ti_3 rfl rfl ⟨⟨_, rfl, rfl⟩, trivial⟩ rfl rfl fun hx34 vx35 wx36 x37 o38 ex39 f40 => ?_
    obtain ⟨a41, c42, rfl⟩ := o38.shape
    have ex43 := ((ex4.ext x32).ext x37)
    obtain ⟨hb, H⟩ := H
    refine LP_appendf (α := Int) 3 rfl rfl rfl Tryz.underlying22 ti_3 rfl rfl rfl o ex43 o38.readf ex39 (by first | omega | (simp only [ln] at *; omega)) (by first | omega | (simp only [ln] at *; omega)) fun hx44 vx45 wx46 o47 ex48 y dm => ?_
    obtain ⟨a49, c50, rfl⟩ := o47.shape
    refine LP_ev ok 4 [(3, .slice a49 (List.length (list ++ ([x6]))) c50)] 5 rfl rfl ?_
    refine LP_end _ rfl ?_
    have X51 := (((X13.stepx x32).stepx x37).step y (f5.dom _))
    have X53 := ((X13.stepx x32).stepx x37)
    have f52 := dm.fresh f5 X53.size
    have ex54 := (((ex8.ext x32).ext x37).but y d)
    have ex55 := (((ex9.ext x32).ext x37).but y d12)
    have ex56 := ((ex8.ext x32).ext x37)
    have ex57 := ((ex9.ext x32).ext x37)
    exact ⟨list ++ ([x6]), H, _, .slice a49 (List.length (list ++ ([x6]))) c50, hx44, env_eq ⟨rfl, rfl, rfl, rfl, trivial⟩, X51, o47, ex48, f52, ex54, ex55, (DomLe.dj dm d ex56), (DomLe.dj dm d12 ex57)⟩
   have H := H.2 hc33
   refine W_skip ?_
   have X58 := (X13.stepx x32)
   have ex59 := (ex4.ext x32)
   have ex60 := (ex8.ext x32)
   have ex61 := (ex9.ext x32)
   exact ⟨list, H, _, sl a10 list c11, hx3, env_eq ⟨rfl, rfl, rfl, rfl, trivial⟩, X58, o, ex59, f5, ex60, ex61, d, d12⟩
  rintro list16 _ wx22 ⟨H, ρ, vx17, hx18, rfl, HF⟩
  revert HF
  refine bb8 fun X29 o19 ex20 f21 ex23 ex24 d27 d28 => ?_
  subst hk
  obtain ⟨a25, c26, rfl⟩ := o19.shape
  refine W_region ?_
  refine LP_ev ok 0 [(18, I (wr (x6 + 1))), (8, I (wr (x6 + 1)))] 2 rfl rfl ?_
  refine LP_end _ rfl ?_
  exact ⟨(list16, wr (x6 + 1)), ⟨H.1, _, sl a25 list16 c26, hx18, env_eq ⟨rfl, rfl, rfl, rfl, trivial⟩, X29, o19, ex20, f21, ex23, ex24, d27, d28⟩, H.2⟩
 have H := H.2 hc
 refine W_exit ?_
 refine (if_pos rfl).mpr ?_
 refine W_seq ?_
 refine W_region ?_
 refine LP_ev ok 0 [(19, sl a10 list c11), (2, sl a10 list c11)] 2 rfl rfl ?_
 refine LP_end _ rfl ?_
 refine W_ret ?_
 exact ⟨_, Ret_of [sl a10 list c11] ⟨⟨rfl, rfl⟩, trivial⟩, _, _, _, H, rfl, X13.ext, o, ex4, f5⟩

theorem impl_combinations_w (sx : List Variable) (Q : Int → Prop) (H : impl_combinations sx Q) (w : World) {vx : Value} {hx : PH} (r : RS hx vx sx) (ex : Sub hx w) :
  CallsTo Tryz.prog 102 #[vx] w fun v w' => ∃ r0, Q r0 ∧ v = I r0 ∧ Ext w w' := by
 obtain ⟨a, c, rfl⟩ := r.shape
 refine enter (args := [sl a sx c]) 18 Tryz.func102 rfl rfl rfl ?_
 refine W_forget [(0, sl a sx c)] ⟨rfl, trivial⟩ fun ρ => ?_
 have X := But.refl emp w
 refine W_seq ?_
 refine W_region ?_
 refine LP_ev ok 0 [(2, I 0)] 1 rfl rfl ?_
 refine LP_end _ rfl ?_
 refine W_seq ?_
 refine W_region ?_
 refine LP_ev ok 0 [(3, I 1)] 1 rfl rfl ?_
 refine LP_end _ rfl ?_
 refine W_seq ?_
 refine W_seq ?_
 refine W_region ?_
 refine LP_ev ok 0 [(6, sl a sx c), (7, I (ln sx)), (8, I 0)] 3 rfl rfl ?_
 refine LP_end _ rfl ?_
 refine W_block ?_
 obtain ⟨J, m, Hx, H⟩ := H
 refine W_loop (S := Int × Int) (fun s ρ' w' => J s.1 s.2 ∧ ∃ (ρ : Env), ρ' = setAll [(3, I s.1), (6, sl a sx c), (7, I (ln sx)), (8, I s.2)] ρ ∧ But emp w w' ∧ Sub hx w') (fun s => m s.1 s.2) (1, 0) ⟨Hx, _, env_eq ⟨rfl, rfl, rfl, rfl, trivial⟩, X, ex⟩ ?_
 rintro ⟨n, x⟩ _ wx ⟨Hi, ρ, rfl, X2, ex1⟩
 have H := H n x Hi
 refine W_seq ?_
 refine W_region ?_
 refine LP_ev ok 0 [(9, .bool (decide (x < (ln sx))))] 1 rfl rfl ?_
 refine LP_end _ rfl ?_
 refine W_seq ?_
 refine W_cond (decide (x < (ln sx))) rfl (fun hc => ?_) (fun hc => ?_)
 ·have H := H.1 hc
  refine W_skip ?_
  refine W_seq ?_
  refine W_block ?_
  refine W_seq ?_
  refine W_region ?_
  obtain ⟨x3, hi, hx4, H⟩ := H
  refine LP_index 0 rfl rfl rfl Tryz.underlying34 ti_98 rfl rfl r hi hx4 fun a5 cs r6 d => ?_
  refine LP_load 1 rfl rfl rfl ti_98 ag_98 rfl r6 d ex1 fun vx7 r8 => ?_
  obtain rfl := Variable_rv r8
  refine LP_alloc 2 rfl rfl rfl ti_98 rfl fun b wx9 x10 ex11 f => ?_
  refine LP_stbox 3 (vs := [.string x3.Name, I x3.Levels]) (cs' := [.string x3.Name, I x3.Levels]) rfl rfl rfl ti_98 rfl rfl rfl rfl rfl ex11 rfl rfl fun wx12 ex13 y => ?_
  refine LP_end _ rfl ?_
  refine W_region ?_
  refine LP_ev ok 0 [(12, I n), (13, .pointer (some ⟨b, 1, none⟩))] 2 rfl rfl ?_
  refine LP_ldbox 2 (v := I x3.Levels) rfl rfl rfl ti_3 ag_3 (fun _ => rfl) rfl ex13 rfl rfl ?_
  refine LP_ev ok 3 [(15, I (wr (n * x3.Levels))), (3, I (wr (n * x3.Levels)))] 5 rfl rfl ?_
  refine LP_end _ rfl ?_
  refine W_region ?_
  refine LP_ev ok 0 [(16, I (wr (x + 1))), (8, I (wr (x + 1)))] 2 rfl rfl ?_
  refine LP_end _ rfl ?_
  have f14 := f.mono X2.size
  have X15 := ((X2.stepx x10).step y (f14.dom _))
  have ex16 := ((ex1.ext x10).but y (Dj.of_fresh ex1 f).symm)
  exact ⟨(wr (n * x3.Levels), wr (x + 1)), ⟨H.1, _, env_eq ⟨rfl, rfl, rfl, rfl, trivial⟩, X15, ex16⟩, H.2⟩
 have H := H.2 hc
 refine W_exit ?_
 refine (if_pos rfl).mpr ?_
 refine W_seq ?_
 refine W_region ?_
 refine LP_ev ok 0 [(17, I n), (2, I n)] 2 rfl rfl ?_
 refine LP_end _ rfl ?_
 refine W_ret ?_
 exact ⟨_, Ret_of [I n] ⟨⟨rfl, rfl⟩, trivial⟩, _, H, rfl, X2.ext⟩

theorem impl_typeCount_w (g : Geo) (sx : List Variable) (Q : Int → Prop) (H : impl_typeCount g sx Q) (w : World) {vx : Value} {hx : PH} (r : RS hx vx g.Parents) (ex : Sub hx w) {vx1 : Value} {hx2 : PH} (r3 : RS hx2 vx1 sx) (ex4 : Sub hx2 w) :
  CallsTo Tryz.prog 81 #[.agg #[vx], vx1] w fun v w' => ∃ r0, Q r0 ∧ v = I r0 ∧ Ext w w' := by
 obtain ⟨a, c, rfl⟩ := r.shape
 obtain ⟨a5, c6, rfl⟩ := r3.shape
 refine enter (args := [.agg #[sl a g.Parents c], sl a5 sx c6]) 11 Tryz.func81 rfl rfl rfl ?_
 refine W_forget [(0, .agg #[sl a g.Parents c]), (1, sl a5 sx c6)] ⟨rfl, rfl, trivial⟩ fun ρ => ?_
 have X := But.refl emp w
 refine W_seq ?_
 refine W_region ?_
 refine LP_box 0 (cs := [sl a g.Parents c]) rfl rfl rfl rfl rfl fun b wx x ex7 f => ?_
 refine LP_ev ok 1 [(4, I 0)] 2 rfl rfl ?_
 refine LP_end _ rfl ?_
 refine W_seq ?_
 refine W_region ?_
 refine LP_ldbox 0 (v := .agg #[sl a g.Parents c]) rfl rfl rfl ti_32 ag_32 (fun h => by cases h) rfl ex7 rfl rfl ?_
 have ex9 := (ex.ext x)
 refine LP_call 1 rfl rfl rfl cal_103 rfl (impl_leavesOf_w _ _ H wx r ex9) ?_
 rintro _ wx10 ⟨r8, vx12, hx13, H, rfl, x11, o, ex14, f15⟩
 obtain ⟨a16, c17, rfl⟩ := o.shape
 refine LP_ev ok 2 [(7, I (ln r8)), (8, sl a5 sx c6)] 4 rfl rfl ?_
 have ex19 := ((ex4.ext x).ext x11)
 refine LP_call 4 rfl rfl rfl cal_102 rfl (impl_combinations_w _ _ H wx10 r3 ex19) ?_
 rintro _ wx20 ⟨r18, H, rfl, x21⟩
 refine LP_ev ok 5 [(10, I (wr ((ln r8) * r18))), (4, I (wr ((ln r8) * r18)))] 7 rfl rfl ?_
 refine LP_end _ rfl ?_
 refine W_ret ?_
 have X22 := (((X.stepx x).stepx x11).stepx x21)
 exact ⟨_, Ret_of [I (wr ((ln r8) * r18))] ⟨⟨rfl, rfl⟩, trivial⟩, _, H, rfl, X22.ext⟩

theorem impl_areTyped_w (g : Geo) (sx : List Variable) (Q : Bool → Prop) (H : impl_areTyped g sx Q) (w : World) {vx : Value} {hx : PH} (r : RS hx vx g.Parents) (ex : Sub hx w) {vx1 : Value} {hx2 : PH} (r3 : RS hx2 vx1 sx) (ex4 : Sub hx2 w) :
  CallsTo Tryz.prog 99 #[.agg #[vx], vx1] w fun v w' => ∃ r0, Q r0 ∧ v = .bool r0 ∧ Ext w w' := by
 obtain ⟨a, c, rfl⟩ := r.shape
 obtain ⟨a5, c6, rfl⟩ := r3.shape
 refine enter (args := [.agg #[sl a g.Parents c], sl a5 sx c6]) 17 Tryz.func99 rfl rfl rfl ?_
 refine W_forget [(0, .agg #[sl a g.Parents c]), (1, sl a5 sx c6)] ⟨rfl, rfl, trivial⟩ fun ρ => ?_
 have X := But.refl emp w
 refine W_seq ?_
 refine W_region ?_
 refine LP_box 0 (cs := [sl a g.Parents c]) rfl rfl rfl rfl rfl fun b wx x ex7 f => ?_
 refine LP_ev ok 1 [(4, .bool false)] 2 rfl rfl ?_
 refine LP_end _ rfl ?_
 obtain ⟨k, hk, H⟩ := jn_elim H
 refine W_join2 (S := Bool) (fun s ρ' w' => k s ∧ ∃ (ρ : Env), ρ' = setAll [(4, .bool s)] ρ ∧ But emp w w') ?_ ?_
 ·refine W_region ?_
  refine LP_ldbox 0 (v := .agg #[sl a g.Parents c]) rfl rfl rfl ti_32 ag_32 (fun h => by cases h) rfl ex7 rfl rfl ?_
  have ex12 := (ex.ext x)
  refine LP_call 1 rfl rfl rfl cal_150 rfl (impl_IsGeo_w _ _ H wx r ex12) ?_
  rintro _ wx13 ⟨r11, H, rfl, x14⟩
  refine LP_ev ok 2 [(7, .bool r11)] 3 rfl rfl ?_
  refine LP_split 7 (r11) rfl (fun hc => ?_) (fun hc => ?_)
  ·have H := H.1 hc
   refine LP_ev ok 3 [(8, sl a5 sx c6)] 4 rfl rfl ?_
   have ex16 := ((ex4.ext x).ext x14)
   refine LP_call 4 rfl rfl rfl cal_151 rfl (impl_IsSchema_w _ _ H wx13 r3 ex16) ?_
   rintro _ wx17 ⟨r15, H, rfl, x18⟩
   refine LP_ev ok 5 [(10, .bool r15), (11, .bool r15)] 7 rfl rfl ?_
   refine LP_split 11 (r15) rfl (fun hc19 => ?_) (fun hc19 => ?_)
   ·have H := H.1 hc19
    have ex20 := ((ex7.ext x14).ext x18)
    refine LP_ldbox 7 (v := .agg #[sl a g.Parents c]) rfl rfl rfl ti_32 ag_32 (fun h => by cases h) rfl ex20 rfl rfl ?_
    refine LP_ev ok 8 [(13, sl a5 sx c6)] 9 rfl rfl ?_
    have ex22 := ((ex12.ext x14).ext x18)
    have ex23 := (ex16.ext x18)
    refine LP_call 9 rfl rfl rfl cal_81 rfl (impl_typeCount_w _ _ _ H wx17 r ex22 r3 ex23) ?_
    rintro _ wx24 ⟨r21, H, rfl, x25⟩
    refine LP_ev ok 10 [(15, .bool (decide (r21 ≤ 12))), (16, .bool (decide (r21 ≤ 12))), (4, .bool (decide (r21 ≤ 12)))] 13 rfl rfl ?_
    refine LP_end _ rfl ?_
    have X26 := ((((X.stepx x).stepx x14).stepx x18).stepx x25)
    exact ⟨decide (r21 ≤ 12), H, _, env_eq ⟨rfl, trivial⟩, X26⟩
   have H := H.2 hc19
   refine LP_ev ok 7 [(12, undef), (13, undef), (14, undef), (15, undef), (16, .bool false), (4, .bool false)] 13 rfl rfl ?_
   refine LP_end _ rfl ?_
   have X27 := (((X.stepx x).stepx x14).stepx x18)
   exact ⟨false, H, _, env_eq ⟨rfl, trivial⟩, X27⟩
  have H := H.2 hc
  refine LP_ev ok 3 [(8, undef), (9, undef), (10, .bool false), (11, .bool false), (12, undef), (13, undef), (14, undef), (15, undef), (16, .bool false), (4, .bool false)] 13 rfl rfl ?_
  refine LP_end _ rfl ?_
  have X28 := ((X.stepx x).stepx x14)
  exact ⟨false, H, _, env_eq ⟨rfl, trivial⟩, X28⟩
 rintro x8 _ wx9 ⟨H, ρ, rfl, X10⟩
 subst hk
 refine W_ret ?_
 exact ⟨_, Ret_of [.bool x8] ⟨⟨rfl, rfl⟩, trivial⟩, _, H, rfl, X10.ext⟩

theorem impl_areVars_w (sx : List Variable) (vars : List Int) (Q : Bool → Prop) (H : impl_areVars sx vars Q) (w : World) {vx : Value} {hx : PH} (r : RS hx vx sx) (ex : Sub hx w) {vx1 : Value} {hx2 : PH} (r3 : RS hx2 vx1 vars) (ex4 : Sub hx2 w) :
  CallsTo Tryz.prog 126 #[vx, vx1] w fun v w' => ∃ r0, Q r0 ∧ v = .bool r0 ∧ Ext w w' := by
 obtain ⟨a, c, rfl⟩ := r.shape
 obtain ⟨a5, c6, rfl⟩ := r3.shape
 refine enter (args := [sl a sx c, sl a5 vars c6]) 25 Tryz.func126 rfl rfl rfl ?_
 refine W_forget [(0, sl a sx c), (1, sl a5 vars c6)] ⟨rfl, rfl, trivial⟩ fun ρ => ?_
 have X := But.refl emp w
 refine W_seq ?_
 refine W_region ?_
 refine LP_ev ok 0 [(4, .bool false)] 1 rfl rfl ?_
 refine LP_end _ rfl ?_
 refine W_seq ?_
 refine W_region ?_
 refine LP_ev ok 0 [(5, I ((-1)))] 1 rfl rfl ?_
 refine LP_end _ rfl ?_
 refine W_seq ?_
 refine W_seq ?_
 refine W_region ?_
 refine LP_ev ok 0 [(8, sl a5 vars c6), (9, I (ln vars)), (10, I 0)] 3 rfl rfl ?_
 refine LP_end _ rfl ?_
 refine W_block ?_
 obtain ⟨J, m, Hx, H⟩ := H
 refine W_loop (S := Int × Int) (fun s ρ' w' => J s.1 s.2 ∧ ∃ (ρ : Env), ρ' = setAll [(0, sl a sx c), (5, I s.1), (8, sl a5 vars c6), (9, I (ln vars)), (10, I s.2)] ρ ∧ w = w') (fun s => m s.1 s.2) ((-1), 0) ⟨Hx, _, env_eq ⟨rfl, rfl, rfl, rfl, rfl, trivial⟩, rfl⟩ ?_
 rintro ⟨last, x⟩ _ _ ⟨Hi, ρ, rfl, rfl⟩
 have H := H last x Hi
 refine W_seq ?_
 refine W_region ?_
 refine LP_ev ok 0 [(11, .bool (decide (x < (ln vars))))] 1 rfl rfl ?_
 refine LP_end _ rfl ?_
 refine W_seq ?_
 refine W_cond (decide (x < (ln vars))) rfl (fun hc => ?_) (fun hc => ?_)
 ·have H := H.1 hc
  refine W_skip ?_
  refine W_seq ?_
  refine W_block ?_
  refine W_seq ?_
  refine W_region ?_
  obtain ⟨x7, hi, hx8, H⟩ := H
  refine LP_index 0 rfl rfl rfl Tryz.underlying22 ti_3 rfl rfl r3 hi hx8 fun a9 cs r10 d => ?_
  refine LP_load 1 rfl rfl rfl ti_3 ag_3 rfl r10 d ex4 fun vx11 r12 => ?_
  obtain rfl := r12.int
  refine LP_ev ok 2 [(7, I x7)] 3 rfl rfl ?_
  refine LP_end _ rfl ?_
  refine W_seq ?_
  obtain ⟨k, hk, H⟩ := jn_elim H
  refine W_join2 (S := Bool) (fun s ρ' w' => k s ∧ ∃ (ρ : Env), ρ' = setAll [(0, sl a sx c), (7, I x7), (8, sl a5 vars c6), (9, I (ln vars)), (10, I x), (22, .bool s)] ρ ∧ w = w') ?_ ?_
  ·refine W_region ?_
   refine LP_ev ok 0 [(14, I x7), (15, I last), (16, .bool (decide (x7 ≤ last))), (17, .bool (decide (x7 ≤ last)))] 4 rfl rfl ?_
   refine LP_split 17 (decide (x7 ≤ last)) rfl (fun hc15 => ?_) (fun hc15 => ?_)
   ·have H := H.1 hc15
    refine LP_ev ok 4 [(18, undef), (19, undef), (20, undef), (21, undef), (22, .bool true)] 9 rfl rfl ?_
    refine LP_end _ rfl ?_
    exact ⟨true, H, _, env_eq ⟨rfl, rfl, rfl, rfl, rfl, rfl, trivial⟩, rfl⟩
   have H := H.2 hc15
   refine LP_ev ok 4 [(18, I x7), (19, sl a sx c), (20, I (ln sx)), (21, .bool (decide (x7 ≥ (ln sx)))), (22, .bool (decide (x7 ≥ (ln sx))))] 9 rfl rfl ?_
   refine LP_end _ rfl ?_
   exact ⟨decide (x7 ≥ (ln sx)), H, _, env_eq ⟨rfl, rfl, rfl, rfl, rfl, rfl, trivial⟩, rfl⟩
  rintro x13 _ _ ⟨H, ρ, rfl, rfl⟩
  subst hk
  refine W_cond (x13) rfl (fun hc16 => ?_) (fun hc16 => ?_)
  ·have H := H.1 hc16
   refine W_seq ?_
   refine W_region ?_
   refine LP_ev ok 0 [(4, .bool false)] 1 rfl rfl ?_
   refine LP_end _ rfl ?_
   refine W_ret ?_
   exact ⟨_, Ret_of [.bool false] ⟨⟨rfl, rfl⟩, trivial⟩, _, H, rfl, X.ext⟩
  have H := H.2 hc16
  refine W_skip ?_
  refine W_region ?_
  refine LP_ev ok 0 [(23, I x7), (5, I x7)] 2 rfl rfl ?_
  refine LP_end _ rfl ?_
  refine W_region ?_
  refine LP_ev ok 0 [(24, I (wr (x + 1))), (10, I (wr (x + 1)))] 2 rfl rfl ?_
  refine LP_end _ rfl ?_
  exact ⟨(x7, wr (x + 1)), ⟨H.1, _, env_eq ⟨rfl, rfl, rfl, rfl, rfl, trivial⟩, rfl⟩, H.2⟩
 have H := H.2 hc
 refine W_exit ?_
 refine (if_pos rfl).mpr ?_
 refine W_seq ?_
 refine W_region ?_
 refine LP_ev ok 0 [(4, .bool true)] 1 rfl rfl ?_
 refine LP_end _ rfl ?_
 refine W_ret ?_
 exact ⟨_, Ret_of [.bool true] ⟨⟨rfl, rfl⟩, trivial⟩, _, H, rfl, X.ext⟩

theorem impl_fullSet_w (vx : Variable) (Q : Int → Prop) (H : impl_fullSet vx Q) (w : World)  :
  CallsTo Tryz.prog 165 #[.agg #[.string vx.Name, I vx.Levels]] w fun v w' => ∃ r0, Q r0 ∧ v = I r0 ∧ Ext w w' := by
 refine enter (args := [.agg #[.string vx.Name, I vx.Levels]]) 7 Tryz.func165 rfl rfl rfl ?_
 refine W_forget [(0, .agg #[.string vx.Name, I vx.Levels])] ⟨rfl, trivial⟩ fun ρ => ?_
 have X := But.refl emp w
 refine W_seq ?_
 refine W_region ?_
 refine LP_box 0 (cs := [.string vx.Name, I vx.Levels]) rfl rfl rfl rfl rfl fun b wx x ex f => ?_
 refine LP_ev ok 1 [(2, I 0)] 2 rfl rfl ?_
 refine LP_end _ rfl ?_
 refine W_seq ?_
 refine W_region ?_
 refine LP_ev ok 0 [(3, .pointer (some ⟨b, 1, none⟩))] 1 rfl rfl ?_
 refine LP_ldbox 1 (v := I vx.Levels) rfl rfl rfl ti_3 ag_3 (fun _ => rfl) rfl ex rfl rfl ?_
 obtain ⟨hz, H⟩ := H
 refine LP_val 2 _ rfl rfl (ex_shl rfl rfl rfl hz _) ?_
 refine LP_ev ok 3 [(6, I (wr ((shl .i64 1 vx.Levels) - 1))), (2, I (wr ((shl .i64 1 vx.Levels) - 1)))] 5 rfl rfl ?_
 refine LP_end _ rfl ?_
 refine W_ret ?_
 have X1 := (X.stepx x)
 exact ⟨_, Ret_of [I (wr ((shl .i64 1 vx.Levels) - 1))] ⟨⟨rfl, rfl⟩, trivial⟩, _, H, rfl, X1.ext⟩

theorem impl_isWhere_w (sx : List Variable) (wherex : List Int) (Q : Bool → Prop) (H : impl_isWhere sx wherex Q) (w : World) {vx : Value} {hx : PH} (r : RS hx vx sx) (ex : Sub hx w) {vx1 : Value} {hx2 : PH} (r3 : RS hx2 vx1 wherex) (ex4 : Sub hx2 w) :
  CallsTo Tryz.prog 127 #[vx, vx1] w fun v w' => ∃ r0, Q r0 ∧ v = .bool r0 ∧ Ext w w' := by
 obtain ⟨a, c, rfl⟩ := r.shape
 obtain ⟨a5, c6, rfl⟩ := r3.shape
 refine enter (args := [sl a sx c, sl a5 wherex c6]) 31 Tryz.func127 rfl rfl rfl ?_
 refine W_forget [(0, sl a sx c), (1, sl a5 wherex c6)] ⟨rfl, rfl, trivial⟩ fun ρ => ?_
 have X := But.refl emp w
 refine W_seq ?_
 refine W_region ?_
 refine LP_ev ok 0 [(4, .bool false)] 1 rfl rfl ?_
 refine LP_end _ rfl ?_
 refine W_seq ?_
 refine W_seq ?_
 refine W_region ?_
 refine LP_ev ok 0 [(7, sl a5 wherex c6), (8, I (ln wherex)), (9, sl a sx c), (10, I (ln sx)), (11, .bool ((ln wherex) != (ln sx)))] 5 rfl rfl ?_
 refine LP_end _ rfl ?_
 refine W_cond ((ln wherex) != (ln sx)) rfl (fun hc => ?_) (fun hc => ?_)
 ·have H := H.1 hc
  refine W_seq ?_
  refine W_region ?_
  refine LP_ev ok 0 [(4, .bool false)] 1 rfl rfl ?_
  refine LP_end _ rfl ?_
  refine W_ret ?_
  exact ⟨_, Ret_of [.bool false] ⟨⟨rfl, rfl⟩, trivial⟩, _, H, rfl, X.ext⟩
 have H := H.2 hc
 refine W_skip ?_
 refine W_seq ?_
 refine W_seq ?_
 refine W_region ?_
 refine LP_ev ok 0 [(12, sl a5 wherex c6), (13, I (ln wherex)), (14, I 0)] 3 rfl rfl ?_
 refine LP_end _ rfl ?_
 refine W_block ?_
 obtain ⟨J, m, Hx, H⟩ := H
 refine W_loop (S := Int) (fun s ρ' w' => J s ∧ ∃ (ρ : Env), ρ' = setAll [(0, sl a sx c), (12, sl a5 wherex c6), (13, I (ln wherex)), (14, I s)] ρ ∧ But emp w w' ∧ Sub hx w' ∧ Sub hx2 w') (fun s => m s) 0 ⟨Hx, _, env_eq ⟨rfl, rfl, rfl, rfl, trivial⟩, X, ex, ex4⟩ ?_
 rintro x _ wx ⟨Hi, ρ, rfl, X9, ex7, ex8⟩
 have H := H x Hi
 refine W_seq ?_
 refine W_region ?_
 refine LP_ev ok 0 [(15, .bool (decide (x < (ln wherex))))] 1 rfl rfl ?_
 refine LP_end _ rfl ?_
 refine W_seq ?_
 refine W_cond (decide (x < (ln wherex))) rfl (fun hc10 => ?_) (fun hc10 => ?_)
 ·have H := H.1 hc10
  refine W_skip ?_
  refine W_seq ?_
  refine W_block ?_
  refine W_seq ?_
  refine W_region ?_
  refine LP_ev ok 0 [(16, I x)] 1 rfl rfl ?_
  obtain ⟨x11, hi, hx12, H⟩ := H
  refine LP_index 1 rfl rfl rfl Tryz.underlying22 ti_3 rfl rfl r3 hi hx12 fun a13 cs r14 d => ?_
  refine LP_load 2 rfl rfl rfl ti_3 ag_3 rfl r14 d ex8 fun vx15 r16 => ?_
  obtain rfl := r16.int
  refine LP_ev ok 3 [(5, I x), (6, I x11)] 5 rfl rfl ?_
  refine LP_end _ rfl ?_
  obtain ⟨k, hk, H⟩ := jn_elim H
  refine W_join2 (S := Bool) (fun s ρ' w' => k s ∧ ∃ (ρ : Env), ρ' = setAll [(0, sl a sx c), (12, sl a5 wherex c6), (13, I (ln wherex)), (14, I x), (29, .bool s)] ρ ∧ But emp w w' ∧ Sub hx w' ∧ Sub hx2 w') ?_ ?_
  ·refine W_region ?_
   refine LP_ev ok 0 [(19, I x11), (20, .bool (decide (x11 < 0))), (21, .bool (decide (x11 < 0)))] 3 rfl rfl ?_
   refine LP_split 21 (decide (x11 < 0)) rfl (fun hc22 => ?_) (fun hc22 => ?_)
   ·have H := H.1 hc22
    refine LP_ev ok 3 [(22, undef), (23, undef), (24, undef), (25, undef), (26, undef), (27, undef), (28, undef), (29, .bool true)] 11 rfl rfl ?_
    refine LP_end _ rfl ?_
    exact ⟨true, H, _, env_eq ⟨rfl, rfl, rfl, rfl, rfl, trivial⟩, X9, ex7, ex8⟩
   have H := H.2 hc22
   refine LP_ev ok 3 [(22, I x11), (23, sl a sx c), (24, I x)] 6 rfl rfl ?_
   obtain ⟨x23, hi24, hx25, H⟩ := H
   refine LP_index 6 rfl rfl rfl Tryz.underlying34 ti_98 rfl rfl r hi24 hx25 fun a26 cs27 r28 d29 => ?_
   refine LP_load 7 rfl rfl rfl ti_98 ag_98 rfl r28 d29 ex7 fun vx30 r31 => ?_
   obtain rfl := Variable_rv r31
   refine LP_call 8 rfl rfl rfl cal_165 rfl (impl_fullSet_w _ _ H wx ) ?_
   rintro _ wx33 ⟨r32, H, rfl, x34⟩
   refine LP_ev ok 9 [(28, .bool (decide (x11 > r32))), (29, .bool (decide (x11 > r32)))] 11 rfl rfl ?_
   refine LP_end _ rfl ?_
   have X35 := (X9.stepx x34)
   have ex36 := (ex7.ext x34)
   have ex37 := (ex8.ext x34)
   exact ⟨decide (x11 > r32), H, _, env_eq ⟨rfl, rfl, rfl, rfl, rfl, trivial⟩, X35, ex36, ex37⟩
  rintro x17 _ wx18 ⟨H, ρ, rfl, X21, ex19, ex20⟩
  subst hk
  refine W_cond (x17) rfl (fun hc38 => ?_) (fun hc38 => ?_)
  ·have H := H.1 hc38
   refine W_seq ?_
   refine W_region ?_
   refine LP_ev ok 0 [(4, .bool false)] 1 rfl rfl ?_
   refine LP_end _ rfl ?_
   refine W_ret ?_
   exact ⟨_, Ret_of [.bool false] ⟨⟨rfl, rfl⟩, trivial⟩, _, H, rfl, X21.ext⟩
  have H := H.2 hc38
  refine W_skip ?_
  refine W_region ?_
  refine LP_ev ok 0 [(30, I (wr (x + 1))), (14, I (wr (x + 1)))] 2 rfl rfl ?_
  refine LP_end _ rfl ?_
  exact ⟨wr (x + 1), ⟨H.1, _, env_eq ⟨rfl, rfl, rfl, rfl, trivial⟩, X21, ex19, ex20⟩, H.2⟩
 have H := H.2 hc10
 refine W_exit ?_
 refine (if_pos rfl).mpr ?_
 refine W_seq ?_
 refine W_region ?_
 refine LP_ev ok 0 [(4, .bool true)] 1 rfl rfl ?_
 refine LP_end _ rfl ?_
 refine W_ret ?_
 exact ⟨_, Ret_of [.bool true] ⟨⟨rfl, rfl⟩, trivial⟩, _, H, rfl, X9.ext⟩

theorem impl_depthOf_w (g : Geo) (i : Int) (Q : Int → Prop) (H : impl_depthOf g i Q) (w : World) {vx : Value} {hx : PH} (r : RS hx vx g.Parents) (ex : Sub hx w) :
  CallsTo Tryz.prog 166 #[.agg #[vx], I i] w fun v w' => ∃ r0, Q r0 ∧ v = I r0 ∧ Ext w w' := by
 obtain ⟨a, c, rfl⟩ := r.shape
 refine enter (args := [.agg #[sl a g.Parents c], I i]) 16 Tryz.func166 rfl rfl rfl ?_
 refine W_forget [(0, .agg #[sl a g.Parents c]), (1, I i)] ⟨rfl, rfl, trivial⟩ fun ρ => ?_
 have X := But.refl emp w
 refine W_seq ?_
 refine W_region ?_
 refine LP_box 0 (cs := [sl a g.Parents c]) rfl rfl rfl rfl rfl fun b wx x ex1 f => ?_
 refine LP_ev ok 1 [(4, I 0)] 2 rfl rfl ?_
 refine LP_end _ rfl ?_
 refine W_seq ?_
 refine W_region ?_
 refine LP_ev ok 0 [(5, I 0)] 1 rfl rfl ?_
 refine LP_end _ rfl ?_
 refine W_seq ?_
 refine W_block ?_
 obtain ⟨J, m, Hx, H⟩ := H
 refine W_loop (S := Int × Int) (fun s ρ' w' => J s.1 s.2 ∧ ∃ (ρ : Env), ρ' = setAll [(1, I s.1), (2, pb b), (5, I s.2)] ρ ∧ wx = w') (fun s => m s.1 s.2) (i, 0) ⟨Hx, _, env_eq ⟨rfl, rfl, rfl, trivial⟩, rfl⟩ ?_
 rintro ⟨i2, d⟩ _ _ ⟨Hi, ρ, rfl, rfl⟩
 have H := H i2 d Hi
 refine W_seq ?_
 refine W_seq ?_
 refine W_region ?_
 refine LP_ev ok 0 [(6, I i2), (7, .bool (decide (i2 > 0)))] 2 rfl rfl ?_
 refine LP_end _ rfl ?_
 refine W_cond (decide (i2 > 0)) rfl (fun hc => ?_) (fun hc => ?_)
 ·have H := H.1 hc
  refine W_skip ?_
  refine W_block ?_
  refine W_seq ?_
  refine W_region ?_
  refine LP_ev ok 0 [(8, pb b)] 1 rfl rfl ?_
  refine LP_ldbox 1 (v := sl a g.Parents c) rfl rfl rfl ti_22 ag_22 (fun _ => rfl) rfl ex1 rfl rfl ?_
  refine LP_ev ok 2 [(10, I i2)] 3 rfl rfl ?_
  obtain ⟨x4, hi, hx5, H⟩ := H
  refine LP_index 3 rfl rfl rfl Tryz.underlying22 ti_3 rfl rfl r hi hx5 fun a6 cs r7 d8 => ?_
  have ex9 := (ex.ext x)
  refine LP_load 4 rfl rfl rfl ti_3 ag_3 rfl r7 d8 ex9 fun vx10 r11 => ?_
  obtain rfl := r11.int
  refine LP_ev ok 5 [(1, I x4)] 6 rfl rfl ?_
  refine LP_end _ rfl ?_
  refine W_region ?_
  refine LP_ev ok 0 [(13, I d), (14, I (wr (d + 1))), (5, I (wr (d + 1)))] 3 rfl rfl ?_
  refine LP_end _ rfl ?_
  exact ⟨(x4, wr (d + 1)), ⟨H.1, _, env_eq ⟨rfl, rfl, rfl, trivial⟩, rfl⟩, H.2⟩
 have H := H.2 hc
 refine W_exit ?_
 refine (if_pos rfl).mpr ?_
 refine W_seq ?_
 refine W_region ?_
 refine LP_ev ok 0 [(15, I d), (4, I d)] 2 rfl rfl ?_
 refine LP_end _ rfl ?_
 refine W_ret ?_
 have X12 := (X.stepx x)
 exact ⟨_, Ret_of [I d] ⟨⟨rfl, rfl⟩, trivial⟩, _, H, rfl, X12.ext⟩

theorem impl_areasAt_w (g : Geo) (level : Int) (Q : (List Int) → Prop) (H : impl_areasAt g level Q) (w : World) {vx : Value} {hx : PH} (r : RS hx vx g.Parents) (ex : Sub hx w) :
  CallsTo Tryz.prog 128 #[.agg #[vx], I level] w fun v w' => ∃ r0 u0 g0, Q r0 ∧ v = u0 ∧ Ext w w' ∧ OS 3 g0 emp u0 r0 ∧ Sub g0 w' ∧ Fresh w.heap.size g0 := by
 obtain ⟨a, c, rfl⟩ := r.shape
 refine enter (args := [.agg #[sl a g.Parents c], I level]) 24 Tryz.func128 rfl rfl rfl ?_
 refine W_forget [(0, .agg #[sl a g.Parents c]), (1, I level)] ⟨rfl, rfl, trivial⟩ fun ρ => ?_
 have X := But.refl emp w
 refine W_seq ?_
 refine W_region ?_
 refine LP_box 0 (cs := [sl a g.Parents c]) rfl rfl rfl rfl rfl fun b wx x ex1 f => ?_
 refine LP_ev ok 1 [(4, .slice none 0 0)] 2 rfl rfl ?_
 refine LP_end _ rfl ?_
 refine W_seq ?_
 refine W_region ?_
 refine LP_ev ok 0 [(5, .slice none 0 0)] 1 rfl rfl ?_
 refine LP_end _ rfl ?_
 refine W_seq ?_
 refine W_seq ?_
 refine W_region ?_
 refine LP_ev ok 0 [(7, pb b)] 1 rfl rfl ?_
 refine LP_ldbox 1 (v := sl a g.Parents c) rfl rfl rfl ti_22 ag_22 (fun _ => rfl) rfl ex1 rfl rfl ?_
 refine LP_ev ok 2 [(9, I (ln g.Parents)), (10, I 0)] 4 rfl rfl ?_
 refine LP_end _ rfl ?_
 refine W_block ?_
 have X14 := (X.stepx x)
 have ex15 := (ex.ext x)
 obtain ⟨J, m, Hx, H⟩ := H
 refine W_loop (S := (List Int) × Int) (fun s ρ' w' => J s.1 s.2 ∧ ∃ (ρ : Env) (vx2 : Value) (hx3 : PH), ρ' = setAll [(1, I level), (2, pb b), (5, vx2), (9, I (ln g.Parents)), (10, I s.2)] ρ ∧ But emp w w' ∧ OS 3 hx3 emp vx2 s.1 ∧ Sub hx3 w' ∧ Fresh w.heap.size hx3 ∧ Sub hx w' ∧ Sub (bx b 32 [sl a g.Parents c]) w' ∧ Dj hx3 hx ∧ Dj hx3 (bx b 32 [sl a g.Parents c])) (fun s => m s.1 s.2) ([], 0) ⟨Hx, _, .slice none 0 0, emp, env_eq ⟨rfl, rfl, rfl, rfl, rfl, trivial⟩, X14, OS.nil, (emp_sub _), (emp_fresh _), ex15, ex1, (fun _ => .inl rfl), (fun _ => .inl rfl)⟩ ?_
 rintro ⟨list, x6⟩ _ wx7 ⟨Hi, ρ, vx2, hx3, rfl, HF⟩
 revert HF
 refine bb8 fun X13 o ex4 f5 ex8 ex9 d d12 => ?_
 have H := H list x6 Hi
 obtain ⟨a10, c11, rfl⟩ := o.shape
 refine W_seq ?_
 refine W_region ?_
 refine LP_ev ok 0 [(11, .bool (decide (x6 < (ln g.Parents))))] 1 rfl rfl ?_
 refine LP_end _ rfl ?_
 refine W_seq ?_
 refine W_cond (decide (x6 < (ln g.Parents))) rfl (fun hc => ?_) (fun hc => ?_)
 ·have H := H.1 hc
  refine W_skip ?_
  obtain ⟨k, hk, H⟩ := jn_elim H
  refine W_join2 (S := (List Int)) (fun s ρ' w' => k s ∧ ∃ (ρ : Env) (vx17 : Value) (hx18 : PH), ρ' = setAll [(1, I level), (2, pb b), (5, vx17), (9, I (ln g.Parents)), (10, I x6)] ρ ∧ But emp w w' ∧ OS 3 hx18 emp vx17 s ∧ Sub hx18 w' ∧ Fresh w.heap.size hx18 ∧ Sub hx w' ∧ Sub (bx b 32 [sl a g.Parents c]) w' ∧ Dj hx18 hx ∧ Dj hx18 (bx b 32 [sl a g.Parents c])) ?_ ?_
  ·refine W_block ?_
   refine W_seq ?_
   refine W_region ?_
   refine LP_ev ok 0 [(12, I x6), (6, I x6)] 2 rfl rfl ?_
   refine LP_end _ rfl ?_
   refine W_seq ?_
   refine W_region ?_
   refine LP_ldbox 0 (v := .agg #[sl a g.Parents c]) rfl rfl rfl ti_32 ag_32 (fun h => by cases h) rfl ex9 rfl rfl ?_
   refine LP_ev ok 1 [(14, I x6)] 2 rfl rfl ?_
   refine LP_call 2 rfl rfl rfl cal_166 rfl (impl_depthOf_w _ _ _ H wx7 r ex8) ?_
   rintro _ wx31 ⟨r30, H, rfl, x32⟩
   refine LP_ev ok 3 [(16, I level), (17, .bool (r30 == level))] 5 rfl rfl ?_
   refine LP_end _ rfl ?_
   refine W_cond (r30 == level) rfl (fun hc33 => ?_) (fun hc33 => ?_)
   ·have H := H.1 hc33
    refine W_region ?_
    refine LP_ev ok 0 [(18, sl a10 list c11), (19, I x6)] 2 rfl rfl ?_
    refine LP_lit (α := Int) (g := emp) 2 (vs := [I x6]) (xs := [x6]) rfl rfl rfl Tryz.underlying22 ti_3 rfl rfl ⟨⟨_, rfl, rfl⟩, trivial⟩ rfl rfl fun hx34 vx35 wx36 x37 o38 ex39 f40 => ?_
    obtain ⟨a41, c42, rfl⟩ := o38.shape
    have ex43 := ((ex4.ext x32).ext x37)
    obtain ⟨hb, H⟩ := H
    refine LP_appendf (α := Int) 3 rfl rfl rfl Tryz.underlying22 ti_3 rfl rfl rfl o ex43 o38.readf ex39 (by first | omega | (simp only [ln] at *; omega)) (by first | omega | (simp only [ln] at *; omega)) fun hx44 vx45 wx46 o47 ex48 y dm => ?_
    obtain ⟨a49, c50, rfl⟩ := o47.shape
    refine LP_ev ok 4 [(5, .slice a49 (List.length (list ++ ([x6]))) c50)] 5 rfl rfl ?_
    refine LP_end _ rfl ?_
    have X51 := (((X13.stepx x32).stepx x37).step y (f5.dom _))
    have X53 := ((X13.stepx x32).stepx x37)
    have f52 := dm.fresh f5 X53.size
    have ex54 := (((ex8.ext x32).ext x37).but y d)
    have ex55 := (((ex9.ext x32).ext x37).but y d12)
    have ex56 := ((ex8.ext x32).ext x37)
    have ex57 := ((ex9.ext x32).ext x37)
    exact ⟨list ++ ([x6]), H, _, .slice a49 (List.length (list ++ ([x6]))) c50, hx44, env_eq ⟨rfl, rfl, rfl, rfl, rfl, trivial⟩, X51, o47, ex48, f52, ex54, ex55, (DomLe.dj dm d ex56), (DomLe.dj dm d12 ex57)⟩
   have H := H.2 hc33
   refine W_skip ?_
   have X58 := (X13.stepx x32)
   have ex59 := (ex4.ext x32)
   have ex60 := (ex8.ext x32)
   have ex61 := (ex9.ext x32)
   exact ⟨list, H, _, sl a10 list c11, hx3, env_eq ⟨rfl, rfl, rfl, rfl, rfl, trivial⟩, X58, o, ex59, f5, ex60, ex61, d, d12⟩
  rintro list16 _ wx22 ⟨H, ρ, vx17, hx18, rfl, HF⟩
  revert HF
  refine bb8 fun X29 o19 ex20 f21 ex23 ex24 d27 d28 => ?_
  subst hk
  obtain ⟨a25, c26, rfl⟩ := o19.shape
  refine W_region ?_
  refine LP_ev ok 0 [(22, I (wr (x6 + 1))), (10, I (wr (x6 + 1)))] 2 rfl rfl ?_
  refine LP_end _ rfl ?_
  exact ⟨(list16, wr (x6 + 1)), ⟨H.1, _, sl a25 list16 c26, hx18, env_eq ⟨rfl, rfl, rfl, rfl, rfl, trivial⟩, X29, o19, ex20, f21, ex23, ex24, d27, d28⟩, H.2⟩
 have H := H.2 hc
 refine W_exit ?_
 refine (if_pos rfl).mpr ?_
 refine W_seq ?_
 refine W_region ?_
 refine LP_ev ok 0 [(23, sl a10 list c11), (4, sl a10 list c11)] 2 rfl rfl ?_
 refine LP_end _ rfl ?_
 refine W_ret ?_
 exact ⟨_, Ret_of [sl a10 list c11] ⟨⟨rfl, rfl⟩, trivial⟩, _, _, _, H, rfl, X13.ext, o, ex4, f5⟩

theorem impl_crossed_w (sx : List Variable) (t : Table) (Q : (List Variable) → Prop) (H : impl_crossed sx t Q) (w : World) {vx : Value} {hx : PH} (r : RS hx vx sx) (ex : Sub hx w) {vx1 : Value} {hx2 : PH} (r3 : RS hx2 vx1 t.Vars) (ex4 : Sub hx2 w) {vx7 : Value} {hx8 : PH} (r9 : RS hx8 vx7 t.Where) (ex10 : Sub hx8 w) :
  CallsTo Tryz.prog 129 #[vx, .agg #[I t.Level, vx1, vx7, I t.Sum]] w fun v w' => ∃ r0 u0 g0, Q r0 ∧ v = u0 ∧ Ext w w' ∧ OS 98 g0 emp u0 r0 ∧ Sub g0 w' ∧ Fresh w.heap.size g0 := by
 obtain ⟨a, c, rfl⟩ := r.shape
 obtain ⟨a5, c6, rfl⟩ := r3.shape
 obtain ⟨a11, c12, rfl⟩ := r9.shape
 refine enter (args := [sl a sx c, .agg #[I t.Level, sl a5 t.Vars c6, sl a11 t.Where c12, I t.Sum]]) 29 Tryz.func129 rfl rfl rfl ?_
 refine W_forget [(0, sl a sx c), (1, .agg #[I t.Level, sl a5 t.Vars c6, sl a11 t.Where c12, I t.Sum])] ⟨rfl, rfl, trivial⟩ fun ρ => ?_
 have X := But.refl emp w
 refine W_seq ?_
 refine W_region ?_
 refine LP_box 0 (cs := [I t.Level, sl a5 t.Vars c6, sl a11 t.Where c12, I t.Sum]) rfl rfl rfl rfl rfl fun b wx x ex13 f => ?_
 refine LP_ev ok 1 [(4, .slice none 0 0)] 2 rfl rfl ?_
 refine LP_end _ rfl ?_
 refine W_seq ?_
 refine W_region ?_
 refine LP_ev ok 0 [(8, .pointer (some ⟨b, 1, none⟩))] 1 rfl rfl ?_
 refine LP_ldbox 1 (v := sl a5 t.Vars c6) rfl rfl rfl ti_22 ag_22 (fun _ => rfl) rfl ex13 rfl rfl ?_
 refine LP_ev ok 2 [(10, I (ln t.Vars))] 3 rfl rfl ?_
 obtain ⟨hn, hb, H⟩ := H
 refine LP_make (α := Variable) 3 rfl rfl rfl Tryz.underlying34 ti_98 (x0 := (Variable.mk ((ByteArray.mk #[])) ((0 : Int)))) rfl rfl hn (by first | omega | (simp only [ln] at *; omega)) (by first | omega | (simp only [ln] at *; omega)) fun hx14 vx15 wx16 x17 o ex18 f19 => ?_
 obtain ⟨a20, c21, rfl⟩ := o.shape
 refine LP_ev ok 4 [(5, .slice a20 (List.length (List.replicate (Int.toNat (ln t.Vars)) ((Variable.mk ((ByteArray.mk #[])) ((0 : Int)))))) c21)] 5 rfl rfl ?_
 refine LP_end _ rfl ?_
 refine W_seq ?_
 refine W_seq ?_
 refine W_region ?_
 refine LP_ev ok 0 [(12, .pointer (some ⟨b, 1, none⟩))] 1 rfl rfl ?_
 have ex22 := (ex13.ext x17)
 refine LP_ldbox 1 (v := sl a5 t.Vars c6) rfl rfl rfl ti_22 ag_22 (fun _ => rfl) rfl ex22 rfl rfl ?_
 refine LP_ev ok 2 [(14, I (ln t.Vars)), (15, I 0)] 4 rfl rfl ?_
 refine LP_end _ rfl ?_
 refine W_block ?_
 have X34 := ((X.stepx x).stepx x17)
 have X36 := (X.stepx x)
 have f35 := f19.mono X36.size
 have ex37 := ((ex.ext x).ext x17)
 have ex38 := ((ex4.ext x).ext x17)
 have ex39 := (ex.ext x)
 have ex40 := (ex4.ext x)
 obtain ⟨J, m, Hx, H⟩ := H
 refine W_loop (S := (List Variable) × Int) (fun s ρ' w' => J s.1 s.2 ∧ ∃ (ρ : Env) (hx24 : PH), ρ' = setAll [(0, sl a sx c), (5, .slice a20 (List.length (List.replicate (Int.toNat (ln t.Vars)) ((Variable.mk ((ByteArray.mk #[])) ((0 : Int)))))) c21), (13, sl a5 t.Vars c6), (14, I (ln t.Vars)), (15, I s.2)] ρ ∧ But emp w w' ∧ OS 98 hx24 emp (.slice a20 (List.length (List.replicate (Int.toNat (ln t.Vars)) ((Variable.mk ((ByteArray.mk #[])) ((0 : Int)))))) c21) s.1 ∧ Sub hx24 w' ∧ Fresh w.heap.size hx24 ∧ Sub hx w' ∧ Sub hx2 w' ∧ Dj hx24 hx ∧ Dj hx24 hx2) (fun s => m s.1 s.2) (List.replicate (Int.toNat (ln t.Vars)) ((Variable.mk ((ByteArray.mk #[])) ((0 : Int)))), 0) ⟨Hx, _, hx14, env_eq ⟨rfl, rfl, rfl, rfl, rfl, trivial⟩, X34, o, ex18, f35, ex37, ex38, (Dj.of_fresh ex39 f19).symm, (Dj.of_fresh ex40 f19).symm⟩ ?_
 rintro ⟨out, x28⟩ _ wx29 ⟨Hi, ρ, hx24, rfl, HF⟩
 revert HF
 refine bb8 fun X33 o25 ex26 f27 ex30 ex31 d d32 => ?_
 have H := H out x28 Hi
 refine W_seq ?_
 refine W_region ?_
 refine LP_ev ok 0 [(16, .bool (decide (x28 < (ln t.Vars))))] 1 rfl rfl ?_
 refine LP_end _ rfl ?_
 refine W_seq ?_
 refine W_cond (decide (x28 < (ln t.Vars))) rfl (fun hc => ?_) (fun hc => ?_)
 ·have H := H.1 hc
  refine W_skip ?_
  refine W_seq ?_
  refine W_block ?_
  refine W_seq ?_
  refine W_region ?_
  refine LP_ev ok 0 [(17, I x28)] 1 rfl rfl ?_
  obtain ⟨x41, hi, hx42, H⟩ := H
  refine LP_index 1 rfl rfl rfl Tryz.underlying22 ti_3 rfl rfl r3 hi hx42 fun a43 cs r44 d45 => ?_
  refine LP_load 2 rfl rfl rfl ti_3 ag_3 rfl r44 d45 ex31 fun vx46 r47 => ?_
  obtain rfl := r47.int
  refine LP_ev ok 3 [(6, I x28), (7, I x41)] 5 rfl rfl ?_
  refine LP_end _ rfl ?_
  refine W_region ?_
  refine LP_ev ok 0 [(20, .slice a20 (List.length (List.replicate (Int.toNat (ln t.Vars)) ((Variable.mk ((ByteArray.mk #[])) ((0 : Int)))))) c21), (21, I x28), (22, sl a sx c), (23, I x41)] 4 rfl rfl ?_
  obtain ⟨x48, hi49, hx50, H⟩ := H
  refine LP_index 4 rfl rfl rfl Tryz.underlying34 ti_98 rfl rfl r hi49 hx50 fun a51 cs52 r53 d54 => ?_
  refine LP_load 5 rfl rfl rfl ti_98 ag_98 rfl r53 d54 ex30 fun vx55 r56 => ?_
  obtain rfl := Variable_rv r56
  obtain ⟨hi57, hl, H⟩ := H
  refine LP_indexw (v := .slice a20 (List.length (List.replicate (Int.toNat (ln t.Vars)) ((Variable.mk ((ByteArray.mk #[])) ((0 : Int)))))) c21) 6 rfl rfl rfl Tryz.underlying34 ti_98 rfl rfl o25 hi57 hl fun a58 wa => ?_
  refine LP_set 7 rfl rfl rfl rfl rfl wa (Le.refl emp) ⟨_, rfl, rfl⟩ ex26 fun hx59 wx60 o61 ex62 y dm => ?_
  refine LP_end _ rfl ?_
  refine W_region ?_
  refine LP_ev ok 0 [(27, I (wr (x28 + 1))), (15, I (wr (x28 + 1)))] 2 rfl rfl ?_
  refine LP_end _ rfl ?_
  have X63 := (X33.step y (f27.dom _))
  have f64 := (dm _).fresh f27 X33.size
  have ex65 := (ex30.but y d)
  have ex66 := (ex31.but y d32)
  exact ⟨(List.set out (Int.toNat x28) x48, wr (x28 + 1)), ⟨H.1, _, hx59, env_eq ⟨rfl, rfl, rfl, rfl, rfl, trivial⟩, X63, o61, ex62, f64, ex65, ex66, (DomLe.dj (dm _) d ex30), (DomLe.dj (dm _) d32 ex31)⟩, H.2⟩
 have H := H.2 hc
 refine W_exit ?_
 refine (if_pos rfl).mpr ?_
 refine W_seq ?_
 refine W_region ?_
 refine LP_ev ok 0 [(28, .slice a20 (List.length (List.replicate (Int.toNat (ln t.Vars)) ((Variable.mk ((ByteArray.mk #[])) ((0 : Int)))))) c21), (4, .slice a20 (List.length (List.replicate (Int.toNat (ln t.Vars)) ((Variable.mk ((ByteArray.mk #[])) ((0 : Int)))))) c21)] 2 rfl rfl ?_
 refine LP_end _ rfl ?_
 refine W_ret ?_
 exact ⟨_, Ret_of [.slice a20 (List.length (List.replicate (Int.toNat (ln t.Vars)) ((Variable.mk ((ByteArray.mk #[])) ((0 : Int)))))) c21] ⟨⟨rfl, rfl⟩, trivial⟩, _, _, _, H, rfl, X33.ext, o25, ex26, f27⟩

theorem impl_cellCount_w (g : Geo) (sx : List Variable) (t : Table) (Q : Int → Prop) (H : impl_cellCount g sx t Q) (w : World) {vx : Value} {hx : PH} (r : RS hx vx g.Parents) (ex : Sub hx w) {vx1 : Value} {hx2 : PH} (r3 : RS hx2 vx1 sx) (ex4 : Sub hx2 w) {vx7 : Value} {hx8 : PH} (r9 : RS hx8 vx7 t.Vars) (ex10 : Sub hx8 w) {vx13 : Value} {hx14 : PH} (r15 : RS hx14 vx13 t.Where) (ex16 : Sub hx14 w) :
  CallsTo Tryz.prog 88 #[.agg #[vx], vx1, .agg #[I t.Level, vx7, vx13, I t.Sum]] w fun v w' => ∃ r0, Q r0 ∧ v = I r0 ∧ Ext w w' := by
 obtain ⟨a, c, rfl⟩ := r.shape
 obtain ⟨a5, c6, rfl⟩ := r3.shape
 obtain ⟨a11, c12, rfl⟩ := r9.shape
 obtain ⟨a17, c18, rfl⟩ := r15.shape
 refine enter (args := [.agg #[sl a g.Parents c], sl a5 sx c6, .agg #[I t.Level, sl a11 t.Vars c12, sl a17 t.Where c18, I t.Sum]]) 17 Tryz.func88 rfl rfl rfl ?_
 refine W_forget [(0, .agg #[sl a g.Parents c]), (1, sl a5 sx c6), (2, .agg #[I t.Level, sl a11 t.Vars c12, sl a17 t.Where c18, I t.Sum])] ⟨rfl, rfl, rfl, trivial⟩ fun ρ => ?_
 have X := But.refl emp w
 refine W_seq ?_
 refine W_region ?_
 refine LP_box 0 (cs := [sl a g.Parents c]) rfl rfl rfl rfl rfl fun b wx x ex19 f => ?_
 refine LP_box 1 (cs := [I t.Level, sl a11 t.Vars c12, sl a17 t.Where c18, I t.Sum]) rfl rfl rfl rfl rfl fun b20 wx21 x22 ex23 f24 => ?_
 refine LP_ev ok 2 [(6, I 0)] 3 rfl rfl ?_
 refine LP_end _ rfl ?_
 refine W_seq ?_
 refine W_open mix fun wx25 x26 => ?_
 refine AP_game 9 [[], [], [1], [0, 1, 2], [0, 1, 2, 3], [], [], [0, 1, 2, 3, 5, 6], [0, 1, 2, 3, 5, 6, 7], [0, 1, 2, 3, 4, 5, 6, 7, 8], [0, 1, 2, 3, 4, 5, 6, 7, 8, 9]] [[(3, none)], [(5, none)], [(8, some 1)], [(7, some 0), (9, some 2)], [(10, some 3)], [(1, none)], [(5, none)], [(12, some 5), (13, some 6)], [(14, some 7)]] [(6, none), (11, some 4), (15, some 8)] [(0, false), (1, false), (2, false), (5, false), (6, false), (3, true), (4, false), (7, true), (8, false)] (by kernel_rfl) (by kernel_rfl) ?_
 have ex27 := ((ex19.ext x22).ext x26)
 refine GS_r1 [(3, pb b)] (.agg #[sl a g.Parents c]) rfl rfl (fun _ h => h) (fun _ w e => ex_ldbox rfl ti_32 ag_32 (fun h => by cases h) rfl e rfl rfl) ex27 ?_
 refine GS_ev ok [(5, pb b20)] (pb b20) rfl rfl (fun _ h => h) (fun _ => rfl) ?_
 have ex28 := (ex23.ext x26)
 refine GS_r1 [(8, pb b20)] (I t.Level) rfl rfl (fun _ h => h) (fun _ w e => ex_ldbox rfl ti_3 ag_3 (fun _ => rfl) rfl e rfl rfl) ex28 ?_
 refine GS_ev ok [(1, sl a5 sx c6)] (sl a5 sx c6) rfl rfl (fun _ h => h) (fun _ => rfl) ?_
 refine GS_r1 [(5, pb b20)] (.agg #[I t.Level, sl a11 t.Vars c12, sl a17 t.Where c18, I t.Sum]) rfl rfl (fun _ h => h) (fun _ w e => ex_ldbox rfl ti_62 ag_62 (fun h => by cases h) rfl e rfl rfl) ex28 ?_
 refine GS_lp [(7, .agg #[sl a g.Parents c]), (9, I t.Level)] rfl rfl (fun _ h => h) rfl fun ρ wx29 x30 => ?_
 have ex32 := ((((ex.ext x).ext x22).ext x26).ext x30)
 refine LP_call 0 rfl rfl rfl cal_128 rfl (impl_areasAt_w _ _ _ H wx29 r ex32) ?_
 rintro _ wx33 ⟨r31, vx35, hx36, H, rfl, x34, o, ex37, f38⟩
 obtain ⟨a39, c40, rfl⟩ := o.shape
 have ex41 := ((ex28.ext x30).ext x34)
 refine LP_gs ⟨⟨.inr ex41, .inl rfl, .inl rfl, trivial⟩, ?_⟩
 refine GS_ev ok [(10, sl a39 r31 c40)] (I (ln r31)) rfl rfl (fun _ h => h) (fun _ => rfl) ?_
 refine GS_lp [(12, sl a5 sx c6), (13, .agg #[I t.Level, sl a11 t.Vars c12, sl a17 t.Where c18, I t.Sum])] rfl rfl (fun _ h => h) rfl fun ρ wx42 x43 => ?_
 have ex45 := ((((((ex4.ext x).ext x22).ext x26).ext x30).ext x34).ext x43)
 have ex46 := ((((((ex10.ext x).ext x22).ext x26).ext x30).ext x34).ext x43)
 have ex47 := ((((((ex16.ext x).ext x22).ext x26).ext x30).ext x34).ext x43)
 refine LP_call 0 rfl rfl rfl cal_129 rfl (impl_crossed_w _ _ _ H wx42 r3 ex45 r9 ex46 r15 ex47) ?_
 rintro _ wx48 ⟨r44, vx50, hx51, H, rfl, x49, o52, ex53, f54⟩
 obtain ⟨a55, c56, rfl⟩ := o52.shape
 refine LP_gs ⟨⟨.inl rfl, .inl rfl, .inl rfl, trivial⟩, ?_⟩
 obtain ⟨r57, Hd, H⟩ := H
 refine GS_q [(14, sl a55 r44 c56)] (I r57) [hx51] [sl a55 r44 c56] rfl rfl (fun _ h => h) rfl cal_102 (fun _ => rfl) (fun w e => (impl_combinations_w _ _ Hd w o52.readf e.1).mono (fun _ _ h => by obtain ⟨_, rfl, rfl, x⟩ := h; exact ⟨rfl, x⟩)) ⟨ex53, trivial⟩ ?_
 intro wx58 x59 ρ hn
 refine AP_forget [(6, I 0), (11, I (ln r31)), (15, I r57)] (by exact hn) fun ρ => ?_
 refine AP_tail 9 [[], [], [1], [0, 1, 2], [0, 1, 2, 3], [], [], [0, 1, 2, 3, 5, 6], [0, 1, 2, 3, 5, 6, 7], [0, 1, 2, 3, 4, 5, 6, 7, 8], [0, 1, 2, 3, 4, 5, 6, 7, 8, 9]] (by kernel_rfl) ?_
 refine LP_ev ok 9 [(16, I (wr ((ln r31) * r57))), (6, I (wr ((ln r31) * r57)))] 11 rfl rfl ?_
 refine LP_end _ rfl ?_
 refine W_ret ?_
 have X60 := ((((((((X.stepx x).stepx x22).stepx x26).stepx x30).stepx x34).stepx x43).stepx x49).stepx x59)
 exact ⟨_, Ret_of [I (wr ((ln r31) * r57))] ⟨⟨rfl, rfl⟩, trivial⟩, _, H, rfl, X60.ext⟩

theorem impl_isTable_w (g : Geo) (sx : List Variable) (t : Table) (Q : Bool → Prop) (H : impl_isTable g sx t Q) (w : World) {vx : Value} {hx : PH} (r : RS hx vx g.Parents) (ex : Sub hx w) {vx1 : Value} {hx2 : PH} (r3 : RS hx2 vx1 sx) (ex4 : Sub hx2 w) {vx7 : Value} {hx8 : PH} (r9 : RS hx8 vx7 t.Vars) (ex10 : Sub hx8 w) {vx13 : Value} {hx14 : PH} (r15 : RS hx14 vx13 t.Where) (ex16 : Sub hx14 w) :
  CallsTo Tryz.prog 87 #[.agg #[vx], vx1, .agg #[I t.Level, vx7, vx13, I t.Sum]] w fun v w' => ∃ r0, Q r0 ∧ v = .bool r0 ∧ Ext w w' := by
 obtain ⟨a, c, rfl⟩ := r.shape
 obtain ⟨a5, c6, rfl⟩ := r3.shape
 obtain ⟨a11, c12, rfl⟩ := r9.shape
 obtain ⟨a17, c18, rfl⟩ := r15.shape
 refine enter (args := [.agg #[sl a g.Parents c], sl a5 sx c6, .agg #[I t.Level, sl a11 t.Vars c12, sl a17 t.Where c18, I t.Sum]]) 42 Tryz.func87 rfl rfl rfl ?_
 refine W_forget [(0, .agg #[sl a g.Parents c]), (1, sl a5 sx c6), (2, .agg #[I t.Level, sl a11 t.Vars c12, sl a17 t.Where c18, I t.Sum])] ⟨rfl, rfl, rfl, trivial⟩ fun ρ => ?_
 have X := But.refl emp w
 refine W_seq ?_
 refine W_region ?_
 refine LP_box 0 (cs := [sl a g.Parents c]) rfl rfl rfl rfl rfl fun b wx x ex19 f => ?_
 refine LP_box 1 (cs := [I t.Level, sl a11 t.Vars c12, sl a17 t.Where c18, I t.Sum]) rfl rfl rfl rfl rfl fun b20 wx21 x22 ex23 f24 => ?_
 refine LP_ev ok 2 [(6, .bool false)] 3 rfl rfl ?_
 refine LP_end _ rfl ?_
 refine W_seq ?_
 obtain ⟨k, hk, H⟩ := jn_elim H
 refine W_join2 (S := Bool) (fun s ρ' w' => k s ∧ ∃ (ρ : Env), ρ' = setAll [(1, sl a5 sx c6), (3, pb b), (5, pb b20), (31, .bool s)] ρ ∧ But emp w w' ∧ Sub hx w' ∧ Sub hx2 w' ∧ Sub hx8 w' ∧ Sub hx14 w' ∧ Sub (bx b 32 [sl a g.Parents c]) w' ∧ Sub (bx b20 62 [I t.Level, sl a11 t.Vars c12, sl a17 t.Where c18, I t.Sum]) w') ?_ ?_
 ·refine W_region ?_
  refine LP_ev ok 0 [(8, sl a5 sx c6), (9, .pointer (some ⟨b20, 1, none⟩))] 2 rfl rfl ?_
  refine LP_ldbox 2 (v := sl a11 t.Vars c12) rfl rfl rfl ti_22 ag_22 (fun _ => rfl) rfl ex23 rfl rfl ?_
  have ex35 := ((ex4.ext x).ext x22)
  have ex36 := ((ex10.ext x).ext x22)
  refine LP_call 3 rfl rfl rfl cal_126 rfl (impl_areVars_w _ _ _ H wx21 r3 ex35 r9 ex36) ?_
  rintro _ wx37 ⟨r34, H, rfl, x38⟩
  refine LP_ev ok 4 [(12, .bool (!r34)), (13, .bool (!r34))] 6 rfl rfl ?_
  refine LP_split 13 (!r34) rfl (fun hc => ?_) (fun hc => ?_)
  ·have H := H.1 hc
   refine LP_ev ok 6 [(14, undef), (15, undef), (16, undef), (17, undef), (18, undef), (19, .bool true), (20, .bool true), (21, undef), (22, undef), (23, undef), (24, .bool true), (25, .bool true), (26, undef), (27, undef), (28, undef), (29, undef), (30, undef), (31, .bool true)] 24 rfl rfl ?_
   refine LP_end _ rfl ?_
   try refine W_forget [(1, sl a5 sx c6), (3, pb b), (5, pb b20), (31, .bool true)] ⟨rfl, rfl, rfl, rfl, trivial⟩ fun ρ => ?_
   have X39 := (((X.stepx x).stepx x22).stepx x38)
   have ex40 := (((ex.ext x).ext x22).ext x38)
   have ex41 := (ex35.ext x38)
   have ex42 := (ex36.ext x38)
   have ex43 := (((ex16.ext x).ext x22).ext x38)
   have ex44 := ((ex19.ext x22).ext x38)
   have ex45 := (ex23.ext x38)
   exact ⟨true, H, _, env_eq ⟨rfl, rfl, rfl, rfl, trivial⟩, X39, ex40, ex41, ex42, ex43, ex44, ex45⟩
  have H := H.2 hc
  refine LP_ev ok 6 [(14, sl a5 sx c6), (15, .pointer (some ⟨b20, 2, none⟩))] 8 rfl rfl ?_
  have ex46 := (ex23.ext x38)
  refine LP_ldbox 8 (v := sl a17 t.Where c18) rfl rfl rfl ti_22 ag_22 (fun _ => rfl) rfl ex46 rfl rfl ?_
  have ex48 := (ex35.ext x38)
  have ex49 := (((ex16.ext x).ext x22).ext x38)
  refine LP_call 9 rfl rfl rfl cal_127 rfl (impl_isWhere_w _ _ _ H wx37 r3 ex48 r15 ex49) ?_
  rintro _ wx50 ⟨r47, H, rfl, x51⟩
  refine LP_ev ok 10 [(18, .bool (!r47)), (19, .bool (!r47)), (20, .bool (!r47))] 13 rfl rfl ?_
  refine LP_split 20 (!r47) rfl (fun hc52 => ?_) (fun hc52 => ?_)
  ·have H := H.1 hc52
   refine LP_ev ok 13 [(21, undef), (22, undef), (23, undef), (24, .bool true), (25, .bool true), (26, undef), (27, undef), (28, undef), (29, undef), (30, undef), (31, .bool true)] 24 rfl rfl ?_
   refine LP_end _ rfl ?_
   try refine W_forget [(1, sl a5 sx c6), (3, pb b), (5, pb b20), (31, .bool true)] ⟨rfl, rfl, rfl, rfl, trivial⟩ fun ρ => ?_
   have X53 := ((((X.stepx x).stepx x22).stepx x38).stepx x51)
   have ex54 := ((((ex.ext x).ext x22).ext x38).ext x51)
   have ex55 := (ex48.ext x51)
   have ex56 := ((ex36.ext x38).ext x51)
   have ex57 := (ex49.ext x51)
   have ex58 := (((ex19.ext x22).ext x38).ext x51)
   have ex59 := (ex46.ext x51)
   exact ⟨true, H, _, env_eq ⟨rfl, rfl, rfl, rfl, trivial⟩, X53, ex54, ex55, ex56, ex57, ex58, ex59⟩
  have H := H.2 hc52
  refine LP_ev ok 13 [(21, .pointer (some ⟨b20, 3, none⟩))] 14 rfl rfl ?_
  have ex60 := (ex46.ext x51)
  refine LP_ldbox 14 (v := I t.Sum) rfl rfl rfl ti_3 ag_3 (fun _ => rfl) rfl ex60 rfl rfl ?_
  refine LP_ev ok 15 [(23, .bool (decide (t.Sum < ((-1))))), (24, .bool (decide (t.Sum < ((-1))))), (25, .bool (decide (t.Sum < ((-1)))))] 18 rfl rfl ?_
  refine LP_split 25 (decide (t.Sum < ((-1)))) rfl (fun hc61 => ?_) (fun hc61 => ?_)
  ·have H := H.1 hc61
   refine LP_ev ok 18 [(26, undef), (27, undef), (28, undef), (29, undef), (30, undef), (31, .bool true)] 24 rfl rfl ?_
   refine LP_end _ rfl ?_
   try refine W_forget [(1, sl a5 sx c6), (3, pb b), (5, pb b20), (31, .bool true)] ⟨rfl, rfl, rfl, rfl, trivial⟩ fun ρ => ?_
   have X62 := ((((X.stepx x).stepx x22).stepx x38).stepx x51)
   have ex63 := ((((ex.ext x).ext x22).ext x38).ext x51)
   have ex64 := (ex48.ext x51)
   have ex65 := ((ex36.ext x38).ext x51)
   have ex66 := (ex49.ext x51)
   have ex67 := (((ex19.ext x22).ext x38).ext x51)
   exact ⟨true, H, _, env_eq ⟨rfl, rfl, rfl, rfl, trivial⟩, X62, ex63, ex64, ex65, ex66, ex67, ex60⟩
  have H := H.2 hc61
  refine LP_ev ok 18 [(26, .pointer (some ⟨b20, 3, none⟩))] 19 rfl rfl ?_
  refine LP_ldbox 19 (v := I t.Sum) rfl rfl rfl ti_3 ag_3 (fun _ => rfl) rfl ex60 rfl rfl ?_
  refine LP_ev ok 20 [(28, sl a5 sx c6), (29, I (ln sx)), (30, .bool (decide (t.Sum ≥ (ln sx)))), (31, .bool (decide (t.Sum ≥ (ln sx))))] 24 rfl rfl ?_
  refine LP_end _ rfl ?_
  try refine W_forget [(1, sl a5 sx c6), (3, pb b), (5, pb b20), (31, .bool (decide (t.Sum ≥ (ln sx))))] ⟨rfl, rfl, rfl, rfl, trivial⟩ fun ρ => ?_
  have X68 := ((((X.stepx x).stepx x22).stepx x38).stepx x51)
  have ex69 := ((((ex.ext x).ext x22).ext x38).ext x51)
  have ex70 := (ex48.ext x51)
  have ex71 := ((ex36.ext x38).ext x51)
  have ex72 := (ex49.ext x51)
  have ex73 := (((ex19.ext x22).ext x38).ext x51)
  exact ⟨decide (t.Sum ≥ (ln sx)), H, _, env_eq ⟨rfl, rfl, rfl, rfl, trivial⟩, X68, ex69, ex70, ex71, ex72, ex73, ex60⟩
 rintro x25 _ wx26 ⟨H, ρ, rfl, HF⟩
 revert HF
 refine bb7 fun X33 ex27 ex28 ex29 ex30 ex31 ex32 => ?_
 subst hk
 refine W_cond (x25) rfl (fun hc74 => ?_) (fun hc74 => ?_)
 ·have H := H.1 hc74
  refine W_seq ?_
  refine W_region ?_
  refine LP_ev ok 0 [(6, .bool false)] 1 rfl rfl ?_
  refine LP_end _ rfl ?_
  refine W_ret ?_
  exact ⟨_, Ret_of [.bool false] ⟨⟨rfl, rfl⟩, trivial⟩, _, H, rfl, X33.ext⟩
 have H := H.2 hc74
 refine W_skip ?_
 refine W_seq ?_
 refine W_region ?_
 refine LP_ldbox 0 (v := .agg #[sl a g.Parents c]) rfl rfl rfl ti_32 ag_32 (fun h => by cases h) rfl ex31 rfl rfl ?_
 refine LP_ev ok 1 [(33, sl a5 sx c6)] 2 rfl rfl ?_
 refine LP_ldbox 2 (v := .agg #[I t.Level, sl a11 t.Vars c12, sl a17 t.Where c18, I t.Sum]) rfl rfl rfl ti_62 ag_62 (fun h => by cases h) rfl ex32 rfl rfl ?_
 refine LP_call 3 rfl rfl rfl cal_88 rfl (impl_cellCount_w _ _ _ _ H wx26 r ex27 r3 ex28 r9 ex29 r15 ex30) ?_
 rintro _ wx76 ⟨r75, H, rfl, x77⟩
 refine LP_ev ok 4 [(7, I r75)] 5 rfl rfl ?_
 refine LP_end _ rfl ?_
 obtain ⟨k80, hk81, H⟩ := jn_elim H
 refine W_join2 (S := Bool) (fun s ρ' w' => k80 s ∧ ∃ (ρ : Env), ρ' = setAll [(6, .bool s)] ρ ∧ wx76 = w') ?_ ?_
 ·refine W_region ?_
  refine LP_ev ok 0 [(36, I r75), (37, .bool (decide (r75 > 0))), (38, .bool (decide (r75 > 0)))] 3 rfl rfl ?_
  refine LP_split 38 (decide (r75 > 0)) rfl (fun hc82 => ?_) (fun hc82 => ?_)
  ·have H := H.1 hc82
   refine LP_ev ok 3 [(39, I r75), (40, .bool (decide (r75 ≤ 600))), (41, .bool (decide (r75 ≤ 600))), (6, .bool (decide (r75 ≤ 600)))] 7 rfl rfl ?_
   refine LP_end _ rfl ?_
   exact ⟨decide (r75 ≤ 600), H, _, env_eq ⟨rfl, trivial⟩, rfl⟩
  have H := H.2 hc82
  refine LP_ev ok 3 [(39, undef), (40, undef), (41, .bool false), (6, .bool false)] 7 rfl rfl ?_
  refine LP_end _ rfl ?_
  exact ⟨false, H, _, env_eq ⟨rfl, trivial⟩, rfl⟩
 rintro x78 _ _ ⟨H, ρ, rfl, rfl⟩
 subst hk81
 refine W_ret ?_
 have X83 := (X33.stepx x77)
 exact ⟨_, Ret_of [.bool x78] ⟨⟨rfl, rfl⟩, trivial⟩, _, H, rfl, X83.ext⟩

theorem impl_areWithin_w (l : List Int) (lo : Int) (hi : Int) (Q : Bool → Prop) (H : impl_areWithin l lo hi Q) (w : World) {vx : Value} {hx : PH} (r : RS hx vx l) (ex : Sub hx w) :
  CallsTo Tryz.prog 82 #[vx, I lo, I hi] w fun v w' => ∃ r0, Q r0 ∧ v = .bool r0 ∧ Ext w w' := by
 obtain ⟨a, c, rfl⟩ := r.shape
 refine enter (args := [sl a l c, I lo, I hi]) 24 Tryz.func82 rfl rfl rfl ?_
 refine W_forget [(0, sl a l c), (1, I lo), (2, I hi)] ⟨rfl, rfl, rfl, trivial⟩ fun ρ => ?_
 have X := But.refl emp w
 refine W_seq ?_
 refine W_region ?_
 refine LP_ev ok 0 [(6, .bool false)] 1 rfl rfl ?_
 refine LP_end _ rfl ?_
 refine W_seq ?_
 refine W_seq ?_
 refine W_region ?_
 refine LP_ev ok 0 [(9, sl a l c), (10, I (ln l)), (11, I 0)] 3 rfl rfl ?_
 refine LP_end _ rfl ?_
 refine W_block ?_
 obtain ⟨J, m, Hx, H⟩ := H
 refine W_loop (S := Int) (fun s ρ' w' => J s ∧ ∃ (ρ : Env), ρ' = setAll [(1, I lo), (2, I hi), (9, sl a l c), (10, I (ln l)), (11, I s)] ρ ∧ w = w') (fun s => m s) 0 ⟨Hx, _, env_eq ⟨rfl, rfl, rfl, rfl, rfl, trivial⟩, rfl⟩ ?_
 rintro x _ _ ⟨Hi, ρ, rfl, rfl⟩
 have H := H x Hi
 refine W_seq ?_
 refine W_region ?_
 refine LP_ev ok 0 [(12, .bool (decide (x < (ln l))))] 1 rfl rfl ?_
 refine LP_end _ rfl ?_
 refine W_seq ?_
 refine W_cond (decide (x < (ln l))) rfl (fun hc => ?_) (fun hc => ?_)
 ·have H := H.1 hc
  refine W_skip ?_
  refine W_seq ?_
  refine W_block ?_
  refine W_seq ?_
  refine W_region ?_
  obtain ⟨x1, hi2, hx3, H⟩ := H
  refine LP_index 0 rfl rfl rfl Tryz.underlying22 ti_3 rfl rfl r hi2 hx3 fun a4 cs r5 d => ?_
  refine LP_load 1 rfl rfl rfl ti_3 ag_3 rfl r5 d ex fun vx6 r7 => ?_
  obtain rfl := r7.int
  refine LP_ev ok 2 [(8, I x1)] 3 rfl rfl ?_
  refine LP_end _ rfl ?_
  obtain ⟨k, hk, H⟩ := jn_elim H
  refine W_join2 (S := Bool) (fun s ρ' w' => k s ∧ ∃ (ρ : Env), ρ' = setAll [(1, I lo), (2, I hi), (9, sl a l c), (10, I (ln l)), (11, I x), (22, .bool s)] ρ ∧ w = w') ?_ ?_
  ·refine W_region ?_
   refine LP_ev ok 0 [(15, I x1), (16, I lo), (17, .bool (decide (x1 < lo))), (18, .bool (decide (x1 < lo)))] 4 rfl rfl ?_
   refine LP_split 18 (decide (x1 < lo)) rfl (fun hc10 => ?_) (fun hc10 => ?_)
   ·have H := H.1 hc10
    refine LP_ev ok 4 [(19, undef), (20, undef), (21, undef), (22, .bool true)] 8 rfl rfl ?_
    refine LP_end _ rfl ?_
    exact ⟨true, H, _, env_eq ⟨rfl, rfl, rfl, rfl, rfl, rfl, trivial⟩, rfl⟩
   have H := H.2 hc10
   refine LP_ev ok 4 [(19, I x1), (20, I hi), (21, .bool (decide (x1 > hi))), (22, .bool (decide (x1 > hi)))] 8 rfl rfl ?_
   refine LP_end _ rfl ?_
   exact ⟨decide (x1 > hi), H, _, env_eq ⟨rfl, rfl, rfl, rfl, rfl, rfl, trivial⟩, rfl⟩
  rintro x8 _ _ ⟨H, ρ, rfl, rfl⟩
  subst hk
  refine W_cond (x8) rfl (fun hc11 => ?_) (fun hc11 => ?_)
  ·have H := H.1 hc11
   refine W_seq ?_
   refine W_region ?_
   refine LP_ev ok 0 [(6, .bool false)] 1 rfl rfl ?_
   refine LP_end _ rfl ?_
   refine W_ret ?_
   exact ⟨_, Ret_of [.bool false] ⟨⟨rfl, rfl⟩, trivial⟩, _, H, rfl, X.ext⟩
  have H := H.2 hc11
  refine W_skip ?_
  refine W_region ?_
  refine LP_ev ok 0 [(23, I (wr (x + 1))), (11, I (wr (x + 1)))] 2 rfl rfl ?_
  refine LP_end _ rfl ?_
  exact ⟨wr (x + 1), ⟨H.1, _, env_eq ⟨rfl, rfl, rfl, rfl, rfl, trivial⟩, rfl⟩, H.2⟩
 have H := H.2 hc
 refine W_exit ?_
 refine (if_pos rfl).mpr ?_
 refine W_seq ?_
 refine W_region ?_
 refine LP_ev ok 0 [(6, .bool true)] 1 rfl rfl ?_
 refine LP_end _ rfl ?_
 refine W_ret ?_
 exact ⟨_, Ret_of [.bool true] ⟨⟨rfl, rfl⟩, trivial⟩, _, H, rfl, X.ext⟩

theorem impl_arePublished_w (g : Geo) (sx : List Variable) (pubs : List Published) (Q : Bool → Prop) (H : impl_arePublished g sx pubs Q) (w : World) {vx : Value} {hx : PH} (r : RS hx vx g.Parents) (ex : Sub hx w) {vx1 : Value} {hx2 : PH} (r3 : RS hx2 vx1 sx) (ex4 : Sub hx2 w) {vx7 : Value} {hx8 : PH} (r9 : RS hx8 vx7 pubs) (ex10 : Sub hx8 w) :
  CallsTo Tryz.prog 120 #[.agg #[vx], vx1, vx7] w fun v w' => ∃ r0, Q r0 ∧ v = .bool r0 ∧ Ext w w' := by
 obtain ⟨a, c, rfl⟩ := r.shape
 obtain ⟨a5, c6, rfl⟩ := r3.shape
 obtain ⟨a11, c12, rfl⟩ := r9.shape
 refine enter (args := [.agg #[sl a g.Parents c], sl a5 sx c6, sl a11 pubs c12]) 42 Tryz.func120 rfl rfl rfl ?_
 refine W_forget [(0, .agg #[sl a g.Parents c]), (1, sl a5 sx c6), (2, sl a11 pubs c12)] ⟨rfl, rfl, rfl, trivial⟩ fun ρ => ?_
 have X := But.refl emp w
 refine W_seq ?_
 refine W_region ?_
 refine LP_box 0 (cs := [sl a g.Parents c]) rfl rfl rfl rfl rfl fun b wx x ex13 f => ?_
 refine LP_ev ok 1 [(6, .bool false)] 2 rfl rfl ?_
 refine LP_end _ rfl ?_
 refine W_seq ?_
 refine W_seq ?_
 refine W_region ?_
 refine LP_ev ok 0 [(9, sl a11 pubs c12), (10, I (ln pubs)), (11, .bool (decide ((ln pubs) > 20)))] 3 rfl rfl ?_
 refine LP_end _ rfl ?_
 refine W_cond (decide ((ln pubs) > 20)) rfl (fun hc => ?_) (fun hc => ?_)
 ·have H := H.1 hc
  refine W_seq ?_
  refine W_region ?_
  refine LP_ev ok 0 [(6, .bool false)] 1 rfl rfl ?_
  refine LP_end _ rfl ?_
  refine W_ret ?_
  have X14 := (X.stepx x)
  exact ⟨_, Ret_of [.bool false] ⟨⟨rfl, rfl⟩, trivial⟩, _, H, rfl, X14.ext⟩
 have H := H.2 hc
 refine W_skip ?_
 refine W_seq ?_
 refine W_seq ?_
 refine W_region ?_
 refine LP_ev ok 0 [(12, sl a11 pubs c12), (13, I (ln pubs)), (14, I 0)] 3 rfl rfl ?_
 refine LP_end _ rfl ?_
 refine W_block ?_
 have X22 := (X.stepx x)
 have ex23 := (ex.ext x)
 have ex24 := (ex4.ext x)
 have ex25 := (ex10.ext x)
 obtain ⟨J, m, Hx, H⟩ := H
 refine W_loop (S := Int) (fun s ρ' w' => J s ∧ ∃ (ρ : Env), ρ' = setAll [(1, sl a5 sx c6), (3, pb b), (12, sl a11 pubs c12), (13, I (ln pubs)), (14, I s)] ρ ∧ But emp w w' ∧ Sub hx w' ∧ Sub hx2 w' ∧ Sub hx8 w' ∧ Sub (bx b 32 [sl a g.Parents c]) w') (fun s => m s) 0 ⟨Hx, _, env_eq ⟨rfl, rfl, rfl, rfl, rfl, trivial⟩, X22, ex23, ex24, ex25, ex13⟩ ?_
 rintro x15 _ wx16 ⟨Hi, ρ, rfl, HF⟩
 revert HF
 refine bb5 fun X21 ex17 ex18 ex19 ex20 => ?_
 have H := H x15 Hi
 refine W_seq ?_
 refine W_region ?_
 refine LP_ev ok 0 [(15, .bool (decide (x15 < (ln pubs))))] 1 rfl rfl ?_
 refine LP_end _ rfl ?_
 refine W_seq ?_
 refine W_cond (decide (x15 < (ln pubs))) rfl (fun hc26 => ?_) (fun hc26 => ?_)
 ·have H := H.1 hc26
  refine W_skip ?_
  refine W_seq ?_
  refine W_block ?_
  refine W_seq ?_
  refine W_region ?_
  obtain ⟨x27, hi, hx28, H⟩ := H
  refine LP_index 0 rfl rfl rfl Tryz.underlying36 ti_81 rfl rfl r9 hi hx28 fun a29 cs r30 d => ?_
  have d31 := d
  obtain ⟨u, u33, u35, rfl, r32, r34, r36⟩ := Published_rd d31
  obtain ⟨a37, c38, rfl⟩ := r32.shape
  obtain ⟨a39, c40, rfl⟩ := r34.shape
  obtain ⟨a41, c42, rfl⟩ := r36.shape
  refine LP_load 1 rfl rfl rfl ti_81 ag_81 rfl r30 d ex19 fun vx43 r44 => ?_
  obtain ⟨u45, u47, u49, rfl, r46, r48, r50⟩ := Published_rv r44
  obtain ⟨a51, c52, rfl⟩ := r46.shape
  obtain ⟨a53, c54, rfl⟩ := r48.shape
  obtain ⟨a55, c56, rfl⟩ := r50.shape
  refine LP_alloc 2 rfl rfl rfl ti_81 rfl fun b57 wx58 x59 ex60 f61 => ?_
  refine LP_stbox 3 (vs := [I x27.Table.Level, sl a51 x27.Table.Vars c52, sl a53 x27.Table.Where c54, I x27.Table.Sum, sl a55 x27.Cells c56]) (cs' := [I x27.Table.Level, sl a51 x27.Table.Vars c52, sl a53 x27.Table.Where c54, I x27.Table.Sum, sl a55 x27.Cells c56]) rfl rfl rfl ti_81 rfl rfl rfl rfl rfl ex60 rfl rfl fun wx62 ex63 y => ?_
  refine LP_end _ rfl ?_
  obtain ⟨k, hk, H⟩ := jn_elim H
  refine W_join2 (S := Bool) (fun s ρ' w' => k s ∧ ∃ (ρ : Env), ρ' = setAll [(1, sl a5 sx c6), (3, pb b), (12, sl a11 pubs c12), (13, I (ln pubs)), (14, I x15), (40, .bool s)] ρ ∧ But emp w w' ∧ Sub hx w' ∧ Sub hx2 w' ∧ Sub hx8 w' ∧ Sub (bx b 32 [sl a g.Parents c]) w') ?_ ?_
  ·refine W_quiet mix (by kernel_rfl) ?_
   have ex71 := ((ex20.ext x59).but y (Dj.of_fresh ex20 f61).symm)
   refine QP_ldbox 0 (v := .agg #[sl a g.Parents c]) rfl rfl rfl ti_32 ag_32 (fun h => by cases h) rfl ex71 rfl rfl ?_
   refine QP_ev ok 1 [(19, sl a5 sx c6), (20, pb b57)] 3 rfl rfl ?_
   refine QP_ldbox 3 (v := .agg #[I x27.Table.Level, sl a51 x27.Table.Vars c52, sl a53 x27.Table.Where c54, I x27.Table.Sum]) rfl rfl rfl ti_62 ag_62 (fun h => by cases h) rfl ex63 rfl rfl ?_
   obtain ⟨r72, Hd, H⟩ := H
   have ex75 := ((ex17.ext x59).but y (Dj.of_fresh ex17 f61).symm)
   have ex76 := ((ex18.ext x59).but y (Dj.of_fresh ex18 f61).symm)
   have ex77 := ((ex19.ext x59).but y (Dj.of_fresh ex19 f61).symm)
   refine QP_call (.bool r72) 4 rfl rfl rfl cal_87 rfl (fun wx73 x74 => (impl_isTable_w _ _ _ _ Hd wx73 r (ex75.ext x74) r3 (ex76.ext x74) r46 (ex77.ext x74) r48 (ex77.ext x74)).mono ?_) ?_
   ·rintro _ _ ⟨_, rfl, rfl, x⟩; exact ⟨rfl, x⟩
   refine QP_ev ok 5 [(23, .bool (!r72)), (24, .bool (!r72))] 7 rfl rfl ?_
   refine QP_split 24 (!r72) rfl (fun hc78 => ?_) (fun hc78 => ?_)
   ·have H := H.1 hc78
    refine QP_ev ok 7 [(25, undef), (26, undef), (27, undef), (28, undef), (29, undef), (30, undef), (31, undef), (32, undef), (33, undef), (34, .bool true), (35, .bool true), (36, undef), (37, undef), (38, undef), (39, undef), (40, .bool true)] 23 rfl rfl ?_
    refine QP_end _ rfl fun wx79 x80 => ?_
    try refine W_forget [(1, sl a5 sx c6), (3, pb b), (12, sl a11 pubs c12), (13, I (ln pubs)), (14, I x15), (40, .bool true)] ⟨rfl, rfl, rfl, rfl, rfl, rfl, trivial⟩ fun ρ => ?_
    have f81 := f61.mono X21.size
    have X82 := (((X21.stepx x59).step y (f81.dom _)).stepx x80)
    have ex83 := (ex75.ext x80)
    have ex84 := (ex76.ext x80)
    have ex85 := (ex77.ext x80)
    have ex86 := (ex71.ext x80)
    exact ⟨true, H, _, env_eq ⟨rfl, rfl, rfl, rfl, rfl, rfl, trivial⟩, X82, ex83, ex84, ex85, ex86⟩
   have H := H.2 hc78
   refine QP_ev ok 7 [(25, .pointer (some ⟨b57, 4, none⟩))] 8 rfl rfl ?_
   refine QP_ldbox 8 (v := sl a55 x27.Cells c56) rfl rfl rfl ti_22 ag_22 (fun _ => rfl) rfl ex63 rfl rfl ?_
   refine QP_ev ok 9 [(27, I (ln x27.Cells))] 10 rfl rfl ?_
   refine QP_ldbox 10 (v := .agg #[sl a g.Parents c]) rfl rfl rfl ti_32 ag_32 (fun h => by cases h) rfl ex71 rfl rfl ?_
   refine QP_ev ok 11 [(29, sl a5 sx c6), (30, pb b57)] 13 rfl rfl ?_
   refine QP_ldbox 13 (v := .agg #[I x27.Table.Level, sl a51 x27.Table.Vars c52, sl a53 x27.Table.Where c54, I x27.Table.Sum]) rfl rfl rfl ti_62 ag_62 (fun h => by cases h) rfl ex63 rfl rfl ?_
   obtain ⟨r87, Hd88, H⟩ := H
   refine QP_call (I r87) 14 rfl rfl rfl cal_88 rfl (fun wx89 x90 => (impl_cellCount_w _ _ _ _ Hd88 wx89 r (ex75.ext x90) r3 (ex76.ext x90) r46 (ex77.ext x90) r48 (ex77.ext x90)).mono ?_) ?_
   ·rintro _ _ ⟨_, rfl, rfl, x⟩; exact ⟨rfl, x⟩
   refine QP_ev ok 15 [(33, .bool ((ln x27.Cells) != r87)), (34, .bool ((ln x27.Cells) != r87)), (35, .bool ((ln x27.Cells) != r87))] 18 rfl rfl ?_
   refine QP_split 35 ((ln x27.Cells) != r87) rfl (fun hc91 => ?_) (fun hc91 => ?_)
   ·have H := H.1 hc91
    refine QP_ev ok 18 [(36, undef), (37, undef), (38, undef), (39, undef), (40, .bool true)] 23 rfl rfl ?_
    refine QP_end _ rfl fun wx92 x93 => ?_
    try refine W_forget [(1, sl a5 sx c6), (3, pb b), (12, sl a11 pubs c12), (13, I (ln pubs)), (14, I x15), (25, .pointer (some ⟨b57, 4, none⟩)), (26, sl a55 x27.Cells c56), (27, I (ln x27.Cells)), (28, .agg #[sl a g.Parents c]), (29, sl a5 sx c6), (30, pb b57), (31, .agg #[I x27.Table.Level, sl a51 x27.Table.Vars c52, sl a53 x27.Table.Where c54, I x27.Table.Sum]), (32, I r87), (33, .bool ((ln x27.Cells) != r87)), (40, .bool true)] ⟨rfl, rfl, rfl, rfl, rfl, rfl, rfl, rfl, rfl, rfl, rfl, rfl, rfl, rfl, rfl, trivial⟩ fun ρ => ?_
    have f94 := f61.mono X21.size
    have X95 := (((X21.stepx x59).step y (f94.dom _)).stepx x93)
    have ex96 := (ex75.ext x93)
    have ex97 := (ex76.ext x93)
    have ex98 := (ex77.ext x93)
    have ex99 := (ex71.ext x93)
    exact ⟨true, H, _, env_eq ⟨rfl, rfl, rfl, rfl, rfl, rfl, trivial⟩, X95, ex96, ex97, ex98, ex99⟩
   have H := H.2 hc91
   refine QP_ev ok 18 [(36, .pointer (some ⟨b57, 4, none⟩))] 19 rfl rfl ?_
   refine QP_ldbox 19 (v := sl a55 x27.Cells c56) rfl rfl rfl ti_22 ag_22 (fun _ => rfl) rfl ex63 rfl rfl ?_
   obtain ⟨r100, Hd101, H⟩ := H
   refine QP_call (.bool r100) 20 rfl rfl rfl cal_82 rfl (fun wx102 x103 => (impl_areWithin_w _ _ _ _ Hd101 wx102 r50 (ex77.ext x103)).mono ?_) ?_
   ·rintro _ _ ⟨_, rfl, rfl, x⟩; exact ⟨rfl, x⟩
   refine QP_ev ok 21 [(39, .bool (!r100)), (40, .bool (!r100))] 23 rfl rfl ?_
   refine QP_end _ rfl fun wx104 x105 => ?_
   try refine W_forget [(1, sl a5 sx c6), (3, pb b), (12, sl a11 pubs c12), (13, I (ln pubs)), (14, I x15), (25, .pointer (some ⟨b57, 4, none⟩)), (26, sl a55 x27.Cells c56), (27, I (ln x27.Cells)), (28, .agg #[sl a g.Parents c]), (29, sl a5 sx c6), (30, pb b57), (31, .agg #[I x27.Table.Level, sl a51 x27.Table.Vars c52, sl a53 x27.Table.Where c54, I x27.Table.Sum]), (32, I r87), (33, .bool ((ln x27.Cells) != r87)), (36, .pointer (some ⟨b57, 4, none⟩)), (37, sl a55 x27.Cells c56), (38, .bool r100), (39, .bool (!r100)), (40, .bool (!r100))] ⟨rfl, rfl, rfl, rfl, rfl, rfl, rfl, rfl, rfl, rfl, rfl, rfl, rfl, rfl, rfl, rfl, rfl, rfl, rfl, trivial⟩ fun ρ => ?_
   have f106 := f61.mono X21.size
   have X107 := (((X21.stepx x59).step y (f106.dom _)).stepx x105)
   have ex108 := (ex75.ext x105)
   have ex109 := (ex76.ext x105)
   have ex110 := (ex77.ext x105)
   have ex111 := (ex71.ext x105)
   exact ⟨!r100, H, _, env_eq ⟨rfl, rfl, rfl, rfl, rfl, rfl, trivial⟩, X107, ex108, ex109, ex110, ex111⟩
  rintro x64 _ wx65 ⟨H, ρ, rfl, HF⟩
  revert HF
  refine bb5 fun X70 ex66 ex67 ex68 ex69 => ?_
  subst hk
  refine W_cond (x64) rfl (fun hc112 => ?_) (fun hc112 => ?_)
  ·have H := H.1 hc112
   refine W_seq ?_
   refine W_region ?_
   refine LP_ev ok 0 [(6, .bool false)] 1 rfl rfl ?_
   refine LP_end _ rfl ?_
   refine W_ret ?_
   exact ⟨_, Ret_of [.bool false] ⟨⟨rfl, rfl⟩, trivial⟩, _, H, rfl, X70.ext⟩
  have H := H.2 hc112
  refine W_skip ?_
  refine W_region ?_
  refine LP_ev ok 0 [(41, I (wr (x15 + 1))), (14, I (wr (x15 + 1)))] 2 rfl rfl ?_
  refine LP_end _ rfl ?_
  exact ⟨wr (x15 + 1), ⟨H.1, _, env_eq ⟨rfl, rfl, rfl, rfl, rfl, trivial⟩, X70, ex66, ex67, ex68, ex69⟩, H.2⟩
 have H := H.2 hc26
 refine W_exit ?_
 refine (if_pos rfl).mpr ?_
 refine W_seq ?_
 refine W_region ?_
 refine LP_ev ok 0 [(6, .bool true)] 1 rfl rfl ?_
 refine LP_end _ rfl ?_
 refine W_ret ?_
 exact ⟨_, Ret_of [.bool true] ⟨⟨rfl, rfl⟩, trivial⟩, _, H, rfl, X21.ext⟩

theorem impl_areAttacked_w (g : Geo) (sx : List Variable) (pubs : List Published) (Q : Bool → Prop) (H : impl_areAttacked g sx pubs Q) (w : World) {vx : Value} {hx : PH} (r : RS hx vx g.Parents) (ex : Sub hx w) {vx1 : Value} {hx2 : PH} (r3 : RS hx2 vx1 sx) (ex4 : Sub hx2 w) {vx7 : Value} {hx8 : PH} (r9 : RS hx8 vx7 pubs) (ex10 : Sub hx8 w) :
  CallsTo Tryz.prog 63 #[.agg #[vx], vx1, vx7] w fun v w' => ∃ r0, Q r0 ∧ v = .bool r0 ∧ Ext w w' := by
 obtain ⟨a, c, rfl⟩ := r.shape
 obtain ⟨a5, c6, rfl⟩ := r3.shape
 obtain ⟨a11, c12, rfl⟩ := r9.shape
 refine enter (args := [.agg #[sl a g.Parents c], sl a5 sx c6, sl a11 pubs c12]) 16 Tryz.func63 rfl rfl rfl ?_
 refine W_forget [(0, .agg #[sl a g.Parents c]), (1, sl a5 sx c6), (2, sl a11 pubs c12)] ⟨rfl, rfl, rfl, trivial⟩ fun ρ => ?_
 have X := But.refl emp w
 refine W_seq ?_
 refine W_region ?_
 refine LP_box 0 (cs := [sl a g.Parents c]) rfl rfl rfl rfl rfl fun b wx x ex13 f => ?_
 refine LP_ev ok 1 [(6, .bool false)] 2 rfl rfl ?_
 refine LP_end _ rfl ?_
 obtain ⟨k, hk, H⟩ := jn_elim H
 refine W_join2 (S := Bool) (fun s ρ' w' => k s ∧ ∃ (ρ : Env), ρ' = setAll [(6, .bool s)] ρ ∧ But emp w w') ?_ ?_
 ·refine W_region ?_
  refine LP_ldbox 0 (v := .agg #[sl a g.Parents c]) rfl rfl rfl ti_32 ag_32 (fun h => by cases h) rfl ex13 rfl rfl ?_
  refine LP_ev ok 1 [(8, sl a5 sx c6)] 2 rfl rfl ?_
  have ex18 := (ex.ext x)
  have ex19 := (ex4.ext x)
  refine LP_call 2 rfl rfl rfl cal_99 rfl (impl_areTyped_w _ _ _ H wx r ex18 r3 ex19) ?_
  rintro _ wx20 ⟨r17, H, rfl, x21⟩
  refine LP_ev ok 3 [(10, .bool r17)] 4 rfl rfl ?_
  refine LP_split 10 (r17) rfl (fun hc => ?_) (fun hc => ?_)
  ·have H := H.1 hc
   have ex22 := (ex13.ext x21)
   refine LP_ldbox 4 (v := .agg #[sl a g.Parents c]) rfl rfl rfl ti_32 ag_32 (fun h => by cases h) rfl ex22 rfl rfl ?_
   refine LP_ev ok 5 [(12, sl a5 sx c6), (13, sl a11 pubs c12)] 7 rfl rfl ?_
   have ex24 := (ex18.ext x21)
   have ex25 := (ex19.ext x21)
   have ex26 := ((ex10.ext x).ext x21)
   refine LP_call 7 rfl rfl rfl cal_120 rfl (impl_arePublished_w _ _ _ _ H wx20 r ex24 r3 ex25 r9 ex26) ?_
   rintro _ wx27 ⟨r23, H, rfl, x28⟩
   refine LP_ev ok 8 [(15, .bool r23), (6, .bool r23)] 10 rfl rfl ?_
   refine LP_end _ rfl ?_
   have X29 := (((X.stepx x).stepx x21).stepx x28)
   exact ⟨r23, H, _, env_eq ⟨rfl, trivial⟩, X29⟩
  have H := H.2 hc
  refine LP_ev ok 4 [(11, undef), (12, undef), (13, undef), (14, undef), (15, .bool false), (6, .bool false)] 10 rfl rfl ?_
  refine LP_end _ rfl ?_
  have X30 := ((X.stepx x).stepx x21)
  exact ⟨false, H, _, env_eq ⟨rfl, trivial⟩, X30⟩
 rintro x14 _ wx15 ⟨H, ρ, rfl, X16⟩
 subst hk
 refine W_ret ?_
 exact ⟨_, Ret_of [.bool x14] ⟨⟨rfl, rfl⟩, trivial⟩, _, H, rfl, X16.ext⟩

theorem impl_isPersons_w (n : Int) (Q : Bool → Prop) (H : impl_isPersons n Q) (w : World)  :
  CallsTo Tryz.prog 64 #[I n] w fun v w' => ∃ r0, Q r0 ∧ v = .bool r0 ∧ Ext w w' := by
 refine enter (args := [I n]) 9 Tryz.func64 rfl rfl rfl ?_
 refine W_forget [(0, I n)] ⟨rfl, trivial⟩ fun ρ => ?_
 have X := But.refl emp w
 refine W_seq ?_
 refine W_region ?_
 refine LP_ev ok 0 [(2, .bool false)] 1 rfl rfl ?_
 refine LP_end _ rfl ?_
 obtain ⟨k, hk, H⟩ := jn_elim H
 refine W_join2 (S := Bool) (fun s ρ' w' => k s ∧ ∃ (ρ : Env), ρ' = setAll [(2, .bool s)] ρ ∧ w = w') ?_ ?_
 ·refine W_region ?_
  refine LP_ev ok 0 [(3, I n), (4, .bool (decide (n ≥ 0))), (5, .bool (decide (n ≥ 0)))] 3 rfl rfl ?_
  refine LP_split 5 (decide (n ≥ 0)) rfl (fun hc => ?_) (fun hc => ?_)
  ·have H := H.1 hc
   refine LP_ev ok 3 [(6, I n), (7, .bool (decide (n ≤ 8))), (8, .bool (decide (n ≤ 8))), (2, .bool (decide (n ≤ 8)))] 7 rfl rfl ?_
   refine LP_end _ rfl ?_
   exact ⟨decide (n ≤ 8), H, _, env_eq ⟨rfl, trivial⟩, rfl⟩
  have H := H.2 hc
  refine LP_ev ok 3 [(6, undef), (7, undef), (8, .bool false), (2, .bool false)] 7 rfl rfl ?_
  refine LP_end _ rfl ?_
  exact ⟨false, H, _, env_eq ⟨rfl, trivial⟩, rfl⟩
 rintro x _ _ ⟨H, ρ, rfl, rfl⟩
 subst hk
 refine W_ret ?_
 exact ⟨_, Ret_of [.bool x] ⟨⟨rfl, rfl⟩, trivial⟩, _, H, rfl, X.ext⟩

theorem impl_valuesAt_w (sx : List Variable) (i : Int) (Q : (List Int) → Prop) (H : impl_valuesAt sx i Q) (w : World) {vx : Value} {hx : PH} (r : RS hx vx sx) (ex : Sub hx w) :
  CallsTo Tryz.prog 133 #[vx, I i] w fun v w' => ∃ r0 u0 g0, Q r0 ∧ v = u0 ∧ Ext w w' ∧ OS 3 g0 emp u0 r0 ∧ Sub g0 w' ∧ Fresh w.heap.size g0 := by
 obtain ⟨a, c, rfl⟩ := r.shape
 refine enter (args := [sl a sx c, I i]) 35 Tryz.func133 rfl rfl rfl ?_
 refine W_forget [(0, sl a sx c), (1, I i)] ⟨rfl, rfl, trivial⟩ fun ρ => ?_
 have X := But.refl emp w
 refine W_seq ?_
 refine W_region ?_
 refine LP_ev ok 0 [(4, .slice none 0 0)] 1 rfl rfl ?_
 refine LP_end _ rfl ?_
 refine W_seq ?_
 refine W_region ?_
 refine LP_ev ok 0 [(7, sl a sx c), (8, I (ln sx))] 2 rfl rfl ?_
 obtain ⟨hn, hb, H⟩ := H
 refine LP_make (α := Int) 2 rfl rfl rfl Tryz.underlying22 ti_3 (x0 := (0 : Int)) rfl rfl hn (by first | omega | (simp only [ln] at *; omega)) (by first | omega | (simp only [ln] at *; omega)) fun hx1 vx2 wx x o ex3 f => ?_
 obtain ⟨a4, c5, rfl⟩ := o.shape
 refine LP_ev ok 3 [(5, .slice a4 (List.length (List.replicate (Int.toNat (ln sx)) ((0 : Int)))) c5)] 4 rfl rfl ?_
 refine LP_end _ rfl ?_
 refine W_seq ?_
 refine W_seq ?_
 refine W_region ?_
 refine LP_ev ok 0 [(10, sl a sx c), (11, I (ln sx)), (12, I (wr ((ln sx) - 1))), (6, I (wr ((ln sx) - 1)))] 4 rfl rfl ?_
 refine LP_end _ rfl ?_
 refine W_block ?_
 have X15 := (X.stepx x)
 have f16 := f.mono X.size
 have ex17 := (ex.ext x)
 obtain ⟨J, m, Hx, H⟩ := H
 refine W_loop (S := Int × (List Int) × Int) (fun s ρ' w' => J s.1 s.2.1 s.2.2 ∧ ∃ (ρ : Env) (hx8 : PH), ρ' = setAll [(0, sl a sx c), (1, I s.1), (5, .slice a4 (List.length (List.replicate (Int.toNat (ln sx)) ((0 : Int)))) c5), (6, I s.2.2)] ρ ∧ But emp w w' ∧ OS 3 hx8 emp (.slice a4 (List.length (List.replicate (Int.toNat (ln sx)) ((0 : Int)))) c5) s.2.1 ∧ Sub hx8 w' ∧ Fresh w.heap.size hx8 ∧ Sub hx w' ∧ Dj hx8 hx) (fun s => m s.1 s.2.1 s.2.2) (i, List.replicate (Int.toNat (ln sx)) ((0 : Int)), wr ((ln sx) - 1)) ⟨Hx, _, hx1, env_eq ⟨rfl, rfl, rfl, rfl, trivial⟩, X15, o, ex3, f16, ex17, (Dj.of_fresh ex f).symm⟩ ?_
 rintro ⟨i6, values, k⟩ _ wx12 ⟨Hi, ρ, hx8, rfl, HF⟩
 revert HF
 refine bb6 fun X14 o9 ex10 f11 ex13 d => ?_
 have H := H i6 values k Hi
 refine W_seq ?_
 refine W_seq ?_
 refine W_region ?_
 refine LP_ev ok 0 [(13, I k), (14, .bool (decide (k ≥ 0)))] 2 rfl rfl ?_
 refine LP_end _ rfl ?_
 refine W_cond (decide (k ≥ 0)) rfl (fun hc => ?_) (fun hc => ?_)
 ·have H := H.1 hc
  refine W_skip ?_
  refine W_seq ?_
  refine W_block ?_
  refine W_seq ?_
  refine W_region ?_
  refine LP_ev ok 0 [(17, .slice a4 (List.length (List.replicate (Int.toNat (ln sx)) ((0 : Int)))) c5), (18, I k), (19, I i6), (20, sl a sx c), (21, I k)] 5 rfl rfl ?_
  obtain ⟨x18, hi, hx19, H⟩ := H
  refine LP_index 5 rfl rfl rfl Tryz.underlying34 ti_98 rfl rfl r hi hx19 fun a20 cs r21 d22 => ?_
  refine LP_ev ok 6 [(23, .pointer (some (Addr.add a20 1)))] 7 rfl rfl ?_
  refine LP_ldfld (x := x18) (off := 1) 7 (v := I x18.Levels) rfl rfl rfl ti_3 ag_3 (fun _ => rfl) rfl r21 d22 ex13 rfl rfl ?_
  obtain ⟨hz, H⟩ := H
  refine LP_val 8 _ rfl rfl (ex_rem rfl rfl rfl hz _) ?_
  obtain ⟨hi23, hl, H⟩ := H
  refine LP_indexw (v := .slice a4 (List.length (List.replicate (Int.toNat (ln sx)) ((0 : Int)))) c5) 9 rfl rfl rfl Tryz.underlying22 ti_3 rfl rfl o9 hi23 hl fun a24 wa => ?_
  refine LP_set 10 rfl rfl rfl rfl rfl wa (Le.refl emp) ⟨_, rfl, rfl⟩ ex10 fun hx25 wx26 o27 ex28 y dm => ?_
  refine LP_end _ rfl ?_
  refine W_region ?_
  refine LP_ev ok 0 [(27, I i6), (28, sl a sx c), (29, I k)] 3 rfl rfl ?_
  obtain ⟨x29, hi30, hx31, H⟩ := H
  refine LP_index 3 rfl rfl rfl Tryz.underlying34 ti_98 rfl rfl r hi30 hx31 fun a32 cs33 r34 d35 => ?_
  refine LP_ev ok 4 [(31, .pointer (some (Addr.add a32 1)))] 5 rfl rfl ?_
  have ex36 := (ex13.but y d)
  refine LP_ldfld (x := x29) (off := 1) 5 (v := I x29.Levels) rfl rfl rfl ti_3 ag_3 (fun _ => rfl) rfl r34 d35 ex36 rfl rfl ?_
  obtain ⟨hz37, H⟩ := H
  refine LP_val 6 _ rfl rfl (ex_quo rfl rfl rfl hz37 _) ?_
  refine LP_ev ok 7 [(1, I (wr (Int.tdiv i6 x29.Levels)))] 8 rfl rfl ?_
  refine LP_end _ rfl ?_
  refine W_region ?_
  refine LP_ev ok 0 [(15, I k), (16, I (wr (k - 1))), (6, I (wr (k - 1)))] 3 rfl rfl ?_
  refine LP_end _ rfl ?_
  have X38 := (X14.step y (f11.dom _))
  have f39 := (dm _).fresh f11 X14.size
  exact ⟨(wr (Int.tdiv i6 x29.Levels), List.set values (Int.toNat k) (Int.tmod i6 x18.Levels), wr (k - 1)), ⟨H.1, _, hx25, env_eq ⟨rfl, rfl, rfl, rfl, trivial⟩, X38, o27, ex28, f39, ex36, (DomLe.dj (dm _) d ex13)⟩, H.2⟩
 have H := H.2 hc
 refine W_exit ?_
 refine (if_pos rfl).mpr ?_
 refine W_seq ?_
 refine W_region ?_
 refine LP_ev ok 0 [(34, .slice a4 (List.length (List.replicate (Int.toNat (ln sx)) ((0 : Int)))) c5), (4, .slice a4 (List.length (List.replicate (Int.toNat (ln sx)) ((0 : Int)))) c5)] 2 rfl rfl ?_
 refine LP_end _ rfl ?_
 refine W_ret ?_
 exact ⟨_, Ret_of [.slice a4 (List.length (List.replicate (Int.toNat (ln sx)) ((0 : Int)))) c5] ⟨⟨rfl, rfl⟩, trivial⟩, _, _, _, H, rfl, X14.ext, o9, ex10, f11⟩

theorem impl_typeAt_w (g : Geo) (sx : List Variable) (i : Int) (Q : Record → Prop) (H : impl_typeAt g sx i Q) (w : World) {vx : Value} {hx : PH} (r : RS hx vx g.Parents) (ex : Sub hx w) {vx1 : Value} {hx2 : PH} (r3 : RS hx2 vx1 sx) (ex4 : Sub hx2 w) :
  CallsTo Tryz.prog 90 #[.agg #[vx], vx1, I i] w fun v w' => ∃ r0 u0_2 g0_2, Q r0 ∧ v = .agg #[I r0.Area, I r0.House, u0_2] ∧ Ext w w' ∧ OS 3 g0_2 emp u0_2 r0.Values ∧ Sub g0_2 w' ∧ Fresh w.heap.size g0_2 := by
 obtain ⟨a, c, rfl⟩ := r.shape
 obtain ⟨a5, c6, rfl⟩ := r3.shape
 refine enter (args := [.agg #[sl a g.Parents c], sl a5 sx c6, I i]) 23 Tryz.func90 rfl rfl rfl ?_
 refine W_forget [(0, .agg #[sl a g.Parents c]), (1, sl a5 sx c6), (2, I i)] ⟨rfl, rfl, rfl, trivial⟩ fun ρ => ?_
 have X := But.refl emp w
 refine W_seq ?_
 refine W_region ?_
 refine LP_box 0 (cs := [sl a g.Parents c]) rfl rfl rfl rfl rfl fun b wx x ex7 f => ?_
 refine LP_alloc 1 rfl rfl rfl ti_73 rfl fun b8 wx9 x10 ex11 f12 => ?_
 refine LP_end _ rfl ?_
 refine W_seq ?_
 refine W_region ?_
 refine LP_ev ok 0 [(8, sl a5 sx c6)] 1 rfl rfl ?_
 have ex14 := ((ex4.ext x).ext x10)
 refine LP_call 1 rfl rfl rfl cal_102 rfl (impl_combinations_w _ _ H wx9 r3 ex14) ?_
 rintro _ wx15 ⟨r13, H, rfl, x16⟩
 refine LP_ev ok 2 [(7, I r13)] 3 rfl rfl ?_
 refine LP_end _ rfl ?_
 refine W_seq ?_
 refine W_open mix fun wx17 x18 => ?_
 refine AP_game 12 [[], [0], [], [], [2, 3], [0, 1, 2, 3, 4], [0, 1, 2, 3, 4, 5], [], [], [], [8, 9], [0, 1, 7, 8, 9, 10], [0, 1, 2, 3, 4, 5, 6, 7, 8, 9, 10, 11], [0, 1, 2, 3, 4, 5, 6, 7, 8, 9, 10, 11, 12]] [[(3, none)], [(10, some 0)], [(2, none)], [(7, none)], [(12, some 2), (13, some 3)], [(11, some 1), (14, some 4)], [(15, some 5)], [(1, none)], [(2, none)], [(7, none)], [(18, some 8), (19, some 9)], [(17, some 7), (20, some 10)]] [(6, none), (16, some 6), (21, some 11)] [(0, false), (2, false), (3, false), (4, false), (7, false), (8, false), (9, false), (10, false), (1, true), (5, false), (6, false), (11, true)] (by kernel_rfl) (by kernel_rfl) ?_
 have ex19 := (((ex7.ext x10).ext x16).ext x18)
 refine GS_r1 [(3, pb b)] (.agg #[sl a g.Parents c]) rfl rfl (fun _ h => h) (fun _ w e => ex_ldbox rfl ti_32 ag_32 (fun h => by cases h) rfl e rfl rfl) ex19 ?_
 refine GS_ev ok [(2, I i)] (I i) rfl rfl (fun _ h => h) (fun _ => rfl) ?_
 refine GS_ev ok [(7, I r13)] (I r13) rfl rfl (fun _ h => h) (fun _ => rfl) ?_
 obtain ⟨hz, H⟩ := H
 refine GS_r0 [(12, I i), (13, I r13)] (I (wr (Int.tdiv i r13))) rfl rfl (fun _ h => h) (fun _ _ => ex_quo rfl rfl rfl hz _) ?_
 refine GS_ev ok [(1, sl a5 sx c6)] (sl a5 sx c6) rfl rfl (fun _ h => h) (fun _ => rfl) ?_
 refine GS_ev ok [(2, I i)] (I i) rfl rfl (fun _ h => h) (fun _ => rfl) ?_
 refine GS_ev ok [(7, I r13)] (I r13) rfl rfl (fun _ h => h) (fun _ => rfl) ?_
 obtain ⟨hz20, H⟩ := H
 refine GS_r0 [(18, I i), (19, I r13)] (I (Int.tmod i r13)) rfl rfl (fun _ h => h) (fun _ _ => ex_rem rfl rfl rfl hz20 _) ?_
 refine GS_lp [(10, .agg #[sl a g.Parents c])] rfl rfl (fun _ h => h) rfl fun ρ wx21 x22 => ?_
 have ex24 := (((((ex.ext x).ext x10).ext x16).ext x18).ext x22)
 refine LP_call 0 rfl rfl rfl cal_103 rfl (impl_leavesOf_w _ _ H wx21 r ex24) ?_
 rintro _ wx25 ⟨r23, vx27, hx28, H, rfl, x26, o, ex29, f30⟩
 obtain ⟨a31, c32, rfl⟩ := o.shape
 refine LP_gs ⟨⟨.inl rfl, trivial⟩, ?_⟩
 obtain ⟨x33, hi, hx34, H⟩ := H
 obtain ⟨a35, cs, hx37, r36, d⟩ := run_indexAt Tryz.underlying22 ti_3 o.readf .i64 _ x33 hi hx34
 refine GS_r0 [(11, sl a31 r23 c32), (14, I (wr (Int.tdiv i r13)))] (.pointer (some a35)) rfl rfl (fun _ h => h) (fun _ _ => ex_index rfl rfl rfl (hx37 _)) ?_
 obtain ⟨vx38, hx40, r39⟩ := run_loadAt ti_3 ag_3 r36 d
 obtain rfl := r39.int
 refine GS_r1 [(15, .pointer (some a35))] (I x33) rfl rfl (fun _ h => h) (fun _ w e => ex_load rfl rfl (hx40 w e)) ex29 ?_
 refine GS_lp [(17, sl a5 sx c6), (20, I (Int.tmod i r13))] rfl rfl (fun _ h => h) rfl fun ρ wx41 x42 => ?_
 have ex44 := (((((ex14.ext x16).ext x18).ext x22).ext x26).ext x42)
 refine LP_call 0 rfl rfl rfl cal_133 rfl (impl_valuesAt_w _ _ _ H wx41 r3 ex44) ?_
 rintro _ wx45 ⟨r43, vx47, hx48, H, rfl, x46, o49, ex50, f51⟩
 obtain ⟨a52, c53, rfl⟩ := o49.shape
 have ex54 := ((ex29.ext x42).ext x46)
 refine LP_gs ⟨⟨.inr ex54, .inl rfl, trivial⟩, ?_⟩
 intro wx55 x56 ρ hn
 refine AP_forget [(6, pb b8), (16, I x33), (21, sl a52 r43 c53)] (by exact hn) fun ρ => ?_
 refine AP_tail 12 [[], [0], [], [], [2, 3], [0, 1, 2, 3, 4], [0, 1, 2, 3, 4, 5], [], [], [], [8, 9], [0, 1, 7, 8, 9, 10], [0, 1, 2, 3, 4, 5, 6, 7, 8, 9, 10, 11], [0, 1, 2, 3, 4, 5, 6, 7, 8, 9, 10, 11, 12]] (by kernel_rfl) ?_
 refine LP_ev ok 12 [(22, .agg #[I x33, I 0, sl a52 r43 c53])] 13 rfl rfl ?_
 have ex59 := (((((((ex11.ext x16).ext x18).ext x22).ext x26).ext x42).ext x46).ext x56)
 refine LP_stbox 13 (vs := [I x33, I 0, sl a52 r43 c53]) (cs' := [I x33, I 0, sl a52 r43 c53]) rfl rfl rfl ti_73 rfl rfl rfl rfl rfl ex59 rfl rfl fun wx57 ex58 y => ?_
 refine LP_end _ rfl ?_
 refine W_ret ?_
 have ex60 := (((((ex11.ext x16).ext x18).ext x22).ext x26).ext x42)
 have ex61 := ((ex50.ext x56).but y (Dj.of_fresh ex60 f51))
 have X63 := (((((((X.stepx x).stepx x10).stepx x16).stepx x18).stepx x22).stepx x26).stepx x42)
 have f62 := f51.mono X63.size
 have X65 := (X.stepx x)
 have f64 := f12.mono X65.size
 have X66 := (((X63.stepx x46).stepx x56).step y (f64.dom _))
 exact ⟨_, Ret_of [.agg #[I x33, I 0, sl a52 r43 c53]] ⟨⟨_, rfl, rfl, ld_res ti_73 ag_73 (fun h => by cases h) ex58 rfl rfl⟩, trivial⟩, _, _, _, H, rfl, X66.ext, o49, ex61, f62⟩

theorem impl_ancestorAt_w (g : Geo) (i : Int) (level : Int) (Q : Int → Prop) (H : impl_ancestorAt g i level Q) (w : World) {vx : Value} {hx : PH} (r : RS hx vx g.Parents) (ex : Sub hx w) :
  CallsTo Tryz.prog 130 #[.agg #[vx], I i, I level] w fun v w' => ∃ r0, Q r0 ∧ v = I r0 ∧ Ext w w' := by
 obtain ⟨a, c, rfl⟩ := r.shape
 refine enter (args := [.agg #[sl a g.Parents c], I i, I level]) 29 Tryz.func130 rfl rfl rfl ?_
 refine W_forget [(0, .agg #[sl a g.Parents c]), (1, I i), (2, I level)] ⟨rfl, rfl, rfl, trivial⟩ fun ρ => ?_
 have X := But.refl emp w
 refine W_seq ?_
 refine W_region ?_
 refine LP_box 0 (cs := [sl a g.Parents c]) rfl rfl rfl rfl rfl fun b wx x ex1 f => ?_
 refine LP_ev ok 1 [(6, I 0)] 2 rfl rfl ?_
 refine LP_end _ rfl ?_
 refine W_seq ?_
 refine W_region ?_
 refine LP_ldbox 0 (v := .agg #[sl a g.Parents c]) rfl rfl rfl ti_32 ag_32 (fun h => by cases h) rfl ex1 rfl rfl ?_
 refine LP_ev ok 1 [(9, I i)] 2 rfl rfl ?_
 have ex3 := (ex.ext x)
 refine LP_call 2 rfl rfl rfl cal_166 rfl (impl_depthOf_w _ _ _ H wx r ex3) ?_
 rintro _ wx4 ⟨r2, H, rfl, x5⟩
 refine LP_ev ok 3 [(7, I r2)] 4 rfl rfl ?_
 refine LP_end _ rfl ?_
 refine W_seq ?_
 obtain ⟨k, hk, H⟩ := jn_elim H
 refine W_join2 (S := Bool) (fun s ρ' w' => k s ∧ ∃ (ρ : Env), ρ' = setAll [(1, I i), (2, I level), (3, pb b), (7, I r2), (17, .bool s)] ρ ∧ wx4 = w') ?_ ?_
 ·refine W_region ?_
  refine LP_ev ok 0 [(11, I level), (12, .bool (decide (level < 0))), (13, .bool (decide (level < 0)))] 3 rfl rfl ?_
  refine LP_split 13 (decide (level < 0)) rfl (fun hc => ?_) (fun hc => ?_)
  ·have H := H.1 hc
   refine LP_ev ok 3 [(14, undef), (15, undef), (16, undef), (17, .bool true)] 7 rfl rfl ?_
   refine LP_end _ rfl ?_
   exact ⟨true, H, _, env_eq ⟨rfl, rfl, rfl, rfl, rfl, trivial⟩, rfl⟩
  have H := H.2 hc
  refine LP_ev ok 3 [(14, I r2), (15, I level), (16, .bool (decide (r2 < level))), (17, .bool (decide (r2 < level)))] 7 rfl rfl ?_
  refine LP_end _ rfl ?_
  exact ⟨decide (r2 < level), H, _, env_eq ⟨rfl, rfl, rfl, rfl, rfl, trivial⟩, rfl⟩
 rintro x6 _ _ ⟨H, ρ, rfl, rfl⟩
 subst hk
 refine W_cond (x6) rfl (fun hc8 => ?_) (fun hc8 => ?_)
 ·have H := H.1 hc8
  refine W_seq ?_
  refine W_region ?_
  refine LP_ev ok 0 [(6, I ((-1)))] 1 rfl rfl ?_
  refine LP_end _ rfl ?_
  refine W_ret ?_
  have X9 := ((X.stepx x).stepx x5)
  exact ⟨_, Ret_of [I ((-1))] ⟨⟨rfl, rfl⟩, trivial⟩, _, H, rfl, X9.ext⟩
 have H := H.2 hc8
 refine W_skip ?_
 refine W_seq ?_
 refine W_block ?_
 obtain ⟨J, m, Hx, H⟩ := H
 refine W_loop (S := Int × Int) (fun s ρ' w' => J s.1 s.2 ∧ ∃ (ρ : Env), ρ' = setAll [(1, I s.1), (2, I level), (3, pb b), (7, I s.2)] ρ ∧ wx4 = w') (fun s => m s.1 s.2) (i, r2) ⟨Hx, _, env_eq ⟨rfl, rfl, rfl, rfl, trivial⟩, rfl⟩ ?_
 rintro ⟨i10, d⟩ _ _ ⟨Hi, ρ, rfl, rfl⟩
 have H := H i10 d Hi
 refine W_seq ?_
 refine W_seq ?_
 refine W_region ?_
 refine LP_ev ok 0 [(18, I d), (19, I level), (20, .bool (decide (d > level)))] 3 rfl rfl ?_
 refine LP_end _ rfl ?_
 refine W_cond (decide (d > level)) rfl (fun hc12 => ?_) (fun hc12 => ?_)
 ·have H := H.1 hc12
  refine W_skip ?_
  refine W_seq ?_
  refine W_block ?_
  refine W_region ?_
  refine LP_ev ok 0 [(23, pb b)] 1 rfl rfl ?_
  have ex13 := (ex1.ext x5)
  refine LP_ldbox 1 (v := sl a g.Parents c) rfl rfl rfl ti_22 ag_22 (fun _ => rfl) rfl ex13 rfl rfl ?_
  refine LP_ev ok 2 [(25, I i10)] 3 rfl rfl ?_
  obtain ⟨x14, hi, hx15, H⟩ := H
  refine LP_index 3 rfl rfl rfl Tryz.underlying22 ti_3 rfl rfl r hi hx15 fun a16 cs r17 d18 => ?_
  have ex19 := (ex3.ext x5)
  refine LP_load 4 rfl rfl rfl ti_3 ag_3 rfl r17 d18 ex19 fun vx20 r21 => ?_
  obtain rfl := r21.int
  refine LP_ev ok 5 [(1, I x14)] 6 rfl rfl ?_
  refine LP_end _ rfl ?_
  refine W_region ?_
  refine LP_ev ok 0 [(21, I d), (22, I (wr (d - 1))), (7, I (wr (d - 1)))] 3 rfl rfl ?_
  refine LP_end _ rfl ?_
  exact ⟨(x14, wr (d - 1)), ⟨H.1, _, env_eq ⟨rfl, rfl, rfl, rfl, trivial⟩, rfl⟩, H.2⟩
 have H := H.2 hc12
 refine W_exit ?_
 refine (if_pos rfl).mpr ?_
 refine W_seq ?_
 refine W_region ?_
 refine LP_ev ok 0 [(28, I i10), (6, I i10)] 2 rfl rfl ?_
 refine LP_end _ rfl ?_
 refine W_ret ?_
 have X22 := ((X.stepx x).stepx x5)
 exact ⟨_, Ret_of [I i10] ⟨⟨rfl, rfl⟩, trivial⟩, _, H, rfl, X22.ext⟩

theorem impl_meetsWhere_w (t : Table) (r7 : Record) (Q : Bool → Prop) (H : impl_meetsWhere t r7 Q) (w : World) {vx : Value} {hx : PH} (r : RS hx vx t.Vars) (ex : Sub hx w) {vx1 : Value} {hx2 : PH} (r3 : RS hx2 vx1 t.Where) (ex4 : Sub hx2 w) {vx8 : Value} {hx9 : PH} (r10 : RS hx9 vx8 r7.Values) (ex11 : Sub hx9 w) :
  CallsTo Tryz.prog 131 #[.agg #[I t.Level, vx, vx1, I t.Sum], .agg #[I r7.Area, I r7.House, vx8]] w fun v w' => ∃ r0, Q r0 ∧ v = .bool r0 ∧ Ext w w' := by
 obtain ⟨a, c, rfl⟩ := r.shape
 obtain ⟨a5, c6, rfl⟩ := r3.shape
 obtain ⟨a12, c13, rfl⟩ := r10.shape
 refine enter (args := [.agg #[I t.Level, sl a t.Vars c, sl a5 t.Where c6, I t.Sum], .agg #[I r7.Area, I r7.House, sl a12 r7.Values c13]]) 29 Tryz.func131 rfl rfl rfl ?_
 refine W_forget [(0, .agg #[I t.Level, sl a t.Vars c, sl a5 t.Where c6, I t.Sum]), (1, .agg #[I r7.Area, I r7.House, sl a12 r7.Values c13])] ⟨rfl, rfl, trivial⟩ fun ρ => ?_
 have X := But.refl emp w
 refine W_seq ?_
 refine W_region ?_
 refine LP_box 0 (cs := [I t.Level, sl a t.Vars c, sl a5 t.Where c6, I t.Sum]) rfl rfl rfl rfl rfl fun b wx x ex14 f => ?_
 refine LP_box 1 (cs := [I r7.Area, I r7.House, sl a12 r7.Values c13]) rfl rfl rfl rfl rfl fun b15 wx16 x17 ex18 f19 => ?_
 refine LP_ev ok 2 [(4, .bool false)] 3 rfl rfl ?_
 refine LP_end _ rfl ?_
 refine W_seq ?_
 refine W_seq ?_
 refine W_region ?_
 refine LP_ev ok 0 [(7, .pointer (some ⟨b, 2, none⟩))] 1 rfl rfl ?_
 have ex20 := (ex14.ext x17)
 refine LP_ldbox 1 (v := sl a5 t.Where c6) rfl rfl rfl ti_22 ag_22 (fun _ => rfl) rfl ex20 rfl rfl ?_
 refine LP_ev ok 2 [(9, I (ln t.Where)), (10, I 0)] 4 rfl rfl ?_
 refine LP_end _ rfl ?_
 refine W_block ?_
 obtain ⟨J, m, Hx, H⟩ := H
 refine W_loop (S := Int) (fun s ρ' w' => J s ∧ ∃ (ρ : Env), ρ' = setAll [(3, pb b15), (8, sl a5 t.Where c6), (9, I (ln t.Where)), (10, I s)] ρ ∧ wx16 = w') (fun s => m s) 0 ⟨Hx, _, env_eq ⟨rfl, rfl, rfl, rfl, trivial⟩, rfl⟩ ?_
 rintro x21 _ _ ⟨Hi, ρ, rfl, rfl⟩
 have H := H x21 Hi
 refine W_seq ?_
 refine W_region ?_
 refine LP_ev ok 0 [(11, .bool (decide (x21 < (ln t.Where))))] 1 rfl rfl ?_
 refine LP_end _ rfl ?_
 refine W_seq ?_
 refine W_cond (decide (x21 < (ln t.Where))) rfl (fun hc => ?_) (fun hc => ?_)
 ·have H := H.1 hc
  refine W_skip ?_
  refine W_seq ?_
  refine W_block ?_
  refine W_seq ?_
  refine W_region ?_
  refine LP_ev ok 0 [(12, I x21)] 1 rfl rfl ?_
  obtain ⟨x23, hi, hx24, H⟩ := H
  refine LP_index 1 rfl rfl rfl Tryz.underlying22 ti_3 rfl rfl r3 hi hx24 fun a25 cs r26 d => ?_
  have ex27 := ((ex4.ext x).ext x17)
  refine LP_load 2 rfl rfl rfl ti_3 ag_3 rfl r26 d ex27 fun vx28 r29 => ?_
  obtain rfl := r29.int
  refine LP_ev ok 3 [(5, I x21), (6, I x23)] 5 rfl rfl ?_
  refine LP_end _ rfl ?_
  obtain ⟨k, hk, H⟩ := jn_elim H
  refine W_join2 (S := Bool) (fun s ρ' w' => k s ∧ ∃ (ρ : Env), ρ' = setAll [(3, pb b15), (8, sl a5 t.Where c6), (9, I (ln t.Where)), (10, I x21), (27, .bool s)] ρ ∧ wx16 = w') ?_ ?_
  ·refine W_region ?_
   refine LP_ev ok 0 [(15, I x23), (16, .bool (x23 != 0)), (17, .bool (x23 != 0))] 3 rfl rfl ?_
   refine LP_split 17 (x23 != 0) rfl (fun hc32 => ?_) (fun hc32 => ?_)
   ·have H := H.1 hc32
    refine LP_ev ok 3 [(18, I x23), (19, .pointer (some ⟨b15, 2, none⟩))] 5 rfl rfl ?_
    refine LP_ldbox 5 (v := sl a12 r7.Values c13) rfl rfl rfl ti_22 ag_22 (fun _ => rfl) rfl ex18 rfl rfl ?_
    refine LP_ev ok 6 [(21, I x21)] 7 rfl rfl ?_
    obtain ⟨x33, hi34, hx35, H⟩ := H
    refine LP_index 7 rfl rfl rfl Tryz.underlying22 ti_3 rfl rfl r10 hi34 hx35 fun a36 cs37 r38 d39 => ?_
    have ex40 := ((ex11.ext x).ext x17)
    refine LP_load 8 rfl rfl rfl ti_3 ag_3 rfl r38 d39 ex40 fun vx41 r42 => ?_
    obtain rfl := r42.int
    obtain ⟨hz, H⟩ := H
    refine LP_val 9 _ rfl rfl (ex_shr rfl rfl rfl hz _) ?_
    refine LP_ev ok 10 [(25, I (bits .and .i64 (shr .i64 x23 x33) 1)), (26, .bool ((bits .and .i64 (shr .i64 x23 x33) 1) == 0)), (27, .bool ((bits .and .i64 (shr .i64 x23 x33) 1) == 0))] 13 rfl rfl ?_
    refine LP_end _ rfl ?_
    exact ⟨(bits .and .i64 (shr .i64 x23 x33) 1) == 0, H, _, env_eq ⟨rfl, rfl, rfl, rfl, rfl, trivial⟩, rfl⟩
   have H := H.2 hc32
   refine LP_ev ok 3 [(18, undef), (19, undef), (20, undef), (21, undef), (22, undef), (23, undef), (24, undef), (25, undef), (26, undef), (27, .bool false)] 13 rfl rfl ?_
   refine LP_end _ rfl ?_
   exact ⟨false, H, _, env_eq ⟨rfl, rfl, rfl, rfl, rfl, trivial⟩, rfl⟩
  rintro x30 _ _ ⟨H, ρ, rfl, rfl⟩
  subst hk
  refine W_cond (x30) rfl (fun hc43 => ?_) (fun hc43 => ?_)
  ·have H := H.1 hc43
   refine W_seq ?_
   refine W_region ?_
   refine LP_ev ok 0 [(4, .bool false)] 1 rfl rfl ?_
   refine LP_end _ rfl ?_
   refine W_ret ?_
   have X44 := ((X.stepx x).stepx x17)
   exact ⟨_, Ret_of [.bool false] ⟨⟨rfl, rfl⟩, trivial⟩, _, H, rfl, X44.ext⟩
  have H := H.2 hc43
  refine W_skip ?_
  refine W_region ?_
  refine LP_ev ok 0 [(28, I (wr (x21 + 1))), (10, I (wr (x21 + 1)))] 2 rfl rfl ?_
  refine LP_end _ rfl ?_
  exact ⟨wr (x21 + 1), ⟨H.1, _, env_eq ⟨rfl, rfl, rfl, rfl, trivial⟩, rfl⟩, H.2⟩
 have H := H.2 hc
 refine W_exit ?_
 refine (if_pos rfl).mpr ?_
 refine W_seq ?_
 refine W_region ?_
 refine LP_ev ok 0 [(4, .bool true)] 1 rfl rfl ?_
 refine LP_end _ rfl ?_
 refine W_ret ?_
 have X45 := ((X.stepx x).stepx x17)
 exact ⟨_, Ret_of [.bool true] ⟨⟨rfl, rfl⟩, trivial⟩, _, H, rfl, X45.ext⟩

theorem cmp_isNaN_int_w (x : Int) (Q : Bool → Prop) (H : cmp_isNaN_int x Q) (w : World)  :
  CallsTo Tryz.prog 187 #[I x] w fun v w' => ∃ r0, Q r0 ∧ v = .bool r0 ∧ Ext w w' := by
 refine enter (args := [I x]) 6 Tryz.func187 rfl rfl rfl ?_
 refine W_forget [(0, I x)] ⟨rfl, trivial⟩ fun ρ => ?_
 have X := But.refl emp w
 refine W_seq ?_
 refine W_region ?_
 refine LP_ev ok 0 [(2, .bool false)] 1 rfl rfl ?_
 refine LP_end _ rfl ?_
 refine W_seq ?_
 refine W_region ?_
 refine LP_ev ok 0 [(3, I x), (4, I x), (5, .bool (x != x)), (2, .bool (x != x))] 4 rfl rfl ?_
 refine LP_end _ rfl ?_
 refine W_ret ?_
 exact ⟨_, Ret_of [.bool (x != x)] ⟨⟨rfl, rfl⟩, trivial⟩, _, H, rfl, X.ext⟩

theorem cmp_Less_int_w (x : Int) (y : Int) (Q : Bool → Prop) (H : cmp_Less_int x y Q) (w : World)  :
  CallsTo Tryz.prog 181 #[I x, I y] w fun v w' => ∃ r0, Q r0 ∧ v = .bool r0 ∧ Ext w w' := by
 refine enter (args := [I x, I y]) 17 Tryz.func181 rfl rfl rfl ?_
 refine W_forget [(0, I x), (1, I y)] ⟨rfl, rfl, trivial⟩ fun ρ => ?_
 have X := But.refl emp w
 refine W_seq ?_
 refine W_region ?_
 refine LP_ev ok 0 [(4, .bool false)] 1 rfl rfl ?_
 refine LP_end _ rfl ?_
 obtain ⟨k, hk, H⟩ := jn_elim H
 refine W_join2 (S := Bool) (fun s ρ' w' => k s ∧ ∃ (ρ : Env), ρ' = setAll [(4, .bool s)] ρ ∧ But emp w w') ?_ ?_
 ·refine W_region ?_
  refine LP_ev ok 0 [(5, I x)] 1 rfl rfl ?_
  refine LP_call 1 rfl rfl rfl cal_187 rfl (cmp_isNaN_int_w _ _ H w ) ?_
  rintro _ wx3 ⟨r, H, rfl, x4⟩
  refine LP_ev ok 2 [(7, .bool r)] 3 rfl rfl ?_
  refine LP_split 7 (r) rfl (fun hc => ?_) (fun hc => ?_)
  ·have H := H.1 hc
   refine LP_ev ok 3 [(8, I y)] 4 rfl rfl ?_
   refine LP_call 4 rfl rfl rfl cal_187 rfl (cmp_isNaN_int_w _ _ H wx3 ) ?_
   rintro _ wx6 ⟨r5, H, rfl, x7⟩
   refine LP_ev ok 5 [(10, .bool (!r5)), (11, .bool (!r5)), (12, .bool (!r5))] 8 rfl rfl ?_
   refine LP_split 12 (!r5) rfl (fun hc8 => ?_) (fun hc8 => ?_)
   ·have H := H.1 hc8
    refine LP_ev ok 8 [(13, undef), (14, undef), (15, undef), (16, .bool true), (4, .bool true)] 13 rfl rfl ?_
    refine LP_end _ rfl ?_
    have X9 := ((X.stepx x4).stepx x7)
    exact ⟨true, H, _, env_eq ⟨rfl, trivial⟩, X9⟩
   have H := H.2 hc8
   refine LP_ev ok 8 [(13, I x), (14, I y), (15, .bool (decide (x < y))), (16, .bool (decide (x < y))), (4, .bool (decide (x < y)))] 13 rfl rfl ?_
   refine LP_end _ rfl ?_
   have X10 := ((X.stepx x4).stepx x7)
   exact ⟨decide (x < y), H, _, env_eq ⟨rfl, trivial⟩, X10⟩
  have H := H.2 hc
  refine LP_ev ok 3 [(8, undef), (9, undef), (10, undef), (11, .bool false), (12, .bool false), (13, I x), (14, I y), (15, .bool (decide (x < y))), (16, .bool (decide (x < y))), (4, .bool (decide (x < y)))] 13 rfl rfl ?_
  refine LP_end _ rfl ?_
  have X11 := (X.stepx x4)
  exact ⟨decide (x < y), H, _, env_eq ⟨rfl, trivial⟩, X11⟩
 rintro x1 _ wx ⟨H, ρ, rfl, X2⟩
 subst hk
 refine W_ret ?_
 exact ⟨_, Ret_of [.bool x1] ⟨⟨rfl, rfl⟩, trivial⟩, _, H, rfl, X2.ext⟩

theorem slices_isNaN_int_w (x : Int) (Q : Bool → Prop) (H : slices_isNaN_int x Q) (w : World)  :
  CallsTo Tryz.prog 182 #[I x] w fun v w' => ∃ r0, Q r0 ∧ v = .bool r0 ∧ Ext w w' := by
 refine enter (args := [I x]) 6 Tryz.func182 rfl rfl rfl ?_
 refine W_forget [(0, I x)] ⟨rfl, trivial⟩ fun ρ => ?_
 have X := But.refl emp w
 refine W_seq ?_
 refine W_region ?_
 refine LP_ev ok 0 [(2, .bool false)] 1 rfl rfl ?_
 refine LP_end _ rfl ?_
 refine W_seq ?_
 refine W_region ?_
 refine LP_ev ok 0 [(3, I x), (4, I x), (5, .bool (x != x)), (2, .bool (x != x))] 4 rfl rfl ?_
 refine LP_end _ rfl ?_
 refine W_ret ?_
 exact ⟨_, Ret_of [.bool (x != x)] ⟨⟨rfl, rfl⟩, trivial⟩, _, H, rfl, X.ext⟩

theorem slices_BinarySearch_int_int_w (x : List Int) (target : Int) (Q : Int → Bool → Prop) (H : slices_BinarySearch_int_int x target Q) (w : World) {vx : Value} {hx : PH} (r : RS hx vx x) (ex : Sub hx w) :
  CallsTo Tryz.prog 167 #[vx, I target] w fun v w' => ∃ r0 r1, Q r0 r1 ∧ v = .tuple #[I r0, .bool r1] ∧ Ext w w' := by
 obtain ⟨a, c, rfl⟩ := r.shape
 refine enter (args := [sl a x c, I target]) 54 Tryz.func167 rfl rfl rfl ?_
 refine W_forget [(0, sl a x c), (1, I target)] ⟨rfl, rfl, trivial⟩ fun ρ => ?_
 have X := But.refl emp w
 refine W_seq ?_
 refine W_region ?_
 refine LP_ev ok 0 [(4, I 0), (5, .bool false)] 2 rfl rfl ?_
 refine LP_end _ rfl ?_
 refine W_seq ?_
 refine W_region ?_
 refine LP_ev ok 0 [(10, sl a x c), (11, I (ln x)), (6, I (ln x))] 3 rfl rfl ?_
 refine LP_end _ rfl ?_
 refine W_seq ?_
 refine W_region ?_
 refine LP_ev ok 0 [(12, I (ln x)), (7, I 0), (8, I (ln x))] 3 rfl rfl ?_
 refine LP_end _ rfl ?_
 refine W_seq ?_
 refine W_block ?_
 obtain ⟨J, m, Hx, H⟩ := H
 refine W_loop (S := Int × Int) (fun s ρ' w' => J s.1 s.2 ∧ ∃ (ρ : Env), ρ' = setAll [(0, sl a x c), (1, I target), (6, I (ln x)), (7, I s.1), (8, I s.2)] ρ ∧ But emp w w' ∧ Sub hx w') (fun s => m s.1 s.2) (0, ln x) ⟨Hx, _, env_eq ⟨rfl, rfl, rfl, rfl, rfl, trivial⟩, X, ex⟩ ?_
 rintro ⟨i, j⟩ _ wx ⟨Hi, ρ, rfl, X2, ex1⟩
 have H := H i j Hi
 refine W_seq ?_
 refine W_seq ?_
 refine W_region ?_
 refine LP_ev ok 0 [(13, I i), (14, I j), (15, .bool (decide (i < j)))] 3 rfl rfl ?_
 refine LP_end _ rfl ?_
 refine W_cond (decide (i < j)) rfl (fun hc => ?_) (fun hc => ?_)
 ·have H := H.1 hc
  refine W_skip ?_
  refine W_block ?_
  refine W_seq ?_
  refine W_region ?_
  refine LP_ev ok 0 [(16, I i), (17, I j), (18, I (wr (i + j))), (19, .int .u64 (IntKind.u64.wrap (wr (i + j)))), (20, .int .u64 (Int.fdiv (IntKind.u64.wrap (wr (i + j))) (2 ^ 1))), (21, I (wr (Int.fdiv (IntKind.u64.wrap (wr (i + j))) (2 ^ 1)))), (9, I (wr (Int.fdiv (IntKind.u64.wrap (wr (i + j))) (2 ^ 1))))] 7 rfl rfl ?_
  refine LP_end _ rfl ?_
  refine W_seq ?_
  refine W_region ?_
  refine LP_ev ok 0 [(22, sl a x c), (23, I (wr (Int.fdiv (IntKind.u64.wrap (wr (i + j))) (2 ^ 1))))] 2 rfl rfl ?_
  obtain ⟨x3, hi, hx4, H⟩ := H
  refine LP_index 2 rfl rfl rfl Tryz.underlying22 ti_3 rfl rfl r hi hx4 fun a5 cs r6 d => ?_
  refine LP_load 3 rfl rfl rfl ti_3 ag_3 rfl r6 d ex1 fun vx7 r8 => ?_
  obtain rfl := r8.int
  refine LP_ev ok 4 [(26, I target)] 5 rfl rfl ?_
  refine LP_call 5 rfl rfl rfl cal_181 rfl (cmp_Less_int_w _ _ _ H wx ) ?_
  rintro _ wx10 ⟨r9, H, rfl, x11⟩
  refine LP_end _ rfl ?_
  refine W_cond (r9) rfl (fun hc12 => ?_) (fun hc12 => ?_)
  ·have H := H.1 hc12
   refine W_region ?_
   refine LP_ev ok 0 [(28, I (wr (Int.fdiv (IntKind.u64.wrap (wr (i + j))) (2 ^ 1)))), (29, I (wr ((wr (Int.fdiv (IntKind.u64.wrap (wr (i + j))) (2 ^ 1))) + 1))), (7, I (wr ((wr (Int.fdiv (IntKind.u64.wrap (wr (i + j))) (2 ^ 1))) + 1)))] 3 rfl rfl ?_
   refine LP_end _ rfl ?_
   have X13 := (X2.stepx x11)
   have ex14 := (ex1.ext x11)
   exact ⟨(wr ((wr (Int.fdiv (IntKind.u64.wrap (wr (i + j))) (2 ^ 1))) + 1), j), ⟨H.1, _, env_eq ⟨rfl, rfl, rfl, rfl, rfl, trivial⟩, X13, ex14⟩, H.2⟩
  have H := H.2 hc12
  refine W_region ?_
  refine LP_ev ok 0 [(30, I (wr (Int.fdiv (IntKind.u64.wrap (wr (i + j))) (2 ^ 1)))), (8, I (wr (Int.fdiv (IntKind.u64.wrap (wr (i + j))) (2 ^ 1))))] 2 rfl rfl ?_
  refine LP_end _ rfl ?_
  have X15 := (X2.stepx x11)
  have ex16 := (ex1.ext x11)
  exact ⟨(i, wr (Int.fdiv (IntKind.u64.wrap (wr (i + j))) (2 ^ 1))), ⟨H.1, _, env_eq ⟨rfl, rfl, rfl, rfl, rfl, trivial⟩, X15, ex16⟩, H.2⟩
 have H := H.2 hc
 refine W_exit ?_
 refine (if_pos rfl).mpr ?_
 obtain ⟨k, hk, H⟩ := jn_elim H
 refine W_join2 (S := Int × Bool) (fun s ρ' w' => k s.1 s.2 ∧ ∃ (ρ : Env), ρ' = setAll [(4, I s.1), (5, .bool s.2)] ρ ∧ But emp w w') ?_ ?_
 ·refine W_region ?_
  refine LP_ev ok 0 [(31, I i), (32, I i), (33, I (ln x)), (34, .bool (decide (i < (ln x)))), (35, .bool (decide (i < (ln x))))] 5 rfl rfl ?_
  refine LP_split 35 (decide (i < (ln x))) rfl (fun hc21 => ?_) (fun hc21 => ?_)
  ·have H := H.1 hc21
   refine LP_ev ok 5 [(36, sl a x c), (37, I i)] 7 rfl rfl ?_
   obtain ⟨x22, hi23, hx24, H⟩ := H
   refine LP_index 7 rfl rfl rfl Tryz.underlying22 ti_3 rfl rfl r hi23 hx24 fun a25 cs26 r27 d28 => ?_
   refine LP_load 8 rfl rfl rfl ti_3 ag_3 rfl r27 d28 ex1 fun vx29 r30 => ?_
   obtain rfl := r30.int
   refine LP_ev ok 9 [(40, I target), (41, .bool (x22 == target)), (42, .bool (x22 == target))] 12 rfl rfl ?_
   refine LP_split 42 (x22 == target) rfl (fun hc31 => ?_) (fun hc31 => ?_)
   ·have H := H.1 hc31
    refine LP_ev ok 12 [(43, undef), (44, undef), (45, undef), (46, undef), (47, undef), (48, undef), (49, undef), (50, undef), (51, undef), (52, .bool true), (53, .bool true), (4, I i), (5, .bool true)] 25 rfl rfl ?_
    refine LP_end _ rfl ?_
    try refine W_forget [(4, I i), (5, .bool true)] ⟨rfl, rfl, trivial⟩ fun ρ => ?_
    exact ⟨(i, true), H, _, env_eq ⟨rfl, rfl, trivial⟩, X2⟩
   have H := H.2 hc31
   refine LP_ev ok 12 [(43, sl a x c), (44, I i)] 14 rfl rfl ?_
   obtain ⟨x32, hi33, hx34, H⟩ := H
   refine LP_index 14 rfl rfl rfl Tryz.underlying22 ti_3 rfl rfl r hi33 hx34 fun a35 cs36 r37 d38 => ?_
   refine LP_load 15 rfl rfl rfl ti_3 ag_3 rfl r37 d38 ex1 fun vx39 r40 => ?_
   obtain rfl := r40.int
   refine LP_call 16 rfl rfl rfl cal_182 rfl (slices_isNaN_int_w _ _ H wx ) ?_
   rintro _ wx42 ⟨r41, H, rfl, x43⟩
   refine LP_ev ok 17 [(48, .bool r41)] 18 rfl rfl ?_
   refine LP_split 48 (r41) rfl (fun hc44 => ?_) (fun hc44 => ?_)
   ·have H := H.1 hc44
    refine LP_ev ok 18 [(49, I target)] 19 rfl rfl ?_
    refine LP_call 19 rfl rfl rfl cal_182 rfl (slices_isNaN_int_w _ _ H wx42 ) ?_
    rintro _ wx46 ⟨r45, H, rfl, x47⟩
    refine LP_ev ok 20 [(51, .bool r45), (52, .bool r45), (53, .bool r45), (4, I i), (5, .bool r45)] 25 rfl rfl ?_
    refine LP_end _ rfl ?_
    try refine W_forget [(4, I i), (5, .bool r45)] ⟨rfl, rfl, trivial⟩ fun ρ => ?_
    have X48 := ((X2.stepx x43).stepx x47)
    exact ⟨(i, r45), H, _, env_eq ⟨rfl, rfl, trivial⟩, X48⟩
   have H := H.2 hc44
   refine LP_ev ok 18 [(49, undef), (50, undef), (51, .bool false), (52, .bool false), (53, .bool false), (4, I i), (5, .bool false)] 25 rfl rfl ?_
   refine LP_end _ rfl ?_
   try refine W_forget [(4, I i), (5, .bool false)] ⟨rfl, rfl, trivial⟩ fun ρ => ?_
   have X49 := (X2.stepx x43)
   exact ⟨(i, false), H, _, env_eq ⟨rfl, rfl, trivial⟩, X49⟩
  have H := H.2 hc21
  refine LP_ev ok 5 [(36, undef), (37, undef), (38, undef), (39, undef), (40, undef), (41, undef), (42, undef), (43, undef), (44, undef), (45, undef), (46, undef), (47, undef), (48, undef), (49, undef), (50, undef), (51, undef), (52, undef), (53, .bool false), (4, I i), (5, .bool false)] 25 rfl rfl ?_
  refine LP_end _ rfl ?_
  try refine W_forget [(4, I i), (5, .bool false)] ⟨rfl, rfl, trivial⟩ fun ρ => ?_
  exact ⟨(i, false), H, _, env_eq ⟨rfl, rfl, trivial⟩, X2⟩
 rintro ⟨x17, x18⟩ _ wx19 ⟨H, ρ, rfl, X20⟩
 subst hk
 refine W_ret ?_
 exact ⟨_, Ret_of [I x17, .bool x18] ⟨⟨rfl, rfl⟩, ⟨rfl, rfl⟩, trivial⟩, _, _, H, rfl, X20.ext⟩

theorem impl_indexOfValues_w (sx : List Variable) (values : List Int) (Q : Int → Prop) (H : impl_indexOfValues sx values Q) (w : World) {vx : Value} {hx : PH} (r : RS hx vx sx) (ex : Sub hx w) {vx1 : Value} {hx2 : PH} (r3 : RS hx2 vx1 values) (ex4 : Sub hx2 w) :
  CallsTo Tryz.prog 104 #[vx, vx1] w fun v w' => ∃ r0, Q r0 ∧ v = I r0 ∧ Ext w w' := by
 obtain ⟨a, c, rfl⟩ := r.shape
 obtain ⟨a5, c6, rfl⟩ := r3.shape
 refine enter (args := [sl a sx c, sl a5 values c6]) 26 Tryz.func104 rfl rfl rfl ?_
 refine W_forget [(0, sl a sx c), (1, sl a5 values c6)] ⟨rfl, rfl, trivial⟩ fun ρ => ?_
 have X := But.refl emp w
 refine W_seq ?_
 refine W_region ?_
 refine LP_ev ok 0 [(4, I 0)] 1 rfl rfl ?_
 refine LP_end _ rfl ?_
 refine W_seq ?_
 refine W_region ?_
 refine LP_ev ok 0 [(5, I 0)] 1 rfl rfl ?_
 refine LP_end _ rfl ?_
 refine W_seq ?_
 refine W_seq ?_
 refine W_region ?_
 refine LP_ev ok 0 [(8, sl a5 values c6), (9, I (ln values)), (10, I 0)] 3 rfl rfl ?_
 refine LP_end _ rfl ?_
 refine W_block ?_
 obtain ⟨J, m, Hx, H⟩ := H
 refine W_loop (S := Int × Int) (fun s ρ' w' => J s.1 s.2 ∧ ∃ (ρ : Env), ρ' = setAll [(0, sl a sx c), (5, I s.1), (8, sl a5 values c6), (9, I (ln values)), (10, I s.2)] ρ ∧ w = w') (fun s => m s.1 s.2) (0, 0) ⟨Hx, _, env_eq ⟨rfl, rfl, rfl, rfl, rfl, trivial⟩, rfl⟩ ?_
 rintro ⟨i, x⟩ _ _ ⟨Hi, ρ, rfl, rfl⟩
 have H := H i x Hi
 refine W_seq ?_
 refine W_region ?_
 refine LP_ev ok 0 [(11, .bool (decide (x < (ln values))))] 1 rfl rfl ?_
 refine LP_end _ rfl ?_
 refine W_seq ?_
 refine W_cond (decide (x < (ln values))) rfl (fun hc => ?_) (fun hc => ?_)
 ·have H := H.1 hc
  refine W_skip ?_
  refine W_seq ?_
  refine W_block ?_
  refine W_seq ?_
  refine W_region ?_
  refine LP_ev ok 0 [(12, I x)] 1 rfl rfl ?_
  obtain ⟨x7, hi, hx8, H⟩ := H
  refine LP_index 1 rfl rfl rfl Tryz.underlying22 ti_3 rfl rfl r3 hi hx8 fun a9 cs r10 d => ?_
  refine LP_load 2 rfl rfl rfl ti_3 ag_3 rfl r10 d ex4 fun vx11 r12 => ?_
  obtain rfl := r12.int
  refine LP_ev ok 3 [(6, I x), (7, I x7)] 5 rfl rfl ?_
  refine LP_end _ rfl ?_
  refine W_region ?_
  refine LP_ev ok 0 [(15, I i), (16, sl a sx c), (17, I x)] 3 rfl rfl ?_
  obtain ⟨x13, hi14, hx15, H⟩ := H
  refine LP_index 3 rfl rfl rfl Tryz.underlying34 ti_98 rfl rfl r hi14 hx15 fun a16 cs17 r18 d19 => ?_
  refine LP_ev ok 4 [(19, .pointer (some (Addr.add a16 1)))] 5 rfl rfl ?_
  refine LP_ldfld (x := x13) (off := 1) 5 (v := I x13.Levels) rfl rfl rfl ti_3 ag_3 (fun _ => rfl) rfl r18 d19 ex rfl rfl ?_
  refine LP_ev ok 6 [(21, I (wr (i * x13.Levels))), (22, I x7), (23, I (wr ((wr (i * x13.Levels)) + x7))), (5, I (wr ((wr (i * x13.Levels)) + x7)))] 10 rfl rfl ?_
  refine LP_end _ rfl ?_
  refine W_region ?_
  refine LP_ev ok 0 [(24, I (wr (x + 1))), (10, I (wr (x + 1)))] 2 rfl rfl ?_
  refine LP_end _ rfl ?_
  exact ⟨(wr ((wr (i * x13.Levels)) + x7), wr (x + 1)), ⟨H.1, _, env_eq ⟨rfl, rfl, rfl, rfl, rfl, trivial⟩, rfl⟩, H.2⟩
 have H := H.2 hc
 refine W_exit ?_
 refine (if_pos rfl).mpr ?_
 refine W_seq ?_
 refine W_region ?_
 refine LP_ev ok 0 [(25, I i), (4, I i)] 2 rfl rfl ?_
 refine LP_end _ rfl ?_
 refine W_ret ?_
 exact ⟨_, Ret_of [I i] ⟨⟨rfl, rfl⟩, trivial⟩, _, H, rfl, X.ext⟩

theorem impl_cellIndex_w (g : Geo) (sx : List Variable) (t : Table) (area : Int) (values : List Int) (Q : Int → Prop) (H : impl_cellIndex g sx t area values Q) (w : World) {vx : Value} {hx : PH} (r : RS hx vx g.Parents) (ex : Sub hx w) {vx1 : Value} {hx2 : PH} (r3 : RS hx2 vx1 sx) (ex4 : Sub hx2 w) {vx7 : Value} {hx8 : PH} (r9 : RS hx8 vx7 t.Vars) (ex10 : Sub hx8 w) {vx13 : Value} {hx14 : PH} (r15 : RS hx14 vx13 t.Where) (ex16 : Sub hx14 w) {vx19 : Value} {hx20 : PH} (r21 : RS hx20 vx19 values) (ex22 : Sub hx20 w) :
  CallsTo Tryz.prog 132 #[.agg #[vx], vx1, .agg #[I t.Level, vx7, vx13, I t.Sum], I area, vx19] w fun v w' => ∃ r0, Q r0 ∧ v = I r0 ∧ Ext w w' := by
 obtain ⟨a, c, rfl⟩ := r.shape
 obtain ⟨a5, c6, rfl⟩ := r3.shape
 obtain ⟨a11, c12, rfl⟩ := r9.shape
 obtain ⟨a17, c18, rfl⟩ := r15.shape
 obtain ⟨a23, c24, rfl⟩ := r21.shape
 refine enter (args := [.agg #[sl a g.Parents c], sl a5 sx c6, .agg #[I t.Level, sl a11 t.Vars c12, sl a17 t.Where c18, I t.Sum], I area, sl a23 values c24]) 36 Tryz.func132 rfl rfl rfl ?_
 refine W_forget [(0, .agg #[sl a g.Parents c]), (1, sl a5 sx c6), (2, .agg #[I t.Level, sl a11 t.Vars c12, sl a17 t.Where c18, I t.Sum]), (3, I area), (4, sl a23 values c24)] ⟨rfl, rfl, rfl, rfl, rfl, trivial⟩ fun ρ => ?_
 have X := But.refl emp w
 refine W_seq ?_
 refine W_region ?_
 refine LP_box 0 (cs := [sl a g.Parents c]) rfl rfl rfl rfl rfl fun b wx x ex25 f => ?_
 refine LP_box 1 (cs := [I t.Level, sl a11 t.Vars c12, sl a17 t.Where c18, I t.Sum]) rfl rfl rfl rfl rfl fun b26 wx27 x28 ex29 f30 => ?_
 refine LP_ev ok 2 [(10, I 0)] 3 rfl rfl ?_
 refine LP_end _ rfl ?_
 refine W_seq ?_
 refine W_region ?_
 have ex31 := (ex25.ext x28)
 refine LP_ldbox 0 (v := .agg #[sl a g.Parents c]) rfl rfl rfl ti_32 ag_32 (fun h => by cases h) rfl ex31 rfl rfl ?_
 refine LP_ev ok 1 [(16, pb b26)] 2 rfl rfl ?_
 refine LP_ldbox 2 (v := I t.Level) rfl rfl rfl ti_3 ag_3 (fun _ => rfl) rfl ex29 rfl rfl ?_
 have ex33 := ((ex.ext x).ext x28)
 refine LP_call 3 rfl rfl rfl cal_128 rfl (impl_areasAt_w _ _ _ H wx27 r ex33) ?_
 rintro _ wx34 ⟨r32, vx36, hx37, H, rfl, x35, o, ex38, f39⟩
 obtain ⟨a40, c41, rfl⟩ := o.shape
 refine LP_ev ok 4 [(19, I area)] 5 rfl rfl ?_
 refine LP_call 5 rfl rfl rfl cal_167 rfl (slices_BinarySearch_int_int_w _ _ _ H wx34 o.readf ex38) ?_
 rintro _ wx44 ⟨r42, r43, H, rfl, x45⟩
 refine LP_ev ok 6 [(14, .tuple #[I r42, .bool r43]), (21, I r42), (22, .bool r43), (11, I r42), (12, .bool r43)] 11 rfl rfl ?_
 refine LP_end _ rfl ?_
 refine W_seq ?_
 refine W_seq ?_
 refine W_region ?_
 refine LP_ev ok 0 [(23, .bool r43), (24, .bool (!r43))] 2 rfl rfl ?_
 refine LP_end _ rfl ?_
 refine W_cond (!r43) rfl (fun hc => ?_) (fun hc => ?_)
 ·have H := H.1 hc
  refine W_seq ?_
  refine W_region ?_
  refine LP_ev ok 0 [(10, I ((-1)))] 1 rfl rfl ?_
  refine LP_end _ rfl ?_
  refine W_ret ?_
  have X46 := ((((X.stepx x).stepx x28).stepx x35).stepx x45)
  exact ⟨_, Ret_of [I ((-1))] ⟨⟨rfl, rfl⟩, trivial⟩, _, H, rfl, X46.ext⟩
 have H := H.2 hc
 refine W_skip ?_
 refine W_seq ?_
 refine W_region ?_
 refine LP_ev ok 0 [(25, sl a5 sx c6)] 1 rfl rfl ?_
 have ex47 := ((ex29.ext x35).ext x45)
 refine LP_ldbox 1 (v := .agg #[I t.Level, sl a11 t.Vars c12, sl a17 t.Where c18, I t.Sum]) rfl rfl rfl ti_62 ag_62 (fun h => by cases h) rfl ex47 rfl rfl ?_
 have ex49 := ((((ex4.ext x).ext x28).ext x35).ext x45)
 have ex50 := ((((ex10.ext x).ext x28).ext x35).ext x45)
 have ex51 := ((((ex16.ext x).ext x28).ext x35).ext x45)
 refine LP_call 2 rfl rfl rfl cal_129 rfl (impl_crossed_w _ _ _ H wx44 r3 ex49 r9 ex50 r15 ex51) ?_
 rintro _ wx52 ⟨r48, vx54, hx55, H, rfl, x53, o56, ex57, f58⟩
 obtain ⟨a59, c60, rfl⟩ := o56.shape
 refine LP_ev ok 3 [(13, sl a59 r48 c60)] 4 rfl rfl ?_
 refine LP_end _ rfl ?_
 refine W_seq ?_
 refine W_region ?_
 refine LP_ev ok 0 [(28, I r42), (29, sl a59 r48 c60)] 2 rfl rfl ?_
 refine LP_call 2 rfl rfl rfl cal_102 rfl (impl_combinations_w _ _ H wx52 o56.readf ex57) ?_
 rintro _ wx62 ⟨r61, H, rfl, x63⟩
 refine LP_ev ok 3 [(31, I (wr (r42 * r61))), (32, sl a59 r48 c60), (33, sl a23 values c24)] 6 rfl rfl ?_
 have ex65 := (ex57.ext x63)
 have ex66 := ((((((ex22.ext x).ext x28).ext x35).ext x45).ext x53).ext x63)
 refine LP_call 6 rfl rfl rfl cal_104 rfl (impl_indexOfValues_w _ _ _ H wx62 o56.readf ex65 r21 ex66) ?_
 rintro _ wx67 ⟨r64, H, rfl, x68⟩
 refine LP_ev ok 7 [(35, I (wr ((wr (r42 * r61)) + r64))), (10, I (wr ((wr (r42 * r61)) + r64)))] 9 rfl rfl ?_
 refine LP_end _ rfl ?_
 try refine W_forget [(10, I (wr ((wr (r42 * r61)) + r64)))] ⟨rfl, trivial⟩ fun ρ => ?_
 refine W_ret ?_
 have X69 := (((((((X.stepx x).stepx x28).stepx x35).stepx x45).stepx x53).stepx x63).stepx x68)
 exact ⟨_, Ret_of [I (wr ((wr (r42 * r61)) + r64))] ⟨⟨rfl, rfl⟩, trivial⟩, _, H, rfl, X69.ext⟩

theorem impl_contribution_w (g : Geo) (sx : List Variable) (t : Table) (r19 : Record) (Q : Int → Int → Prop) (H : impl_contribution g sx t r19 Q) (w : World) {vx : Value} {hx : PH} (r : RS hx vx g.Parents) (ex : Sub hx w) {vx1 : Value} {hx2 : PH} (r3 : RS hx2 vx1 sx) (ex4 : Sub hx2 w) {vx7 : Value} {hx8 : PH} (r9 : RS hx8 vx7 t.Vars) (ex10 : Sub hx8 w) {vx13 : Value} {hx14 : PH} (r15 : RS hx14 vx13 t.Where) (ex16 : Sub hx14 w) {vx20 : Value} {hx21 : PH} (r22 : RS hx21 vx20 r19.Values) (ex23 : Sub hx21 w) :
  CallsTo Tryz.prog 89 #[.agg #[vx], vx1, .agg #[I t.Level, vx7, vx13, I t.Sum], .agg #[I r19.Area, I r19.House, vx20]] w fun v w' => ∃ r0 r1, Q r0 r1 ∧ v = .tuple #[I r0, I r1] ∧ Ext w w' := by
 obtain ⟨a, c, rfl⟩ := r.shape
 obtain ⟨a5, c6, rfl⟩ := r3.shape
 obtain ⟨a11, c12, rfl⟩ := r9.shape
 obtain ⟨a17, c18, rfl⟩ := r15.shape
 obtain ⟨a24, c25, rfl⟩ := r22.shape
 refine enter (args := [.agg #[sl a g.Parents c], sl a5 sx c6, .agg #[I t.Level, sl a11 t.Vars c12, sl a17 t.Where c18, I t.Sum], .agg #[I r19.Area, I r19.House, sl a24 r19.Values c25]]) 66 Tryz.func89 rfl rfl rfl ?_
 refine W_forget [(0, .agg #[sl a g.Parents c]), (1, sl a5 sx c6), (2, .agg #[I t.Level, sl a11 t.Vars c12, sl a17 t.Where c18, I t.Sum]), (3, .agg #[I r19.Area, I r19.House, sl a24 r19.Values c25])] ⟨rfl, rfl, rfl, rfl, trivial⟩ fun ρ => ?_
 have X := But.refl emp w
 refine W_seq ?_
 refine W_region ?_
 refine LP_box 0 (cs := [sl a g.Parents c]) rfl rfl rfl rfl rfl fun b wx x ex26 f => ?_
 refine LP_box 1 (cs := [I t.Level, sl a11 t.Vars c12, sl a17 t.Where c18, I t.Sum]) rfl rfl rfl rfl rfl fun b27 wx28 x29 ex30 f31 => ?_
 refine LP_box 2 (cs := [I r19.Area, I r19.House, sl a24 r19.Values c25]) rfl rfl rfl rfl rfl fun b32 wx33 x34 ex35 f36 => ?_
 refine LP_ev ok 3 [(8, I 0), (9, I 0)] 5 rfl rfl ?_
 refine LP_end _ rfl ?_
 refine W_seq ?_
 refine W_region ?_
 have ex37 := ((ex26.ext x29).ext x34)
 refine LP_ldbox 0 (v := .agg #[sl a g.Parents c]) rfl rfl rfl ti_32 ag_32 (fun h => by cases h) rfl ex37 rfl rfl ?_
 refine LP_ev ok 1 [(16, pb b32)] 2 rfl rfl ?_
 refine LP_ldbox 2 (v := I r19.Area) rfl rfl rfl ti_3 ag_3 (fun _ => rfl) rfl ex35 rfl rfl ?_
 refine LP_ev ok 3 [(18, pb b27)] 4 rfl rfl ?_
 have ex38 := (ex30.ext x34)
 refine LP_ldbox 4 (v := I t.Level) rfl rfl rfl ti_3 ag_3 (fun _ => rfl) rfl ex38 rfl rfl ?_
 have ex40 := (((ex.ext x).ext x29).ext x34)
 refine LP_call 5 rfl rfl rfl cal_130 rfl (impl_ancestorAt_w _ _ _ _ H wx33 r ex40) ?_
 rintro _ wx41 ⟨r39, H, rfl, x42⟩
 refine LP_ev ok 6 [(10, I r39)] 7 rfl rfl ?_
 refine LP_end _ rfl ?_
 refine W_seq ?_
 obtain ⟨k, hk, H⟩ := jn_elim H
 refine W_join2 (S := Bool) (fun s ρ' w' => k s ∧ ∃ (ρ : Env), ρ' = setAll [(1, sl a5 sx c6), (4, pb b), (6, pb b27), (7, pb b32), (10, I r39), (28, .bool s)] ρ ∧ But emp w w' ∧ Sub hx w' ∧ Sub hx2 w' ∧ Sub hx8 w' ∧ Sub hx14 w' ∧ Sub hx21 w' ∧ Sub (bx b 32 [sl a g.Parents c]) w' ∧ Sub (bx b27 62 [I t.Level, sl a11 t.Vars c12, sl a17 t.Where c18, I t.Sum]) w' ∧ Sub (bx b32 73 [I r19.Area, I r19.House, sl a24 r19.Values c25]) w') ?_ ?_
 ·refine W_region ?_
  refine LP_ev ok 0 [(21, I r39), (22, .bool (decide (r39 < 0))), (23, .bool (decide (r39 < 0)))] 3 rfl rfl ?_
  refine LP_split 23 (decide (r39 < 0)) rfl (fun hc => ?_) (fun hc => ?_)
  ·have H := H.1 hc
   refine LP_ev ok 3 [(24, undef), (25, undef), (26, undef), (27, undef), (28, .bool true)] 8 rfl rfl ?_
   refine LP_end _ rfl ?_
   have X54 := ((((X.stepx x).stepx x29).stepx x34).stepx x42)
   have ex55 := (ex40.ext x42)
   have ex56 := ((((ex4.ext x).ext x29).ext x34).ext x42)
   have ex57 := ((((ex10.ext x).ext x29).ext x34).ext x42)
   have ex58 := ((((ex16.ext x).ext x29).ext x34).ext x42)
   have ex59 := ((((ex23.ext x).ext x29).ext x34).ext x42)
   have ex60 := (ex37.ext x42)
   have ex61 := (ex38.ext x42)
   have ex62 := (ex35.ext x42)
   exact ⟨true, H, _, env_eq ⟨rfl, rfl, rfl, rfl, rfl, rfl, trivial⟩, X54, ex55, ex56, ex57, ex58, ex59, ex60, ex61, ex62⟩
  have H := H.2 hc
  have ex63 := (ex38.ext x42)
  refine LP_ldbox 3 (v := .agg #[I t.Level, sl a11 t.Vars c12, sl a17 t.Where c18, I t.Sum]) rfl rfl rfl ti_62 ag_62 (fun h => by cases h) rfl ex63 rfl rfl ?_
  have ex64 := (ex35.ext x42)
  refine LP_ldbox 4 (v := .agg #[I r19.Area, I r19.House, sl a24 r19.Values c25]) rfl rfl rfl ti_73 ag_73 (fun h => by cases h) rfl ex64 rfl rfl ?_
  have ex66 := ((((ex10.ext x).ext x29).ext x34).ext x42)
  have ex67 := ((((ex16.ext x).ext x29).ext x34).ext x42)
  have ex68 := ((((ex23.ext x).ext x29).ext x34).ext x42)
  refine LP_call 5 rfl rfl rfl cal_131 rfl (impl_meetsWhere_w _ _ _ H wx41 r9 ex66 r15 ex67 r22 ex68) ?_
  rintro _ wx69 ⟨r65, H, rfl, x70⟩
  refine LP_ev ok 6 [(27, .bool (!r65)), (28, .bool (!r65))] 8 rfl rfl ?_
  refine LP_end _ rfl ?_
  have X71 := (((((X.stepx x).stepx x29).stepx x34).stepx x42).stepx x70)
  have ex72 := ((ex40.ext x42).ext x70)
  have ex73 := (((((ex4.ext x).ext x29).ext x34).ext x42).ext x70)
  have ex74 := (ex66.ext x70)
  have ex75 := (ex67.ext x70)
  have ex76 := (ex68.ext x70)
  have ex77 := ((ex37.ext x42).ext x70)
  have ex78 := (ex63.ext x70)
  have ex79 := (ex64.ext x70)
  exact ⟨!r65, H, _, env_eq ⟨rfl, rfl, rfl, rfl, rfl, rfl, trivial⟩, X71, ex72, ex73, ex74, ex75, ex76, ex77, ex78, ex79⟩
 rintro x43 _ wx44 ⟨H, ρ, rfl, HF⟩
 revert HF
 refine bb9 fun X53 ex45 ex46 ex47 ex48 ex49 ex50 ex51 ex52 => ?_
 subst hk
 refine W_cond (x43) rfl (fun hc80 => ?_) (fun hc80 => ?_)
 ·have H := H.1 hc80
  refine W_seq ?_
  refine W_region ?_
  refine LP_ev ok 0 [(8, I ((-1))), (9, I 0)] 2 rfl rfl ?_
  refine LP_end _ rfl ?_
  refine W_ret ?_
  exact ⟨_, Ret_of [I ((-1)), I 0] ⟨⟨rfl, rfl⟩, ⟨rfl, rfl⟩, trivial⟩, _, _, H, rfl, X53.ext⟩
 have H := H.2 hc80
 refine W_skip ?_
 refine W_seq ?_
 refine W_region ?_
 refine LP_ev ok 0 [(29, .pointer (some ⟨b27, 1, none⟩))] 1 rfl rfl ?_
 refine LP_ldbox 1 (v := sl a11 t.Vars c12) rfl rfl rfl ti_22 ag_22 (fun _ => rfl) rfl ex51 rfl rfl ?_
 refine LP_ev ok 2 [(31, I (ln t.Vars))] 3 rfl rfl ?_
 obtain ⟨hn, hb, H⟩ := H
 refine LP_make (α := Int) 3 rfl rfl rfl Tryz.underlying22 ti_3 (x0 := (0 : Int)) rfl rfl hn (by first | omega | (simp only [ln] at *; omega)) (by first | omega | (simp only [ln] at *; omega)) fun hx81 vx82 wx83 x84 o ex85 f86 => ?_
 obtain ⟨a87, c88, rfl⟩ := o.shape
 refine LP_ev ok 4 [(11, .slice a87 (List.length (List.replicate (Int.toNat (ln t.Vars)) ((0 : Int)))) c88)] 5 rfl rfl ?_
 refine LP_end _ rfl ?_
 refine W_seq ?_
 refine W_seq ?_
 refine W_region ?_
 refine LP_ev ok 0 [(33, .pointer (some ⟨b27, 1, none⟩))] 1 rfl rfl ?_
 have ex89 := (ex51.ext x84)
 refine LP_ldbox 1 (v := sl a11 t.Vars c12) rfl rfl rfl ti_22 ag_22 (fun _ => rfl) rfl ex89 rfl rfl ?_
 refine LP_ev ok 2 [(35, I (ln t.Vars)), (36, I 0)] 4 rfl rfl ?_
 refine LP_end _ rfl ?_
 refine W_block ?_
 have X113 := (X53.stepx x84)
 have f114 := f86.mono X53.size
 have ex115 := (ex45.ext x84)
 have ex116 := (ex46.ext x84)
 have ex117 := (ex47.ext x84)
 have ex118 := (ex48.ext x84)
 have ex119 := (ex49.ext x84)
 have ex120 := (ex50.ext x84)
 have ex121 := (ex52.ext x84)
 obtain ⟨J, m, Hx, H⟩ := H
 refine W_loop (S := (List Int) × Int) (fun s ρ' w' => J s.1 s.2 ∧ ∃ (ρ : Env) (hx91 : PH), ρ' = setAll [(1, sl a5 sx c6), (4, pb b), (6, pb b27), (7, pb b32), (10, I r39), (11, .slice a87 (List.length (List.replicate (Int.toNat (ln t.Vars)) ((0 : Int)))) c88), (34, sl a11 t.Vars c12), (35, I (ln t.Vars)), (36, I s.2)] ρ ∧ But emp w w' ∧ OS 3 hx91 emp (.slice a87 (List.length (List.replicate (Int.toNat (ln t.Vars)) ((0 : Int)))) c88) s.1 ∧ Sub hx91 w' ∧ Fresh w.heap.size hx91 ∧ Sub hx w' ∧ Sub hx2 w' ∧ Sub hx8 w' ∧ Sub hx14 w' ∧ Sub hx21 w' ∧ Sub (bx b 32 [sl a g.Parents c]) w' ∧ Sub (bx b27 62 [I t.Level, sl a11 t.Vars c12, sl a17 t.Where c18, I t.Sum]) w' ∧ Sub (bx b32 73 [I r19.Area, I r19.House, sl a24 r19.Values c25]) w' ∧ Dj hx91 hx ∧ Dj hx91 hx2 ∧ Dj hx91 hx8 ∧ Dj hx91 hx14 ∧ Dj hx91 hx21 ∧ Dj hx91 (bx b 32 [sl a g.Parents c]) ∧ Dj hx91 (bx b27 62 [I t.Level, sl a11 t.Vars c12, sl a17 t.Where c18, I t.Sum]) ∧ Dj hx91 (bx b32 73 [I r19.Area, I r19.House, sl a24 r19.Values c25])) (fun s => m s.1 s.2) (List.replicate (Int.toNat (ln t.Vars)) ((0 : Int)), 0) ⟨Hx, _, hx81, env_eq ⟨rfl, rfl, rfl, rfl, rfl, rfl, rfl, rfl, rfl, trivial⟩, X113, o, ex85, f114, ex115, ex116, ex117, ex118, ex119, ex120, ex89, ex121, (Dj.of_fresh ex45 f86).symm, (Dj.of_fresh ex46 f86).symm, (Dj.of_fresh ex47 f86).symm, (Dj.of_fresh ex48 f86).symm, (Dj.of_fresh ex49 f86).symm, (Dj.of_fresh ex50 f86).symm, (Dj.of_fresh ex51 f86).symm, (Dj.of_fresh ex52 f86).symm⟩ ?_
 rintro ⟨values, x95⟩ _ wx96 ⟨Hi, ρ, hx91, rfl, HF⟩
 revert HF
 refine bb9 fun X112 o92 ex93 f94 ex97 ex98 ex99 ex100 => ?_
 refine bb9 fun ex101 ex102 ex103 ex104 d d105 d106 d107 => ?_
 refine bb4 fun d108 d109 d110 d111 => ?_
 have H := H values x95 Hi
 refine W_seq ?_
 refine W_region ?_
 refine LP_ev ok 0 [(37, .bool (decide (x95 < (ln t.Vars))))] 1 rfl rfl ?_
 refine LP_end _ rfl ?_
 refine W_seq ?_
 refine W_cond (decide (x95 < (ln t.Vars))) rfl (fun hc122 => ?_) (fun hc122 => ?_)
 ·have H := H.1 hc122
  refine W_skip ?_
  refine W_seq ?_
  refine W_block ?_
  refine W_seq ?_
  refine W_region ?_
  refine LP_ev ok 0 [(38, I x95)] 1 rfl rfl ?_
  obtain ⟨x123, hi, hx124, H⟩ := H
  refine LP_index 1 rfl rfl rfl Tryz.underlying22 ti_3 rfl rfl r9 hi hx124 fun a125 cs r126 d127 => ?_
  refine LP_load 2 rfl rfl rfl ti_3 ag_3 rfl r126 d127 ex99 fun vx128 r129 => ?_
  obtain rfl := r129.int
  refine LP_ev ok 3 [(12, I x95), (13, I x123)] 5 rfl rfl ?_
  refine LP_end _ rfl ?_
  refine W_region ?_
  refine LP_ev ok 0 [(41, .slice a87 (List.length (List.replicate (Int.toNat (ln t.Vars)) ((0 : Int)))) c88), (42, I x95), (43, .pointer (some ⟨b32, 2, none⟩))] 3 rfl rfl ?_
  refine LP_ldbox 3 (v := sl a24 r19.Values c25) rfl rfl rfl ti_22 ag_22 (fun _ => rfl) rfl ex104 rfl rfl ?_
  refine LP_ev ok 4 [(45, I x123)] 5 rfl rfl ?_
  obtain ⟨x130, hi131, hx132, H⟩ := H
  refine LP_index 5 rfl rfl rfl Tryz.underlying22 ti_3 rfl rfl r22 hi131 hx132 fun a133 cs134 r135 d136 => ?_
  refine LP_load 6 rfl rfl rfl ti_3 ag_3 rfl r135 d136 ex101 fun vx137 r138 => ?_
  obtain rfl := r138.int
  obtain ⟨hi139, hl, H⟩ := H
  refine LP_indexw (v := .slice a87 (List.length (List.replicate (Int.toNat (ln t.Vars)) ((0 : Int)))) c88) 7 rfl rfl rfl Tryz.underlying22 ti_3 rfl rfl o92 hi139 hl fun a140 wa => ?_
  refine LP_set 8 rfl rfl rfl rfl rfl wa (Le.refl emp) ⟨_, rfl, rfl⟩ ex93 fun hx141 wx142 o143 ex144 y dm => ?_
  refine LP_end _ rfl ?_
  refine W_region ?_
  refine LP_ev ok 0 [(49, I (wr (x95 + 1))), (36, I (wr (x95 + 1)))] 2 rfl rfl ?_
  refine LP_end _ rfl ?_
  have X145 := (X112.step y (f94.dom _))
  have f146 := (dm _).fresh f94 X112.size
  have ex147 := (ex97.but y d)
  have ex148 := (ex98.but y d105)
  have ex149 := (ex99.but y d106)
  have ex150 := (ex100.but y d107)
  have ex151 := (ex101.but y d108)
  have ex152 := (ex102.but y d109)
  have ex153 := (ex103.but y d110)
  have ex154 := (ex104.but y d111)
  exact ⟨(List.set values (Int.toNat x95) x130, wr (x95 + 1)), ⟨H.1, _, hx141, env_eq ⟨rfl, rfl, rfl, rfl, rfl, rfl, rfl, rfl, rfl, trivial⟩, X145, o143, ex144, f146, ex147, ex148, ex149, ex150, ex151, ex152, ex153, ex154, (DomLe.dj (dm _) d ex97), (DomLe.dj (dm _) d105 ex98), (DomLe.dj (dm _) d106 ex99), (DomLe.dj (dm _) d107 ex100), (DomLe.dj (dm _) d108 ex101), (DomLe.dj (dm _) d109 ex102), (DomLe.dj (dm _) d110 ex103), (DomLe.dj (dm _) d111 ex104)⟩, H.2⟩
 have H := H.2 hc122
 refine W_exit ?_
 refine (if_pos rfl).mpr ?_
 refine W_seq ?_
 refine W_region ?_
 refine LP_ev ok 0 [(14, I 1)] 1 rfl rfl ?_
 refine LP_end _ rfl ?_
 obtain ⟨k156, hk157, H⟩ := jn_elim H
 refine W_join2 (S := Int) (fun s ρ' w' => k156 s ∧ ∃ (ρ : Env), ρ' = setAll [(1, sl a5 sx c6), (4, pb b), (6, pb b27), (10, I r39), (11, .slice a87 (List.length (List.replicate (Int.toNat (ln t.Vars)) ((0 : Int)))) c88), (14, I s)] ρ ∧ wx96 = w') ?_ ?_
 ·refine W_seq ?_
  refine W_region ?_
  refine LP_ev ok 0 [(50, .pointer (some ⟨b27, 3, none⟩))] 1 rfl rfl ?_
  refine LP_ldbox 1 (v := I t.Sum) rfl rfl rfl ti_3 ag_3 (fun _ => rfl) rfl ex103 rfl rfl ?_
  refine LP_ev ok 2 [(52, .bool (decide (t.Sum ≥ 0)))] 3 rfl rfl ?_
  refine LP_end _ rfl ?_
  refine W_cond (decide (t.Sum ≥ 0)) rfl (fun hc158 => ?_) (fun hc158 => ?_)
  ·have H := H.1 hc158
   refine W_region ?_
   refine LP_ev ok 0 [(53, .pointer (some ⟨b32, 2, none⟩))] 1 rfl rfl ?_
   refine LP_ldbox 1 (v := sl a24 r19.Values c25) rfl rfl rfl ti_22 ag_22 (fun _ => rfl) rfl ex104 rfl rfl ?_
   refine LP_ev ok 2 [(55, .pointer (some ⟨b27, 3, none⟩))] 3 rfl rfl ?_
   refine LP_ldbox 3 (v := I t.Sum) rfl rfl rfl ti_3 ag_3 (fun _ => rfl) rfl ex103 rfl rfl ?_
   obtain ⟨x159, hi160, hx161, H⟩ := H
   refine LP_index 4 rfl rfl rfl Tryz.underlying22 ti_3 rfl rfl r22 hi160 hx161 fun a162 cs163 r164 d165 => ?_
   refine LP_load 5 rfl rfl rfl ti_3 ag_3 rfl r164 d165 ex101 fun vx166 r167 => ?_
   obtain rfl := r167.int
   refine LP_ev ok 6 [(14, I x159)] 7 rfl rfl ?_
   refine LP_end _ rfl ?_
   exact ⟨x159, H, _, env_eq ⟨rfl, rfl, rfl, rfl, rfl, rfl, trivial⟩, rfl⟩
  have H := H.2 hc158
  refine W_skip ?_
  exact ⟨1, H, _, env_eq ⟨rfl, rfl, rfl, rfl, rfl, rfl, trivial⟩, rfl⟩
 rintro amount _ _ ⟨H, ρ, rfl, rfl⟩
 subst hk157
 refine W_seq ?_
 refine W_region ?_
 refine LP_ldbox 0 (v := .agg #[sl a g.Parents c]) rfl rfl rfl ti_32 ag_32 (fun h => by cases h) rfl ex102 rfl rfl ?_
 refine LP_ev ok 1 [(60, sl a5 sx c6)] 2 rfl rfl ?_
 refine LP_ldbox 2 (v := .agg #[I t.Level, sl a11 t.Vars c12, sl a17 t.Where c18, I t.Sum]) rfl rfl rfl ti_62 ag_62 (fun h => by cases h) rfl ex103 rfl rfl ?_
 refine LP_ev ok 3 [(62, I r39), (63, .slice a87 (List.length (List.replicate (Int.toNat (ln t.Vars)) ((0 : Int)))) c88)] 5 rfl rfl ?_
 refine LP_call 5 rfl rfl rfl cal_132 rfl (impl_cellIndex_w _ _ _ _ _ _ H wx96 r ex97 r3 ex98 r9 ex99 r15 ex100 o92.readf ex93) ?_
 rintro _ wx169 ⟨r168, H, rfl, x170⟩
 refine LP_ev ok 6 [(65, I amount), (8, I r168), (9, I amount)] 9 rfl rfl ?_
 refine LP_end _ rfl ?_
 refine W_ret ?_
 have X171 := (X112.stepx x170)
 exact ⟨_, Ret_of [I r168, I amount] ⟨⟨rfl, rfl⟩, ⟨rfl, rfl⟩, trivial⟩, _, _, H, rfl, X171.ext⟩

theorem impl_conditionsOf_w (g : Geo) (sx : List Variable) (pubs : List Published) (Q : (List Condition) → Prop) (H : impl_conditionsOf g sx pubs Q) (w : World) {vx : Value} {hx : PH} (r : RS hx vx g.Parents) (ex : Sub hx w) {vx1 : Value} {hx2 : PH} (r3 : RS hx2 vx1 sx) (ex4 : Sub hx2 w) {vx7 : Value} {hx8 : PH} (r9 : RS hx8 vx7 pubs) (ex10 : Sub hx8 w) :
  CallsTo Tryz.prog 84 #[.agg #[vx], vx1, vx7] w fun v w' => ∃ r0 u0 g0, Q r0 ∧ v = u0 ∧ Ext w w' ∧ OD g0 u0 r0 ∧ Sub g0 w' ∧ Fresh w.heap.size g0 := by
 obtain ⟨a, c, rfl⟩ := r.shape
 obtain ⟨a5, c6, rfl⟩ := r3.shape
 obtain ⟨a11, c12, rfl⟩ := r9.shape
 refine enter (args := [.agg #[sl a g.Parents c], sl a5 sx c6, sl a11 pubs c12]) 95 Tryz.func84 rfl rfl rfl ?_
 refine W_forget [(0, .agg #[sl a g.Parents c]), (1, sl a5 sx c6), (2, sl a11 pubs c12)] ⟨rfl, rfl, rfl, trivial⟩ fun ρ => ?_
 have X := But.refl emp w
 refine W_seq ?_
 refine W_region ?_
 refine LP_box 0 (cs := [sl a g.Parents c]) rfl rfl rfl rfl rfl fun b wx x ex13 f => ?_
 refine LP_ev ok 1 [(6, .slice none 0 0)] 2 rfl rfl ?_
 refine LP_end _ rfl ?_
 refine W_seq ?_
 refine W_region ?_
 refine LP_ev ok 0 [(7, .slice none 0 0)] 1 rfl rfl ?_
 refine LP_end _ rfl ?_
 refine W_seq ?_
 refine W_region ?_
 refine LP_ldbox 0 (v := .agg #[sl a g.Parents c]) rfl rfl rfl ti_32 ag_32 (fun h => by cases h) rfl ex13 rfl rfl ?_
 refine LP_ev ok 1 [(18, sl a5 sx c6)] 2 rfl rfl ?_
 have ex15 := (ex.ext x)
 have ex16 := (ex4.ext x)
 refine LP_call 2 rfl rfl rfl cal_81 rfl (impl_typeCount_w _ _ _ H wx r ex15 r3 ex16) ?_
 rintro _ wx17 ⟨r14, H, rfl, x18⟩
 refine LP_ev ok 3 [(8, I r14)] 4 rfl rfl ?_
 refine LP_end _ rfl ?_
 refine W_seq ?_
 refine W_seq ?_
 refine W_region ?_
 refine LP_ev ok 0 [(20, sl a11 pubs c12), (21, I (ln pubs)), (22, I 0)] 3 rfl rfl ?_
 refine LP_end _ rfl ?_
 refine W_block ?_
 have X35 := ((X.stepx x).stepx x18)
 have ex36 := (ex15.ext x18)
 have ex37 := (ex16.ext x18)
 have ex38 := ((ex10.ext x).ext x18)
 have ex39 := (ex13.ext x18)
 obtain ⟨J, m, Hx, H⟩ := H
 refine W_loop (S := (List Condition) × Int) (fun s ρ' w' => J s.1 s.2 ∧ ∃ (ρ : Env) (vx19 : Value) (hx20 : PH), ρ' = setAll [(1, sl a5 sx c6), (3, pb b), (7, vx19), (8, I r14), (20, sl a11 pubs c12), (21, I (ln pubs)), (22, I s.2)] ρ ∧ But emp w w' ∧ OD hx20 vx19 s.1 ∧ Sub hx20 w' ∧ Fresh w.heap.size hx20 ∧ Sub hx w' ∧ Sub hx2 w' ∧ Sub hx8 w' ∧ Sub (bx b 32 [sl a g.Parents c]) w' ∧ Dj hx20 hx ∧ Dj hx20 hx2 ∧ Dj hx20 hx8 ∧ Dj hx20 (bx b 32 [sl a g.Parents c])) (fun s => m s.1 s.2) ([], 0) ⟨Hx, _, .slice none 0 0, emp, env_eq ⟨rfl, rfl, rfl, rfl, rfl, rfl, rfl, trivial⟩, X35, OD.nil, (emp_sub _), (emp_fresh _), ex36, ex37, ex38, ex39, (fun _ => .inl rfl), (fun _ => .inl rfl), (fun _ => .inl rfl), (fun _ => .inl rfl)⟩ ?_
 rintro ⟨out, x23⟩ _ wx24 ⟨Hi, ρ, vx19, hx20, rfl, HF⟩
 revert HF
 refine bb9 fun X34 o ex21 f22 ex25 ex26 ex27 ex28 => ?_
 refine bb4 fun d d31 d32 d33 => ?_
 have H := H out x23 Hi
 obtain ⟨a29, c30, rfl⟩ := o.shape
 refine W_seq ?_
 refine W_region ?_
 refine LP_ev ok 0 [(23, .bool (decide (x23 < (ln pubs))))] 1 rfl rfl ?_
 refine LP_end _ rfl ?_
 refine W_seq ?_
 refine W_cond (decide (x23 < (ln pubs))) rfl (fun hc => ?_) (fun hc => ?_)
 ·have H := H.1 hc
  refine W_skip ?_
  refine W_seq ?_
  refine W_block ?_
  refine W_seq ?_
  refine W_region ?_
  obtain ⟨x40, hi, hx41, H⟩ := H
  refine LP_index 0 rfl rfl rfl Tryz.underlying36 ti_81 rfl rfl r9 hi hx41 fun a42 cs r43 d44 => ?_
  have d45 := d44
  obtain ⟨u, u47, u49, rfl, r46, r48, r50⟩ := Published_rd d45
  obtain ⟨a51, c52, rfl⟩ := r46.shape
  obtain ⟨a53, c54, rfl⟩ := r48.shape
  obtain ⟨a55, c56, rfl⟩ := r50.shape
  refine LP_load 1 rfl rfl rfl ti_81 ag_81 rfl r43 d44 ex27 fun vx57 r58 => ?_
  obtain ⟨u59, u61, u63, rfl, r60, r62, r64⟩ := Published_rv r58
  obtain ⟨a65, c66, rfl⟩ := r60.shape
  obtain ⟨a67, c68, rfl⟩ := r62.shape
  obtain ⟨a69, c70, rfl⟩ := r64.shape
  refine LP_alloc 2 rfl rfl rfl ti_81 rfl fun b71 wx72 x73 ex74 f75 => ?_
  refine LP_stbox 3 (vs := [I x40.Table.Level, sl a65 x40.Table.Vars c66, sl a67 x40.Table.Where c68, I x40.Table.Sum, sl a69 x40.Cells c70]) (cs' := [I x40.Table.Level, sl a65 x40.Table.Vars c66, sl a67 x40.Table.Where c68, I x40.Table.Sum, sl a69 x40.Cells c70]) rfl rfl rfl ti_81 rfl rfl rfl rfl rfl ex74 rfl rfl fun wx76 ex77 y => ?_
  refine LP_end _ rfl ?_
  refine W_seq ?_
  refine W_region ?_
  refine LP_ev ok 0 [(26, .pointer (some ⟨b71, 4, none⟩))] 1 rfl rfl ?_
  refine LP_ldbox 1 (v := sl a69 x40.Cells c70) rfl rfl rfl ti_22 ag_22 (fun _ => rfl) rfl ex77 rfl rfl ?_
  refine LP_ev ok 2 [(28, I (ln x40.Cells))] 3 rfl rfl ?_
  obtain ⟨hn, hb, H⟩ := H
  refine LP_make (α := Int) 3 rfl rfl rfl Tryz.underlying22 ti_3 (x0 := (0 : Int)) rfl rfl hn (by first | omega | (simp only [ln] at *; omega)) (by first | omega | (simp only [ln] at *; omega)) fun hx78 vx79 wx80 x81 o82 ex83 f84 => ?_
  obtain ⟨a85, c86, rfl⟩ := o82.shape
  refine LP_ev ok 4 [(11, .slice a85 (List.length (List.replicate (Int.toNat (ln x40.Cells)) ((0 : Int)))) c86)] 5 rfl rfl ?_
  refine LP_end _ rfl ?_
  refine W_seq ?_
  refine W_seq ?_
  refine W_region ?_
  refine LP_ev ok 0 [(30, .pointer (some ⟨b71, 4, none⟩))] 1 rfl rfl ?_
  have ex87 := (ex77.ext x81)
  refine LP_ldbox 1 (v := sl a69 x40.Cells c70) rfl rfl rfl ti_22 ag_22 (fun _ => rfl) rfl ex87 rfl rfl ?_
  refine LP_ev ok 2 [(32, I (ln x40.Cells)), (33, I 0)] 4 rfl rfl ?_
  refine LP_end _ rfl ?_
  refine W_block ?_
  have f123 := f75.mono X34.size
  have X124 := (((X34.stepx x73).step y (f123.dom _)).stepx x81)
  have ex125 := (((ex21.ext x73).but y (Dj.of_fresh ex21 f75).symm).ext x81)
  have X127 := ((X34.stepx x73).step y (f123.dom _))
  have f126 := f84.mono X127.size
  have ex128 := (((ex25.ext x73).but y (Dj.of_fresh ex25 f75).symm).ext x81)
  have ex129 := (((ex26.ext x73).but y (Dj.of_fresh ex26 f75).symm).ext x81)
  have ex130 := (((ex27.ext x73).but y (Dj.of_fresh ex27 f75).symm).ext x81)
  have ex131 := (((ex28.ext x73).but y (Dj.of_fresh ex28 f75).symm).ext x81)
  have ex132 := ((ex25.ext x73).but y (Dj.of_fresh ex25 f75).symm)
  have ex133 := ((ex26.ext x73).but y (Dj.of_fresh ex26 f75).symm)
  have ex134 := ((ex27.ext x73).but y (Dj.of_fresh ex27 f75).symm)
  have ex135 := ((ex28.ext x73).but y (Dj.of_fresh ex28 f75).symm)
  have ex136 := ((ex21.ext x73).but y (Dj.of_fresh ex21 f75).symm)
  obtain ⟨J120, m121, Hx122, H⟩ := H
  refine W_loop (S := (List Condition) × (List Int) × Int) (fun s ρ' w' => J120 s.1 s.2.1 s.2.2 ∧ ∃ (ρ : Env) (vx89 : Value) (hx90 : PH) (hx95 : PH), ρ' = setAll [(1, sl a5 sx c6), (3, pb b), (7, vx89), (8, I r14), (10, pb b71), (11, .slice a85 (List.length (List.replicate (Int.toNat (ln x40.Cells)) ((0 : Int)))) c86), (20, sl a11 pubs c12), (21, I (ln pubs)), (22, I x23), (31, sl a69 x40.Cells c70), (32, I (ln x40.Cells)), (33, I s.2.2)] ρ ∧ But emp w w' ∧ OD hx90 vx89 s.1 ∧ Sub hx90 w' ∧ Fresh w.heap.size hx90 ∧ OS 3 hx95 emp (.slice a85 (List.length (List.replicate (Int.toNat (ln x40.Cells)) ((0 : Int)))) c86) s.2.1 ∧ Sub hx95 w' ∧ Fresh w.heap.size hx95 ∧ Sub hx w' ∧ Sub hx2 w' ∧ Sub hx8 w' ∧ Sub (bx b 32 [sl a g.Parents c]) w' ∧ Sub (bx b71 81 [I x40.Table.Level, sl a65 x40.Table.Vars c66, sl a67 x40.Table.Where c68, I x40.Table.Sum, sl a69 x40.Cells c70]) w' ∧ Dj hx90 hx ∧ Dj hx90 hx2 ∧ Dj hx90 hx8 ∧ Dj hx90 (bx b 32 [sl a g.Parents c]) ∧ Dj hx90 (bx b71 81 [I x40.Table.Level, sl a65 x40.Table.Vars c66, sl a67 x40.Table.Where c68, I x40.Table.Sum, sl a69 x40.Cells c70]) ∧ Dj hx95 hx ∧ Dj hx95 hx2 ∧ Dj hx95 hx8 ∧ Dj hx95 (bx b 32 [sl a g.Parents c]) ∧ Dj hx95 (bx b71 81 [I x40.Table.Level, sl a65 x40.Table.Vars c66, sl a67 x40.Table.Where c68, I x40.Table.Sum, sl a69 x40.Cells c70]) ∧ Dj hx95 hx90) (fun s => m121 s.1 s.2.1 s.2.2) (out, List.replicate (Int.toNat (ln x40.Cells)) ((0 : Int)), 0) ⟨Hx122, _, sl a29 out c30, hx20, hx78, env_eq ⟨rfl, rfl, rfl, rfl, rfl, rfl, rfl, rfl, rfl, rfl, rfl, rfl, trivial⟩, X124, o, ex125, f22, o82, ex83, f126, ex128, ex129, ex130, ex131, ex87, d, d31, d32, d33, (Dj.box (Dj.of_fresh ex21 f75).symm).symm, (Dj.of_fresh ex132 f84).symm, (Dj.of_fresh ex133 f84).symm, (Dj.of_fresh ex134 f84).symm, (Dj.of_fresh ex135 f84).symm, (Dj.of_fresh ex77 f84).symm, (Dj.of_fresh ex136 f84).symm⟩ ?_
  rintro ⟨out88, atx, x99⟩ _ wx100 ⟨Hi, ρ, vx89, hx90, hx95, rfl, HF⟩
  revert HF
  refine bb9 fun X119 o91 ex92 f93 o96 ex97 f98 ex101 => ?_
  refine bb9 fun ex102 ex103 ex104 ex105 d108 d109 d110 d111 => ?_
  refine bb7 fun d112 d113 d114 d115 d116 d117 d118 => ?_
  have H := H out88 atx x99 Hi
  obtain ⟨a106, c107, rfl⟩ := o91.shape
  refine W_seq ?_
  refine W_region ?_
  refine LP_ev ok 0 [(34, .bool (decide (x99 < (ln x40.Cells))))] 1 rfl rfl ?_
  refine LP_end _ rfl ?_
  refine W_seq ?_
  refine W_cond (decide (x99 < (ln x40.Cells))) rfl (fun hc138 => ?_) (fun hc138 => ?_)
  ·have H := H.1 hc138
   refine W_skip ?_
   obtain ⟨k, hk, H⟩ := jn_elim H
   refine W_join2 (S := (List Condition) × (List Int)) (fun s ρ' w' => k s.1 s.2 ∧ ∃ (ρ : Env) (vx140 : Value) (hx141 : PH) (hx147 : PH), ρ' = setAll [(1, sl a5 sx c6), (3, pb b), (7, vx140), (8, I r14), (10, pb b71), (11, .slice a85 (List.length (List.replicate (Int.toNat (ln x40.Cells)) ((0 : Int)))) c86), (20, sl a11 pubs c12), (21, I (ln pubs)), (22, I x23), (31, sl a69 x40.Cells c70), (32, I (ln x40.Cells)), (33, I x99)] ρ ∧ But emp w w' ∧ OD hx141 vx140 s.1 ∧ Sub hx141 w' ∧ Fresh w.heap.size hx141 ∧ OS 3 hx147 emp (.slice a85 (List.length (List.replicate (Int.toNat (ln x40.Cells)) ((0 : Int)))) c86) s.2 ∧ Sub hx147 w' ∧ Fresh w.heap.size hx147 ∧ Sub hx w' ∧ Sub hx2 w' ∧ Sub hx8 w' ∧ Sub (bx b 32 [sl a g.Parents c]) w' ∧ Sub (bx b71 81 [I x40.Table.Level, sl a65 x40.Table.Vars c66, sl a67 x40.Table.Where c68, I x40.Table.Sum, sl a69 x40.Cells c70]) w' ∧ Dj hx141 hx ∧ Dj hx141 hx2 ∧ Dj hx141 hx8 ∧ Dj hx141 (bx b 32 [sl a g.Parents c]) ∧ Dj hx141 (bx b71 81 [I x40.Table.Level, sl a65 x40.Table.Vars c66, sl a67 x40.Table.Where c68, I x40.Table.Sum, sl a69 x40.Cells c70]) ∧ Dj hx147 hx ∧ Dj hx147 hx2 ∧ Dj hx147 hx8 ∧ Dj hx147 (bx b 32 [sl a g.Parents c]) ∧ Dj hx147 (bx b71 81 [I x40.Table.Level, sl a65 x40.Table.Vars c66, sl a67 x40.Table.Where c68, I x40.Table.Sum, sl a69 x40.Cells c70]) ∧ Dj hx147 hx141) ?_ ?_
   ·refine W_block ?_
    refine W_seq ?_
    refine W_region ?_
    refine LP_ev ok 0 [(35, I x99)] 1 rfl rfl ?_
    obtain ⟨x171, hi172, hx173, H⟩ := H
    refine LP_index 1 rfl rfl rfl Tryz.underlying22 ti_3 rfl rfl r64 hi172 hx173 fun a174 cs175 r176 d177 => ?_
    refine LP_load 2 rfl rfl rfl ti_3 ag_3 rfl r176 d177 ex103 fun vx178 r179 => ?_
    obtain rfl := r179.int
    refine LP_ev ok 3 [(12, I x99), (13, I x171)] 5 rfl rfl ?_
    refine LP_end _ rfl ?_
    refine W_seq ?_
    refine W_region ?_
    refine LP_ev ok 0 [(38, .slice a85 (List.length (List.replicate (Int.toNat (ln x40.Cells)) ((0 : Int)))) c86), (39, I x99)] 2 rfl rfl ?_
    obtain ⟨hi180, hl, H⟩ := H
    refine LP_indexw (v := .slice a85 (List.length (List.replicate (Int.toNat (ln x40.Cells)) ((0 : Int)))) c86) 2 rfl rfl rfl Tryz.underlying22 ti_3 rfl rfl o96 hi180 hl fun a181 wa => ?_
    refine LP_set 3 rfl rfl rfl rfl rfl wa (Le.refl emp) ⟨_, rfl, rfl⟩ ex97 fun hx182 wx183 o184 ex185 y186 dm => ?_
    refine LP_end _ rfl ?_
    refine W_seq ?_
    refine W_region ?_
    refine LP_ev ok 0 [(41, I x171), (42, .bool (decide (x171 ≥ 0)))] 2 rfl rfl ?_
    refine LP_end _ rfl ?_
    refine W_cond (decide (x171 ≥ 0)) rfl (fun hc187 => ?_) (fun hc187 => ?_)
    ·have H := H.1 hc187
     refine W_seq ?_
     refine W_region ?_
     refine LP_ev ok 0 [(43, .slice a85 (List.length (List.replicate (Int.toNat (ln x40.Cells)) ((0 : Int)))) c86), (44, I x99), (45, sl a106 out88 c107), (46, I (ln out88))] 4 rfl rfl ?_
     obtain ⟨hi188, hl189, H⟩ := H
     refine LP_indexw (v := .slice a85 (List.length (List.replicate (Int.toNat (ln x40.Cells)) ((0 : Int)))) c86) 4 rfl rfl rfl Tryz.underlying22 ti_3 rfl rfl o184 hi188 hl189 fun a190 wa191 => ?_
     refine LP_set 5 rfl rfl rfl rfl rfl wa191 (Le.refl emp) ⟨_, rfl, rfl⟩ ex185 fun hx192 wx193 o194 ex195 y196 dm197 => ?_
     refine LP_end _ rfl ?_
     refine W_region ?_
     refine LP_ev ok 0 [(48, sl a106 out88 c107), (49, I r14)] 2 rfl rfl ?_
     obtain ⟨hn198, hb199, H⟩ := H
     refine LP_make (α := Int) 2 rfl rfl rfl Tryz.underlying22 ti_3 (x0 := (0 : Int)) rfl rfl hn198 (by first | omega | (simp only [ln] at *; omega)) (by first | omega | (simp only [ln] at *; omega)) fun hx200 vx201 wx202 x203 o204 ex205 f206 => ?_
     obtain ⟨a207, c208, rfl⟩ := o204.shape
     refine LP_ev ok 3 [(51, I x171), (52, .agg #[.slice a207 (List.length (List.replicate (Int.toNat r14) ((0 : Int)))) c208, I x171])] 5 rfl rfl ?_
     have rv : RVO (un hx200 emp) (.agg #[.slice a207 (List.length (List.replicate (Int.toNat r14) ((0 : Int)))) c208, I x171]) ((Condition.mk (List.replicate (Int.toNat r14) ((0 : Int))) x171) : Condition) := ⟨_, ⟨_, _, _, _, rfl, rfl, (Dj.emp_r _), ⟨_, rfl, (OS.od o204)⟩, ⟨rfl, rfl⟩⟩, rfl⟩
     refine LP_litD (α := Condition) 5 (vs := [.agg #[.slice a207 (List.length (List.replicate (Int.toNat r14) ((0 : Int)))) c208, I x171]]) (xs := [((Condition.mk (List.replicate (Int.toNat r14) ((0 : Int))) x171) : Condition)]) rfl rfl rfl Tryz.underlying121 ti_156 rfl rfl (allO.one rv) (Sub.un ex205 (emp_sub _)) rfl rfl fun hx209 vx210 wx211 x212 o213 ex214 dm215 => ?_
     obtain ⟨a216, c217, rfl⟩ := o213.shape
     have ex218 := ((((ex92.but y186 d118).but y196 (DomLe.dj (dm _) d118 ex92)).ext x203).ext x212)
     have ex219 := ((ex92.but y186 d118).but y196 (DomLe.dj (dm _) d118 ex92))
     have ex220 := (ex219.ext x203)
     obtain ⟨hb221, H⟩ := H
     refine LP_appendD (α := Condition) 6 rfl rfl rfl Tryz.underlying121 ti_156 rfl rfl rfl o91 ex218 o213 ex214 (DomLe.dj dm215 (Dj.un_l (Dj.of_fresh ex219 f206).symm (Dj.emp_l _)) ex220).symm (by first | omega | (simp only [ln] at *; omega)) (by first | omega | (simp only [ln] at *; omega)) fun hx222 vx223 wx224 hw o225 ex226 y227 dh dm228 => ?_
     obtain ⟨a229, c230, rfl⟩ := o225.shape
     refine LP_ev ok 7 [(7, .slice a229 (List.length (out88 ++ ([((Condition.mk (List.replicate (Int.toNat r14) ((0 : Int))) x171) : Condition)]))) c230)] 8 rfl rfl ?_
     refine LP_end _ rfl ?_
     try refine W_forget [(1, sl a5 sx c6), (3, pb b), (7, .slice a229 (List.length (out88 ++ ([((Condition.mk (List.replicate (Int.toNat r14) ((0 : Int))) x171) : Condition)]))) c230), (8, I r14), (10, pb b71), (11, .slice a85 (List.length (List.replicate (Int.toNat (ln x40.Cells)) ((0 : Int)))) c86), (20, sl a11 pubs c12), (21, I (ln pubs)), (22, I x23), (31, sl a69 x40.Cells c70), (32, I (ln x40.Cells)), (33, I x99)] ⟨rfl, rfl, rfl, rfl, rfl, rfl, rfl, rfl, rfl, rfl, rfl, rfl, trivial⟩ fun ρ => ?_
     have f231 := (dm _).fresh f98 X119.size
     have X232 := (((((X119.step y186 (f98.dom _)).step y196 (f231.dom _)).stepx x203).stepx x212).step (But.dom y227 dh) (f93.dom _))
     have X234 := ((X119.step y186 (f98.dom _)).step y196 (f231.dom _))
     have f233 := f206.mono X234.size
     have X236 := (X234.stepx x203)
     have f235 := DomLe.fresh dm215 (Fresh.un f233 (emp_fresh _)) X236.size
     have X238 := (X236.stepx x212)
     have f237 := DomLe.fresh dm228 (Fresh.un f93 f235) X238.size
     have ex239 := (ex92.but y186 d118)
     have ex240 := (((ex195.ext x203).ext x212).but (But.dom y227 dh) (DomLe.dj (dm197 _) (DomLe.dj (dm _) d118 ex92) ex239).symm)
     have X242 := (X119.step y186 (f98.dom _))
     have f241 := (dm197 _).fresh f231 X242.size
     have ex243 := (((((ex101.but y186 d113).but y196 (DomLe.dj (dm _) d113 ex101)).ext x203).ext x212).but (But.dom y227 dh) d108)
     have ex244 := (((((ex102.but y186 d114).but y196 (DomLe.dj (dm _) d114 ex102)).ext x203).ext x212).but (But.dom y227 dh) d109)
     have ex245 := (((((ex103.but y186 d115).but y196 (DomLe.dj (dm _) d115 ex103)).ext x203).ext x212).but (But.dom y227 dh) d110)
     have ex246 := (((((ex104.but y186 d116).but y196 (DomLe.dj (dm _) d116 ex104)).ext x203).ext x212).but (But.dom y227 dh) d111)
     have ex247 := (((((ex105.but y186 d117).but y196 (DomLe.dj (dm _) d117 ex105)).ext x203).ext x212).but (But.dom y227 dh) d112)
     have ex248 := ((ex101.but y186 d113).but y196 (DomLe.dj (dm _) d113 ex101))
     have ex249 := (ex248.ext x203)
     have ex250 := (ex249.ext x212)
     have ex251 := ((ex102.but y186 d114).but y196 (DomLe.dj (dm _) d114 ex102))
     have ex252 := (ex251.ext x203)
     have ex253 := (ex252.ext x212)
     have ex254 := ((ex103.but y186 d115).but y196 (DomLe.dj (dm _) d115 ex103))
     have ex255 := (ex254.ext x203)
     have ex256 := (ex255.ext x212)
     have ex257 := ((ex104.but y186 d116).but y196 (DomLe.dj (dm _) d116 ex104))
     have ex258 := (ex257.ext x203)
     have ex259 := (ex258.ext x212)
     have ex260 := ((ex105.but y186 d117).but y196 (DomLe.dj (dm _) d117 ex105))
     have ex261 := (ex260.ext x203)
     have ex262 := (ex261.ext x212)
     have ex263 := (ex101.but y186 d113)
     have ex264 := (ex102.but y186 d114)
     have ex265 := (ex103.but y186 d115)
     have ex266 := (ex104.but y186 d116)
     have ex267 := (ex105.but y186 d117)
     have ex268 := (ex92.but y186 d118)
     have ex269 := (ex195.ext x203)
     have ex270 := (ex269.ext x212)
     exact ⟨(out88 ++ ([((Condition.mk (List.replicate (Int.toNat r14) ((0 : Int))) x171) : Condition)]), List.set (List.set atx (Int.toNat x99) ((-1))) (Int.toNat x99) (ln out88)), H, _, .slice a229 (List.length (out88 ++ ([((Condition.mk (List.replicate (Int.toNat r14) ((0 : Int))) x171) : Condition)]))) c230, hx222, hx192, env_eq ⟨rfl, rfl, rfl, rfl, rfl, rfl, rfl, rfl, rfl, rfl, rfl, rfl, trivial⟩, X232, o225, ex226, f237, o194, ex240, f241, ex243, ex244, ex245, ex246, ex247, (DomLe.dj dm228 (Dj.un_l d108 (DomLe.dj dm215 (Dj.un_l (Dj.of_fresh ex248 f206).symm (Dj.emp_l _)) ex249)) ex250), (DomLe.dj dm228 (Dj.un_l d109 (DomLe.dj dm215 (Dj.un_l (Dj.of_fresh ex251 f206).symm (Dj.emp_l _)) ex252)) ex253), (DomLe.dj dm228 (Dj.un_l d110 (DomLe.dj dm215 (Dj.un_l (Dj.of_fresh ex254 f206).symm (Dj.emp_l _)) ex255)) ex256), (DomLe.dj dm228 (Dj.un_l d111 (DomLe.dj dm215 (Dj.un_l (Dj.of_fresh ex257 f206).symm (Dj.emp_l _)) ex258)) ex259), (DomLe.dj dm228 (Dj.un_l d112 (DomLe.dj dm215 (Dj.un_l (Dj.of_fresh ex260 f206).symm (Dj.emp_l _)) ex261)) ex262), (DomLe.dj (dm197 _) (DomLe.dj (dm _) d113 ex101) ex263), (DomLe.dj (dm197 _) (DomLe.dj (dm _) d114 ex102) ex264), (DomLe.dj (dm197 _) (DomLe.dj (dm _) d115 ex103) ex265), (DomLe.dj (dm197 _) (DomLe.dj (dm _) d116 ex104) ex266), (DomLe.dj (dm197 _) (DomLe.dj (dm _) d117 ex105) ex267), (DomLe.dj dm228 (Dj.un_l (DomLe.dj (dm197 _) (DomLe.dj (dm _) d118 ex92) ex268).symm (DomLe.dj dm215 (Dj.un_l (Dj.of_fresh ex195 f206).symm (Dj.emp_l _)) ex269)) ex270).symm⟩
    have H := H.2 hc187
    refine W_skip ?_
    have X271 := (X119.step y186 (f98.dom _))
    have ex272 := (ex92.but y186 d118)
    have f273 := (dm _).fresh f98 X119.size
    have ex274 := (ex101.but y186 d113)
    have ex275 := (ex102.but y186 d114)
    have ex276 := (ex103.but y186 d115)
    have ex277 := (ex104.but y186 d116)
    have ex278 := (ex105.but y186 d117)
    exact ⟨(out88, List.set atx (Int.toNat x99) ((-1))), H, _, sl a106 out88 c107, hx90, hx182, env_eq ⟨rfl, rfl, rfl, rfl, rfl, rfl, rfl, rfl, rfl, rfl, rfl, rfl, trivial⟩, X271, o91, ex272, f93, o184, ex185, f273, ex274, ex275, ex276, ex277, ex278, d108, d109, d110, d111, d112, (DomLe.dj (dm _) d113 ex101), (DomLe.dj (dm _) d114 ex102), (DomLe.dj (dm _) d115 ex103), (DomLe.dj (dm _) d116 ex104), (DomLe.dj (dm _) d117 ex105), (DomLe.dj (dm _) d118 ex92)⟩
   rintro ⟨out139, atx145⟩ _ wx151 ⟨H, ρ, vx140, hx141, hx147, rfl, HF⟩
   revert HF
   refine bb9 fun X170 o142 ex143 f144 o148 ex149 f150 ex152 => ?_
   refine bb9 fun ex153 ex154 ex155 ex156 d159 d160 d161 d162 => ?_
   refine bb7 fun d163 d164 d165 d166 d167 d168 d169 => ?_
   subst hk
   obtain ⟨a157, c158, rfl⟩ := o142.shape
   refine W_region ?_
   refine LP_ev ok 0 [(55, I (wr (x99 + 1))), (33, I (wr (x99 + 1)))] 2 rfl rfl ?_
   refine LP_end _ rfl ?_
   exact ⟨(out139, atx145, wr (x99 + 1)), ⟨H.1, _, sl a157 out139 c158, hx141, hx147, env_eq ⟨rfl, rfl, rfl, rfl, rfl, rfl, rfl, rfl, rfl, rfl, rfl, rfl, trivial⟩, X170, o142, ex143, f144, o148, ex149, f150, ex152, ex153, ex154, ex155, ex156, d159, d160, d161, d162, d163, d164, d165, d166, d167, d168, d169⟩, H.2⟩
  have H := H.2 hc138
  refine W_exit ?_
  refine (if_pos rfl).mpr ?_
  refine W_seq ?_
  refine W_region ?_
  refine LP_ev ok 0 [(56, I r14), (57, I 0)] 2 rfl rfl ?_
  refine LP_end _ rfl ?_
  refine W_block ?_
  obtain ⟨J300, m301, Hx302, H⟩ := H
  refine W_loop (S := (List Condition) × Int) (fun s ρ' w' => J300 s.1 s.2 ∧ ∃ (ρ : Env) (hx281 : PH), ρ' = setAll [(1, sl a5 sx c6), (3, pb b), (7, sl a106 out88 c107), (8, I r14), (10, pb b71), (11, .slice a85 (List.length (List.replicate (Int.toNat (ln x40.Cells)) ((0 : Int)))) c86), (20, sl a11 pubs c12), (21, I (ln pubs)), (22, I x23), (56, I r14), (57, I s.2)] ρ ∧ But emp w w' ∧ OD hx281 (sl a106 out88 c107) s.1 ∧ Sub hx281 w' ∧ Fresh w.heap.size hx281 ∧ Sub hx w' ∧ Sub hx2 w' ∧ Sub hx8 w' ∧ Sub (bx b 32 [sl a g.Parents c]) w' ∧ Sub (bx b71 81 [I x40.Table.Level, sl a65 x40.Table.Vars c66, sl a67 x40.Table.Where c68, I x40.Table.Sum, sl a69 x40.Cells c70]) w' ∧ Sub hx95 w' ∧ Dj hx281 hx ∧ Dj hx281 hx2 ∧ Dj hx281 hx8 ∧ Dj hx281 (bx b 32 [sl a g.Parents c]) ∧ Dj hx281 (bx b71 81 [I x40.Table.Level, sl a65 x40.Table.Vars c66, sl a67 x40.Table.Where c68, I x40.Table.Sum, sl a69 x40.Cells c70]) ∧ Dj hx281 hx95) (fun s => m301 s.1 s.2) (out88, 0) ⟨Hx302, _, hx90, env_eq ⟨rfl, rfl, rfl, rfl, rfl, rfl, rfl, rfl, rfl, rfl, rfl, trivial⟩, X119, o91, ex92, f93, ex101, ex102, ex103, ex104, ex105, ex97, d108, d109, d110, d111, d112, d118.symm⟩ ?_
  rintro ⟨out279, x285⟩ _ wx286 ⟨Hi, ρ, hx281, rfl, HF⟩
  revert HF
  refine bb9 fun X299 o282 ex283 f284 ex287 ex288 ex289 ex290 => ?_
  refine bb8 fun ex291 ex292 d293 d294 d295 d296 d297 d298 => ?_
  have H := H out279 x285 Hi
  refine W_seq ?_
  refine W_region ?_
  refine LP_ev ok 0 [(58, .bool (decide (x285 < r14)))] 1 rfl rfl ?_
  refine LP_end _ rfl ?_
  refine W_seq ?_
  refine W_cond (decide (x285 < r14)) rfl (fun hc304 => ?_) (fun hc304 => ?_)
  ·have H := H.1 hc304
   refine W_skip ?_
   obtain ⟨k325, hk326, H⟩ := jn_elim H
   refine W_join2 (S := (List Condition)) (fun s ρ' w' => k325 s ∧ ∃ (ρ : Env) (hx307 : PH), ρ' = setAll [(1, sl a5 sx c6), (3, pb b), (7, sl a106 out88 c107), (8, I r14), (10, pb b71), (11, .slice a85 (List.length (List.replicate (Int.toNat (ln x40.Cells)) ((0 : Int)))) c86), (20, sl a11 pubs c12), (21, I (ln pubs)), (22, I x23), (56, I r14), (57, I x285)] ρ ∧ But emp w w' ∧ OD hx307 (sl a106 out88 c107) s ∧ Sub hx307 w' ∧ Fresh w.heap.size hx307 ∧ Sub hx w' ∧ Sub hx2 w' ∧ Sub hx8 w' ∧ Sub (bx b 32 [sl a g.Parents c]) w' ∧ Sub (bx b71 81 [I x40.Table.Level, sl a65 x40.Table.Vars c66, sl a67 x40.Table.Where c68, I x40.Table.Sum, sl a69 x40.Cells c70]) w' ∧ Sub hx95 w' ∧ Dj hx307 hx ∧ Dj hx307 hx2 ∧ Dj hx307 hx8 ∧ Dj hx307 (bx b 32 [sl a g.Parents c]) ∧ Dj hx307 (bx b71 81 [I x40.Table.Level, sl a65 x40.Table.Vars c66, sl a67 x40.Table.Where c68, I x40.Table.Sum, sl a69 x40.Cells c70]) ∧ Dj hx307 hx95) ?_ ?_
   ·refine W_block ?_
    refine W_seq ?_
    refine W_region ?_
    refine LP_ev ok 0 [(59, I x285), (14, I x285)] 2 rfl rfl ?_
    refine LP_end _ rfl ?_
    refine W_seq ?_
    refine W_open mix fun wx327 x328 => ?_
    refine AP_game 13 [[], [], [], [2], [], [], [], [4, 5, 6], [0, 1, 2, 3, 4, 5, 6, 7], [0, 1, 2, 3, 4, 5, 6, 7, 8], [0, 1, 2, 3, 4, 5, 6, 7, 8, 9], [0, 1, 2, 3, 4, 5, 6, 7, 8, 9], [0, 1, 2, 3, 4, 5, 6, 7, 8, 9, 10], [0, 1, 2, 3, 4, 5, 6, 7, 8, 9, 10, 11, 12]] [[(3, none)], [(1, none)], [(10, none)], [(63, some 2)], [(3, none)], [(1, none)], [(14, none)], [(65, some 4), (66, some 5), (67, some 6)], [(61, some 0), (62, some 1), (64, some 3), (68, some 7)], [(69, some 8)], [(60, some 9)], [(60, some 9)], [(70, some 10)]] [(1, none), (3, none), (7, none), (8, none), (10, none), (11, none), (14, none), (15, some 12), (20, none), (21, none), (22, none), (56, none), (57, none), (71, some 11)] [(0, false), (1, false), (2, false), (3, false), (4, false), (5, false), (6, false), (7, true), (8, false), (9, false), (10, false), (11, false), (12, false)] (by kernel_rfl) (by kernel_rfl) ?_
    have ex329 := (ex290.ext x328)
    refine GS_r1 [(3, pb b)] (.agg #[sl a g.Parents c]) rfl rfl (fun _ h => h) (fun _ w e => ex_ldbox rfl ti_32 ag_32 (fun h => by cases h) rfl e rfl rfl) ex329 ?_
    refine GS_ev ok [(1, sl a5 sx c6)] (sl a5 sx c6) rfl rfl (fun _ h => h) (fun _ => rfl) ?_
    refine GS_ev ok [(10, pb b71)] (pb b71) rfl rfl (fun _ h => h) (fun _ => rfl) ?_
    have ex330 := (ex291.ext x328)
    refine GS_r1 [(63, pb b71)] (.agg #[I x40.Table.Level, sl a65 x40.Table.Vars c66, sl a67 x40.Table.Where c68, I x40.Table.Sum]) rfl rfl (fun _ h => h) (fun _ w e => ex_ldbox rfl ti_62 ag_62 (fun h => by cases h) rfl e rfl rfl) ex330 ?_
    refine GS_r1 [(3, pb b)] (.agg #[sl a g.Parents c]) rfl rfl (fun _ h => h) (fun _ w e => ex_ldbox rfl ti_32 ag_32 (fun h => by cases h) rfl e rfl rfl) ex329 ?_
    refine GS_ev ok [(1, sl a5 sx c6)] (sl a5 sx c6) rfl rfl (fun _ h => h) (fun _ => rfl) ?_
    refine GS_ev ok [(14, I x285)] (I x285) rfl rfl (fun _ h => h) (fun _ => rfl) ?_
    refine GS_lp [(65, .agg #[sl a g.Parents c]), (66, sl a5 sx c6), (67, I x285)] rfl rfl (fun _ h => h) rfl fun ρ wx331 x332 => ?_
    have ex334 := ((ex287.ext x328).ext x332)
    have ex335 := ((ex288.ext x328).ext x332)
    refine LP_call 0 rfl rfl rfl cal_90 rfl (impl_typeAt_w _ _ _ _ H wx331 r ex334 r3 ex335) ?_
    rintro _ wx336 ⟨r333, vx338, hx339, H, rfl, x337, o340, ex341, f342⟩
    obtain ⟨a343, c344, rfl⟩ := o340.shape
    have ex345 := ((ex330.ext x332).ext x337)
    have ex346 := ((ex329.ext x332).ext x337)
    refine LP_gs ⟨⟨.inl rfl, .inr ex345, .inr ex346, trivial⟩, ?_⟩
    obtain ⟨r347, r348, Hd, H⟩ := H
    have ex349 := (ex334.ext x337)
    have ex350 := (ex335.ext x337)
    have ex351 := (((ex289.ext x328).ext x332).ext x337)
    refine GS_q [(61, .agg #[sl a g.Parents c]), (62, sl a5 sx c6), (64, .agg #[I x40.Table.Level, sl a65 x40.Table.Vars c66, sl a67 x40.Table.Where c68, I x40.Table.Sum]), (68, .agg #[I r333.Area, I r333.House, sl a343 r333.Values c344])] (.tuple #[I r347, I r348]) [hx, hx2, hx8, hx8, hx339] [.agg #[sl a g.Parents c], sl a5 sx c6, .agg #[I x40.Table.Level, sl a65 x40.Table.Vars c66, sl a67 x40.Table.Where c68, I x40.Table.Sum], .agg #[I r333.Area, I r333.House, sl a343 r333.Values c344]] rfl rfl (fun _ h => h) rfl cal_89 (fun _ => rfl) (fun w e => (impl_contribution_w _ _ _ _ _ Hd w r e.1 r3 e.2.1 r60 e.2.2.1 r62 e.2.2.2.1 o340.readf e.2.2.2.2.1).mono (fun _ _ h => by obtain ⟨_, _, ⟨rfl, rfl⟩, rfl, x⟩ := h; exact ⟨rfl, x⟩)) ⟨ex349, ex350, ex351, ex351, ex341, trivial⟩ ?_
    refine GS_ev ok [(69, .tuple #[I r347, I r348])] (.tuple #[I r347, I r348]) rfl rfl (fun _ h => h) (fun _ => rfl) ?_
    refine GS_ev ok [(60, .tuple #[I r347, I r348])] (I r347) rfl rfl (fun _ h => h) (fun _ => rfl) ?_
    refine GS_ev ok [(60, .tuple #[I r347, I r348])] (I r348) rfl rfl (fun _ h => h) (fun _ => rfl) ?_
    refine GS_ev ok [(70, I r347)] (I r347) rfl rfl (fun _ h => h) (fun _ => rfl) ?_
    intro wx352 x353 ρ hn354
    refine AP_forget [(1, sl a5 sx c6), (3, pb b), (7, sl a106 out88 c107), (8, I r14), (10, pb b71), (11, .slice a85 (List.length (List.replicate (Int.toNat (ln x40.Cells)) ((0 : Int)))) c86), (14, I x285), (15, I r347), (20, sl a11 pubs c12), (21, I (ln pubs)), (22, I x23), (56, I r14), (57, I x285), (71, I r348)] (by exact hn354) fun ρ => ?_
    refine AP_tail 13 [[], [], [], [2], [], [], [], [4, 5, 6], [0, 1, 2, 3, 4, 5, 6, 7], [0, 1, 2, 3, 4, 5, 6, 7, 8], [0, 1, 2, 3, 4, 5, 6, 7, 8, 9], [0, 1, 2, 3, 4, 5, 6, 7, 8, 9], [0, 1, 2, 3, 4, 5, 6, 7, 8, 9, 10], [0, 1, 2, 3, 4, 5, 6, 7, 8, 9, 10, 11, 12]] (by kernel_rfl) ?_
    refine LP_ev ok 13 [(16, I r348)] 14 rfl rfl ?_
    refine LP_end _ rfl ?_
    obtain ⟨k357, hk358, H⟩ := jn_elim H
    refine W_join2 (S := Bool) (fun s ρ' w' => k357 s ∧ ∃ (ρ : Env), ρ' = setAll [(1, sl a5 sx c6), (3, pb b), (7, sl a106 out88 c107), (8, I r14), (10, pb b71), (11, .slice a85 (List.length (List.replicate (Int.toNat (ln x40.Cells)) ((0 : Int)))) c86), (14, I x285), (15, I r347), (16, I r348), (20, sl a11 pubs c12), (21, I (ln pubs)), (22, I x23), (56, I r14), (57, I x285), (80, .bool s)] ρ ∧ wx352 = w') ?_ ?_
    ·refine W_region ?_
     refine LP_ev ok 0 [(72, I r347), (73, .bool (decide (r347 ≥ 0))), (74, .bool (decide (r347 ≥ 0)))] 3 rfl rfl ?_
     refine LP_split 74 (decide (r347 ≥ 0)) rfl (fun hc359 => ?_) (fun hc359 => ?_)
     ·have H := H.1 hc359
      refine LP_ev ok 3 [(75, .slice a85 (List.length (List.replicate (Int.toNat (ln x40.Cells)) ((0 : Int)))) c86), (76, I r347)] 5 rfl rfl ?_
      obtain ⟨x360, hi361, hx362, H⟩ := H
      refine LP_index 5 rfl rfl rfl Tryz.underlying22 ti_3 rfl rfl o96.readf hi361 hx362 fun a363 cs364 r365 d366 => ?_
      have ex367 := ((((ex292.ext x328).ext x332).ext x337).ext x353)
      refine LP_load 6 rfl rfl rfl ti_3 ag_3 rfl r365 d366 ex367 fun vx368 r369 => ?_
      obtain rfl := r369.int
      refine LP_ev ok 7 [(79, .bool (decide (x360 ≥ 0))), (80, .bool (decide (x360 ≥ 0)))] 9 rfl rfl ?_
      refine LP_end _ rfl ?_
      exact ⟨decide (x360 ≥ 0), H, _, env_eq ⟨rfl, rfl, rfl, rfl, rfl, rfl, rfl, rfl, rfl, rfl, rfl, rfl, rfl, rfl, rfl, trivial⟩, rfl⟩
     have H := H.2 hc359
     refine LP_ev ok 3 [(75, undef), (76, undef), (77, undef), (78, undef), (79, undef), (80, .bool false)] 9 rfl rfl ?_
     refine LP_end _ rfl ?_
     exact ⟨false, H, _, env_eq ⟨rfl, rfl, rfl, rfl, rfl, rfl, rfl, rfl, rfl, rfl, rfl, rfl, rfl, rfl, rfl, trivial⟩, rfl⟩
    rintro x355 _ _ ⟨H, ρ, rfl, rfl⟩
    subst hk358
    refine W_cond (x355) rfl (fun hc370 => ?_) (fun hc370 => ?_)
    ·have H := H.1 hc370
     refine W_region ?_
     refine LP_ev ok 0 [(81, sl a106 out88 c107), (82, .slice a85 (List.length (List.replicate (Int.toNat (ln x40.Cells)) ((0 : Int)))) c86), (83, I r347)] 3 rfl rfl ?_
     obtain ⟨x371, hi372, hx373, H⟩ := H
     refine LP_index 3 rfl rfl rfl Tryz.underlying22 ti_3 rfl rfl o96.readf hi372 hx373 fun a374 cs375 r376 d377 => ?_
     have ex378 := ((((ex292.ext x328).ext x332).ext x337).ext x353)
     refine LP_load 4 rfl rfl rfl ti_3 ag_3 rfl r376 d377 ex378 fun vx379 r380 => ?_
     obtain rfl := r380.int
     obtain ⟨x381, hi382, hx383, H⟩ := H
     refine LP_indexB (v := sl a106 out88 c107) 5 rfl rfl rfl Tryz.underlying121 ti_156 rfl rfl o282 hi382 hx383 fun a384 c385 hx386 rest r387 bw => ?_
     refine LP_ev ok 6 [(87, .pointer (some (Addr.add a384 0)))] 7 rfl rfl ?_
     obtain ⟨u388, hx389, rest390, rfl, bw391⟩ := Condition_bw0 bw
     have o392 := bw391.od
     obtain ⟨a393, c394, rfl⟩ := o392.shape
     have ex395 := ((((ex283.ext x328).ext x332).ext x337).ext x353)
     refine LP_ldpart (off := 0) 7 (v := sl a393 x381.Amounts c394) rfl rfl rfl ti_22 ag_22 (fun _ => rfl) rfl r387 ex395 rfl rfl ?_
     have ex396 := Sub.le ex395 bw391.le
     have o397 : OS 3 hx389 emp (sl a393 x381.Amounts c394) x381.Amounts := OD.flat o392
     refine LP_ev ok 8 [(89, I x285), (90, I r348)] 10 rfl rfl ?_
     obtain ⟨hi398, hl399, H⟩ := H
     refine LP_indexw (v := sl a393 x381.Amounts c394) 10 rfl rfl rfl Tryz.underlying22 ti_3 rfl rfl o397 hi398 hl399 fun a400 wa401 => ?_
     refine LP_set 11 rfl rfl rfl rfl rfl wa401 (Le.refl emp) ⟨_, rfl, rfl⟩ ex396 fun hx402 wx403 o404 ex405 y406 dm407 => ?_
     obtain ⟨bw408, o409, dd⟩ := BwG.turn bw391 (OS.od o404) (Dom.of dm407)
     have ex410 := BwG.sub bw391 ex395 ex405 y406
     have y411 := BwG.but bw391 y406
     refine LP_end _ rfl ?_
     have X412 := (((((X299.stepx x328).stepx x332).stepx x337).stepx x353).step y411 (f284.dom _))
     have X414 := ((((X299.stepx x328).stepx x332).stepx x337).stepx x353)
     have f413 := ((fun n => Dom.le dd n) _).fresh f284 X414.size
     have ex415 := ((ex349.ext x353).but y411 d293)
     have ex416 := ((ex350.ext x353).but y411 d294)
     have ex417 := ((ex351.ext x353).but y411 d295)
     have ex418 := ((((ex329.ext x332).ext x337).ext x353).but y411 d296)
     have ex419 := ((((ex330.ext x332).ext x337).ext x353).but y411 d297)
     have ex420 := (ex378.but y411 d298)
     have ex421 := (ex349.ext x353)
     have ex422 := (ex350.ext x353)
     have ex423 := (ex351.ext x353)
     have ex424 := (((ex329.ext x332).ext x337).ext x353)
     have ex425 := (((ex330.ext x332).ext x337).ext x353)
     exact ⟨List.set out279 (Int.toNat x371) ({x381 with Amounts := List.set x381.Amounts (Int.toNat x285) r348} : Condition), H, _, (un hx402 rest390), env_eq ⟨rfl, rfl, rfl, rfl, rfl, rfl, rfl, rfl, rfl, rfl, rfl, trivial⟩, X412, o409, ex410, f413, ex415, ex416, ex417, ex418, ex419, ex420, (DomLe.dj ((fun n => Dom.le dd n) _) d293 ex421), (DomLe.dj ((fun n => Dom.le dd n) _) d294 ex422), (DomLe.dj ((fun n => Dom.le dd n) _) d295 ex423), (DomLe.dj ((fun n => Dom.le dd n) _) d296 ex424), (DomLe.dj ((fun n => Dom.le dd n) _) d297 ex425), (DomLe.dj ((fun n => Dom.le dd n) _) d298 ex378)⟩
    have H := H.2 hc370
    refine W_skip ?_
    have X426 := ((((X299.stepx x328).stepx x332).stepx x337).stepx x353)
    have ex427 := ((((ex283.ext x328).ext x332).ext x337).ext x353)
    have ex428 := (ex349.ext x353)
    have ex429 := (ex350.ext x353)
    have ex430 := (ex351.ext x353)
    have ex431 := (((ex329.ext x332).ext x337).ext x353)
    have ex432 := (((ex330.ext x332).ext x337).ext x353)
    have ex433 := ((((ex292.ext x328).ext x332).ext x337).ext x353)
    exact ⟨out279, H, _, hx281, env_eq ⟨rfl, rfl, rfl, rfl, rfl, rfl, rfl, rfl, rfl, rfl, rfl, trivial⟩, X426, o282, ex427, f284, ex428, ex429, ex430, ex431, ex432, ex433, d293, d294, d295, d296, d297, d298⟩
   rintro out305 _ wx311 ⟨H, ρ, hx307, rfl, HF⟩
   revert HF
   refine bb9 fun X324 o308 ex309 f310 ex312 ex313 ex314 ex315 => ?_
   refine bb8 fun ex316 ex317 d318 d319 d320 d321 d322 d323 => ?_
   subst hk326
   refine W_region ?_
   refine LP_ev ok 0 [(92, I (wr (x285 + 1))), (57, I (wr (x285 + 1)))] 2 rfl rfl ?_
   refine LP_end _ rfl ?_
   exact ⟨(out305, wr (x285 + 1)), ⟨H.1, _, hx307, env_eq ⟨rfl, rfl, rfl, rfl, rfl, rfl, rfl, rfl, rfl, rfl, rfl, trivial⟩, X324, o308, ex309, f310, ex312, ex313, ex314, ex315, ex316, ex317, d318, d319, d320, d321, d322, d323⟩, H.2⟩
  have H := H.2 hc304
  refine W_exit ?_
  refine (if_pos rfl).mpr ?_
  refine W_region ?_
  refine LP_ev ok 0 [(93, I (wr (x23 + 1))), (22, I (wr (x23 + 1)))] 2 rfl rfl ?_
  refine LP_end _ rfl ?_
  exact ⟨(out279, wr (x23 + 1)), ⟨H.1, _, sl a106 out88 c107, hx281, env_eq ⟨rfl, rfl, rfl, rfl, rfl, rfl, rfl, trivial⟩, X299, o282, ex283, f284, ex287, ex288, ex289, ex290, d293, d294, d295, d296⟩, H.2⟩
 have H := H.2 hc
 refine W_exit ?_
 refine (if_pos rfl).mpr ?_
 refine W_seq ?_
 refine W_region ?_
 refine LP_ev ok 0 [(94, sl a29 out c30), (6, sl a29 out c30)] 2 rfl rfl ?_
 refine LP_end _ rfl ?_
 refine W_ret ?_
 exact ⟨_, Ret_of [sl a29 out c30] ⟨⟨rfl, rfl⟩, trivial⟩, _, _, _, H, rfl, X34.ext, o, ex21, f22⟩

theorem impl_FirstSurvey_1_w (counts : List Int) (c1 : List Int) (Q : (List Int) → Prop) (H : impl_FirstSurvey_1 counts c1 Q) (w : World) {vx : Value} {hx : PH} (r : RS hx vx counts) (ex : Sub hx w) {vx2 : Value} {hx3 : PH} (r4 : OS 3 hx3 emp vx2 c1) (ex5 : Sub hx3 w) {b : Nat} (ex8 : Sub (bx b 22 [vx2]) w) (d : Dj hx3 (bx b 22 [vx2])) (d9 : Dj hx3 hx) (d10 : Dj (bx b 22 [vx2]) hx) :
  CallsTo Tryz.prog 66 #[vx, pb b] w fun v w' => ∃ m1 v1_ k1, Q m1 ∧ v = .tuple #[] ∧ But (un hx3 (bx b 22 [vx2])) w w' ∧ OS 3 k1 emp v1_ m1 ∧ Sub k1 w' ∧ DomLe (un hx3 (bx b 22 [vx2])) w.heap.size k1 ∧ Sub (bx b 22 [v1_]) w' ∧ Dj k1 (bx b 22 [v1_]) ∧ CanV v1_ m1 := by
 obtain ⟨a, c, rfl⟩ := r.shape
 obtain ⟨a6, c7, rfl⟩ := r4.shape
 refine enter (args := [sl a counts c, pb b]) 6 Tryz.func66 rfl rfl rfl ?_
 refine W_forget [(0, sl a counts c), (1, pb b)] ⟨rfl, rfl, trivial⟩ fun ρ => ?_
 obtain ⟨M, hM⟩ : ∃ M : PH, M = (un hx3 (bx b 22 [sl a6 c1 c7])) := ⟨_, rfl⟩
 have D : Dom M hx3 := by subst hM; exact (Dom.l _ _)
 have D11 : Dom M (bx b 22 [sl a6 c1 c7]) := by subst hM; exact (Dom.trans (Dom.r _ _) (Dom.refl _))
 have X := But.refl M w
 refine W_region ?_
 refine LP_ldbox 0 (v := sl a6 c1 c7) rfl rfl rfl ti_22 ag_22 (fun _ => rfl) rfl ex8 rfl rfl ?_
 refine LP_ev ok 1 [(4, sl a counts c)] 2 rfl rfl ?_
 obtain ⟨hb, H⟩ := H
 refine LP_appendf (α := Int) 2 rfl rfl rfl Tryz.underlying22 ti_3 rfl rfl rfl r4 ex5 r ex (by first | omega | (simp only [ln] at *; omega)) (by first | omega | (simp only [ln] at *; omega)) fun hx12 vx13 wx o ex14 y dm => ?_
 obtain ⟨a15, c16, rfl⟩ := o.shape
 have ex20 := (ex8.but y d)
 refine LP_stbox 3 (vs := [.slice a15 (List.length (c1 ++ counts)) c16]) (cs' := [.slice a15 (List.length (c1 ++ counts)) c16]) rfl rfl rfl ti_22 rfl rfl rfl rfl rfl ex20 rfl rfl fun wx17 ex18 y19 => ?_
 refine LP_end _ rfl ?_
 have ex21 := (ex14.but y19 (DomLe.dj dm d ex8).symm)
 obtain ⟨hz, H⟩ := H
 have X22 := ((X.step y (Dom.le D _)).step y19 (Dom.le D11 _))
 subst hM
 exact ⟨_, Ret_of [] trivial, _, _, _, H, rfl, X22, o, ex21, (DomLe.trans (Dom.le D _) dm X.size), ex18, (Dj.box (DomLe.dj dm d ex8).symm).symm, (can_of o.readf hz)⟩

theorem impl_solutions_1_impl_FirstSurvey_1_w (counts : List Int) (c1 : Int) (c3 : List Int) (c14 : Int) (Q : Bool → Int → (List Int) → Prop) (H : impl_solutions_1_impl_FirstSurvey_1 counts c1 c3 c14 Q) (w : World) {vx : Value} {hx : PH} (r : RS hx vx counts) (ex : Sub hx w) {b : Nat} (ex2 : Sub (bx b 3 [I c1]) w) {vx4 : Value} {hx5 : PH} (r6 : OS 3 hx5 emp vx4 c3) (ex7 : Sub hx5 w) {b10 : Nat} (ex11 : Sub (bx b10 22 [vx4]) w) {b12 : Nat} (ex13 : Sub (bx b12 104 [.func (.func 66) #[] #[pb b10]]) w) {b15 : Nat} (ex16 : Sub (bx b15 3 [I c14]) w) (d : Dj (bx b 3 [I c1]) hx5) (d17 : Dj (bx b 3 [I c1]) (bx b10 22 [vx4])) (d18 : Dj hx5 (bx b10 22 [vx4])) (d19 : Dj (bx b 3 [I c1]) hx) (d20 : Dj (bx b 3 [I c1]) (bx b12 104 [.func (.func 66) #[] #[pb b10]])) (d21 : Dj (bx b 3 [I c1]) (bx b15 3 [I c14])) (d22 : Dj hx5 hx) (d23 : Dj hx5 (bx b12 104 [.func (.func 66) #[] #[pb b10]])) (d24 : Dj hx5 (bx b15 3 [I c14])) (d25 : Dj (bx b10 22 [vx4]) hx) (d26 : Dj (bx b10 22 [vx4]) (bx b12 104 [.func (.func 66) #[] #[pb b10]])) (d27 : Dj (bx b10 22 [vx4]) (bx b15 3 [I c14])) :
  CallsTo Tryz.prog 121 #[vx, pb b, pb b12, pb b15] w fun v w' => ∃ r0 m1_0 m2 v2_ k2, Q r0 m1_0 m2 ∧ v = .bool r0 ∧ But (un (bx b 3 [I c1]) (un hx5 (bx b10 22 [vx4]))) w w' ∧ Sub (bx b 3 [I m1_0]) w' ∧ OS 3 k2 emp v2_ m2 ∧ Sub k2 w' ∧ DomLe (un (bx b 3 [I c1]) (un hx5 (bx b10 22 [vx4]))) w.heap.size k2 ∧ Sub (bx b10 22 [v2_]) w' ∧ Dj (bx b 3 [I m1_0]) k2 ∧ Dj k2 (bx b10 22 [v2_]) ∧ CanV v2_ m2 := by
 obtain ⟨a, c, rfl⟩ := r.shape
 obtain ⟨a8, c9, rfl⟩ := r6.shape
 refine enter (args := [sl a counts c, pb b, pb b12, pb b15]) 14 Tryz.func121 rfl rfl rfl ?_
 refine W_forget [(0, sl a counts c), (1, pb b), (2, pb b12), (3, pb b15)] ⟨rfl, rfl, rfl, rfl, trivial⟩ fun ρ => ?_
 obtain ⟨M, hM⟩ : ∃ M : PH, M = (un (bx b 3 [I c1]) (un hx5 (bx b10 22 [sl a8 c3 c9]))) := ⟨_, rfl⟩
 have D : Dom M (bx b 3 [I c1]) := by subst hM; exact (Dom.l _ _)
 have D28 : Dom M hx5 := by subst hM; exact (Dom.trans (Dom.r _ _) (Dom.l _ _))
 have D29 : Dom M (bx b10 22 [sl a8 c3 c9]) := by subst hM; exact (Dom.trans (Dom.r _ _) (Dom.trans (Dom.r _ _) (Dom.refl _)))
 have X := But.refl M w
 refine W_seq ?_
 refine W_region ?_
 refine LP_ev ok 0 [(5, .bool false)] 1 rfl rfl ?_
 refine LP_end _ rfl ?_
 refine W_seq ?_
 refine W_region ?_
 refine LP_ldbox 0 (v := I c1) rfl rfl rfl ti_3 ag_3 (fun _ => rfl) rfl ex2 rfl rfl ?_
 refine LP_ev ok 1 [(7, I (wr (c1 + 1)))] 2 rfl rfl ?_
 refine LP_stbox 2 (vs := [I (wr (c1 + 1))]) (cs' := [I (wr (c1 + 1))]) rfl rfl rfl ti_3 rfl rfl rfl rfl rfl ex2 rfl rfl fun wx ex30 y => ?_
 refine LP_end _ rfl ?_
 refine W_seq ?_
 refine W_region ?_
 have ex31 := (ex13.but y d20)
 refine LP_ldbox 0 (v := .func (.func 66) #[] #[pb b10]) rfl rfl rfl ti_104 ag_104 (fun _ => rfl) rfl ex31 rfl rfl ?_
 refine LP_ev ok 1 [(9, sl a counts c)] 2 rfl rfl ?_
 have ex33 := (ex.but y d19)
 have ex34 := (ex7.but y d)
 have ex35 := (ex11.but y d17)
 refine LP_callc 2 rfl rfl rfl rfl cal_66 rfl rfl (impl_FirstSurvey_1_w _ _ _ H wx r ex33 r6 ex34 ex35 d18 d22 d25) ?_
 rintro _ wx36 ⟨r32, vx39, hx37, H, rfl, x, HF⟩
 revert HF
 refine bb6 fun o ex38 dm ex40 d41 cn => ?_
 obtain ⟨a42, c43, rfl⟩ := o.shape
 refine LP_end _ rfl ?_
 refine W_seq ?_
 refine W_region ?_
 have ex44 := (ex30.but x (Dj.un_l (Dj.box d.symm.symm).symm (Dj.box d17.symm.symm).symm))
 refine LP_ldbox 0 (v := I (wr (c1 + 1))) rfl rfl rfl ti_3 ag_3 (fun _ => rfl) rfl ex44 rfl rfl ?_
 have ex45 := ((ex16.but y d21).but x (Dj.un_l d24 d27))
 refine LP_ldbox 1 (v := I c14) rfl rfl rfl ti_3 ag_3 (fun _ => rfl) rfl ex45 rfl rfl ?_
 refine LP_ev ok 2 [(13, .bool (decide ((wr (c1 + 1)) < c14))), (5, .bool (decide ((wr (c1 + 1)) < c14)))] 4 rfl rfl ?_
 refine LP_end _ rfl ?_
 refine W_ret ?_
 have X46 := (X.step y (Dom.le D _))
 have X47 := (X46.step x (DomLe.un (Dom.le D28 _) (Dom.le D29 _)))
 subst hM
 exact ⟨_, Ret_of [.bool (decide ((wr (c1 + 1)) < c14))] ⟨⟨rfl, rfl⟩, trivial⟩, _, _, _, _, _, H, rfl, X47, ex44, o, ex38, (DomLe.trans (DomLe.un (Dom.le D28 _) (Dom.le D29 _)) dm X46.size), ex40, (DomLe.dj dm (Dj.un_l (Dj.box d.symm.symm).symm (Dj.box d17.symm.symm).symm) ex30).symm, d41, cn⟩

theorem impl_search_add_impl_solutions_1_impl_FirstSurvey_1_w (x : Search) (c13 : Int) (c15 : List Int) (c26 : Int) (k : Int) (n : Int) (Q : (List Int) → (List Int) → Prop) (H : impl_search_add_impl_solutions_1_impl_FirstSurvey_1 x c13 c15 c26 k n Q) (w : World) {vx : Value} {hx : PH} (r : RS hx vx x.Conditions) (ex : Sub hx w) {vx1 : Value} {hx2 : PH} (r3 : OS 3 hx2 emp vx1 x.Counts) (ex4 : Sub hx2 w) {vx7 : Value} {hx8 : PH} (r9 : OS 3 hx8 emp vx7 x.Sums) (ex10 : Sub hx8 w) {b : Nat} (ex14 : Sub (bx b 3 [I c13]) w) {vx16 : Value} {hx17 : PH} (r18 : RS hx17 vx16 c15) (ex19 : Sub hx17 w) {b22 : Nat} (ex23 : Sub (bx b22 22 [vx16]) w) {b24 : Nat} (ex25 : Sub (bx b24 104 [.func (.func 66) #[] #[pb b22]]) w) {b27 : Nat} (ex28 : Sub (bx b27 3 [I c26]) w) {b29 : Nat} (ex30 : Sub (bx b29 153 [vx, vx1, vx7, .func (.func 121) #[] #[pb b, pb b24, pb b27]]) w) (d : Dj hx2 hx8) (d31 : Dj hx2 (bx b29 153 [vx, vx1, vx7, .func (.func 121) #[] #[pb b, pb b24, pb b27]])) (d32 : Dj hx8 (bx b29 153 [vx, vx1, vx7, .func (.func 121) #[] #[pb b, pb b24, pb b27]])) (d33 : Dj hx2 hx) (d34 : Dj hx2 (bx b 3 [I c13])) (d35 : Dj hx2 hx17) (d36 : Dj hx2 (bx b22 22 [vx16])) (d37 : Dj hx2 (bx b24 104 [.func (.func 66) #[] #[pb b22]])) (d38 : Dj hx2 (bx b27 3 [I c26])) (d39 : Dj hx8 hx) (d40 : Dj hx8 (bx b 3 [I c13])) (d41 : Dj hx8 hx17) (d42 : Dj hx8 (bx b22 22 [vx16])) (d43 : Dj hx8 (bx b24 104 [.func (.func 66) #[] #[pb b22]])) (d44 : Dj hx8 (bx b27 3 [I c26])) (d45 : Dj (bx b29 153 [vx, vx1, vx7, .func (.func 121) #[] #[pb b, pb b24, pb b27]]) hx) (d46 : Dj (bx b29 153 [vx, vx1, vx7, .func (.func 121) #[] #[pb b, pb b24, pb b27]]) (bx b 3 [I c13])) (d47 : Dj (bx b29 153 [vx, vx1, vx7, .func (.func 121) #[] #[pb b, pb b24, pb b27]]) hx17) (d48 : Dj (bx b29 153 [vx, vx1, vx7, .func (.func 121) #[] #[pb b, pb b24, pb b27]]) (bx b22 22 [vx16])) (d49 : Dj (bx b29 153 [vx, vx1, vx7, .func (.func 121) #[] #[pb b, pb b24, pb b27]]) (bx b24 104 [.func (.func 66) #[] #[pb b22]])) (d50 : Dj (bx b29 153 [vx, vx1, vx7, .func (.func 121) #[] #[pb b, pb b24, pb b27]]) (bx b27 3 [I c26])) :
  CallsTo Tryz.prog 164 #[pb b29, I k, I n] w fun v w' => ∃ m1 m2 v1_ k1 v2_ k2, Q m1 m2 ∧ v = .tuple #[] ∧ But (un hx2 (un hx8 (bx b29 153 [vx, vx1, vx7, .func (.func 121) #[] #[pb b, pb b24, pb b27]]))) w w' ∧ OS 3 k1 emp v1_ m1 ∧ Sub k1 w' ∧ DomLe (un hx2 (un hx8 (bx b29 153 [vx, vx1, vx7, .func (.func 121) #[] #[pb b, pb b24, pb b27]]))) w.heap.size k1 ∧ OS 3 k2 emp v2_ m2 ∧ Sub k2 w' ∧ DomLe (un hx2 (un hx8 (bx b29 153 [vx, vx1, vx7, .func (.func 121) #[] #[pb b, pb b24, pb b27]]))) w.heap.size k2 ∧ Sub (bx b29 153 [vx, v1_, v2_, .func (.func 121) #[] #[pb b, pb b24, pb b27]]) w' ∧ Dj k1 k2 ∧ Dj k1 (bx b29 153 [vx, v1_, v2_, .func (.func 121) #[] #[pb b, pb b24, pb b27]]) ∧ Dj k2 (bx b29 153 [vx, v1_, v2_, .func (.func 121) #[] #[pb b, pb b24, pb b27]]) := by
 obtain ⟨a, c, rfl⟩ := r.shape
 obtain ⟨a5, c6, rfl⟩ := r3.shape
 obtain ⟨a11, c12, rfl⟩ := r9.shape
 obtain ⟨a20, c21, rfl⟩ := r18.shape
 refine enter (args := [pb b29, I k, I n]) 45 Tryz.func164 rfl rfl rfl ?_
 refine W_forget [(0, pb b29), (1, I k), (2, I n)] ⟨rfl, rfl, rfl, trivial⟩ fun ρ => ?_
 obtain ⟨M, hM⟩ : ∃ M : PH, M = (un hx2 (un hx8 (bx b29 153 [sl a x.Conditions c, sl a5 x.Counts c6, sl a11 x.Sums c12, .func (.func 121) #[] #[pb b, pb b24, pb b27]]))) := ⟨_, rfl⟩
 have D : Dom M hx2 := by subst hM; exact (Dom.l _ _)
 have D51 : Dom M hx8 := by subst hM; exact (Dom.trans (Dom.r _ _) (Dom.l _ _))
 have D52 : Dom M (bx b29 153 [sl a x.Conditions c, sl a5 x.Counts c6, sl a11 x.Sums c12, .func (.func 121) #[] #[pb b, pb b24, pb b27]]) := by subst hM; exact (Dom.trans (Dom.r _ _) (Dom.trans (Dom.r _ _) (Dom.refl _)))
 have X := But.refl M w
 refine W_seq ?_
 refine W_region ?_
 refine LP_ev ok 0 [(8, pb b29), (9, pb b29), (10, .pointer (some ⟨b29, 1, none⟩))] 3 rfl rfl ?_
 refine LP_ldbox 3 (v := sl a5 x.Counts c6) rfl rfl rfl ti_22 ag_22 (fun _ => rfl) rfl ex30 rfl rfl ?_
 refine LP_ev ok 4 [(12, I k)] 5 rfl rfl ?_
 obtain ⟨x53, hi, hx54, H⟩ := H
 refine LP_index 5 rfl rfl rfl Tryz.underlying22 ti_3 rfl rfl r3.readf hi hx54 fun a55 cs r56 d57 => ?_
 refine LP_load 6 rfl rfl rfl ti_3 ag_3 rfl r56 d57 ex4 fun vx58 r59 => ?_
 obtain rfl := r59.int
 refine LP_ev ok 7 [(15, I n), (16, I (wr (x53 + n)))] 9 rfl rfl ?_
 obtain ⟨hi60, hl, H⟩ := H
 refine LP_indexw (v := sl a5 x.Counts c6) 9 rfl rfl rfl Tryz.underlying22 ti_3 rfl rfl r3 hi60 hl fun a61 wa => ?_
 refine LP_set 10 rfl rfl rfl rfl rfl wa (Le.refl emp) ⟨_, rfl, rfl⟩ ex4 fun hx62 wx o ex63 y dm => ?_
 refine LP_end _ rfl ?_
 refine W_seq ?_
 refine W_region ?_
 refine LP_ev ok 0 [(18, pb b29), (19, pb b29), (20, pb b29)] 3 rfl rfl ?_
 have ex64 := (ex30.but y d31)
 refine LP_ldbox 3 (v := sl a x.Conditions c) rfl rfl rfl ti_121 ag_121 (fun _ => rfl) rfl ex64 rfl rfl ?_
 refine LP_ev ok 4 [(22, I (ln x.Conditions)), (23, I 0)] 6 rfl rfl ?_
 refine LP_end _ rfl ?_
 refine W_block ?_
 have X88 := (X.step y (Dom.le D _))
 have ex89 := (ex10.but y d)
 have ex90 := (ex.but y d33)
 have ex91 := (ex14.but y d34)
 have ex92 := (ex19.but y d35)
 have ex93 := (ex23.but y d36)
 have ex94 := (ex25.but y d37)
 have ex95 := (ex28.but y d38)
 obtain ⟨J, m, Hx, H⟩ := H
 refine W_loop (S := Int × (List Int)) (fun s ρ' w' => J s.1 s.2 ∧ ∃ (ρ : Env) (hx67 : PH), ρ' = setAll [(0, pb b29), (1, I k), (2, I n), (21, sl a x.Conditions c), (22, I (ln x.Conditions)), (23, I s.1)] ρ ∧ But M w w' ∧ OS 3 hx67 emp (sl a11 x.Sums c12) s.2 ∧ Sub hx67 w' ∧ DomLe M w.heap.size hx67 ∧ Sub hx w' ∧ Sub hx62 w' ∧ Sub (bx b 3 [I c13]) w' ∧ Sub hx17 w' ∧ Sub (bx b22 22 [sl a20 c15 c21]) w' ∧ Sub (bx b24 104 [.func (.func 66) #[] #[pb b22]]) w' ∧ Sub (bx b27 3 [I c26]) w' ∧ Sub (bx b29 153 [sl a x.Conditions c, sl a5 x.Counts c6, sl a11 x.Sums c12, .func (.func 121) #[] #[pb b, pb b24, pb b27]]) w' ∧ Dj hx67 hx ∧ Dj hx67 hx62 ∧ Dj hx67 (bx b 3 [I c13]) ∧ Dj hx67 hx17 ∧ Dj hx67 (bx b22 22 [sl a20 c15 c21]) ∧ Dj hx67 (bx b24 104 [.func (.func 66) #[] #[pb b22]]) ∧ Dj hx67 (bx b27 3 [I c26]) ∧ Dj hx67 (bx b29 153 [sl a x.Conditions c, sl a5 x.Counts c6, sl a11 x.Sums c12, .func (.func 121) #[] #[pb b, pb b24, pb b27]])) (fun s => m s.1 s.2) (0, x.Sums) ⟨Hx, _, hx8, env_eq ⟨rfl, rfl, rfl, rfl, rfl, rfl, trivial⟩, X88, r9, ex89, (Dom.le D51 _), ex90, ex63, ex91, ex92, ex93, ex94, ex95, ex64, d39, (DomLe.dj (dm _) d ex10).symm, d40, d41, d42, d43, d44, d32⟩ ?_
 rintro ⟨x65, sums⟩ _ wx70 ⟨Hi, ρ, hx67, rfl, HF⟩
 revert HF
 refine bb9 fun X87 o68 ex69 f ex71 ex72 ex73 ex74 => ?_
 refine bb9 fun ex75 ex76 ex77 ex78 d79 d80 d81 d82 => ?_
 refine bb4 fun d83 d84 d85 d86 => ?_
 have H := H x65 sums Hi
 refine W_seq ?_
 refine W_region ?_
 refine LP_ev ok 0 [(24, .bool (decide (x65 < (ln x.Conditions))))] 1 rfl rfl ?_
 refine LP_end _ rfl ?_
 refine W_seq ?_
 refine W_cond (decide (x65 < (ln x.Conditions))) rfl (fun hc => ?_) (fun hc => ?_)
 ·have H := H.1 hc
  refine W_skip ?_
  refine W_seq ?_
  refine W_block ?_
  refine W_seq ?_
  refine W_region ?_
  refine LP_ev ok 0 [(25, I x65)] 1 rfl rfl ?_
  obtain ⟨x96, hi97, hx98, H⟩ := H
  refine LP_index 1 rfl rfl rfl Tryz.underlying121 ti_156 rfl rfl r hi97 hx98 fun a99 cs100 r101 d102 => ?_
  have d103 := d102
  obtain ⟨u, rfl, r104⟩ := Condition_rd d103
  obtain ⟨a105, c106, rfl⟩ := r104.shape
  refine LP_load 2 rfl rfl rfl ti_156 ag_156 rfl r101 d102 ex71 fun vx107 r108 => ?_
  obtain ⟨u109, rfl, r110⟩ := Condition_rv r108
  obtain ⟨a111, c112, rfl⟩ := r110.shape
  refine LP_alloc 3 rfl rfl rfl ti_156 rfl fun b113 wx114 x115 ex116 f117 => ?_
  refine LP_ev ok 4 [(6, I x65)] 5 rfl rfl ?_
  refine LP_stbox 5 (vs := [sl a111 x96.Amounts c112, I x96.Value]) (cs' := [sl a111 x96.Amounts c112, I x96.Value]) rfl rfl rfl ti_156 rfl rfl rfl rfl rfl ex116 rfl rfl fun wx118 ex119 y120 => ?_
  refine LP_end _ rfl ?_
  refine W_open mix fun wx121 x122 => ?_
  refine AP_game 14 [[], [0], [0, 1], [0, 1, 2], [], [0, 1, 2, 3, 4], [0, 1, 2, 3, 4, 5], [], [], [8], [], [8, 9, 10], [8, 9, 10, 11], [7, 8, 9, 10, 11, 12], [0, 1, 2, 3, 4, 5, 6, 7, 8, 9, 10, 11, 12, 13], [0, 1, 2, 3, 4, 5, 6, 7, 8, 9, 10, 11, 12, 13, 14], [0, 1, 2, 3, 4, 5, 6, 7, 8, 9, 10, 11, 12, 13, 14, 15]] [[(0, none)], [(28, some 0)], [(29, some 1)], [(30, some 2)], [(6, none)], [(31, some 3), (32, some 4)], [(33, some 5)], [(2, none)], [(7, none)], [(36, some 8)], [(1, none)], [(37, some 9), (38, some 10)], [(39, some 11)], [(35, some 7), (40, some 12)]] [(0, none), (1, none), (2, none), (21, none), (22, none), (23, none), (31, some 3), (32, some 4), (34, some 6), (41, some 13)] [(0, false), (1, false), (2, false), (3, false), (4, false), (5, false), (6, false), (7, false), (8, false), (9, false), (10, false), (11, false), (12, false), (13, false)] (by kernel_rfl) (by kernel_rfl) ?_
  refine GS_ev ok [(0, pb b29)] (pb b29) rfl rfl (fun _ h => h) (fun _ => rfl) ?_
  refine GS_ev ok [(28, pb b29)] (pb b29) rfl rfl (fun _ h => h) (fun _ => rfl) ?_
  refine GS_ev ok [(29, pb b29)] (.pointer (some ⟨b29, 2, none⟩)) rfl rfl (fun _ h => h) (fun _ => rfl) ?_
  have ex123 := (((ex78.ext x115).but y120 (Dj.of_fresh ex78 f117).symm).ext x122)
  refine GS_r1 [(30, .pointer (some ⟨b29, 2, none⟩))] (sl a11 x.Sums c12) rfl rfl (fun _ h => h) (fun _ w e => ex_ldbox rfl ti_22 ag_22 (fun _ => rfl) rfl e rfl rfl) ex123 ?_
  refine GS_ev ok [(6, I x65)] (I x65) rfl rfl (fun _ h => h) (fun _ => rfl) ?_
  obtain ⟨x124, hi125, hx126, H⟩ := H
  obtain ⟨a127, cs128, hx131, r129, d130⟩ := run_indexAt Tryz.underlying22 ti_3 o68.readf .i64 _ x124 hi125 hx126
  refine GS_r0 [(31, sl a11 x.Sums c12), (32, I x65)] (.pointer (some a127)) rfl rfl (fun _ h => h) (fun _ _ => ex_index rfl rfl rfl (hx131 _)) ?_
  obtain ⟨vx132, hx134, r133⟩ := run_loadAt ti_3 ag_3 r129 d130
  obtain rfl := r133.int
  have ex135 := (((ex69.ext x115).but y120 (Dj.of_fresh ex69 f117).symm).ext x122)
  refine GS_r1 [(33, .pointer (some a127))] (I x124) rfl rfl (fun _ h => h) (fun _ w e => ex_load rfl rfl (hx134 w e)) ex135 ?_
  refine GS_ev ok [(2, I n)] (I n) rfl rfl (fun _ h => h) (fun _ => rfl) ?_
  refine GS_ev ok [(7, pb b113)] (pb b113) rfl rfl (fun _ h => h) (fun _ => rfl) ?_
  have ex136 := (ex119.ext x122)
  refine GS_r1 [(36, pb b113)] (sl a111 x96.Amounts c112) rfl rfl (fun _ h => h) (fun _ w e => ex_ldbox rfl ti_22 ag_22 (fun _ => rfl) rfl e rfl rfl) ex136 ?_
  refine GS_ev ok [(1, I k)] (I k) rfl rfl (fun _ h => h) (fun _ => rfl) ?_
  obtain ⟨x137, hi138, hx139, H⟩ := H
  obtain ⟨a140, cs141, hx144, r142, d143⟩ := run_indexAt Tryz.underlying22 ti_3 r110 .i64 _ x137 hi138 hx139
  refine GS_r0 [(37, sl a111 x96.Amounts c112), (38, I k)] (.pointer (some a140)) rfl rfl (fun _ h => h) (fun _ _ => ex_index rfl rfl rfl (hx144 _)) ?_
  obtain ⟨vx145, hx147, r146⟩ := run_loadAt ti_3 ag_3 r142 d143
  obtain rfl := r146.int
  have ex148 := (((ex71.ext x115).but y120 (Dj.of_fresh ex71 f117).symm).ext x122)
  refine GS_r1 [(39, .pointer (some a140))] (I x137) rfl rfl (fun _ h => h) (fun _ w e => ex_load rfl rfl (hx147 w e)) ex148 ?_
  refine GS_ev ok [(35, I n), (40, I x137)] (I (wr (n * x137))) rfl rfl (fun _ h => h) (fun _ => rfl) ?_
  intro wx149 x150 ρ hn
  refine AP_forget [(0, pb b29), (1, I k), (2, I n), (21, sl a x.Conditions c), (22, I (ln x.Conditions)), (23, I x65), (31, sl a11 x.Sums c12), (32, I x65), (34, I x124), (41, I (wr (n * x137)))] (by exact hn) fun ρ => ?_
  refine AP_tail 14 [[], [0], [0, 1], [0, 1, 2], [], [0, 1, 2, 3, 4], [0, 1, 2, 3, 4, 5], [], [], [8], [], [8, 9, 10], [8, 9, 10, 11], [7, 8, 9, 10, 11, 12], [0, 1, 2, 3, 4, 5, 6, 7, 8, 9, 10, 11, 12, 13], [0, 1, 2, 3, 4, 5, 6, 7, 8, 9, 10, 11, 12, 13, 14], [0, 1, 2, 3, 4, 5, 6, 7, 8, 9, 10, 11, 12, 13, 14, 15]] (by kernel_rfl) ?_
  refine LP_ev ok 14 [(42, I (wr (x124 + (wr (n * x137)))))] 15 rfl rfl ?_
  obtain ⟨hi151, hl152, H⟩ := H
  refine LP_indexw (v := sl a11 x.Sums c12) 15 rfl rfl rfl Tryz.underlying22 ti_3 rfl rfl o68 hi151 hl152 fun a153 wa154 => ?_
  have ex161 := (ex135.ext x150)
  refine LP_set 16 rfl rfl rfl rfl rfl wa154 (Le.refl emp) ⟨_, rfl, rfl⟩ ex161 fun hx155 wx156 o157 ex158 y159 dm160 => ?_
  refine LP_end _ rfl ?_
  refine W_region ?_
  refine LP_ev ok 0 [(44, I (wr (x65 + 1))), (23, I (wr (x65 + 1)))] 2 rfl rfl ?_
  refine LP_end _ rfl ?_
  have f162 := f117.mono X87.size
  have X163 := (((((X87.stepx x115).step y120 (f162.dom _)).stepx x122).stepx x150).step y159 f)
  have X164 := ((((X87.stepx x115).step y120 (f162.dom _)).stepx x122).stepx x150)
  have ex165 := ((ex148.ext x150).but y159 d79)
  have ex166 := (((((ex72.ext x115).but y120 (Dj.of_fresh ex72 f117).symm).ext x122).ext x150).but y159 d80)
  have ex167 := (((((ex73.ext x115).but y120 (Dj.of_fresh ex73 f117).symm).ext x122).ext x150).but y159 d81)
  have ex168 := (((((ex74.ext x115).but y120 (Dj.of_fresh ex74 f117).symm).ext x122).ext x150).but y159 d82)
  have ex169 := (((((ex75.ext x115).but y120 (Dj.of_fresh ex75 f117).symm).ext x122).ext x150).but y159 d83)
  have ex170 := (((((ex76.ext x115).but y120 (Dj.of_fresh ex76 f117).symm).ext x122).ext x150).but y159 d84)
  have ex171 := (((((ex77.ext x115).but y120 (Dj.of_fresh ex77 f117).symm).ext x122).ext x150).but y159 d85)
  have ex172 := ((ex123.ext x150).but y159 d86)
  have ex173 := (ex148.ext x150)
  have ex174 := ((((ex72.ext x115).but y120 (Dj.of_fresh ex72 f117).symm).ext x122).ext x150)
  have ex175 := ((((ex73.ext x115).but y120 (Dj.of_fresh ex73 f117).symm).ext x122).ext x150)
  have ex176 := ((((ex74.ext x115).but y120 (Dj.of_fresh ex74 f117).symm).ext x122).ext x150)
  have ex177 := ((((ex75.ext x115).but y120 (Dj.of_fresh ex75 f117).symm).ext x122).ext x150)
  have ex178 := ((((ex76.ext x115).but y120 (Dj.of_fresh ex76 f117).symm).ext x122).ext x150)
  have ex179 := ((((ex77.ext x115).but y120 (Dj.of_fresh ex77 f117).symm).ext x122).ext x150)
  have ex180 := (ex123.ext x150)
  exact ⟨(wr (x65 + 1), List.set sums (Int.toNat x65) (wr (x124 + (wr (n * x137))))), ⟨H.1, _, hx155, env_eq ⟨rfl, rfl, rfl, rfl, rfl, rfl, trivial⟩, X163, o157, ex158, (DomLe.trans f (dm160 _) X164.size), ex165, ex166, ex167, ex168, ex169, ex170, ex171, ex172, (DomLe.dj (dm160 _) d79 ex173), (DomLe.dj (dm160 _) d80 ex174), (DomLe.dj (dm160 _) d81 ex175), (DomLe.dj (dm160 _) d82 ex176), (DomLe.dj (dm160 _) d83 ex177), (DomLe.dj (dm160 _) d84 ex178), (DomLe.dj (dm160 _) d85 ex179), (DomLe.dj (dm160 _) d86 ex180)⟩, H.2⟩
 have H := H.2 hc
 refine W_exit ?_
 refine (if_pos rfl).mpr ?_
 subst hM
 exact ⟨_, Ret_of [] trivial, _, _, _, _, _, _, H, rfl, X87, o, ex72, (DomLe.trans (Dom.le D _) (dm _) X.size), o68, ex69, f, ex78, d80.symm, (Dj.box (DomLe.dj (dm _) d31 ex30).symm).symm, d86⟩

theorem impl_search_from_impl_solutions_1_impl_FirstSurvey_1_w (x : Search) (c13 : Int) (c15 : List Int) (c26 : Int) (k : Int) (left : Int) (Q : Bool → (List Int) → (List Int) → Int → (List Int) → Prop) (H : impl_search_from_impl_solutions_1_impl_FirstSurvey_1 x c13 c15 c26 k left Q) (w : World) {vx : Value} {hx : PH} (r : RS hx vx x.Conditions) (ex : Sub hx w) {vx1 : Value} {hx2 : PH} (r3 : OS 3 hx2 emp vx1 x.Counts) (ex4 : Sub hx2 w) {vx7 : Value} {hx8 : PH} (r9 : OS 3 hx8 emp vx7 x.Sums) (ex10 : Sub hx8 w) {b : Nat} (ex14 : Sub (bx b 3 [I c13]) w) {vx16 : Value} {hx17 : PH} (r18 : OS 3 hx17 emp vx16 c15) (ex19 : Sub hx17 w) (cn : CanV vx16 c15) {b22 : Nat} (ex23 : Sub (bx b22 22 [vx16]) w) {b24 : Nat} (ex25 : Sub (bx b24 104 [.func (.func 66) #[] #[pb b22]]) w) {b27 : Nat} (ex28 : Sub (bx b27 3 [I c26]) w) {b29 : Nat} (ex30 : Sub (bx b29 153 [vx, vx1, vx7, .func (.func 121) #[] #[pb b, pb b24, pb b27]]) w) (d : Dj hx2 hx8) (d31 : Dj hx2 (bx b 3 [I c13])) (d32 : Dj hx2 hx17) (d33 : Dj hx2 (bx b22 22 [vx16])) (d34 : Dj hx2 (bx b29 153 [vx, vx1, vx7, .func (.func 121) #[] #[pb b, pb b24, pb b27]])) (d35 : Dj hx8 (bx b 3 [I c13])) (d36 : Dj hx8 hx17) (d37 : Dj hx8 (bx b22 22 [vx16])) (d38 : Dj hx8 (bx b29 153 [vx, vx1, vx7, .func (.func 121) #[] #[pb b, pb b24, pb b27]])) (d39 : Dj (bx b 3 [I c13]) hx17) (d40 : Dj (bx b 3 [I c13]) (bx b22 22 [vx16])) (d41 : Dj (bx b 3 [I c13]) (bx b29 153 [vx, vx1, vx7, .func (.func 121) #[] #[pb b, pb b24, pb b27]])) (d42 : Dj hx17 (bx b22 22 [vx16])) (d43 : Dj hx17 (bx b29 153 [vx, vx1, vx7, .func (.func 121) #[] #[pb b, pb b24, pb b27]])) (d44 : Dj (bx b22 22 [vx16]) (bx b29 153 [vx, vx1, vx7, .func (.func 121) #[] #[pb b, pb b24, pb b27]])) (d45 : Dj hx2 hx) (d46 : Dj hx2 (bx b24 104 [.func (.func 66) #[] #[pb b22]])) (d47 : Dj hx2 (bx b27 3 [I c26])) (d48 : Dj hx8 hx) (d49 : Dj hx8 (bx b24 104 [.func (.func 66) #[] #[pb b22]])) (d50 : Dj hx8 (bx b27 3 [I c26])) (d51 : Dj (bx b 3 [I c13]) hx) (d52 : Dj (bx b 3 [I c13]) (bx b24 104 [.func (.func 66) #[] #[pb b22]])) (d53 : Dj (bx b 3 [I c13]) (bx b27 3 [I c26])) (d54 : Dj hx17 hx) (d55 : Dj hx17 (bx b24 104 [.func (.func 66) #[] #[pb b22]])) (d56 : Dj hx17 (bx b27 3 [I c26])) (d57 : Dj (bx b22 22 [vx16]) hx) (d58 : Dj (bx b22 22 [vx16]) (bx b24 104 [.func (.func 66) #[] #[pb b22]])) (d59 : Dj (bx b22 22 [vx16]) (bx b27 3 [I c26])) (d60 : Dj (bx b29 153 [vx, vx1, vx7, .func (.func 121) #[] #[pb b, pb b24, pb b27]]) hx) (d61 : Dj (bx b29 153 [vx, vx1, vx7, .func (.func 121) #[] #[pb b, pb b24, pb b27]]) (bx b24 104 [.func (.func 66) #[] #[pb b22]])) (d62 : Dj (bx b29 153 [vx, vx1, vx7, .func (.func 121) #[] #[pb b, pb b24, pb b27]]) (bx b27 3 [I c26])) :
  CallsTo Tryz.prog 122 #[pb b29, I k, I left] w fun v w' => ∃ r0 m1 m2 m3_0 m4 v1_ k1 v2_ k2 v4_ k4, Q r0 m1 m2 m3_0 m4 ∧ v = .bool r0 ∧ But (un hx2 (un hx8 (un (bx b 3 [I c13]) (un hx17 (un (bx b22 22 [vx16]) (bx b29 153 [vx, vx1, vx7, .func (.func 121) #[] #[pb b, pb b24, pb b27]])))))) w w' ∧ OS 3 k1 emp v1_ m1 ∧ Sub k1 w' ∧ DomLe (un hx2 (un hx8 (un (bx b 3 [I c13]) (un hx17 (un (bx b22 22 [vx16]) (bx b29 153 [vx, vx1, vx7, .func (.func 121) #[] #[pb b, pb b24, pb b27]])))))) w.heap.size k1 ∧ OS 3 k2 emp v2_ m2 ∧ Sub k2 w' ∧ DomLe (un hx2 (un hx8 (un (bx b 3 [I c13]) (un hx17 (un (bx b22 22 [vx16]) (bx b29 153 [vx, vx1, vx7, .func (.func 121) #[] #[pb b, pb b24, pb b27]])))))) w.heap.size k2 ∧ Sub (bx b 3 [I m3_0]) w' ∧ OS 3 k4 emp v4_ m4 ∧ Sub k4 w' ∧ DomLe (un hx2 (un hx8 (un (bx b 3 [I c13]) (un hx17 (un (bx b22 22 [vx16]) (bx b29 153 [vx, vx1, vx7, .func (.func 121) #[] #[pb b, pb b24, pb b27]])))))) w.heap.size k4 ∧ Sub (bx b22 22 [v4_]) w' ∧ Sub (bx b29 153 [vx, v1_, v2_, .func (.func 121) #[] #[pb b, pb b24, pb b27]]) w' ∧ Dj k1 k2 ∧ Dj k1 (bx b 3 [I m3_0]) ∧ Dj k1 k4 ∧ Dj k1 (bx b22 22 [v4_]) ∧ Dj k1 (bx b29 153 [vx, v1_, v2_, .func (.func 121) #[] #[pb b, pb b24, pb b27]]) ∧ Dj k2 (bx b 3 [I m3_0]) ∧ Dj k2 k4 ∧ Dj k2 (bx b22 22 [v4_]) ∧ Dj k2 (bx b29 153 [vx, v1_, v2_, .func (.func 121) #[] #[pb b, pb b24, pb b27]]) ∧ Dj (bx b 3 [I m3_0]) k4 ∧ Dj k4 (bx b22 22 [v4_]) ∧ Dj k4 (bx b29 153 [vx, v1_, v2_, .func (.func 121) #[] #[pb b, pb b24, pb b27]]) ∧ CanV v4_ m4 := by
 obtain ⟨S, mu, H0, HS⟩ := H
 have key : ∀ (m : Nat) (x : Search) (c13 : Int) (c15 : List Int) (c26 : Int) (k : Int) (left : Int) (Q : Bool → (List Int) → (List Int) → Int → (List Int) → Prop), S x c13 c15 c26 k left Q → mu x c13 c15 c26 k left < m → ∀ (w : World) {vx : Value} {hx : PH} (r : RS hx vx x.Conditions) (ex : Sub hx w) {vx1 : Value} {hx2 : PH} (r3 : OS 3 hx2 emp vx1 x.Counts) (ex4 : Sub hx2 w) {vx7 : Value} {hx8 : PH} (r9 : OS 3 hx8 emp vx7 x.Sums) (ex10 : Sub hx8 w) {b : Nat} (ex14 : Sub (bx b 3 [I c13]) w) {vx16 : Value} {hx17 : PH} (r18 : OS 3 hx17 emp vx16 c15) (ex19 : Sub hx17 w) (cn : CanV vx16 c15) {b22 : Nat} (ex23 : Sub (bx b22 22 [vx16]) w) {b24 : Nat} (ex25 : Sub (bx b24 104 [.func (.func 66) #[] #[pb b22]]) w) {b27 : Nat} (ex28 : Sub (bx b27 3 [I c26]) w) {b29 : Nat} (ex30 : Sub (bx b29 153 [vx, vx1, vx7, .func (.func 121) #[] #[pb b, pb b24, pb b27]]) w) (d : Dj hx2 hx8) (d31 : Dj hx2 (bx b 3 [I c13])) (d32 : Dj hx2 hx17) (d33 : Dj hx2 (bx b22 22 [vx16])) (d34 : Dj hx2 (bx b29 153 [vx, vx1, vx7, .func (.func 121) #[] #[pb b, pb b24, pb b27]])) (d35 : Dj hx8 (bx b 3 [I c13])) (d36 : Dj hx8 hx17) (d37 : Dj hx8 (bx b22 22 [vx16])) (d38 : Dj hx8 (bx b29 153 [vx, vx1, vx7, .func (.func 121) #[] #[pb b, pb b24, pb b27]])) (d39 : Dj (bx b 3 [I c13]) hx17) (d40 : Dj (bx b 3 [I c13]) (bx b22 22 [vx16])) (d41 : Dj (bx b 3 [I c13]) (bx b29 153 [vx, vx1, vx7, .func (.func 121) #[] #[pb b, pb b24, pb b27]])) (d42 : Dj hx17 (bx b22 22 [vx16])) (d43 : Dj hx17 (bx b29 153 [vx, vx1, vx7, .func (.func 121) #[] #[pb b, pb b24, pb b27]])) (d44 : Dj (bx b22 22 [vx16]) (bx b29 153 [vx, vx1, vx7, .func (.func 121) #[] #[pb b, pb b24, pb b27]])) (d45 : Dj hx2 hx) (d46 : Dj hx2 (bx b24 104 [.func (.func 66) #[] #[pb b22]])) (d47 : Dj hx2 (bx b27 3 [I c26])) (d48 : Dj hx8 hx) (d49 : Dj hx8 (bx b24 104 [.func (.func 66) #[] #[pb b22]])) (d50 : Dj hx8 (bx b27 3 [I c26])) (d51 : Dj (bx b 3 [I c13]) hx) (d52 : Dj (bx b 3 [I c13]) (bx b24 104 [.func (.func 66) #[] #[pb b22]])) (d53 : Dj (bx b 3 [I c13]) (bx b27 3 [I c26])) (d54 : Dj hx17 hx) (d55 : Dj hx17 (bx b24 104 [.func (.func 66) #[] #[pb b22]])) (d56 : Dj hx17 (bx b27 3 [I c26])) (d57 : Dj (bx b22 22 [vx16]) hx) (d58 : Dj (bx b22 22 [vx16]) (bx b24 104 [.func (.func 66) #[] #[pb b22]])) (d59 : Dj (bx b22 22 [vx16]) (bx b27 3 [I c26])) (d60 : Dj (bx b29 153 [vx, vx1, vx7, .func (.func 121) #[] #[pb b, pb b24, pb b27]]) hx) (d61 : Dj (bx b29 153 [vx, vx1, vx7, .func (.func 121) #[] #[pb b, pb b24, pb b27]]) (bx b24 104 [.func (.func 66) #[] #[pb b22]])) (d62 : Dj (bx b29 153 [vx, vx1, vx7, .func (.func 121) #[] #[pb b, pb b24, pb b27]]) (bx b27 3 [I c26])), CallsTo Tryz.prog 122 #[pb b29, I k, I left] w fun v w' => ∃ r0 m1 m2 m3_0 m4 v1_ k1 v2_ k2 v4_ k4, Q r0 m1 m2 m3_0 m4 ∧ v = .bool r0 ∧ But (un hx2 (un hx8 (un (bx b 3 [I c13]) (un hx17 (un (bx b22 22 [vx16]) (bx b29 153 [vx, vx1, vx7, .func (.func 121) #[] #[pb b, pb b24, pb b27]])))))) w w' ∧ OS 3 k1 emp v1_ m1 ∧ Sub k1 w' ∧ DomLe (un hx2 (un hx8 (un (bx b 3 [I c13]) (un hx17 (un (bx b22 22 [vx16]) (bx b29 153 [vx, vx1, vx7, .func (.func 121) #[] #[pb b, pb b24, pb b27]])))))) w.heap.size k1 ∧ OS 3 k2 emp v2_ m2 ∧ Sub k2 w' ∧ DomLe (un hx2 (un hx8 (un (bx b 3 [I c13]) (un hx17 (un (bx b22 22 [vx16]) (bx b29 153 [vx, vx1, vx7, .func (.func 121) #[] #[pb b, pb b24, pb b27]])))))) w.heap.size k2 ∧ Sub (bx b 3 [I m3_0]) w' ∧ OS 3 k4 emp v4_ m4 ∧ Sub k4 w' ∧ DomLe (un hx2 (un hx8 (un (bx b 3 [I c13]) (un hx17 (un (bx b22 22 [vx16]) (bx b29 153 [vx, vx1, vx7, .func (.func 121) #[] #[pb b, pb b24, pb b27]])))))) w.heap.size k4 ∧ Sub (bx b22 22 [v4_]) w' ∧ Sub (bx b29 153 [vx, v1_, v2_, .func (.func 121) #[] #[pb b, pb b24, pb b27]]) w' ∧ Dj k1 k2 ∧ Dj k1 (bx b 3 [I m3_0]) ∧ Dj k1 k4 ∧ Dj k1 (bx b22 22 [v4_]) ∧ Dj k1 (bx b29 153 [vx, v1_, v2_, .func (.func 121) #[] #[pb b, pb b24, pb b27]]) ∧ Dj k2 (bx b 3 [I m3_0]) ∧ Dj k2 k4 ∧ Dj k2 (bx b22 22 [v4_]) ∧ Dj k2 (bx b29 153 [vx, v1_, v2_, .func (.func 121) #[] #[pb b, pb b24, pb b27]]) ∧ Dj (bx b 3 [I m3_0]) k4 ∧ Dj k4 (bx b22 22 [v4_]) ∧ Dj k4 (bx b29 153 [vx, v1_, v2_, .func (.func 121) #[] #[pb b, pb b24, pb b27]]) ∧ CanV v4_ m4 := by
  intro m
  induction m with
  | zero => intro x c13 c15 c26 k left Q _ hm; exact absurd hm (Nat.not_lt_zero _)
  | succ m ih =>
   intro x c13 c15 c26 k left Q H0 hm w vx hx r ex vx1 hx2 r3 ex4 vx7 hx8 r9 ex10 b ex14 vx16 hx17 r18 ex19 cn b22 ex23 b24 ex25 b27 ex28 b29 ex30 d d31 d32 d33 d34 d35 d36 d37 d38 d39 d40 d41 d42 d43 d44 d45 d46 d47 d48 d49 d50 d51 d52 d53 d54 d55 d56 d57 d58 d59 d60 d61 d62
   have H := HS x c13 c15 c26 k left Q H0
   obtain ⟨a, c, rfl⟩ := r.shape
   obtain ⟨a5, c6, rfl⟩ := r3.shape
   obtain ⟨a11, c12, rfl⟩ := r9.shape
   obtain ⟨a20, c21, rfl⟩ := r18.shape
   refine enter (args := [pb b29, I k, I left]) 110 Tryz.func122 rfl rfl rfl ?_
   refine W_forget [(0, pb b29), (1, I k), (2, I left)] ⟨rfl, rfl, rfl, trivial⟩ fun ρ => ?_
   obtain ⟨M, hM⟩ : ∃ M : PH, M = (un hx2 (un hx8 (un (bx b 3 [I c13]) (un hx17 (un (bx b22 22 [sl a20 c15 c21]) (bx b29 153 [sl a x.Conditions c, sl a5 x.Counts c6, sl a11 x.Sums c12, .func (.func 121) #[] #[pb b, pb b24, pb b27]])))))) := ⟨_, rfl⟩
   have D : Dom M hx2 := by subst hM; exact (Dom.l _ _)
   have D63 : Dom M hx8 := by subst hM; exact (Dom.trans (Dom.r _ _) (Dom.l _ _))
   have D64 : Dom M (bx b 3 [I c13]) := by subst hM; exact (Dom.trans (Dom.r _ _) (Dom.trans (Dom.r _ _) (Dom.l _ _)))
   have D65 : Dom M hx17 := by subst hM; exact (Dom.trans (Dom.r _ _) (Dom.trans (Dom.r _ _) (Dom.trans (Dom.r _ _) (Dom.l _ _))))
   have D66 : Dom M (bx b22 22 [sl a20 c15 c21]) := by subst hM; exact (Dom.trans (Dom.r _ _) (Dom.trans (Dom.r _ _) (Dom.trans (Dom.r _ _) (Dom.trans (Dom.r _ _) (Dom.l _ _)))))
   have D67 : Dom M (bx b29 153 [sl a x.Conditions c, sl a5 x.Counts c6, sl a11 x.Sums c12, .func (.func 121) #[] #[pb b, pb b24, pb b27]]) := by subst hM; exact (Dom.trans (Dom.r _ _) (Dom.trans (Dom.r _ _) (Dom.trans (Dom.r _ _) (Dom.trans (Dom.r _ _) (Dom.trans (Dom.r _ _) (Dom.refl _))))))
   have X := But.refl M w
   refine W_seq ?_
   refine W_region ?_
   refine LP_ev ok 0 [(6, .bool false)] 1 rfl rfl ?_
   refine LP_end _ rfl ?_
   refine W_seq ?_
   refine W_seq ?_
   refine W_region ?_
   refine LP_ev ok 0 [(14, I k), (15, pb b29), (16, pb b29), (17, .pointer (some ⟨b29, 1, none⟩))] 4 rfl rfl ?_
   refine LP_ldbox 4 (v := sl a5 x.Counts c6) rfl rfl rfl ti_22 ag_22 (fun _ => rfl) rfl ex30 rfl rfl ?_
   refine LP_ev ok 5 [(19, I (ln x.Counts)), (20, .bool (k == (ln x.Counts)))] 7 rfl rfl ?_
   refine LP_end _ rfl ?_
   refine W_cond (k == (ln x.Counts)) rfl (fun hc => ?_) (fun hc => ?_)
   ·have H := H.1 hc
    refine W_seq ?_
    refine W_seq ?_
    refine W_region ?_
    refine LP_ev ok 0 [(21, I left), (22, .bool (decide (left > 0)))] 2 rfl rfl ?_
    refine LP_end _ rfl ?_
    refine W_cond (decide (left > 0)) rfl (fun hc68 => ?_) (fun hc68 => ?_)
    ·have H := H.1 hc68
     refine W_seq ?_
     refine W_region ?_
     refine LP_ev ok 0 [(6, .bool true)] 1 rfl rfl ?_
     refine LP_end _ rfl ?_
     refine W_ret ?_
     subst hM
     exact ⟨_, Ret_of [.bool true] ⟨⟨rfl, rfl⟩, trivial⟩, _, _, _, _, _, _, _, _, _, _, _, H, rfl, X, r3, ex4, (Dom.le D _), r9, ex10, (Dom.le D63 _), ex14, r18, ex19, (Dom.le D65 _), ex23, ex30, d, d31, d32, d33, d34, d35, d36, d37, d38, d39, d42, d43, cn⟩
    have H := H.2 hc68
    refine W_skip ?_
    refine W_seq ?_
    refine W_seq ?_
    refine W_region ?_
    refine LP_ev ok 0 [(23, pb b29), (24, pb b29), (25, pb b29)] 3 rfl rfl ?_
    refine LP_ldbox 3 (v := sl a x.Conditions c) rfl rfl rfl ti_121 ag_121 (fun _ => rfl) rfl ex30 rfl rfl ?_
    refine LP_ev ok 4 [(27, I (ln x.Conditions)), (28, I 0)] 6 rfl rfl ?_
    refine LP_end _ rfl ?_
    refine W_block ?_
    obtain ⟨J, m80, Hx, H⟩ := H
    refine W_loop (S := Int) (fun s ρ' w' => J s ∧ ∃ (ρ : Env), ρ' = setAll [(0, pb b29), (26, sl a x.Conditions c), (27, I (ln x.Conditions)), (28, I s)] ρ ∧ But M w w' ∧ Sub hx w' ∧ Sub hx2 w' ∧ Sub hx8 w' ∧ Sub (bx b 3 [I c13]) w' ∧ Sub hx17 w' ∧ Sub (bx b22 22 [sl a20 c15 c21]) w' ∧ Sub (bx b24 104 [.func (.func 66) #[] #[pb b22]]) w' ∧ Sub (bx b27 3 [I c26]) w' ∧ Sub (bx b29 153 [sl a x.Conditions c, sl a5 x.Counts c6, sl a11 x.Sums c12, .func (.func 121) #[] #[pb b, pb b24, pb b27]]) w') (fun s => m80 s) 0 ⟨Hx, _, env_eq ⟨rfl, rfl, rfl, rfl, trivial⟩, X, ex, ex4, ex10, ex14, ex19, ex23, ex25, ex28, ex30⟩ ?_
    rintro x69 _ wx ⟨Hi, ρ, rfl, HF⟩
    revert HF
    refine bb9 fun X79 ex70 ex71 ex72 ex73 ex74 ex75 ex76 => ?_
    refine bb2 fun ex77 ex78 => ?_
    have H := H x69 Hi
    refine W_seq ?_
    refine W_region ?_
    refine LP_ev ok 0 [(29, .bool (decide (x69 < (ln x.Conditions))))] 1 rfl rfl ?_
    refine LP_end _ rfl ?_
    refine W_seq ?_
    refine W_cond (decide (x69 < (ln x.Conditions))) rfl (fun hc81 => ?_) (fun hc81 => ?_)
    ·have H := H.1 hc81
     refine W_skip ?_
     refine W_seq ?_
     refine W_block ?_
     refine W_seq ?_
     refine W_region ?_
     refine LP_ev ok 0 [(30, I x69)] 1 rfl rfl ?_
     obtain ⟨x82, hi, hx83, H⟩ := H
     refine LP_index 1 rfl rfl rfl Tryz.underlying121 ti_156 rfl rfl r hi hx83 fun a84 cs r85 d86 => ?_
     have d87 := d86
     obtain ⟨u, rfl, r88⟩ := Condition_rd d87
     obtain ⟨a89, c90, rfl⟩ := r88.shape
     refine LP_load 2 rfl rfl rfl ti_156 ag_156 rfl r85 d86 ex70 fun vx91 r92 => ?_
     obtain ⟨u93, rfl, r94⟩ := Condition_rv r92
     obtain ⟨a95, c96, rfl⟩ := r94.shape
     refine LP_alloc 3 rfl rfl rfl ti_156 rfl fun b97 wx98 x99 ex100 f => ?_
     refine LP_ev ok 4 [(7, I x69)] 5 rfl rfl ?_
     refine LP_stbox 5 (vs := [sl a95 x82.Amounts c96, I x82.Value]) (cs' := [sl a95 x82.Amounts c96, I x82.Value]) rfl rfl rfl ti_156 rfl rfl rfl rfl rfl ex100 rfl rfl fun wx101 ex102 y => ?_
     refine LP_end _ rfl ?_
     refine W_seq ?_
     refine W_quiet mix (by kernel_rfl) ?_
     refine QP_ev ok 0 [(33, pb b29), (34, pb b29), (35, .pointer (some ⟨b29, 2, none⟩))] 3 rfl rfl ?_
     have ex103 := ((ex78.ext x99).but y (Dj.of_fresh ex78 f).symm)
     refine QP_ldbox 3 (v := sl a11 x.Sums c12) rfl rfl rfl ti_22 ag_22 (fun _ => rfl) rfl ex103 rfl rfl ?_
     refine QP_ev ok 4 [(37, I x69)] 5 rfl rfl ?_
     obtain ⟨x104, hi105, hx106, H⟩ := H
     refine QP_index 5 rfl rfl rfl Tryz.underlying22 ti_3 rfl rfl r9.readf hi105 hx106 fun a107 cs108 r109 d110 => ?_
     have ex111 := ((ex72.ext x99).but y (Dj.of_fresh ex72 f).symm)
     refine QP_load 6 rfl rfl rfl ti_3 ag_3 rfl r109 d110 ex111 fun vx112 r113 => ?_
     obtain rfl := r113.int
     refine QP_ev ok 7 [(40, .pointer (some ⟨b97, 1, none⟩))] 8 rfl rfl ?_
     refine QP_ldbox 8 (v := I x82.Value) rfl rfl rfl ti_3 ag_3 (fun _ => rfl) rfl ex102 rfl rfl ?_
     refine QP_ev ok 9 [(42, .bool (x104 != x82.Value))] 10 rfl rfl ?_
     refine QP_end _ rfl fun wx114 x115 => ?_
     refine W_cond (x104 != x82.Value) rfl (fun hc116 => ?_) (fun hc116 => ?_)
     ·have H := H.1 hc116
      refine W_seq ?_
      refine W_region ?_
      refine LP_ev ok 0 [(6, .bool true)] 1 rfl rfl ?_
      refine LP_end _ rfl ?_
      refine W_ret ?_
      have ex117 := (((ex71.ext x99).but y (Dj.of_fresh ex71 f).symm).ext x115)
      have ex118 := (ex111.ext x115)
      have ex119 := (((ex73.ext x99).but y (Dj.of_fresh ex73 f).symm).ext x115)
      have ex120 := (((ex74.ext x99).but y (Dj.of_fresh ex74 f).symm).ext x115)
      have ex121 := (((ex75.ext x99).but y (Dj.of_fresh ex75 f).symm).ext x115)
      have ex122 := (ex103.ext x115)
      have f123 := f.mono X79.size
      have X124 := (((X79.stepx x99).step y (f123.dom _)).stepx x115)
      subst hM
      exact ⟨_, Ret_of [.bool true] ⟨⟨rfl, rfl⟩, trivial⟩, _, _, _, _, _, _, _, _, _, _, _, H, rfl, X124, r3, ex117, (Dom.le D _), r9, ex118, (Dom.le D63 _), ex119, r18, ex120, (Dom.le D65 _), ex121, ex122, d, d31, d32, d33, d34, d35, d36, d37, d38, d39, d42, d43, cn⟩
     have H := H.2 hc116
     refine W_skip ?_
     refine W_region ?_
     refine LP_ev ok 0 [(43, I (wr (x69 + 1))), (28, I (wr (x69 + 1)))] 2 rfl rfl ?_
     refine LP_end _ rfl ?_
     have f125 := f.mono X79.size
     have X126 := (((X79.stepx x99).step y (f125.dom _)).stepx x115)
     have ex127 := (((ex70.ext x99).but y (Dj.of_fresh ex70 f).symm).ext x115)
     have ex128 := (((ex71.ext x99).but y (Dj.of_fresh ex71 f).symm).ext x115)
     have ex129 := (ex111.ext x115)
     have ex130 := (((ex73.ext x99).but y (Dj.of_fresh ex73 f).symm).ext x115)
     have ex131 := (((ex74.ext x99).but y (Dj.of_fresh ex74 f).symm).ext x115)
     have ex132 := (((ex75.ext x99).but y (Dj.of_fresh ex75 f).symm).ext x115)
     have ex133 := (((ex76.ext x99).but y (Dj.of_fresh ex76 f).symm).ext x115)
     have ex134 := (((ex77.ext x99).but y (Dj.of_fresh ex77 f).symm).ext x115)
     have ex135 := (ex103.ext x115)
     exact ⟨wr (x69 + 1), ⟨H.1, _, env_eq ⟨rfl, rfl, rfl, rfl, trivial⟩, X126, ex127, ex128, ex129, ex130, ex131, ex132, ex133, ex134, ex135⟩, H.2⟩
    have H := H.2 hc81
    refine W_exit ?_
    refine (if_pos rfl).mpr ?_
    refine W_seq ?_
    refine W_open mix fun wx136 x137 => ?_
    refine AP_game 8 [[], [0], [0, 1], [0, 1, 2], [], [4], [4, 5], [4, 5, 6], [0, 1, 2, 3, 4, 5, 6, 7], [0, 1, 2, 3, 4, 5, 6, 7, 8]] [[(0, none)], [(44, some 0)], [(45, some 1)], [(46, some 2)], [(0, none)], [(48, some 4)], [(49, some 5)], [(50, some 6)]] [(47, some 3), (51, some 7)] [(0, false), (1, false), (2, false), (3, false), (4, false), (5, false), (6, false), (7, false)] (by kernel_rfl) (by kernel_rfl) ?_
    refine GS_ev ok [(0, pb b29)] (pb b29) rfl rfl (fun _ h => h) (fun _ => rfl) ?_
    refine GS_ev ok [(44, pb b29)] (pb b29) rfl rfl (fun _ h => h) (fun _ => rfl) ?_
    refine GS_ev ok [(45, pb b29)] (.pointer (some ⟨b29, 3, none⟩)) rfl rfl (fun _ h => h) (fun _ => rfl) ?_
    have ex138 := (ex78.ext x137)
    refine GS_r1 [(46, .pointer (some ⟨b29, 3, none⟩))] (.func (.func 121) #[] #[pb b, pb b24, pb b27]) rfl rfl (fun _ h => h) (fun _ w e => ex_ldbox rfl ti_151 ag_151 (fun _ => rfl) rfl e rfl rfl) ex138 ?_
    refine GS_ev ok [(0, pb b29)] (pb b29) rfl rfl (fun _ h => h) (fun _ => rfl) ?_
    refine GS_ev ok [(48, pb b29)] (pb b29) rfl rfl (fun _ h => h) (fun _ => rfl) ?_
    refine GS_ev ok [(49, pb b29)] (.pointer (some ⟨b29, 1, none⟩)) rfl rfl (fun _ h => h) (fun _ => rfl) ?_
    refine GS_r1 [(50, .pointer (some ⟨b29, 1, none⟩))] (sl a5 x.Counts c6) rfl rfl (fun _ h => h) (fun _ w e => ex_ldbox rfl ti_22 ag_22 (fun _ => rfl) rfl e rfl rfl) ex138 ?_
    intro wx139 x140 ρ hn
    refine AP_forget [(47, .func (.func 121) #[] #[pb b, pb b24, pb b27]), (51, sl a5 x.Counts c6)] (by exact hn) fun ρ => ?_
    refine AP_tail 8 [[], [0], [0, 1], [0, 1, 2], [], [4], [4, 5], [4, 5, 6], [0, 1, 2, 3, 4, 5, 6, 7], [0, 1, 2, 3, 4, 5, 6, 7, 8]] (by kernel_rfl) ?_
    have ex144 := ((ex71.ext x137).ext x140)
    have ex145 := ((ex73.ext x137).ext x140)
    have ex146 := ((ex74.ext x137).ext x140)
    have ex147 := ((ex75.ext x137).ext x140)
    have ex148 := ((ex76.ext x137).ext x140)
    have ex149 := ((ex77.ext x137).ext x140)
    refine LP_callc 8 rfl rfl rfl rfl cal_121 rfl rfl (impl_solutions_1_impl_FirstSurvey_1_w _ _ _ _ _ H wx139 r3.readf ex144 ex145 r18 ex146 ex147 ex148 ex149 d39 d40 d42 d31.symm d52 d53 d32.symm d55 d56 d33.symm d58 d59) ?_
    rintro _ wx150 ⟨r141, r142, r143, vx155, hx153, H, rfl, x151, HF⟩
    revert HF
    refine bb8 fun ex152 o ex154 dm ex156 d157 d158 cn159 => ?_
    obtain ⟨a160, c161, rfl⟩ := o.shape
    refine LP_ev ok 9 [(6, .bool r141)] 10 rfl rfl ?_
    refine LP_end _ rfl ?_
    refine W_ret ?_
    have ex162 := (ex144.but x151 (Dj.un_l d31.symm (Dj.un_l d32.symm d33.symm)))
    have ex163 := (((ex72.ext x137).ext x140).but x151 (Dj.un_l d35.symm (Dj.un_l d36.symm d37.symm)))
    have X164 := ((X79.stepx x137).stepx x140)
    have ex165 := ((ex138.ext x140).but x151 (Dj.un_l d41 (Dj.un_l d43 d44)))
    have ex166 := ((ex72.ext x137).ext x140)
    have ex167 := (ex138.ext x140)
    have X168 := (X164.step x151 (DomLe.un (Dom.le D64 _) (DomLe.un (Dom.le D65 _) (Dom.le D66 _))))
    subst hM
    exact ⟨_, Ret_of [.bool r141] ⟨⟨rfl, rfl⟩, trivial⟩, _, _, _, _, _, _, _, _, _, _, _, H, rfl, X168, r3, ex162, (Dom.le D _), r9, ex163, (Dom.le D63 _), ex152, o, ex154, (DomLe.trans (DomLe.un (Dom.le D64 _) (DomLe.un (Dom.le D65 _) (Dom.le D66 _))) dm X164.size), ex156, ex165, d, (Dj.box d31.symm).symm, (DomLe.dj dm (Dj.un_l d31.symm (Dj.un_l d32.symm d33.symm)) ex144).symm, (Dj.box d33.symm).symm, d34, (Dj.box d35.symm).symm, (DomLe.dj dm (Dj.un_l d35.symm (Dj.un_l d36.symm d37.symm)) ex166).symm, (Dj.box d37.symm).symm, d38, d157, d158, (DomLe.dj dm (Dj.un_l d41 (Dj.un_l d43 d44)) ex167), cn159⟩
   have H := H.2 hc
   refine W_skip ?_
   obtain ⟨k222, hk, H⟩ := jn_elim H
   refine W_join2 (S := Int × (List Int) × (List Int) × (List Int)) (fun s ρ' w' => k222 s.1 s.2.1 s.2.2.1 s.2.2.2 ∧ ∃ (ρ : Env) (vx171 : Value) (hx172 : PH) (vx176 : Value) (hx177 : PH) (vx181 : Value) (hx182 : PH), ρ' = setAll [] ρ ∧ But M w w' ∧ OS 3 hx172 emp vx171 s.2.1 ∧ Sub hx172 w' ∧ DomLe M w.heap.size hx172 ∧ OS 3 hx177 emp vx176 s.2.2.1 ∧ Sub hx177 w' ∧ DomLe M w.heap.size hx177 ∧ OS 3 hx182 emp vx181 s.2.2.2 ∧ Sub hx182 w' ∧ DomLe M w.heap.size hx182 ∧ Sub hx w' ∧ Sub (bx b24 104 [.func (.func 66) #[] #[pb b22]]) w' ∧ Sub (bx b27 3 [I c26]) w' ∧ Sub (bx b 3 [I s.1]) w' ∧ Sub (bx b22 22 [vx171]) w' ∧ Sub (bx b29 153 [sl a x.Conditions c, vx176, vx181, .func (.func 121) #[] #[pb b, pb b24, pb b27]]) w' ∧ Dj hx172 hx ∧ Dj hx172 (bx b24 104 [.func (.func 66) #[] #[pb b22]]) ∧ Dj hx172 (bx b27 3 [I c26]) ∧ Dj hx172 (bx b 3 [I s.1]) ∧ Dj hx172 (bx b22 22 [vx171]) ∧ Dj hx172 (bx b29 153 [sl a x.Conditions c, vx176, vx181, .func (.func 121) #[] #[pb b, pb b24, pb b27]]) ∧ Dj hx177 hx ∧ Dj hx177 (bx b24 104 [.func (.func 66) #[] #[pb b22]]) ∧ Dj hx177 (bx b27 3 [I c26]) ∧ Dj hx177 (bx b 3 [I s.1]) ∧ Dj hx177 (bx b22 22 [vx171]) ∧ Dj hx177 (bx b29 153 [sl a x.Conditions c, vx176, vx181, .func (.func 121) #[] #[pb b, pb b24, pb b27]]) ∧ Dj hx177 hx172 ∧ Dj hx182 hx ∧ Dj hx182 (bx b24 104 [.func (.func 66) #[] #[pb b22]]) ∧ Dj hx182 (bx b27 3 [I c26]) ∧ Dj hx182 (bx b 3 [I s.1]) ∧ Dj hx182 (bx b22 22 [vx171]) ∧ Dj hx182 (bx b29 153 [sl a x.Conditions c, vx176, vx181, .func (.func 121) #[] #[pb b, pb b24, pb b27]]) ∧ Dj hx182 hx172 ∧ Dj hx182 hx177 ∧ CanV vx171 s.2.1) ?_ ?_
   ·refine W_seq ?_
    refine W_region ?_
    refine LP_ev ok 0 [(9, I 0)] 1 rfl rfl ?_
    refine LP_end _ rfl ?_
    refine W_block ?_
    obtain ⟨J278, m279, Hx280, H⟩ := H
    refine W_loop (S := Int × Int × (List Int) × (List Int) × (List Int)) (fun s ρ' w' => J278 s.1 s.2.1 s.2.2.1 s.2.2.2.1 s.2.2.2.2 ∧ ∃ (ρ : Env) (vx225 : Value) (hx226 : PH) (vx231 : Value) (hx232 : PH) (vx237 : Value) (hx238 : PH), ρ' = setAll [(0, pb b29), (1, I k), (2, I left), (9, I s.1)] ρ ∧ But M w w' ∧ OS 3 hx226 emp vx225 s.2.2.1 ∧ Sub hx226 w' ∧ DomLe M w.heap.size hx226 ∧ OS 3 hx232 emp vx231 s.2.2.2.1 ∧ Sub hx232 w' ∧ DomLe M w.heap.size hx232 ∧ OS 3 hx238 emp vx237 s.2.2.2.2 ∧ Sub hx238 w' ∧ DomLe M w.heap.size hx238 ∧ Sub hx w' ∧ Sub (bx b24 104 [.func (.func 66) #[] #[pb b22]]) w' ∧ Sub (bx b27 3 [I c26]) w' ∧ Sub (bx b 3 [I s.2.1]) w' ∧ Sub (bx b22 22 [vx225]) w' ∧ Sub (bx b29 153 [sl a x.Conditions c, vx231, vx237, .func (.func 121) #[] #[pb b, pb b24, pb b27]]) w' ∧ Dj hx226 hx ∧ Dj hx226 (bx b24 104 [.func (.func 66) #[] #[pb b22]]) ∧ Dj hx226 (bx b27 3 [I c26]) ∧ Dj hx226 (bx b 3 [I s.2.1]) ∧ Dj hx226 (bx b22 22 [vx225]) ∧ Dj hx226 (bx b29 153 [sl a x.Conditions c, vx231, vx237, .func (.func 121) #[] #[pb b, pb b24, pb b27]]) ∧ Dj hx232 hx ∧ Dj hx232 (bx b24 104 [.func (.func 66) #[] #[pb b22]]) ∧ Dj hx232 (bx b27 3 [I c26]) ∧ Dj hx232 (bx b 3 [I s.2.1]) ∧ Dj hx232 (bx b22 22 [vx225]) ∧ Dj hx232 (bx b29 153 [sl a x.Conditions c, vx231, vx237, .func (.func 121) #[] #[pb b, pb b24, pb b27]]) ∧ Dj hx232 hx226 ∧ Dj hx238 hx ∧ Dj hx238 (bx b24 104 [.func (.func 66) #[] #[pb b22]]) ∧ Dj hx238 (bx b27 3 [I c26]) ∧ Dj hx238 (bx b 3 [I s.2.1]) ∧ Dj hx238 (bx b22 22 [vx225]) ∧ Dj hx238 (bx b29 153 [sl a x.Conditions c, vx231, vx237, .func (.func 121) #[] #[pb b, pb b24, pb b27]]) ∧ Dj hx238 hx226 ∧ Dj hx238 hx232 ∧ CanV vx225 s.2.2.1) (fun s => m279 s.1 s.2.1 s.2.2.1 s.2.2.2.1 s.2.2.2.2) (0, c13, c15, x.Counts, x.Sums) ⟨Hx280, _, sl a20 c15 c21, hx17, sl a5 x.Counts c6, hx2, sl a11 x.Sums c12, hx8, env_eq ⟨rfl, rfl, rfl, rfl, trivial⟩, X, r18, ex19, (Dom.le D65 _), r3, ex4, (Dom.le D _), r9, ex10, (Dom.le D63 _), ex, ex25, ex28, ex14, ex23, ex30, d54, d55, d56, d39.symm, d42, d43, d45, d46, d47, d31, d33, d34, d32, d48, d49, d50, d35, d37, d38, d36, d.symm, cn⟩ ?_
    rintro ⟨n, x223, x224, counts230, sums236⟩ _ wx242 ⟨Hi, ρ, vx225, hx226, vx231, hx232, vx237, hx238, rfl, HF⟩
    revert HF
    refine bb9 fun X277 o227 ex228 f229 o233 ex234 f235 o239 => ?_
    refine bb9 fun ex240 f241 ex243 ex244 ex245 ex252 ex253 ex254 => ?_
    refine bb9 fun d255 d256 d257 d258 d259 d260 d261 d262 => ?_
    refine bb9 fun d263 d264 d265 d266 d267 d268 d269 d270 => ?_
    refine bb6 fun d271 d272 d273 d274 d275 cn276 => ?_
    have H := H n x223 x224 counts230 sums236 Hi
    obtain ⟨a246, c247, rfl⟩ := o227.shape
    obtain ⟨a248, c249, rfl⟩ := o233.shape
    obtain ⟨a250, c251, rfl⟩ := o239.shape
    refine W_seq ?_
    refine W_seq ?_
    refine W_region ?_
    refine LP_ev ok 0 [(53, I n), (54, I left), (55, .bool (decide (n ≤ left)))] 3 rfl rfl ?_
    refine LP_end _ rfl ?_
    refine W_cond (decide (n ≤ left)) rfl (fun hc282 => ?_) (fun hc282 => ?_)
    ·have H := H.1 hc282
     refine W_skip ?_
     refine W_seq ?_
     refine W_block ?_
     refine W_seq ?_
     refine W_region ?_
     refine LP_ev ok 0 [(10, .bool true)] 1 rfl rfl ?_
     refine LP_end _ rfl ?_
     refine W_seq ?_
     refine W_seq ?_
     refine W_region ?_
     refine LP_ev ok 0 [(58, pb b29), (59, pb b29), (60, pb b29)] 3 rfl rfl ?_
     refine LP_ldbox 3 (v := sl a x.Conditions c) rfl rfl rfl ti_121 ag_121 (fun _ => rfl) rfl ex254 rfl rfl ?_
     refine LP_ev ok 4 [(62, I (ln x.Conditions)), (63, I 0)] 6 rfl rfl ?_
     refine LP_end _ rfl ?_
     refine W_block ?_
     obtain ⟨J295, m296, Hx297, H⟩ := H
     refine W_loop (S := Bool × Int) (fun s ρ' w' => J295 s.1 s.2 ∧ ∃ (ρ : Env), ρ' = setAll [(0, pb b29), (1, I k), (2, I left), (9, I n), (10, .bool s.1), (61, sl a x.Conditions c), (62, I (ln x.Conditions)), (63, I s.2)] ρ ∧ But M w w' ∧ Sub hx w' ∧ Sub (bx b 3 [I x223]) w' ∧ Sub (bx b22 22 [sl a246 x224 c247]) w' ∧ Sub (bx b24 104 [.func (.func 66) #[] #[pb b22]]) w' ∧ Sub (bx b27 3 [I c26]) w' ∧ Sub (bx b29 153 [sl a x.Conditions c, sl a248 counts230 c249, sl a250 sums236 c251, .func (.func 121) #[] #[pb b, pb b24, pb b27]]) w' ∧ Sub hx226 w' ∧ Sub hx232 w' ∧ Sub hx238 w') (fun s => m296 s.1 s.2) (true, 0) ⟨Hx297, _, env_eq ⟨rfl, rfl, rfl, rfl, rfl, rfl, rfl, rfl, trivial⟩, X277, ex243, ex252, ex253, ex244, ex245, ex254, ex228, ex234, ex240⟩ ?_
     rintro ⟨fits, x283⟩ _ wx284 ⟨Hi, ρ, rfl, HF⟩
     revert HF
     refine bb9 fun X294 ex285 ex286 ex287 ex288 ex289 ex290 ex291 => ?_
     refine bb2 fun ex292 ex293 => ?_
     have H := H fits x283 Hi
     refine W_seq ?_
     refine W_region ?_
     refine LP_ev ok 0 [(64, .bool (decide (x283 < (ln x.Conditions))))] 1 rfl rfl ?_
     refine LP_end _ rfl ?_
     refine W_seq ?_
     refine W_cond (decide (x283 < (ln x.Conditions))) rfl (fun hc299 => ?_) (fun hc299 => ?_)
     ·have H := H.1 hc299
      refine W_skip ?_
      obtain ⟨k312, hk313, H⟩ := jn_elim H
      refine W_join2 (S := Bool) (fun s ρ' w' => k312 s ∧ ∃ (ρ : Env), ρ' = setAll [(0, pb b29), (1, I k), (2, I left), (9, I n), (10, .bool s), (61, sl a x.Conditions c), (62, I (ln x.Conditions)), (63, I x283)] ρ ∧ But M w w' ∧ Sub hx w' ∧ Sub (bx b 3 [I x223]) w' ∧ Sub (bx b22 22 [sl a246 x224 c247]) w' ∧ Sub (bx b24 104 [.func (.func 66) #[] #[pb b22]]) w' ∧ Sub (bx b27 3 [I c26]) w' ∧ Sub (bx b29 153 [sl a x.Conditions c, sl a248 counts230 c249, sl a250 sums236 c251, .func (.func 121) #[] #[pb b, pb b24, pb b27]]) w' ∧ Sub hx226 w' ∧ Sub hx232 w' ∧ Sub hx238 w') ?_ ?_
      ·refine W_block ?_
       refine W_seq ?_
       refine W_region ?_
       refine LP_ev ok 0 [(65, I x283)] 1 rfl rfl ?_
       obtain ⟨x314, hi315, hx316, H⟩ := H
       refine LP_index 1 rfl rfl rfl Tryz.underlying121 ti_156 rfl rfl r hi315 hx316 fun a317 cs318 r319 d320 => ?_
       have d321 := d320
       obtain ⟨u322, rfl, r323⟩ := Condition_rd d321
       obtain ⟨a324, c325, rfl⟩ := r323.shape
       refine LP_load 2 rfl rfl rfl ti_156 ag_156 rfl r319 d320 ex285 fun vx326 r327 => ?_
       obtain ⟨u328, rfl, r329⟩ := Condition_rv r327
       obtain ⟨a330, c331, rfl⟩ := r329.shape
       refine LP_alloc 3 rfl rfl rfl ti_156 rfl fun b332 wx333 x334 ex335 f336 => ?_
       refine LP_ev ok 4 [(11, I x283)] 5 rfl rfl ?_
       refine LP_stbox 5 (vs := [sl a330 x314.Amounts c331, I x314.Value]) (cs' := [sl a330 x314.Amounts c331, I x314.Value]) rfl rfl rfl ti_156 rfl rfl rfl rfl rfl ex335 rfl rfl fun wx337 ex338 y339 => ?_
       refine LP_end _ rfl ?_
       refine W_quiet mix (by kernel_rfl) ?_
       refine QP_ev ok 0 [(68, .bool fits), (69, .bool fits)] 2 rfl rfl ?_
       refine QP_split 69 (fits) rfl (fun hc340 => ?_) (fun hc340 => ?_)
       ·have H := H.1 hc340
        refine QP_ev ok 2 [(70, pb b29), (71, pb b29), (72, .pointer (some ⟨b29, 2, none⟩))] 5 rfl rfl ?_
        have ex341 := ((ex290.ext x334).but y339 (Dj.of_fresh ex290 f336).symm)
        refine QP_ldbox 5 (v := sl a250 sums236 c251) rfl rfl rfl ti_22 ag_22 (fun _ => rfl) rfl ex341 rfl rfl ?_
        refine QP_ev ok 6 [(74, I x283)] 7 rfl rfl ?_
        obtain ⟨x342, hi343, hx344, H⟩ := H
        refine QP_index 7 rfl rfl rfl Tryz.underlying22 ti_3 rfl rfl o239.readf hi343 hx344 fun a345 cs346 r347 d348 => ?_
        have ex349 := ((ex293.ext x334).but y339 (Dj.of_fresh ex293 f336).symm)
        refine QP_load 8 rfl rfl rfl ti_3 ag_3 rfl r347 d348 ex349 fun vx350 r351 => ?_
        obtain rfl := r351.int
        refine QP_ev ok 9 [(77, I n), (78, pb b332)] 11 rfl rfl ?_
        refine QP_ldbox 11 (v := sl a330 x314.Amounts c331) rfl rfl rfl ti_22 ag_22 (fun _ => rfl) rfl ex338 rfl rfl ?_
        refine QP_ev ok 12 [(80, I k)] 13 rfl rfl ?_
        obtain ⟨x352, hi353, hx354, H⟩ := H
        refine QP_index 13 rfl rfl rfl Tryz.underlying22 ti_3 rfl rfl r329 hi353 hx354 fun a355 cs356 r357 d358 => ?_
        have ex359 := ((ex285.ext x334).but y339 (Dj.of_fresh ex285 f336).symm)
        refine QP_load 14 rfl rfl rfl ti_3 ag_3 rfl r357 d358 ex359 fun vx360 r361 => ?_
        obtain rfl := r361.int
        refine QP_ev ok 15 [(83, I (wr (n * x352))), (84, I (wr (x342 + (wr (n * x352))))), (85, .pointer (some ⟨b332, 1, none⟩))] 18 rfl rfl ?_
        refine QP_ldbox 18 (v := I x314.Value) rfl rfl rfl ti_3 ag_3 (fun _ => rfl) rfl ex338 rfl rfl ?_
        refine QP_ev ok 19 [(87, .bool (decide ((wr (x342 + (wr (n * x352)))) ≤ x314.Value))), (88, .bool (decide ((wr (x342 + (wr (n * x352)))) ≤ x314.Value))), (10, .bool (decide ((wr (x342 + (wr (n * x352)))) ≤ x314.Value)))] 22 rfl rfl ?_
        refine QP_end _ rfl fun wx362 x363 => ?_
        try refine W_forget [(0, pb b29), (1, I k), (2, I left), (9, I n), (10, .bool (decide ((wr (x342 + (wr (n * x352)))) ≤ x314.Value))), (61, sl a x.Conditions c), (62, I (ln x.Conditions)), (63, I x283), (70, pb b29), (71, pb b29), (72, .pointer (some ⟨b29, 2, none⟩)), (73, sl a250 sums236 c251), (74, I x283), (75, .pointer (some a345)), (76, I x342), (77, I n), (78, pb b332), (79, sl a330 x314.Amounts c331), (80, I k), (81, .pointer (some a355)), (82, I x352), (83, I (wr (n * x352))), (84, I (wr (x342 + (wr (n * x352))))), (85, .pointer (some ⟨b332, 1, none⟩)), (86, I x314.Value), (87, .bool (decide ((wr (x342 + (wr (n * x352)))) ≤ x314.Value)))] ⟨rfl, rfl, rfl, rfl, rfl, rfl, rfl, rfl, rfl, rfl, rfl, rfl, rfl, rfl, rfl, rfl, rfl, rfl, rfl, rfl, rfl, rfl, rfl, rfl, rfl, rfl, trivial⟩ fun ρ => ?_
        have f364 := f336.mono X294.size
        have X365 := (((X294.stepx x334).step y339 (f364.dom _)).stepx x363)
        have ex366 := (ex359.ext x363)
        have ex367 := (((ex286.ext x334).but y339 (Dj.of_fresh ex286 f336).symm).ext x363)
        have ex368 := (((ex287.ext x334).but y339 (Dj.of_fresh ex287 f336).symm).ext x363)
        have ex369 := (((ex288.ext x334).but y339 (Dj.of_fresh ex288 f336).symm).ext x363)
        have ex370 := (((ex289.ext x334).but y339 (Dj.of_fresh ex289 f336).symm).ext x363)
        have ex371 := (ex341.ext x363)
        have ex372 := (((ex291.ext x334).but y339 (Dj.of_fresh ex291 f336).symm).ext x363)
        have ex373 := (((ex292.ext x334).but y339 (Dj.of_fresh ex292 f336).symm).ext x363)
        have ex374 := (ex349.ext x363)
        exact ⟨decide ((wr (x342 + (wr (n * x352)))) ≤ x314.Value), H, _, env_eq ⟨rfl, rfl, rfl, rfl, rfl, rfl, rfl, rfl, trivial⟩, X365, ex366, ex367, ex368, ex369, ex370, ex371, ex372, ex373, ex374⟩
       have H := H.2 hc340
       refine QP_ev ok 2 [(70, undef), (71, undef), (72, undef), (73, undef), (74, undef), (75, undef), (76, undef), (77, undef), (78, undef), (79, undef), (80, undef), (81, undef), (82, undef), (83, undef), (84, undef), (85, undef), (86, undef), (87, undef), (88, .bool false), (10, .bool false)] 22 rfl rfl ?_
       refine QP_end _ rfl fun wx375 x376 => ?_
       try refine W_forget [(0, pb b29), (1, I k), (2, I left), (9, I n), (10, .bool false), (61, sl a x.Conditions c), (62, I (ln x.Conditions)), (63, I x283)] ⟨rfl, rfl, rfl, rfl, rfl, rfl, rfl, rfl, trivial⟩ fun ρ => ?_
       have f377 := f336.mono X294.size
       have X378 := (((X294.stepx x334).step y339 (f377.dom _)).stepx x376)
       have ex379 := (((ex285.ext x334).but y339 (Dj.of_fresh ex285 f336).symm).ext x376)
       have ex380 := (((ex286.ext x334).but y339 (Dj.of_fresh ex286 f336).symm).ext x376)
       have ex381 := (((ex287.ext x334).but y339 (Dj.of_fresh ex287 f336).symm).ext x376)
       have ex382 := (((ex288.ext x334).but y339 (Dj.of_fresh ex288 f336).symm).ext x376)
       have ex383 := (((ex289.ext x334).but y339 (Dj.of_fresh ex289 f336).symm).ext x376)
       have ex384 := (((ex290.ext x334).but y339 (Dj.of_fresh ex290 f336).symm).ext x376)
       have ex385 := (((ex291.ext x334).but y339 (Dj.of_fresh ex291 f336).symm).ext x376)
       have ex386 := (((ex292.ext x334).but y339 (Dj.of_fresh ex292 f336).symm).ext x376)
       have ex387 := (((ex293.ext x334).but y339 (Dj.of_fresh ex293 f336).symm).ext x376)
       exact ⟨false, H, _, env_eq ⟨rfl, rfl, rfl, rfl, rfl, rfl, rfl, rfl, trivial⟩, X378, ex379, ex380, ex381, ex382, ex383, ex384, ex385, ex386, ex387⟩
      rintro fits300 _ wx301 ⟨H, ρ, rfl, HF⟩
      revert HF
      refine bb9 fun X311 ex302 ex303 ex304 ex305 ex306 ex307 ex308 => ?_
      refine bb2 fun ex309 ex310 => ?_
      subst hk313
      refine W_region ?_
      refine LP_ev ok 0 [(89, I (wr (x283 + 1))), (63, I (wr (x283 + 1)))] 2 rfl rfl ?_
      refine LP_end _ rfl ?_
      exact ⟨(fits300, wr (x283 + 1)), ⟨H.1, _, env_eq ⟨rfl, rfl, rfl, rfl, rfl, rfl, rfl, rfl, trivial⟩, X311, ex302, ex303, ex304, ex305, ex306, ex307, ex308, ex309, ex310⟩, H.2⟩
     have H := H.2 hc299
     refine W_exit ?_
     refine (if_pos rfl).mpr ?_
     refine W_seq ?_
     refine W_seq ?_
     refine W_region ?_
     refine LP_ev ok 0 [(90, .bool fits), (91, .bool (!fits))] 2 rfl rfl ?_
     refine LP_end _ rfl ?_
     refine W_cond (!fits) rfl (fun hc388 => ?_) (fun hc388 => ?_)
     ·have H := H.1 hc388
      refine W_exit ?_
      refine (if_neg (by decide)).mpr ?_
      refine (if_pos rfl).mpr ?_
      exact ⟨(x223, x224, counts230, sums236), H, _, sl a246 x224 c247, hx226, sl a248 counts230 c249, hx232, sl a250 sums236 c251, hx238, env_eq trivial, X294, o227, ex291, f229, o233, ex292, f235, o239, ex293, f241, ex285, ex288, ex289, ex286, ex287, ex290, d255, d256, d257, d258, d259, d260, d261, d262, d263, d264, d265, d266, d267, d268, d269, d270, d271, d272, d273, d274, d275, cn276⟩
     have H := H.2 hc388
     refine W_skip ?_
     refine W_seq ?_
     refine W_region ?_
     refine LP_ev ok 0 [(92, pb b29), (93, I k), (94, I n)] 3 rfl rfl ?_
     refine LP_call 3 rfl rfl rfl cal_164 rfl (impl_search_add_impl_solutions_1_impl_FirstSurvey_1_w _ _ _ _ _ _ _ H wx284 r ex285 o233 ex292 o239 ex293 ex286 o227.readf ex291 ex287 ex288 ex289 ex290 d275.symm d266 d273 d261 d264 d267 d265 d262 d263 d268 d271 d274 d272 d269 d270 (Dj.box d60) (Dj.box (Dj.box d41.symm).symm).symm d260.symm (Dj.box (Dj.box d44.symm).symm).symm (Dj.box d61) (Dj.box d62)) ?_
     rintro _ wx391 ⟨r389, r390, vx397, hx393, vx402, hx398, H, rfl, x392, HF⟩
     revert HF
     refine bb9 fun o394 ex395 dm396 o399 ex400 dm401 ex403 d404 => ?_
     refine bb2 fun d405 d406 => ?_
     obtain ⟨a407, c408, rfl⟩ := o394.shape
     obtain ⟨a409, c410, rfl⟩ := o399.shape
     refine LP_end _ rfl ?_
     refine W_seq ?_
     refine W_region ?_
     refine LP_ev ok 0 [(96, pb b29), (97, I k), (98, I (wr (k + 1))), (99, I left), (100, I n), (101, I (wr (left - n)))] 6 rfl rfl ?_
     have ex416 := (ex285.but x392 (Dj.un_l d261 (Dj.un_l d268 (Dj.box d60))))
     have ex417 := (ex286.but x392 (Dj.un_l d264 (Dj.un_l d271 (Dj.box (Dj.box d41.symm).symm).symm)))
     have ex418 := (ex291.but x392 (Dj.un_l d267 (Dj.un_l d274 d260.symm)))
     have ex419 := (ex287.but x392 (Dj.un_l d265 (Dj.un_l d272 (Dj.box (Dj.box d44.symm).symm).symm)))
     have ex420 := (ex288.but x392 (Dj.un_l d262 (Dj.un_l d269 (Dj.box d61))))
     have ex421 := (ex289.but x392 (Dj.un_l d263 (Dj.un_l d270 (Dj.box d62))))
     refine LP_call 6 rfl rfl rfl cal_122 rfl (ih _ _ _ _ _ _ _ H.1 (Nat.lt_of_lt_of_le H.2 (Nat.le_of_lt_succ hm)) wx391 r ex416 o394 ex395 o399 ex400 ex417 o227 ex418 cn276 ex419 ex420 ex421 ex403 d404 (DomLe.dj dm396 (Dj.un_l d264 (Dj.un_l d271 (Dj.box (Dj.box d41.symm).symm).symm)) ex286) (DomLe.dj dm396 (Dj.un_l d267 (Dj.un_l d274 d260.symm)) ex291) (DomLe.dj dm396 (Dj.un_l d265 (Dj.un_l d272 (Dj.box (Dj.box d44.symm).symm).symm)) ex287) d405 (DomLe.dj dm401 (Dj.un_l d264 (Dj.un_l d271 (Dj.box (Dj.box d41.symm).symm).symm)) ex286) (DomLe.dj dm401 (Dj.un_l d267 (Dj.un_l d274 d260.symm)) ex291) (DomLe.dj dm401 (Dj.un_l d265 (Dj.un_l d272 (Dj.box (Dj.box d44.symm).symm).symm)) ex287) d406 d258.symm (Dj.box (Dj.box d40).symm).symm (Dj.box (Dj.box d41).symm).symm d259 (Dj.box d260.symm).symm (Dj.box (Dj.box d44).symm).symm (DomLe.dj dm396 (Dj.un_l d261 (Dj.un_l d268 (Dj.box d60))) ex285) (DomLe.dj dm396 (Dj.un_l d262 (Dj.un_l d269 (Dj.box d61))) ex288) (DomLe.dj dm396 (Dj.un_l d263 (Dj.un_l d270 (Dj.box d62))) ex289) (DomLe.dj dm401 (Dj.un_l d261 (Dj.un_l d268 (Dj.box d60))) ex285) (DomLe.dj dm401 (Dj.un_l d262 (Dj.un_l d269 (Dj.box d61))) ex288) (DomLe.dj dm401 (Dj.un_l d263 (Dj.un_l d270 (Dj.box d62))) ex289) (Dj.box d51) (Dj.box d52) (Dj.box d53) d255 d256 d257 (Dj.box d57) (Dj.box d58) (Dj.box d59) (Dj.box d60) (Dj.box d61) (Dj.box d62)) ?_
     rintro _ wx422 ⟨r411, r412, r413, r414, r415, vx428, hx424, vx433, hx429, vx439, hx435, H, rfl, x423, HF⟩
     revert HF
     refine bb9 fun o425 ex426 dm427 o430 ex431 dm432 ex434 o436 => ?_
     refine bb9 fun ex437 dm438 ex440 ex441 d442 d443 d444 d445 => ?_
     refine bb9 fun d446 d447 d448 d449 d450 d451 d452 d453 cn454 => ?_
     obtain ⟨a455, c456, rfl⟩ := o425.shape
     obtain ⟨a457, c458, rfl⟩ := o430.shape
     obtain ⟨a459, c460, rfl⟩ := o436.shape
     refine LP_ev ok 7 [(13, .bool r411)] 8 rfl rfl ?_
     refine LP_end _ rfl ?_
     refine W_seq ?_
     refine W_region ?_
     refine LP_ev ok 0 [(103, pb b29), (104, I k), (105, I n), (106, I (wr (0 - n)))] 4 rfl rfl ?_
     have ex463 := (ex416.but x423 (Dj.un_l (DomLe.dj dm396 (Dj.un_l d261 (Dj.un_l d268 (Dj.box d60))) ex285) (Dj.un_l (DomLe.dj dm401 (Dj.un_l d261 (Dj.un_l d268 (Dj.box d60))) ex285) (Dj.un_l (Dj.box d51) (Dj.un_l d255 (Dj.un_l (Dj.box d57) (Dj.box d60)))))))
     have ex464 := (ex420.but x423 (Dj.un_l (DomLe.dj dm396 (Dj.un_l d262 (Dj.un_l d269 (Dj.box d61))) ex288) (Dj.un_l (DomLe.dj dm401 (Dj.un_l d262 (Dj.un_l d269 (Dj.box d61))) ex288) (Dj.un_l (Dj.box d52) (Dj.un_l d256 (Dj.un_l (Dj.box d58) (Dj.box d61)))))))
     have ex465 := (ex421.but x423 (Dj.un_l (DomLe.dj dm396 (Dj.un_l d263 (Dj.un_l d270 (Dj.box d62))) ex289) (Dj.un_l (DomLe.dj dm401 (Dj.un_l d263 (Dj.un_l d270 (Dj.box d62))) ex289) (Dj.un_l (Dj.box d53) (Dj.un_l d257 (Dj.un_l (Dj.box d59) (Dj.box d62)))))))
     refine LP_call 4 rfl rfl rfl cal_164 rfl (impl_search_add_impl_solutions_1_impl_FirstSurvey_1_w _ _ _ _ _ _ _ H wx422 r ex463 o425 ex426 o430 ex431 ex434 o436.readf ex437 ex440 ex464 ex465 ex441 d442 d446 d450 (DomLe.dj dm427 (Dj.un_l (DomLe.dj dm396 (Dj.un_l d261 (Dj.un_l d268 (Dj.box d60))) ex285) (Dj.un_l (DomLe.dj dm401 (Dj.un_l d261 (Dj.un_l d268 (Dj.box d60))) ex285) (Dj.un_l (Dj.box d51) (Dj.un_l d255 (Dj.un_l (Dj.box d57) (Dj.box d60)))))) ex416) d443 d444 d445 (DomLe.dj dm427 (Dj.un_l (DomLe.dj dm396 (Dj.un_l d262 (Dj.un_l d269 (Dj.box d61))) ex288) (Dj.un_l (DomLe.dj dm401 (Dj.un_l d262 (Dj.un_l d269 (Dj.box d61))) ex288) (Dj.un_l (Dj.box d52) (Dj.un_l d256 (Dj.un_l (Dj.box d58) (Dj.box d61)))))) ex420) (DomLe.dj dm427 (Dj.un_l (DomLe.dj dm396 (Dj.un_l d263 (Dj.un_l d270 (Dj.box d62))) ex289) (Dj.un_l (DomLe.dj dm401 (Dj.un_l d263 (Dj.un_l d270 (Dj.box d62))) ex289) (Dj.un_l (Dj.box d53) (Dj.un_l d257 (Dj.un_l (Dj.box d59) (Dj.box d62)))))) ex421) (DomLe.dj dm432 (Dj.un_l (DomLe.dj dm396 (Dj.un_l d261 (Dj.un_l d268 (Dj.box d60))) ex285) (Dj.un_l (DomLe.dj dm401 (Dj.un_l d261 (Dj.un_l d268 (Dj.box d60))) ex285) (Dj.un_l (Dj.box d51) (Dj.un_l d255 (Dj.un_l (Dj.box d57) (Dj.box d60)))))) ex416) d447 d448 d449 (DomLe.dj dm432 (Dj.un_l (DomLe.dj dm396 (Dj.un_l d262 (Dj.un_l d269 (Dj.box d61))) ex288) (Dj.un_l (DomLe.dj dm401 (Dj.un_l d262 (Dj.un_l d269 (Dj.box d61))) ex288) (Dj.un_l (Dj.box d52) (Dj.un_l d256 (Dj.un_l (Dj.box d58) (Dj.box d61)))))) ex420) (DomLe.dj dm432 (Dj.un_l (DomLe.dj dm396 (Dj.un_l d263 (Dj.un_l d270 (Dj.box d62))) ex289) (Dj.un_l (DomLe.dj dm401 (Dj.un_l d263 (Dj.un_l d270 (Dj.box d62))) ex289) (Dj.un_l (Dj.box d53) (Dj.un_l d257 (Dj.un_l (Dj.box d59) (Dj.box d62)))))) ex421) (Dj.box d60) (Dj.box (Dj.box d41.symm).symm).symm d453.symm (Dj.box (Dj.box d44.symm).symm).symm (Dj.box d61) (Dj.box d62)) ?_
     rintro _ wx466 ⟨r461, r462, vx472, hx468, vx477, hx473, H, rfl, x467, HF⟩
     revert HF
     refine bb9 fun o469 ex470 dm471 o474 ex475 dm476 ex478 d479 => ?_
     refine bb2 fun d480 d481 => ?_
     obtain ⟨a482, c483, rfl⟩ := o469.shape
     obtain ⟨a484, c485, rfl⟩ := o474.shape
     refine LP_end _ rfl ?_
     refine W_seq ?_
     refine W_region ?_
     refine LP_ev ok 0 [(108, .bool r411), (109, .bool (!r411))] 2 rfl rfl ?_
     refine LP_end _ rfl ?_
     refine W_cond (!r411) rfl (fun hc486 => ?_) (fun hc486 => ?_)
     ·have H := H.1 hc486
      refine W_seq ?_
      refine W_region ?_
      refine LP_ev ok 0 [(6, .bool false)] 1 rfl rfl ?_
      refine LP_end _ rfl ?_
      refine W_ret ?_
      have X487 := (X294.step x392 (DomLe.un f235 (DomLe.un f241 (DomLe.dom D67 single_dom))))
      have X488 := (X487.step x423 (DomLe.un (DomLe.trans (DomLe.un f235 (DomLe.un f241 (DomLe.dom D67 single_dom))) dm396 X294.size) (DomLe.un (DomLe.trans (DomLe.un f235 (DomLe.un f241 (DomLe.dom D67 single_dom))) dm401 X294.size) (DomLe.un (DomLe.dom D64 single_dom) (DomLe.un f229 (DomLe.un (DomLe.dom D66 single_dom) (DomLe.dom D67 single_dom)))))))
      have ex489 := (ex434.but x467 (Dj.un_l d443 (Dj.un_l d447 (Dj.box (Dj.box d41.symm).symm).symm)))
      have ex490 := (ex437.but x467 (Dj.un_l d444 (Dj.un_l d448 d453.symm)))
      have ex491 := (ex440.but x467 (Dj.un_l d445 (Dj.un_l d449 (Dj.box (Dj.box d44.symm).symm).symm)))
      have X492 := (X488.step x467 (DomLe.un (DomLe.trans (DomLe.un (DomLe.trans (DomLe.un f235 (DomLe.un f241 (DomLe.dom D67 single_dom))) dm396 X294.size) (DomLe.un (DomLe.trans (DomLe.un f235 (DomLe.un f241 (DomLe.dom D67 single_dom))) dm401 X294.size) (DomLe.un (DomLe.dom D64 single_dom) (DomLe.un f229 (DomLe.un (DomLe.dom D66 single_dom) (DomLe.dom D67 single_dom)))))) dm427 X487.size) (DomLe.un (DomLe.trans (DomLe.un (DomLe.trans (DomLe.un f235 (DomLe.un f241 (DomLe.dom D67 single_dom))) dm396 X294.size) (DomLe.un (DomLe.trans (DomLe.un f235 (DomLe.un f241 (DomLe.dom D67 single_dom))) dm401 X294.size) (DomLe.un (DomLe.dom D64 single_dom) (DomLe.un f229 (DomLe.un (DomLe.dom D66 single_dom) (DomLe.dom D67 single_dom)))))) dm432 X487.size) (DomLe.dom D67 single_dom))))
      subst hM
      exact ⟨_, Ret_of [.bool false] ⟨⟨rfl, rfl⟩, trivial⟩, _, _, _, _, _, _, _, _, _, _, _, H, rfl, X492, o469, ex470, (DomLe.trans (DomLe.un (DomLe.trans (DomLe.un (DomLe.trans (DomLe.un f235 (DomLe.un f241 (DomLe.dom D67 single_dom))) dm396 X294.size) (DomLe.un (DomLe.trans (DomLe.un f235 (DomLe.un f241 (DomLe.dom D67 single_dom))) dm401 X294.size) (DomLe.un (DomLe.dom D64 single_dom) (DomLe.un f229 (DomLe.un (DomLe.dom D66 single_dom) (DomLe.dom D67 single_dom)))))) dm427 X487.size) (DomLe.un (DomLe.trans (DomLe.un (DomLe.trans (DomLe.un f235 (DomLe.un f241 (DomLe.dom D67 single_dom))) dm396 X294.size) (DomLe.un (DomLe.trans (DomLe.un f235 (DomLe.un f241 (DomLe.dom D67 single_dom))) dm401 X294.size) (DomLe.un (DomLe.dom D64 single_dom) (DomLe.un f229 (DomLe.un (DomLe.dom D66 single_dom) (DomLe.dom D67 single_dom)))))) dm432 X487.size) (DomLe.dom D67 single_dom))) dm471 X488.size), o474, ex475, (DomLe.trans (DomLe.un (DomLe.trans (DomLe.un (DomLe.trans (DomLe.un f235 (DomLe.un f241 (DomLe.dom D67 single_dom))) dm396 X294.size) (DomLe.un (DomLe.trans (DomLe.un f235 (DomLe.un f241 (DomLe.dom D67 single_dom))) dm401 X294.size) (DomLe.un (DomLe.dom D64 single_dom) (DomLe.un f229 (DomLe.un (DomLe.dom D66 single_dom) (DomLe.dom D67 single_dom)))))) dm427 X487.size) (DomLe.un (DomLe.trans (DomLe.un (DomLe.trans (DomLe.un f235 (DomLe.un f241 (DomLe.dom D67 single_dom))) dm396 X294.size) (DomLe.un (DomLe.trans (DomLe.un f235 (DomLe.un f241 (DomLe.dom D67 single_dom))) dm401 X294.size) (DomLe.un (DomLe.dom D64 single_dom) (DomLe.un f229 (DomLe.un (DomLe.dom D66 single_dom) (DomLe.dom D67 single_dom)))))) dm432 X487.size) (DomLe.dom D67 single_dom))) dm476 X488.size), ex489, o436, ex490, (DomLe.trans (DomLe.un (DomLe.trans (DomLe.un f235 (DomLe.un f241 (DomLe.dom D67 single_dom))) dm396 X294.size) (DomLe.un (DomLe.trans (DomLe.un f235 (DomLe.un f241 (DomLe.dom D67 single_dom))) dm401 X294.size) (DomLe.un (DomLe.dom D64 single_dom) (DomLe.un f229 (DomLe.un (DomLe.dom D66 single_dom) (DomLe.dom D67 single_dom)))))) dm438 X487.size), ex491, ex478, d479, (DomLe.dj dm471 (Dj.un_l d443 (Dj.un_l d447 (Dj.box (Dj.box d41.symm).symm).symm)) ex434), (DomLe.dj dm471 (Dj.un_l d444 (Dj.un_l d448 d453.symm)) ex437), (DomLe.dj dm471 (Dj.un_l d445 (Dj.un_l d449 (Dj.box (Dj.box d44.symm).symm).symm)) ex440), d480, (DomLe.dj dm476 (Dj.un_l d443 (Dj.un_l d447 (Dj.box (Dj.box d41.symm).symm).symm)) ex434), (DomLe.dj dm476 (Dj.un_l d444 (Dj.un_l d448 d453.symm)) ex437), (DomLe.dj dm476 (Dj.un_l d445 (Dj.un_l d449 (Dj.box (Dj.box d44.symm).symm).symm)) ex440), d481, d451, d452, (Dj.box d453.symm).symm, cn454⟩
     have H := H.2 hc486
     refine W_skip ?_
     refine W_region ?_
     refine LP_ev ok 0 [(56, I n), (57, I (wr (n + 1))), (9, I (wr (n + 1)))] 3 rfl rfl ?_
     refine LP_end _ rfl ?_
     try refine W_forget [(0, pb b29), (1, I k), (2, I left), (9, I (wr (n + 1)))] ⟨rfl, rfl, rfl, rfl, trivial⟩ fun ρ => ?_
     have X493 := (X294.step x392 (DomLe.un f235 (DomLe.un f241 (DomLe.dom D67 single_dom))))
     have X494 := (((X294.step x392 (DomLe.un f235 (DomLe.un f241 (DomLe.dom D67 single_dom)))).step x423 (DomLe.un (DomLe.trans (DomLe.un f235 (DomLe.un f241 (DomLe.dom D67 single_dom))) dm396 X294.size) (DomLe.un (DomLe.trans (DomLe.un f235 (DomLe.un f241 (DomLe.dom D67 single_dom))) dm401 X294.size) (DomLe.un (DomLe.dom D64 single_dom) (DomLe.un f229 (DomLe.un (DomLe.dom D66 single_dom) (DomLe.dom D67 single_dom))))))).step x467 (DomLe.un (DomLe.trans (DomLe.un (DomLe.trans (DomLe.un f235 (DomLe.un f241 (DomLe.dom D67 single_dom))) dm396 X294.size) (DomLe.un (DomLe.trans (DomLe.un f235 (DomLe.un f241 (DomLe.dom D67 single_dom))) dm401 X294.size) (DomLe.un (DomLe.dom D64 single_dom) (DomLe.un f229 (DomLe.un (DomLe.dom D66 single_dom) (DomLe.dom D67 single_dom)))))) dm427 X493.size) (DomLe.un (DomLe.trans (DomLe.un (DomLe.trans (DomLe.un f235 (DomLe.un f241 (DomLe.dom D67 single_dom))) dm396 X294.size) (DomLe.un (DomLe.trans (DomLe.un f235 (DomLe.un f241 (DomLe.dom D67 single_dom))) dm401 X294.size) (DomLe.un (DomLe.dom D64 single_dom) (DomLe.un f229 (DomLe.un (DomLe.dom D66 single_dom) (DomLe.dom D67 single_dom)))))) dm432 X493.size) (DomLe.dom D67 single_dom))))
     have ex495 := (ex437.but x467 (Dj.un_l d444 (Dj.un_l d448 d453.symm)))
     have X496 := (X493.step x423 (DomLe.un (DomLe.trans (DomLe.un f235 (DomLe.un f241 (DomLe.dom D67 single_dom))) dm396 X294.size) (DomLe.un (DomLe.trans (DomLe.un f235 (DomLe.un f241 (DomLe.dom D67 single_dom))) dm401 X294.size) (DomLe.un (DomLe.dom D64 single_dom) (DomLe.un f229 (DomLe.un (DomLe.dom D66 single_dom) (DomLe.dom D67 single_dom)))))))
     have ex497 := (ex463.but x467 (Dj.un_l (DomLe.dj dm427 (Dj.un_l (DomLe.dj dm396 (Dj.un_l d261 (Dj.un_l d268 (Dj.box d60))) ex285) (Dj.un_l (DomLe.dj dm401 (Dj.un_l d261 (Dj.un_l d268 (Dj.box d60))) ex285) (Dj.un_l (Dj.box d51) (Dj.un_l d255 (Dj.un_l (Dj.box d57) (Dj.box d60)))))) ex416) (Dj.un_l (DomLe.dj dm432 (Dj.un_l (DomLe.dj dm396 (Dj.un_l d261 (Dj.un_l d268 (Dj.box d60))) ex285) (Dj.un_l (DomLe.dj dm401 (Dj.un_l d261 (Dj.un_l d268 (Dj.box d60))) ex285) (Dj.un_l (Dj.box d51) (Dj.un_l d255 (Dj.un_l (Dj.box d57) (Dj.box d60)))))) ex416) (Dj.box d60))))
     have ex498 := (ex464.but x467 (Dj.un_l (DomLe.dj dm427 (Dj.un_l (DomLe.dj dm396 (Dj.un_l d262 (Dj.un_l d269 (Dj.box d61))) ex288) (Dj.un_l (DomLe.dj dm401 (Dj.un_l d262 (Dj.un_l d269 (Dj.box d61))) ex288) (Dj.un_l (Dj.box d52) (Dj.un_l d256 (Dj.un_l (Dj.box d58) (Dj.box d61)))))) ex420) (Dj.un_l (DomLe.dj dm432 (Dj.un_l (DomLe.dj dm396 (Dj.un_l d262 (Dj.un_l d269 (Dj.box d61))) ex288) (Dj.un_l (DomLe.dj dm401 (Dj.un_l d262 (Dj.un_l d269 (Dj.box d61))) ex288) (Dj.un_l (Dj.box d52) (Dj.un_l d256 (Dj.un_l (Dj.box d58) (Dj.box d61)))))) ex420) (Dj.box d61))))
     have ex499 := (ex465.but x467 (Dj.un_l (DomLe.dj dm427 (Dj.un_l (DomLe.dj dm396 (Dj.un_l d263 (Dj.un_l d270 (Dj.box d62))) ex289) (Dj.un_l (DomLe.dj dm401 (Dj.un_l d263 (Dj.un_l d270 (Dj.box d62))) ex289) (Dj.un_l (Dj.box d53) (Dj.un_l d257 (Dj.un_l (Dj.box d59) (Dj.box d62)))))) ex421) (Dj.un_l (DomLe.dj dm432 (Dj.un_l (DomLe.dj dm396 (Dj.un_l d263 (Dj.un_l d270 (Dj.box d62))) ex289) (Dj.un_l (DomLe.dj dm401 (Dj.un_l d263 (Dj.un_l d270 (Dj.box d62))) ex289) (Dj.un_l (Dj.box d53) (Dj.un_l d257 (Dj.un_l (Dj.box d59) (Dj.box d62)))))) ex421) (Dj.box d62))))
     have ex500 := (ex434.but x467 (Dj.un_l d443 (Dj.un_l d447 (Dj.box (Dj.box d41.symm).symm).symm)))
     have ex501 := (ex440.but x467 (Dj.un_l d445 (Dj.un_l d449 (Dj.box (Dj.box d44.symm).symm).symm)))
     exact ⟨(wr (n + 1), r414, r415, r461, r462), ⟨H.1, _, sl a459 r415 c460, hx435, sl a482 r461 c483, hx468, sl a484 r462 c485, hx473, env_eq ⟨rfl, rfl, rfl, rfl, trivial⟩, X494, o436, ex495, (DomLe.trans (DomLe.un (DomLe.trans (DomLe.un f235 (DomLe.un f241 (DomLe.dom D67 single_dom))) dm396 X294.size) (DomLe.un (DomLe.trans (DomLe.un f235 (DomLe.un f241 (DomLe.dom D67 single_dom))) dm401 X294.size) (DomLe.un (DomLe.dom D64 single_dom) (DomLe.un f229 (DomLe.un (DomLe.dom D66 single_dom) (DomLe.dom D67 single_dom)))))) dm438 X493.size), o469, ex470, (DomLe.trans (DomLe.un (DomLe.trans (DomLe.un (DomLe.trans (DomLe.un f235 (DomLe.un f241 (DomLe.dom D67 single_dom))) dm396 X294.size) (DomLe.un (DomLe.trans (DomLe.un f235 (DomLe.un f241 (DomLe.dom D67 single_dom))) dm401 X294.size) (DomLe.un (DomLe.dom D64 single_dom) (DomLe.un f229 (DomLe.un (DomLe.dom D66 single_dom) (DomLe.dom D67 single_dom)))))) dm427 X493.size) (DomLe.un (DomLe.trans (DomLe.un (DomLe.trans (DomLe.un f235 (DomLe.un f241 (DomLe.dom D67 single_dom))) dm396 X294.size) (DomLe.un (DomLe.trans (DomLe.un f235 (DomLe.un f241 (DomLe.dom D67 single_dom))) dm401 X294.size) (DomLe.un (DomLe.dom D64 single_dom) (DomLe.un f229 (DomLe.un (DomLe.dom D66 single_dom) (DomLe.dom D67 single_dom)))))) dm432 X493.size) (DomLe.dom D67 single_dom))) dm471 X496.size), o474, ex475, (DomLe.trans (DomLe.un (DomLe.trans (DomLe.un (DomLe.trans (DomLe.un f235 (DomLe.un f241 (DomLe.dom D67 single_dom))) dm396 X294.size) (DomLe.un (DomLe.trans (DomLe.un f235 (DomLe.un f241 (DomLe.dom D67 single_dom))) dm401 X294.size) (DomLe.un (DomLe.dom D64 single_dom) (DomLe.un f229 (DomLe.un (DomLe.dom D66 single_dom) (DomLe.dom D67 single_dom)))))) dm427 X493.size) (DomLe.un (DomLe.trans (DomLe.un (DomLe.trans (DomLe.un f235 (DomLe.un f241 (DomLe.dom D67 single_dom))) dm396 X294.size) (DomLe.un (DomLe.trans (DomLe.un f235 (DomLe.un f241 (DomLe.dom D67 single_dom))) dm401 X294.size) (DomLe.un (DomLe.dom D64 single_dom) (DomLe.un f229 (DomLe.un (DomLe.dom D66 single_dom) (DomLe.dom D67 single_dom)))))) dm432 X493.size) (DomLe.dom D67 single_dom))) dm476 X496.size), ex497, ex498, ex499, ex500, ex501, ex478, (DomLe.dj dm438 (Dj.un_l (DomLe.dj dm396 (Dj.un_l d261 (Dj.un_l d268 (Dj.box d60))) ex285) (Dj.un_l (DomLe.dj dm401 (Dj.un_l d261 (Dj.un_l d268 (Dj.box d60))) ex285) (Dj.un_l (Dj.box d51) (Dj.un_l d255 (Dj.un_l (Dj.box d57) (Dj.box d60)))))) ex416), (DomLe.dj dm438 (Dj.un_l (DomLe.dj dm396 (Dj.un_l d262 (Dj.un_l d269 (Dj.box d61))) ex288) (Dj.un_l (DomLe.dj dm401 (Dj.un_l d262 (Dj.un_l d269 (Dj.box d61))) ex288) (Dj.un_l (Dj.box d52) (Dj.un_l d256 (Dj.un_l (Dj.box d58) (Dj.box d61)))))) ex420), (DomLe.dj dm438 (Dj.un_l (DomLe.dj dm396 (Dj.un_l d263 (Dj.un_l d270 (Dj.box d62))) ex289) (Dj.un_l (DomLe.dj dm401 (Dj.un_l d263 (Dj.un_l d270 (Dj.box d62))) ex289) (Dj.un_l (Dj.box d53) (Dj.un_l d257 (Dj.un_l (Dj.box d59) (Dj.box d62)))))) ex421), d451.symm, d452, (Dj.box d453.symm).symm, (DomLe.dj dm471 (Dj.un_l (DomLe.dj dm427 (Dj.un_l (DomLe.dj dm396 (Dj.un_l d261 (Dj.un_l d268 (Dj.box d60))) ex285) (Dj.un_l (DomLe.dj dm401 (Dj.un_l d261 (Dj.un_l d268 (Dj.box d60))) ex285) (Dj.un_l (Dj.box d51) (Dj.un_l d255 (Dj.un_l (Dj.box d57) (Dj.box d60)))))) ex416) (Dj.un_l (DomLe.dj dm432 (Dj.un_l (DomLe.dj dm396 (Dj.un_l d261 (Dj.un_l d268 (Dj.box d60))) ex285) (Dj.un_l (DomLe.dj dm401 (Dj.un_l d261 (Dj.un_l d268 (Dj.box d60))) ex285) (Dj.un_l (Dj.box d51) (Dj.un_l d255 (Dj.un_l (Dj.box d57) (Dj.box d60)))))) ex416) (Dj.box d60))) ex463), (DomLe.dj dm471 (Dj.un_l (DomLe.dj dm427 (Dj.un_l (DomLe.dj dm396 (Dj.un_l d262 (Dj.un_l d269 (Dj.box d61))) ex288) (Dj.un_l (DomLe.dj dm401 (Dj.un_l d262 (Dj.un_l d269 (Dj.box d61))) ex288) (Dj.un_l (Dj.box d52) (Dj.un_l d256 (Dj.un_l (Dj.box d58) (Dj.box d61)))))) ex420) (Dj.un_l (DomLe.dj dm432 (Dj.un_l (DomLe.dj dm396 (Dj.un_l d262 (Dj.un_l d269 (Dj.box d61))) ex288) (Dj.un_l (DomLe.dj dm401 (Dj.un_l d262 (Dj.un_l d269 (Dj.box d61))) ex288) (Dj.un_l (Dj.box d52) (Dj.un_l d256 (Dj.un_l (Dj.box d58) (Dj.box d61)))))) ex420) (Dj.box d61))) ex464), (DomLe.dj dm471 (Dj.un_l (DomLe.dj dm427 (Dj.un_l (DomLe.dj dm396 (Dj.un_l d263 (Dj.un_l d270 (Dj.box d62))) ex289) (Dj.un_l (DomLe.dj dm401 (Dj.un_l d263 (Dj.un_l d270 (Dj.box d62))) ex289) (Dj.un_l (Dj.box d53) (Dj.un_l d257 (Dj.un_l (Dj.box d59) (Dj.box d62)))))) ex421) (Dj.un_l (DomLe.dj dm432 (Dj.un_l (DomLe.dj dm396 (Dj.un_l d263 (Dj.un_l d270 (Dj.box d62))) ex289) (Dj.un_l (DomLe.dj dm401 (Dj.un_l d263 (Dj.un_l d270 (Dj.box d62))) ex289) (Dj.un_l (Dj.box d53) (Dj.un_l d257 (Dj.un_l (Dj.box d59) (Dj.box d62)))))) ex421) (Dj.box d62))) ex465), (DomLe.dj dm471 (Dj.un_l d443 (Dj.un_l d447 (Dj.box (Dj.box d41.symm).symm).symm)) ex434), (DomLe.dj dm471 (Dj.un_l d445 (Dj.un_l d449 (Dj.box (Dj.box d44.symm).symm).symm)) ex440), d480, (DomLe.dj dm471 (Dj.un_l d444 (Dj.un_l d448 d453.symm)) ex437), (DomLe.dj dm476 (Dj.un_l (DomLe.dj dm427 (Dj.un_l (DomLe.dj dm396 (Dj.un_l d261 (Dj.un_l d268 (Dj.box d60))) ex285) (Dj.un_l (DomLe.dj dm401 (Dj.un_l d261 (Dj.un_l d268 (Dj.box d60))) ex285) (Dj.un_l (Dj.box d51) (Dj.un_l d255 (Dj.un_l (Dj.box d57) (Dj.box d60)))))) ex416) (Dj.un_l (DomLe.dj dm432 (Dj.un_l (DomLe.dj dm396 (Dj.un_l d261 (Dj.un_l d268 (Dj.box d60))) ex285) (Dj.un_l (DomLe.dj dm401 (Dj.un_l d261 (Dj.un_l d268 (Dj.box d60))) ex285) (Dj.un_l (Dj.box d51) (Dj.un_l d255 (Dj.un_l (Dj.box d57) (Dj.box d60)))))) ex416) (Dj.box d60))) ex463), (DomLe.dj dm476 (Dj.un_l (DomLe.dj dm427 (Dj.un_l (DomLe.dj dm396 (Dj.un_l d262 (Dj.un_l d269 (Dj.box d61))) ex288) (Dj.un_l (DomLe.dj dm401 (Dj.un_l d262 (Dj.un_l d269 (Dj.box d61))) ex288) (Dj.un_l (Dj.box d52) (Dj.un_l d256 (Dj.un_l (Dj.box d58) (Dj.box d61)))))) ex420) (Dj.un_l (DomLe.dj dm432 (Dj.un_l (DomLe.dj dm396 (Dj.un_l d262 (Dj.un_l d269 (Dj.box d61))) ex288) (Dj.un_l (DomLe.dj dm401 (Dj.un_l d262 (Dj.un_l d269 (Dj.box d61))) ex288) (Dj.un_l (Dj.box d52) (Dj.un_l d256 (Dj.un_l (Dj.box d58) (Dj.box d61)))))) ex420) (Dj.box d61))) ex464), (DomLe.dj dm476 (Dj.un_l (DomLe.dj dm427 (Dj.un_l (DomLe.dj dm396 (Dj.un_l d263 (Dj.un_l d270 (Dj.box d62))) ex289) (Dj.un_l (DomLe.dj dm401 (Dj.un_l d263 (Dj.un_l d270 (Dj.box d62))) ex289) (Dj.un_l (Dj.box d53) (Dj.un_l d257 (Dj.un_l (Dj.box d59) (Dj.box d62)))))) ex421) (Dj.un_l (DomLe.dj dm432 (Dj.un_l (DomLe.dj dm396 (Dj.un_l d263 (Dj.un_l d270 (Dj.box d62))) ex289) (Dj.un_l (DomLe.dj dm401 (Dj.un_l d263 (Dj.un_l d270 (Dj.box d62))) ex289) (Dj.un_l (Dj.box d53) (Dj.un_l d257 (Dj.un_l (Dj.box d59) (Dj.box d62)))))) ex421) (Dj.box d62))) ex465), (DomLe.dj dm476 (Dj.un_l d443 (Dj.un_l d447 (Dj.box (Dj.box d41.symm).symm).symm)) ex434), (DomLe.dj dm476 (Dj.un_l d445 (Dj.un_l d449 (Dj.box (Dj.box d44.symm).symm).symm)) ex440), d481, (DomLe.dj dm476 (Dj.un_l d444 (Dj.un_l d448 d453.symm)) ex437), d479.symm, cn454⟩, H.2⟩
    have H := H.2 hc282
    refine W_exit ?_
    refine (if_pos rfl).mpr ?_
    exact ⟨(x223, x224, counts230, sums236), H, _, sl a246 x224 c247, hx226, sl a248 counts230 c249, hx232, sl a250 sums236 c251, hx238, env_eq trivial, X277, o227, ex228, f229, o233, ex234, f235, o239, ex240, f241, ex243, ex244, ex245, ex252, ex253, ex254, d255, d256, d257, d258, d259, d260, d261, d262, d263, d264, d265, d266, d267, d268, d269, d270, d271, d272, d273, d274, d275, cn276⟩
   rintro ⟨x169, x170, counts, sums⟩ _ wx186 ⟨H, ρ, vx171, hx172, vx176, hx177, vx181, hx182, rfl, HF⟩
   revert HF
   refine bb9 fun X221 o173 ex174 f175 o178 ex179 f180 o183 => ?_
   refine bb9 fun ex184 f185 ex187 ex188 ex189 ex196 ex197 ex198 => ?_
   refine bb9 fun d199 d200 d201 d202 d203 d204 d205 d206 => ?_
   refine bb9 fun d207 d208 d209 d210 d211 d212 d213 d214 => ?_
   refine bb6 fun d215 d216 d217 d218 d219 cn220 => ?_
   subst hk
   obtain ⟨a190, c191, rfl⟩ := o173.shape
   obtain ⟨a192, c193, rfl⟩ := o178.shape
   obtain ⟨a194, c195, rfl⟩ := o183.shape
   refine W_seq ?_
   refine W_region ?_
   refine LP_ev ok 0 [(6, .bool true)] 1 rfl rfl ?_
   refine LP_end _ rfl ?_
   refine W_ret ?_
   subst hM
   exact ⟨_, Ret_of [.bool true] ⟨⟨rfl, rfl⟩, trivial⟩, _, _, _, _, _, _, _, _, _, _, _, H, rfl, X221, o178, ex179, f180, o183, ex184, f185, ex196, o173, ex174, f175, ex197, ex198, d219.symm, d208, d211, d209, d210, d215, d218, d216, d217, d202.symm, d203, d204, cn220⟩
 exact key _ x c13 c15 c26 k left Q H0 (Nat.lt_succ_self _) w r ex r3 ex4 r9 ex10 ex14 r18 ex19 cn ex23 ex25 ex28 ex30 d d31 d32 d33 d34 d35 d36 d37 d38 d39 d40 d41 d42 d43 d44 d45 d46 d47 d48 d49 d50 d51 d52 d53 d54 d55 d56 d57 d58 d59 d60 d61 d62

end Go.Proofs.YtkebfmobfeponaaGreat
