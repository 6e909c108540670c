/- The walks: each Go function does what its meaning says. -/
import Derived.Test.YtklajcbpnpkniaaODefs
import Derived.Test.YtklajcbpnpkniaaProg
import Derived.KernelRfl
set_option linter.unusedVariables false
set_option autoImplicit false
namespace Go.Proofs.Ytklajcbpnpkniaa
open Go Go.RowKit Go.Gv

open Go.Proofs
set_option maxRecDepth 8000
set_option maxHeartbeats 4000000
def ty : Ty := Ty.of [(3, .int .i64), (4, .bool), (5, .int .u8), (9, .string), (22, .slice 5), (23, .slice 90), (24, .slice 79), (25, .slice 3), (26, .slice 40), (57, .int .u64), (103, .int .u64), (121, .slice 9)] [((40, 0), 0), ((40, 1), 1), ((40, 2), 2), ((59, 0), 0), ((59, 1), 1), ((59, 2), 2), ((79, 0), 0), ((90, 0), 0), ((90, 1), 1)] [(40, [.int .i64 0, .int .i64 0, .slice none 0 0], [(0, 1), (1, 1), (2, 1)]), (59, [.slice none 0 0, .int .i64 0, .int .u64 0], [(0, 1), (1, 1), (2, 1)]), (79, [.slice none 0 0], [(0, 1)]), (90, [.string ⟨#[]⟩, .int .i64 0], [(0, 1), (1, 1)])]
theorem fa40_0 : FldOk Try.prog 40 0 0 := fun _ _ => by kernel_rfl
theorem fa40_1 : FldOk Try.prog 40 1 1 := fun _ _ => by kernel_rfl
theorem fa40_2 : FldOk Try.prog 40 2 2 := fun _ _ => by kernel_rfl
theorem fa59_0 : FldOk Try.prog 59 0 0 := fun _ _ => by kernel_rfl
theorem fa59_1 : FldOk Try.prog 59 1 1 := fun _ _ => by kernel_rfl
theorem fa59_2 : FldOk Try.prog 59 2 2 := fun _ _ => by kernel_rfl
theorem fa79_0 : FldOk Try.prog 79 0 0 := fun _ _ => by kernel_rfl
theorem fa90_0 : FldOk Try.prog 90 0 0 := fun _ _ => by kernel_rfl
theorem fa90_1 : FldOk Try.prog 90 1 1 := fun _ _ => by kernel_rfl
theorem so40 : StrOk Try.prog 40 [.int .i64 0, .int .i64 0, .slice none 0 0] [(0, 1), (1, 1), (2, 1)] := StrOk.of (zc := #[.int .i64 0, .int .i64 0, .slice none 0 0]) Try.underlying40 (fun _ => by kernel_rfl) rfl (fun _ => by kernel_rfl)
theorem so59 : StrOk Try.prog 59 [.slice none 0 0, .int .i64 0, .int .u64 0] [(0, 1), (1, 1), (2, 1)] := StrOk.of (zc := #[.slice none 0 0, .int .i64 0, .int .u64 0]) Try.underlying59 (fun _ => by kernel_rfl) rfl (fun _ => by kernel_rfl)
theorem so79 : StrOk Try.prog 79 [.slice none 0 0] [(0, 1)] := StrOk.of (zc := #[.slice none 0 0]) Try.underlying79 (fun _ => by kernel_rfl) rfl (fun _ => by kernel_rfl)
theorem so90 : StrOk Try.prog 90 [.string ⟨#[]⟩, .int .i64 0] [(0, 1), (1, 1)] := StrOk.of (zc := #[.string ⟨#[]⟩, .int .i64 0]) Try.underlying90 (fun _ => by kernel_rfl) rfl (fun _ => by kernel_rfl)
theorem ok : TyOk Try.prog ty := .of ⟨Try.underlying3, Try.underlying4, Try.underlying5, Try.underlying9, Try.underlying22, Try.underlying23, Try.underlying24, Try.underlying25, Try.underlying26, Try.underlying57, Try.underlying103, Try.underlying121, trivial⟩ ⟨fa40_0, fa40_1, fa40_2, fa59_0, fa59_1, fa59_2, fa79_0, fa90_0, fa90_1, trivial⟩ ⟨so40, so59, so79, so90, trivial⟩
theorem ti_3 : TyI Try.prog 3 1 8 (.int .i64 0) := .mk' (by kernel_rfl) rfl
theorem ti_5 : TyI Try.prog 5 1 1 (.int .u8 0) := .mk' (by kernel_rfl) rfl
theorem ti_9 : TyI Try.prog 9 1 16 (.string ⟨#[]⟩) := .mk' (by kernel_rfl) rfl
theorem ti_22 : TyI Try.prog 22 1 24 (.slice none 0 0) := .mk' (by kernel_rfl) rfl
theorem ti_25 : TyI Try.prog 25 1 24 (.slice none 0 0) := .mk' (by kernel_rfl) rfl
theorem ti_40 : TyI Try.prog 40 3 40 (.agg #[.int .i64 0, .int .i64 0, .slice none 0 0]) := .mk' (by kernel_rfl) rfl
theorem ti_57 : TyI Try.prog 57 1 8 (.int .u64 0) := .mk' (by kernel_rfl) rfl
theorem ti_79 : TyI Try.prog 79 1 24 (.agg #[.slice none 0 0]) := .mk' (by kernel_rfl) rfl
theorem ti_90 : TyI Try.prog 90 2 24 (.agg #[.string ⟨#[]⟩, .int .i64 0]) := .mk' (by kernel_rfl) rfl
theorem ag_3 : AggT Try.prog 3 false := ⟨_, Try.underlying3, by simp⟩
theorem ag_5 : AggT Try.prog 5 false := ⟨_, Try.underlying5, by simp⟩
theorem ag_9 : AggT Try.prog 9 false := ⟨_, Try.underlying9, by simp⟩
theorem ag_22 : AggT Try.prog 22 false := ⟨_, Try.underlying22, by simp⟩
theorem ag_25 : AggT Try.prog 25 false := ⟨_, Try.underlying25, by simp⟩
theorem ag_40 : AggT Try.prog 40 true := ⟨_, Try.underlying40, by simp⟩
theorem ag_57 : AggT Try.prog 57 false := ⟨_, Try.underlying57, by simp⟩
theorem ag_79 : AggT Try.prog 79 true := ⟨_, Try.underlying79, by simp⟩
theorem ag_90 : AggT Try.prog 90 true := ⟨_, Try.underlying90, by simp⟩
theorem mix : Try.prog.follows .mixedOrders = true := by kernel_rfl
theorem cal_5 : Callable Try.prog 5 := .mk Try.func5 rfl (by decide)
theorem cal_6 : Callable Try.prog 6 := .mk Try.func6 rfl (by decide)
theorem cal_7 : Callable Try.prog 7 := .mk Try.func7 rfl (by decide)
theorem cal_8 : Callable Try.prog 8 := .mk Try.func8 rfl (by decide)
theorem cal_9 : Callable Try.prog 9 := .mk Try.func9 rfl (by decide)
theorem cal_10 : Callable Try.prog 10 := .mk Try.func10 rfl (by decide)
theorem cal_11 : Callable Try.prog 11 := .mk Try.func11 rfl (by decide)
theorem cal_12 : Callable Try.prog 12 := .mk Try.func12 rfl (by decide)
theorem cal_13 : Callable Try.prog 13 := .mk Try.func13 rfl (by decide)
theorem cal_14 : Callable Try.prog 14 := .mk Try.func14 rfl (by decide)
theorem cal_15 : Callable Try.prog 15 := .mk Try.func15 rfl (by decide)
theorem cal_26 : Callable Try.prog 26 := .mk Try.func26 rfl (by decide)
theorem cal_27 : Callable Try.prog 27 := .mk Try.func27 rfl (by decide)
theorem cal_28 : Callable Try.prog 28 := .mk Try.func28 rfl (by decide)
theorem cal_29 : Callable Try.prog 29 := .mk Try.func29 rfl (by decide)
theorem cal_30 : Callable Try.prog 30 := .mk Try.func30 rfl (by decide)
theorem cal_31 : Callable Try.prog 31 := .mk Try.func31 rfl (by decide)
theorem cal_32 : Callable Try.prog 32 := .mk Try.func32 rfl (by decide)
theorem cal_33 : Callable Try.prog 33 := .mk Try.func33 rfl (by decide)
theorem cal_34 : Callable Try.prog 34 := .mk Try.func34 rfl (by decide)
theorem cal_35 : Callable Try.prog 35 := .mk Try.func35 rfl (by decide)
theorem cal_36 : Callable Try.prog 36 := .mk Try.func36 rfl (by decide)
theorem cal_37 : Callable Try.prog 37 := .mk Try.func37 rfl (by decide)
theorem cal_38 : Callable Try.prog 38 := .mk Try.func38 rfl (by decide)
theorem cal_39 : Callable Try.prog 39 := .mk Try.func39 rfl (by decide)
theorem cal_40 : Callable Try.prog 40 := .mk Try.func40 rfl (by decide)
theorem cal_41 : Callable Try.prog 41 := .mk Try.func41 rfl (by decide)
theorem cal_42 : Callable Try.prog 42 := .mk Try.func42 rfl (by decide)
theorem cal_43 : Callable Try.prog 43 := .mk Try.func43 rfl (by decide)
theorem cal_44 : Callable Try.prog 44 := .mk Try.func44 rfl (by decide)
theorem cal_45 : Callable Try.prog 45 := .mk Try.func45 rfl (by decide)
theorem cal_46 : Callable Try.prog 46 := .mk Try.func46 rfl (by decide)
theorem cal_47 : Callable Try.prog 47 := .mk Try.func47 rfl (by decide)
theorem cal_48 : Callable Try.prog 48 := .mk Try.func48 rfl (by decide)
theorem cal_49 : Callable Try.prog 49 := .mk Try.func49 rfl (by decide)
theorem cal_50 : Callable Try.prog 50 := .mk Try.func50 rfl (by decide)
theorem cal_51 : Callable Try.prog 51 := .mk Try.func51 rfl (by decide)
theorem cal_52 : Callable Try.prog 52 := .mk Try.func52 rfl (by decide)
theorem cal_55 : Callable Try.prog 55 := .mk Try.func55 rfl (by decide)
theorem cal_58 : Callable Try.prog 58 := .mk Try.func58 rfl (by decide)
theorem cal_62 : Callable Try.prog 62 := .mk Try.func62 rfl (by decide)
theorem cal_65 : Callable Try.prog 65 := .mk Try.func65 rfl (by decide)
theorem cal_66 : Callable Try.prog 66 := .mk Try.func66 rfl (by decide)
theorem cal_67 : Callable Try.prog 67 := .mk Try.func67 rfl (by decide)
theorem cal_68 : Callable Try.prog 68 := .mk Try.func68 rfl (by decide)
theorem cal_69 : Callable Try.prog 69 := .mk Try.func69 rfl (by decide)
theorem cal_70 : Callable Try.prog 70 := .mk Try.func70 rfl (by decide)
theorem cal_71 : Callable Try.prog 71 := .mk Try.func71 rfl (by decide)
theorem cal_72 : Callable Try.prog 72 := .mk Try.func72 rfl (by decide)
theorem cal_73 : Callable Try.prog 73 := .mk Try.func73 rfl (by decide)
theorem cal_74 : Callable Try.prog 74 := .mk Try.func74 rfl (by decide)
theorem cal_75 : Callable Try.prog 75 := .mk Try.func75 rfl (by decide)
theorem cal_76 : Callable Try.prog 76 := .mk Try.func76 rfl (by decide)
theorem cal_77 : Callable Try.prog 77 := .mk Try.func77 rfl (by decide)
theorem cal_78 : Callable Try.prog 78 := .mk Try.func78 rfl (by decide)
theorem cal_79 : Callable Try.prog 79 := .mk Try.func79 rfl (by decide)
theorem cal_80 : Callable Try.prog 80 := .mk Try.func80 rfl (by decide)
theorem cal_81 : Callable Try.prog 81 := .mk Try.func81 rfl (by decide)
theorem cal_82 : Callable Try.prog 82 := .mk Try.func82 rfl (by decide)
theorem cal_83 : Callable Try.prog 83 := .mk Try.func83 rfl (by decide)
theorem cal_84 : Callable Try.prog 84 := .mk Try.func84 rfl (by decide)
theorem cal_85 : Callable Try.prog 85 := .mk Try.func85 rfl (by decide)
theorem cal_86 : Callable Try.prog 86 := .mk Try.func86 rfl (by decide)
theorem cal_87 : Callable Try.prog 87 := .mk Try.func87 rfl (by decide)
theorem cal_88 : Callable Try.prog 88 := .mk Try.func88 rfl (by decide)
theorem cal_89 : Callable Try.prog 89 := .mk Try.func89 rfl (by decide)
theorem cal_90 : Callable Try.prog 90 := .mk Try.func90 rfl (by decide)
theorem cal_91 : Callable Try.prog 91 := .mk Try.func91 rfl (by decide)
theorem cal_92 : Callable Try.prog 92 := .mk Try.func92 rfl (by decide)
theorem cal_93 : Callable Try.prog 93 := .mk Try.func93 rfl (by decide)
theorem cal_94 : Callable Try.prog 94 := .mk Try.func94 rfl (by decide)
theorem cal_95 : Callable Try.prog 95 := .mk Try.func95 rfl (by decide)
theorem cal_96 : Callable Try.prog 96 := .mk Try.func96 rfl (by decide)
theorem cal_97 : Callable Try.prog 97 := .mk Try.func97 rfl (by decide)
theorem cal_99 : Callable Try.prog 99 := .mk Try.func99 rfl (by decide)
theorem cal_100 : Callable Try.prog 100 := .mk Try.func100 rfl (by decide)
theorem cal_106 : Callable Try.prog 106 := .mk Try.func106 rfl (by decide)
theorem cal_107 : Callable Try.prog 107 := .mk Try.func107 rfl (by decide)
theorem cal_108 : Callable Try.prog 108 := .mk Try.func108 rfl (by decide)
theorem cal_109 : Callable Try.prog 109 := .mk Try.func109 rfl (by decide)
theorem cal_110 : Callable Try.prog 110 := .mk Try.func110 rfl (by decide)
theorem cal_111 : Callable Try.prog 111 := .mk Try.func111 rfl (by decide)
theorem cal_112 : Callable Try.prog 112 := .mk Try.func112 rfl (by decide)
theorem cal_113 : Callable Try.prog 113 := .mk Try.func113 rfl (by decide)
theorem cal_114 : Callable Try.prog 114 := .mk Try.func114 rfl (by decide)
theorem cal_115 : Callable Try.prog 115 := .mk Try.func115 rfl (by decide)
theorem cal_116 : Callable Try.prog 116 := .mk Try.func116 rfl (by decide)
theorem cal_117 : Callable Try.prog 117 := .mk Try.func117 rfl (by decide)
theorem cal_118 : Callable Try.prog 118 := .mk Try.func118 rfl (by decide)
theorem cal_119 : Callable Try.prog 119 := .mk Try.func119 rfl (by decide)
theorem cal_122 : Callable Try.prog 122 := .mk Try.func122 rfl (by decide)
theorem cal_123 : Callable Try.prog 123 := .mk Try.func123 rfl (by decide)
theorem cal_124 : Callable Try.prog 124 := .mk Try.func124 rfl (by decide)

theorem spec_l1Cur_next_w (c : L1Cur) (Q : Int → Int → Int → Prop) (H : spec_l1Cur_next c Q) (w : World) {vx : Value} {hx : PH} (r : RS hx vx c.Code) (ex : Sub hx w) {b : Nat} (ex2 : Sub (bx b 59 [vx, I c.At, .int .u64 c.Seed]) w) (d : Dj (bx b 59 [vx, I c.At, .int .u64 c.Seed]) hx) :
  CallsTo Try.prog 112 #[pb b] w fun v w' => ∃ r0 m1_0 m1_1, Q r0 m1_0 m1_1 ∧ v = I r0 ∧ But (bx b 59 [vx, I c.At, .int .u64 c.Seed]) w w' ∧ Sub (bx b 59 [vx, I m1_0, .int .u64 m1_1]) w' := by
 obtain ⟨a, c1, rfl⟩ := r.shape
 refine enter (args := [pb b]) 62 Try.func112 rfl rfl rfl ?_
 refine W_forget [(0, pb b)] ⟨rfl, trivial⟩ fun ρ => ?_
 have D : Dom (bx b 59 [sl a c.Code c1, I c.At, .int .u64 c.Seed]) (bx b 59 [sl a c.Code c1, I c.At, .int .u64 c.Seed]) := (Dom.refl _)
 have X := But.refl (bx b 59 [sl a c.Code c1, I c.At, .int .u64 c.Seed]) w
 refine W_seq (W_region ?_)
 refine LP_ev ok 0 [(2, I 0)] 1 rfl rfl ?_
 refine LP_end _ rfl (W_seq (W_region ?_))
 refine LP_ev ok 0 [(3, I 0)] 1 rfl rfl ?_
 refine LP_end _ rfl ?_
 obtain ⟨k, hk, H⟩ := jn_elim H
 refine W_join2 (S := Int) (fun s ρ' w' => k s ∧ ∃ (ρ : Env), ρ' = setAll [(0, pb b), (3, I s)] ρ ∧ But (bx b 59 [sl a c.Code c1, I c.At, .int .u64 c.Seed]) w w' ∧ Sub hx w' ∧ Sub (bx b 59 [sl a c.Code c1, I c.At, .int .u64 c.Seed]) w') ?_ ?_
 ·refine W_seq ?_
  refine W_quiet mix (by kernel_rfl) ?_
  refine QP_ev ok 0 [(4, pb b), (5, pb b), (6, .pointer (some ⟨b, 1, none⟩))] 3 rfl rfl ?_
  refine QP_ldbox 3 (v := I c.At) rfl rfl rfl ti_3 ag_3 (fun _ => rfl) rfl ex2 rfl rfl ?_
  refine QP_ev ok 4 [(8, pb b), (9, pb b), (10, pb b)] 7 rfl rfl ?_
  refine QP_ldbox 7 (v := sl a c.Code c1) rfl rfl rfl ti_22 ag_22 (fun _ => rfl) rfl ex2 rfl rfl ?_
  refine QP_ev ok 8 [(12, I (ln c.Code)), (13, .bool (decide (c.At < (ln c.Code))))] 10 rfl rfl ?_
  refine QP_end _ rfl fun wx7 x => ?_
  refine W_cond (decide (c.At < (ln c.Code))) rfl (fun hc => ?_) (fun hc => ?_)
  ·have H := H.1 hc
   refine W_quiet mix (by kernel_rfl) ?_
   refine QP_ev ok 0 [(14, pb b), (15, pb b), (16, pb b)] 3 rfl rfl ?_
   have ex8 := (ex2.ext x)
   refine QP_ldbox 3 (v := sl a c.Code c1) rfl rfl rfl ti_22 ag_22 (fun _ => rfl) rfl ex8 rfl rfl ?_
   refine QP_ev ok 4 [(18, pb b), (19, pb b), (20, .pointer (some ⟨b, 1, none⟩))] 7 rfl rfl ?_
   refine QP_ldbox 7 (v := I c.At) rfl rfl rfl ti_3 ag_3 (fun _ => rfl) rfl ex8 rfl rfl ?_
   obtain ⟨x9, hi, hx10, H⟩ := H
   refine QP_index 8 rfl rfl rfl Try.underlying22 ti_5 rfl rfl r hi hx10 fun a11 cs r12 d13 => ?_
   have ex14 := (ex.ext x)
   refine QP_load 9 rfl rfl rfl ti_5 ag_5 rfl r12 d13 ex14 fun vx15 r16 => ?_
   obtain rfl := r16.b8
   refine QP_ev ok 10 [(24, I (wr (x9.v))), (3, I (wr (x9.v)))] 12 rfl rfl ?_
   refine QP_end _ rfl fun wx17 x18 => ?_
   exact ⟨wr (x9.v), H, _, env_eq ⟨rfl, rfl, trivial⟩, (X.stepx (x.trans x18)), (ex14.ext x18), (ex8.ext x18)⟩
  have H := H.2 hc
  exact W_skip ⟨0, H, _, env_eq ⟨rfl, rfl, trivial⟩, (X.stepx x), (ex.ext x), (ex2.ext x)⟩
 rintro b3 _ wx ⟨H, ρ, rfl, X6, ex4, ex5⟩
 subst hk
 refine W_seq (W_region ?_)
 refine LP_ev ok 0 [(25, pb b), (26, pb b), (27, .pointer (some ⟨b, 1, none⟩))] 3 rfl rfl ?_
 refine LP_ldbox 3 (v := I c.At) rfl rfl rfl ti_3 ag_3 (fun _ => rfl) rfl ex5 rfl rfl ?_
 refine LP_ev ok 4 [(29, I (wr (c.At + 1))), (30, pb b), (31, .pointer (some ⟨b, 1, none⟩))] 7 rfl rfl ?_
 refine LP_stbox 7 (vs := [I (wr (c.At + 1))]) (cs' := [sl a c.Code c1, I (wr (c.At + 1)), .int .u64 c.Seed]) rfl rfl rfl ti_3 rfl rfl rfl rfl rfl ex5 rfl rfl fun wx25 ex26 y => ?_
 refine LP_end _ rfl (W_seq (W_region ?_))
 refine LP_ev ok 0 [(32, pb b), (33, pb b), (34, pb b), (35, .pointer (some ⟨b, 2, none⟩))] 4 rfl rfl ?_
 refine LP_ldbox 4 (v := .int .u64 c.Seed) rfl rfl rfl ti_57 ag_57 (fun _ => rfl) rfl ex26 rfl rfl ?_
 refine LP_ev ok 5 [(37, .int .u64 (IntKind.u64.wrap (c.Seed * 6364136223846793005))), (38, I b3), (39, .int .u64 (IntKind.u64.wrap (b3))), (40, .int .u64 (IntKind.u64.wrap ((IntKind.u64.wrap (c.Seed * 6364136223846793005)) + (IntKind.u64.wrap (b3))))), (41, .int .u64 (IntKind.u64.wrap ((IntKind.u64.wrap ((IntKind.u64.wrap (c.Seed * 6364136223846793005)) + (IntKind.u64.wrap (b3)))) + 1442695040888963407))), (42, pb b), (43, .pointer (some ⟨b, 2, none⟩))] 12 rfl rfl ?_
 refine LP_stbox 12 (vs := [.int .u64 (IntKind.u64.wrap ((IntKind.u64.wrap ((IntKind.u64.wrap (c.Seed * 6364136223846793005)) + (IntKind.u64.wrap (b3)))) + 1442695040888963407))]) (cs' := [sl a c.Code c1, I (wr (c.At + 1)), .int .u64 (IntKind.u64.wrap ((IntKind.u64.wrap ((IntKind.u64.wrap (c.Seed * 6364136223846793005)) + (IntKind.u64.wrap (b3)))) + 1442695040888963407))]) rfl rfl rfl ti_57 rfl rfl rfl rfl rfl ex26 rfl rfl fun wx27 ex28 y29 => ?_
 refine LP_end _ rfl (W_seq ?_)
 refine W_seq ?_
 refine W_quiet mix (by kernel_rfl) ?_
 refine QP_ev ok 0 [(44, pb b), (45, pb b), (46, .pointer (some ⟨b, 1, none⟩))] 3 rfl rfl ?_
 refine QP_ldbox 3 (v := I (wr (c.At + 1))) rfl rfl rfl ti_3 ag_3 (fun _ => rfl) rfl ex28 rfl rfl ?_
 refine QP_ev ok 4 [(48, pb b), (49, pb b), (50, pb b)] 7 rfl rfl ?_
 refine QP_ldbox 7 (v := sl a c.Code c1) rfl rfl rfl ti_22 ag_22 (fun _ => rfl) rfl ex28 rfl rfl ?_
 refine QP_ev ok 8 [(52, I (ln c.Code)), (53, .bool (decide ((wr (c.At + 1)) ≤ (ln c.Code))))] 10 rfl rfl ?_
 refine QP_end _ rfl fun wx30 x31 => ?_
 try refine W_forget [(0, pb b), (3, I b3), (53, .bool (decide ((wr (c.At + 1)) ≤ (ln c.Code))))] ⟨rfl, rfl, rfl, trivial⟩ fun ρ => ?_
 refine W_cond (decide ((wr (c.At + 1)) ≤ (ln c.Code))) rfl (fun hc32 => ?_) (fun hc32 => ?_)
 ·have H := H.1 hc32
  refine W_seq (W_region ?_)
  refine LP_ev ok 0 [(54, I b3), (2, I b3)] 2 rfl rfl ?_
  refine LP_end _ rfl (W_ret ?_)
  exact ⟨_, Ret_of [I b3] ⟨⟨rfl, rfl⟩, trivial⟩, _, _, _, H, rfl, (((X6.step y (Dom.le D _)).step y29 (DomLe.dom D single_dom)).stepx x31), (ex28.ext x31)⟩
 have H := H.2 hc32
 refine W_skip ?_
 refine W_seq (W_region ?_)
 refine LP_ev ok 0 [(55, pb b), (56, pb b), (57, .pointer (some ⟨b, 2, none⟩))] 3 rfl rfl ?_
 have ex35 := (ex28.ext x31)
 refine LP_ldbox 3 (v := .int .u64 (IntKind.u64.wrap ((IntKind.u64.wrap ((IntKind.u64.wrap (c.Seed * 6364136223846793005)) + (IntKind.u64.wrap (b3)))) + 1442695040888963407))) rfl rfl rfl ti_57 ag_57 (fun _ => rfl) rfl ex35 rfl rfl ?_
 refine LP_ev ok 4 [(59, .int .u64 (Int.fdiv (IntKind.u64.wrap ((IntKind.u64.wrap ((IntKind.u64.wrap (c.Seed * 6364136223846793005)) + (IntKind.u64.wrap (b3)))) + 1442695040888963407)) (2 ^ 40))), (60, .int .u64 (bits .and .u64 (Int.fdiv (IntKind.u64.wrap ((IntKind.u64.wrap ((IntKind.u64.wrap (c.Seed * 6364136223846793005)) + (IntKind.u64.wrap (b3)))) + 1442695040888963407)) (2 ^ 40)) 255)), (61, I (wr (bits .and .u64 (Int.fdiv (IntKind.u64.wrap ((IntKind.u64.wrap ((IntKind.u64.wrap (c.Seed * 6364136223846793005)) + (IntKind.u64.wrap (b3)))) + 1442695040888963407)) (2 ^ 40)) 255))), (2, I (wr (bits .and .u64 (Int.fdiv (IntKind.u64.wrap ((IntKind.u64.wrap ((IntKind.u64.wrap (c.Seed * 6364136223846793005)) + (IntKind.u64.wrap (b3)))) + 1442695040888963407)) (2 ^ 40)) 255)))] 8 rfl rfl ?_
 refine LP_end _ rfl (W_ret ?_)
 exact ⟨_, Ret_of [I (wr (bits .and .u64 (Int.fdiv (IntKind.u64.wrap ((IntKind.u64.wrap ((IntKind.u64.wrap (c.Seed * 6364136223846793005)) + (IntKind.u64.wrap (b3)))) + 1442695040888963407)) (2 ^ 40)) 255))] ⟨⟨rfl, rfl⟩, trivial⟩, _, _, _, H, rfl, (((X6.step y (Dom.le D _)).step y29 (DomLe.dom D single_dom)).stepx x31), ex35⟩

theorem spec_l1Cur_pick_w (c : L1Cur) (n : Int) (Q : Int → Int → Int → Prop) (H : spec_l1Cur_pick c n Q) (w : World) {vx : Value} {hx : PH} (r : RS hx vx c.Code) (ex : Sub hx w) {b : Nat} (ex2 : Sub (bx b 59 [vx, I c.At, .int .u64 c.Seed]) w) (d : Dj (bx b 59 [vx, I c.At, .int .u64 c.Seed]) hx) :
  CallsTo Try.prog 74 #[pb b, I n] w fun v w' => ∃ r0 m1_0 m1_1, Q r0 m1_0 m1_1 ∧ v = I r0 ∧ But (bx b 59 [vx, I c.At, .int .u64 c.Seed]) w w' ∧ Sub (bx b 59 [vx, I m1_0, .int .u64 m1_1]) w' := by
 obtain ⟨a, c1, rfl⟩ := r.shape
 refine enter (args := [pb b, I n]) 20 Try.func74 rfl rfl rfl ?_
 refine W_forget [(0, pb b), (1, I n)] ⟨rfl, rfl, trivial⟩ fun ρ => ?_
 have D : Dom (bx b 59 [sl a c.Code c1, I c.At, .int .u64 c.Seed]) (bx b 59 [sl a c.Code c1, I c.At, .int .u64 c.Seed]) := (Dom.refl _)
 have X := But.refl (bx b 59 [sl a c.Code c1, I c.At, .int .u64 c.Seed]) w
 refine W_seq (W_region ?_)
 refine LP_ev ok 0 [(4, I 0)] 1 rfl rfl ?_
 refine LP_end _ rfl (W_seq ?_)
 refine W_seq (W_region ?_)
 refine LP_ev ok 0 [(6, I n), (7, .bool (decide (n ≤ 1)))] 2 rfl rfl ?_
 refine LP_end _ rfl ?_
 refine W_cond (decide (n ≤ 1)) rfl (fun hc => ?_) (fun hc => ?_)
 ·have H := H.1 hc
  refine W_seq (W_region ?_)
  refine LP_ev ok 0 [(4, I 0)] 1 rfl rfl ?_
  refine LP_end _ rfl (W_ret ?_)
  exact ⟨_, Ret_of [I 0] ⟨⟨rfl, rfl⟩, trivial⟩, _, _, _, H, rfl, X, ex2⟩
 have H := H.2 hc
 refine W_skip ?_
 refine W_seq (W_region ?_)
 refine LP_ev ok 0 [(8, pb b)] 1 rfl rfl ?_
 refine LP_call 1 rfl rfl rfl cal_112 rfl (spec_l1Cur_next_w _ _ H w r ex ex2 d) ?_
 rintro _ wx ⟨r3, r4, r5, H, rfl, x, ex6⟩
 refine LP_ev ok 2 [(5, I r3)] 3 rfl rfl ?_
 refine LP_end _ rfl ?_
 have X7 := (X.step x (Dom.le D _))
 have ex8 := (ex.but x d)
 obtain ⟨k, hk, H⟩ := jn_elim H
 refine W_join2 (S := Int × Int × Int) (fun s ρ' w' => k s.1 s.2.1 s.2.2 ∧ ∃ (ρ : Env), ρ' = setAll [(1, I n), (5, I s.1)] ρ ∧ But (bx b 59 [sl a c.Code c1, I c.At, .int .u64 c.Seed]) w w' ∧ Sub hx w' ∧ Sub (bx b 59 [sl a c.Code c1, I s.2.1, .int .u64 s.2.2]) w') ?_ ?_
 ·refine W_seq (W_region ?_)
  refine LP_ev ok 0 [(10, I n), (11, .bool (decide (n > 200)))] 2 rfl rfl ?_
  refine LP_end _ rfl ?_
  refine W_cond (decide (n > 200)) rfl (fun hc14 => ?_) (fun hc14 => ?_)
  ·have H := H.1 hc14
   refine W_region ?_
   refine LP_ev ok 0 [(12, I r3), (13, I (wr (r3 * 256))), (14, pb b)] 3 rfl rfl ?_
   refine LP_call 3 rfl rfl rfl cal_112 rfl (spec_l1Cur_next_w _ _ H wx r ex8 ex6 (Dj.box d)) ?_
   rintro _ wx18 ⟨r15, r16, r17, H, rfl, x19, ex20⟩
   refine LP_ev ok 4 [(16, I (wr ((wr (r3 * 256)) + r15))), (5, I (wr ((wr (r3 * 256)) + r15)))] 6 rfl rfl ?_
   exact LP_end _ rfl ⟨(wr ((wr (r3 * 256)) + r15), r16, r17), H, _, env_eq ⟨rfl, rfl, trivial⟩, (X7.step x19 (DomLe.dom D single_dom)), (ex8.but x19 (Dj.box d)), ex20⟩
  have H := H.2 hc14
  exact W_skip ⟨(r3, r4, r5), H, _, env_eq ⟨rfl, rfl, trivial⟩, X7, ex8, ex6⟩
 rintro ⟨x9, atx, seed⟩ _ wx10 ⟨H, ρ, rfl, X13, ex11, ex12⟩
 subst hk
 refine W_seq (W_region ?_)
 refine LP_ev ok 0 [(17, I x9), (18, I n)] 2 rfl rfl ?_
 obtain ⟨hz, H⟩ := H
 refine LP_val 2 _ rfl rfl (ex_rem rfl rfl rfl hz _) ?_
 refine LP_ev ok 3 [(4, I (Int.tmod x9 n))] 4 rfl rfl ?_
 refine LP_end _ rfl (W_ret ?_)
 exact ⟨_, Ret_of [I (Int.tmod x9 n)] ⟨⟨rfl, rfl⟩, trivial⟩, _, _, _, H, rfl, X13, ex12⟩

theorem spec_l1Cur_schema_w (c : L1Cur) (Q : (List Variable) → Int → Int → Prop) (H : spec_l1Cur_schema c Q) (w : World) {vx : Value} {hx : PH} (r : RS hx vx c.Code) (ex : Sub hx w) {b : Nat} (ex2 : Sub (bx b 59 [vx, I c.At, .int .u64 c.Seed]) w) (d : Dj (bx b 59 [vx, I c.At, .int .u64 c.Seed]) hx) :
  CallsTo Try.prog 107 #[pb b] w fun v w' => ∃ r0 m1_0 m1_1 u0 g0, Q r0 m1_0 m1_1 ∧ v = u0 ∧ But (bx b 59 [vx, I c.At, .int .u64 c.Seed]) w w' ∧ OS 90 g0 emp u0 r0 ∧ Sub g0 w' ∧ Fresh w.heap.size g0 ∧ Sub (bx b 59 [vx, I m1_0, .int .u64 m1_1]) w' ∧ Dj g0 (bx b 59 [vx, I m1_0, .int .u64 m1_1]) := by
 obtain ⟨a, c1, rfl⟩ := r.shape
 refine enter (args := [pb b]) 26 Try.func107 rfl rfl rfl ?_
 refine W_forget [(0, pb b)] ⟨rfl, trivial⟩ fun ρ => ?_
 have D : Dom (bx b 59 [sl a c.Code c1, I c.At, .int .u64 c.Seed]) (bx b 59 [sl a c.Code c1, I c.At, .int .u64 c.Seed]) := (Dom.refl _)
 have X := But.refl (bx b 59 [sl a c.Code c1, I c.At, .int .u64 c.Seed]) w
 refine W_seq (W_region ?_)
 refine LP_ev ok 0 [(2, .slice none 0 0)] 1 rfl rfl ?_
 refine LP_end _ rfl (W_seq (W_region ?_))
 refine LP_lit (α := ByteArray) (g := emp) 0 (vs := [.string ((ByteArray.mk #[115, 101, 120])), .string ((ByteArray.mk #[97, 103, 101])), .string ((ByteArray.mk #[106, 111, 98])), .string ((ByteArray.mk #[104, 111, 109, 101])), .string ((ByteArray.mk #[115, 105, 122, 101])), .string ((ByteArray.mk #[108, 97, 110, 103]))]) (xs := [(ByteArray.mk #[115, 101, 120]), (ByteArray.mk #[97, 103, 101]), (ByteArray.mk #[106, 111, 98]), (ByteArray.mk #[104, 111, 109, 101]), (ByteArray.mk #[115, 105, 122, 101]), (ByteArray.mk #[108, 97, 110, 103])]) rfl rfl rfl Try.underlying121 ti_9 rfl rfl ⟨⟨_, rfl, rfl⟩, ⟨_, rfl, rfl⟩, ⟨_, rfl, rfl⟩, ⟨_, rfl, rfl⟩, ⟨_, rfl, rfl⟩, ⟨_, rfl, rfl⟩, trivial⟩ rfl rfl fun hx3 vx4 wx x o ex5 f => ?_
 obtain ⟨a6, c7, rfl⟩ := o.shape
 refine LP_ev ok 1 [(3, .slice a6 (List.length ([(ByteArray.mk #[115, 101, 120]), (ByteArray.mk #[97, 103, 101]), (ByteArray.mk #[106, 111, 98]), (ByteArray.mk #[104, 111, 109, 101]), (ByteArray.mk #[115, 105, 122, 101]), (ByteArray.mk #[108, 97, 110, 103])])) c7)] 2 rfl rfl ?_
 refine LP_end _ rfl (W_seq (W_region ?_))
 refine LP_ev ok 0 [(4, .slice none 0 0)] 1 rfl rfl ?_
 refine LP_end _ rfl (W_seq ?_)
 refine W_seq (W_region ?_)
 refine LP_ev ok 0 [(5, I 0)] 1 rfl rfl ?_
 refine LP_end _ rfl ?_
 refine W_block ?_
 obtain ⟨J, m, Hx, H⟩ := H
 refine W_loop (S := (List Variable) × Int × Int × Int) (fun s ρ' w' => J s.1 s.2.1 s.2.2.1 s.2.2.2 ∧ ∃ (ρ : Env) (vx8 : Value) (hx9 : PH), ρ' = setAll [(0, pb b), (3, .slice a6 (List.length ([(ByteArray.mk #[115, 101, 120]), (ByteArray.mk #[97, 103, 101]), (ByteArray.mk #[106, 111, 98]), (ByteArray.mk #[104, 111, 109, 101]), (ByteArray.mk #[115, 105, 122, 101]), (ByteArray.mk #[108, 97, 110, 103])])) c7), (4, vx8), (5, I s.2.1)] ρ ∧ But (bx b 59 [sl a c.Code c1, I c.At, .int .u64 c.Seed]) w w' ∧ OS 90 hx9 emp vx8 s.1 ∧ Sub hx9 w' ∧ Fresh w.heap.size hx9 ∧ Sub hx w' ∧ Sub hx3 w' ∧ Sub (bx b 59 [sl a c.Code c1, I s.2.2.1, .int .u64 s.2.2.2]) w' ∧ Dj hx9 hx ∧ Dj hx9 hx3 ∧ Dj hx9 (bx b 59 [sl a c.Code c1, I s.2.2.1, .int .u64 s.2.2.2])) (fun s => m s.1 s.2.1 s.2.2.1 s.2.2.2) ([], 0, c.At, c.Seed) ⟨Hx, _, .slice none 0 0, emp, env_eq ⟨rfl, rfl, rfl, rfl, trivial⟩, (X.stepx x), OS.nil, (emp_sub _), (emp_fresh _), (ex.ext x), ex5, (ex2.ext x), (fun _ => .inl rfl), (fun _ => .inl rfl), (fun _ => .inl rfl)⟩ ?_
 rintro ⟨out, k, atx, seed⟩ _ wx13 ⟨Hi, ρ, vx8, hx9, rfl, HF⟩
 revert HF
 refine bb9 fun X22 o10 ex11 f12 ex14 ex15 ex18 d19 => ?_
 refine bb2 fun d20 d21 => ?_
 have H := H out k atx seed Hi
 obtain ⟨a16, c17, rfl⟩ := o10.shape
 refine W_seq ?_
 refine W_seq (W_region ?_)
 refine LP_ev ok 0 [(7, I k), (8, pb b)] 2 rfl rfl ?_
 refine LP_call 2 rfl rfl rfl cal_74 rfl (spec_l1Cur_pick_w _ _ _ H wx13 r ex14 ex18 (Dj.box d)) ?_
 rintro _ wx29 ⟨r26, r27, r28, H, rfl, x30, ex31⟩
 refine LP_ev ok 3 [(10, I (wr (1 + r26))), (11, .bool (decide (k < (wr (1 + r26)))))] 5 rfl rfl ?_
 refine LP_end _ rfl ?_
 refine W_cond (decide (k < (wr (1 + r26)))) rfl (fun hc => ?_) (fun hc => ?_)
 ·have H := H.1 hc
  refine W_skip ?_
  refine W_seq ?_
  refine W_block ?_
  refine W_open mix fun wx32 x33 => ?_
  refine AP_game 10 [[], [], [], [1, 2], [1, 2, 3], [], [5], [5, 6], [1, 2, 3, 4, 5, 6, 7], [1, 2, 3, 4, 5, 6, 7, 8], [0, 1, 2, 3, 4, 5, 6, 7, 8, 9], [0, 1, 2, 3, 4, 5, 6, 7, 8, 9, 10]] [[(4, none)], [(3, none)], [(5, none)], [(15, some 1), (16, some 2)], [(17, some 3)], [(0, none)], [(19, some 5)], [(20, some 6)], [(18, some 4), (21, some 7)], [(22, some 8)]] [(0, none), (3, none), (4, none), (5, none), (14, some 0), (23, some 9)] [(0, false), (1, false), (2, false), (3, false), (4, false), (5, false), (6, true), (7, false), (8, false), (9, true)] (by kernel_rfl) (by kernel_rfl) ?_
  refine GS_ev ok [(4, sl a16 out c17)] (sl a16 out c17) rfl rfl (fun _ h => h) (fun _ => rfl) ?_
  refine GS_ev ok [(3, .slice a6 (List.length ([(ByteArray.mk #[115, 101, 120]), (ByteArray.mk #[97, 103, 101]), (ByteArray.mk #[106, 111, 98]), (ByteArray.mk #[104, 111, 109, 101]), (ByteArray.mk #[115, 105, 122, 101]), (ByteArray.mk #[108, 97, 110, 103])])) c7)] (.slice a6 (List.length ([(ByteArray.mk #[115, 101, 120]), (ByteArray.mk #[97, 103, 101]), (ByteArray.mk #[106, 111, 98]), (ByteArray.mk #[104, 111, 109, 101]), (ByteArray.mk #[115, 105, 122, 101]), (ByteArray.mk #[108, 97, 110, 103])])) c7) rfl rfl (fun _ h => h) (fun _ => rfl) ?_
  refine GS_ev ok [(5, I k)] (I k) rfl rfl (fun _ h => h) (fun _ => rfl) ?_
  obtain ⟨x34, hi, hx35, H⟩ := H
  obtain ⟨a36, cs, hx39, r37, d38⟩ := run_indexAt Try.underlying121 ti_9 o.readf .i64 _ x34 hi hx35
  refine GS_r0 [(15, .slice a6 (List.length ([(ByteArray.mk #[115, 101, 120]), (ByteArray.mk #[97, 103, 101]), (ByteArray.mk #[106, 111, 98]), (ByteArray.mk #[104, 111, 109, 101]), (ByteArray.mk #[115, 105, 122, 101]), (ByteArray.mk #[108, 97, 110, 103])])) c7), (16, I k)] (.pointer (some a36)) rfl rfl (fun _ h => h) (fun _ _ => ex_index rfl rfl rfl (hx39 _)) ?_
  obtain ⟨vx40, hx42, r41⟩ := run_loadAt ti_9 ag_9 r37 d38
  obtain rfl := r41.str
  have ex43 := ((ex15.but x30 (Dj.box (Dj.of_fresh ex2 f))).ext x33)
  refine GS_r1 [(17, .pointer (some a36))] (.string x34) rfl rfl (fun _ h => h) (fun _ w e => ex_load rfl rfl (hx42 w e)) ex43 ?_
  refine GS_ev ok [(0, pb b)] (pb b) rfl rfl (fun _ h => h) (fun _ => rfl) ?_
  refine GS_lp [(19, pb b)] rfl rfl (fun _ h => h) rfl fun ρ wx44 x45 => ?_
  have xc := (x33.trans x45)
  have ex49 := ((ex14.but x30 (Dj.box d)).ext xc)
  refine LP_call 0 rfl rfl rfl cal_74 rfl (spec_l1Cur_pick_w _ _ _ H wx44 r ex49 (ex31.ext xc) (Dj.box d)) ?_
  rintro _ wx51 ⟨r46, r47, r48, H, rfl, x52, ex53⟩
  refine LP_gs ⟨⟨.inr ((ex43.ext x45).but x52 (Dj.box (Dj.of_fresh ex2 f))), trivial⟩, ?_⟩
  refine GS_ev ok [(20, I r46)] (I (wr (2 + r46))) rfl rfl (fun _ h => h) (fun _ => rfl) ?_
  refine GS_ev ok [(18, .string x34), (21, I (wr (2 + r46)))] (.agg #[.string x34, I (wr (2 + r46))]) rfl rfl (fun _ h => h) (fun _ => rfl) ?_
  refine GS_lp [(22, .agg #[.string x34, I (wr (2 + r46))])] rfl rfl (fun _ h => h) rfl fun ρ wx55 x56 => ?_
  refine LP_lit (α := Variable) (g := emp) 0 (vs := [.agg #[.string x34, I (wr (2 + r46))]]) (xs := [(Variable.mk x34 (wr (2 + r46)))]) rfl rfl rfl Try.underlying23 ti_90 rfl rfl ⟨⟨_, rfl, rfl⟩, trivial⟩ rfl rfl fun hx57 vx58 wx59 x60 o61 ex62 f63 => ?_
  obtain ⟨a64, c65, rfl⟩ := o61.shape
  refine LP_gs ⟨⟨.inl rfl, trivial⟩, ?_⟩
  intro wx66 x67 ρ hn
  refine AP_forget [(0, pb b), (3, .slice a6 (List.length ([(ByteArray.mk #[115, 101, 120]), (ByteArray.mk #[97, 103, 101]), (ByteArray.mk #[106, 111, 98]), (ByteArray.mk #[104, 111, 109, 101]), (ByteArray.mk #[115, 105, 122, 101]), (ByteArray.mk #[108, 97, 110, 103])])) c7), (4, sl a16 out c17), (5, I k), (14, sl a16 out c17), (23, .slice a64 (List.length ([(Variable.mk x34 (wr (2 + r46)))])) c65)] (by exact hn) fun ρ => ?_
  refine AP_tail 10 [[], [], [], [1, 2], [1, 2, 3], [], [5], [5, 6], [1, 2, 3, 4, 5, 6, 7], [1, 2, 3, 4, 5, 6, 7, 8], [0, 1, 2, 3, 4, 5, 6, 7, 8, 9], [0, 1, 2, 3, 4, 5, 6, 7, 8, 9, 10]] (by kernel_rfl) ?_
  have xc68 := ((x56.trans x60).trans x67)
  obtain ⟨hb, H⟩ := H
  refine LP_appendf (α := Variable) 10 rfl rfl rfl Try.underlying23 ti_90 rfl rfl rfl o10 ((((ex11.but x30 d21.symm).ext xc).but x52 (Dj.box d21.symm)).ext xc68) o61.readf (ex62.ext x67) (by first | omega | (simp only [ln] at *; omega)) (by first | omega | (simp only [ln] at *; omega)) fun hx71 vx72 wx73 o74 ex75 y dm => ?_
  obtain ⟨a76, c77, rfl⟩ := o74.shape
  refine LP_ev ok 11 [(4, .slice a76 (List.length (out ++ ([(Variable.mk x34 (wr (2 + r46)))]))) c77)] 12 rfl rfl ?_
  refine LP_end _ rfl ?_
  refine W_region ?_
  refine LP_ev ok 0 [(12, I k), (13, I (wr (k + 1))), (5, I (wr (k + 1)))] 3 rfl rfl ?_
  refine LP_end _ rfl ?_
  have f79 := dm.fresh f12 ((((X22.step x30 (DomLe.dom D single_dom)).stepx xc).step x52 (DomLe.dom D single_dom)).stepx xc68).size
  exact ⟨(out ++ ([(Variable.mk x34 (wr (2 + r46)))]), wr (k + 1), r47, r48), ⟨H.1, _, .slice a76 (List.length (out ++ ([(Variable.mk x34 (wr (2 + r46)))]))) c77, hx71, env_eq ⟨rfl, rfl, rfl, rfl, trivial⟩, (((((X22.step x30 (DomLe.dom D single_dom)).stepx xc).step x52 (DomLe.dom D single_dom)).stepx xc68).step y (f12.dom _)), o74, ex75, f79, (((ex49.but x52 (Dj.box d)).ext xc68).but y d19), ((((ex43.ext x45).but x52 (Dj.box (Dj.of_fresh ex2 f))).ext xc68).but y d20), ((ex53.ext xc68).but y (Dj.box d21.symm).symm), (DomLe.dj dm d19 ((ex49.but x52 (Dj.box d)).ext xc68)), (DomLe.dj dm d20 (((ex43.ext x45).but x52 (Dj.box (Dj.of_fresh ex2 f))).ext xc68)), (DomLe.dj dm (Dj.box d21.symm).symm (ex53.ext xc68))⟩, H.2⟩
 have H := H.2 hc
 refine W_exit ?_
 refine (if_pos rfl).mpr ?_
 refine W_seq (W_region ?_)
 refine LP_ev ok 0 [(25, sl a16 out c17), (2, sl a16 out c17)] 2 rfl rfl ?_
 refine LP_end _ rfl (W_ret ?_)
 exact ⟨_, Ret_of [sl a16 out c17] ⟨⟨rfl, rfl⟩, trivial⟩, _, _, _, _, _, H, rfl, (X22.step x30 (DomLe.dom D single_dom)), o10, (ex11.but x30 d21.symm), f12, ex31, (Dj.box d21.symm).symm⟩

theorem spec_l1Cur_among_w (c : L1Cur) (list : List Int) (Q : Int → Int → Int → Prop) (H : spec_l1Cur_among c list Q) (w : World) {vx : Value} {hx : PH} (r : RS hx vx c.Code) (ex : Sub hx w) {b : Nat} (ex2 : Sub (bx b 59 [vx, I c.At, .int .u64 c.Seed]) w) {vx3 : Value} {hx4 : PH} (r5 : RS hx4 vx3 list) (ex6 : Sub hx4 w) (d : Dj (bx b 59 [vx, I c.At, .int .u64 c.Seed]) hx) (d9 : Dj (bx b 59 [vx, I c.At, .int .u64 c.Seed]) hx4) :
  CallsTo Try.prog 75 #[pb b, vx3] w fun v w' => ∃ r0 m1_0 m1_1, Q r0 m1_0 m1_1 ∧ v = I r0 ∧ But (bx b 59 [vx, I c.At, .int .u64 c.Seed]) w w' ∧ Sub (bx b 59 [vx, I m1_0, .int .u64 m1_1]) w' := by
 obtain ⟨a, c1, rfl⟩ := r.shape
 obtain ⟨a7, c8, rfl⟩ := r5.shape
 refine enter (args := [pb b, sl a7 list c8]) 12 Try.func75 rfl rfl rfl ?_
 refine W_forget [(0, pb b), (1, sl a7 list c8)] ⟨rfl, rfl, trivial⟩ fun ρ => ?_
 have D : Dom (bx b 59 [sl a c.Code c1, I c.At, .int .u64 c.Seed]) (bx b 59 [sl a c.Code c1, I c.At, .int .u64 c.Seed]) := (Dom.refl _)
 have X := But.refl (bx b 59 [sl a c.Code c1, I c.At, .int .u64 c.Seed]) w
 refine W_seq (W_region ?_)
 refine LP_ev ok 0 [(4, I 0)] 1 rfl rfl ?_
 refine LP_end _ rfl (W_seq (W_region ?_))
 refine LP_ev ok 0 [(5, sl a7 list c8), (6, pb b), (7, sl a7 list c8), (8, I (ln list))] 4 rfl rfl ?_
 refine LP_call 4 rfl rfl rfl cal_74 rfl (spec_l1Cur_pick_w _ _ _ H w r ex ex2 d) ?_
 rintro _ wx ⟨r10, r11, r12, H, rfl, x, ex13⟩
 obtain ⟨x14, hi, hx15, H⟩ := H
 refine LP_index 5 rfl rfl rfl Try.underlying25 ti_3 rfl rfl r5 hi hx15 fun a16 cs r17 d18 => ?_
 refine LP_load 6 rfl rfl rfl ti_3 ag_3 rfl r17 d18 (ex6.but x d9) fun vx20 r21 => ?_
 obtain rfl := r21.int
 refine LP_ev ok 7 [(4, I x14)] 8 rfl rfl ?_
 refine LP_end _ rfl (W_ret ?_)
 exact ⟨_, Ret_of [I x14] ⟨⟨rfl, rfl⟩, trivial⟩, _, _, _, H, rfl, (X.step x (Dom.le D _)), ex13⟩

theorem spec_l1Cur_of_w (c : L1Cur) (list : List ByteArray) (Q : ByteArray → Int → Int → Prop) (H : spec_l1Cur_of c list Q) (w : World) {vx : Value} {hx : PH} (r : RS hx vx c.Code) (ex : Sub hx w) {b : Nat} (ex2 : Sub (bx b 59 [vx, I c.At, .int .u64 c.Seed]) w) {vx3 : Value} {hx4 : PH} (r5 : RS hx4 vx3 list) (ex6 : Sub hx4 w) (d : Dj (bx b 59 [vx, I c.At, .int .u64 c.Seed]) hx) (d9 : Dj (bx b 59 [vx, I c.At, .int .u64 c.Seed]) hx4) :
  CallsTo Try.prog 108 #[pb b, vx3] w fun v w' => ∃ r0 m1_0 m1_1, Q r0 m1_0 m1_1 ∧ v = .string r0 ∧ But (bx b 59 [vx, I c.At, .int .u64 c.Seed]) w w' ∧ Sub (bx b 59 [vx, I m1_0, .int .u64 m1_1]) w' := by
 obtain ⟨a, c1, rfl⟩ := r.shape
 obtain ⟨a7, c8, rfl⟩ := r5.shape
 refine enter (args := [pb b, sl a7 list c8]) 12 Try.func108 rfl rfl rfl ?_
 refine W_forget [(0, pb b), (1, sl a7 list c8)] ⟨rfl, rfl, trivial⟩ fun ρ => ?_
 have D : Dom (bx b 59 [sl a c.Code c1, I c.At, .int .u64 c.Seed]) (bx b 59 [sl a c.Code c1, I c.At, .int .u64 c.Seed]) := (Dom.refl _)
 have X := But.refl (bx b 59 [sl a c.Code c1, I c.At, .int .u64 c.Seed]) w
 refine W_seq (W_region ?_)
 refine LP_ev ok 0 [(4, .string ((ByteArray.mk #[])))] 1 rfl rfl ?_
 refine LP_end _ rfl (W_seq (W_region ?_))
 refine LP_ev ok 0 [(5, sl a7 list c8), (6, pb b), (7, sl a7 list c8), (8, I (ln list))] 4 rfl rfl ?_
 refine LP_call 4 rfl rfl rfl cal_74 rfl (spec_l1Cur_pick_w _ _ _ H w r ex ex2 d) ?_
 rintro _ wx ⟨r10, r11, r12, H, rfl, x, ex13⟩
 obtain ⟨x14, hi, hx15, H⟩ := H
 refine LP_index 5 rfl rfl rfl Try.underlying121 ti_9 rfl rfl r5 hi hx15 fun a16 cs r17 d18 => ?_
 refine LP_load 6 rfl rfl rfl ti_9 ag_9 rfl r17 d18 (ex6.but x d9) fun vx20 r21 => ?_
 obtain rfl := r21.str
 refine LP_ev ok 7 [(4, .string x14)] 8 rfl rfl ?_
 refine LP_end _ rfl (W_ret ?_)
 exact ⟨_, Ret_of [.string x14] ⟨⟨rfl, rfl⟩, trivial⟩, _, _, _, H, rfl, (X.step x (Dom.le D _)), ex13⟩

theorem spec_l1Cur_anySchema_w (c : L1Cur) (Q : (List Variable) → Int → Int → Prop) (H : spec_l1Cur_anySchema c Q) (w : World) {vx : Value} {hx : PH} (r : RS hx vx c.Code) (ex : Sub hx w) {b : Nat} (ex2 : Sub (bx b 59 [vx, I c.At, .int .u64 c.Seed]) w) (d : Dj (bx b 59 [vx, I c.At, .int .u64 c.Seed]) hx) :
  CallsTo Try.prog 66 #[pb b] w fun v w' => ∃ r0 m1_0 m1_1 u0 g0, Q r0 m1_0 m1_1 ∧ v = u0 ∧ But (bx b 59 [vx, I c.At, .int .u64 c.Seed]) w w' ∧ OS 90 g0 emp u0 r0 ∧ Sub g0 w' ∧ Fresh w.heap.size g0 ∧ Sub (bx b 59 [vx, I m1_0, .int .u64 m1_1]) w' ∧ Dj g0 (bx b 59 [vx, I m1_0, .int .u64 m1_1]) := by
 obtain ⟨a, c1, rfl⟩ := r.shape
 refine enter (args := [pb b]) 46 Try.func66 rfl rfl rfl ?_
 refine W_forget [(0, pb b)] ⟨rfl, trivial⟩ fun ρ => ?_
 have D : Dom (bx b 59 [sl a c.Code c1, I c.At, .int .u64 c.Seed]) (bx b 59 [sl a c.Code c1, I c.At, .int .u64 c.Seed]) := (Dom.refl _)
 have X := But.refl (bx b 59 [sl a c.Code c1, I c.At, .int .u64 c.Seed]) w
 refine W_seq (W_region ?_)
 refine LP_ev ok 0 [(2, .slice none 0 0)] 1 rfl rfl ?_
 refine LP_end _ rfl (W_seq (W_region ?_))
 refine LP_ev ok 0 [(4, pb b)] 1 rfl rfl ?_
 refine LP_call 1 rfl rfl rfl cal_107 rfl (spec_l1Cur_schema_w _ _ H w r ex ex2 d) ?_
 rintro _ wx ⟨r3, r4, r5, vx6, hx7, H, rfl, x, HF⟩
 revert HF
 refine bb5 fun o ex8 f ex9 d10 => ?_
 obtain ⟨a11, c12, rfl⟩ := o.shape
 refine LP_ev ok 2 [(3, sl a11 r3 c12)] 3 rfl rfl ?_
 refine LP_end _ rfl ?_
 have X13 := (X.step x (Dom.le D _))
 have ex14 := (ex.but x d)
 have f15 := f.mono X.size
 obtain ⟨k, hk, H⟩ := jn_elim H
 refine W_join2 (S := (List Variable) × Int × Int) (fun s ρ' w' => k s.1 s.2.1 s.2.2 ∧ ∃ (ρ : Env) (vx16 : Value) (hx17 : PH), ρ' = setAll [(3, vx16)] ρ ∧ But (bx b 59 [sl a c.Code c1, I c.At, .int .u64 c.Seed]) w w' ∧ OS 90 hx17 emp vx16 s.1 ∧ Sub hx17 w' ∧ Fresh w.heap.size hx17 ∧ Sub hx w' ∧ Sub (bx b 59 [sl a c.Code c1, I s.2.1, .int .u64 s.2.2]) w' ∧ Dj hx17 hx ∧ Dj hx17 (bx b 59 [sl a c.Code c1, I s.2.1, .int .u64 s.2.2])) ?_ ?_
 ·refine W_seq (W_region ?_)
  refine LP_ev ok 0 [(6, pb b)] 1 rfl rfl ?_
  refine LP_call 1 rfl rfl rfl cal_74 rfl (spec_l1Cur_pick_w _ _ _ H wx r ex14 ex9 (Dj.box d)) ?_
  rintro _ wx32 ⟨r29, r30, r31, H, rfl, x33, ex34⟩
  refine LP_end _ rfl ?_
  refine W_block ?_
  refine W_seq (W_region ?_)
  refine LP_ev ok 0 [(9, .bool (r29 == 0)), (8, .bool (r29 == 0))] 2 rfl rfl ?_
  refine LP_end _ rfl ?_
  refine W_cond (r29 == 0) rfl (fun hc => ?_) (fun hc => ?_)
  ·have H := H.1 hc
   refine W_region ?_
   refine LP_ev ok 0 [(10, sl a11 r3 c12), (11, pb b)] 2 rfl rfl ?_
   refine LP_lit (α := Int) (g := emp) 2 (vs := [I 1, I 8, I 9]) (xs := [1, 8, 9]) rfl rfl rfl Try.underlying25 ti_3 rfl rfl ⟨⟨_, rfl, rfl⟩, ⟨_, rfl, rfl⟩, ⟨_, rfl, rfl⟩, trivial⟩ rfl rfl fun hx35 vx36 wx37 x38 o39 ex40 f41 => ?_
   obtain ⟨a42, c43, rfl⟩ := o39.shape
   have ex47 := ((ex14.but x33 (Dj.box d)).ext x38)
   refine LP_call 3 rfl rfl rfl cal_75 rfl (spec_l1Cur_among_w _ _ _ H wx37 r ex47 (ex34.ext x38) o39.readf ex40 (Dj.box d) (Dj.of_fresh ex34 f41)) ?_
   rintro _ wx49 ⟨r44, r45, r46, H, rfl, x50, ex51⟩
   obtain ⟨x52, hi, hx53, H⟩ := H
   refine LP_indexf (v := sl a11 r3 c12) 4 rfl rfl rfl Try.underlying23 ti_90 rfl rfl o hi hx53 fun a54 wa => ?_
   refine LP_ev ok 5 [(15, .pointer (some (Addr.add a54 1)))] 6 rfl rfl ?_
   refine LP_setf 6 (x := x52) (vs := [I r44]) (y := ({x52 with Levels := r44} : Variable)) rfl rfl rfl ti_3 rfl rfl rfl rfl rfl rfl wa (((ex8.but x33 d10.symm).ext x38).but x50 (Dj.box d10.symm)) rfl fun hx55 wx56 o57 ex58 y dm => ?_
   refine LP_end _ rfl ?_
   have f61 := (dm _).fresh f15 (((X13.step x33 (DomLe.dom D single_dom)).stepx x38).step x50 (DomLe.dom D single_dom)).size
   exact ⟨(List.set r3 (Int.toNat 0) ({x52 with Levels := r44} : Variable), r45, r46), H, _, sl a11 r3 c12, hx55, env_eq ⟨rfl, trivial⟩, ((((X13.step x33 (DomLe.dom D single_dom)).stepx x38).step x50 (DomLe.dom D single_dom)).step y (f15.dom _)), o57, ex58, f61, ((ex47.but x50 (Dj.box d)).but y (Dj.of_fresh ex f).symm), (ex51.but y (Dj.box d10.symm).symm), (DomLe.dj (dm _) (Dj.of_fresh ex f).symm (ex47.but x50 (Dj.box d))), (DomLe.dj (dm _) (Dj.box d10.symm).symm ex51)⟩
  have H := H.2 hc
  refine W_seq (W_region ?_)
  refine LP_ev ok 0 [(17, .bool (r29 == 1)), (16, .bool (r29 == 1))] 2 rfl rfl ?_
  refine LP_end _ rfl ?_
  refine W_cond (r29 == 1) rfl (fun hc66 => ?_) (fun hc66 => ?_)
  ·have H := H.1 hc66
   refine W_region ?_
   refine LP_ev ok 0 [(18, sl a11 r3 c12), (19, pb b)] 2 rfl rfl ?_
   refine LP_lit (α := ByteArray) (g := emp) 2 (vs := [.string ((ByteArray.mk #[])), .string ((ByteArray.mk #[65, 103, 101])), .string ((ByteArray.mk #[97, 98, 99, 100, 101, 102, 103, 104, 105])), .string ((ByteArray.mk #[97, 103, 101])), .string ((ByteArray.mk #[97, 98, 32, 99, 100]))]) (xs := [(ByteArray.mk #[]), (ByteArray.mk #[65, 103, 101]), (ByteArray.mk #[97, 98, 99, 100, 101, 102, 103, 104, 105]), (ByteArray.mk #[97, 103, 101]), (ByteArray.mk #[97, 98, 32, 99, 100])]) rfl rfl rfl Try.underlying121 ti_9 rfl rfl ⟨⟨_, rfl, rfl⟩, ⟨_, rfl, rfl⟩, ⟨_, rfl, rfl⟩, ⟨_, rfl, rfl⟩, ⟨_, rfl, rfl⟩, trivial⟩ rfl rfl fun hx67 vx68 wx69 x70 o71 ex72 f73 => ?_
   obtain ⟨a74, c75, rfl⟩ := o71.shape
   have ex79 := ((ex14.but x33 (Dj.box d)).ext x70)
   refine LP_call 3 rfl rfl rfl cal_108 rfl (spec_l1Cur_of_w _ _ _ H wx69 r ex79 (ex34.ext x70) o71.readf ex72 (Dj.box d) (Dj.of_fresh ex34 f73)) ?_
   rintro _ wx81 ⟨r76, r77, r78, H, rfl, x82, ex83⟩
   obtain ⟨x84, hi85, hx86, H⟩ := H
   refine LP_indexf (v := sl a11 r3 c12) 4 rfl rfl rfl Try.underlying23 ti_90 rfl rfl o hi85 hx86 fun a87 wa88 => ?_
   refine LP_ev ok 5 [(23, .pointer (some (Addr.add a87 0)))] 6 rfl rfl ?_
   refine LP_setf 6 (x := x84) (vs := [.string r76]) (y := ({x84 with Name := r76} : Variable)) rfl rfl rfl ti_9 rfl rfl rfl rfl rfl rfl wa88 (((ex8.but x33 d10.symm).ext x70).but x82 (Dj.box d10.symm)) rfl fun hx89 wx90 o91 ex92 y93 dm94 => ?_
   refine LP_end _ rfl ?_
   have f97 := (dm94 _).fresh f15 (((X13.step x33 (DomLe.dom D single_dom)).stepx x70).step x82 (DomLe.dom D single_dom)).size
   exact ⟨(List.set r3 (Int.toNat 0) ({x84 with Name := r76} : Variable), r77, r78), H, _, sl a11 r3 c12, hx89, env_eq ⟨rfl, trivial⟩, ((((X13.step x33 (DomLe.dom D single_dom)).stepx x70).step x82 (DomLe.dom D single_dom)).step y93 (f15.dom _)), o91, ex92, f97, ((ex79.but x82 (Dj.box d)).but y93 (Dj.of_fresh ex f).symm), (ex83.but y93 (Dj.box d10.symm).symm), (DomLe.dj (dm94 _) (Dj.of_fresh ex f).symm (ex79.but x82 (Dj.box d))), (DomLe.dj (dm94 _) (Dj.box d10.symm).symm ex83)⟩
  have H := H.2 hc66
  refine W_seq (W_region ?_)
  refine LP_ev ok 0 [(25, .bool (r29 == 2)), (24, .bool (r29 == 2))] 2 rfl rfl ?_
  refine LP_end _ rfl ?_
  refine W_cond (r29 == 2) rfl (fun hc102 => ?_) (fun hc102 => ?_)
  ·have H := H.1 hc102
   refine W_seq (W_region ?_)
   refine LP_ev ok 0 [(2, .slice none 0 0)] 1 rfl rfl ?_
   refine LP_end _ rfl (W_ret ?_)
   exact ⟨_, Ret_of [.slice none 0 0] ⟨⟨rfl, rfl⟩, trivial⟩, _, _, _, _, emp, H, rfl, (X13.step x33 (DomLe.dom D single_dom)), OS.nil, (emp_sub _), (emp_fresh _), ex34, (Dj.emp_l _)⟩
  have H := H.2 hc102
  refine W_seq (W_region ?_)
  refine LP_ev ok 0 [(27, .bool (r29 == 3)), (26, .bool (r29 == 3))] 2 rfl rfl ?_
  refine LP_end _ rfl ?_
  refine W_cond (r29 == 3) rfl (fun hc104 => ?_) (fun hc104 => ?_)
  ·have H := H.1 hc104
   refine W_block ?_
   obtain ⟨J, m, Hx, H⟩ := H
   refine W_loop (S := (List Variable) × Int × Int) (fun s ρ' w' => J s.1 s.2.1 s.2.2 ∧ ∃ (ρ : Env) (vx106 : Value) (hx107 : PH), ρ' = setAll [(0, pb b), (3, vx106)] ρ ∧ But (bx b 59 [sl a c.Code c1, I c.At, .int .u64 c.Seed]) w w' ∧ OS 90 hx107 emp vx106 s.1 ∧ Sub hx107 w' ∧ Fresh w.heap.size hx107 ∧ Sub hx w' ∧ Sub (bx b 59 [sl a c.Code c1, I s.2.1, .int .u64 s.2.2]) w' ∧ Dj hx107 hx ∧ Dj hx107 (bx b 59 [sl a c.Code c1, I s.2.1, .int .u64 s.2.2])) (fun s => m s.1 s.2.1 s.2.2) (r3, r30, r31) ⟨Hx, _, sl a11 r3 c12, hx7, env_eq ⟨rfl, rfl, trivial⟩, (X13.step x33 (DomLe.dom D single_dom)), o, (ex8.but x33 d10.symm), f15, (ex14.but x33 (Dj.box d)), ex34, (Dj.of_fresh ex f).symm, (Dj.box d10.symm).symm⟩ ?_
   rintro ⟨sx105, atx111, seed112⟩ _ wx113 ⟨Hi, ρ, vx106, hx107, rfl, HF⟩
   revert HF
   refine bb8 fun X120 o108 ex109 f110 ex114 ex117 d118 d119 => ?_
   have H := H sx105 atx111 seed112 Hi
   obtain ⟨a115, c116, rfl⟩ := o108.shape
   refine W_seq ?_
   refine W_seq (W_region ?_)
   refine LP_ev ok 0 [(28, sl a115 sx105 c116), (29, I (ln sx105)), (30, pb b)] 3 rfl rfl ?_
   refine LP_call 3 rfl rfl rfl cal_74 rfl (spec_l1Cur_pick_w _ _ _ H wx113 r ex114 ex117 (Dj.box d)) ?_
   rintro _ wx127 ⟨r124, r125, r126, H, rfl, x128, ex129⟩
   refine LP_ev ok 4 [(32, I (wr (6 + r124))), (33, .bool (decide ((ln sx105) < (wr (6 + r124)))))] 6 rfl rfl ?_
   refine LP_end _ rfl ?_
   refine W_cond (decide ((ln sx105) < (wr (6 + r124)))) rfl (fun hc130 => ?_) (fun hc130 => ?_)
   ·have H := H.1 hc130
    refine W_skip ?_
    refine W_block ?_
    refine W_region ?_
    refine LP_ev ok 0 [(34, sl a115 sx105 c116), (35, sl a115 sx105 c116), (36, I (ln sx105)), (37, I (wr (97 + (ln sx105)))), (38, .int .u8 (IntKind.u8.wrap (wr (97 + (ln sx105)))))] 5 rfl rfl ?_
    refine LP_lit (α := B8) (g := emp) 5 (vs := [.int .u8 (IntKind.u8.wrap (wr (97 + (ln sx105))))]) (xs := [(B8.mk (IntKind.u8.wrap (wr (97 + (ln sx105)))))]) rfl rfl rfl Try.underlying22 ti_5 rfl rfl ⟨⟨_, rfl, rfl⟩, trivial⟩ rfl rfl fun hx131 vx132 wx133 x134 o135 ex136 f137 => ?_
    obtain ⟨a138, c139, rfl⟩ := o135.shape
    refine LP_val 6 _ rfl rfl (ex_b2s rfl Try.underlying22 Try.underlying5 Try.underlying9 rfl o135.readf _ ex136) ?_
    obtain ⟨hz, H⟩ := H
    refine LP_val 7 _ rfl rfl (ex_sadd rfl rfl rfl hz _) ?_
    refine LP_ev ok 8 [(42, .agg #[.string (((ByteArray.mk #[120])) ++ (b2s ([(B8.mk (IntKind.u8.wrap (wr (97 + (ln sx105)))))]))), I 2])] 9 rfl rfl ?_
    refine LP_lit (α := Variable) (g := emp) 9 (vs := [.agg #[.string (((ByteArray.mk #[120])) ++ (b2s ([(B8.mk (IntKind.u8.wrap (wr (97 + (ln sx105)))))]))), I 2]]) (xs := [(Variable.mk (((ByteArray.mk #[120])) ++ (b2s ([(B8.mk (IntKind.u8.wrap (wr (97 + (ln sx105)))))]))) 2)]) rfl rfl rfl Try.underlying23 ti_90 rfl rfl ⟨⟨_, rfl, rfl⟩, trivial⟩ rfl rfl fun hx140 vx141 wx142 x143 o144 ex145 f146 => ?_
    obtain ⟨a147, c148, rfl⟩ := o144.shape
    have xc := (x134.trans x143)
    obtain ⟨hb, H⟩ := H
    refine LP_appendf (α := Variable) 10 rfl rfl rfl Try.underlying23 ti_90 rfl rfl rfl o108 ((ex109.but x128 d119.symm).ext xc) o144.readf ex145 (by first | omega | (simp only [ln] at *; omega)) (by first | omega | (simp only [ln] at *; omega)) fun hx150 vx151 wx152 o153 ex154 y155 dm156 => ?_
    obtain ⟨a157, c158, rfl⟩ := o153.shape
    refine LP_ev ok 11 [(3, .slice a157 (List.length (sx105 ++ ([(Variable.mk (((ByteArray.mk #[120])) ++ (b2s ([(B8.mk (IntKind.u8.wrap (wr (97 + (ln sx105)))))]))) 2)]))) c158)] 12 rfl rfl ?_
    refine LP_end _ rfl ?_
    have f160 := dm156.fresh f110 ((X120.step x128 (DomLe.dom D single_dom)).stepx xc).size
    exact ⟨(sx105 ++ ([(Variable.mk (((ByteArray.mk #[120])) ++ (b2s ([(B8.mk (IntKind.u8.wrap (wr (97 + (ln sx105)))))]))) 2)]), r125, r126), ⟨H.1, _, .slice a157 (List.length (sx105 ++ ([(Variable.mk (((ByteArray.mk #[120])) ++ (b2s ([(B8.mk (IntKind.u8.wrap (wr (97 + (ln sx105)))))]))) 2)]))) c158, hx150, env_eq ⟨rfl, rfl, trivial⟩, (((X120.step x128 (DomLe.dom D single_dom)).stepx xc).step y155 (f110.dom _)), o153, ex154, f160, (((ex114.but x128 (Dj.box d)).ext xc).but y155 d118), ((ex129.ext xc).but y155 (Dj.box d119.symm).symm), (DomLe.dj dm156 d118 ((ex114.but x128 (Dj.box d)).ext xc)), (DomLe.dj dm156 (Dj.box d119.symm).symm (ex129.ext xc))⟩, H.2⟩
   have H := H.2 hc130
   refine W_exit ?_
   refine (if_pos rfl).mpr ?_
   exact ⟨(sx105, r125, r126), H, _, sl a115 sx105 c116, hx107, env_eq ⟨rfl, trivial⟩, (X120.step x128 (DomLe.dom D single_dom)), o108, (ex109.but x128 d119.symm), f110, (ex114.but x128 (Dj.box d)), ex129, d118, (Dj.box d119.symm).symm⟩
  have H := H.2 hc104
  exact W_skip ⟨(r3, r30, r31), H, _, sl a11 r3 c12, hx7, env_eq ⟨rfl, trivial⟩, (X13.step x33 (DomLe.dom D single_dom)), o, (ex8.but x33 d10.symm), f15, (ex14.but x33 (Dj.box d)), ex34, (Dj.of_fresh ex f).symm, (Dj.box d10.symm).symm⟩
 rintro ⟨sx, atx, seed⟩ _ wx21 ⟨H, ρ, vx16, hx17, rfl, HF⟩
 revert HF
 refine bb8 fun X28 o18 ex19 f20 ex22 ex25 d26 d27 => ?_
 subst hk
 obtain ⟨a23, c24, rfl⟩ := o18.shape
 refine W_seq (W_region ?_)
 refine LP_ev ok 0 [(45, sl a23 sx c24), (2, sl a23 sx c24)] 2 rfl rfl ?_
 refine LP_end _ rfl (W_ret ?_)
 exact ⟨_, Ret_of [sl a23 sx c24] ⟨⟨rfl, rfl⟩, trivial⟩, _, _, _, _, _, H, rfl, X28, o18, ex19, f20, ex25, d27⟩

theorem spec_sCount_w (sx : List Variable) (Q : Int → Prop) (H : spec_sCount sx Q) (w : World) {vx : Value} {hx : PH} (r : RS hx vx sx) (ex : Sub hx w) :
  CallsTo Try.prog 67 #[vx] w fun v w' => ∃ r0, Q r0 ∧ v = I r0 ∧ Ext w w' := by
 obtain ⟨a, c, rfl⟩ := r.shape
 refine enter (args := [sl a sx c]) 18 Try.func67 rfl rfl rfl ?_
 refine W_forget [(0, sl a sx c)] ⟨rfl, trivial⟩ fun ρ => ?_
 have X := But.refl emp w
 refine W_seq (W_region ?_)
 refine LP_ev ok 0 [(2, I 0)] 1 rfl rfl ?_
 refine LP_end _ rfl (W_seq (W_region ?_))
 refine LP_ev ok 0 [(3, I 1)] 1 rfl rfl ?_
 refine LP_end _ rfl (W_seq ?_)
 refine W_seq (W_region ?_)
 refine LP_ev ok 0 [(6, sl a sx c), (7, I (ln sx)), (8, I 0)] 3 rfl rfl ?_
 refine LP_end _ rfl ?_
 refine W_block ?_
 obtain ⟨J, m, Hx, H⟩ := H
 refine W_loop (S := Int × Int) (fun s ρ' w' => J s.1 s.2 ∧ ∃ (ρ : Env), ρ' = setAll [(3, I s.1), (6, sl a sx c), (7, I (ln sx)), (8, I s.2)] ρ ∧ But emp w w' ∧ Sub hx w') (fun s => m s.1 s.2) (1, 0) ⟨Hx, _, env_eq ⟨rfl, rfl, rfl, rfl, trivial⟩, X, ex⟩ ?_
 rintro ⟨n, x⟩ _ wx ⟨Hi, ρ, rfl, X2, ex1⟩
 have H := H n x Hi
 refine W_seq (W_region ?_)
 refine LP_ev ok 0 [(9, .bool (decide (x < (ln sx))))] 1 rfl rfl ?_
 refine LP_end _ rfl (W_seq ?_)
 refine W_cond (decide (x < (ln sx))) rfl (fun hc => ?_) (fun hc => ?_)
 ·have H := H.1 hc
  refine W_skip ?_
  refine W_seq ?_
  refine W_block ?_
  refine W_seq (W_region ?_)
  obtain ⟨x3, hi, hx4, H⟩ := H
  refine LP_index 0 rfl rfl rfl Try.underlying23 ti_90 rfl rfl r hi hx4 fun a5 cs r6 d => ?_
  refine LP_load 1 rfl rfl rfl ti_90 ag_90 rfl r6 d ex1 fun vx7 r8 => ?_
  obtain rfl := Variable_rv r8
  refine LP_alloc 2 rfl rfl rfl ti_90 rfl fun b wx9 x10 ex11 f => ?_
  refine LP_stbox 3 (vs := [.string x3.Name, I x3.Levels]) (cs' := [.string x3.Name, I x3.Levels]) rfl rfl rfl ti_90 rfl rfl rfl rfl rfl ex11 rfl rfl fun wx12 ex13 y => ?_
  refine LP_end _ rfl ?_
  refine W_region ?_
  refine LP_ev ok 0 [(12, I n), (13, .pointer (some ⟨b, 1, none⟩))] 2 rfl rfl ?_
  refine LP_ldbox 2 (v := I x3.Levels) rfl rfl rfl ti_3 ag_3 (fun _ => rfl) rfl ex13 rfl rfl ?_
  refine LP_ev ok 3 [(15, I (wr (n * x3.Levels))), (3, I (wr (n * x3.Levels)))] 5 rfl rfl ?_
  refine LP_end _ rfl ?_
  refine W_region ?_
  refine LP_ev ok 0 [(16, I (wr (x + 1))), (8, I (wr (x + 1)))] 2 rfl rfl ?_
  refine LP_end _ rfl ?_
  have f14 := f.mono X2.size
  exact ⟨(wr (n * x3.Levels), wr (x + 1)), ⟨H.1, _, env_eq ⟨rfl, rfl, rfl, rfl, trivial⟩, ((X2.stepx x10).step y (f14.dom _)), ((ex1.ext x10).but y (Dj.of_fresh ex1 f).symm)⟩, H.2⟩
 have H := H.2 hc
 refine W_exit ?_
 refine (if_pos rfl).mpr ?_
 refine W_seq (W_region ?_)
 refine LP_ev ok 0 [(17, I n), (2, I n)] 2 rfl rfl ?_
 refine LP_end _ rfl (W_ret ?_)
 exact ⟨_, Ret_of [I n] ⟨⟨rfl, rfl⟩, trivial⟩, _, H, rfl, X2.ext⟩

theorem spec_l1Cur_one_w (c : L1Cur) (n : Int) (Q : Bool → Int → Int → Prop) (H : spec_l1Cur_one c n Q) (w : World) {vx : Value} {hx : PH} (r : RS hx vx c.Code) (ex : Sub hx w) {b : Nat} (ex2 : Sub (bx b 59 [vx, I c.At, .int .u64 c.Seed]) w) (d : Dj (bx b 59 [vx, I c.At, .int .u64 c.Seed]) hx) :
  CallsTo Try.prog 68 #[pb b, I n] w fun v w' => ∃ r0 m1_0 m1_1, Q r0 m1_0 m1_1 ∧ v = .bool r0 ∧ But (bx b 59 [vx, I c.At, .int .u64 c.Seed]) w w' ∧ Sub (bx b 59 [vx, I m1_0, .int .u64 m1_1]) w' := by
 obtain ⟨a, c1, rfl⟩ := r.shape
 refine enter (args := [pb b, I n]) 9 Try.func68 rfl rfl rfl ?_
 refine W_forget [(0, pb b), (1, I n)] ⟨rfl, rfl, trivial⟩ fun ρ => ?_
 have D : Dom (bx b 59 [sl a c.Code c1, I c.At, .int .u64 c.Seed]) (bx b 59 [sl a c.Code c1, I c.At, .int .u64 c.Seed]) := (Dom.refl _)
 have X := But.refl (bx b 59 [sl a c.Code c1, I c.At, .int .u64 c.Seed]) w
 refine W_seq (W_region ?_)
 refine LP_ev ok 0 [(4, .bool false)] 1 rfl rfl ?_
 refine LP_end _ rfl (W_seq (W_region ?_))
 refine LP_ev ok 0 [(5, pb b), (6, I n)] 2 rfl rfl ?_
 refine LP_call 2 rfl rfl rfl cal_74 rfl (spec_l1Cur_pick_w _ _ _ H w r ex ex2 d) ?_
 rintro _ wx ⟨r3, r4, r5, H, rfl, x, ex6⟩
 refine LP_ev ok 3 [(8, .bool (r3 == 0)), (4, .bool (r3 == 0))] 5 rfl rfl ?_
 refine LP_end _ rfl (W_ret ?_)
 exact ⟨_, Ret_of [.bool (r3 == 0)] ⟨⟨rfl, rfl⟩, trivial⟩, _, _, _, H, rfl, (X.step x (Dom.le D _)), ex6⟩

theorem spec_l1In_w (n : Int) (lo : Int) (hi : Int) (Q : Bool → Prop) (H : spec_l1In n lo hi Q) (w : World)  :
  CallsTo Try.prog 96 #[I n, I lo, I hi] w fun v w' => ∃ r0, Q r0 ∧ v = .bool r0 ∧ Ext w w' := by
 refine enter (args := [I n, I lo, I hi]) 15 Try.func96 rfl rfl rfl ?_
 refine W_forget [(0, I n), (1, I lo), (2, I hi)] ⟨rfl, rfl, rfl, trivial⟩ fun ρ => ?_
 have X := But.refl emp w
 refine W_seq (W_region ?_)
 refine LP_ev ok 0 [(6, .bool false)] 1 rfl rfl ?_
 refine LP_end _ rfl ?_
 obtain ⟨k, hk, H⟩ := jn_elim H
 refine W_join2 (S := Bool) (fun s ρ' w' => k s ∧ ∃ (ρ : Env), ρ' = setAll [(6, .bool s)] ρ ∧ w = w') ?_ ?_
 ·refine W_region ?_
  refine LP_ev ok 0 [(7, I n), (8, I lo), (9, .bool (decide (n ≥ lo))), (10, .bool (decide (n ≥ lo)))] 4 rfl rfl ?_
  refine LP_split 10 (decide (n ≥ lo)) rfl (fun hc => ?_) (fun hc => ?_)
  ·have H := H.1 hc
   refine LP_ev ok 4 [(11, I n), (12, I hi), (13, .bool (decide (n ≤ hi))), (14, .bool (decide (n ≤ hi))), (6, .bool (decide (n ≤ hi)))] 9 rfl rfl ?_
   exact LP_end _ rfl ⟨decide (n ≤ hi), H, _, env_eq ⟨rfl, trivial⟩, rfl⟩
  have H := H.2 hc
  refine LP_ev ok 4 [(11, undef), (12, undef), (13, undef), (14, .bool false), (6, .bool false)] 9 rfl rfl ?_
  exact LP_end _ rfl ⟨false, H, _, env_eq ⟨rfl, trivial⟩, rfl⟩
 rintro x _ _ ⟨H, ρ, rfl, rfl⟩
 subst hk
 refine W_ret ?_
 exact ⟨_, Ret_of [.bool x] ⟨⟨rfl, rfl⟩, trivial⟩, _, H, rfl, X.ext⟩

theorem spec_sName_w (sx : ByteArray) (Q : Bool → Prop) (H : spec_sName sx Q) (w : World)  :
  CallsTo Try.prog 122 #[.string sx] w fun v w' => ∃ r0, Q r0 ∧ v = .bool r0 ∧ Ext w w' := by
 refine enter (args := [.string sx]) 23 Try.func122 rfl rfl rfl ?_
 refine W_forget [(0, .string sx)] ⟨rfl, trivial⟩ fun ρ => ?_
 have X := But.refl emp w
 refine W_seq (W_region ?_)
 refine LP_ev ok 0 [(2, .bool false)] 1 rfl rfl ?_
 refine LP_end _ rfl (W_seq ?_)
 refine W_seq (W_region ?_)
 refine LP_ev ok 0 [(3, I 0)] 1 rfl rfl ?_
 refine LP_end _ rfl ?_
 refine W_block ?_
 obtain ⟨J, m, Hx, H⟩ := H
 refine W_loop (S := Int) (fun s ρ' w' => J s ∧ ∃ (ρ : Env), ρ' = setAll [(0, .string sx), (3, I s)] ρ ∧ w = w') (fun s => m s) 0 ⟨Hx, _, env_eq ⟨rfl, rfl, trivial⟩, rfl⟩ ?_
 rintro i _ _ ⟨Hi, ρ, rfl, rfl⟩
 have H := H i Hi
 refine W_seq ?_
 refine W_seq (W_region ?_)
 refine LP_ev ok 0 [(4, I i), (5, .string sx), (6, I (sln sx)), (7, .bool (decide (i < (sln sx))))] 4 rfl rfl ?_
 refine LP_end _ rfl ?_
 refine W_cond (decide (i < (sln sx))) rfl (fun hc => ?_) (fun hc => ?_)
 ·have H := H.1 hc
  refine W_skip ?_
  refine W_seq ?_
  refine W_block ?_
  obtain ⟨k, hk, H⟩ := jn_elim H
  refine W_join2 (S := Bool) (fun s ρ' w' => k s ∧ ∃ (ρ : Env), ρ' = setAll [(0, .string sx), (3, I i), (19, .bool s)] ρ ∧ w = w') ?_ ?_
  ·refine W_region ?_
   refine LP_ev ok 0 [(10, .string sx), (11, I i)] 2 rfl rfl ?_
   obtain ⟨c, hi, hx, H⟩ := H
   refine LP_val 2 _ rfl rfl (ex_sidx rfl rfl rfl Try.underlying9 hi hx _) ?_
   refine LP_ev ok 3 [(13, .bool (decide ((((UInt8.toNat c : Nat) : Int)) < 97))), (14, .bool (decide ((((UInt8.toNat c : Nat) : Int)) < 97)))] 5 rfl rfl ?_
   refine LP_split 14 (decide ((((UInt8.toNat c : Nat) : Int)) < 97)) rfl (fun hc2 => ?_) (fun hc2 => ?_)
   ·have H := H.1 hc2
    refine LP_ev ok 5 [(15, undef), (16, undef), (17, undef), (18, undef), (19, .bool true)] 10 rfl rfl ?_
    exact LP_end _ rfl ⟨true, H, _, env_eq ⟨rfl, rfl, rfl, trivial⟩, rfl⟩
   have H := H.2 hc2
   refine LP_ev ok 5 [(15, .string sx), (16, I i)] 7 rfl rfl ?_
   obtain ⟨c3, hi4, hx5, H⟩ := H
   refine LP_val 7 _ rfl rfl (ex_sidx rfl rfl rfl Try.underlying9 hi4 hx5 _) ?_
   refine LP_ev ok 8 [(18, .bool (decide ((((UInt8.toNat c3 : Nat) : Int)) > 122))), (19, .bool (decide ((((UInt8.toNat c3 : Nat) : Int)) > 122)))] 10 rfl rfl ?_
   exact LP_end _ rfl ⟨decide ((((UInt8.toNat c3 : Nat) : Int)) > 122), H, _, env_eq ⟨rfl, rfl, rfl, trivial⟩, rfl⟩
  rintro x _ _ ⟨H, ρ, rfl, rfl⟩
  subst hk
  refine W_cond (x) rfl (fun hc6 => ?_) (fun hc6 => ?_)
  ·have H := H.1 hc6
   refine W_seq (W_region ?_)
   refine LP_ev ok 0 [(2, .bool false)] 1 rfl rfl ?_
   refine LP_end _ rfl (W_ret ?_)
   exact ⟨_, Ret_of [.bool false] ⟨⟨rfl, rfl⟩, trivial⟩, _, H, rfl, X.ext⟩
  have H := H.2 hc6
  refine W_skip ?_
  refine W_region ?_
  refine LP_ev ok 0 [(8, I i), (9, I (wr (i + 1))), (3, I (wr (i + 1)))] 3 rfl rfl ?_
  exact LP_end _ rfl ⟨wr (i + 1), ⟨H.1, _, env_eq ⟨rfl, rfl, trivial⟩, rfl⟩, H.2⟩
 have H := H.2 hc
 refine W_exit ?_
 refine (if_pos rfl).mpr ?_
 refine W_seq (W_region ?_)
 refine LP_ev ok 0 [(20, .string sx), (21, I (sln sx))] 2 rfl rfl ?_
 refine LP_call 2 rfl rfl rfl cal_96 rfl (spec_l1In_w _ _ _ _ H w ) ?_
 rintro _ wx7 ⟨r, H, rfl, x8⟩
 refine LP_ev ok 3 [(2, .bool r)] 4 rfl rfl ?_
 refine LP_end _ rfl (W_ret ?_)
 exact ⟨_, Ret_of [.bool r] ⟨⟨rfl, rfl⟩, trivial⟩, _, H, rfl, (X.stepx x8).ext⟩

theorem spec_sFind_w (sx : List Variable) (name : ByteArray) (Q : Int → Prop) (H : spec_sFind sx name Q) (w : World) {vx : Value} {hx : PH} (r : RS hx vx sx) (ex : Sub hx w) :
  CallsTo Try.prog 123 #[vx, .string name] w fun v w' => ∃ r0, Q r0 ∧ v = I r0 ∧ Ext w w' := by
 obtain ⟨a, c, rfl⟩ := r.shape
 refine enter (args := [sl a sx c, .string name]) 20 Try.func123 rfl rfl rfl ?_
 refine W_forget [(0, sl a sx c), (1, .string name)] ⟨rfl, rfl, trivial⟩ fun ρ => ?_
 have X := But.refl emp w
 refine W_seq (W_region ?_)
 refine LP_ev ok 0 [(4, I 0)] 1 rfl rfl ?_
 refine LP_end _ rfl (W_seq ?_)
 refine W_seq (W_region ?_)
 refine LP_ev ok 0 [(7, sl a sx c), (8, I (ln sx)), (9, I 0)] 3 rfl rfl ?_
 refine LP_end _ rfl ?_
 refine W_block ?_
 obtain ⟨J, m, Hx, H⟩ := H
 refine W_loop (S := Int) (fun s ρ' w' => J s ∧ ∃ (ρ : Env), ρ' = setAll [(1, .string name), (7, sl a sx c), (8, I (ln sx)), (9, I s)] ρ ∧ But emp w w' ∧ Sub hx w') (fun s => m s) 0 ⟨Hx, _, env_eq ⟨rfl, rfl, rfl, rfl, trivial⟩, X, ex⟩ ?_
 rintro x _ wx ⟨Hi, ρ, rfl, X2, ex1⟩
 have H := H x Hi
 refine W_seq (W_region ?_)
 refine LP_ev ok 0 [(10, .bool (decide (x < (ln sx))))] 1 rfl rfl ?_
 refine LP_end _ rfl (W_seq ?_)
 refine W_cond (decide (x < (ln sx))) rfl (fun hc => ?_) (fun hc => ?_)
 ·have H := H.1 hc
  refine W_skip ?_
  refine W_seq ?_
  refine W_block ?_
  refine W_seq (W_region ?_)
  refine LP_ev ok 0 [(11, I x)] 1 rfl rfl ?_
  obtain ⟨x3, hi, hx4, H⟩ := H
  refine LP_index 1 rfl rfl rfl Try.underlying23 ti_90 rfl rfl r hi hx4 fun a5 cs r6 d => ?_
  refine LP_load 2 rfl rfl rfl ti_90 ag_90 rfl r6 d ex1 fun vx7 r8 => ?_
  obtain rfl := Variable_rv r8
  refine LP_alloc 3 rfl rfl rfl ti_90 rfl fun b wx9 x10 ex11 f => ?_
  refine LP_ev ok 4 [(5, I x)] 5 rfl rfl ?_
  refine LP_stbox 5 (vs := [.string x3.Name, I x3.Levels]) (cs' := [.string x3.Name, I x3.Levels]) rfl rfl rfl ti_90 rfl rfl rfl rfl rfl ex11 rfl rfl fun wx12 ex13 y => ?_
  refine LP_end _ rfl (W_seq (W_region ?_))
  refine LP_ev ok 0 [(14, pb b)] 1 rfl rfl ?_
  refine LP_ldbox 1 (v := .string x3.Name) rfl rfl rfl ti_9 ag_9 (fun _ => rfl) rfl ex13 rfl rfl ?_
  refine LP_ev ok 2 [(16, .string name), (17, .bool (streq x3.Name name))] 4 rfl rfl ?_
  refine LP_end _ rfl ?_
  refine W_cond (streq x3.Name name) rfl (fun hc14 => ?_) (fun hc14 => ?_)
  ·have H := H.1 hc14
   refine W_seq (W_region ?_)
   refine LP_ev ok 0 [(18, I x), (4, I x)] 2 rfl rfl ?_
   refine LP_end _ rfl (W_ret ?_)
   have f15 := f.mono X2.size
   exact ⟨_, Ret_of [I x] ⟨⟨rfl, rfl⟩, trivial⟩, _, H, rfl, ((X2.stepx x10).step y (f15.dom _)).ext⟩
  have H := H.2 hc14
  refine W_skip ?_
  refine W_region ?_
  refine LP_ev ok 0 [(19, I (wr (x + 1))), (9, I (wr (x + 1)))] 2 rfl rfl ?_
  refine LP_end _ rfl ?_
  have f17 := f.mono X2.size
  exact ⟨wr (x + 1), ⟨H.1, _, env_eq ⟨rfl, rfl, rfl, rfl, trivial⟩, ((X2.stepx x10).step y (f17.dom _)), ((ex1.ext x10).but y (Dj.of_fresh ex1 f).symm)⟩, H.2⟩
 have H := H.2 hc
 refine W_exit ?_
 refine (if_pos rfl).mpr ?_
 refine W_seq (W_region ?_)
 refine LP_ev ok 0 [(4, I ((-1)))] 1 rfl rfl ?_
 refine LP_end _ rfl (W_ret ?_)
 exact ⟨_, Ret_of [I ((-1))] ⟨⟨rfl, rfl⟩, trivial⟩, _, H, rfl, X2.ext⟩

theorem spec_sGood_w (sx : List Variable) (Q : Bool → Prop) (H : spec_sGood sx Q) (w : World) {vx : Value} {hx : PH} (r : RS hx vx sx) (ex : Sub hx w) :
  CallsTo Try.prog 109 #[vx] w fun v w' => ∃ r0, Q r0 ∧ v = .bool r0 ∧ Ext w w' := by
 obtain ⟨a, c, rfl⟩ := r.shape
 refine enter (args := [sl a sx c]) 36 Try.func109 rfl rfl rfl ?_
 refine W_forget [(0, sl a sx c)] ⟨rfl, trivial⟩ fun ρ => ?_
 have X := But.refl emp w
 refine W_seq (W_region ?_)
 refine LP_ev ok 0 [(2, .bool false)] 1 rfl rfl ?_
 refine LP_end _ rfl (W_seq ?_)
 refine W_seq (W_region ?_)
 refine LP_ev ok 0 [(5, sl a sx c), (6, I (ln sx))] 2 rfl rfl ?_
 refine LP_call 2 rfl rfl rfl cal_96 rfl (spec_l1In_w _ _ _ _ H w ) ?_
 rintro _ wx ⟨r1, H, rfl, x⟩
 refine LP_ev ok 3 [(8, .bool (!r1))] 4 rfl rfl ?_
 refine LP_end _ rfl ?_
 refine W_cond (!r1) rfl (fun hc => ?_) (fun hc => ?_)
 ·have H := H.1 hc
  refine W_seq (W_region ?_)
  refine LP_ev ok 0 [(2, .bool false)] 1 rfl rfl ?_
  refine LP_end _ rfl (W_ret ?_)
  exact ⟨_, Ret_of [.bool false] ⟨⟨rfl, rfl⟩, trivial⟩, _, H, rfl, (X.stepx x).ext⟩
 have H := H.2 hc
 refine W_skip ?_
 refine W_seq ?_
 refine W_seq (W_region ?_)
 refine LP_ev ok 0 [(9, sl a sx c), (10, I (ln sx)), (11, I 0)] 3 rfl rfl ?_
 refine LP_end _ rfl ?_
 refine W_block ?_
 obtain ⟨J, m, Hx, H⟩ := H
 refine W_loop (S := Int) (fun s ρ' w' => J s ∧ ∃ (ρ : Env), ρ' = setAll [(0, sl a sx c), (9, sl a sx c), (10, I (ln sx)), (11, I s)] ρ ∧ But emp w w' ∧ Sub hx w') (fun s => m s) 0 ⟨Hx, _, env_eq ⟨rfl, rfl, rfl, rfl, trivial⟩, (X.stepx x), (ex.ext x)⟩ ?_
 rintro x3 _ wx4 ⟨Hi, ρ, rfl, X6, ex5⟩
 have H := H x3 Hi
 refine W_seq (W_region ?_)
 refine LP_ev ok 0 [(12, .bool (decide (x3 < (ln sx))))] 1 rfl rfl ?_
 refine LP_end _ rfl (W_seq ?_)
 refine W_cond (decide (x3 < (ln sx))) rfl (fun hc9 => ?_) (fun hc9 => ?_)
 ·have H := H.1 hc9
  refine W_skip ?_
  refine W_seq ?_
  refine W_block ?_
  refine W_seq (W_region ?_)
  refine LP_ev ok 0 [(13, I x3)] 1 rfl rfl ?_
  obtain ⟨x10, hi, hx11, H⟩ := H
  refine LP_index 1 rfl rfl rfl Try.underlying23 ti_90 rfl rfl r hi hx11 fun a12 cs r13 d => ?_
  refine LP_load 2 rfl rfl rfl ti_90 ag_90 rfl r13 d ex5 fun vx14 r15 => ?_
  obtain rfl := Variable_rv r15
  refine LP_alloc 3 rfl rfl rfl ti_90 rfl fun b wx16 x17 ex18 f => ?_
  refine LP_ev ok 4 [(3, I x3)] 5 rfl rfl ?_
  refine LP_stbox 5 (vs := [.string x10.Name, I x10.Levels]) (cs' := [.string x10.Name, I x10.Levels]) rfl rfl rfl ti_90 rfl rfl rfl rfl rfl ex18 rfl rfl fun wx19 ex20 y => ?_
  refine LP_end _ rfl ?_
  have f21 := f.mono X6.size
  have X22 := ((X6.stepx x17).step y (f21.dom _))
  have ex23 := ((ex5.ext x17).but y (Dj.of_fresh ex5 f).symm)
  obtain ⟨k, hk, H⟩ := jn_elim H
  refine W_join2 (S := Bool) (fun s ρ' w' => k s ∧ ∃ (ρ : Env), ρ' = setAll [(0, sl a sx c), (9, sl a sx c), (10, I (ln sx)), (11, I x3), (34, .bool s)] ρ ∧ But emp w w' ∧ Sub hx w') ?_ ?_
  ·refine W_quiet mix (by kernel_rfl) ?_
   refine QP_ev ok 0 [(16, pb b)] 1 rfl rfl ?_
   refine QP_ldbox 1 (v := .string x10.Name) rfl rfl rfl ti_9 ag_9 (fun _ => rfl) rfl ex20 rfl rfl ?_
   obtain ⟨r28, Hd, H⟩ := H
   refine QP_call (.bool r28) 2 rfl rfl rfl cal_122 rfl (fun wx29 x30 => (spec_sName_w _ _ Hd wx29 ).mono ?_) ?_
   ·rintro _ _ ⟨_, rfl, rfl, x⟩; exact ⟨rfl, x⟩
   refine QP_ev ok 3 [(19, .bool (!r28)), (20, .bool (!r28))] 5 rfl rfl ?_
   refine QP_split 20 (!r28) rfl (fun hc31 => ?_) (fun hc31 => ?_)
   ·have H := H.1 hc31
    refine QP_ev ok 5 [(21, undef), (22, undef), (23, undef), (24, undef), (25, .bool true), (26, .bool true), (27, undef), (28, undef), (29, undef), (30, undef), (31, undef), (32, undef), (33, undef), (34, .bool true)] 19 rfl rfl ?_
    refine QP_end _ rfl fun wx32 x33 => ?_
    try refine W_forget [(0, sl a sx c), (9, sl a sx c), (10, I (ln sx)), (11, I x3), (34, .bool true)] ⟨rfl, rfl, rfl, rfl, rfl, trivial⟩ fun ρ => ?_
    exact ⟨true, H, _, env_eq ⟨rfl, rfl, rfl, rfl, rfl, trivial⟩, (X22.stepx x33), (ex23.ext x33)⟩
   have H := H.2 hc31
   refine QP_ev ok 5 [(21, .pointer (some ⟨b, 1, none⟩))] 6 rfl rfl ?_
   refine QP_ldbox 6 (v := I x10.Levels) rfl rfl rfl ti_3 ag_3 (fun _ => rfl) rfl ex20 rfl rfl ?_
   obtain ⟨r36, Hd37, H⟩ := H
   refine QP_call (.bool r36) 7 rfl rfl rfl cal_96 rfl (fun wx38 x39 => (spec_l1In_w _ _ _ _ Hd37 wx38 ).mono ?_) ?_
   ·rintro _ _ ⟨_, rfl, rfl, x⟩; exact ⟨rfl, x⟩
   refine QP_ev ok 8 [(24, .bool (!r36)), (25, .bool (!r36)), (26, .bool (!r36))] 11 rfl rfl ?_
   refine QP_split 26 (!r36) rfl (fun hc40 => ?_) (fun hc40 => ?_)
   ·have H := H.1 hc40
    refine QP_ev ok 11 [(27, undef), (28, undef), (29, undef), (30, undef), (31, undef), (32, undef), (33, undef), (34, .bool true)] 19 rfl rfl ?_
    refine QP_end _ rfl fun wx41 x42 => ?_
    try refine W_forget [(0, sl a sx c), (9, sl a sx c), (10, I (ln sx)), (11, I x3), (21, .pointer (some ⟨b, 1, none⟩)), (22, I x10.Levels), (23, .bool r36), (24, .bool (!r36)), (34, .bool true)] ⟨rfl, rfl, rfl, rfl, rfl, rfl, rfl, rfl, rfl, trivial⟩ fun ρ => ?_
    exact ⟨true, H, _, env_eq ⟨rfl, rfl, rfl, rfl, rfl, trivial⟩, (X22.stepx x42), (ex23.ext x42)⟩
   have H := H.2 hc40
   refine QP_ev ok 11 [(27, sl a sx c), (28, I x3)] 13 rfl rfl ?_
   obtain ⟨hl, hu, hn, H⟩ := H
   refine QP_slice 13 0 x3 rfl rfl rfl Try.underlying23 ti_90 rfl rfl rfl r (.inl ⟨rfl, rfl⟩) (.inr rfl) hl hu hn fun vx45 r46 => ?_
   obtain ⟨a47, c48, rfl⟩ := r46.shape
   refine QP_ev ok 14 [(30, pb b)] 15 rfl rfl ?_
   refine QP_ldbox 15 (v := .string x10.Name) rfl rfl rfl ti_9 ag_9 (fun _ => rfl) rfl ex20 rfl rfl ?_
   obtain ⟨r49, Hd50, H⟩ := H
   refine QP_call (I r49) 16 rfl rfl rfl cal_123 rfl (fun wx51 x52 => (spec_sFind_w _ _ _ Hd50 wx51 r46 (ex23.ext x52)).mono ?_) ?_
   ·rintro _ _ ⟨_, rfl, rfl, x⟩; exact ⟨rfl, x⟩
   refine QP_ev ok 17 [(33, .bool (decide (r49 ≥ 0))), (34, .bool (decide (r49 ≥ 0)))] 19 rfl rfl ?_
   refine QP_end _ rfl fun wx53 x54 => ?_
   try refine W_forget [(0, sl a sx c), (9, sl a sx c), (10, I (ln sx)), (11, I x3), (21, .pointer (some ⟨b, 1, none⟩)), (22, I x10.Levels), (23, .bool r36), (24, .bool (!r36)), (27, sl a sx c), (28, I x3), (29, .slice a47 (List.length (List.take (Int.toNat x3 - Int.toNat 0) (List.drop (Int.toNat 0) sx))) c48), (30, pb b), (31, .string x10.Name), (32, I r49), (33, .bool (decide (r49 ≥ 0))), (34, .bool (decide (r49 ≥ 0)))] ⟨rfl, rfl, rfl, rfl, rfl, rfl, rfl, rfl, rfl, rfl, rfl, rfl, rfl, rfl, rfl, rfl, trivial⟩ fun ρ => ?_
   exact ⟨decide (r49 ≥ 0), H, _, env_eq ⟨rfl, rfl, rfl, rfl, rfl, trivial⟩, (X22.stepx x54), (ex23.ext x54)⟩
  rintro x24 _ wx25 ⟨H, ρ, rfl, X27, ex26⟩
  subst hk
  refine W_cond (x24) rfl (fun hc57 => ?_) (fun hc57 => ?_)
  ·have H := H.1 hc57
   refine W_seq (W_region ?_)
   refine LP_ev ok 0 [(2, .bool false)] 1 rfl rfl ?_
   refine LP_end _ rfl (W_ret ?_)
   exact ⟨_, Ret_of [.bool false] ⟨⟨rfl, rfl⟩, trivial⟩, _, H, rfl, X27.ext⟩
  have H := H.2 hc57
  refine W_skip ?_
  refine W_region ?_
  refine LP_ev ok 0 [(35, I (wr (x3 + 1))), (11, I (wr (x3 + 1)))] 2 rfl rfl ?_
  exact LP_end _ rfl ⟨wr (x3 + 1), ⟨H.1, _, env_eq ⟨rfl, rfl, rfl, rfl, trivial⟩, X27, ex26⟩, H.2⟩
 have H := H.2 hc9
 refine W_exit ?_
 refine (if_pos rfl).mpr ?_
 refine W_seq (W_region ?_)
 refine LP_ev ok 0 [(2, .bool true)] 1 rfl rfl ?_
 refine LP_end _ rfl (W_ret ?_)
 exact ⟨_, Ret_of [.bool true] ⟨⟨rfl, rfl⟩, trivial⟩, _, H, rfl, X6.ext⟩

theorem spec_eFull_w (sx : List Variable) (vx1 : Int) (Q : Int → Prop) (H : spec_eFull sx vx1 Q) (w : World) {vx : Value} {hx : PH} (r : RS hx vx sx) (ex : Sub hx w) :
  CallsTo Try.prog 100 #[vx, I vx1] w fun v w' => ∃ r0, Q r0 ∧ v = I r0 ∧ Ext w w' := by
 obtain ⟨a, c, rfl⟩ := r.shape
 refine enter (args := [sl a sx c, I vx1]) 13 Try.func100 rfl rfl rfl ?_
 refine W_forget [(0, sl a sx c), (1, I vx1)] ⟨rfl, rfl, trivial⟩ fun ρ => ?_
 have X := But.refl emp w
 refine W_seq (W_region ?_)
 refine LP_ev ok 0 [(4, I 0)] 1 rfl rfl ?_
 refine LP_end _ rfl (W_seq (W_region ?_))
 refine LP_ev ok 0 [(5, sl a sx c), (6, I vx1)] 2 rfl rfl ?_
 obtain ⟨x, hi, hx2, H⟩ := H
 refine LP_index 2 rfl rfl rfl Try.underlying23 ti_90 rfl rfl r hi hx2 fun a3 cs r4 d => ?_
 refine LP_ev ok 3 [(8, .pointer (some (Addr.add a3 1)))] 4 rfl rfl ?_
 refine LP_ldfld (x := x) (off := 1) 4 (v := I x.Levels) rfl rfl rfl ti_3 ag_3 (fun _ => rfl) rfl r4 d ex rfl rfl ?_
 refine LP_ev ok 5 [(10, .int .u64 (IntKind.u64.wrap (x.Levels)))] 6 rfl rfl ?_
 obtain ⟨hz, H⟩ := H
 refine LP_val 6 _ rfl rfl (ex_shl rfl rfl rfl hz _) ?_
 refine LP_ev ok 7 [(12, I (wr ((shl .i64 1 (IntKind.u64.wrap (x.Levels))) - 1))), (4, I (wr ((shl .i64 1 (IntKind.u64.wrap (x.Levels))) - 1)))] 9 rfl rfl ?_
 refine LP_end _ rfl (W_ret ?_)
 exact ⟨_, Ret_of [I (wr ((shl .i64 1 (IntKind.u64.wrap (x.Levels))) - 1))] ⟨⟨rfl, rfl⟩, trivial⟩, _, H, rfl, X.ext⟩

theorem spec_l1Cur_edit_w (c : L1Cur) (sx : List Variable) (Q : Edit → Int → Int → Prop) (H : spec_l1Cur_edit c sx Q) (w : World) {vx : Value} {hx : PH} (r : RS hx vx c.Code) (ex : Sub hx w) {b : Nat} (ex2 : Sub (bx b 59 [vx, I c.At, .int .u64 c.Seed]) w) {vx3 : Value} {hx4 : PH} (r5 : RS hx4 vx3 sx) (ex6 : Sub hx4 w) (d : Dj (bx b 59 [vx, I c.At, .int .u64 c.Seed]) hx) (d9 : Dj (bx b 59 [vx, I c.At, .int .u64 c.Seed]) hx4) :
  CallsTo Try.prog 110 #[pb b, vx3] w fun v w' => ∃ r0 m1_0 m1_1 u0_0 g0_0, Q r0 m1_0 m1_1 ∧ v = .agg #[u0_0] ∧ But (bx b 59 [vx, I c.At, .int .u64 c.Seed]) w w' ∧ OS 3 g0_0 emp u0_0 r0.Sets ∧ Sub g0_0 w' ∧ Fresh w.heap.size g0_0 ∧ Sub (bx b 59 [vx, I m1_0, .int .u64 m1_1]) w' ∧ Dj g0_0 (bx b 59 [vx, I m1_0, .int .u64 m1_1]) := by
 obtain ⟨a, c1, rfl⟩ := r.shape
 obtain ⟨a7, c8, rfl⟩ := r5.shape
 refine enter (args := [pb b, sl a7 sx c8]) 34 Try.func110 rfl rfl rfl ?_
 refine W_forget [(0, pb b), (1, sl a7 sx c8)] ⟨rfl, rfl, trivial⟩ fun ρ => ?_
 have D : Dom (bx b 59 [sl a c.Code c1, I c.At, .int .u64 c.Seed]) (bx b 59 [sl a c.Code c1, I c.At, .int .u64 c.Seed]) := (Dom.refl _)
 have X := But.refl (bx b 59 [sl a c.Code c1, I c.At, .int .u64 c.Seed]) w
 refine W_seq (W_region ?_)
 refine LP_alloc 0 rfl rfl rfl ti_79 rfl fun b10 wx x ex11 f => ?_
 refine LP_end _ rfl (W_seq (W_region ?_))
 refine LP_ev ok 0 [(9, .agg #[.slice none 0 0])] 1 rfl rfl ?_
 refine LP_alloc 1 rfl rfl rfl ti_79 rfl fun b12 wx13 x14 ex15 f16 => ?_
 refine LP_stbox 2 (vs := [.slice none 0 0]) (cs' := [.slice none 0 0]) rfl rfl rfl ti_79 rfl rfl rfl rfl rfl ex15 rfl rfl fun wx17 ex18 y => ?_
 refine LP_end _ rfl (W_seq ?_)
 refine W_seq (W_region ?_)
 refine LP_ev ok 0 [(10, sl a7 sx c8), (11, I (ln sx)), (12, I 0)] 3 rfl rfl ?_
 refine LP_end _ rfl ?_
 refine W_block ?_
 have xc := (x.trans x14)
 have f38 := f16.mono (X.stepx x).size
 have ex46 := (ex2.ext x)
 obtain ⟨J, m, Hx, H⟩ := H
 refine W_loop (S := Int × Int × Int × (List Int)) (fun s ρ' w' => J s.1 s.2.1 s.2.2.1 s.2.2.2 ∧ ∃ (ρ : Env) (vx20 : Value) (hx21 : PH), ρ' = setAll [(0, pb b), (1, sl a7 sx c8), (4, pb b10), (5, pb b12), (11, I (ln sx)), (12, I s.1)] ρ ∧ But (bx b 59 [sl a c.Code c1, I c.At, .int .u64 c.Seed]) w w' ∧ OS 3 hx21 emp vx20 s.2.2.2 ∧ Sub hx21 w' ∧ Fresh w.heap.size hx21 ∧ Sub hx w' ∧ Sub hx4 w' ∧ Sub (bx b10 79 [.slice none 0 0]) w' ∧ Sub (bx b 59 [sl a c.Code c1, I s.2.1, .int .u64 s.2.2.1]) w' ∧ Sub (bx b12 79 [vx20]) w' ∧ Dj hx21 hx ∧ Dj hx21 hx4 ∧ Dj hx21 (bx b10 79 [.slice none 0 0]) ∧ Dj hx21 (bx b 59 [sl a c.Code c1, I s.2.1, .int .u64 s.2.2.1]) ∧ Dj hx21 (bx b12 79 [vx20])) (fun s => m s.1 s.2.1 s.2.2.1 s.2.2.2) (0, c.At, c.Seed, []) ⟨Hx, _, .slice none 0 0, emp, env_eq ⟨rfl, rfl, rfl, rfl, rfl, rfl, trivial⟩, ((X.stepx xc).step y (f38.dom _)), OS.nil, (emp_sub _), (emp_fresh _), ((ex.ext xc).but y (Dj.of_fresh (ex.ext x) f16).symm), ((ex6.ext xc).but y (Dj.of_fresh (ex6.ext x) f16).symm), ((ex11.ext x14).but y (Dj.of_fresh ex11 f16).symm), ((ex2.ext xc).but y (Dj.of_fresh ex46 f16).symm), ex18, (fun _ => .inl rfl), (fun _ => .inl rfl), (fun _ => .inl rfl), (fun _ => .inl rfl), (fun _ => .inl rfl)⟩ ?_
 rintro ⟨x19, atx, seed, sets⟩ _ wx24 ⟨Hi, ρ, vx20, hx21, rfl, HF⟩
 revert HF
 refine bb9 fun X37 o ex22 f23 ex25 ex26 ex27 ex30 => ?_
 refine bb6 fun ex31 d32 d33 d34 d35 d36 => ?_
 have H := H x19 atx seed sets Hi
 obtain ⟨a28, c29, rfl⟩ := o.shape
 refine W_seq (W_region ?_)
 refine LP_ev ok 0 [(13, .bool (decide (x19 < (ln sx))))] 1 rfl rfl ?_
 refine LP_end _ rfl (W_seq ?_)
 refine W_cond (decide (x19 < (ln sx))) rfl (fun hc => ?_) (fun hc => ?_)
 ·have H := H.1 hc
  refine W_skip ?_
  refine W_seq ?_
  refine W_block ?_
  refine W_seq (W_region ?_)
  refine LP_ev ok 0 [(14, I x19), (6, I x19)] 2 rfl rfl ?_
  refine LP_end _ rfl (W_seq (W_region ?_))
  refine LP_ev ok 0 [(15, sl a7 sx c8), (16, I x19)] 2 rfl rfl ?_
  refine LP_call 2 rfl rfl rfl cal_100 rfl (spec_eFull_w _ _ _ H wx24 r5 ex26) ?_
  rintro _ wx49 ⟨r48, H, rfl, x50⟩
  refine LP_ev ok 3 [(7, I r48)] 4 rfl rfl ?_
  refine LP_end _ rfl (W_seq (W_region ?_))
  refine LP_ev ok 0 [(18, I r48), (8, I r48)] 2 rfl rfl ?_
  refine LP_end _ rfl ?_
  have X51 := (X37.stepx x50)
  have ex52 := (ex25.ext x50)
  have ex54 := (ex26.ext x50)
  have ex55 := (ex27.ext x50)
  have ex57 := (ex31.ext x50)
  have ex58 := (ex22.ext x50)
  obtain ⟨k, hk, H⟩ := jn_elim H
  refine W_join2 (S := Int × Int × Int) (fun s ρ' w' => k s.1 s.2.1 s.2.2 ∧ ∃ (ρ : Env), ρ' = setAll [(0, pb b), (1, sl a7 sx c8), (4, pb b10), (5, pb b12), (8, I s.1), (11, I (ln sx)), (12, I x19)] ρ ∧ But (bx b 59 [sl a c.Code c1, I c.At, .int .u64 c.Seed]) w w' ∧ Sub hx w' ∧ Sub hx4 w' ∧ Sub (bx b10 79 [.slice none 0 0]) w' ∧ Sub (bx b12 79 [sl a28 sets c29]) w' ∧ Sub hx21 w' ∧ Sub (bx b 59 [sl a c.Code c1, I s.2.1, .int .u64 s.2.2]) w') ?_ ?_
  ·refine W_seq (W_region ?_)
   refine LP_ev ok 0 [(19, pb b)] 1 rfl rfl ?_
   refine LP_call 1 rfl rfl rfl cal_68 rfl (spec_l1Cur_one_w _ _ _ H wx49 r ex52 (ex30.ext x50) (Dj.box d)) ?_
   rintro _ wx73 ⟨r70, r71, r72, H, rfl, x74, ex75⟩
   refine LP_ev ok 2 [(21, .bool (!r70))] 3 rfl rfl ?_
   refine LP_end _ rfl ?_
   refine W_cond (!r70) rfl (fun hc76 => ?_) (fun hc76 => ?_)
   ·have H := H.1 hc76
    refine W_region ?_
    refine LP_ev ok 0 [(22, pb b), (23, I r48)] 2 rfl rfl ?_
    have ex80 := (ex52.but x74 (Dj.box d))
    refine LP_call 2 rfl rfl rfl cal_74 rfl (spec_l1Cur_pick_w _ _ _ H wx73 r ex80 ex75 (Dj.box d)) ?_
    rintro _ wx81 ⟨r77, r78, r79, H, rfl, x82, ex83⟩
    refine LP_ev ok 3 [(25, I (wr (1 + r77))), (8, I (wr (1 + r77)))] 5 rfl rfl ?_
    exact LP_end _ rfl ⟨(wr (1 + r77), r78, r79), H, _, env_eq ⟨rfl, rfl, rfl, rfl, rfl, rfl, rfl, trivial⟩, ((X51.step x74 (DomLe.dom D single_dom)).step x82 (DomLe.dom D single_dom)), (ex80.but x82 (Dj.box d)), ((ex54.but x74 (Dj.box d9)).but x82 (Dj.box d9)), ((ex55.but x74 (Dj.box (Dj.of_fresh ex2 f))).but x82 (Dj.box (Dj.of_fresh ex2 f))), ((ex57.but x74 (Dj.box (Dj.box (Dj.of_fresh ex46 f16)).symm).symm).but x82 (Dj.box (Dj.box (Dj.of_fresh ex46 f16)).symm).symm), ((ex58.but x74 d35.symm).but x82 (Dj.box d35.symm)), ex83⟩
   have H := H.2 hc76
   exact W_skip ⟨(r48, r71, r72), H, _, env_eq ⟨rfl, rfl, rfl, rfl, rfl, rfl, rfl, trivial⟩, (X51.step x74 (DomLe.dom D single_dom)), (ex52.but x74 (Dj.box d)), (ex54.but x74 (Dj.box d9)), (ex55.but x74 (Dj.box (Dj.of_fresh ex2 f))), (ex57.but x74 (Dj.box (Dj.box (Dj.of_fresh ex46 f16)).symm).symm), (ex58.but x74 d35.symm), ex75⟩
  rintro ⟨x59, atx60, seed61⟩ _ wx62 ⟨H, ρ, rfl, HF⟩
  revert HF
  refine bb7 fun X69 ex63 ex64 ex65 ex66 ex67 ex68 => ?_
  subst hk
  refine W_region ?_
  refine LP_ev ok 0 [(26, pb b12)] 1 rfl rfl ?_
  refine LP_ldbox 1 (v := sl a28 sets c29) rfl rfl rfl ti_25 ag_25 (fun _ => rfl) rfl ex66 rfl rfl ?_
  refine LP_ev ok 2 [(28, I x59)] 3 rfl rfl ?_
  refine LP_lit (α := Int) (g := emp) 3 (vs := [I x59]) (xs := [x59]) rfl rfl rfl Try.underlying25 ti_3 rfl rfl ⟨⟨_, rfl, rfl⟩, trivial⟩ rfl rfl fun hx96 vx97 wx98 x99 o100 ex101 f102 => ?_
  obtain ⟨a103, c104, rfl⟩ := o100.shape
  obtain ⟨hb, H⟩ := H
  refine LP_appendf (α := Int) 4 rfl rfl rfl Try.underlying25 ti_3 rfl rfl rfl o (ex67.ext x99) o100.readf ex101 (by first | omega | (simp only [ln] at *; omega)) (by first | omega | (simp only [ln] at *; omega)) fun hx106 vx107 wx108 o109 ex110 y111 dm => ?_
  obtain ⟨a112, c113, rfl⟩ := o109.shape
  refine LP_ev ok 5 [(31, pb b12)] 6 rfl rfl ?_
  refine LP_stbox 6 (vs := [.slice a112 (List.length (sets ++ ([x59]))) c113]) (cs' := [.slice a112 (List.length (sets ++ ([x59]))) c113]) rfl rfl rfl ti_25 rfl rfl rfl rfl rfl ((ex66.ext x99).but y111 d36) rfl rfl fun wx114 ex115 y116 => ?_
  refine LP_end _ rfl ?_
  refine W_region ?_
  refine LP_ev ok 0 [(32, I (wr (x19 + 1))), (12, I (wr (x19 + 1)))] 2 rfl rfl ?_
  refine LP_end _ rfl ?_
  have ex119 := (ex66.ext x99)
  have f121 := dm.fresh f23 (X69.stepx x99).size
  exact ⟨(wr (x19 + 1), atx60, seed61, sets ++ ([x59])), ⟨H.1, _, .slice a112 (List.length (sets ++ ([x59]))) c113, hx106, env_eq ⟨rfl, rfl, rfl, rfl, rfl, rfl, trivial⟩, (((X69.stepx x99).step y111 (f23.dom _)).step y116 ((Fresh.box f38).dom _)), o109, (ex110.but y116 (DomLe.dj dm d36 ex119).symm), f121, (((ex63.ext x99).but y111 d32).but y116 (Dj.box (Dj.of_fresh (ex.ext x) f16).symm)), (((ex64.ext x99).but y111 d33).but y116 (Dj.box (Dj.of_fresh (ex6.ext x) f16).symm)), (((ex65.ext x99).but y111 d34).but y116 (Dj.box (Dj.of_fresh ex11 f16).symm)), (((ex68.ext x99).but y111 (Dj.box d35.symm).symm).but y116 (Dj.box (Dj.box (Dj.of_fresh ex46 f16).symm).symm).symm), ex115, (DomLe.dj dm d32 (ex63.ext x99)), (DomLe.dj dm d33 (ex64.ext x99)), (DomLe.dj dm d34 (ex65.ext x99)), (DomLe.dj dm (Dj.box d35.symm).symm (ex68.ext x99)), (Dj.box (DomLe.dj dm d36 ex119).symm).symm⟩, H.2⟩
 have H := H.2 hc
 refine W_exit ?_
 refine (if_pos rfl).mpr ?_
 refine W_seq (W_region ?_)
 refine LP_ldbox 0 (v := .agg #[sl a28 sets c29]) rfl rfl rfl ti_79 ag_79 (fun h => by cases h) rfl ex31 rfl rfl ?_
 refine LP_stbox 1 (vs := [sl a28 sets c29]) (cs' := [sl a28 sets c29]) rfl rfl rfl ti_79 rfl rfl rfl rfl rfl ex27 rfl rfl fun wx133 ex134 y135 => ?_
 refine LP_end _ rfl (W_ret ?_)
 have f138 := f.mono X.size
 exact ⟨_, Ret_of [.agg #[sl a28 sets c29]] ⟨⟨_, rfl, rfl, ld_res ti_79 ag_79 (fun h => by cases h) ex134 rfl rfl⟩, trivial⟩, _, _, _, _, _, H, rfl, (X37.step y135 (f138.dom _)), o, (ex22.but y135 d34.symm), f23, (ex30.but y135 (Dj.box (Dj.of_fresh ex2 f).symm.symm).symm), d35⟩

theorem spec_l1Cur_anyEdit_w (c : L1Cur) (sx : List Variable) (Q : Edit → Int → Int → Prop) (H : spec_l1Cur_anyEdit c sx Q) (w : World) {vx : Value} {hx : PH} (r : RS hx vx c.Code) (ex : Sub hx w) {b : Nat} (ex2 : Sub (bx b 59 [vx, I c.At, .int .u64 c.Seed]) w) {vx3 : Value} {hx4 : PH} (r5 : RS hx4 vx3 sx) (ex6 : Sub hx4 w) (d : Dj (bx b 59 [vx, I c.At, .int .u64 c.Seed]) hx) (d9 : Dj (bx b 59 [vx, I c.At, .int .u64 c.Seed]) hx4) :
  CallsTo Try.prog 70 #[pb b, vx3] w fun v w' => ∃ r0 m1_0 m1_1 u0_0 g0_0, Q r0 m1_0 m1_1 ∧ v = .agg #[u0_0] ∧ But (bx b 59 [vx, I c.At, .int .u64 c.Seed]) w w' ∧ OS 3 g0_0 emp u0_0 r0.Sets ∧ Sub g0_0 w' ∧ Fresh w.heap.size g0_0 ∧ Sub (bx b 59 [vx, I m1_0, .int .u64 m1_1]) w' ∧ Dj g0_0 (bx b 59 [vx, I m1_0, .int .u64 m1_1]) := by
 obtain ⟨a, c1, rfl⟩ := r.shape
 obtain ⟨a7, c8, rfl⟩ := r5.shape
 refine enter (args := [pb b, sl a7 sx c8]) 37 Try.func70 rfl rfl rfl ?_
 refine W_forget [(0, pb b), (1, sl a7 sx c8)] ⟨rfl, rfl, trivial⟩ fun ρ => ?_
 have D : Dom (bx b 59 [sl a c.Code c1, I c.At, .int .u64 c.Seed]) (bx b 59 [sl a c.Code c1, I c.At, .int .u64 c.Seed]) := (Dom.refl _)
 have X := But.refl (bx b 59 [sl a c.Code c1, I c.At, .int .u64 c.Seed]) w
 refine W_seq (W_region ?_)
 refine LP_alloc 0 rfl rfl rfl ti_79 rfl fun b10 wx x ex11 f => ?_
 refine LP_end _ rfl (W_seq ?_)
 refine W_seq (W_region ?_)
 refine LP_ev ok 0 [(6, sl a7 sx c8)] 1 rfl rfl ?_
 have ex13 := (ex6.ext x)
 refine LP_call 1 rfl rfl rfl cal_109 rfl (spec_sGood_w _ _ H wx r5 ex13) ?_
 rintro _ wx14 ⟨r12, H, rfl, x15⟩
 refine LP_ev ok 2 [(8, .bool (!r12))] 3 rfl rfl ?_
 refine LP_end _ rfl ?_
 refine W_cond (!r12) rfl (fun hc => ?_) (fun hc => ?_)
 ·have H := H.1 hc
  refine W_seq (W_region ?_)
  refine LP_lit (α := Int) (g := emp) 0 (vs := [I 1]) (xs := [1]) rfl rfl rfl Try.underlying25 ti_3 rfl rfl ⟨⟨_, rfl, rfl⟩, trivial⟩ rfl rfl fun hx16 vx17 wx18 x19 o ex20 f21 => ?_
  obtain ⟨a22, c23, rfl⟩ := o.shape
  refine LP_ev ok 1 [(10, .agg #[.slice a22 (List.length ([1])) c23])] 2 rfl rfl ?_
  refine LP_stbox 2 (vs := [.slice a22 (List.length ([1])) c23]) (cs' := [.slice a22 (List.length ([1])) c23]) rfl rfl rfl ti_79 rfl rfl rfl rfl rfl (ex11.ext (x15.trans x19)) rfl rfl fun wx24 ex25 y => ?_
  refine LP_end _ rfl (W_ret ?_)
  have xc30 := (x.trans x15)
  have X31 := (X.stepx xc30)
  have f29 := f21.mono X31.size
  have f35 := f.mono X.size
  exact ⟨_, Ret_of [.agg #[.slice a22 (List.length ([1])) c23]] ⟨⟨_, rfl, rfl, ld_res ti_79 ag_79 (fun h => by cases h) ex25 rfl rfl⟩, trivial⟩, _, _, _, _, _, H, rfl, ((X31.stepx x19).step y (f35.dom _)), o, (ex20.but y (Dj.of_fresh (ex11.ext x15) f21)), f29, ((ex2.ext (xc30.trans x19)).but y (Dj.of_fresh ex2 f).symm), (Dj.of_fresh (ex2.ext xc30) f21).symm⟩
 have H := H.2 hc
 refine W_skip ?_
 refine W_seq (W_region ?_)
 refine LP_ev ok 0 [(11, pb b), (12, sl a7 sx c8)] 2 rfl rfl ?_
 have xc40 := (x.trans x15)
 have ex41 := (ex.ext xc40)
 refine LP_call 2 rfl rfl rfl cal_110 rfl (spec_l1Cur_edit_w _ _ _ H wx14 r ex41 (ex2.ext xc40) r5 (ex13.ext x15) d d9) ?_
 rintro _ wx44 ⟨r37, r38, r39, vx46, hx47, H, rfl, x45, HF⟩
 revert HF
 refine bb5 fun o48 ex49 f50 ex51 d52 => ?_
 obtain ⟨a53, c54, rfl⟩ := o48.shape
 refine LP_alloc 3 rfl rfl rfl ti_79 rfl fun b55 wx56 x57 ex58 f59 => ?_
 refine LP_stbox 4 (vs := [sl a53 r37.Sets c54]) (cs' := [sl a53 r37.Sets c54]) rfl rfl rfl ti_79 rfl rfl rfl rfl rfl ex58 rfl rfl fun wx60 ex61 y62 => ?_
 refine LP_end _ rfl ?_
 have f63 := f59.mono ((X.stepx xc40).step x45 (Dom.le D _)).size
 have X65 := ((((X.stepx xc40).step x45 (Dom.le D _)).stepx x57).step y62 (f63.dom _))
 have ex66 := (ex41.but x45 d)
 have ex67 := (((ex41.but x45 d).ext x57).but y62 (Dj.of_fresh ex66 f59).symm)
 have ex69 := ((ex11.ext x15).but x45 (Dj.of_fresh ex2 f))
 have ex70 := ((((ex11.ext x15).but x45 (Dj.of_fresh ex2 f)).ext x57).but y62 (Dj.of_fresh ex69 f59).symm)
 have f71 := f.mono X.size
 have ex72 := ((ex49.ext x57).but y62 (Dj.of_fresh ex49 f59).symm)
 have f73 := f50.mono (X.stepx xc40).size
 obtain ⟨k, hk, H⟩ := jn_elim H
 refine W_join2 (S := Int × Int × (List Int)) (fun s ρ' w' => k s.1 s.2.1 s.2.2 ∧ ∃ (ρ : Env) (vx75 : Value) (hx76 : PH), ρ' = setAll [(4, pb b10), (5, pb b55)] ρ ∧ But (bx b 59 [sl a c.Code c1, I c.At, .int .u64 c.Seed]) w w' ∧ OS 3 hx76 emp vx75 s.2.2 ∧ Sub hx76 w' ∧ Fresh w.heap.size hx76 ∧ Sub hx w' ∧ Sub (bx b10 79 [.slice none 0 0]) w' ∧ Sub (bx b 59 [sl a c.Code c1, I s.1, .int .u64 s.2.1]) w' ∧ Sub (bx b55 79 [vx75]) w' ∧ Dj hx76 hx ∧ Dj hx76 (bx b10 79 [.slice none 0 0]) ∧ Dj hx76 (bx b 59 [sl a c.Code c1, I s.1, .int .u64 s.2.1]) ∧ Dj hx76 (bx b55 79 [vx75])) ?_ ?_
 ·refine W_seq (W_region ?_)
  refine LP_ev ok 0 [(14, pb b)] 1 rfl rfl ?_
  refine LP_call 1 rfl rfl rfl cal_74 rfl (spec_l1Cur_pick_w _ _ _ H wx60 r ex67 ((ex51.ext x57).but y62 (Dj.of_fresh ex51 f59).symm) (Dj.box d)) ?_
  rintro _ wx95 ⟨r92, r93, r94, H, rfl, x96, ex97⟩
  refine LP_end _ rfl ?_
  refine W_block ?_
  refine W_seq (W_region ?_)
  refine LP_ev ok 0 [(17, .bool (r92 == 0)), (16, .bool (r92 == 0))] 2 rfl rfl ?_
  refine LP_end _ rfl ?_
  refine W_cond (r92 == 0) rfl (fun hc98 => ?_) (fun hc98 => ?_)
  ·have H := H.1 hc98
   refine W_open mix fun wx99 x100 => ?_
   have X101 := ((X65.step x96 (DomLe.dom D single_dom)).stepx x100)
   have ex102 := ((ex67.but x96 (Dj.box d)).ext x100)
   have ex103 := (ex97.ext x100)
   have ex104 := ((ex70.but x96 (Dj.box (Dj.of_fresh ex2 f))).ext x100)
   have ex105 := ((ex72.but x96 d52.symm).ext x100)
   have ex106 := ((ex61.but x96 (Dj.box (Dj.of_fresh ex51 f59).symm).symm).ext x100)
   refine AP_gameT 10 [[], [0], [], [], [3], [3, 4], [2, 3, 4, 5], [], [], [2, 3, 4, 5, 6, 7, 8], [0, 1, 2, 3, 4, 5, 6, 7, 8, 9], [0, 1, 2, 3, 4, 5, 6, 7, 8, 9, 10]] [[(5, none)], [(18, some 0)], [(0, none)], [(5, none)], [(21, some 3)], [(22, some 4)], [(20, some 2), (23, some 5)], [(0, none)], [], [(25, some 7), (26, some 8)]] [(4, none), (5, none), (19, some 1), (24, some 6), (27, some 9)] [0, 1, 2, 3, 4, 5, 6, 7, 8, 9] (by kernel_rfl) (by kernel_rfl) 10 ?_
   refine GT_ev 0 ok [(5, pb b55)] (pb b55) rfl (by kernel_rfl) rfl (fun _ h => h) (fun _ => rfl) ?_
   refine GT_r1 1 [(18, pb b55)] (sl a53 r37.Sets c54) rfl (by kernel_rfl) rfl (fun _ h => h) (fun _ w e => ex_ldbox rfl ti_25 ag_25 (fun _ => rfl) rfl e rfl rfl) ex106 ?_
   refine GT_ev 2 ok [(0, pb b)] (pb b) rfl (by kernel_rfl) rfl (fun _ h => h) (fun _ => rfl) ?_
   refine GT_ev 3 ok [(5, pb b55)] (pb b55) rfl (by kernel_rfl) rfl (fun _ h => h) (fun _ => rfl) ?_
   refine GT_r1 4 [(21, pb b55)] (sl a53 r37.Sets c54) rfl (by kernel_rfl) rfl (fun _ h => h) (fun _ w e => ex_ldbox rfl ti_25 ag_25 (fun _ => rfl) rfl e rfl rfl) ex106 ?_
   refine GT_ev 5 ok [(22, sl a53 r37.Sets c54)] (I (ln r37.Sets)) rfl (by kernel_rfl) rfl (fun _ h => h) (fun _ => rfl) ?_
   refine GT_ev 7 ok [(0, pb b)] (pb b) rfl (by kernel_rfl) rfl (fun _ h => h) (fun _ => rfl) ?_
   refine GT_hd [6, 8] (by kernel_rfl) ⟨?_, ?_, trivial⟩
   ·have H := H.1
    refine GT_lp [(20, pb b), (23, I (ln r37.Sets))] rfl (by kernel_rfl) rfl (fun _ h => h) rfl fun ρ wx107 x108 => ?_
    have ex112 := (ex102.ext x108)
    refine LP_call 0 rfl rfl rfl cal_74 rfl (spec_l1Cur_pick_w _ _ _ H wx107 r ex112 (ex103.ext x108) (Dj.box d)) ?_
    rintro _ wx114 ⟨r109, r110, r111, H, rfl, x115, ex116⟩
    have ex117 := ((ex106.ext x108).but x115 (Dj.box (Dj.box (Dj.of_fresh ex51 f59)).symm).symm)
    refine LP_gs ⟨⟨.inl rfl, .inr ex117, trivial⟩, ?_⟩
    refine GT_hd [8] (by kernel_rfl) ⟨GT_lp [] rfl (by kernel_rfl) rfl (fun _ h => h) rfl fun ρ wx118 x119 => ?_, trivial⟩
    refine LP_lit (α := Int) (g := emp) 0 (vs := [I 0, I ((-1)), I 256, I 4]) (xs := [0, (-1), 256, 4]) rfl rfl rfl Try.underlying25 ti_3 rfl rfl ⟨⟨_, rfl, rfl⟩, ⟨_, rfl, rfl⟩, ⟨_, rfl, rfl⟩, ⟨_, rfl, rfl⟩, trivial⟩ rfl rfl fun hx120 vx121 wx122 x123 o124 ex125 f126 => ?_
    obtain ⟨a127, c128, rfl⟩ := o124.shape
    have xc129 := (x119.trans x123)
    have ex131 := (ex117.ext xc129)
    refine LP_gs ⟨⟨.inr (((ex106.ext x108).but x115 (Dj.box (Dj.box (Dj.of_fresh ex51 f59)).symm).symm).ext xc129), .inr ex131, trivial⟩, ?_⟩
    refine GT_hd [9] (by kernel_rfl) ⟨GT_lp [(25, pb b), (26, .slice a127 (List.length ([0, (-1), 256, 4])) c128)] rfl (by kernel_rfl) rfl (fun _ h => h) rfl fun ρ wx132 x133 => ?_, trivial⟩
    have ex134 := (ex116.ext x119)
    have xc138 := (xc129.trans x133)
    have ex139 := ((ex112.but x115 (Dj.box d)).ext xc138)
    refine LP_call 0 rfl rfl rfl cal_75 rfl (spec_l1Cur_among_w _ _ _ H wx132 r ex139 (ex134.ext (x123.trans x133)) o124.readf (ex125.ext x133) (Dj.box d) (Dj.of_fresh ex134 f126)) ?_
    rintro _ wx143 ⟨r135, r136, r137, H, rfl, x144, ex145⟩
    refine LP_gs ⟨⟨.inl rfl, .inr ((ex131.ext x133).but x144 (Dj.box (Dj.box (Dj.of_fresh ex51 f59)).symm).symm), trivial⟩, ?_⟩
    refine GT_end (by kernel_rfl) ?_
    intro wx147 x148 ρ hn
    refine AP_forget [(4, pb b10), (5, pb b55), (19, sl a53 r37.Sets c54), (24, I r109), (27, I r135)] (by exact hn) fun ρ => ?_
    refine AP_tail 10 [[], [0], [], [], [3], [3, 4], [2, 3, 4, 5], [], [], [2, 3, 4, 5, 6, 7, 8], [0, 1, 2, 3, 4, 5, 6, 7, 8, 9], [0, 1, 2, 3, 4, 5, 6, 7, 8, 9, 10]] (by kernel_rfl) ?_
    obtain ⟨hi, hl, H⟩ := H
    refine LP_indexw (v := sl a53 r37.Sets c54) 10 rfl rfl rfl Try.underlying25 ti_3 rfl rfl o48 hi hl fun a149 wa => ?_
    refine LP_set 11 rfl rfl rfl rfl rfl wa (Le.refl emp) ⟨_, rfl, rfl⟩ (((((ex105.ext x108).but x115 (Dj.box d52.symm)).ext xc138).but x144 (Dj.box d52.symm)).ext x148) fun hx150 wx151 o152 ex153 y154 dm => ?_
    refine LP_end _ rfl ?_
    have f157 := (dm _).fresh f73 (((((X101.stepx x108).step x115 (DomLe.dom D single_dom)).stepx xc138).step x144 (DomLe.dom D single_dom)).stepx x148).size
    have ex160 := (ex11.ext x15)
    exact ⟨(r136, r137, List.set r37.Sets (Int.toNat r109) r135), H, _, sl a53 r37.Sets c54, hx150, env_eq ⟨rfl, rfl, trivial⟩, ((((((X101.stepx x108).step x115 (DomLe.dom D single_dom)).stepx xc138).step x144 (DomLe.dom D single_dom)).stepx x148).step y154 (f73.dom _)), o152, ex153, f157, (((ex139.but x144 (Dj.box d)).ext x148).but y154 (Dj.of_fresh ex41 f50).symm), ((((((ex104.ext x108).but x115 (Dj.box (Dj.of_fresh ex2 f))).ext xc138).but x144 (Dj.box (Dj.of_fresh ex2 f))).ext x148).but y154 (Dj.of_fresh ex160 f50).symm), ((ex145.ext x148).but y154 (Dj.box d52.symm).symm), ((((((ex106.ext x108).but x115 (Dj.box (Dj.box (Dj.of_fresh ex51 f59)).symm).symm).ext xc138).but x144 (Dj.box (Dj.box (Dj.of_fresh ex51 f59)).symm).symm).ext x148).but y154 (Dj.box (Dj.of_fresh ex49 f59).symm).symm), (DomLe.dj (dm _) (Dj.of_fresh ex41 f50).symm ((ex139.but x144 (Dj.box d)).ext x148)), (DomLe.dj (dm _) (Dj.of_fresh ex160 f50).symm (((((ex104.ext x108).but x115 (Dj.box (Dj.of_fresh ex2 f))).ext xc138).but x144 (Dj.box (Dj.of_fresh ex2 f))).ext x148)), (DomLe.dj (dm _) (Dj.box d52.symm).symm (ex145.ext x148)), (DomLe.dj (dm _) (Dj.box (Dj.of_fresh ex49 f59).symm).symm (((((ex106.ext x108).but x115 (Dj.box (Dj.box (Dj.of_fresh ex51 f59)).symm).symm).ext xc138).but x144 (Dj.box (Dj.box (Dj.of_fresh ex51 f59)).symm).symm).ext x148))⟩
   ·have H := H.2
    refine GT_lp [] rfl (by kernel_rfl) rfl (fun _ h => h) rfl fun ρ wx168 x169 => ?_
    refine LP_lit (α := Int) (g := emp) 0 (vs := [I 0, I ((-1)), I 256, I 4]) (xs := [0, (-1), 256, 4]) rfl rfl rfl Try.underlying25 ti_3 rfl rfl ⟨⟨_, rfl, rfl⟩, ⟨_, rfl, rfl⟩, ⟨_, rfl, rfl⟩, ⟨_, rfl, rfl⟩, trivial⟩ rfl rfl fun hx170 vx171 wx172 x173 o174 ex175 f176 => ?_
    obtain ⟨a177, c178, rfl⟩ := o174.shape
    have xc179 := (x169.trans x173)
    have ex181 := (ex106.ext xc179)
    refine LP_gs ⟨⟨.inr (ex106.ext xc179), .inr ex181, trivial⟩, ?_⟩
    refine GT_hd [6] (by kernel_rfl) ⟨GT_lp [(20, pb b), (23, I (ln r37.Sets))] rfl (by kernel_rfl) rfl (fun _ h => h) rfl fun ρ wx182 x183 => ?_, trivial⟩
    have xc187 := (xc179.trans x183)
    have ex188 := (ex102.ext xc187)
    refine LP_call 0 rfl rfl rfl cal_74 rfl (spec_l1Cur_pick_w _ _ _ H wx182 r ex188 (ex103.ext xc187) (Dj.box d)) ?_
    rintro _ wx190 ⟨r184, r185, r186, H, rfl, x191, ex192⟩
    have ex193 := ((ex181.ext x183).but x191 (Dj.box (Dj.box (Dj.of_fresh ex51 f59)).symm).symm)
    refine LP_gs ⟨⟨.inl rfl, .inr ex193, trivial⟩, ?_⟩
    refine GT_hd [9] (by kernel_rfl) ⟨GT_lp [(25, pb b), (26, .slice a177 (List.length ([0, (-1), 256, 4])) c178)] rfl (by kernel_rfl) rfl (fun _ h => h) rfl fun ρ wx194 x195 => ?_, trivial⟩
    have ex196 := (ex103.ext x169)
    have ex200 := ((ex188.but x191 (Dj.box d)).ext x195)
    refine LP_call 0 rfl rfl rfl cal_75 rfl (spec_l1Cur_among_w _ _ _ H wx194 r ex200 (ex192.ext x195) o174.readf (((ex175.ext x183).but x191 (Dj.of_fresh ex196 f176)).ext x195) (Dj.box d) (Dj.box (Dj.of_fresh ex196 f176))) ?_
    rintro _ wx203 ⟨r197, r198, r199, H, rfl, x204, ex205⟩
    refine LP_gs ⟨⟨.inl rfl, .inr ((ex193.ext x195).but x204 (Dj.box (Dj.box (Dj.of_fresh ex51 f59)).symm).symm), trivial⟩, ?_⟩
    refine GT_end (by kernel_rfl) ?_
    intro wx207 x208 ρ hn209
    refine AP_forget [(4, pb b10), (5, pb b55), (19, sl a53 r37.Sets c54), (24, I r184), (27, I r197)] (by exact hn209) fun ρ => ?_
    refine AP_tail 10 [[], [0], [], [], [3], [3, 4], [2, 3, 4, 5], [], [], [2, 3, 4, 5, 6, 7, 8], [0, 1, 2, 3, 4, 5, 6, 7, 8, 9], [0, 1, 2, 3, 4, 5, 6, 7, 8, 9, 10]] (by kernel_rfl) ?_
    obtain ⟨hi210, hl211, H⟩ := H
    refine LP_indexw (v := sl a53 r37.Sets c54) 10 rfl rfl rfl Try.underlying25 ti_3 rfl rfl o48 hi210 hl211 fun a212 wa213 => ?_
    refine LP_set 11 rfl rfl rfl rfl rfl wa213 (Le.refl emp) ⟨_, rfl, rfl⟩ (((((ex105.ext xc187).but x191 (Dj.box d52.symm)).ext x195).but x204 (Dj.box d52.symm)).ext x208) fun hx214 wx215 o216 ex217 y218 dm219 => ?_
    refine LP_end _ rfl ?_
    have f222 := (dm219 _).fresh f73 (((((X101.stepx xc187).step x191 (DomLe.dom D single_dom)).stepx x195).step x204 (DomLe.dom D single_dom)).stepx x208).size
    have ex225 := (ex11.ext x15)
    exact ⟨(r198, r199, List.set r37.Sets (Int.toNat r184) r197), H, _, sl a53 r37.Sets c54, hx214, env_eq ⟨rfl, rfl, trivial⟩, ((((((X101.stepx xc187).step x191 (DomLe.dom D single_dom)).stepx x195).step x204 (DomLe.dom D single_dom)).stepx x208).step y218 (f73.dom _)), o216, ex217, f222, (((ex200.but x204 (Dj.box d)).ext x208).but y218 (Dj.of_fresh ex41 f50).symm), ((((((ex104.ext xc187).but x191 (Dj.box (Dj.of_fresh ex2 f))).ext x195).but x204 (Dj.box (Dj.of_fresh ex2 f))).ext x208).but y218 (Dj.of_fresh ex225 f50).symm), ((ex205.ext x208).but y218 (Dj.box d52.symm).symm), ((((((ex106.ext xc187).but x191 (Dj.box (Dj.box (Dj.of_fresh ex51 f59)).symm).symm).ext x195).but x204 (Dj.box (Dj.box (Dj.of_fresh ex51 f59)).symm).symm).ext x208).but y218 (Dj.box (Dj.of_fresh ex49 f59).symm).symm), (DomLe.dj (dm219 _) (Dj.of_fresh ex41 f50).symm ((ex200.but x204 (Dj.box d)).ext x208)), (DomLe.dj (dm219 _) (Dj.of_fresh ex225 f50).symm (((((ex104.ext xc187).but x191 (Dj.box (Dj.of_fresh ex2 f))).ext x195).but x204 (Dj.box (Dj.of_fresh ex2 f))).ext x208)), (DomLe.dj (dm219 _) (Dj.box d52.symm).symm (ex205.ext x208)), (DomLe.dj (dm219 _) (Dj.box (Dj.of_fresh ex49 f59).symm).symm (((((ex106.ext xc187).but x191 (Dj.box (Dj.box (Dj.of_fresh ex51 f59)).symm).symm).ext x195).but x204 (Dj.box (Dj.box (Dj.of_fresh ex51 f59)).symm).symm).ext x208))⟩
  have H := H.2 hc98
  refine W_seq (W_region ?_)
  refine LP_ev ok 0 [(30, .bool (r92 == 1)), (29, .bool (r92 == 1))] 2 rfl rfl ?_
  refine LP_end _ rfl ?_
  refine W_cond (r92 == 1) rfl (fun hc233 => ?_) (fun hc233 => ?_)
  ·have H := H.1 hc233
   refine W_region ?_
   refine LP_ev ok 0 [(31, pb b55)] 1 rfl rfl ?_
   have ex234 := (ex61.but x96 (Dj.box (Dj.of_fresh ex51 f59).symm).symm)
   refine LP_ldbox 1 (v := sl a53 r37.Sets c54) rfl rfl rfl ti_25 ag_25 (fun _ => rfl) rfl ex234 rfl rfl ?_
   refine LP_lit (α := Int) (g := emp) 2 (vs := [I 1]) (xs := [1]) rfl rfl rfl Try.underlying25 ti_3 rfl rfl ⟨⟨_, rfl, rfl⟩, trivial⟩ rfl rfl fun hx235 vx236 wx237 x238 o239 ex240 f241 => ?_
   obtain ⟨a242, c243, rfl⟩ := o239.shape
   obtain ⟨hb, H⟩ := H
   refine LP_appendf (α := Int) 3 rfl rfl rfl Try.underlying25 ti_3 rfl rfl rfl o48 ((ex72.but x96 d52.symm).ext x238) o239.readf ex240 (by first | omega | (simp only [ln] at *; omega)) (by first | omega | (simp only [ln] at *; omega)) fun hx245 vx246 wx247 o248 ex249 y250 dm251 => ?_
   obtain ⟨a252, c253, rfl⟩ := o248.shape
   refine LP_ev ok 4 [(35, pb b55)] 5 rfl rfl ?_
   refine LP_stbox 5 (vs := [.slice a252 (List.length (r37.Sets ++ ([1]))) c253]) (cs' := [.slice a252 (List.length (r37.Sets ++ ([1]))) c253]) rfl rfl rfl ti_25 rfl rfl rfl rfl rfl ((ex234.ext x238).but y250 (Dj.box (Dj.of_fresh ex49 f59).symm).symm) rfl rfl fun wx254 ex255 y256 => ?_
   refine LP_end _ rfl ?_
   have ex259 := (ex234.ext x238)
   have f261 := dm251.fresh f73 ((X65.step x96 (DomLe.dom D single_dom)).stepx x238).size
   have ex264 := (ex11.ext x15)
   exact ⟨(r93, r94, r37.Sets ++ ([1])), H, _, .slice a252 (List.length (r37.Sets ++ ([1]))) c253, hx245, env_eq ⟨rfl, rfl, trivial⟩, ((((X65.step x96 (DomLe.dom D single_dom)).stepx x238).step y250 (f73.dom _)).step y256 ((Fresh.box f63).dom _)), o248, (ex249.but y256 (DomLe.dj dm251 (Dj.box (Dj.of_fresh ex49 f59).symm).symm ex259).symm), f261, ((((ex67.but x96 (Dj.box d)).ext x238).but y250 (Dj.of_fresh ex41 f50).symm).but y256 (Dj.box (Dj.of_fresh ex66 f59).symm)), ((((ex70.but x96 (Dj.box (Dj.of_fresh ex2 f))).ext x238).but y250 (Dj.of_fresh ex264 f50).symm).but y256 (Dj.box (Dj.of_fresh ex69 f59).symm)), (((ex97.ext x238).but y250 (Dj.box d52.symm).symm).but y256 (Dj.box (Dj.box (Dj.of_fresh ex51 f59).symm).symm).symm), ex255, (DomLe.dj dm251 (Dj.of_fresh ex41 f50).symm ((ex67.but x96 (Dj.box d)).ext x238)), (DomLe.dj dm251 (Dj.of_fresh ex264 f50).symm ((ex70.but x96 (Dj.box (Dj.of_fresh ex2 f))).ext x238)), (DomLe.dj dm251 (Dj.box d52.symm).symm (ex97.ext x238)), (Dj.box (DomLe.dj dm251 (Dj.box (Dj.of_fresh ex49 f59).symm).symm ex259).symm).symm⟩
  have H := H.2 hc233
  exact W_skip ⟨(r93, r94, r37.Sets), H, _, sl a53 r37.Sets c54, hx47, env_eq ⟨rfl, rfl, trivial⟩, (X65.step x96 (DomLe.dom D single_dom)), o48, (ex72.but x96 d52.symm), f73, (ex67.but x96 (Dj.box d)), (ex70.but x96 (Dj.box (Dj.of_fresh ex2 f))), ex97, (ex61.but x96 (Dj.box (Dj.of_fresh ex51 f59).symm).symm), (Dj.of_fresh ex41 f50).symm, (Dj.of_fresh (ex11.ext x15) f50).symm, (Dj.box d52.symm).symm, (Dj.box (Dj.of_fresh ex49 f59).symm).symm⟩
 rintro ⟨atx, seed, sets⟩ _ wx80 ⟨H, ρ, vx75, hx76, rfl, HF⟩
 revert HF
 refine bb9 fun X91 o77 ex78 f79 ex81 ex82 ex85 ex86 => ?_
 refine bb4 fun d87 d88 d89 d90 => ?_
 subst hk
 obtain ⟨a83, c84, rfl⟩ := o77.shape
 refine W_seq (W_region ?_)
 refine LP_ldbox 0 (v := .agg #[sl a83 sets c84]) rfl rfl rfl ti_79 ag_79 (fun h => by cases h) rfl ex86 rfl rfl ?_
 refine LP_stbox 1 (vs := [sl a83 sets c84]) (cs' := [sl a83 sets c84]) rfl rfl rfl ti_79 rfl rfl rfl rfl rfl ex82 rfl rfl fun wx276 ex277 y278 => ?_
 refine LP_end _ rfl (W_ret ?_)
 exact ⟨_, Ret_of [.agg #[sl a83 sets c84]] ⟨⟨_, rfl, rfl, ld_res ti_79 ag_79 (fun h => by cases h) ex277 rfl rfl⟩, trivial⟩, _, _, _, _, _, H, rfl, (X91.step y278 (f71.dom _)), o77, (ex78.but y278 d88.symm), f79, (ex85.but y278 (Dj.box (Dj.of_fresh ex2 f).symm.symm).symm), d89⟩

theorem spec_l1Own_w (l : List Int) (Q : (List Int) → Prop) (H : spec_l1Own l Q) (w : World) {vx : Value} {hx : PH} (r : RS hx vx l) (ex : Sub hx w) :
  CallsTo Try.prog 87 #[vx] w fun v w' => ∃ r0 u0 g0, Q r0 ∧ v = u0 ∧ Ext w w' ∧ OS 3 g0 emp u0 r0 ∧ Sub g0 w' ∧ Fresh w.heap.size g0 := by
 obtain ⟨a, c, rfl⟩ := r.shape
 refine enter (args := [sl a l c]) 6 Try.func87 rfl rfl rfl ?_
 refine W_forget [(0, sl a l c)] ⟨rfl, trivial⟩ fun ρ => ?_
 have X := But.refl emp w
 refine W_seq (W_region ?_)
 refine LP_ev ok 0 [(2, .slice none 0 0)] 1 rfl rfl ?_
 refine LP_end _ rfl (W_seq (W_region ?_))
 refine LP_lit (α := Int) (g := emp) 0 (vs := []) (xs := []) rfl rfl rfl Try.underlying25 ti_3 rfl rfl trivial rfl rfl fun hx1 vx2 wx x o ex3 f => ?_
 obtain ⟨a4, c5, rfl⟩ := o.shape
 refine LP_ev ok 1 [(4, sl a l c)] 2 rfl rfl ?_
 obtain ⟨hb, H⟩ := H
 refine LP_appendf (α := Int) 2 rfl rfl rfl Try.underlying25 ti_3 rfl rfl rfl o ex3 r (ex.ext x) (by first | omega | (simp only [ln] at *; omega)) (by first | omega | (simp only [ln] at *; omega)) fun hx7 vx8 wx9 o10 ex11 y dm => ?_
 obtain ⟨a12, c13, rfl⟩ := o10.shape
 refine LP_ev ok 3 [(2, .slice a12 (List.length ((([] : List Int)) ++ l)) c13)] 4 rfl rfl ?_
 refine LP_end _ rfl (W_ret ?_)
 have f15 := f.mono X.size
 have X16 := (X.stepx x)
 have f14 := dm.fresh f15 X16.size
 exact ⟨_, Ret_of [.slice a12 (List.length ((([] : List Int)) ++ l)) c13] ⟨⟨rfl, rfl⟩, trivial⟩, _, _, _, H, rfl, (X16.step y (f15.dom _)).ext, o10, ex11, f14⟩

theorem spec_l1Cur_edits_w (c : L1Cur) (sx : List Variable) (Q : (List Edit) → Int → Int → Prop) (H : spec_l1Cur_edits c sx Q) (w : World) {vx : Value} {hx : PH} (r : RS hx vx c.Code) (ex : Sub hx w) {b : Nat} (ex2 : Sub (bx b 59 [vx, I c.At, .int .u64 c.Seed]) w) {vx3 : Value} {hx4 : PH} (r5 : RS hx4 vx3 sx) (ex6 : Sub hx4 w) (d : Dj (bx b 59 [vx, I c.At, .int .u64 c.Seed]) hx) (d9 : Dj (bx b 59 [vx, I c.At, .int .u64 c.Seed]) hx4) :
  CallsTo Try.prog 69 #[pb b, vx3] w fun v w' => ∃ r0 m1_0 m1_1 u0 g0, Q r0 m1_0 m1_1 ∧ v = u0 ∧ But (bx b 59 [vx, I c.At, .int .u64 c.Seed]) w w' ∧ OD g0 u0 r0 ∧ Sub g0 w' ∧ Fresh w.heap.size g0 ∧ Sub (bx b 59 [vx, I m1_0, .int .u64 m1_1]) w' ∧ Dj g0 (bx b 59 [vx, I m1_0, .int .u64 m1_1]) := by
 obtain ⟨a, c1, rfl⟩ := r.shape
 obtain ⟨a7, c8, rfl⟩ := r5.shape
 refine enter (args := [pb b, sl a7 sx c8]) 41 Try.func69 rfl rfl rfl ?_
 refine W_forget [(0, pb b), (1, sl a7 sx c8)] ⟨rfl, rfl, trivial⟩ fun ρ => ?_
 have D : Dom (bx b 59 [sl a c.Code c1, I c.At, .int .u64 c.Seed]) (bx b 59 [sl a c.Code c1, I c.At, .int .u64 c.Seed]) := (Dom.refl _)
 have X := But.refl (bx b 59 [sl a c.Code c1, I c.At, .int .u64 c.Seed]) w
 refine W_seq (W_region ?_)
 refine LP_ev ok 0 [(4, .slice none 0 0)] 1 rfl rfl ?_
 refine LP_end _ rfl (W_seq (W_region ?_))
 refine LP_ev ok 0 [(5, .slice none 0 0)] 1 rfl rfl ?_
 refine LP_end _ rfl (W_seq ?_)
 refine W_seq (W_region ?_)
 refine LP_ev ok 0 [(9, pb b)] 1 rfl rfl ?_
 refine LP_call 1 rfl rfl rfl cal_74 rfl (spec_l1Cur_pick_w _ _ _ H w r ex ex2 d) ?_
 rintro _ wx ⟨r10, r11, r12, H, rfl, x, ex13⟩
 refine LP_ev ok 2 [(6, I r10)] 3 rfl rfl ?_
 refine LP_end _ rfl ?_
 refine W_block ?_
 obtain ⟨J, m, Hx, H⟩ := H
 refine W_loop (S := (List Edit) × Int × Int × Int) (fun s ρ' w' => J s.1 s.2.1 s.2.2.1 s.2.2.2 ∧ ∃ (ρ : Env) (vx14 : Value) (hx15 : PH), ρ' = setAll [(0, pb b), (1, sl a7 sx c8), (5, vx14), (6, I s.2.1)] ρ ∧ But (bx b 59 [sl a c.Code c1, I c.At, .int .u64 c.Seed]) w w' ∧ OD hx15 vx14 s.1 ∧ Sub hx15 w' ∧ Fresh w.heap.size hx15 ∧ Sub hx w' ∧ Sub hx4 w' ∧ Sub (bx b 59 [sl a c.Code c1, I s.2.2.1, .int .u64 s.2.2.2]) w' ∧ Dj hx15 hx ∧ Dj hx15 hx4 ∧ Dj hx15 (bx b 59 [sl a c.Code c1, I s.2.2.1, .int .u64 s.2.2.2])) (fun s => m s.1 s.2.1 s.2.2.1 s.2.2.2) ([], r10, r11, r12) ⟨Hx, _, .slice none 0 0, emp, env_eq ⟨rfl, rfl, rfl, rfl, trivial⟩, (X.step x (Dom.le D _)), OD.nil, (emp_sub _), (emp_fresh _), (ex.but x d), (ex6.but x d9), ex13, (fun _ => .inl rfl), (fun _ => .inl rfl), (fun _ => .inl rfl)⟩ ?_
 rintro ⟨l, k, atx, seed⟩ _ wx17 ⟨Hi, ρ, vx14, hx15, rfl, HF⟩
 revert HF
 refine bb9 fun X26 o ex16 f ex18 ex19 ex22 d23 => ?_
 refine bb2 fun d24 d25 => ?_
 have H := H l k atx seed Hi
 obtain ⟨a20, c21, rfl⟩ := o.shape
 refine W_seq ?_
 refine W_seq (W_region ?_)
 refine LP_ev ok 0 [(11, I k), (12, .bool (decide (k > 0)))] 2 rfl rfl ?_
 refine LP_end _ rfl ?_
 refine W_cond (decide (k > 0)) rfl (fun hc => ?_) (fun hc => ?_)
 ·have H := H.1 hc
  refine W_skip ?_
  refine W_seq ?_
  refine W_block ?_
  refine W_region ?_
  refine LP_ev ok 0 [(15, sl a20 l c21), (16, pb b), (17, sl a7 sx c8)] 3 rfl rfl ?_
  refine LP_call 3 rfl rfl rfl cal_70 rfl (spec_l1Cur_anyEdit_w _ _ _ H wx17 r ex18 ex22 r5 ex19 (Dj.box d) (Dj.box d9)) ?_
  rintro _ wx33 ⟨r30, r31, r32, vx35, hx36, H, rfl, x34, HF⟩
  revert HF
  refine bb5 fun o37 ex38 f39 ex40 d41 => ?_
  obtain ⟨a42, c43, rfl⟩ := o37.shape
  have rv : RVO hx36 (.agg #[sl a42 r30.Sets c43]) ((Edit.mk r30.Sets) : Edit) := ⟨_, ⟨_, rfl, (OS.od o37)⟩, rfl⟩
  refine LP_litD (α := Edit) 4 (vs := [.agg #[sl a42 r30.Sets c43]]) (xs := [((Edit.mk r30.Sets) : Edit)]) rfl rfl rfl Try.underlying24 ti_79 rfl rfl (allO.one rv) ex38 rfl rfl fun hx44 vx45 wx46 x47 o48 ex49 dm => ?_
  obtain ⟨a50, c51, rfl⟩ := o48.shape
  obtain ⟨hb, H⟩ := H
  refine LP_appendD (α := Edit) 5 rfl rfl rfl Try.underlying24 ti_79 rfl rfl rfl o ((ex16.but x34 d25.symm).ext x47) o48 ex49 (DomLe.dj dm (Dj.of_fresh ex16 f39).symm (ex16.but x34 d25.symm)).symm (by first | omega | (simp only [ln] at *; omega)) (by first | omega | (simp only [ln] at *; omega)) fun hx54 vx55 wx56 hw o57 ex58 y dh dm59 => ?_
  obtain ⟨a60, c61, rfl⟩ := o57.shape
  refine LP_ev ok 6 [(5, .slice a60 (List.length (l ++ ([((Edit.mk r30.Sets) : Edit)]))) c61)] 7 rfl rfl ?_
  refine LP_end _ rfl ?_
  refine W_region ?_
  refine LP_ev ok 0 [(13, I k), (14, I (wr (k - 1))), (6, I (wr (k - 1)))] 3 rfl rfl ?_
  refine LP_end _ rfl ?_
  have f63 := f39.mono X26.size
  have X65 := (X26.step x34 (DomLe.dom D single_dom))
  have f64 := DomLe.fresh dm f63 X65.size
  have f66 := DomLe.fresh dm59 (Fresh.un f f64) (X65.stepx x47).size
  have ex71 := (ex18.but x34 (Dj.box d))
  have ex73 := (ex19.but x34 (Dj.box d9))
  exact ⟨(l ++ ([((Edit.mk r30.Sets) : Edit)]), wr (k - 1), r31, r32), ⟨H.1, _, .slice a60 (List.length (l ++ ([((Edit.mk r30.Sets) : Edit)]))) c61, hx54, env_eq ⟨rfl, rfl, rfl, rfl, trivial⟩, (((X26.step x34 (DomLe.dom D single_dom)).stepx x47).step (But.dom y dh) (f.dom _)), o57, ex58, f66, (((ex18.but x34 (Dj.box d)).ext x47).but (But.dom y dh) d23), (((ex19.but x34 (Dj.box d9)).ext x47).but (But.dom y dh) d24), ((ex40.ext x47).but (But.dom y dh) (Dj.box d25.symm).symm), (DomLe.dj dm59 (Dj.un_l d23 (DomLe.dj dm (Dj.of_fresh ex18 f39).symm ex71)) (ex71.ext x47)), (DomLe.dj dm59 (Dj.un_l d24 (DomLe.dj dm (Dj.of_fresh ex19 f39).symm ex73)) (ex73.ext x47)), (DomLe.dj dm59 (Dj.un_l (Dj.box d25.symm).symm (DomLe.dj dm d41 ex40)) (ex40.ext x47))⟩, H.2⟩
 have H := H.2 hc
 refine W_exit ?_
 refine (if_pos rfl).mpr ?_
 obtain ⟨k92, hk, H⟩ := jn_elim H
 refine W_join2 (S := (List Edit) × Int × Int) (fun s ρ' w' => k92 s.1 s.2.1 s.2.2 ∧ ∃ (ρ : Env) (vx77 : Value) (hx78 : PH), ρ' = setAll [(5, vx77)] ρ ∧ But (bx b 59 [sl a c.Code c1, I c.At, .int .u64 c.Seed]) w w' ∧ OD hx78 vx77 s.1 ∧ Sub hx78 w' ∧ Fresh w.heap.size hx78 ∧ Sub hx w' ∧ Sub (bx b 59 [sl a c.Code c1, I s.2.1, .int .u64 s.2.2]) w' ∧ Dj hx78 hx ∧ Dj hx78 (bx b 59 [sl a c.Code c1, I s.2.1, .int .u64 s.2.2])) ?_ ?_
 ·refine W_seq (W_region ?_)
  refine LP_ev ok 0 [(21, pb b)] 1 rfl rfl ?_
  refine LP_call 1 rfl rfl rfl cal_68 rfl (spec_l1Cur_one_w _ _ _ H wx17 r ex18 ex22 (Dj.box d)) ?_
  rintro _ wx96 ⟨r93, r94, r95, H, rfl, x97, ex98⟩
  refine LP_end _ rfl ?_
  refine W_cond (r93) rfl (fun hc99 => ?_) (fun hc99 => ?_)
  ·have H := H.1 hc99
   refine W_seq (W_region ?_)
   refine LP_ev ok 0 [(23, pb b), (24, sl a7 sx c8)] 2 rfl rfl ?_
   have ex103 := (ex18.but x97 (Dj.box d))
   refine LP_call 2 rfl rfl rfl cal_70 rfl (spec_l1Cur_anyEdit_w _ _ _ H wx96 r ex103 ex98 r5 (ex19.but x97 (Dj.box d9)) (Dj.box d) (Dj.box d9)) ?_
   rintro _ wx105 ⟨r100, r101, r102, vx107, hx108, H, rfl, x106, HF⟩
   revert HF
   refine bb5 fun o109 ex110 f111 ex112 d113 => ?_
   obtain ⟨a114, c115, rfl⟩ := o109.shape
   refine LP_alloc 3 rfl rfl rfl ti_79 rfl fun b116 wx117 x118 ex119 f120 => ?_
   refine LP_stbox 4 (vs := [sl a114 r100.Sets c115]) (cs' := [sl a114 r100.Sets c115]) rfl rfl rfl ti_79 rfl rfl rfl rfl rfl ex119 rfl rfl fun wx121 ex122 y123 => ?_
   refine LP_end _ rfl (W_seq (W_region ?_))
   refine LP_ev ok 0 [(26, pb b)] 1 rfl rfl ?_
   have ex128 := (((ex103.but x106 (Dj.box d)).ext x118).but y123 (Dj.of_fresh (ex103.but x106 (Dj.box d)) f120).symm)
   refine LP_call 1 rfl rfl rfl cal_74 rfl (spec_l1Cur_pick_w _ _ _ H wx121 r ex128 ((ex112.ext x118).but y123 (Dj.of_fresh ex112 f120).symm) (Dj.box d)) ?_
   rintro _ wx130 ⟨r124, r125, r126, H, rfl, x131, ex132⟩
   refine LP_ev ok 2 [(28, I (wr (40 + r124))), (8, I (wr (40 + r124)))] 4 rfl rfl ?_
   refine LP_end _ rfl ?_
   refine W_block ?_
   have f154 := f120.mono ((X26.step x97 (DomLe.dom D single_dom)).step x106 (DomLe.dom D single_dom)).size
   have ex157 := ((ex16.but x97 d25.symm).but x106 (Dj.box d25.symm))
   obtain ⟨J151, m152, Hx153, H⟩ := H
   refine W_loop (S := (List Edit)) (fun s ρ' w' => J151 s ∧ ∃ (ρ : Env) (vx134 : Value) (hx135 : PH), ρ' = setAll [(5, vx134), (7, pb b116), (8, I (wr (40 + r124)))] ρ ∧ But (bx b 59 [sl a c.Code c1, I c.At, .int .u64 c.Seed]) w w' ∧ OD hx135 vx134 s ∧ Sub hx135 w' ∧ Fresh w.heap.size hx135 ∧ Sub hx w' ∧ Sub (bx b 59 [sl a c.Code c1, I r125, .int .u64 r126]) w' ∧ Sub hx108 w' ∧ Sub (bx b116 79 [sl a114 r100.Sets c115]) w' ∧ Dj hx135 hx ∧ Dj hx135 (bx b 59 [sl a c.Code c1, I r125, .int .u64 r126]) ∧ Dj hx135 hx108 ∧ Dj hx135 (bx b116 79 [sl a114 r100.Sets c115])) (fun s => m152 s) l ⟨Hx153, _, sl a20 l c21, hx15, env_eq ⟨rfl, rfl, rfl, trivial⟩, (((((X26.step x97 (DomLe.dom D single_dom)).step x106 (DomLe.dom D single_dom)).stepx x118).step y123 (f154.dom _)).step x131 (DomLe.dom D single_dom)), o, (((((ex16.but x97 d25.symm).but x106 (Dj.box d25.symm)).ext x118).but y123 (Dj.of_fresh ex157 f120).symm).but x131 (Dj.box d25.symm)), f, (ex128.but x131 (Dj.box d)), ex132, (((ex110.ext x118).but y123 (Dj.of_fresh ex110 f120).symm).but x131 d113.symm), (ex122.but x131 (Dj.box (Dj.of_fresh ex112 f120).symm).symm), d23, (Dj.box d25.symm).symm, (Dj.of_fresh (ex16.but x97 d25.symm) f111), (Dj.box (Dj.of_fresh ex157 f120).symm).symm⟩ ?_
   rintro l133 _ wx139 ⟨Hi, ρ, vx134, hx135, rfl, HF⟩
   revert HF
   refine bb9 fun X150 o136 ex137 f138 ex140 ex141 ex142 ex143 => ?_
   refine bb4 fun d146 d147 d148 d149 => ?_
   have H := H l133 Hi
   obtain ⟨a144, c145, rfl⟩ := o136.shape
   refine W_seq ?_
   refine W_seq (W_region ?_)
   refine LP_ev ok 0 [(29, sl a144 l133 c145), (30, I (ln l133)), (31, I (wr (40 + r124))), (32, .bool (decide ((ln l133) < (wr (40 + r124)))))] 4 rfl rfl ?_
   refine LP_end _ rfl ?_
   refine W_cond (decide ((ln l133) < (wr (40 + r124)))) rfl (fun hc164 => ?_) (fun hc164 => ?_)
   ·have H := H.1 hc164
    refine W_skip ?_
    refine W_block ?_
    refine W_region ?_
    refine LP_ev ok 0 [(33, sl a144 l133 c145), (34, pb b116)] 2 rfl rfl ?_
    refine LP_ldbox 2 (v := sl a114 r100.Sets c115) rfl rfl rfl ti_25 ag_25 (fun _ => rfl) rfl ex143 rfl rfl ?_
    refine LP_call 3 rfl rfl rfl cal_87 rfl (spec_l1Own_w _ _ H wx139 o109.readf ex142) ?_
    rintro _ wx166 ⟨r165, vx168, hx169, H, rfl, x167, o170, ex171, f172⟩
    obtain ⟨a173, c174, rfl⟩ := o170.shape
    refine LP_ev ok 4 [(37, .agg #[sl a173 r165 c174])] 5 rfl rfl ?_
    have rv175 : RVO hx169 (.agg #[sl a173 r165 c174]) ((Edit.mk r165) : Edit) := ⟨_, ⟨_, rfl, (OS.od o170)⟩, rfl⟩
    refine LP_litD (α := Edit) 5 (vs := [.agg #[sl a173 r165 c174]]) (xs := [((Edit.mk r165) : Edit)]) rfl rfl rfl Try.underlying24 ti_79 rfl rfl (allO.one rv175) ex171 rfl rfl fun hx176 vx177 wx178 x179 o180 ex181 dm182 => ?_
    obtain ⟨a183, c184, rfl⟩ := o180.shape
    have xc := (x167.trans x179)
    obtain ⟨hb187, H⟩ := H
    refine LP_appendD (α := Edit) 6 rfl rfl rfl Try.underlying24 ti_79 rfl rfl rfl o136 (ex137.ext xc) o180 ex181 (DomLe.dj dm182 (Dj.of_fresh ex137 f172).symm (ex137.ext x167)).symm (by first | omega | (simp only [ln] at *; omega)) (by first | omega | (simp only [ln] at *; omega)) fun hx188 vx189 wx190 hw191 o192 ex193 y194 dh195 dm196 => ?_
    obtain ⟨a197, c198, rfl⟩ := o192.shape
    refine LP_ev ok 7 [(5, .slice a197 (List.length (l133 ++ ([((Edit.mk r165) : Edit)]))) c198)] 8 rfl rfl ?_
    refine LP_end _ rfl ?_
    have f200 := f172.mono X150.size
    have X202 := (X150.stepx x167)
    have f201 := DomLe.fresh dm182 f200 X202.size
    have f203 := DomLe.fresh dm196 (Fresh.un f138 f201) (X202.stepx x179).size
    have ex209 := (ex140.ext x167)
    have ex211 := (ex141.ext x167)
    have ex213 := (ex142.ext x167)
    have ex215 := (ex143.ext x167)
    exact ⟨l133 ++ ([((Edit.mk r165) : Edit)]), ⟨H.1, _, .slice a197 (List.length (l133 ++ ([((Edit.mk r165) : Edit)]))) c198, hx188, env_eq ⟨rfl, rfl, rfl, trivial⟩, ((X150.stepx xc).step (But.dom y194 dh195) (f138.dom _)), o192, ex193, f203, ((ex140.ext xc).but (But.dom y194 dh195) d146), ((ex141.ext xc).but (But.dom y194 dh195) d147), ((ex142.ext xc).but (But.dom y194 dh195) d148), ((ex143.ext xc).but (But.dom y194 dh195) d149), (DomLe.dj dm196 (Dj.un_l d146 (DomLe.dj dm182 (Dj.of_fresh ex140 f172).symm ex209)) (ex209.ext x179)), (DomLe.dj dm196 (Dj.un_l d147 (DomLe.dj dm182 (Dj.of_fresh ex141 f172).symm ex211)) (ex211.ext x179)), (DomLe.dj dm196 (Dj.un_l d148 (DomLe.dj dm182 (Dj.of_fresh ex142 f172).symm ex213)) (ex213.ext x179)), (DomLe.dj dm196 (Dj.un_l d149 (DomLe.dj dm182 (Dj.of_fresh ex143 f172).symm ex215)) (ex215.ext x179))⟩, H.2⟩
   have H := H.2 hc164
   refine W_exit ?_
   refine (if_pos rfl).mpr ?_
   exact ⟨(l133, r125, r126), H, _, sl a144 l133 c145, hx135, env_eq ⟨rfl, trivial⟩, X150, o136, ex137, f138, ex140, ex141, d146, d147⟩
  have H := H.2 hc99
  exact W_skip ⟨(l, r94, r95), H, _, sl a20 l c21, hx15, env_eq ⟨rfl, trivial⟩, (X26.step x97 (DomLe.dom D single_dom)), o, (ex16.but x97 d25.symm), f, (ex18.but x97 (Dj.box d)), ex98, d23, (Dj.box d25.symm).symm⟩
 rintro ⟨l76, atx82, seed83⟩ _ wx84 ⟨H, ρ, vx77, hx78, rfl, HF⟩
 revert HF
 refine bb8 fun X91 o79 ex80 f81 ex85 ex88 d89 d90 => ?_
 subst hk
 obtain ⟨a86, c87, rfl⟩ := o79.shape
 refine W_seq (W_region ?_)
 refine LP_ev ok 0 [(40, sl a86 l76 c87), (4, sl a86 l76 c87)] 2 rfl rfl ?_
 refine LP_end _ rfl (W_ret ?_)
 exact ⟨_, Ret_of [sl a86 l76 c87] ⟨⟨rfl, rfl⟩, trivial⟩, _, _, _, _, _, H, rfl, X91, o79, ex80, f81, ex88, d90⟩

theorem spec_l1Cur_weights_w (c : L1Cur) (sx : List Variable) (Q : (List Int) → Int → Int → Prop) (H : spec_l1Cur_weights c sx Q) (w : World) {vx : Value} {hx : PH} (r : RS hx vx c.Code) (ex : Sub hx w) {b : Nat} (ex2 : Sub (bx b 59 [vx, I c.At, .int .u64 c.Seed]) w) {vx3 : Value} {hx4 : PH} (r5 : RS hx4 vx3 sx) (ex6 : Sub hx4 w) (d : Dj (bx b 59 [vx, I c.At, .int .u64 c.Seed]) hx) (d9 : Dj (bx b 59 [vx, I c.At, .int .u64 c.Seed]) hx4) :
  CallsTo Try.prog 71 #[pb b, vx3] w fun v w' => ∃ r0 m1_0 m1_1 u0 g0, Q r0 m1_0 m1_1 ∧ v = u0 ∧ But (bx b 59 [vx, I c.At, .int .u64 c.Seed]) w w' ∧ OS 3 g0 emp u0 r0 ∧ Sub g0 w' ∧ Fresh w.heap.size g0 ∧ Sub (bx b 59 [vx, I m1_0, .int .u64 m1_1]) w' ∧ Dj g0 (bx b 59 [vx, I m1_0, .int .u64 m1_1]) := by
 obtain ⟨a, c1, rfl⟩ := r.shape
 obtain ⟨a7, c8, rfl⟩ := r5.shape
 refine enter (args := [pb b, sl a7 sx c8]) 35 Try.func71 rfl rfl rfl ?_
 refine W_forget [(0, pb b), (1, sl a7 sx c8)] ⟨rfl, rfl, trivial⟩ fun ρ => ?_
 have D : Dom (bx b 59 [sl a c.Code c1, I c.At, .int .u64 c.Seed]) (bx b 59 [sl a c.Code c1, I c.At, .int .u64 c.Seed]) := (Dom.refl _)
 have X := But.refl (bx b 59 [sl a c.Code c1, I c.At, .int .u64 c.Seed]) w
 refine W_seq (W_region ?_)
 refine LP_ev ok 0 [(4, .slice none 0 0)] 1 rfl rfl ?_
 refine LP_end _ rfl (W_seq (W_region ?_))
 refine LP_ev ok 0 [(5, .slice none 0 0)] 1 rfl rfl ?_
 refine LP_end _ rfl (W_seq ?_)
 refine W_seq (W_region ?_)
 refine LP_ev ok 0 [(6, sl a7 sx c8), (7, I (ln sx)), (8, I 0)] 3 rfl rfl ?_
 refine LP_end _ rfl ?_
 refine W_block ?_
 obtain ⟨J, m, Hx, H⟩ := H
 refine W_loop (S := (List Int) × Int × Int × Int) (fun s ρ' w' => J s.1 s.2.1 s.2.2.1 s.2.2.2 ∧ ∃ (ρ : Env) (vx10 : Value) (hx11 : PH), ρ' = setAll [(0, pb b), (5, vx10), (7, I (ln sx)), (8, I s.2.1)] ρ ∧ But (bx b 59 [sl a c.Code c1, I c.At, .int .u64 c.Seed]) w w' ∧ OS 3 hx11 emp vx10 s.1 ∧ Sub hx11 w' ∧ Fresh w.heap.size hx11 ∧ Sub hx w' ∧ Sub (bx b 59 [sl a c.Code c1, I s.2.2.1, .int .u64 s.2.2.2]) w' ∧ Dj hx11 hx ∧ Dj hx11 (bx b 59 [sl a c.Code c1, I s.2.2.1, .int .u64 s.2.2.2])) (fun s => m s.1 s.2.1 s.2.2.1 s.2.2.2) ([], 0, c.At, c.Seed) ⟨Hx, _, .slice none 0 0, emp, env_eq ⟨rfl, rfl, rfl, rfl, trivial⟩, X, OS.nil, (emp_sub _), (emp_fresh _), ex, ex2, (fun _ => .inl rfl), (fun _ => .inl rfl)⟩ ?_
 rintro ⟨out, x, atx, seed⟩ _ wx ⟨Hi, ρ, vx10, hx11, rfl, HF⟩
 revert HF
 refine bb8 fun X19 o ex12 f ex13 ex16 d17 d18 => ?_
 have H := H out x atx seed Hi
 obtain ⟨a14, c15, rfl⟩ := o.shape
 refine W_seq (W_region ?_)
 refine LP_ev ok 0 [(9, .bool (decide (x < (ln sx))))] 1 rfl rfl ?_
 refine LP_end _ rfl (W_seq ?_)
 refine W_cond (decide (x < (ln sx))) rfl (fun hc => ?_) (fun hc => ?_)
 ·have H := H.1 hc
  refine W_skip ?_
  refine W_seq ?_
  refine W_block ?_
  refine W_region ?_
  refine LP_ev ok 0 [(10, sl a14 out c15), (11, pb b)] 2 rfl rfl ?_
  refine LP_call 2 rfl rfl rfl cal_74 rfl (spec_l1Cur_pick_w _ _ _ H wx r ex13 ex16 (Dj.box d)) ?_
  rintro _ wx23 ⟨r20, r21, r22, H, rfl, x24, ex25⟩
  refine LP_ev ok 3 [(13, I (wr (1 + r20)))] 4 rfl rfl ?_
  refine LP_lit (α := Int) (g := emp) 4 (vs := [I (wr (1 + r20))]) (xs := [wr (1 + r20)]) rfl rfl rfl Try.underlying25 ti_3 rfl rfl ⟨⟨_, rfl, rfl⟩, trivial⟩ rfl rfl fun hx26 vx27 wx28 x29 o30 ex31 f32 => ?_
  obtain ⟨a33, c34, rfl⟩ := o30.shape
  obtain ⟨hb, H⟩ := H
  refine LP_appendf (α := Int) 5 rfl rfl rfl Try.underlying25 ti_3 rfl rfl rfl o ((ex12.but x24 d18.symm).ext x29) o30.readf ex31 (by first | omega | (simp only [ln] at *; omega)) (by first | omega | (simp only [ln] at *; omega)) fun hx36 vx37 wx38 o39 ex40 y dm => ?_
  obtain ⟨a41, c42, rfl⟩ := o39.shape
  refine LP_ev ok 6 [(5, .slice a41 (List.length (out ++ ([wr (1 + r20)]))) c42)] 7 rfl rfl ?_
  refine LP_end _ rfl ?_
  refine W_region ?_
  refine LP_ev ok 0 [(16, I (wr (x + 1))), (8, I (wr (x + 1)))] 2 rfl rfl ?_
  refine LP_end _ rfl ?_
  have f44 := dm.fresh f ((X19.step x24 (DomLe.dom D single_dom)).stepx x29).size
  exact ⟨(out ++ ([wr (1 + r20)]), wr (x + 1), r21, r22), ⟨H.1, _, .slice a41 (List.length (out ++ ([wr (1 + r20)]))) c42, hx36, env_eq ⟨rfl, rfl, rfl, rfl, trivial⟩, (((X19.step x24 (DomLe.dom D single_dom)).stepx x29).step y (f.dom _)), o39, ex40, f44, (((ex13.but x24 (Dj.box d)).ext x29).but y d17), ((ex25.ext x29).but y (Dj.box d18.symm).symm), (DomLe.dj dm d17 ((ex13.but x24 (Dj.box d)).ext x29)), (DomLe.dj dm (Dj.box d18.symm).symm (ex25.ext x29))⟩, H.2⟩
 have H := H.2 hc
 refine W_exit ?_
 refine (if_pos rfl).mpr ?_
 obtain ⟨k, hk, H⟩ := jn_elim H
 refine W_join2 (S := (List Int) × Int × Int) (fun s ρ' w' => k s.1 s.2.1 s.2.2 ∧ ∃ (ρ : Env) (vx51 : Value) (hx52 : PH), ρ' = setAll [(5, vx51)] ρ ∧ But (bx b 59 [sl a c.Code c1, I c.At, .int .u64 c.Seed]) w w' ∧ OS 3 hx52 emp vx51 s.1 ∧ Sub hx52 w' ∧ Fresh w.heap.size hx52 ∧ Sub hx w' ∧ Sub (bx b 59 [sl a c.Code c1, I s.2.1, .int .u64 s.2.2]) w' ∧ Dj hx52 hx ∧ Dj hx52 (bx b 59 [sl a c.Code c1, I s.2.1, .int .u64 s.2.2])) ?_ ?_
 ·refine W_seq (W_region ?_)
  refine LP_ev ok 0 [(17, pb b)] 1 rfl rfl ?_
  refine LP_call 1 rfl rfl rfl cal_74 rfl (spec_l1Cur_pick_w _ _ _ H wx r ex13 ex16 (Dj.box d)) ?_
  rintro _ wx69 ⟨r66, r67, r68, H, rfl, x70, ex71⟩
  refine LP_end _ rfl ?_
  refine W_block ?_
  refine W_seq (W_region ?_)
  refine LP_ev ok 0 [(20, .bool (r66 == 0)), (19, .bool (r66 == 0))] 2 rfl rfl ?_
  refine LP_end _ rfl ?_
  refine W_cond (r66 == 0) rfl (fun hc72 => ?_) (fun hc72 => ?_)
  ·have H := H.1 hc72
   refine W_region ?_
   refine LP_ev ok 0 [(21, sl a14 out c15)] 1 rfl rfl ?_
   refine LP_lit (α := Int) (g := emp) 1 (vs := [I 1]) (xs := [1]) rfl rfl rfl Try.underlying25 ti_3 rfl rfl ⟨⟨_, rfl, rfl⟩, trivial⟩ rfl rfl fun hx73 vx74 wx75 x76 o77 ex78 f79 => ?_
   obtain ⟨a80, c81, rfl⟩ := o77.shape
   obtain ⟨hb83, H⟩ := H
   refine LP_appendf (α := Int) 2 rfl rfl rfl Try.underlying25 ti_3 rfl rfl rfl o ((ex12.but x70 d18.symm).ext x76) o77.readf ex78 (by first | omega | (simp only [ln] at *; omega)) (by first | omega | (simp only [ln] at *; omega)) fun hx84 vx85 wx86 o87 ex88 y89 dm90 => ?_
   obtain ⟨a91, c92, rfl⟩ := o87.shape
   refine LP_ev ok 3 [(5, .slice a91 (List.length (out ++ ([1]))) c92)] 4 rfl rfl ?_
   refine LP_end _ rfl ?_
   have f94 := dm90.fresh f ((X19.step x70 (DomLe.dom D single_dom)).stepx x76).size
   exact ⟨(out ++ ([1]), r67, r68), H, _, .slice a91 (List.length (out ++ ([1]))) c92, hx84, env_eq ⟨rfl, trivial⟩, (((X19.step x70 (DomLe.dom D single_dom)).stepx x76).step y89 (f.dom _)), o87, ex88, f94, (((ex13.but x70 (Dj.box d)).ext x76).but y89 d17), ((ex71.ext x76).but y89 (Dj.box d18.symm).symm), (DomLe.dj dm90 d17 ((ex13.but x70 (Dj.box d)).ext x76)), (DomLe.dj dm90 (Dj.box d18.symm).symm (ex71.ext x76))⟩
  have H := H.2 hc72
  refine W_seq (W_region ?_)
  refine LP_ev ok 0 [(25, .bool (r66 == 1)), (24, .bool (r66 == 1))] 2 rfl rfl ?_
  refine LP_end _ rfl ?_
  refine W_cond (r66 == 1) rfl (fun hc100 => ?_) (fun hc100 => ?_)
  ·have H := H.1 hc100
   refine W_seq (W_region ?_)
   refine LP_ev ok 0 [(26, sl a14 out c15), (27, I (ln out)), (28, .bool (decide ((ln out) > 0)))] 3 rfl rfl ?_
   refine LP_end _ rfl ?_
   refine W_cond (decide ((ln out) > 0)) rfl (fun hc101 => ?_) (fun hc101 => ?_)
   ·have H := H.1 hc101
    refine W_region ?_
    refine LP_ev ok 0 [(29, sl a14 out c15), (30, pb b)] 2 rfl rfl ?_
    refine LP_lit (α := Int) (g := emp) 2 (vs := [I 0, I 100, I 101]) (xs := [0, 100, 101]) rfl rfl rfl Try.underlying25 ti_3 rfl rfl ⟨⟨_, rfl, rfl⟩, ⟨_, rfl, rfl⟩, ⟨_, rfl, rfl⟩, trivial⟩ rfl rfl fun hx102 vx103 wx104 x105 o106 ex107 f108 => ?_
    obtain ⟨a109, c110, rfl⟩ := o106.shape
    have ex114 := ((ex13.but x70 (Dj.box d)).ext x105)
    refine LP_call 3 rfl rfl rfl cal_75 rfl (spec_l1Cur_among_w _ _ _ H wx104 r ex114 (ex71.ext x105) o106.readf ex107 (Dj.box d) (Dj.of_fresh ex71 f108)) ?_
    rintro _ wx116 ⟨r111, r112, r113, H, rfl, x117, ex118⟩
    obtain ⟨hi, hl, H⟩ := H
    refine LP_indexw (v := sl a14 out c15) 4 rfl rfl rfl Try.underlying25 ti_3 rfl rfl o hi hl fun a119 wa => ?_
    refine LP_set 5 rfl rfl rfl rfl rfl wa (Le.refl emp) ⟨_, rfl, rfl⟩ (((ex12.but x70 d18.symm).ext x105).but x117 (Dj.box d18.symm)) fun hx120 wx121 o122 ex123 y124 dm125 => ?_
    refine LP_end _ rfl ?_
    have f128 := (dm125 _).fresh f (((X19.step x70 (DomLe.dom D single_dom)).stepx x105).step x117 (DomLe.dom D single_dom)).size
    exact ⟨(List.set out (Int.toNat 0) r111, r112, r113), H, _, sl a14 out c15, hx120, env_eq ⟨rfl, trivial⟩, ((((X19.step x70 (DomLe.dom D single_dom)).stepx x105).step x117 (DomLe.dom D single_dom)).step y124 (f.dom _)), o122, ex123, f128, ((ex114.but x117 (Dj.box d)).but y124 d17), (ex118.but y124 (Dj.box d18.symm).symm), (DomLe.dj (dm125 _) d17 (ex114.but x117 (Dj.box d))), (DomLe.dj (dm125 _) (Dj.box d18.symm).symm ex118)⟩
   have H := H.2 hc101
   exact W_skip ⟨(out, r67, r68), H, _, sl a14 out c15, hx11, env_eq ⟨rfl, trivial⟩, (X19.step x70 (DomLe.dom D single_dom)), o, (ex12.but x70 d18.symm), f, (ex13.but x70 (Dj.box d)), ex71, d17, (Dj.box d18.symm).symm⟩
  have H := H.2 hc100
  exact W_skip ⟨(out, r67, r68), H, _, sl a14 out c15, hx11, env_eq ⟨rfl, trivial⟩, (X19.step x70 (DomLe.dom D single_dom)), o, (ex12.but x70 d18.symm), f, (ex13.but x70 (Dj.box d)), ex71, d17, (Dj.box d18.symm).symm⟩
 rintro ⟨out50, atx56, seed57⟩ _ wx58 ⟨H, ρ, vx51, hx52, rfl, HF⟩
 revert HF
 refine bb8 fun X65 o53 ex54 f55 ex59 ex62 d63 d64 => ?_
 subst hk
 obtain ⟨a60, c61, rfl⟩ := o53.shape
 refine W_seq (W_region ?_)
 refine LP_ev ok 0 [(34, sl a60 out50 c61), (4, sl a60 out50 c61)] 2 rfl rfl ?_
 refine LP_end _ rfl (W_ret ?_)
 exact ⟨_, Ret_of [sl a60 out50 c61] ⟨⟨rfl, rfl⟩, trivial⟩, _, _, _, _, _, H, rfl, X65, o53, ex54, f55, ex62, d64⟩

theorem spec_l1Cur_values_w (c : L1Cur) (sx : List Variable) (Q : (List Int) → Int → Int → Prop) (H : spec_l1Cur_values c sx Q) (w : World) {vx : Value} {hx : PH} (r : RS hx vx c.Code) (ex : Sub hx w) {b : Nat} (ex2 : Sub (bx b 59 [vx, I c.At, .int .u64 c.Seed]) w) {vx3 : Value} {hx4 : PH} (r5 : RS hx4 vx3 sx) (ex6 : Sub hx4 w) (d : Dj (bx b 59 [vx, I c.At, .int .u64 c.Seed]) hx) (d9 : Dj (bx b 59 [vx, I c.At, .int .u64 c.Seed]) hx4) :
  CallsTo Try.prog 76 #[pb b, vx3] w fun v w' => ∃ r0 m1_0 m1_1 u0 g0, Q r0 m1_0 m1_1 ∧ v = u0 ∧ But (bx b 59 [vx, I c.At, .int .u64 c.Seed]) w w' ∧ OS 3 g0 emp u0 r0 ∧ Sub g0 w' ∧ Fresh w.heap.size g0 ∧ Sub (bx b 59 [vx, I m1_0, .int .u64 m1_1]) w' ∧ Dj g0 (bx b 59 [vx, I m1_0, .int .u64 m1_1]) := by
 obtain ⟨a, c1, rfl⟩ := r.shape
 obtain ⟨a7, c8, rfl⟩ := r5.shape
 refine enter (args := [pb b, sl a7 sx c8]) 23 Try.func76 rfl rfl rfl ?_
 refine W_forget [(0, pb b), (1, sl a7 sx c8)] ⟨rfl, rfl, trivial⟩ fun ρ => ?_
 have D : Dom (bx b 59 [sl a c.Code c1, I c.At, .int .u64 c.Seed]) (bx b 59 [sl a c.Code c1, I c.At, .int .u64 c.Seed]) := (Dom.refl _)
 have X := But.refl (bx b 59 [sl a c.Code c1, I c.At, .int .u64 c.Seed]) w
 refine W_seq (W_region ?_)
 refine LP_ev ok 0 [(4, .slice none 0 0)] 1 rfl rfl ?_
 refine LP_end _ rfl (W_seq (W_region ?_))
 refine LP_ev ok 0 [(5, .slice none 0 0)] 1 rfl rfl ?_
 refine LP_end _ rfl (W_seq ?_)
 refine W_seq (W_region ?_)
 refine LP_ev ok 0 [(8, sl a7 sx c8), (9, I (ln sx)), (10, I 0)] 3 rfl rfl ?_
 refine LP_end _ rfl ?_
 refine W_block ?_
 obtain ⟨J, m, Hx, H⟩ := H
 refine W_loop (S := (List Int) × Int × Int × Int) (fun s ρ' w' => J s.1 s.2.1 s.2.2.1 s.2.2.2 ∧ ∃ (ρ : Env) (vx10 : Value) (hx11 : PH), ρ' = setAll [(0, pb b), (5, vx10), (8, sl a7 sx c8), (9, I (ln sx)), (10, I s.2.1)] ρ ∧ But (bx b 59 [sl a c.Code c1, I c.At, .int .u64 c.Seed]) w w' ∧ OS 3 hx11 emp vx10 s.1 ∧ Sub hx11 w' ∧ Fresh w.heap.size hx11 ∧ Sub hx w' ∧ Sub hx4 w' ∧ Sub (bx b 59 [sl a c.Code c1, I s.2.2.1, .int .u64 s.2.2.2]) w' ∧ Dj hx11 hx ∧ Dj hx11 hx4 ∧ Dj hx11 (bx b 59 [sl a c.Code c1, I s.2.2.1, .int .u64 s.2.2.2])) (fun s => m s.1 s.2.1 s.2.2.1 s.2.2.2) ([], 0, c.At, c.Seed) ⟨Hx, _, .slice none 0 0, emp, env_eq ⟨rfl, rfl, rfl, rfl, rfl, trivial⟩, X, OS.nil, (emp_sub _), (emp_fresh _), ex, ex6, ex2, (fun _ => .inl rfl), (fun _ => .inl rfl), (fun _ => .inl rfl)⟩ ?_
 rintro ⟨out, x, atx, seed⟩ _ wx ⟨Hi, ρ, vx10, hx11, rfl, HF⟩
 revert HF
 refine bb9 fun X21 o ex12 f ex13 ex14 ex17 d18 => ?_
 refine bb2 fun d19 d20 => ?_
 have H := H out x atx seed Hi
 obtain ⟨a15, c16, rfl⟩ := o.shape
 refine W_seq (W_region ?_)
 refine LP_ev ok 0 [(11, .bool (decide (x < (ln sx))))] 1 rfl rfl ?_
 refine LP_end _ rfl (W_seq ?_)
 refine W_cond (decide (x < (ln sx))) rfl (fun hc => ?_) (fun hc => ?_)
 ·have H := H.1 hc
  refine W_skip ?_
  refine W_seq ?_
  refine W_block ?_
  refine W_seq (W_region ?_)
  obtain ⟨x22, hi, hx23, H⟩ := H
  refine LP_index 0 rfl rfl rfl Try.underlying23 ti_90 rfl rfl r5 hi hx23 fun a24 cs r25 d26 => ?_
  refine LP_load 1 rfl rfl rfl ti_90 ag_90 rfl r25 d26 ex14 fun vx27 r28 => ?_
  obtain rfl := Variable_rv r28
  refine LP_alloc 2 rfl rfl rfl ti_90 rfl fun b29 wx30 x31 ex32 f33 => ?_
  refine LP_stbox 3 (vs := [.string x22.Name, I x22.Levels]) (cs' := [.string x22.Name, I x22.Levels]) rfl rfl rfl ti_90 rfl rfl rfl rfl rfl ex32 rfl rfl fun wx34 ex35 y => ?_
  refine LP_end _ rfl ?_
  refine W_region ?_
  refine LP_ev ok 0 [(14, sl a15 out c16), (15, pb b), (16, .pointer (some ⟨b29, 1, none⟩))] 3 rfl rfl ?_
  refine LP_ldbox 3 (v := I x22.Levels) rfl rfl rfl ti_3 ag_3 (fun _ => rfl) rfl ex35 rfl rfl ?_
  have ex39 := ((ex13.ext x31).but y (Dj.of_fresh ex13 f33).symm)
  refine LP_call 4 rfl rfl rfl cal_74 rfl (spec_l1Cur_pick_w _ _ _ H wx34 r ex39 ((ex17.ext x31).but y (Dj.of_fresh ex17 f33).symm) (Dj.box d)) ?_
  rintro _ wx41 ⟨r36, r37, r38, H, rfl, x42, ex43⟩
  refine LP_lit (α := Int) (g := emp) 5 (vs := [I r36]) (xs := [r36]) rfl rfl rfl Try.underlying25 ti_3 rfl rfl ⟨⟨_, rfl, rfl⟩, trivial⟩ rfl rfl fun hx44 vx45 wx46 x47 o48 ex49 f50 => ?_
  obtain ⟨a51, c52, rfl⟩ := o48.shape
  obtain ⟨hb, H⟩ := H
  refine LP_appendf (α := Int) 6 rfl rfl rfl Try.underlying25 ti_3 rfl rfl rfl o ((((ex12.ext x31).but y (Dj.of_fresh ex12 f33).symm).but x42 d20.symm).ext x47) o48.readf ex49 (by first | omega | (simp only [ln] at *; omega)) (by first | omega | (simp only [ln] at *; omega)) fun hx54 vx55 wx56 o57 ex58 y59 dm => ?_
  obtain ⟨a60, c61, rfl⟩ := o57.shape
  refine LP_ev ok 7 [(5, .slice a60 (List.length (out ++ ([r36]))) c61)] 8 rfl rfl ?_
  refine LP_end _ rfl ?_
  refine W_region ?_
  refine LP_ev ok 0 [(21, I (wr (x + 1))), (10, I (wr (x + 1)))] 2 rfl rfl ?_
  refine LP_end _ rfl ?_
  have f62 := f33.mono X21.size
  have f64 := dm.fresh f ((((X21.stepx x31).step y (f62.dom _)).step x42 (DomLe.dom D single_dom)).stepx x47).size
  exact ⟨(out ++ ([r36]), wr (x + 1), r37, r38), ⟨H.1, _, .slice a60 (List.length (out ++ ([r36]))) c61, hx54, env_eq ⟨rfl, rfl, rfl, rfl, rfl, trivial⟩, (((((X21.stepx x31).step y (f62.dom _)).step x42 (DomLe.dom D single_dom)).stepx x47).step y59 (f.dom _)), o57, ex58, f64, (((ex39.but x42 (Dj.box d)).ext x47).but y59 d18), (((((ex14.ext x31).but y (Dj.of_fresh ex14 f33).symm).but x42 (Dj.box d9)).ext x47).but y59 d19), ((ex43.ext x47).but y59 (Dj.box d20.symm).symm), (DomLe.dj dm d18 ((ex39.but x42 (Dj.box d)).ext x47)), (DomLe.dj dm d19 ((((ex14.ext x31).but y (Dj.of_fresh ex14 f33).symm).but x42 (Dj.box d9)).ext x47)), (DomLe.dj dm (Dj.box d20.symm).symm (ex43.ext x47))⟩, H.2⟩
 have H := H.2 hc
 refine W_exit ?_
 refine (if_pos rfl).mpr ?_
 refine W_seq (W_region ?_)
 refine LP_ev ok 0 [(22, sl a15 out c16), (4, sl a15 out c16)] 2 rfl rfl ?_
 refine LP_end _ rfl (W_ret ?_)
 exact ⟨_, Ret_of [sl a15 out c16] ⟨⟨rfl, rfl⟩, trivial⟩, _, _, _, _, _, H, rfl, X21, o, ex12, f, ex17, d20⟩

theorem spec_l1Cur_anyValues_w (c : L1Cur) (sx : List Variable) (Q : (List Int) → Int → Int → Prop) (H : spec_l1Cur_anyValues c sx Q) (w : World) {vx : Value} {hx : PH} (r : RS hx vx c.Code) (ex : Sub hx w) {b : Nat} (ex2 : Sub (bx b 59 [vx, I c.At, .int .u64 c.Seed]) w) {vx3 : Value} {hx4 : PH} (r5 : RS hx4 vx3 sx) (ex6 : Sub hx4 w) (d : Dj (bx b 59 [vx, I c.At, .int .u64 c.Seed]) hx) (d9 : Dj (bx b 59 [vx, I c.At, .int .u64 c.Seed]) hx4) :
  CallsTo Try.prog 72 #[pb b, vx3] w fun v w' => ∃ r0 m1_0 m1_1 u0 g0, Q r0 m1_0 m1_1 ∧ v = u0 ∧ But (bx b 59 [vx, I c.At, .int .u64 c.Seed]) w w' ∧ OS 3 g0 emp u0 r0 ∧ Sub g0 w' ∧ Fresh w.heap.size g0 ∧ Sub (bx b 59 [vx, I m1_0, .int .u64 m1_1]) w' ∧ Dj g0 (bx b 59 [vx, I m1_0, .int .u64 m1_1]) := by
 obtain ⟨a, c1, rfl⟩ := r.shape
 obtain ⟨a7, c8, rfl⟩ := r5.shape
 refine enter (args := [pb b, sl a7 sx c8]) 33 Try.func72 rfl rfl rfl ?_
 refine W_forget [(0, pb b), (1, sl a7 sx c8)] ⟨rfl, rfl, trivial⟩ fun ρ => ?_
 have D : Dom (bx b 59 [sl a c.Code c1, I c.At, .int .u64 c.Seed]) (bx b 59 [sl a c.Code c1, I c.At, .int .u64 c.Seed]) := (Dom.refl _)
 have X := But.refl (bx b 59 [sl a c.Code c1, I c.At, .int .u64 c.Seed]) w
 refine W_seq (W_region ?_)
 refine LP_ev ok 0 [(4, .slice none 0 0)] 1 rfl rfl ?_
 refine LP_end _ rfl (W_seq (W_region ?_))
 refine LP_ev ok 0 [(6, pb b), (7, sl a7 sx c8)] 2 rfl rfl ?_
 refine LP_call 2 rfl rfl rfl cal_76 rfl (spec_l1Cur_values_w _ _ _ H w r ex ex2 r5 ex6 d d9) ?_
 rintro _ wx ⟨r10, r11, r12, vx13, hx14, H, rfl, x, HF⟩
 revert HF
 refine bb5 fun o ex15 f ex16 d17 => ?_
 obtain ⟨a18, c19, rfl⟩ := o.shape
 refine LP_ev ok 3 [(5, sl a18 r10 c19)] 4 rfl rfl ?_
 refine LP_end _ rfl ?_
 have X20 := (X.step x (Dom.le D _))
 have ex21 := (ex.but x d)
 have f22 := f.mono X.size
 obtain ⟨k, hk, H⟩ := jn_elim H
 refine W_join2 (S := (List Int) × Int × Int) (fun s ρ' w' => k s.1 s.2.1 s.2.2 ∧ ∃ (ρ : Env) (hx24 : PH), ρ' = setAll [(5, sl a18 r10 c19)] ρ ∧ But (bx b 59 [sl a c.Code c1, I c.At, .int .u64 c.Seed]) w w' ∧ OS 3 hx24 emp (sl a18 r10 c19) s.1 ∧ Sub hx24 w' ∧ Fresh w.heap.size hx24 ∧ Sub hx w' ∧ Sub (bx b 59 [sl a c.Code c1, I s.2.1, .int .u64 s.2.2]) w' ∧ Dj hx24 hx ∧ Dj hx24 (bx b 59 [sl a c.Code c1, I s.2.1, .int .u64 s.2.2])) ?_ ?_
 ·refine W_block ?_
  obtain ⟨k42, hk43, H⟩ := jn_elim H
  refine W_join2 (S := Bool × Int × Int) (fun s ρ' w' => k42 s.1 s.2.1 s.2.2 ∧ ∃ (ρ : Env), ρ' = setAll [(0, pb b), (5, sl a18 r10 c19), (9, .bool s.1)] ρ ∧ But (bx b 59 [sl a c.Code c1, I c.At, .int .u64 c.Seed]) w w' ∧ Sub hx w' ∧ Sub hx14 w' ∧ Sub (bx b 59 [sl a c.Code c1, I s.2.1, .int .u64 s.2.2]) w') ?_ ?_
  ·refine W_region ?_
   refine LP_ev ok 0 [(10, sl a18 r10 c19), (11, I (ln r10)), (12, .bool (decide ((ln r10) > 0))), (13, .bool (decide ((ln r10) > 0)))] 4 rfl rfl ?_
   refine LP_split 13 (decide ((ln r10) > 0)) rfl (fun hc => ?_) (fun hc => ?_)
   ·have H := H.1 hc
    refine LP_ev ok 4 [(14, pb b)] 5 rfl rfl ?_
    refine LP_call 5 rfl rfl rfl cal_68 rfl (spec_l1Cur_one_w _ _ _ H wx r ex21 ex16 (Dj.box d)) ?_
    rintro _ wx47 ⟨r44, r45, r46, H, rfl, x48, ex49⟩
    refine LP_ev ok 6 [(16, .bool r44), (9, .bool r44)] 8 rfl rfl ?_
    exact LP_end _ rfl ⟨(r44, r45, r46), H, _, env_eq ⟨rfl, rfl, rfl, trivial⟩, (X20.step x48 (DomLe.dom D single_dom)), (ex21.but x48 (Dj.box d)), (ex15.but x48 d17.symm), ex49⟩
   have H := H.2 hc
   refine LP_ev ok 4 [(14, undef), (15, undef), (16, .bool false), (9, .bool false)] 8 rfl rfl ?_
   exact LP_end _ rfl ⟨(false, r11, r12), H, _, env_eq ⟨rfl, rfl, rfl, trivial⟩, X20, ex21, ex15, ex16⟩
  rintro ⟨x34, atx35, seed36⟩ _ wx37 ⟨H, ρ, rfl, X41, ex38, ex39, ex40⟩
  subst hk43
  refine W_cond (x34) rfl (fun hc53 => ?_) (fun hc53 => ?_)
  ·have H := H.1 hc53
   refine W_region ?_
   refine LP_ev ok 0 [(17, sl a18 r10 c19), (18, pb b), (19, sl a18 r10 c19), (20, I (ln r10))] 4 rfl rfl ?_
   refine LP_call 4 rfl rfl rfl cal_74 rfl (spec_l1Cur_pick_w _ _ _ H wx37 r ex38 ex40 (Dj.box d)) ?_
   rintro _ wx57 ⟨r54, r55, r56, H, rfl, x58, ex59⟩
   refine LP_ev ok 5 [(22, pb b)] 6 rfl rfl ?_
   refine LP_lit (α := Int) (g := emp) 6 (vs := [I ((-1)), I 2, I 8]) (xs := [(-1), 2, 8]) rfl rfl rfl Try.underlying25 ti_3 rfl rfl ⟨⟨_, rfl, rfl⟩, ⟨_, rfl, rfl⟩, ⟨_, rfl, rfl⟩, trivial⟩ rfl rfl fun hx60 vx61 wx62 x63 o64 ex65 f66 => ?_
   obtain ⟨a67, c68, rfl⟩ := o64.shape
   have ex72 := ((ex38.but x58 (Dj.box d)).ext x63)
   refine LP_call 7 rfl rfl rfl cal_75 rfl (spec_l1Cur_among_w _ _ _ H wx62 r ex72 (ex59.ext x63) o64.readf ex65 (Dj.box d) (Dj.of_fresh ex59 f66)) ?_
   rintro _ wx74 ⟨r69, r70, r71, H, rfl, x75, ex76⟩
   obtain ⟨hi, hl, H⟩ := H
   refine LP_indexw (v := sl a18 r10 c19) 8 rfl rfl rfl Try.underlying25 ti_3 rfl rfl o hi hl fun a77 wa => ?_
   refine LP_set 9 rfl rfl rfl rfl rfl wa (Le.refl emp) ⟨_, rfl, rfl⟩ (((ex39.but x58 (Dj.box d17.symm)).ext x63).but x75 (Dj.box d17.symm)) fun hx78 wx79 o80 ex81 y dm => ?_
   refine LP_end _ rfl ?_
   have f84 := (dm _).fresh f22 (((X41.step x58 (DomLe.dom D single_dom)).stepx x63).step x75 (DomLe.dom D single_dom)).size
   exact ⟨(List.set r10 (Int.toNat r54) r69, r70, r71), H, _, hx78, env_eq ⟨rfl, trivial⟩, ((((X41.step x58 (DomLe.dom D single_dom)).stepx x63).step x75 (DomLe.dom D single_dom)).step y (f22.dom _)), o80, ex81, f84, ((ex72.but x75 (Dj.box d)).but y (Dj.of_fresh ex f).symm), (ex76.but y (Dj.box d17.symm).symm), (DomLe.dj (dm _) (Dj.of_fresh ex f).symm (ex72.but x75 (Dj.box d))), (DomLe.dj (dm _) (Dj.box d17.symm).symm ex76)⟩
  have H := H.2 hc53
  refine W_seq (W_region ?_)
  refine LP_ev ok 0 [(27, pb b)] 1 rfl rfl ?_
  refine LP_call 1 rfl rfl rfl cal_68 rfl (spec_l1Cur_one_w _ _ _ H wx37 r ex38 ex40 (Dj.box d)) ?_
  rintro _ wx92 ⟨r89, r90, r91, H, rfl, x93, ex94⟩
  refine LP_ev ok 2 [(26, .bool r89)] 3 rfl rfl ?_
  refine LP_end _ rfl ?_
  refine W_cond (r89) rfl (fun hc95 => ?_) (fun hc95 => ?_)
  ·have H := H.1 hc95
   refine W_seq (W_region ?_)
   refine LP_ev ok 0 [(29, sl a18 r10 c19)] 1 rfl rfl ?_
   refine LP_lit (α := Int) (g := emp) 1 (vs := [I 0]) (xs := [0]) rfl rfl rfl Try.underlying25 ti_3 rfl rfl ⟨⟨_, rfl, rfl⟩, trivial⟩ rfl rfl fun hx96 vx97 wx98 x99 o100 ex101 f102 => ?_
   obtain ⟨a103, c104, rfl⟩ := o100.shape
   obtain ⟨hb, H⟩ := H
   refine LP_appendf (α := Int) 2 rfl rfl rfl Try.underlying25 ti_3 rfl rfl rfl o ((ex39.but x93 (Dj.box d17.symm)).ext x99) o100.readf ex101 (by first | omega | (simp only [ln] at *; omega)) (by first | omega | (simp only [ln] at *; omega)) fun hx106 vx107 wx108 o109 ex110 y111 dm112 => ?_
   obtain ⟨a113, c114, rfl⟩ := o109.shape
   refine LP_ev ok 3 [(4, .slice a113 (List.length (r10 ++ ([0]))) c114)] 4 rfl rfl ?_
   refine LP_end _ rfl (W_ret ?_)
   have X116 := ((X41.step x93 (DomLe.dom D single_dom)).stepx x99)
   have f115 := dm112.fresh f22 X116.size
   exact ⟨_, Ret_of [.slice a113 (List.length (r10 ++ ([0]))) c114] ⟨⟨rfl, rfl⟩, trivial⟩, _, _, _, _, _, H, rfl, (X116.step y111 (f22.dom _)), o109, ex110, f115, ((ex94.ext x99).but y111 (Dj.box d17.symm).symm), (DomLe.dj dm112 (Dj.box d17.symm).symm (ex94.ext x99))⟩
  have H := H.2 hc95
  exact W_skip ⟨(r10, r90, r91), H, _, hx14, env_eq ⟨rfl, trivial⟩, (X41.step x93 (DomLe.dom D single_dom)), o, (ex39.but x93 (Dj.box d17.symm)), f22, (ex38.but x93 (Dj.box d)), ex94, (Dj.of_fresh ex f).symm, (Dj.box d17.symm).symm⟩
 rintro ⟨out, atx, seed⟩ _ wx28 ⟨H, ρ, hx24, rfl, HF⟩
 revert HF
 refine bb8 fun X33 o25 ex26 f27 ex29 ex30 d31 d32 => ?_
 subst hk
 refine W_seq (W_region ?_)
 refine LP_ev ok 0 [(32, sl a18 r10 c19), (4, sl a18 r10 c19)] 2 rfl rfl ?_
 refine LP_end _ rfl (W_ret ?_)
 exact ⟨_, Ret_of [sl a18 r10 c19] ⟨⟨rfl, rfl⟩, trivial⟩, _, _, _, _, _, H, rfl, X33, o25, ex26, f27, ex30, d32⟩

theorem spec_l1Cur_mended_w (c : L1Cur) (Q : (List Variable) → (List Edit) → (List Int) → (List Int) → Int → Int → Prop) (H : spec_l1Cur_mended c Q) (w : World) {vx : Value} {hx : PH} (r : RS hx vx c.Code) (ex : Sub hx w) {b : Nat} (ex2 : Sub (bx b 59 [vx, I c.At, .int .u64 c.Seed]) w) (d : Dj (bx b 59 [vx, I c.At, .int .u64 c.Seed]) hx) :
  CallsTo Try.prog 26 #[pb b] w fun v w' => ∃ r0 r1 r2 r3 m1_0 m1_1 u0 g0 u1 g1 u2 g2 u3 g3, Q r0 r1 r2 r3 m1_0 m1_1 ∧ v = .tuple #[u0, u1, u2, u3] ∧ But (bx b 59 [vx, I c.At, .int .u64 c.Seed]) w w' ∧ OS 90 g0 emp u0 r0 ∧ Sub g0 w' ∧ Fresh w.heap.size g0 ∧ OD g1 u1 r1 ∧ Sub g1 w' ∧ Fresh w.heap.size g1 ∧ OS 3 g2 emp u2 r2 ∧ Sub g2 w' ∧ Fresh w.heap.size g2 ∧ OS 3 g3 emp u3 r3 ∧ Sub g3 w' ∧ Fresh w.heap.size g3 ∧ Sub (bx b 59 [vx, I m1_0, .int .u64 m1_1]) w' ∧ Dj g0 g1 ∧ Dj g0 g2 ∧ Dj g0 g3 ∧ Dj g0 (bx b 59 [vx, I m1_0, .int .u64 m1_1]) ∧ Dj g1 g2 ∧ Dj g1 g3 ∧ Dj g1 (bx b 59 [vx, I m1_0, .int .u64 m1_1]) ∧ Dj g2 g3 ∧ Dj g2 (bx b 59 [vx, I m1_0, .int .u64 m1_1]) ∧ Dj g3 (bx b 59 [vx, I m1_0, .int .u64 m1_1]) := by
 obtain ⟨a, c1, rfl⟩ := r.shape
 refine enter (args := [pb b]) 41 Try.func26 rfl rfl rfl ?_
 refine W_forget [(0, pb b)] ⟨rfl, trivial⟩ fun ρ => ?_
 have D : Dom (bx b 59 [sl a c.Code c1, I c.At, .int .u64 c.Seed]) (bx b 59 [sl a c.Code c1, I c.At, .int .u64 c.Seed]) := (Dom.refl _)
 have X := But.refl (bx b 59 [sl a c.Code c1, I c.At, .int .u64 c.Seed]) w
 refine W_seq (W_region ?_)
 refine LP_ev ok 0 [(2, .slice none 0 0), (3, .slice none 0 0), (4, .slice none 0 0), (5, .slice none 0 0)] 4 rfl rfl ?_
 refine LP_end _ rfl (W_seq (W_region ?_))
 refine LP_ev ok 0 [(8, pb b)] 1 rfl rfl ?_
 refine LP_call 1 rfl rfl rfl cal_66 rfl (spec_l1Cur_anySchema_w _ _ H w r ex ex2 d) ?_
 rintro _ wx ⟨r3, r4, r5, vx6, hx7, H, rfl, x, HF⟩
 revert HF
 refine bb5 fun o ex8 f ex9 d10 => ?_
 obtain ⟨a11, c12, rfl⟩ := o.shape
 refine LP_ev ok 2 [(6, sl a11 r3 c12)] 3 rfl rfl ?_
 refine LP_end _ rfl ?_
 have X13 := (X.step x (Dom.le D _))
 have ex14 := (ex.but x d)
 have f15 := f.mono X.size
 obtain ⟨k, hk, H⟩ := jn_elim H
 refine W_join2 (S := (List Variable) × Int × Int) (fun s ρ' w' => k s.1 s.2.1 s.2.2 ∧ ∃ (ρ : Env) (vx16 : Value) (hx17 : PH), ρ' = setAll [(0, pb b), (6, vx16)] ρ ∧ But (bx b 59 [sl a c.Code c1, I c.At, .int .u64 c.Seed]) w w' ∧ OS 90 hx17 emp vx16 s.1 ∧ Sub hx17 w' ∧ Fresh w.heap.size hx17 ∧ Sub hx w' ∧ Sub (bx b 59 [sl a c.Code c1, I s.2.1, .int .u64 s.2.2]) w' ∧ Dj hx17 hx ∧ Dj hx17 (bx b 59 [sl a c.Code c1, I s.2.1, .int .u64 s.2.2])) ?_ ?_
 ·obtain ⟨k37, hk38, H⟩ := jn_elim H
  refine W_join2 (S := Bool × Int × Int) (fun s ρ' w' => k37 s.1 s.2.1 s.2.2 ∧ ∃ (ρ : Env), ρ' = setAll [(0, pb b), (6, sl a11 r3 c12), (17, .bool s.1)] ρ ∧ But (bx b 59 [sl a c.Code c1, I c.At, .int .u64 c.Seed]) w w' ∧ Sub hx w' ∧ Sub hx7 w' ∧ Sub (bx b 59 [sl a c.Code c1, I s.2.1, .int .u64 s.2.2]) w') ?_ ?_
  ·refine W_region ?_
   refine LP_ev ok 0 [(10, sl a11 r3 c12)] 1 rfl rfl ?_
   refine LP_call 1 rfl rfl rfl cal_67 rfl (spec_sCount_w _ _ H wx o.readf ex8) ?_
   rintro _ wx40 ⟨r39, H, rfl, x41⟩
   refine LP_ev ok 2 [(12, .bool (decide (r39 > 100))), (13, .bool (decide (r39 > 100)))] 4 rfl rfl ?_
   refine LP_split 13 (decide (r39 > 100)) rfl (fun hc => ?_) (fun hc => ?_)
   ·have H := H.1 hc
    refine LP_ev ok 4 [(14, pb b)] 5 rfl rfl ?_
    have ex45 := (ex14.ext x41)
    refine LP_call 5 rfl rfl rfl cal_68 rfl (spec_l1Cur_one_w _ _ _ H wx40 r ex45 (ex9.ext x41) (Dj.box d)) ?_
    rintro _ wx47 ⟨r42, r43, r44, H, rfl, x48, ex49⟩
    refine LP_ev ok 6 [(16, .bool (!r42)), (17, .bool (!r42))] 8 rfl rfl ?_
    exact LP_end _ rfl ⟨(!r42, r43, r44), H, _, env_eq ⟨rfl, rfl, rfl, trivial⟩, ((X13.stepx x41).step x48 (DomLe.dom D single_dom)), (ex45.but x48 (Dj.box d)), ((ex8.ext x41).but x48 d10.symm), ex49⟩
   have H := H.2 hc
   refine LP_ev ok 4 [(14, undef), (15, undef), (16, undef), (17, .bool false)] 8 rfl rfl ?_
   exact LP_end _ rfl ⟨(false, r4, r5), H, _, env_eq ⟨rfl, rfl, rfl, trivial⟩, (X13.stepx x41), (ex14.ext x41), (ex8.ext x41), (ex9.ext x41)⟩
  rintro ⟨x29, atx30, seed31⟩ _ wx32 ⟨H, ρ, rfl, X36, ex33, ex34, ex35⟩
  subst hk38
  refine W_cond (x29) rfl (fun hc57 => ?_) (fun hc57 => ?_)
  ·have H := H.1 hc57
   refine W_region ?_
   refine LP_ev ok 0 [(18, .agg #[.string ((ByteArray.mk #[115, 101, 120])), I 2]), (19, .agg #[.string ((ByteArray.mk #[97, 103, 101])), I 3]), (20, .agg #[.string ((ByteArray.mk #[106, 111, 98])), I 3])] 3 rfl rfl ?_
   refine LP_lit (α := Variable) (g := emp) 3 (vs := [.agg #[.string ((ByteArray.mk #[115, 101, 120])), I 2], .agg #[.string ((ByteArray.mk #[97, 103, 101])), I 3], .agg #[.string ((ByteArray.mk #[106, 111, 98])), I 3]]) (xs := [(Variable.mk ((ByteArray.mk #[115, 101, 120])) 2), (Variable.mk ((ByteArray.mk #[97, 103, 101])) 3), (Variable.mk ((ByteArray.mk #[106, 111, 98])) 3)]) rfl rfl rfl Try.underlying23 ti_90 rfl rfl ⟨⟨_, rfl, rfl⟩, ⟨_, rfl, rfl⟩, ⟨_, rfl, rfl⟩, trivial⟩ rfl rfl fun hx58 vx59 wx60 x61 o62 ex63 f64 => ?_
   obtain ⟨a65, c66, rfl⟩ := o62.shape
   refine LP_ev ok 4 [(6, .slice a65 (List.length ([(Variable.mk ((ByteArray.mk #[115, 101, 120])) 2), (Variable.mk ((ByteArray.mk #[97, 103, 101])) 3), (Variable.mk ((ByteArray.mk #[106, 111, 98])) 3)])) c66)] 5 rfl rfl ?_
   refine LP_end _ rfl ?_
   have f68 := f64.mono X36.size
   exact ⟨([(Variable.mk ((ByteArray.mk #[115, 101, 120])) 2), (Variable.mk ((ByteArray.mk #[97, 103, 101])) 3), (Variable.mk ((ByteArray.mk #[106, 111, 98])) 3)], atx30, seed31), H, _, .slice a65 (List.length ([(Variable.mk ((ByteArray.mk #[115, 101, 120])) 2), (Variable.mk ((ByteArray.mk #[97, 103, 101])) 3), (Variable.mk ((ByteArray.mk #[106, 111, 98])) 3)])) c66, hx58, env_eq ⟨rfl, rfl, trivial⟩, (X36.stepx x61), o62, ex63, f68, (ex33.ext x61), (ex35.ext x61), (Dj.of_fresh ex33 f64).symm, (Dj.of_fresh ex35 f64).symm⟩
  have H := H.2 hc57
  exact W_skip ⟨(r3, atx30, seed31), H, _, sl a11 r3 c12, hx7, env_eq ⟨rfl, rfl, trivial⟩, X36, o, ex34, f15, ex33, ex35, (Dj.of_fresh ex f).symm, (Dj.box d10.symm).symm⟩
 rintro ⟨sx, atx, seed⟩ _ wx21 ⟨H, ρ, vx16, hx17, rfl, HF⟩
 revert HF
 refine bb8 fun X28 o18 ex19 f20 ex22 ex25 d26 d27 => ?_
 subst hk
 obtain ⟨a23, c24, rfl⟩ := o18.shape
 refine W_seq (W_region ?_)
 refine LP_ev ok 0 [(22, pb b), (23, sl a23 sx c24)] 2 rfl rfl ?_
 refine LP_call 2 rfl rfl rfl cal_69 rfl (spec_l1Cur_edits_w _ _ _ H wx21 r ex22 ex25 o18.readf ex19 (Dj.box d) d27.symm) ?_
 rintro _ wx74 ⟨r71, r72, r73, vx76, hx77, H, rfl, x75, HF⟩
 revert HF
 refine bb5 fun o78 ex79 f80 ex81 d82 => ?_
 obtain ⟨a83, c84, rfl⟩ := o78.shape
 refine LP_ev ok 3 [(7, sl a83 r71 c84)] 4 rfl rfl ?_
 refine LP_end _ rfl ?_
 have X85 := (X28.step x75 (DomLe.dom D single_dom))
 have ex86 := (ex22.but x75 (Dj.box d))
 have ex87 := (ex19.but x75 d27.symm)
 have f88 := f80.mono X28.size
 obtain ⟨k106, hk107, H⟩ := jn_elim H
 refine W_join2 (S := (List Edit) × Int × Int) (fun s ρ' w' => k106 s.1 s.2.1 s.2.2 ∧ ∃ (ρ : Env) (vx89 : Value) (hx90 : PH), ρ' = setAll [(0, pb b), (6, sl a23 sx c24), (7, vx89)] ρ ∧ But (bx b 59 [sl a c.Code c1, I c.At, .int .u64 c.Seed]) w w' ∧ OD hx90 vx89 s.1 ∧ Sub hx90 w' ∧ Fresh w.heap.size hx90 ∧ Sub hx w' ∧ Sub hx17 w' ∧ Sub (bx b 59 [sl a c.Code c1, I s.2.1, .int .u64 s.2.2]) w' ∧ Dj hx90 hx ∧ Dj hx90 hx17 ∧ Dj hx90 (bx b 59 [sl a c.Code c1, I s.2.1, .int .u64 s.2.2])) ?_ ?_
 ·refine W_seq (W_region ?_)
  refine LP_ev ok 0 [(25, pb b)] 1 rfl rfl ?_
  refine LP_call 1 rfl rfl rfl cal_68 rfl (spec_l1Cur_one_w _ _ _ H wx74 r ex86 ex81 (Dj.box d)) ?_
  rintro _ wx111 ⟨r108, r109, r110, H, rfl, x112, ex113⟩
  refine LP_end _ rfl ?_
  refine W_cond (r108) rfl (fun hc114 => ?_) (fun hc114 => ?_)
  ·have H := H.1 hc114
   refine W_region ?_
   refine LP_ev ok 0 [(27, sl a83 r71 c84), (28, pb b), (29, sl a23 sx c24)] 3 rfl rfl ?_
   have ex118 := (ex86.but x112 (Dj.box d))
   have ex119 := (ex87.but x112 (Dj.box d27.symm))
   refine LP_call 3 rfl rfl rfl cal_70 rfl (spec_l1Cur_anyEdit_w _ _ _ H wx111 r ex118 ex113 o18.readf ex119 (Dj.box d) (Dj.box d27.symm)) ?_
   rintro _ wx120 ⟨r115, r116, r117, vx122, hx123, H, rfl, x121, HF⟩
   revert HF
   refine bb5 fun o124 ex125 f126 ex127 d128 => ?_
   obtain ⟨a129, c130, rfl⟩ := o124.shape
   have rv : RVO hx123 (.agg #[sl a129 r115.Sets c130]) ((Edit.mk r115.Sets) : Edit) := ⟨_, ⟨_, rfl, (OS.od o124)⟩, rfl⟩
   refine LP_litD (α := Edit) 4 (vs := [.agg #[sl a129 r115.Sets c130]]) (xs := [((Edit.mk r115.Sets) : Edit)]) rfl rfl rfl Try.underlying24 ti_79 rfl rfl (allO.one rv) ex125 rfl rfl fun hx131 vx132 wx133 x134 o135 ex136 dm => ?_
   obtain ⟨a137, c138, rfl⟩ := o135.shape
   have ex140 := (ex79.but x112 d82.symm)
   obtain ⟨hb, H⟩ := H
   refine LP_appendD (α := Edit) 5 rfl rfl rfl Try.underlying24 ti_79 rfl rfl rfl o78 (((ex79.but x112 d82.symm).but x121 (Dj.box d82.symm)).ext x134) o135 ex136 (DomLe.dj dm (Dj.of_fresh ex140 f126).symm (ex140.but x121 (Dj.box d82.symm))).symm (by first | omega | (simp only [ln] at *; omega)) (by first | omega | (simp only [ln] at *; omega)) fun hx142 vx143 wx144 hw o145 ex146 y dh dm147 => ?_
   obtain ⟨a148, c149, rfl⟩ := o145.shape
   refine LP_ev ok 6 [(7, .slice a148 (List.length (r71 ++ ([((Edit.mk r115.Sets) : Edit)]))) c149)] 7 rfl rfl ?_
   refine LP_end _ rfl ?_
   have X152 := (X85.step x112 (DomLe.dom D single_dom))
   have f151 := f126.mono X152.size
   have X154 := (X152.step x121 (DomLe.dom D single_dom))
   have f153 := DomLe.fresh dm f151 X154.size
   have f155 := DomLe.fresh dm147 (Fresh.un f88 f153) (X154.stepx x134).size
   have ex160 := (ex118.but x121 (Dj.box d))
   have ex162 := (ex119.but x121 (Dj.box d27.symm))
   exact ⟨(r71 ++ ([((Edit.mk r115.Sets) : Edit)]), r116, r117), H, _, .slice a148 (List.length (r71 ++ ([((Edit.mk r115.Sets) : Edit)]))) c149, hx142, env_eq ⟨rfl, rfl, rfl, trivial⟩, ((((X85.step x112 (DomLe.dom D single_dom)).step x121 (DomLe.dom D single_dom)).stepx x134).step (But.dom y dh) (f88.dom _)), o145, ex146, f155, (((ex118.but x121 (Dj.box d)).ext x134).but (But.dom y dh) (Dj.of_fresh ex22 f80).symm), (((ex119.but x121 (Dj.box d27.symm)).ext x134).but (But.dom y dh) (Dj.of_fresh ex19 f80).symm), ((ex127.ext x134).but (But.dom y dh) (Dj.box d82.symm).symm), (DomLe.dj dm147 (Dj.un_l (Dj.of_fresh ex22 f80).symm (DomLe.dj dm (Dj.of_fresh ex118 f126).symm ex160)) (ex160.ext x134)), (DomLe.dj dm147 (Dj.un_l (Dj.of_fresh ex19 f80).symm (DomLe.dj dm (Dj.of_fresh ex119 f126).symm ex162)) (ex162.ext x134)), (DomLe.dj dm147 (Dj.un_l (Dj.box d82.symm).symm (DomLe.dj dm d128 ex127)) (ex127.ext x134))⟩
  have H := H.2 hc114
  exact W_skip ⟨(r71, r109, r110), H, _, sl a83 r71 c84, hx77, env_eq ⟨rfl, rfl, rfl, trivial⟩, (X85.step x112 (DomLe.dom D single_dom)), o78, (ex79.but x112 d82.symm), f88, (ex86.but x112 (Dj.box d)), (ex87.but x112 (Dj.box d27.symm)), ex113, (Dj.of_fresh ex22 f80).symm, (Dj.of_fresh ex19 f80).symm, (Dj.box d82.symm).symm⟩
 rintro ⟨l, atx94, seed95⟩ _ wx96 ⟨H, ρ, vx89, hx90, rfl, HF⟩
 revert HF
 refine bb9 fun X105 o91 ex92 f93 ex97 ex98 ex101 d102 => ?_
 refine bb2 fun d103 d104 => ?_
 subst hk107
 obtain ⟨a99, c100, rfl⟩ := o91.shape
 refine W_seq (W_region ?_)
 refine LP_ev ok 0 [(33, sl a23 sx c24), (34, sl a99 l c100), (35, pb b), (36, sl a23 sx c24)] 4 rfl rfl ?_
 refine LP_call 4 rfl rfl rfl cal_71 rfl (spec_l1Cur_weights_w _ _ _ H wx96 r ex97 ex101 o18.readf ex98 (Dj.box d) (Dj.box d27.symm)) ?_
 rintro _ wx172 ⟨r169, r170, r171, vx174, hx175, H, rfl, x173, HF⟩
 revert HF
 refine bb5 fun o176 ex177 f178 ex179 d180 => ?_
 obtain ⟨a181, c182, rfl⟩ := o176.shape
 refine LP_ev ok 5 [(38, pb b), (39, sl a23 sx c24)] 7 rfl rfl ?_
 have ex187 := (ex98.but x173 (Dj.box d27.symm))
 refine LP_call 7 rfl rfl rfl cal_72 rfl (spec_l1Cur_anyValues_w _ _ _ H wx172 r (ex97.but x173 (Dj.box d)) ex179 o18.readf ex187 (Dj.box d) (Dj.box d27.symm)) ?_
 rintro _ wx188 ⟨r183, r184, r185, vx190, hx191, H, rfl, x189, HF⟩
 revert HF
 refine bb5 fun o192 ex193 f194 ex195 d196 => ?_
 obtain ⟨a197, c198, rfl⟩ := o192.shape
 refine LP_ev ok 8 [(2, sl a23 sx c24), (3, sl a99 l c100), (4, sl a181 r169 c182), (5, sl a197 r183 c198)] 12 rfl rfl ?_
 refine LP_end _ rfl (W_ret ?_)
 have f202 := f178.mono X105.size
 have X204 := (X105.step x173 (DomLe.dom D single_dom))
 have f203 := f194.mono X204.size
 exact ⟨_, Ret_of [sl a23 sx c24, sl a99 l c100, sl a181 r169 c182, sl a197 r183 c198] ⟨⟨rfl, rfl⟩, ⟨rfl, rfl⟩, ⟨rfl, rfl⟩, ⟨rfl, rfl⟩, trivial⟩, _, _, _, _, _, _, _, _, _, _, _, _, _, _, H, rfl, (X204.step x189 (DomLe.dom D single_dom)), o18, (ex187.but x189 (Dj.box d27.symm)), f20, o91, ((ex92.but x173 d104.symm).but x189 (Dj.box d104.symm)), f93, o176, (ex177.but x189 d180.symm), f202, o192, ex193, f203, ex195, d103.symm, (Dj.of_fresh ex98 f178), (Dj.of_fresh ex187 f194), (Dj.box d27.symm).symm, (Dj.of_fresh ex92 f178), (Dj.of_fresh (ex92.but x173 d104.symm) f194), (Dj.box d104.symm).symm, (Dj.of_fresh ex177 f194), (Dj.box d180.symm).symm, d196⟩

theorem spec_l1Cur_record_w (c : L1Cur) (sx : List Variable) (areas : List Int) (Q : Record → Int → Int → Prop) (H : spec_l1Cur_record c sx areas Q) (w : World) {vx : Value} {hx : PH} (r : RS hx vx c.Code) (ex : Sub hx w) {b : Nat} (ex2 : Sub (bx b 59 [vx, I c.At, .int .u64 c.Seed]) w) {vx3 : Value} {hx4 : PH} (r5 : RS hx4 vx3 sx) (ex6 : Sub hx4 w) {vx9 : Value} {hx10 : PH} (r11 : RS hx10 vx9 areas) (ex12 : Sub hx10 w) (d : Dj (bx b 59 [vx, I c.At, .int .u64 c.Seed]) hx) (d15 : Dj (bx b 59 [vx, I c.At, .int .u64 c.Seed]) hx4) (d16 : Dj (bx b 59 [vx, I c.At, .int .u64 c.Seed]) hx10) :
  CallsTo Try.prog 111 #[pb b, vx3, vx9] w fun v w' => ∃ r0 m1_0 m1_1 u0_2 g0_2, Q r0 m1_0 m1_1 ∧ v = .agg #[I r0.Area, I r0.House, u0_2] ∧ But (bx b 59 [vx, I c.At, .int .u64 c.Seed]) w w' ∧ OS 3 g0_2 emp u0_2 r0.Values ∧ Sub g0_2 w' ∧ Fresh w.heap.size g0_2 ∧ Sub (bx b 59 [vx, I m1_0, .int .u64 m1_1]) w' ∧ Dj g0_2 (bx b 59 [vx, I m1_0, .int .u64 m1_1]) := by
 obtain ⟨a, c1, rfl⟩ := r.shape
 obtain ⟨a7, c8, rfl⟩ := r5.shape
 obtain ⟨a13, c14, rfl⟩ := r11.shape
 refine enter (args := [pb b, sl a7 sx c8, sl a13 areas c14]) 16 Try.func111 rfl rfl rfl ?_
 refine W_forget [(0, pb b), (1, sl a7 sx c8), (2, sl a13 areas c14)] ⟨rfl, rfl, rfl, trivial⟩ fun ρ => ?_
 have D : Dom (bx b 59 [sl a c.Code c1, I c.At, .int .u64 c.Seed]) (bx b 59 [sl a c.Code c1, I c.At, .int .u64 c.Seed]) := (Dom.refl _)
 have X := But.refl (bx b 59 [sl a c.Code c1, I c.At, .int .u64 c.Seed]) w
 refine W_seq (W_region ?_)
 refine LP_alloc 0 rfl rfl rfl ti_40 rfl fun b17 wx x ex18 f => ?_
 refine LP_end _ rfl (W_seq (W_region ?_))
 refine LP_ev ok 0 [(7, pb b), (8, sl a13 areas c14)] 2 rfl rfl ?_
 have ex22 := (ex.ext x)
 refine LP_call 2 rfl rfl rfl cal_75 rfl (spec_l1Cur_among_w _ _ _ H wx r ex22 (ex2.ext x) r11 (ex12.ext x) d d16) ?_
 rintro _ wx25 ⟨r19, r20, r21, H, rfl, x26, ex27⟩
 refine LP_ev ok 3 [(10, pb b)] 4 rfl rfl ?_
 have ex31 := (ex22.but x26 d)
 refine LP_call 4 rfl rfl rfl cal_74 rfl (spec_l1Cur_pick_w _ _ _ H wx25 r ex31 ex27 (Dj.box d)) ?_
 rintro _ wx32 ⟨r28, r29, r30, H, rfl, x33, ex34⟩
 refine LP_ev ok 5 [(12, pb b), (13, sl a7 sx c8)] 7 rfl rfl ?_
 refine LP_call 7 rfl rfl rfl cal_76 rfl (spec_l1Cur_values_w _ _ _ H wx32 r (ex31.but x33 (Dj.box d)) ex34 r5 (((ex6.ext x).but x26 d15).but x33 (Dj.box d15)) (Dj.box d) (Dj.box d15)) ?_
 rintro _ wx40 ⟨r35, r36, r37, vx42, hx43, H, rfl, x41, HF⟩
 revert HF
 refine bb5 fun o ex44 f45 ex46 d47 => ?_
 obtain ⟨a48, c49, rfl⟩ := o.shape
 refine LP_ev ok 8 [(15, .agg #[I r19, I r28, sl a48 r35 c49])] 9 rfl rfl ?_
 refine LP_stbox 9 (vs := [I r19, I r28, sl a48 r35 c49]) (cs' := [I r19, I r28, sl a48 r35 c49]) rfl rfl rfl ti_40 rfl rfl rfl rfl rfl (((ex18.but x26 (Dj.of_fresh ex2 f)).but x33 (Dj.box (Dj.of_fresh ex2 f))).but x41 (Dj.box (Dj.of_fresh ex2 f))) rfl rfl fun wx50 ex51 y => ?_
 refine LP_end _ rfl (W_ret ?_)
 have X56 := (((X.stepx x).step x26 (Dom.le D _)).step x33 (DomLe.dom D single_dom))
 have f55 := f45.mono X56.size
 have f58 := f.mono X.size
 exact ⟨_, Ret_of [.agg #[I r19, I r28, sl a48 r35 c49]] ⟨⟨_, rfl, rfl, ld_res ti_40 ag_40 (fun h => by cases h) ex51 rfl rfl⟩, trivial⟩, _, _, _, _, _, H, rfl, ((X56.step x41 (DomLe.dom D single_dom)).step y (f58.dom _)), o, (ex44.but y (Dj.of_fresh ((ex18.but x26 (Dj.of_fresh ex2 f)).but x33 (Dj.box (Dj.of_fresh ex2 f))) f45)), f55, (ex46.but y (Dj.box (Dj.of_fresh ex2 f).symm.symm).symm), d47⟩

theorem spec_rOwn_w (r : Record) (Q : Record → Prop) (H : spec_rOwn r Q) (w : World) {vx : Value} {hx : PH} (r1 : RS hx vx r.Values) (ex : Sub hx w) :
  CallsTo Try.prog 39 #[.agg #[I r.Area, I r.House, vx]] w fun v w' => ∃ r0 u0_2 g0_2, Q r0 ∧ v = .agg #[I r0.Area, I r0.House, u0_2] ∧ Ext w w' ∧ OS 3 g0_2 emp u0_2 r0.Values ∧ Sub g0_2 w' ∧ Fresh w.heap.size g0_2 := by
 obtain ⟨a, c, rfl⟩ := r1.shape
 refine enter (args := [.agg #[I r.Area, I r.House, sl a r.Values c]]) 11 Try.func39 rfl rfl rfl ?_
 refine W_forget [(0, .agg #[I r.Area, I r.House, sl a r.Values c])] ⟨rfl, trivial⟩ fun ρ => ?_
 have X := But.refl emp w
 refine W_seq (W_region ?_)
 refine LP_box 0 (cs := [I r.Area, I r.House, sl a r.Values c]) rfl rfl rfl rfl rfl fun b wx x ex2 f => ?_
 refine LP_alloc 1 rfl rfl rfl ti_40 rfl fun b3 wx4 x5 ex6 f7 => ?_
 refine LP_end _ rfl (W_seq ?_)
 refine W_open mix fun wx8 x9 => ?_
 refine AP_game 7 [[], [0], [], [2], [], [4], [4, 5], [0, 1, 2, 3, 4, 5, 6], [0, 1, 2, 3, 4, 5, 6, 7]] [[(1, none)], [(3, some 0)], [(1, none)], [(5, some 2)], [(1, none)], [(7, some 4)], [(8, some 5)]] [(2, none), (4, some 1), (6, some 3), (9, some 6)] [(0, false), (1, false), (2, false), (3, false), (4, false), (5, false), (6, true)] (by kernel_rfl) (by kernel_rfl) ?_
 refine GS_ev ok [(1, pb b)] (pb b) rfl rfl (fun _ h => h) (fun _ => rfl) ?_
 have ex10 := (ex2.ext (x5.trans x9))
 refine GS_r1 [(3, pb b)] (I r.Area) rfl rfl (fun _ h => h) (fun _ w e => ex_ldbox rfl ti_3 ag_3 (fun _ => rfl) rfl e rfl rfl) ex10 ?_
 refine GS_ev ok [(1, pb b)] (.pointer (some ⟨b, 1, none⟩)) rfl rfl (fun _ h => h) (fun _ => rfl) ?_
 refine GS_r1 [(5, .pointer (some ⟨b, 1, none⟩))] (I r.House) rfl rfl (fun _ h => h) (fun _ w e => ex_ldbox rfl ti_3 ag_3 (fun _ => rfl) rfl e rfl rfl) ex10 ?_
 refine GS_ev ok [(1, pb b)] (.pointer (some ⟨b, 2, none⟩)) rfl rfl (fun _ h => h) (fun _ => rfl) ?_
 refine GS_r1 [(7, .pointer (some ⟨b, 2, none⟩))] (sl a r.Values c) rfl rfl (fun _ h => h) (fun _ w e => ex_ldbox rfl ti_25 ag_25 (fun _ => rfl) rfl e rfl rfl) ex10 ?_
 refine GS_lp [(8, sl a r.Values c)] rfl rfl (fun _ h => h) rfl fun ρ wx11 x12 => ?_
 have xc14 := (((x.trans x5).trans x9).trans x12)
 refine LP_call 0 rfl rfl rfl cal_87 rfl (spec_l1Own_w _ _ H wx11 r1 (ex.ext xc14)) ?_
 rintro _ wx16 ⟨r13, vx18, hx19, H, rfl, x17, o, ex20, f21⟩
 obtain ⟨a22, c23, rfl⟩ := o.shape
 have xc24 := (x12.trans x17)
 refine LP_gs ⟨⟨.inl rfl, .inr (ex10.ext xc24), .inr (ex10.ext xc24), trivial⟩, ?_⟩
 intro wx27 x28 ρ hn
 refine AP_forget [(2, pb b3), (4, I r.Area), (6, I r.House), (9, sl a22 r13 c23)] (by exact hn) fun ρ => ?_
 refine AP_tail 7 [[], [0], [], [2], [], [4], [4, 5], [0, 1, 2, 3, 4, 5, 6], [0, 1, 2, 3, 4, 5, 6, 7]] (by kernel_rfl) ?_
 refine LP_ev ok 7 [(10, .agg #[I r.Area, I r.House, sl a22 r13 c23])] 8 rfl rfl ?_
 refine LP_stbox 8 (vs := [I r.Area, I r.House, sl a22 r13 c23]) (cs' := [I r.Area, I r.House, sl a22 r13 c23]) rfl rfl rfl ti_40 rfl rfl rfl rfl rfl (ex6.ext (((x9.trans x12).trans x17).trans x28)) rfl rfl fun wx29 ex30 y => ?_
 refine LP_end _ rfl (W_ret ?_)
 have X37 := (X.stepx xc14)
 have f36 := f21.mono X37.size
 have f39 := f7.mono (X.stepx x).size
 exact ⟨_, Ret_of [.agg #[I r.Area, I r.House, sl a22 r13 c23]] ⟨⟨_, rfl, rfl, ld_res ti_40 ag_40 (fun h => by cases h) ex30 rfl rfl⟩, trivial⟩, _, _, _, H, rfl, ((X37.stepx (x17.trans x28)).step y (f39.dom _)).ext, o, ((ex20.ext x28).but y (Dj.of_fresh (ex6.ext (x9.trans x12)) f21)), f36⟩

theorem spec_l1Cur_data_w (c : L1Cur) (sx : List Variable) (areas : List Int) (Q : (List Record) → Int → Int → Prop) (H : spec_l1Cur_data c sx areas Q) (w : World) {vx : Value} {hx : PH} (r : RS hx vx c.Code) (ex : Sub hx w) {b : Nat} (ex2 : Sub (bx b 59 [vx, I c.At, .int .u64 c.Seed]) w) {vx3 : Value} {hx4 : PH} (r5 : RS hx4 vx3 sx) (ex6 : Sub hx4 w) {vx9 : Value} {hx10 : PH} (r11 : RS hx10 vx9 areas) (ex12 : Sub hx10 w) (d : Dj (bx b 59 [vx, I c.At, .int .u64 c.Seed]) hx) (d15 : Dj (bx b 59 [vx, I c.At, .int .u64 c.Seed]) hx4) (d16 : Dj (bx b 59 [vx, I c.At, .int .u64 c.Seed]) hx10) :
  CallsTo Try.prog 73 #[pb b, vx3, vx9] w fun v w' => ∃ r0 m1_0 m1_1 u0 g0, Q r0 m1_0 m1_1 ∧ v = u0 ∧ But (bx b 59 [vx, I c.At, .int .u64 c.Seed]) w w' ∧ OD g0 u0 r0 ∧ Sub g0 w' ∧ Fresh w.heap.size g0 ∧ Sub (bx b 59 [vx, I m1_0, .int .u64 m1_1]) w' ∧ Dj g0 (bx b 59 [vx, I m1_0, .int .u64 m1_1]) := by
 obtain ⟨a, c1, rfl⟩ := r.shape
 obtain ⟨a7, c8, rfl⟩ := r5.shape
 obtain ⟨a13, c14, rfl⟩ := r11.shape
 refine enter (args := [pb b, sl a7 sx c8, sl a13 areas c14]) 32 Try.func73 rfl rfl rfl ?_
 refine W_forget [(0, pb b), (1, sl a7 sx c8), (2, sl a13 areas c14)] ⟨rfl, rfl, rfl, trivial⟩ fun ρ => ?_
 have D : Dom (bx b 59 [sl a c.Code c1, I c.At, .int .u64 c.Seed]) (bx b 59 [sl a c.Code c1, I c.At, .int .u64 c.Seed]) := (Dom.refl _)
 have X := But.refl (bx b 59 [sl a c.Code c1, I c.At, .int .u64 c.Seed]) w
 refine W_seq (W_region ?_)
 refine LP_ev ok 0 [(6, .slice none 0 0)] 1 rfl rfl ?_
 refine LP_end _ rfl (W_seq (W_region ?_))
 refine LP_ev ok 0 [(7, .slice none 0 0)] 1 rfl rfl ?_
 refine LP_end _ rfl (W_seq ?_)
 refine W_seq (W_region ?_)
 refine LP_ev ok 0 [(10, pb b)] 1 rfl rfl ?_
 refine LP_call 1 rfl rfl rfl cal_74 rfl (spec_l1Cur_pick_w _ _ _ H w r ex ex2 d) ?_
 rintro _ wx ⟨r17, r18, r19, H, rfl, x, ex20⟩
 refine LP_ev ok 2 [(8, I r17)] 3 rfl rfl ?_
 refine LP_end _ rfl ?_
 refine W_block ?_
 obtain ⟨J, m, Hx, H⟩ := H
 refine W_loop (S := (List Record) × Int × Int × Int) (fun s ρ' w' => J s.1 s.2.1 s.2.2.1 s.2.2.2 ∧ ∃ (ρ : Env) (vx21 : Value) (hx22 : PH), ρ' = setAll [(0, pb b), (1, sl a7 sx c8), (2, sl a13 areas c14), (7, vx21), (8, I s.2.1)] ρ ∧ But (bx b 59 [sl a c.Code c1, I c.At, .int .u64 c.Seed]) w w' ∧ OD hx22 vx21 s.1 ∧ Sub hx22 w' ∧ Fresh w.heap.size hx22 ∧ Sub hx w' ∧ Sub hx4 w' ∧ Sub hx10 w' ∧ Sub (bx b 59 [sl a c.Code c1, I s.2.2.1, .int .u64 s.2.2.2]) w' ∧ Dj hx22 hx ∧ Dj hx22 hx4 ∧ Dj hx22 hx10 ∧ Dj hx22 (bx b 59 [sl a c.Code c1, I s.2.2.1, .int .u64 s.2.2.2])) (fun s => m s.1 s.2.1 s.2.2.1 s.2.2.2) ([], r17, r18, r19) ⟨Hx, _, .slice none 0 0, emp, env_eq ⟨rfl, rfl, rfl, rfl, rfl, trivial⟩, (X.step x (Dom.le D _)), OD.nil, (emp_sub _), (emp_fresh _), (ex.but x d), (ex6.but x d15), (ex12.but x d16), ex20, (fun _ => .inl rfl), (fun _ => .inl rfl), (fun _ => .inl rfl), (fun _ => .inl rfl)⟩ ?_
 rintro ⟨out, k, atx, seed⟩ _ wx24 ⟨Hi, ρ, vx21, hx22, rfl, HF⟩
 revert HF
 refine bb9 fun X35 o ex23 f ex25 ex26 ex27 ex30 => ?_
 refine bb4 fun d31 d32 d33 d34 => ?_
 have H := H out k atx seed Hi
 obtain ⟨a28, c29, rfl⟩ := o.shape
 refine W_seq ?_
 refine W_seq (W_region ?_)
 refine LP_ev ok 0 [(12, I k), (13, .bool (decide (k > 0)))] 2 rfl rfl ?_
 refine LP_end _ rfl ?_
 refine W_cond (decide (k > 0)) rfl (fun hc => ?_) (fun hc => ?_)
 ·have H := H.1 hc
  refine W_skip ?_
  obtain ⟨k60, hk, H⟩ := jn_elim H
  refine W_join2 (S := (List Record) × Int × Int) (fun s ρ' w' => k60 s.1 s.2.1 s.2.2 ∧ ∃ (ρ : Env) (vx41 : Value) (hx42 : PH), ρ' = setAll [(0, pb b), (1, sl a7 sx c8), (2, sl a13 areas c14), (7, vx41), (8, I k)] ρ ∧ But (bx b 59 [sl a c.Code c1, I c.At, .int .u64 c.Seed]) w w' ∧ OD hx42 vx41 s.1 ∧ Sub hx42 w' ∧ Fresh w.heap.size hx42 ∧ Sub hx w' ∧ Sub hx4 w' ∧ Sub hx10 w' ∧ Sub (bx b 59 [sl a c.Code c1, I s.2.1, .int .u64 s.2.2]) w' ∧ Dj hx42 hx ∧ Dj hx42 hx4 ∧ Dj hx42 hx10 ∧ Dj hx42 (bx b 59 [sl a c.Code c1, I s.2.1, .int .u64 s.2.2])) ?_ ?_
  ·refine W_block ?_
   refine W_seq (W_region ?_)
   refine LP_ev ok 0 [(16, pb b), (17, sl a7 sx c8), (18, sl a13 areas c14)] 3 rfl rfl ?_
   refine LP_call 3 rfl rfl rfl cal_111 rfl (spec_l1Cur_record_w _ _ _ _ H wx24 r ex25 ex30 r5 ex26 r11 ex27 (Dj.box d) (Dj.box d15) (Dj.box d16)) ?_
   rintro _ wx64 ⟨r61, r62, r63, vx66, hx67, H, rfl, x65, HF⟩
   revert HF
   refine bb5 fun o68 ex69 f70 ex71 d72 => ?_
   obtain ⟨a73, c74, rfl⟩ := o68.shape
   refine LP_alloc 4 rfl rfl rfl ti_40 rfl fun b75 wx76 x77 ex78 f79 => ?_
   refine LP_stbox 5 (vs := [I r61.Area, I r61.House, sl a73 r61.Values c74]) (cs' := [I r61.Area, I r61.House, sl a73 r61.Values c74]) rfl rfl rfl ti_40 rfl rfl rfl rfl rfl ex78 rfl rfl fun wx80 ex81 y => ?_
   refine LP_end _ rfl (W_seq (W_region ?_))
   refine LP_ev ok 0 [(20, sl a28 out c29)] 1 rfl rfl ?_
   refine LP_ldbox 1 (v := .agg #[I r61.Area, I r61.House, sl a73 r61.Values c74]) rfl rfl rfl ti_40 ag_40 (fun h => by cases h) rfl ex81 rfl rfl ?_
   have ex82 := ((ex69.ext x77).but y (Dj.of_fresh ex69 f79).symm)
   have rv : RVO (un emp (un emp hx67)) (.agg #[I r61.Area, I r61.House, sl a73 r61.Values c74]) ((Record.mk r61.Area r61.House r61.Values) : Record) := ⟨_, ⟨_, _, _, _, rfl, rfl, (Dj.emp_l _), ⟨rfl, rfl⟩, ⟨_, _, _, _, rfl, rfl, (Dj.emp_l _), ⟨rfl, rfl⟩, ⟨_, rfl, (OS.od o68)⟩⟩⟩, rfl⟩
   refine LP_litD (α := Record) 2 (vs := [.agg #[I r61.Area, I r61.House, sl a73 r61.Values c74]]) (xs := [((Record.mk r61.Area r61.House r61.Values) : Record)]) rfl rfl rfl Try.underlying26 ti_40 rfl rfl (allO.one rv) (Sub.un (emp_sub _) (Sub.un (emp_sub _) ex82)) rfl rfl fun hx83 vx84 wx85 x86 o87 ex88 dm => ?_
   obtain ⟨a89, c90, rfl⟩ := o87.shape
   have ex91 := (ex23.but x65 d34.symm)
   obtain ⟨hb, H⟩ := H
   refine LP_appendD (α := Record) 3 rfl rfl rfl Try.underlying26 ti_40 rfl rfl rfl o ((((ex23.but x65 d34.symm).ext x77).but y (Dj.of_fresh ex91 f79).symm).ext x86) o87 ex88 (DomLe.dj dm (Dj.un_l (Dj.emp_l _) (Dj.un_l (Dj.emp_l _) (Dj.of_fresh ex23 f70).symm)) ((ex91.ext x77).but y (Dj.of_fresh ex91 f79).symm)).symm (by first | omega | (simp only [ln] at *; omega)) (by first | omega | (simp only [ln] at *; omega)) fun hx94 vx95 wx96 hw o97 ex98 y99 dh dm100 => ?_
   obtain ⟨a101, c102, rfl⟩ := o97.shape
   refine LP_ev ok 4 [(7, .slice a101 (List.length (out ++ ([((Record.mk r61.Area r61.House r61.Values) : Record)]))) c102)] 5 rfl rfl ?_
   refine LP_end _ rfl (W_seq (W_region ?_))
   refine LP_ev ok 0 [(24, pb b)] 1 rfl rfl ?_
   have ex106 := (ex25.but x65 (Dj.box d))
   have ex107 := (((((ex25.but x65 (Dj.box d)).ext x77).but y (Dj.of_fresh ex106 f79).symm).ext x86).but (But.dom y99 dh) d31)
   refine LP_call 1 rfl rfl rfl cal_68 rfl (spec_l1Cur_one_w _ _ _ H wx96 r ex107 ((((ex71.ext x77).but y (Dj.of_fresh ex71 f79).symm).ext x86).but (But.dom y99 dh) (Dj.box d34.symm).symm) (Dj.box d)) ?_
   rintro _ wx109 ⟨r103, r104, r105, H, rfl, x110, ex111⟩
   refine LP_end _ rfl ?_
   refine W_cond (r103) rfl (fun hc112 => ?_) (fun hc112 => ?_)
   ·have H := H.1 hc112
    refine W_region ?_
    refine LP_ev ok 0 [(26, .slice a101 (List.length (out ++ ([((Record.mk r61.Area r61.House r61.Values) : Record)]))) c102)] 1 rfl rfl ?_
    refine LP_ldbox 1 (v := .agg #[I r61.Area, I r61.House, sl a73 r61.Values c74]) rfl rfl rfl ti_40 ag_40 (fun h => by cases h) rfl (((ex81.ext x86).but (But.dom y99 dh) (Dj.box (Dj.of_fresh ex91 f79).symm).symm).but x110 (Dj.box (Dj.of_fresh ex71 f79).symm).symm) rfl rfl ?_
    refine LP_call 2 rfl rfl rfl cal_39 rfl (spec_rOwn_w _ _ H wx109 o68.readf (((Sub.le (Sub.le ((Sub.un (emp_sub _) (Sub.un (emp_sub _) ex82)).ext x86) (Le.un_r (Dj.emp_l _))) (Le.un_r (Dj.emp_l _))).but (But.dom y99 dh) (Dj.of_fresh ex23 f70)).but x110 (Dj.box (Dj.of_fresh ex30 f70)))) ?_
    rintro _ wx116 ⟨r114, vx118, hx119, H, rfl, x117, o120, ex121, f122⟩
    obtain ⟨a123, c124, rfl⟩ := o120.shape
    have rv125 : RVO (un emp (un emp hx119)) (.agg #[I r114.Area, I r114.House, sl a123 r114.Values c124]) ((Record.mk r114.Area r114.House r114.Values) : Record) := ⟨_, ⟨_, _, _, _, rfl, rfl, (Dj.emp_l _), ⟨rfl, rfl⟩, ⟨_, _, _, _, rfl, rfl, (Dj.emp_l _), ⟨rfl, rfl⟩, ⟨_, rfl, (OS.od o120)⟩⟩⟩, rfl⟩
    refine LP_litD (α := Record) 3 (vs := [.agg #[I r114.Area, I r114.House, sl a123 r114.Values c124]]) (xs := [((Record.mk r114.Area r114.House r114.Values) : Record)]) rfl rfl rfl Try.underlying26 ti_40 rfl rfl (allO.one rv125) (Sub.un (emp_sub _) (Sub.un (emp_sub _) ex121)) rfl rfl fun hx126 vx127 wx128 x129 o130 ex131 dm132 => ?_
    obtain ⟨a133, c134, rfl⟩ := o130.shape
    have ex135 := ((ex71.ext x77).but y (Dj.of_fresh ex71 f79).symm)
    have ex136 := (ex135.ext x86)
    have xc := (x117.trans x129)
    have ex138 := (ex98.but x110 (DomLe.dj dm100 (Dj.un_l (Dj.box d34.symm).symm (DomLe.dj dm (Dj.un_l (Dj.emp_l _) (Dj.un_l (Dj.emp_l _) d72)) ex135)) ex136).symm)
    obtain ⟨hb140, H⟩ := H
    refine LP_appendD (α := Record) 4 rfl rfl rfl Try.underlying26 ti_40 rfl rfl rfl o97 ((ex98.but x110 (DomLe.dj dm100 (Dj.un_l (Dj.box d34.symm).symm (DomLe.dj dm (Dj.un_l (Dj.emp_l _) (Dj.un_l (Dj.emp_l _) d72)) ex135)) ex136).symm).ext xc) o130 ex131 (DomLe.dj dm132 (Dj.un_l (Dj.emp_l _) (Dj.un_l (Dj.emp_l _) (Dj.of_fresh ex138 f122).symm)) (ex138.ext x117)).symm (by first | omega | (simp only [ln] at *; omega)) (by first | omega | (simp only [ln] at *; omega)) fun hx141 vx142 wx143 hw144 o145 ex146 y147 dh148 dm149 => ?_
    obtain ⟨a150, c151, rfl⟩ := o145.shape
    refine LP_ev ok 5 [(7, .slice a150 (List.length ((out ++ ([((Record.mk r61.Area r61.House r61.Values) : Record)])) ++ ([((Record.mk r114.Area r114.House r114.Values) : Record)]))) c151)] 6 rfl rfl ?_
    refine LP_end _ rfl ?_
    have X153 := (X35.step x65 (DomLe.dom D single_dom))
    have f152 := f79.mono X153.size
    have f154 := f70.mono X35.size
    have X156 := ((X153.stepx x77).step y (f152.dom _))
    have f155 := DomLe.fresh dm (Fresh.un (emp_fresh _) (Fresh.un (emp_fresh _) f154)) X156.size
    have X158 := (X156.stepx x86)
    have f157 := DomLe.fresh dm100 (Fresh.un f f155) X158.size
    have f160 := DomLe.fresh dm100 (Fresh.un f f155) X158.size
    have X162 := ((X158.step (But.dom y99 dh) (f.dom _)).step x110 (DomLe.dom D single_dom))
    have f161 := f122.mono X162.size
    have X164 := (X162.stepx x117)
    have f163 := DomLe.fresh dm132 (Fresh.un (emp_fresh _) (Fresh.un (emp_fresh _) f161)) X164.size
    have f165 := DomLe.fresh dm149 (Fresh.un f160 f163) (X164.stepx x129).size
    have ex167 := ((ex106.ext x77).but y (Dj.of_fresh ex106 f79).symm)
    have ex168 := (ex167.ext x86)
    have ex170 := (ex26.but x65 (Dj.box d15))
    have ex171 := ((ex170.ext x77).but y (Dj.of_fresh ex170 f79).symm)
    have ex172 := (ex171.ext x86)
    have ex174 := (ex27.but x65 (Dj.box d16))
    have ex175 := ((ex174.ext x77).but y (Dj.of_fresh ex174 f79).symm)
    have ex176 := (ex175.ext x86)
    have ex179 := (ex107.but x110 (Dj.box d))
    have ex180 := (ex179.ext x117)
    have ex182 := ((ex172.but (But.dom y99 dh) d32).but x110 (Dj.box d15))
    have ex183 := (ex182.ext x117)
    have ex185 := ((ex176.but (But.dom y99 dh) d33).but x110 (Dj.box d16))
    have ex186 := (ex185.ext x117)
    have ex188 := (ex111.ext x117)
    exact ⟨((out ++ ([((Record.mk r61.Area r61.House r61.Values) : Record)])) ++ ([((Record.mk r114.Area r114.House r114.Values) : Record)]), r104, r105), H, _, .slice a150 (List.length ((out ++ ([((Record.mk r61.Area r61.House r61.Values) : Record)])) ++ ([((Record.mk r114.Area r114.House r114.Values) : Record)]))) c151, hx141, env_eq ⟨rfl, rfl, rfl, rfl, rfl, trivial⟩, ((((((((X35.step x65 (DomLe.dom D single_dom)).stepx x77).step y (f152.dom _)).stepx x86).step (But.dom y99 dh) (f.dom _)).step x110 (DomLe.dom D single_dom)).stepx xc).step (But.dom y147 dh148) (f157.dom _)), o145, ex146, f165, (((ex107.but x110 (Dj.box d)).ext xc).but (But.dom y147 dh148) (DomLe.dj dm100 (Dj.un_l d31 (DomLe.dj dm (Dj.un_l (Dj.emp_l _) (Dj.un_l (Dj.emp_l _) (Dj.of_fresh ex25 f70).symm)) ex167)) ex168)), ((((((((ex26.but x65 (Dj.box d15)).ext x77).but y (Dj.of_fresh ex170 f79).symm).ext x86).but (But.dom y99 dh) d32).but x110 (Dj.box d15)).ext xc).but (But.dom y147 dh148) (DomLe.dj dm100 (Dj.un_l d32 (DomLe.dj dm (Dj.un_l (Dj.emp_l _) (Dj.un_l (Dj.emp_l _) (Dj.of_fresh ex26 f70).symm)) ex171)) ex172)), ((((((((ex27.but x65 (Dj.box d16)).ext x77).but y (Dj.of_fresh ex174 f79).symm).ext x86).but (But.dom y99 dh) d33).but x110 (Dj.box d16)).ext xc).but (But.dom y147 dh148) (DomLe.dj dm100 (Dj.un_l d33 (DomLe.dj dm (Dj.un_l (Dj.emp_l _) (Dj.un_l (Dj.emp_l _) (Dj.of_fresh ex27 f70).symm)) ex175)) ex176)), ((ex111.ext xc).but (But.dom y147 dh148) (Dj.box (DomLe.dj dm100 (Dj.un_l (Dj.box d34.symm).symm (DomLe.dj dm (Dj.un_l (Dj.emp_l _) (Dj.un_l (Dj.emp_l _) d72)) ex135)) ex136).symm).symm), (DomLe.dj dm149 (Dj.un_l (DomLe.dj dm100 (Dj.un_l d31 (DomLe.dj dm (Dj.un_l (Dj.emp_l _) (Dj.un_l (Dj.emp_l _) (Dj.of_fresh ex25 f70).symm)) ex167)) ex168) (DomLe.dj dm132 (Dj.un_l (Dj.emp_l _) (Dj.un_l (Dj.emp_l _) (Dj.of_fresh ex179 f122).symm)) ex180)) (ex180.ext x129)), (DomLe.dj dm149 (Dj.un_l (DomLe.dj dm100 (Dj.un_l d32 (DomLe.dj dm (Dj.un_l (Dj.emp_l _) (Dj.un_l (Dj.emp_l _) (Dj.of_fresh ex26 f70).symm)) ex171)) ex172) (DomLe.dj dm132 (Dj.un_l (Dj.emp_l _) (Dj.un_l (Dj.emp_l _) (Dj.of_fresh ex182 f122).symm)) ex183)) (ex183.ext x129)), (DomLe.dj dm149 (Dj.un_l (DomLe.dj dm100 (Dj.un_l d33 (DomLe.dj dm (Dj.un_l (Dj.emp_l _) (Dj.un_l (Dj.emp_l _) (Dj.of_fresh ex27 f70).symm)) ex175)) ex176) (DomLe.dj dm132 (Dj.un_l (Dj.emp_l _) (Dj.un_l (Dj.emp_l _) (Dj.of_fresh ex185 f122).symm)) ex186)) (ex186.ext x129)), (DomLe.dj dm149 (Dj.un_l (Dj.box (DomLe.dj dm100 (Dj.un_l (Dj.box d34.symm).symm (DomLe.dj dm (Dj.un_l (Dj.emp_l _) (Dj.un_l (Dj.emp_l _) d72)) ex135)) ex136).symm).symm (DomLe.dj dm132 (Dj.un_l (Dj.emp_l _) (Dj.un_l (Dj.emp_l _) (Dj.of_fresh ex111 f122).symm)) ex188)) (ex188.ext x129))⟩
   have H := H.2 hc112
   refine W_skip ?_
   have X191 := (X35.step x65 (DomLe.dom D single_dom))
   have f190 := f79.mono X191.size
   have ex193 := ((ex71.ext x77).but y (Dj.of_fresh ex71 f79).symm)
   have ex194 := (ex193.ext x86)
   have f196 := f70.mono X35.size
   have X198 := ((X191.stepx x77).step y (f190.dom _))
   have f197 := DomLe.fresh dm (Fresh.un (emp_fresh _) (Fresh.un (emp_fresh _) f196)) X198.size
   have f199 := DomLe.fresh dm100 (Fresh.un f f197) (X198.stepx x86).size
   have ex202 := (ex26.but x65 (Dj.box d15))
   have ex204 := (ex27.but x65 (Dj.box d16))
   have ex206 := ((ex106.ext x77).but y (Dj.of_fresh ex106 f79).symm)
   have ex208 := ((ex202.ext x77).but y (Dj.of_fresh ex202 f79).symm)
   have ex210 := ((ex204.ext x77).but y (Dj.of_fresh ex204 f79).symm)
   exact ⟨(out ++ ([((Record.mk r61.Area r61.House r61.Values) : Record)]), r104, r105), H, _, .slice a101 (List.length (out ++ ([((Record.mk r61.Area r61.House r61.Values) : Record)]))) c102, hx94, env_eq ⟨rfl, rfl, rfl, rfl, rfl, trivial⟩, ((((((X35.step x65 (DomLe.dom D single_dom)).stepx x77).step y (f190.dom _)).stepx x86).step (But.dom y99 dh) (f.dom _)).step x110 (DomLe.dom D single_dom)), o97, (ex98.but x110 (DomLe.dj dm100 (Dj.un_l (Dj.box d34.symm).symm (DomLe.dj dm (Dj.un_l (Dj.emp_l _) (Dj.un_l (Dj.emp_l _) d72)) ex193)) ex194).symm), f199, (ex107.but x110 (Dj.box d)), ((((((ex26.but x65 (Dj.box d15)).ext x77).but y (Dj.of_fresh ex202 f79).symm).ext x86).but (But.dom y99 dh) d32).but x110 (Dj.box d15)), ((((((ex27.but x65 (Dj.box d16)).ext x77).but y (Dj.of_fresh ex204 f79).symm).ext x86).but (But.dom y99 dh) d33).but x110 (Dj.box d16)), ex111, (DomLe.dj dm100 (Dj.un_l d31 (DomLe.dj dm (Dj.un_l (Dj.emp_l _) (Dj.un_l (Dj.emp_l _) (Dj.of_fresh ex25 f70).symm)) ex206)) (ex206.ext x86)), (DomLe.dj dm100 (Dj.un_l d32 (DomLe.dj dm (Dj.un_l (Dj.emp_l _) (Dj.un_l (Dj.emp_l _) (Dj.of_fresh ex26 f70).symm)) ex208)) (ex208.ext x86)), (DomLe.dj dm100 (Dj.un_l d33 (DomLe.dj dm (Dj.un_l (Dj.emp_l _) (Dj.un_l (Dj.emp_l _) (Dj.of_fresh ex27 f70).symm)) ex210)) (ex210.ext x86)), (Dj.box (DomLe.dj dm100 (Dj.un_l (Dj.box d34.symm).symm (DomLe.dj dm (Dj.un_l (Dj.emp_l _) (Dj.un_l (Dj.emp_l _) d72)) ex193)) ex194).symm).symm⟩
  rintro ⟨out40, atx46, seed47⟩ _ wx48 ⟨H, ρ, vx41, hx42, rfl, HF⟩
  revert HF
  refine bb9 fun X59 o43 ex44 f45 ex49 ex50 ex51 ex54 => ?_
  refine bb4 fun d55 d56 d57 d58 => ?_
  subst hk
  obtain ⟨a52, c53, rfl⟩ := o43.shape
  refine W_region ?_
  refine LP_ev ok 0 [(14, I k), (15, I (wr (k - 1))), (8, I (wr (k - 1)))] 3 rfl rfl ?_
  exact LP_end _ rfl ⟨(out40, wr (k - 1), atx46, seed47), ⟨H.1, _, sl a52 out40 c53, hx42, env_eq ⟨rfl, rfl, rfl, rfl, rfl, trivial⟩, X59, o43, ex44, f45, ex49, ex50, ex51, ex54, d55, d56, d57, d58⟩, H.2⟩
 have H := H.2 hc
 refine W_exit ?_
 refine (if_pos rfl).mpr ?_
 refine W_seq (W_region ?_)
 refine LP_ev ok 0 [(31, sl a28 out c29), (6, sl a28 out c29)] 2 rfl rfl ?_
 refine LP_end _ rfl (W_ret ?_)
 exact ⟨_, Ret_of [sl a28 out c29] ⟨⟨rfl, rfl⟩, trivial⟩, _, _, _, _, _, H, rfl, X35, o, ex23, f, ex30, d34⟩

theorem spec_l1Cur_anyData_w (c : L1Cur) (sx : List Variable) (Q : (List Record) → Int → Int → Prop) (H : spec_l1Cur_anyData c sx Q) (w : World) {vx : Value} {hx : PH} (r : RS hx vx c.Code) (ex : Sub hx w) {b : Nat} (ex2 : Sub (bx b 59 [vx, I c.At, .int .u64 c.Seed]) w) {vx3 : Value} {hx4 : PH} (r5 : RS hx4 vx3 sx) (ex6 : Sub hx4 w) (d : Dj (bx b 59 [vx, I c.At, .int .u64 c.Seed]) hx) (d9 : Dj (bx b 59 [vx, I c.At, .int .u64 c.Seed]) hx4) :
  CallsTo Try.prog 27 #[pb b, vx3] w fun v w' => ∃ r0 m1_0 m1_1 u0 g0, Q r0 m1_0 m1_1 ∧ v = u0 ∧ But (bx b 59 [vx, I c.At, .int .u64 c.Seed]) w w' ∧ OD g0 u0 r0 ∧ Sub g0 w' ∧ Fresh w.heap.size g0 ∧ Sub (bx b 59 [vx, I m1_0, .int .u64 m1_1]) w' ∧ Dj g0 (bx b 59 [vx, I m1_0, .int .u64 m1_1]) := by
 obtain ⟨a, c1, rfl⟩ := r.shape
 obtain ⟨a7, c8, rfl⟩ := r5.shape
 refine enter (args := [pb b, sl a7 sx c8]) 43 Try.func27 rfl rfl rfl ?_
 refine W_forget [(0, pb b), (1, sl a7 sx c8)] ⟨rfl, rfl, trivial⟩ fun ρ => ?_
 have D : Dom (bx b 59 [sl a c.Code c1, I c.At, .int .u64 c.Seed]) (bx b 59 [sl a c.Code c1, I c.At, .int .u64 c.Seed]) := (Dom.refl _)
 have X := But.refl (bx b 59 [sl a c.Code c1, I c.At, .int .u64 c.Seed]) w
 refine W_seq (W_region ?_)
 refine LP_ev ok 0 [(4, .slice none 0 0)] 1 rfl rfl ?_
 refine LP_end _ rfl (W_seq (W_region ?_))
 refine LP_ev ok 0 [(6, pb b), (7, sl a7 sx c8)] 2 rfl rfl ?_
 refine LP_lit (α := Int) (g := emp) 2 (vs := [I 0, I 1, I 2, I 3]) (xs := [0, 1, 2, 3]) rfl rfl rfl Try.underlying25 ti_3 rfl rfl ⟨⟨_, rfl, rfl⟩, ⟨_, rfl, rfl⟩, ⟨_, rfl, rfl⟩, ⟨_, rfl, rfl⟩, trivial⟩ rfl rfl fun hx10 vx11 wx x o ex12 f => ?_
 obtain ⟨a13, c14, rfl⟩ := o.shape
 have ex18 := (ex.ext x)
 have ex20 := (ex6.ext x)
 refine LP_call 3 rfl rfl rfl cal_73 rfl (spec_l1Cur_data_w _ _ _ _ H wx r ex18 (ex2.ext x) r5 ex20 o.readf ex12 d d9 (Dj.of_fresh ex2 f)) ?_
 rintro _ wx21 ⟨r15, r16, r17, vx23, hx24, H, rfl, x22, HF⟩
 revert HF
 refine bb5 fun o25 ex26 f27 ex28 d29 => ?_
 obtain ⟨a30, c31, rfl⟩ := o25.shape
 refine LP_ev ok 4 [(5, sl a30 r15 c31)] 5 rfl rfl ?_
 refine LP_end _ rfl ?_
 have X32 := ((X.stepx x).step x22 (Dom.le D _))
 have ex33 := (ex18.but x22 d)
 have ex34 := (ex20.but x22 d9)
 have f35 := f27.mono (X.stepx x).size
 obtain ⟨k, hk, H⟩ := jn_elim H
 refine W_join2 (S := (List Record) × Int × Int) (fun s ρ' w' => k s.1 s.2.1 s.2.2 ∧ ∃ (ρ : Env) (vx37 : Value) (hx38 : PH), ρ' = setAll [(5, vx37)] ρ ∧ But (bx b 59 [sl a c.Code c1, I c.At, .int .u64 c.Seed]) w w' ∧ OD hx38 vx37 s.1 ∧ Sub hx38 w' ∧ Fresh w.heap.size hx38 ∧ Sub hx w' ∧ Sub (bx b 59 [sl a c.Code c1, I s.2.1, .int .u64 s.2.2]) w' ∧ Dj hx38 hx ∧ Dj hx38 (bx b 59 [sl a c.Code c1, I s.2.1, .int .u64 s.2.2])) ?_ ?_
 ·refine W_seq (W_region ?_)
  refine LP_ev ok 0 [(10, pb b)] 1 rfl rfl ?_
  refine LP_call 1 rfl rfl rfl cal_74 rfl (spec_l1Cur_pick_w _ _ _ H wx21 r ex33 ex28 (Dj.box d)) ?_
  rintro _ wx53 ⟨r50, r51, r52, H, rfl, x54, ex55⟩
  refine LP_end _ rfl ?_
  refine W_block ?_
  refine W_seq (W_region ?_)
  refine LP_ev ok 0 [(13, .bool (r50 == 0)), (12, .bool (r50 == 0))] 2 rfl rfl ?_
  refine LP_end _ rfl ?_
  refine W_cond (r50 == 0) rfl (fun hc => ?_) (fun hc => ?_)
  ·have H := H.1 hc
   refine W_region ?_
   refine LP_ev ok 0 [(14, sl a30 r15 c31), (15, pb b)] 2 rfl rfl ?_
   refine LP_lit (α := Int) (g := emp) 2 (vs := [I ((-1)), I 29, I 30]) (xs := [(-1), 29, 30]) rfl rfl rfl Try.underlying25 ti_3 rfl rfl ⟨⟨_, rfl, rfl⟩, ⟨_, rfl, rfl⟩, ⟨_, rfl, rfl⟩, trivial⟩ rfl rfl fun hx56 vx57 wx58 x59 o60 ex61 f62 => ?_
   obtain ⟨a63, c64, rfl⟩ := o60.shape
   have ex68 := ((ex33.but x54 (Dj.box d)).ext x59)
   refine LP_call 3 rfl rfl rfl cal_75 rfl (spec_l1Cur_among_w _ _ _ H wx58 r ex68 (ex55.ext x59) o60.readf ex61 (Dj.box d) (Dj.of_fresh ex55 f62)) ?_
   rintro _ wx70 ⟨r65, r66, r67, H, rfl, x71, ex72⟩
   refine LP_ev ok 4 [(18, pb b)] 5 rfl rfl ?_
   refine LP_lit (α := Int) (g := emp) 5 (vs := [I 0, I 999, I 1000, I ((-1))]) (xs := [0, 999, 1000, (-1)]) rfl rfl rfl Try.underlying25 ti_3 rfl rfl ⟨⟨_, rfl, rfl⟩, ⟨_, rfl, rfl⟩, ⟨_, rfl, rfl⟩, ⟨_, rfl, rfl⟩, trivial⟩ rfl rfl fun hx73 vx74 wx75 x76 o77 ex78 f79 => ?_
   obtain ⟨a80, c81, rfl⟩ := o77.shape
   have ex85 := ((ex68.but x71 (Dj.box d)).ext x76)
   refine LP_call 6 rfl rfl rfl cal_75 rfl (spec_l1Cur_among_w _ _ _ H wx75 r ex85 (ex72.ext x76) o77.readf ex78 (Dj.box d) (Dj.of_fresh ex72 f79)) ?_
   rintro _ wx87 ⟨r82, r83, r84, H, rfl, x88, ex89⟩
   refine LP_ev ok 7 [(21, pb b), (22, sl a7 sx c8)] 9 rfl rfl ?_
   have ex93 := (ex85.but x88 (Dj.box d))
   refine LP_call 9 rfl rfl rfl cal_72 rfl (spec_l1Cur_anyValues_w _ _ _ H wx87 r ex93 ex89 r5 (((((ex34.but x54 (Dj.box d9)).ext x59).but x71 (Dj.box d9)).ext x76).but x88 (Dj.box d9)) (Dj.box d) (Dj.box d9)) ?_
   rintro _ wx95 ⟨r90, r91, r92, vx97, hx98, H, rfl, x96, HF⟩
   revert HF
   refine bb5 fun o99 ex100 f101 ex102 d103 => ?_
   obtain ⟨a104, c105, rfl⟩ := o99.shape
   refine LP_ev ok 10 [(24, .agg #[I r65, I r82, sl a104 r90 c105])] 11 rfl rfl ?_
   have rv : RVO (un emp (un emp hx98)) (.agg #[I r65, I r82, sl a104 r90 c105]) ((Record.mk r65 r82 r90) : Record) := ⟨_, ⟨_, _, _, _, rfl, rfl, (Dj.emp_l _), ⟨rfl, rfl⟩, ⟨_, _, _, _, rfl, rfl, (Dj.emp_l _), ⟨rfl, rfl⟩, ⟨_, rfl, (OS.od o99)⟩⟩⟩, rfl⟩
   refine LP_litD (α := Record) 11 (vs := [.agg #[I r65, I r82, sl a104 r90 c105]]) (xs := [((Record.mk r65 r82 r90) : Record)]) rfl rfl rfl Try.underlying26 ti_40 rfl rfl (allO.one rv) (Sub.un (emp_sub _) (Sub.un (emp_sub _) ex100)) rfl rfl fun hx106 vx107 wx108 x109 o110 ex111 dm => ?_
   obtain ⟨a112, c113, rfl⟩ := o110.shape
   have ex115 := (((((ex26.but x54 d29.symm).ext x59).but x71 (Dj.box d29.symm)).ext x76).but x88 (Dj.box d29.symm))
   obtain ⟨hb, H⟩ := H
   refine LP_appendD (α := Record) 12 rfl rfl rfl Try.underlying26 ti_40 rfl rfl rfl o25 (((((((ex26.but x54 d29.symm).ext x59).but x71 (Dj.box d29.symm)).ext x76).but x88 (Dj.box d29.symm)).but x96 (Dj.box d29.symm)).ext x109) o110 ex111 (DomLe.dj dm (Dj.un_l (Dj.emp_l _) (Dj.un_l (Dj.emp_l _) (Dj.of_fresh ex115 f101).symm)) (ex115.but x96 (Dj.box d29.symm))).symm (by first | omega | (simp only [ln] at *; omega)) (by first | omega | (simp only [ln] at *; omega)) fun hx117 vx118 wx119 hw o120 ex121 y dh dm122 => ?_
   obtain ⟨a123, c124, rfl⟩ := o120.shape
   refine LP_ev ok 13 [(5, .slice a123 (List.length (r15 ++ ([((Record.mk r65 r82 r90) : Record)]))) c124)] 14 rfl rfl ?_
   refine LP_end _ rfl ?_
   have X127 := (((((X32.step x54 (DomLe.dom D single_dom)).stepx x59).step x71 (DomLe.dom D single_dom)).stepx x76).step x88 (DomLe.dom D single_dom))
   have f126 := f101.mono X127.size
   have X129 := (X127.step x96 (DomLe.dom D single_dom))
   have f128 := DomLe.fresh dm (Fresh.un (emp_fresh _) (Fresh.un (emp_fresh _) f126)) X129.size
   have f130 := DomLe.fresh dm122 (Fresh.un f35 f128) (X129.stepx x109).size
   have ex134 := (ex93.but x96 (Dj.box d))
   exact ⟨(r15 ++ ([((Record.mk r65 r82 r90) : Record)]), r91, r92), H, _, .slice a123 (List.length (r15 ++ ([((Record.mk r65 r82 r90) : Record)]))) c124, hx117, env_eq ⟨rfl, trivial⟩, ((((((((X32.step x54 (DomLe.dom D single_dom)).stepx x59).step x71 (DomLe.dom D single_dom)).stepx x76).step x88 (DomLe.dom D single_dom)).step x96 (DomLe.dom D single_dom)).stepx x109).step (But.dom y dh) (f35.dom _)), o120, ex121, f130, (((ex93.but x96 (Dj.box d)).ext x109).but (But.dom y dh) (Dj.of_fresh ex18 f27).symm), ((ex102.ext x109).but (But.dom y dh) (Dj.box d29.symm).symm), (DomLe.dj dm122 (Dj.un_l (Dj.of_fresh ex18 f27).symm (DomLe.dj dm (Dj.un_l (Dj.emp_l _) (Dj.un_l (Dj.emp_l _) (Dj.of_fresh ex93 f101).symm)) ex134)) (ex134.ext x109)), (DomLe.dj dm122 (Dj.un_l (Dj.box d29.symm).symm (DomLe.dj dm (Dj.un_l (Dj.emp_l _) (Dj.un_l (Dj.emp_l _) d103)) ex102)) (ex102.ext x109))⟩
  have H := H.2 hc
  refine W_seq (W_region ?_)
  refine LP_ev ok 0 [(28, .bool (r50 == 1)), (27, .bool (r50 == 1))] 2 rfl rfl ?_
  refine LP_end _ rfl ?_
  refine W_cond (r50 == 1) rfl (fun hc137 => ?_) (fun hc137 => ?_)
  ·have H := H.1 hc137
   refine W_block ?_
   obtain ⟨J, m, Hx, H⟩ := H
   refine W_loop (S := (List Record) × Int × Int) (fun s ρ' w' => J s.1 s.2.1 s.2.2 ∧ ∃ (ρ : Env) (vx139 : Value) (hx140 : PH), ρ' = setAll [(0, pb b), (1, sl a7 sx c8), (5, vx139)] ρ ∧ But (bx b 59 [sl a c.Code c1, I c.At, .int .u64 c.Seed]) w w' ∧ OD hx140 vx139 s.1 ∧ Sub hx140 w' ∧ Fresh w.heap.size hx140 ∧ Sub hx w' ∧ Sub hx4 w' ∧ Sub (bx b 59 [sl a c.Code c1, I s.2.1, .int .u64 s.2.2]) w' ∧ Dj hx140 hx ∧ Dj hx140 hx4 ∧ Dj hx140 (bx b 59 [sl a c.Code c1, I s.2.1, .int .u64 s.2.2])) (fun s => m s.1 s.2.1 s.2.2) (r15, r51, r52) ⟨Hx, _, sl a30 r15 c31, hx24, env_eq ⟨rfl, rfl, rfl, trivial⟩, (X32.step x54 (DomLe.dom D single_dom)), o25, (ex26.but x54 d29.symm), f35, (ex33.but x54 (Dj.box d)), (ex34.but x54 (Dj.box d9)), ex55, (Dj.of_fresh ex18 f27).symm, (Dj.of_fresh ex20 f27).symm, (Dj.box d29.symm).symm⟩ ?_
   rintro ⟨out138, atx144, seed145⟩ _ wx146 ⟨Hi, ρ, vx139, hx140, rfl, HF⟩
   revert HF
   refine bb9 fun X155 o141 ex142 f143 ex147 ex148 ex151 d152 => ?_
   refine bb2 fun d153 d154 => ?_
   have H := H out138 atx144 seed145 Hi
   obtain ⟨a149, c150, rfl⟩ := o141.shape
   refine W_seq ?_
   refine W_seq (W_region ?_)
   refine LP_ev ok 0 [(29, sl a149 out138 c150), (30, I (ln out138)), (31, pb b)] 3 rfl rfl ?_
   refine LP_call 3 rfl rfl rfl cal_74 rfl (spec_l1Cur_pick_w _ _ _ H wx146 r ex147 ex151 (Dj.box d)) ?_
   rintro _ wx163 ⟨r160, r161, r162, H, rfl, x164, ex165⟩
   refine LP_ev ok 4 [(33, I (wr (40 + r160))), (34, .bool (decide ((ln out138) < (wr (40 + r160)))))] 6 rfl rfl ?_
   refine LP_end _ rfl ?_
   refine W_cond (decide ((ln out138) < (wr (40 + r160)))) rfl (fun hc166 => ?_) (fun hc166 => ?_)
   ·have H := H.1 hc166
    refine W_skip ?_
    refine W_block ?_
    refine W_region ?_
    refine LP_ev ok 0 [(35, sl a149 out138 c150), (36, pb b), (37, sl a7 sx c8)] 3 rfl rfl ?_
    have ex170 := (ex147.but x164 (Dj.box d))
    have ex171 := (ex148.but x164 (Dj.box d9))
    refine LP_call 3 rfl rfl rfl cal_76 rfl (spec_l1Cur_values_w _ _ _ H wx163 r ex170 ex165 r5 ex171 (Dj.box d) (Dj.box d9)) ?_
    rintro _ wx172 ⟨r167, r168, r169, vx174, hx175, H, rfl, x173, HF⟩
    revert HF
    refine bb5 fun o176 ex177 f178 ex179 d180 => ?_
    obtain ⟨a181, c182, rfl⟩ := o176.shape
    refine LP_ev ok 4 [(39, .agg #[I 0, I 0, sl a181 r167 c182])] 5 rfl rfl ?_
    have rv183 : RVO (un emp (un emp hx175)) (.agg #[I 0, I 0, sl a181 r167 c182]) ((Record.mk 0 0 r167) : Record) := ⟨_, ⟨_, _, _, _, rfl, rfl, (Dj.emp_l _), ⟨rfl, rfl⟩, ⟨_, _, _, _, rfl, rfl, (Dj.emp_l _), ⟨rfl, rfl⟩, ⟨_, rfl, (OS.od o176)⟩⟩⟩, rfl⟩
    refine LP_litD (α := Record) 5 (vs := [.agg #[I 0, I 0, sl a181 r167 c182]]) (xs := [((Record.mk 0 0 r167) : Record)]) rfl rfl rfl Try.underlying26 ti_40 rfl rfl (allO.one rv183) (Sub.un (emp_sub _) (Sub.un (emp_sub _) ex177)) rfl rfl fun hx184 vx185 wx186 x187 o188 ex189 dm190 => ?_
    obtain ⟨a191, c192, rfl⟩ := o188.shape
    have ex194 := (ex142.but x164 d154.symm)
    obtain ⟨hb196, H⟩ := H
    refine LP_appendD (α := Record) 6 rfl rfl rfl Try.underlying26 ti_40 rfl rfl rfl o141 (((ex142.but x164 d154.symm).but x173 (Dj.box d154.symm)).ext x187) o188 ex189 (DomLe.dj dm190 (Dj.un_l (Dj.emp_l _) (Dj.un_l (Dj.emp_l _) (Dj.of_fresh ex194 f178).symm)) (ex194.but x173 (Dj.box d154.symm))).symm (by first | omega | (simp only [ln] at *; omega)) (by first | omega | (simp only [ln] at *; omega)) fun hx197 vx198 wx199 hw200 o201 ex202 y203 dh204 dm205 => ?_
    obtain ⟨a206, c207, rfl⟩ := o201.shape
    refine LP_ev ok 7 [(5, .slice a206 (List.length (out138 ++ ([((Record.mk 0 0 r167) : Record)]))) c207)] 8 rfl rfl ?_
    refine LP_end _ rfl ?_
    have X210 := (X155.step x164 (DomLe.dom D single_dom))
    have f209 := f178.mono X210.size
    have X212 := (X210.step x173 (DomLe.dom D single_dom))
    have f211 := DomLe.fresh dm190 (Fresh.un (emp_fresh _) (Fresh.un (emp_fresh _) f209)) X212.size
    have f213 := DomLe.fresh dm205 (Fresh.un f143 f211) (X212.stepx x187).size
    have ex218 := (ex170.but x173 (Dj.box d))
    have ex220 := (ex171.but x173 (Dj.box d9))
    exact ⟨(out138 ++ ([((Record.mk 0 0 r167) : Record)]), r168, r169), ⟨H.1, _, .slice a206 (List.length (out138 ++ ([((Record.mk 0 0 r167) : Record)]))) c207, hx197, env_eq ⟨rfl, rfl, rfl, trivial⟩, ((((X155.step x164 (DomLe.dom D single_dom)).step x173 (DomLe.dom D single_dom)).stepx x187).step (But.dom y203 dh204) (f143.dom _)), o201, ex202, f213, (((ex170.but x173 (Dj.box d)).ext x187).but (But.dom y203 dh204) d152), (((ex171.but x173 (Dj.box d9)).ext x187).but (But.dom y203 dh204) d153), ((ex179.ext x187).but (But.dom y203 dh204) (Dj.box d154.symm).symm), (DomLe.dj dm205 (Dj.un_l d152 (DomLe.dj dm190 (Dj.un_l (Dj.emp_l _) (Dj.un_l (Dj.emp_l _) (Dj.of_fresh ex170 f178).symm)) ex218)) (ex218.ext x187)), (DomLe.dj dm205 (Dj.un_l d153 (DomLe.dj dm190 (Dj.un_l (Dj.emp_l _) (Dj.un_l (Dj.emp_l _) (Dj.of_fresh ex171 f178).symm)) ex220)) (ex220.ext x187)), (DomLe.dj dm205 (Dj.un_l (Dj.box d154.symm).symm (DomLe.dj dm190 (Dj.un_l (Dj.emp_l _) (Dj.un_l (Dj.emp_l _) d180)) ex179)) (ex179.ext x187))⟩, H.2⟩
   have H := H.2 hc166
   refine W_exit ?_
   refine (if_pos rfl).mpr ?_
   exact ⟨(out138, r161, r162), H, _, sl a149 out138 c150, hx140, env_eq ⟨rfl, trivial⟩, (X155.step x164 (DomLe.dom D single_dom)), o141, (ex142.but x164 d154.symm), f143, (ex147.but x164 (Dj.box d)), ex165, d152, (Dj.box d154.symm).symm⟩
  have H := H.2 hc137
  exact W_skip ⟨(r15, r51, r52), H, _, sl a30 r15 c31, hx24, env_eq ⟨rfl, trivial⟩, (X32.step x54 (DomLe.dom D single_dom)), o25, (ex26.but x54 d29.symm), f35, (ex33.but x54 (Dj.box d)), ex55, (Dj.of_fresh ex18 f27).symm, (Dj.box d29.symm).symm⟩
 rintro ⟨out, atx, seed⟩ _ wx42 ⟨H, ρ, vx37, hx38, rfl, HF⟩
 revert HF
 refine bb8 fun X49 o39 ex40 f41 ex43 ex46 d47 d48 => ?_
 subst hk
 obtain ⟨a44, c45, rfl⟩ := o39.shape
 refine W_seq (W_region ?_)
 refine LP_ev ok 0 [(42, sl a44 out c45), (4, sl a44 out c45)] 2 rfl rfl ?_
 refine LP_end _ rfl (W_ret ?_)
 exact ⟨_, Ret_of [sl a44 out c45] ⟨⟨rfl, rfl⟩, trivial⟩, _, _, _, _, _, H, rfl, X49, o39, ex40, f41, ex46, d48⟩

theorem spec_DrawMendData_w (code : List B8) (Q : (List Variable) → (List Edit) → (List Int) → (List Record) → Prop) (H : spec_DrawMendData code Q) (w : World) {vx : Value} {hx : PH} (r : RS hx vx code) (ex : Sub hx w) :
  CallsTo Try.prog 5 #[vx] w fun v w' => ∃ r0 r1 r2 r3 u0 g0 u1 g1 u2 g2 u3 g3, Q r0 r1 r2 r3 ∧ v = .tuple #[u0, u1, u2, u3] ∧ Ext w w' ∧ OS 90 g0 emp u0 r0 ∧ Sub g0 w' ∧ Fresh w.heap.size g0 ∧ OD g1 u1 r1 ∧ Sub g1 w' ∧ Fresh w.heap.size g1 ∧ OS 3 g2 emp u2 r2 ∧ Sub g2 w' ∧ Fresh w.heap.size g2 ∧ OD g3 u3 r3 ∧ Sub g3 w' ∧ Fresh w.heap.size g3 ∧ Dj g0 g1 ∧ Dj g0 g2 ∧ Dj g0 g3 ∧ Dj g1 g2 ∧ Dj g1 g3 ∧ Dj g2 g3 := by
 obtain ⟨a, c, rfl⟩ := r.shape
 refine enter (args := [sl a code c]) 27 Try.func5 rfl rfl rfl ?_
 refine W_forget [(0, sl a code c)] ⟨rfl, trivial⟩ fun ρ => ?_
 have X := But.refl emp w
 refine W_seq (W_region ?_)
 refine LP_ev ok 0 [(2, .slice none 0 0), (3, .slice none 0 0), (4, .slice none 0 0), (5, .slice none 0 0)] 4 rfl rfl ?_
 refine LP_end _ rfl (W_seq (W_region ?_))
 refine LP_ev ok 0 [(11, sl a code c), (12, .agg #[sl a code c, I 0, .int .u64 0])] 2 rfl rfl ?_
 refine LP_box 2 (cs := [sl a code c, I 0, .int .u64 0]) rfl rfl rfl rfl rfl fun b wx x ex1 f => ?_
 refine LP_ev ok 3 [(6, pb b)] 4 rfl rfl ?_
 refine LP_end _ rfl (W_seq (W_region ?_))
 refine LP_ev ok 0 [(15, pb b)] 1 rfl rfl ?_
 have ex8 := (ex.ext x)
 refine LP_call 1 rfl rfl rfl cal_26 rfl (spec_l1Cur_mended_w _ _ H wx r ex8 ex1 (Dj.of_fresh ex f).symm) ?_
 rintro _ wx9 ⟨r2, r3, r4, r5, r6, r7, vx11, hx12, vx15, hx16, vx20, hx21, vx25, hx26, H, rfl, x10, HF⟩
 revert HF
 refine bb9 fun o ex13 f14 o17 ex18 f19 o22 ex23 => ?_
 refine bb9 fun f24 o27 ex28 f29 ex30 d d31 d32 => ?_
 refine bb7 fun d33 d34 d35 d36 d37 d38 d39 => ?_
 obtain ⟨a40, c41, rfl⟩ := o.shape
 obtain ⟨a42, c43, rfl⟩ := o17.shape
 obtain ⟨a44, c45, rfl⟩ := o22.shape
 obtain ⟨a46, c47, rfl⟩ := o27.shape
 refine LP_ev ok 2 [(14, .tuple #[sl a40 r2 c41, sl a42 r3 c43, sl a44 r4 c45, sl a46 r5 c47]), (17, sl a40 r2 c41), (18, sl a42 r3 c43), (19, sl a44 r4 c45), (20, sl a46 r5 c47), (7, sl a40 r2 c41), (8, sl a42 r3 c43), (9, sl a44 r4 c45), (10, sl a46 r5 c47)] 11 rfl rfl ?_
 refine LP_end _ rfl (W_seq (W_region ?_))
 refine LP_ev ok 0 [(21, sl a40 r2 c41), (22, sl a42 r3 c43), (23, sl a44 r4 c45), (24, pb b), (25, sl a40 r2 c41)] 5 rfl rfl ?_
 refine LP_call 5 rfl rfl rfl cal_27 rfl (spec_l1Cur_anyData_w _ _ _ H wx9 r (ex8.but x10 (Dj.of_fresh ex f).symm) ex30 o.readf ex13 (Dj.box (Dj.of_fresh ex f).symm) d33.symm) ?_
 rintro _ wx52 ⟨r48, r49, r50, vx54, hx55, H, rfl, x53, HF⟩
 revert HF
 refine bb5 fun o56 ex57 f58 ex59 d60 => ?_
 obtain ⟨a61, c62, rfl⟩ := o56.shape
 refine LP_ev ok 6 [(2, sl a40 r2 c41), (3, sl a42 r3 c43), (4, sl a44 r4 c45), (5, sl a61 r48 c62)] 10 rfl rfl ?_
 refine LP_end _ rfl ?_
 try refine W_forget [(2, sl a40 r2 c41), (3, sl a42 r3 c43), (4, sl a44 r4 c45), (5, sl a61 r48 c62)] ⟨rfl, rfl, rfl, rfl, trivial⟩ fun ρ => ?_
 refine W_ret ?_
 have X65 := (X.stepx x)
 have f64 := f14.mono X65.size
 have f67 := f19.mono X65.size
 have f69 := f24.mono X65.size
 have f71 := f.mono X.size
 have X72 := (X65.step x10 (f71.dom _))
 have f70 := f58.mono X72.size
 exact ⟨_, Ret_of [sl a40 r2 c41, sl a42 r3 c43, sl a44 r4 c45, sl a61 r48 c62] ⟨⟨rfl, rfl⟩, ⟨rfl, rfl⟩, ⟨rfl, rfl⟩, ⟨rfl, rfl⟩, trivial⟩, _, _, _, _, _, _, _, _, _, _, _, _, H, rfl, (X72.step x53 ((Fresh.box f71).dom _)).ext, o, (ex13.but x53 d33.symm), f64, o17, (ex18.but x53 d36.symm), f67, o22, (ex23.but x53 d38.symm), f69, o56, ex57, f70, d, d31, (Dj.of_fresh ex13 f58), d34, (Dj.of_fresh ex18 f58), (Dj.of_fresh ex23 f58)⟩

theorem impl_isWord_w (sx : ByteArray) (Q : Bool → Prop) (H : impl_isWord sx Q) (w : World)  :
  CallsTo Try.prog 90 #[.string sx] w fun v w' => ∃ r0, Q r0 ∧ v = .bool r0 ∧ Ext w w' := by
 refine enter (args := [.string sx]) 28 Try.func90 rfl rfl rfl ?_
 refine W_forget [(0, .string sx)] ⟨rfl, trivial⟩ fun ρ => ?_
 have X := But.refl emp w
 refine W_seq (W_region ?_)
 refine LP_ev ok 0 [(2, .bool false)] 1 rfl rfl ?_
 refine LP_end _ rfl (W_seq ?_)
 obtain ⟨k, hk, H⟩ := jn_elim H
 refine W_join2 (S := Bool) (fun s ρ' w' => k s ∧ ∃ (ρ : Env), ρ' = setAll [(0, .string sx), (11, .bool s)] ρ ∧ w = w') ?_ ?_
 ·refine W_region ?_
  refine LP_ev ok 0 [(4, .string sx), (5, I (sln sx)), (6, .bool (decide ((sln sx) < 1))), (7, .bool (decide ((sln sx) < 1)))] 4 rfl rfl ?_
  refine LP_split 7 (decide ((sln sx) < 1)) rfl (fun hc => ?_) (fun hc => ?_)
  ·have H := H.1 hc
   refine LP_ev ok 4 [(8, undef), (9, undef), (10, undef), (11, .bool true)] 8 rfl rfl ?_
   exact LP_end _ rfl ⟨true, H, _, env_eq ⟨rfl, rfl, trivial⟩, rfl⟩
  have H := H.2 hc
  refine LP_ev ok 4 [(8, .string sx), (9, I (sln sx)), (10, .bool (decide ((sln sx) > 8))), (11, .bool (decide ((sln sx) > 8)))] 8 rfl rfl ?_
  exact LP_end _ rfl ⟨decide ((sln sx) > 8), H, _, env_eq ⟨rfl, rfl, trivial⟩, rfl⟩
 rintro x _ _ ⟨H, ρ, rfl, rfl⟩
 subst hk
 refine W_cond (x) rfl (fun hc1 => ?_) (fun hc1 => ?_)
 ·have H := H.1 hc1
  refine W_seq (W_region ?_)
  refine LP_ev ok 0 [(2, .bool false)] 1 rfl rfl ?_
  refine LP_end _ rfl (W_ret ?_)
  exact ⟨_, Ret_of [.bool false] ⟨⟨rfl, rfl⟩, trivial⟩, _, H, rfl, X.ext⟩
 have H := H.2 hc1
 refine W_skip ?_
 refine W_seq ?_
 refine W_seq (W_region ?_)
 refine LP_ev ok 0 [(12, .string sx), (13, I (sln sx)), (14, I 0)] 3 rfl rfl ?_
 refine LP_end _ rfl ?_
 refine W_block ?_
 obtain ⟨J, m, Hx, H⟩ := H
 refine W_loop (S := Int) (fun s ρ' w' => J s ∧ ∃ (ρ : Env), ρ' = setAll [(0, .string sx), (13, I (sln sx)), (14, I s)] ρ ∧ w = w') (fun s => m s) 0 ⟨Hx, _, env_eq ⟨rfl, rfl, rfl, trivial⟩, rfl⟩ ?_
 rintro x2 _ _ ⟨Hi, ρ, rfl, rfl⟩
 have H := H x2 Hi
 refine W_seq (W_region ?_)
 refine LP_ev ok 0 [(15, .bool (decide (x2 < (sln sx))))] 1 rfl rfl ?_
 refine LP_end _ rfl (W_seq ?_)
 refine W_cond (decide (x2 < (sln sx))) rfl (fun hc4 => ?_) (fun hc4 => ?_)
 ·have H := H.1 hc4
  refine W_skip ?_
  refine W_seq ?_
  refine W_block ?_
  refine W_seq (W_region ?_)
  refine LP_ev ok 0 [(16, I x2), (3, I x2)] 2 rfl rfl ?_
  refine LP_end _ rfl ?_
  obtain ⟨k7, hk8, H⟩ := jn_elim H
  refine W_join2 (S := Bool) (fun s ρ' w' => k7 s ∧ ∃ (ρ : Env), ρ' = setAll [(0, .string sx), (13, I (sln sx)), (14, I x2), (26, .bool s)] ρ ∧ w = w') ?_ ?_
  ·refine W_region ?_
   refine LP_ev ok 0 [(17, .string sx), (18, I x2)] 2 rfl rfl ?_
   obtain ⟨c, hi, hx, H⟩ := H
   refine LP_val 2 _ rfl rfl (ex_sidx rfl rfl rfl Try.underlying9 hi hx _) ?_
   refine LP_ev ok 3 [(20, .bool (decide ((((UInt8.toNat c : Nat) : Int)) < 97))), (21, .bool (decide ((((UInt8.toNat c : Nat) : Int)) < 97)))] 5 rfl rfl ?_
   refine LP_split 21 (decide ((((UInt8.toNat c : Nat) : Int)) < 97)) rfl (fun hc9 => ?_) (fun hc9 => ?_)
   ·have H := H.1 hc9
    refine LP_ev ok 5 [(22, undef), (23, undef), (24, undef), (25, undef), (26, .bool true)] 10 rfl rfl ?_
    exact LP_end _ rfl ⟨true, H, _, env_eq ⟨rfl, rfl, rfl, rfl, trivial⟩, rfl⟩
   have H := H.2 hc9
   refine LP_ev ok 5 [(22, .string sx), (23, I x2)] 7 rfl rfl ?_
   obtain ⟨c10, hi11, hx12, H⟩ := H
   refine LP_val 7 _ rfl rfl (ex_sidx rfl rfl rfl Try.underlying9 hi11 hx12 _) ?_
   refine LP_ev ok 8 [(25, .bool (decide ((((UInt8.toNat c10 : Nat) : Int)) > 122))), (26, .bool (decide ((((UInt8.toNat c10 : Nat) : Int)) > 122)))] 10 rfl rfl ?_
   exact LP_end _ rfl ⟨decide ((((UInt8.toNat c10 : Nat) : Int)) > 122), H, _, env_eq ⟨rfl, rfl, rfl, rfl, trivial⟩, rfl⟩
  rintro x5 _ _ ⟨H, ρ, rfl, rfl⟩
  subst hk8
  refine W_cond (x5) rfl (fun hc13 => ?_) (fun hc13 => ?_)
  ·have H := H.1 hc13
   refine W_seq (W_region ?_)
   refine LP_ev ok 0 [(2, .bool false)] 1 rfl rfl ?_
   refine LP_end _ rfl (W_ret ?_)
   exact ⟨_, Ret_of [.bool false] ⟨⟨rfl, rfl⟩, trivial⟩, _, H, rfl, X.ext⟩
  have H := H.2 hc13
  refine W_skip ?_
  refine W_region ?_
  refine LP_ev ok 0 [(27, I (wr (x2 + 1))), (14, I (wr (x2 + 1)))] 2 rfl rfl ?_
  exact LP_end _ rfl ⟨wr (x2 + 1), ⟨H.1, _, env_eq ⟨rfl, rfl, rfl, trivial⟩, rfl⟩, H.2⟩
 have H := H.2 hc4
 refine W_exit ?_
 refine (if_pos rfl).mpr ?_
 refine W_seq (W_region ?_)
 refine LP_ev ok 0 [(2, .bool true)] 1 rfl rfl ?_
 refine LP_end _ rfl (W_ret ?_)
 exact ⟨_, Ret_of [.bool true] ⟨⟨rfl, rfl⟩, trivial⟩, _, H, rfl, X.ext⟩

theorem impl_IsSchema_w (sx : List Variable) (Q : Bool → Prop) (H : impl_IsSchema sx Q) (w : World) {vx : Value} {hx : PH} (r : RS hx vx sx) (ex : Sub hx w) :
  CallsTo Try.prog 48 #[vx] w fun v w' => ∃ r0, Q r0 ∧ v = .bool r0 ∧ Ext w w' := by
 obtain ⟨a, c, rfl⟩ := r.shape
 refine enter (args := [sl a sx c]) 51 Try.func48 rfl rfl rfl ?_
 refine W_forget [(0, sl a sx c)] ⟨rfl, trivial⟩ fun ρ => ?_
 have X := But.refl emp w
 refine W_seq (W_region ?_)
 refine LP_ev ok 0 [(2, .bool false)] 1 rfl rfl ?_
 refine LP_end _ rfl (W_seq ?_)
 obtain ⟨k, hk, H⟩ := jn_elim H
 refine W_join2 (S := Bool) (fun s ρ' w' => k s ∧ ∃ (ρ : Env), ρ' = setAll [(0, sl a sx c), (14, .bool s)] ρ ∧ w = w') ?_ ?_
 ·refine W_region ?_
  refine LP_ev ok 0 [(7, sl a sx c), (8, I (ln sx)), (9, .bool (decide ((ln sx) < 1))), (10, .bool (decide ((ln sx) < 1)))] 4 rfl rfl ?_
  refine LP_split 10 (decide ((ln sx) < 1)) rfl (fun hc => ?_) (fun hc => ?_)
  ·have H := H.1 hc
   refine LP_ev ok 4 [(11, undef), (12, undef), (13, undef), (14, .bool true)] 8 rfl rfl ?_
   exact LP_end _ rfl ⟨true, H, _, env_eq ⟨rfl, rfl, trivial⟩, rfl⟩
  have H := H.2 hc
  refine LP_ev ok 4 [(11, sl a sx c), (12, I (ln sx)), (13, .bool (decide ((ln sx) > 6))), (14, .bool (decide ((ln sx) > 6)))] 8 rfl rfl ?_
  exact LP_end _ rfl ⟨decide ((ln sx) > 6), H, _, env_eq ⟨rfl, rfl, trivial⟩, rfl⟩
 rintro x _ _ ⟨H, ρ, rfl, rfl⟩
 subst hk
 refine W_cond (x) rfl (fun hc1 => ?_) (fun hc1 => ?_)
 ·have H := H.1 hc1
  refine W_seq (W_region ?_)
  refine LP_ev ok 0 [(2, .bool false)] 1 rfl rfl ?_
  refine LP_end _ rfl (W_ret ?_)
  exact ⟨_, Ret_of [.bool false] ⟨⟨rfl, rfl⟩, trivial⟩, _, H, rfl, X.ext⟩
 have H := H.2 hc1
 refine W_skip ?_
 refine W_seq ?_
 refine W_seq (W_region ?_)
 refine LP_ev ok 0 [(15, sl a sx c), (16, I (ln sx)), (17, I 0)] 3 rfl rfl ?_
 refine LP_end _ rfl ?_
 refine W_block ?_
 obtain ⟨J, m, Hx, H⟩ := H
 refine W_loop (S := Int) (fun s ρ' w' => J s ∧ ∃ (ρ : Env), ρ' = setAll [(0, sl a sx c), (15, sl a sx c), (16, I (ln sx)), (17, I s)] ρ ∧ But emp w w' ∧ Sub hx w') (fun s => m s) 0 ⟨Hx, _, env_eq ⟨rfl, rfl, rfl, rfl, trivial⟩, X, ex⟩ ?_
 rintro x2 _ wx3 ⟨Hi, ρ, rfl, X5, ex4⟩
 have H := H x2 Hi
 refine W_seq (W_region ?_)
 refine LP_ev ok 0 [(18, .bool (decide (x2 < (ln sx))))] 1 rfl rfl ?_
 refine LP_end _ rfl (W_seq ?_)
 refine W_cond (decide (x2 < (ln sx))) rfl (fun hc6 => ?_) (fun hc6 => ?_)
 ·have H := H.1 hc6
  refine W_skip ?_
  refine W_seq ?_
  refine W_block ?_
  refine W_seq (W_region ?_)
  refine LP_ev ok 0 [(19, I x2)] 1 rfl rfl ?_
  obtain ⟨x7, hi, hx8, H⟩ := H
  refine LP_index 1 rfl rfl rfl Try.underlying23 ti_90 rfl rfl r hi hx8 fun a9 cs r10 d => ?_
  refine LP_load 2 rfl rfl rfl ti_90 ag_90 rfl r10 d ex4 fun vx11 r12 => ?_
  obtain rfl := Variable_rv r12
  refine LP_alloc 3 rfl rfl rfl ti_90 rfl fun b wx13 x14 ex15 f => ?_
  refine LP_ev ok 4 [(3, I x2)] 5 rfl rfl ?_
  refine LP_stbox 5 (vs := [.string x7.Name, I x7.Levels]) (cs' := [.string x7.Name, I x7.Levels]) rfl rfl rfl ti_90 rfl rfl rfl rfl rfl ex15 rfl rfl fun wx16 ex17 y => ?_
  refine LP_end _ rfl (W_seq ?_)
  have f18 := f.mono X5.size
  have X19 := ((X5.stepx x14).step y (f18.dom _))
  have ex20 := ((ex4.ext x14).but y (Dj.of_fresh ex4 f).symm)
  obtain ⟨k26, hk27, H⟩ := jn_elim H
  refine W_join2 (S := Bool) (fun s ρ' w' => k26 s ∧ ∃ (ρ : Env), ρ' = setAll [(0, sl a sx c), (3, I x2), (4, pb b), (15, sl a sx c), (16, I (ln sx)), (17, I x2), (35, .bool s)] ρ ∧ But emp w w' ∧ Sub hx w' ∧ Sub (bx b 90 [.string x7.Name, I x7.Levels]) w') ?_ ?_
  ·refine W_region ?_
   refine LP_ev ok 0 [(22, pb b)] 1 rfl rfl ?_
   refine LP_ldbox 1 (v := .string x7.Name) rfl rfl rfl ti_9 ag_9 (fun _ => rfl) rfl ex17 rfl rfl ?_
   refine LP_call 2 rfl rfl rfl cal_90 rfl (impl_isWord_w _ _ H wx16 ) ?_
   rintro _ wx29 ⟨r28, H, rfl, x30⟩
   refine LP_ev ok 3 [(25, .bool (!r28)), (26, .bool (!r28))] 5 rfl rfl ?_
   refine LP_split 26 (!r28) rfl (fun hc31 => ?_) (fun hc31 => ?_)
   ·have H := H.1 hc31
    refine LP_ev ok 5 [(27, undef), (28, undef), (29, undef), (30, .bool true), (31, .bool true), (32, undef), (33, undef), (34, undef), (35, .bool true)] 14 rfl rfl ?_
    exact LP_end _ rfl ⟨true, H, _, env_eq ⟨rfl, rfl, rfl, rfl, rfl, rfl, rfl, trivial⟩, (X19.stepx x30), (ex20.ext x30), (ex17.ext x30)⟩
   have H := H.2 hc31
   refine LP_ev ok 5 [(27, .pointer (some ⟨b, 1, none⟩))] 6 rfl rfl ?_
   have ex35 := (ex17.ext x30)
   refine LP_ldbox 6 (v := I x7.Levels) rfl rfl rfl ti_3 ag_3 (fun _ => rfl) rfl ex35 rfl rfl ?_
   refine LP_ev ok 7 [(29, .bool (decide (x7.Levels < 2))), (30, .bool (decide (x7.Levels < 2))), (31, .bool (decide (x7.Levels < 2)))] 10 rfl rfl ?_
   refine LP_split 31 (decide (x7.Levels < 2)) rfl (fun hc36 => ?_) (fun hc36 => ?_)
   ·have H := H.1 hc36
    refine LP_ev ok 10 [(32, undef), (33, undef), (34, undef), (35, .bool true)] 14 rfl rfl ?_
    exact LP_end _ rfl ⟨true, H, _, env_eq ⟨rfl, rfl, rfl, rfl, rfl, rfl, rfl, trivial⟩, (X19.stepx x30), (ex20.ext x30), ex35⟩
   have H := H.2 hc36
   refine LP_ev ok 10 [(32, .pointer (some ⟨b, 1, none⟩))] 11 rfl rfl ?_
   refine LP_ldbox 11 (v := I x7.Levels) rfl rfl rfl ti_3 ag_3 (fun _ => rfl) rfl ex35 rfl rfl ?_
   refine LP_ev ok 12 [(34, .bool (decide (x7.Levels > 8))), (35, .bool (decide (x7.Levels > 8)))] 14 rfl rfl ?_
   exact LP_end _ rfl ⟨decide (x7.Levels > 8), H, _, env_eq ⟨rfl, rfl, rfl, rfl, rfl, rfl, rfl, trivial⟩, (X19.stepx x30), (ex20.ext x30), ex35⟩
  rintro x21 _ wx22 ⟨H, ρ, rfl, X25, ex23, ex24⟩
  subst hk27
  refine W_cond (x21) rfl (fun hc41 => ?_) (fun hc41 => ?_)
  ·have H := H.1 hc41
   refine W_seq (W_region ?_)
   refine LP_ev ok 0 [(2, .bool false)] 1 rfl rfl ?_
   refine LP_end _ rfl (W_ret ?_)
   exact ⟨_, Ret_of [.bool false] ⟨⟨rfl, rfl⟩, trivial⟩, _, H, rfl, X25.ext⟩
  have H := H.2 hc41
  refine W_skip ?_
  refine W_seq (W_region ?_)
  refine LP_ev ok 0 [(36, sl a sx c), (37, I x2)] 2 rfl rfl ?_
  obtain ⟨hl, hu, hn, H⟩ := H
  refine LP_slice 2 0 x2 rfl rfl rfl Try.underlying23 ti_90 rfl rfl rfl r (.inl ⟨rfl, rfl⟩) (.inr rfl) hl hu hn fun vx42 r43 => ?_
  obtain ⟨a44, c45, rfl⟩ := r43.shape
  refine LP_ev ok 3 [(39, I (ln (List.take (Int.toNat x2 - Int.toNat 0) (List.drop (Int.toNat 0) sx)))), (40, I 0)] 5 rfl rfl ?_
  refine LP_end _ rfl ?_
  refine W_block ?_
  obtain ⟨J51, m52, Hx53, H⟩ := H
  refine W_loop (S := Int) (fun s ρ' w' => J51 s ∧ ∃ (ρ : Env), ρ' = setAll [(0, sl a sx c), (4, pb b), (15, sl a sx c), (16, I (ln sx)), (17, I x2), (38, .slice a44 (List.length (List.take (Int.toNat x2 - Int.toNat 0) (List.drop (Int.toNat 0) sx))) c45), (39, I (ln (List.take (Int.toNat x2 - Int.toNat 0) (List.drop (Int.toNat 0) sx)))), (40, I s)] ρ ∧ But emp w w' ∧ Sub hx w' ∧ Sub (bx b 90 [.string x7.Name, I x7.Levels]) w') (fun s => m52 s) 0 ⟨Hx53, _, env_eq ⟨rfl, rfl, rfl, rfl, rfl, rfl, rfl, rfl, trivial⟩, X25, ex23, ex24⟩ ?_
  rintro x46 _ wx47 ⟨Hi, ρ, rfl, X50, ex48, ex49⟩
  have H := H x46 Hi
  refine W_seq (W_region ?_)
  refine LP_ev ok 0 [(41, .bool (decide (x46 < (ln (List.take (Int.toNat x2 - Int.toNat 0) (List.drop (Int.toNat 0) sx))))))] 1 rfl rfl ?_
  refine LP_end _ rfl (W_seq ?_)
  refine W_cond (decide (x46 < (ln (List.take (Int.toNat x2 - Int.toNat 0) (List.drop (Int.toNat 0) sx))))) rfl (fun hc55 => ?_) (fun hc55 => ?_)
  ·have H := H.1 hc55
   refine W_skip ?_
   refine W_seq ?_
   refine W_block ?_
   refine W_seq (W_region ?_)
   obtain ⟨x56, hi57, hx58, H⟩ := H
   refine LP_index 0 rfl rfl rfl Try.underlying23 ti_90 rfl rfl r43 hi57 hx58 fun a59 cs60 r61 d62 => ?_
   refine LP_load 1 rfl rfl rfl ti_90 ag_90 rfl r61 d62 ex48 fun vx63 r64 => ?_
   obtain rfl := Variable_rv r64
   refine LP_alloc 2 rfl rfl rfl ti_90 rfl fun b65 wx66 x67 ex68 f69 => ?_
   refine LP_stbox 3 (vs := [.string x56.Name, I x56.Levels]) (cs' := [.string x56.Name, I x56.Levels]) rfl rfl rfl ti_90 rfl rfl rfl rfl rfl ex68 rfl rfl fun wx70 ex71 y72 => ?_
   refine LP_end _ rfl (W_seq (W_region ?_))
   refine LP_ev ok 0 [(44, pb b65)] 1 rfl rfl ?_
   refine LP_ldbox 1 (v := .string x56.Name) rfl rfl rfl ti_9 ag_9 (fun _ => rfl) rfl ex71 rfl rfl ?_
   refine LP_ev ok 2 [(46, pb b)] 3 rfl rfl ?_
   have ex73 := ((ex49.ext x67).but y72 (Dj.of_fresh ex49 f69).symm)
   refine LP_ldbox 3 (v := .string x7.Name) rfl rfl rfl ti_9 ag_9 (fun _ => rfl) rfl ex73 rfl rfl ?_
   refine LP_ev ok 4 [(48, .bool (streq x56.Name x7.Name))] 5 rfl rfl ?_
   refine LP_end _ rfl ?_
   refine W_cond (streq x56.Name x7.Name) rfl (fun hc74 => ?_) (fun hc74 => ?_)
   ·have H := H.1 hc74
    refine W_seq (W_region ?_)
    refine LP_ev ok 0 [(2, .bool false)] 1 rfl rfl ?_
    refine LP_end _ rfl (W_ret ?_)
    have f75 := f69.mono X50.size
    exact ⟨_, Ret_of [.bool false] ⟨⟨rfl, rfl⟩, trivial⟩, _, H, rfl, ((X50.stepx x67).step y72 (f75.dom _)).ext⟩
   have H := H.2 hc74
   refine W_skip ?_
   refine W_region ?_
   refine LP_ev ok 0 [(49, I (wr (x46 + 1))), (40, I (wr (x46 + 1)))] 2 rfl rfl ?_
   refine LP_end _ rfl ?_
   have f77 := f69.mono X50.size
   exact ⟨wr (x46 + 1), ⟨H.1, _, env_eq ⟨rfl, rfl, rfl, rfl, rfl, rfl, rfl, rfl, trivial⟩, ((X50.stepx x67).step y72 (f77.dom _)), ((ex48.ext x67).but y72 (Dj.of_fresh ex48 f69).symm), ex73⟩, H.2⟩
  have H := H.2 hc55
  refine W_exit ?_
  refine (if_pos rfl).mpr ?_
  refine W_region ?_
  refine LP_ev ok 0 [(50, I (wr (x2 + 1))), (17, I (wr (x2 + 1)))] 2 rfl rfl ?_
  exact LP_end _ rfl ⟨wr (x2 + 1), ⟨H.1, _, env_eq ⟨rfl, rfl, rfl, rfl, trivial⟩, X50, ex48⟩, H.2⟩
 have H := H.2 hc6
 refine W_exit ?_
 refine (if_pos rfl).mpr ?_
 refine W_seq (W_region ?_)
 refine LP_ev ok 0 [(2, .bool true)] 1 rfl rfl ?_
 refine LP_end _ rfl (W_ret ?_)
 exact ⟨_, Ret_of [.bool true] ⟨⟨rfl, rfl⟩, trivial⟩, _, H, rfl, X5.ext⟩

theorem impl_combinations_w (sx : List Variable) (Q : Int → Prop) (H : impl_combinations sx Q) (w : World) {vx : Value} {hx : PH} (r : RS hx vx sx) (ex : Sub hx w) :
  CallsTo Try.prog 92 #[vx] w fun v w' => ∃ r0, Q r0 ∧ v = I r0 ∧ Ext w w' := by
 obtain ⟨a, c, rfl⟩ := r.shape
 refine enter (args := [sl a sx c]) 18 Try.func92 rfl rfl rfl ?_
 refine W_forget [(0, sl a sx c)] ⟨rfl, trivial⟩ fun ρ => ?_
 have X := But.refl emp w
 refine W_seq (W_region ?_)
 refine LP_ev ok 0 [(2, I 0)] 1 rfl rfl ?_
 refine LP_end _ rfl (W_seq (W_region ?_))
 refine LP_ev ok 0 [(3, I 1)] 1 rfl rfl ?_
 refine LP_end _ rfl (W_seq ?_)
 refine W_seq (W_region ?_)
 refine LP_ev ok 0 [(6, sl a sx c), (7, I (ln sx)), (8, I 0)] 3 rfl rfl ?_
 refine LP_end _ rfl ?_
 refine W_block ?_
 obtain ⟨J, m, Hx, H⟩ := H
 refine W_loop (S := Int × Int) (fun s ρ' w' => J s.1 s.2 ∧ ∃ (ρ : Env), ρ' = setAll [(3, I s.1), (6, sl a sx c), (7, I (ln sx)), (8, I s.2)] ρ ∧ But emp w w' ∧ Sub hx w') (fun s => m s.1 s.2) (1, 0) ⟨Hx, _, env_eq ⟨rfl, rfl, rfl, rfl, trivial⟩, X, ex⟩ ?_
 rintro ⟨n, x⟩ _ wx ⟨Hi, ρ, rfl, X2, ex1⟩
 have H := H n x Hi
 refine W_seq (W_region ?_)
 refine LP_ev ok 0 [(9, .bool (decide (x < (ln sx))))] 1 rfl rfl ?_
 refine LP_end _ rfl (W_seq ?_)
 refine W_cond (decide (x < (ln sx))) rfl (fun hc => ?_) (fun hc => ?_)
 ·have H := H.1 hc
  refine W_skip ?_
  refine W_seq ?_
  refine W_block ?_
  refine W_seq (W_region ?_)
  obtain ⟨x3, hi, hx4, H⟩ := H
  refine LP_index 0 rfl rfl rfl Try.underlying23 ti_90 rfl rfl r hi hx4 fun a5 cs r6 d => ?_
  refine LP_load 1 rfl rfl rfl ti_90 ag_90 rfl r6 d ex1 fun vx7 r8 => ?_
  obtain rfl := Variable_rv r8
  refine LP_alloc 2 rfl rfl rfl ti_90 rfl fun b wx9 x10 ex11 f => ?_
  refine LP_stbox 3 (vs := [.string x3.Name, I x3.Levels]) (cs' := [.string x3.Name, I x3.Levels]) rfl rfl rfl ti_90 rfl rfl rfl rfl rfl ex11 rfl rfl fun wx12 ex13 y => ?_
  refine LP_end _ rfl ?_
  refine W_region ?_
  refine LP_ev ok 0 [(12, I n), (13, .pointer (some ⟨b, 1, none⟩))] 2 rfl rfl ?_
  refine LP_ldbox 2 (v := I x3.Levels) rfl rfl rfl ti_3 ag_3 (fun _ => rfl) rfl ex13 rfl rfl ?_
  refine LP_ev ok 3 [(15, I (wr (n * x3.Levels))), (3, I (wr (n * x3.Levels)))] 5 rfl rfl ?_
  refine LP_end _ rfl ?_
  refine W_region ?_
  refine LP_ev ok 0 [(16, I (wr (x + 1))), (8, I (wr (x + 1)))] 2 rfl rfl ?_
  refine LP_end _ rfl ?_
  have f14 := f.mono X2.size
  exact ⟨(wr (n * x3.Levels), wr (x + 1)), ⟨H.1, _, env_eq ⟨rfl, rfl, rfl, rfl, trivial⟩, ((X2.stepx x10).step y (f14.dom _)), ((ex1.ext x10).but y (Dj.of_fresh ex1 f).symm)⟩, H.2⟩
 have H := H.2 hc
 refine W_exit ?_
 refine (if_pos rfl).mpr ?_
 refine W_seq (W_region ?_)
 refine LP_ev ok 0 [(17, I n), (2, I n)] 2 rfl rfl ?_
 refine LP_end _ rfl (W_ret ?_)
 exact ⟨_, Ret_of [I n] ⟨⟨rfl, rfl⟩, trivial⟩, _, H, rfl, X2.ext⟩

theorem impl_isSmall_w (sx : List Variable) (Q : Bool → Prop) (H : impl_isSmall sx Q) (w : World) {vx : Value} {hx : PH} (r : RS hx vx sx) (ex : Sub hx w) :
  CallsTo Try.prog 51 #[vx] w fun v w' => ∃ r0, Q r0 ∧ v = .bool r0 ∧ Ext w w' := by
 obtain ⟨a, c, rfl⟩ := r.shape
 refine enter (args := [sl a sx c]) 10 Try.func51 rfl rfl rfl ?_
 refine W_forget [(0, sl a sx c)] ⟨rfl, trivial⟩ fun ρ => ?_
 have X := But.refl emp w
 refine W_seq (W_region ?_)
 refine LP_ev ok 0 [(2, .bool false)] 1 rfl rfl ?_
 refine LP_end _ rfl ?_
 obtain ⟨k, hk, H⟩ := jn_elim H
 refine W_join2 (S := Bool) (fun s ρ' w' => k s ∧ ∃ (ρ : Env), ρ' = setAll [(2, .bool s)] ρ ∧ But emp w w') ?_ ?_
 ·refine W_region ?_
  refine LP_ev ok 0 [(3, sl a sx c)] 1 rfl rfl ?_
  refine LP_call 1 rfl rfl rfl cal_48 rfl (impl_IsSchema_w _ _ H w r ex) ?_
  rintro _ wx3 ⟨r2, H, rfl, x4⟩
  refine LP_ev ok 2 [(5, .bool r2)] 3 rfl rfl ?_
  refine LP_split 5 (r2) rfl (fun hc => ?_) (fun hc => ?_)
  ·have H := H.1 hc
   refine LP_ev ok 3 [(6, sl a sx c)] 4 rfl rfl ?_
   refine LP_call 4 rfl rfl rfl cal_92 rfl (impl_combinations_w _ _ H wx3 r (ex.ext x4)) ?_
   rintro _ wx7 ⟨r5, H, rfl, x8⟩
   refine LP_ev ok 5 [(8, .bool (decide (r5 ≤ 100))), (9, .bool (decide (r5 ≤ 100))), (2, .bool (decide (r5 ≤ 100)))] 8 rfl rfl ?_
   exact LP_end _ rfl ⟨decide (r5 ≤ 100), H, _, env_eq ⟨rfl, trivial⟩, (X.stepx (x4.trans x8))⟩
  have H := H.2 hc
  refine LP_ev ok 3 [(6, undef), (7, undef), (8, undef), (9, .bool false), (2, .bool false)] 8 rfl rfl ?_
  exact LP_end _ rfl ⟨false, H, _, env_eq ⟨rfl, trivial⟩, (X.stepx x4)⟩
 rintro x _ wx ⟨H, ρ, rfl, X1⟩
 subst hk
 refine W_ret ?_
 exact ⟨_, Ret_of [.bool x] ⟨⟨rfl, rfl⟩, trivial⟩, _, H, rfl, X1.ext⟩

theorem impl_fullSet_w (vx : Variable) (Q : Int → Prop) (H : impl_fullSet vx Q) (w : World)  :
  CallsTo Try.prog 106 #[.agg #[.string vx.Name, I vx.Levels]] w fun v w' => ∃ r0, Q r0 ∧ v = I r0 ∧ Ext w w' := by
 refine enter (args := [.agg #[.string vx.Name, I vx.Levels]]) 7 Try.func106 rfl rfl rfl ?_
 refine W_forget [(0, .agg #[.string vx.Name, I vx.Levels])] ⟨rfl, trivial⟩ fun ρ => ?_
 have X := But.refl emp w
 refine W_seq (W_region ?_)
 refine LP_box 0 (cs := [.string vx.Name, I vx.Levels]) rfl rfl rfl rfl rfl fun b wx x ex f => ?_
 refine LP_ev ok 1 [(2, I 0)] 2 rfl rfl ?_
 refine LP_end _ rfl (W_seq (W_region ?_))
 refine LP_ev ok 0 [(3, .pointer (some ⟨b, 1, none⟩))] 1 rfl rfl ?_
 refine LP_ldbox 1 (v := I vx.Levels) rfl rfl rfl ti_3 ag_3 (fun _ => rfl) rfl ex rfl rfl ?_
 obtain ⟨hz, H⟩ := H
 refine LP_val 2 _ rfl rfl (ex_shl rfl rfl rfl hz _) ?_
 refine LP_ev ok 3 [(6, I (wr ((shl .i64 1 vx.Levels) - 1))), (2, I (wr ((shl .i64 1 vx.Levels) - 1)))] 5 rfl rfl ?_
 refine LP_end _ rfl (W_ret ?_)
 exact ⟨_, Ret_of [I (wr ((shl .i64 1 vx.Levels) - 1))] ⟨⟨rfl, rfl⟩, trivial⟩, _, H, rfl, (X.stepx x).ext⟩

theorem impl_isEdit_w (sx : List Variable) (ex1 : Edit) (Q : Bool → Prop) (H : impl_isEdit sx ex1 Q) (w : World) {vx : Value} {hx : PH} (r : RS hx vx sx) (ex : Sub hx w) {vx2 : Value} {hx3 : PH} (r4 : RS hx3 vx2 ex1.Sets) (ex5 : Sub hx3 w) :
  CallsTo Try.prog 91 #[vx, .agg #[vx2]] w fun v w' => ∃ r0, Q r0 ∧ v = .bool r0 ∧ Ext w w' := by
 obtain ⟨a, c, rfl⟩ := r.shape
 obtain ⟨a6, c7, rfl⟩ := r4.shape
 refine enter (args := [sl a sx c, .agg #[sl a6 ex1.Sets c7]]) 33 Try.func91 rfl rfl rfl ?_
 refine W_forget [(0, sl a sx c), (1, .agg #[sl a6 ex1.Sets c7])] ⟨rfl, rfl, trivial⟩ fun ρ => ?_
 have X := But.refl emp w
 refine W_seq (W_region ?_)
 refine LP_box 0 (cs := [sl a6 ex1.Sets c7]) rfl rfl rfl rfl rfl fun b wx x ex8 f => ?_
 refine LP_ev ok 1 [(4, .bool false)] 2 rfl rfl ?_
 refine LP_end _ rfl (W_seq ?_)
 refine W_seq (W_region ?_)
 refine LP_ev ok 0 [(7, pb b)] 1 rfl rfl ?_
 refine LP_ldbox 1 (v := sl a6 ex1.Sets c7) rfl rfl rfl ti_25 ag_25 (fun _ => rfl) rfl ex8 rfl rfl ?_
 refine LP_ev ok 2 [(9, I (ln ex1.Sets)), (10, sl a sx c), (11, I (ln sx)), (12, .bool ((ln ex1.Sets) != (ln sx)))] 6 rfl rfl ?_
 refine LP_end _ rfl ?_
 refine W_cond ((ln ex1.Sets) != (ln sx)) rfl (fun hc => ?_) (fun hc => ?_)
 ·have H := H.1 hc
  refine W_seq (W_region ?_)
  refine LP_ev ok 0 [(4, .bool false)] 1 rfl rfl ?_
  refine LP_end _ rfl (W_ret ?_)
  exact ⟨_, Ret_of [.bool false] ⟨⟨rfl, rfl⟩, trivial⟩, _, H, rfl, (X.stepx x).ext⟩
 have H := H.2 hc
 refine W_skip ?_
 refine W_seq ?_
 refine W_seq (W_region ?_)
 refine LP_ev ok 0 [(13, pb b)] 1 rfl rfl ?_
 refine LP_ldbox 1 (v := sl a6 ex1.Sets c7) rfl rfl rfl ti_25 ag_25 (fun _ => rfl) rfl ex8 rfl rfl ?_
 refine LP_ev ok 2 [(15, I (ln ex1.Sets)), (16, I 0)] 4 rfl rfl ?_
 refine LP_end _ rfl ?_
 refine W_block ?_
 obtain ⟨J, m, Hx, H⟩ := H
 refine W_loop (S := Int) (fun s ρ' w' => J s ∧ ∃ (ρ : Env), ρ' = setAll [(0, sl a sx c), (14, sl a6 ex1.Sets c7), (15, I (ln ex1.Sets)), (16, I s)] ρ ∧ But emp w w' ∧ Sub hx w' ∧ Sub hx3 w') (fun s => m s) 0 ⟨Hx, _, env_eq ⟨rfl, rfl, rfl, rfl, trivial⟩, (X.stepx x), (ex.ext x), (ex5.ext x)⟩ ?_
 rintro x10 _ wx11 ⟨Hi, ρ, rfl, X14, ex12, ex13⟩
 have H := H x10 Hi
 refine W_seq (W_region ?_)
 refine LP_ev ok 0 [(17, .bool (decide (x10 < (ln ex1.Sets))))] 1 rfl rfl ?_
 refine LP_end _ rfl (W_seq ?_)
 refine W_cond (decide (x10 < (ln ex1.Sets))) rfl (fun hc18 => ?_) (fun hc18 => ?_)
 ·have H := H.1 hc18
  refine W_skip ?_
  refine W_seq ?_
  refine W_block ?_
  refine W_seq (W_region ?_)
  refine LP_ev ok 0 [(18, I x10)] 1 rfl rfl ?_
  obtain ⟨x19, hi, hx20, H⟩ := H
  refine LP_index 1 rfl rfl rfl Try.underlying25 ti_3 rfl rfl r4 hi hx20 fun a21 cs r22 d => ?_
  refine LP_load 2 rfl rfl rfl ti_3 ag_3 rfl r22 d ex13 fun vx23 r24 => ?_
  obtain rfl := r24.int
  refine LP_ev ok 3 [(5, I x10), (6, I x19)] 5 rfl rfl ?_
  refine LP_end _ rfl ?_
  obtain ⟨k, hk, H⟩ := jn_elim H
  refine W_join2 (S := Bool) (fun s ρ' w' => k s ∧ ∃ (ρ : Env), ρ' = setAll [(0, sl a sx c), (14, sl a6 ex1.Sets c7), (15, I (ln ex1.Sets)), (16, I x10), (31, .bool s)] ρ ∧ But emp w w' ∧ Sub hx w' ∧ Sub hx3 w') ?_ ?_
  ·refine W_region ?_
   refine LP_ev ok 0 [(21, I x19), (22, .bool (decide (x19 < 1))), (23, .bool (decide (x19 < 1)))] 3 rfl rfl ?_
   refine LP_split 23 (decide (x19 < 1)) rfl (fun hc30 => ?_) (fun hc30 => ?_)
   ·have H := H.1 hc30
    refine LP_ev ok 3 [(24, undef), (25, undef), (26, undef), (27, undef), (28, undef), (29, undef), (30, undef), (31, .bool true)] 11 rfl rfl ?_
    exact LP_end _ rfl ⟨true, H, _, env_eq ⟨rfl, rfl, rfl, rfl, rfl, trivial⟩, X14, ex12, ex13⟩
   have H := H.2 hc30
   refine LP_ev ok 3 [(24, I x19), (25, sl a sx c), (26, I x10)] 6 rfl rfl ?_
   obtain ⟨x31, hi32, hx33, H⟩ := H
   refine LP_index 6 rfl rfl rfl Try.underlying23 ti_90 rfl rfl r hi32 hx33 fun a34 cs35 r36 d37 => ?_
   refine LP_load 7 rfl rfl rfl ti_90 ag_90 rfl r36 d37 ex12 fun vx38 r39 => ?_
   obtain rfl := Variable_rv r39
   refine LP_call 8 rfl rfl rfl cal_106 rfl (impl_fullSet_w _ _ H wx11 ) ?_
   rintro _ wx41 ⟨r40, H, rfl, x42⟩
   refine LP_ev ok 9 [(30, .bool (decide (x19 > r40))), (31, .bool (decide (x19 > r40)))] 11 rfl rfl ?_
   exact LP_end _ rfl ⟨decide (x19 > r40), H, _, env_eq ⟨rfl, rfl, rfl, rfl, rfl, trivial⟩, (X14.stepx x42), (ex12.ext x42), (ex13.ext x42)⟩
  rintro x25 _ wx26 ⟨H, ρ, rfl, X29, ex27, ex28⟩
  subst hk
  refine W_cond (x25) rfl (fun hc46 => ?_) (fun hc46 => ?_)
  ·have H := H.1 hc46
   refine W_seq (W_region ?_)
   refine LP_ev ok 0 [(4, .bool false)] 1 rfl rfl ?_
   refine LP_end _ rfl (W_ret ?_)
   exact ⟨_, Ret_of [.bool false] ⟨⟨rfl, rfl⟩, trivial⟩, _, H, rfl, X29.ext⟩
  have H := H.2 hc46
  refine W_skip ?_
  refine W_region ?_
  refine LP_ev ok 0 [(32, I (wr (x10 + 1))), (16, I (wr (x10 + 1)))] 2 rfl rfl ?_
  exact LP_end _ rfl ⟨wr (x10 + 1), ⟨H.1, _, env_eq ⟨rfl, rfl, rfl, rfl, trivial⟩, X29, ex27, ex28⟩, H.2⟩
 have H := H.2 hc18
 refine W_exit ?_
 refine (if_pos rfl).mpr ?_
 refine W_seq (W_region ?_)
 refine LP_ev ok 0 [(4, .bool true)] 1 rfl rfl ?_
 refine LP_end _ rfl (W_ret ?_)
 exact ⟨_, Ret_of [.bool true] ⟨⟨rfl, rfl⟩, trivial⟩, _, H, rfl, X14.ext⟩

theorem impl_areEdits_w (sx : List Variable) (l : List Edit) (Q : Bool → Prop) (H : impl_areEdits sx l Q) (w : World) {vx : Value} {hx : PH} (r : RS hx vx sx) (ex : Sub hx w) {vx1 : Value} {hx2 : PH} (r3 : RS hx2 vx1 l) (ex4 : Sub hx2 w) :
  CallsTo Try.prog 49 #[vx, vx1] w fun v w' => ∃ r0, Q r0 ∧ v = .bool r0 ∧ Ext w w' := by
 obtain ⟨a, c, rfl⟩ := r.shape
 obtain ⟨a5, c6, rfl⟩ := r3.shape
 refine enter (args := [sl a sx c, sl a5 l c6]) 21 Try.func49 rfl rfl rfl ?_
 refine W_forget [(0, sl a sx c), (1, sl a5 l c6)] ⟨rfl, rfl, trivial⟩ fun ρ => ?_
 have X := But.refl emp w
 refine W_seq (W_region ?_)
 refine LP_ev ok 0 [(4, .bool false)] 1 rfl rfl ?_
 refine LP_end _ rfl (W_seq ?_)
 refine W_seq (W_region ?_)
 refine LP_ev ok 0 [(7, sl a5 l c6), (8, I (ln l)), (9, .bool (decide ((ln l) > 40)))] 3 rfl rfl ?_
 refine LP_end _ rfl ?_
 refine W_cond (decide ((ln l) > 40)) rfl (fun hc => ?_) (fun hc => ?_)
 ·have H := H.1 hc
  refine W_seq (W_region ?_)
  refine LP_ev ok 0 [(4, .bool false)] 1 rfl rfl ?_
  refine LP_end _ rfl (W_ret ?_)
  exact ⟨_, Ret_of [.bool false] ⟨⟨rfl, rfl⟩, trivial⟩, _, H, rfl, X.ext⟩
 have H := H.2 hc
 refine W_skip ?_
 refine W_seq ?_
 refine W_seq (W_region ?_)
 refine LP_ev ok 0 [(10, sl a5 l c6), (11, I (ln l)), (12, I 0)] 3 rfl rfl ?_
 refine LP_end _ rfl ?_
 refine W_block ?_
 obtain ⟨J, m, Hx, H⟩ := H
 refine W_loop (S := Int) (fun s ρ' w' => J s ∧ ∃ (ρ : Env), ρ' = setAll [(0, sl a sx c), (10, sl a5 l c6), (11, I (ln l)), (12, I s)] ρ ∧ But emp w w' ∧ Sub hx w' ∧ Sub hx2 w') (fun s => m s) 0 ⟨Hx, _, env_eq ⟨rfl, rfl, rfl, rfl, trivial⟩, X, ex, ex4⟩ ?_
 rintro x _ wx ⟨Hi, ρ, rfl, X9, ex7, ex8⟩
 have H := H x Hi
 refine W_seq (W_region ?_)
 refine LP_ev ok 0 [(13, .bool (decide (x < (ln l))))] 1 rfl rfl ?_
 refine LP_end _ rfl (W_seq ?_)
 refine W_cond (decide (x < (ln l))) rfl (fun hc10 => ?_) (fun hc10 => ?_)
 ·have H := H.1 hc10
  refine W_skip ?_
  refine W_seq ?_
  refine W_block ?_
  refine W_seq (W_region ?_)
  obtain ⟨x11, hi, hx12, H⟩ := H
  refine LP_index 0 rfl rfl rfl Try.underlying24 ti_79 rfl rfl r3 hi hx12 fun a13 cs r14 d => ?_
  have d15 := d
  obtain ⟨u, rfl, r16⟩ := Edit_rd d15
  obtain ⟨a17, c18, rfl⟩ := r16.shape
  refine LP_load 1 rfl rfl rfl ti_79 ag_79 rfl r14 d ex8 fun vx19 r20 => ?_
  obtain ⟨u21, rfl, r22⟩ := Edit_rv r20
  obtain ⟨a23, c24, rfl⟩ := r22.shape
  refine LP_alloc 2 rfl rfl rfl ti_79 rfl fun b wx25 x26 ex27 f => ?_
  refine LP_stbox 3 (vs := [sl a23 x11.Sets c24]) (cs' := [sl a23 x11.Sets c24]) rfl rfl rfl ti_79 rfl rfl rfl rfl rfl ex27 rfl rfl fun wx28 ex29 y => ?_
  refine LP_end _ rfl (W_seq (W_region ?_))
  refine LP_ev ok 0 [(16, sl a sx c)] 1 rfl rfl ?_
  refine LP_ldbox 1 (v := .agg #[sl a23 x11.Sets c24]) rfl rfl rfl ti_79 ag_79 (fun h => by cases h) rfl ex29 rfl rfl ?_
  have ex31 := ((ex7.ext x26).but y (Dj.of_fresh ex7 f).symm)
  have ex32 := ((ex8.ext x26).but y (Dj.of_fresh ex8 f).symm)
  refine LP_call 2 rfl rfl rfl cal_91 rfl (impl_isEdit_w _ _ _ H wx28 r ex31 r22 ex32) ?_
  rintro _ wx33 ⟨r30, H, rfl, x34⟩
  refine LP_ev ok 3 [(19, .bool (!r30))] 4 rfl rfl ?_
  refine LP_end _ rfl ?_
  refine W_cond (!r30) rfl (fun hc35 => ?_) (fun hc35 => ?_)
  ·have H := H.1 hc35
   refine W_seq (W_region ?_)
   refine LP_ev ok 0 [(4, .bool false)] 1 rfl rfl ?_
   refine LP_end _ rfl (W_ret ?_)
   have f36 := f.mono X9.size
   exact ⟨_, Ret_of [.bool false] ⟨⟨rfl, rfl⟩, trivial⟩, _, H, rfl, (((X9.stepx x26).step y (f36.dom _)).stepx x34).ext⟩
  have H := H.2 hc35
  refine W_skip ?_
  refine W_region ?_
  refine LP_ev ok 0 [(20, I (wr (x + 1))), (12, I (wr (x + 1)))] 2 rfl rfl ?_
  refine LP_end _ rfl ?_
  have f38 := f.mono X9.size
  exact ⟨wr (x + 1), ⟨H.1, _, env_eq ⟨rfl, rfl, rfl, rfl, trivial⟩, (((X9.stepx x26).step y (f38.dom _)).stepx x34), (ex31.ext x34), (ex32.ext x34)⟩, H.2⟩
 have H := H.2 hc10
 refine W_exit ?_
 refine (if_pos rfl).mpr ?_
 refine W_seq (W_region ?_)
 refine LP_ev ok 0 [(4, .bool true)] 1 rfl rfl ?_
 refine LP_end _ rfl (W_ret ?_)
 exact ⟨_, Ret_of [.bool true] ⟨⟨rfl, rfl⟩, trivial⟩, _, H, rfl, X9.ext⟩

theorem impl_areWeights_w (sx : List Variable) (weights : List Int) (Q : Bool → Prop) (H : impl_areWeights sx weights Q) (w : World) {vx : Value} {hx : PH} (r : RS hx vx sx) (ex : Sub hx w) {vx1 : Value} {hx2 : PH} (r3 : RS hx2 vx1 weights) (ex4 : Sub hx2 w) :
  CallsTo Try.prog 62 #[vx, vx1] w fun v w' => ∃ r0, Q r0 ∧ v = .bool r0 ∧ Ext w w' := by
 obtain ⟨a, c, rfl⟩ := r.shape
 obtain ⟨a5, c6, rfl⟩ := r3.shape
 refine enter (args := [sl a sx c, sl a5 weights c6]) 25 Try.func62 rfl rfl rfl ?_
 refine W_forget [(0, sl a sx c), (1, sl a5 weights c6)] ⟨rfl, rfl, trivial⟩ fun ρ => ?_
 have X := But.refl emp w
 refine W_seq (W_region ?_)
 refine LP_ev ok 0 [(4, .bool false)] 1 rfl rfl ?_
 refine LP_end _ rfl (W_seq ?_)
 refine W_seq (W_region ?_)
 refine LP_ev ok 0 [(7, sl a5 weights c6), (8, I (ln weights)), (9, sl a sx c), (10, I (ln sx)), (11, .bool ((ln weights) != (ln sx)))] 5 rfl rfl ?_
 refine LP_end _ rfl ?_
 refine W_cond ((ln weights) != (ln sx)) rfl (fun hc => ?_) (fun hc => ?_)
 ·have H := H.1 hc
  refine W_seq (W_region ?_)
  refine LP_ev ok 0 [(4, .bool false)] 1 rfl rfl ?_
  refine LP_end _ rfl (W_ret ?_)
  exact ⟨_, Ret_of [.bool false] ⟨⟨rfl, rfl⟩, trivial⟩, _, H, rfl, X.ext⟩
 have H := H.2 hc
 refine W_skip ?_
 refine W_seq ?_
 refine W_seq (W_region ?_)
 refine LP_ev ok 0 [(12, sl a5 weights c6), (13, I (ln weights)), (14, I 0)] 3 rfl rfl ?_
 refine LP_end _ rfl ?_
 refine W_block ?_
 obtain ⟨J, m, Hx, H⟩ := H
 refine W_loop (S := Int) (fun s ρ' w' => J s ∧ ∃ (ρ : Env), ρ' = setAll [(12, sl a5 weights c6), (13, I (ln weights)), (14, I s)] ρ ∧ w = w') (fun s => m s) 0 ⟨Hx, _, env_eq ⟨rfl, rfl, rfl, trivial⟩, rfl⟩ ?_
 rintro x _ _ ⟨Hi, ρ, rfl, rfl⟩
 have H := H x Hi
 refine W_seq (W_region ?_)
 refine LP_ev ok 0 [(15, .bool (decide (x < (ln weights))))] 1 rfl rfl ?_
 refine LP_end _ rfl (W_seq ?_)
 refine W_cond (decide (x < (ln weights))) rfl (fun hc7 => ?_) (fun hc7 => ?_)
 ·have H := H.1 hc7
  refine W_skip ?_
  refine W_seq ?_
  refine W_block ?_
  refine W_seq (W_region ?_)
  obtain ⟨x8, hi, hx9, H⟩ := H
  refine LP_index 0 rfl rfl rfl Try.underlying25 ti_3 rfl rfl r3 hi hx9 fun a10 cs r11 d => ?_
  refine LP_load 1 rfl rfl rfl ti_3 ag_3 rfl r11 d ex4 fun vx12 r13 => ?_
  obtain rfl := r13.int
  refine LP_ev ok 2 [(6, I x8)] 3 rfl rfl ?_
  refine LP_end _ rfl ?_
  obtain ⟨k, hk, H⟩ := jn_elim H
  refine W_join2 (S := Bool) (fun s ρ' w' => k s ∧ ∃ (ρ : Env), ρ' = setAll [(12, sl a5 weights c6), (13, I (ln weights)), (14, I x), (23, .bool s)] ρ ∧ w = w') ?_ ?_
  ·refine W_region ?_
   refine LP_ev ok 0 [(18, I x8), (19, .bool (decide (x8 < 1))), (20, .bool (decide (x8 < 1)))] 3 rfl rfl ?_
   refine LP_split 20 (decide (x8 < 1)) rfl (fun hc16 => ?_) (fun hc16 => ?_)
   ·have H := H.1 hc16
    refine LP_ev ok 3 [(21, undef), (22, undef), (23, .bool true)] 6 rfl rfl ?_
    exact LP_end _ rfl ⟨true, H, _, env_eq ⟨rfl, rfl, rfl, rfl, trivial⟩, rfl⟩
   have H := H.2 hc16
   refine LP_ev ok 3 [(21, I x8), (22, .bool (decide (x8 > 100))), (23, .bool (decide (x8 > 100)))] 6 rfl rfl ?_
   exact LP_end _ rfl ⟨decide (x8 > 100), H, _, env_eq ⟨rfl, rfl, rfl, rfl, trivial⟩, rfl⟩
  rintro x14 _ _ ⟨H, ρ, rfl, rfl⟩
  subst hk
  refine W_cond (x14) rfl (fun hc17 => ?_) (fun hc17 => ?_)
  ·have H := H.1 hc17
   refine W_seq (W_region ?_)
   refine LP_ev ok 0 [(4, .bool false)] 1 rfl rfl ?_
   refine LP_end _ rfl (W_ret ?_)
   exact ⟨_, Ret_of [.bool false] ⟨⟨rfl, rfl⟩, trivial⟩, _, H, rfl, X.ext⟩
  have H := H.2 hc17
  refine W_skip ?_
  refine W_region ?_
  refine LP_ev ok 0 [(24, I (wr (x + 1))), (14, I (wr (x + 1)))] 2 rfl rfl ?_
  exact LP_end _ rfl ⟨wr (x + 1), ⟨H.1, _, env_eq ⟨rfl, rfl, rfl, trivial⟩, rfl⟩, H.2⟩
 have H := H.2 hc7
 refine W_exit ?_
 refine (if_pos rfl).mpr ?_
 refine W_seq (W_region ?_)
 refine LP_ev ok 0 [(4, .bool true)] 1 rfl rfl ?_
 refine LP_end _ rfl (W_ret ?_)
 exact ⟨_, Ret_of [.bool true] ⟨⟨rfl, rfl⟩, trivial⟩, _, H, rfl, X.ext⟩

theorem impl_isMendable_w (sx : List Variable) (l : List Edit) (weights : List Int) (Q : Bool → Prop) (H : impl_isMendable sx l weights Q) (w : World) {vx : Value} {hx : PH} (r : RS hx vx sx) (ex : Sub hx w) {vx1 : Value} {hx2 : PH} (r3 : RS hx2 vx1 l) (ex4 : Sub hx2 w) {vx7 : Value} {hx8 : PH} (r9 : RS hx8 vx7 weights) (ex10 : Sub hx8 w) :
  CallsTo Try.prog 28 #[vx, vx1, vx7] w fun v w' => ∃ r0, Q r0 ∧ v = .bool r0 ∧ Ext w w' := by
 obtain ⟨a, c, rfl⟩ := r.shape
 obtain ⟨a5, c6, rfl⟩ := r3.shape
 obtain ⟨a11, c12, rfl⟩ := r9.shape
 refine enter (args := [sl a sx c, sl a5 l c6, sl a11 weights c12]) 19 Try.func28 rfl rfl rfl ?_
 refine W_forget [(0, sl a sx c), (1, sl a5 l c6), (2, sl a11 weights c12)] ⟨rfl, rfl, rfl, trivial⟩ fun ρ => ?_
 have X := But.refl emp w
 refine W_seq (W_region ?_)
 refine LP_ev ok 0 [(6, .bool false)] 1 rfl rfl ?_
 refine LP_end _ rfl ?_
 obtain ⟨k, hk, H⟩ := jn_elim H
 refine W_join2 (S := Bool) (fun s ρ' w' => k s ∧ ∃ (ρ : Env), ρ' = setAll [(6, .bool s)] ρ ∧ But emp w w') ?_ ?_
 ·refine W_region ?_
  refine LP_ev ok 0 [(7, sl a sx c)] 1 rfl rfl ?_
  refine LP_call 1 rfl rfl rfl cal_51 rfl (impl_isSmall_w _ _ H w r ex) ?_
  rintro _ wx15 ⟨r14, H, rfl, x16⟩
  refine LP_ev ok 2 [(9, .bool r14)] 3 rfl rfl ?_
  refine LP_split 9 (r14) rfl (fun hc => ?_) (fun hc => ?_)
  ·have H := H.1 hc
   refine LP_ev ok 3 [(10, sl a sx c), (11, sl a5 l c6)] 5 rfl rfl ?_
   have ex18 := (ex.ext x16)
   refine LP_call 5 rfl rfl rfl cal_49 rfl (impl_areEdits_w _ _ _ H wx15 r ex18 r3 (ex4.ext x16)) ?_
   rintro _ wx20 ⟨r17, H, rfl, x21⟩
   refine LP_ev ok 6 [(13, .bool r17), (14, .bool r17)] 8 rfl rfl ?_
   refine LP_split 14 (r17) rfl (fun hc22 => ?_) (fun hc22 => ?_)
   ·have H := H.1 hc22
    refine LP_ev ok 8 [(15, sl a sx c), (16, sl a11 weights c12)] 10 rfl rfl ?_
    have xc := (x16.trans x21)
    refine LP_call 10 rfl rfl rfl cal_62 rfl (impl_areWeights_w _ _ _ H wx20 r (ex18.ext x21) r9 (ex10.ext xc)) ?_
    rintro _ wx26 ⟨r23, H, rfl, x27⟩
    refine LP_ev ok 11 [(18, .bool r23), (6, .bool r23)] 13 rfl rfl ?_
    exact LP_end _ rfl ⟨r23, H, _, env_eq ⟨rfl, trivial⟩, (X.stepx (xc.trans x27))⟩
   have H := H.2 hc22
   refine LP_ev ok 8 [(15, undef), (16, undef), (17, undef), (18, .bool false), (6, .bool false)] 13 rfl rfl ?_
   exact LP_end _ rfl ⟨false, H, _, env_eq ⟨rfl, trivial⟩, (X.stepx (x16.trans x21))⟩
  have H := H.2 hc
  refine LP_ev ok 3 [(10, undef), (11, undef), (12, undef), (13, .bool false), (14, .bool false), (15, undef), (16, undef), (17, undef), (18, .bool false), (6, .bool false)] 13 rfl rfl ?_
  exact LP_end _ rfl ⟨false, H, _, env_eq ⟨rfl, trivial⟩, (X.stepx x16)⟩
 rintro x _ wx ⟨H, ρ, rfl, X13⟩
 subst hk
 refine W_ret ?_
 exact ⟨_, Ret_of [.bool x] ⟨⟨rfl, rfl⟩, trivial⟩, _, H, rfl, X13.ext⟩

theorem impl_areValues_w (sx : List Variable) (values : List Int) (Q : Bool → Prop) (H : impl_areValues sx values Q) (w : World) {vx : Value} {hx : PH} (r : RS hx vx sx) (ex : Sub hx w) {vx1 : Value} {hx2 : PH} (r3 : RS hx2 vx1 values) (ex4 : Sub hx2 w) :
  CallsTo Try.prog 43 #[vx, vx1] w fun v w' => ∃ r0, Q r0 ∧ v = .bool r0 ∧ Ext w w' := by
 obtain ⟨a, c, rfl⟩ := r.shape
 obtain ⟨a5, c6, rfl⟩ := r3.shape
 refine enter (args := [sl a sx c, sl a5 values c6]) 31 Try.func43 rfl rfl rfl ?_
 refine W_forget [(0, sl a sx c), (1, sl a5 values c6)] ⟨rfl, rfl, trivial⟩ fun ρ => ?_
 have X := But.refl emp w
 refine W_seq (W_region ?_)
 refine LP_ev ok 0 [(4, .bool false)] 1 rfl rfl ?_
 refine LP_end _ rfl (W_seq ?_)
 refine W_seq (W_region ?_)
 refine LP_ev ok 0 [(7, sl a5 values c6), (8, I (ln values)), (9, sl a sx c), (10, I (ln sx)), (11, .bool ((ln values) != (ln sx)))] 5 rfl rfl ?_
 refine LP_end _ rfl ?_
 refine W_cond ((ln values) != (ln sx)) rfl (fun hc => ?_) (fun hc => ?_)
 ·have H := H.1 hc
  refine W_seq (W_region ?_)
  refine LP_ev ok 0 [(4, .bool false)] 1 rfl rfl ?_
  refine LP_end _ rfl (W_ret ?_)
  exact ⟨_, Ret_of [.bool false] ⟨⟨rfl, rfl⟩, trivial⟩, _, H, rfl, X.ext⟩
 have H := H.2 hc
 refine W_skip ?_
 refine W_seq ?_
 refine W_seq (W_region ?_)
 refine LP_ev ok 0 [(12, sl a5 values c6), (13, I (ln values)), (14, I 0)] 3 rfl rfl ?_
 refine LP_end _ rfl ?_
 refine W_block ?_
 obtain ⟨J, m, Hx, H⟩ := H
 refine W_loop (S := Int) (fun s ρ' w' => J s ∧ ∃ (ρ : Env), ρ' = setAll [(0, sl a sx c), (12, sl a5 values c6), (13, I (ln values)), (14, I s)] ρ ∧ w = w') (fun s => m s) 0 ⟨Hx, _, env_eq ⟨rfl, rfl, rfl, rfl, trivial⟩, rfl⟩ ?_
 rintro x _ _ ⟨Hi, ρ, rfl, rfl⟩
 have H := H x Hi
 refine W_seq (W_region ?_)
 refine LP_ev ok 0 [(15, .bool (decide (x < (ln values))))] 1 rfl rfl ?_
 refine LP_end _ rfl (W_seq ?_)
 refine W_cond (decide (x < (ln values))) rfl (fun hc7 => ?_) (fun hc7 => ?_)
 ·have H := H.1 hc7
  refine W_skip ?_
  refine W_seq ?_
  refine W_block ?_
  refine W_seq (W_region ?_)
  refine LP_ev ok 0 [(16, I x)] 1 rfl rfl ?_
  obtain ⟨x8, hi, hx9, H⟩ := H
  refine LP_index 1 rfl rfl rfl Try.underlying25 ti_3 rfl rfl r3 hi hx9 fun a10 cs r11 d => ?_
  refine LP_load 2 rfl rfl rfl ti_3 ag_3 rfl r11 d ex4 fun vx12 r13 => ?_
  obtain rfl := r13.int
  refine LP_ev ok 3 [(5, I x), (6, I x8)] 5 rfl rfl ?_
  refine LP_end _ rfl ?_
  obtain ⟨k, hk, H⟩ := jn_elim H
  refine W_join2 (S := Bool) (fun s ρ' w' => k s ∧ ∃ (ρ : Env), ρ' = setAll [(0, sl a sx c), (12, sl a5 values c6), (13, I (ln values)), (14, I x), (29, .bool s)] ρ ∧ w = w') ?_ ?_
  ·refine W_region ?_
   refine LP_ev ok 0 [(19, I x8), (20, .bool (decide (x8 < 0))), (21, .bool (decide (x8 < 0)))] 3 rfl rfl ?_
   refine LP_split 21 (decide (x8 < 0)) rfl (fun hc16 => ?_) (fun hc16 => ?_)
   ·have H := H.1 hc16
    refine LP_ev ok 3 [(22, undef), (23, undef), (24, undef), (25, undef), (26, undef), (27, undef), (28, undef), (29, .bool true)] 11 rfl rfl ?_
    exact LP_end _ rfl ⟨true, H, _, env_eq ⟨rfl, rfl, rfl, rfl, rfl, trivial⟩, rfl⟩
   have H := H.2 hc16
   refine LP_ev ok 3 [(22, I x8), (23, sl a sx c), (24, I x)] 6 rfl rfl ?_
   obtain ⟨x17, hi18, hx19, H⟩ := H
   refine LP_index 6 rfl rfl rfl Try.underlying23 ti_90 rfl rfl r hi18 hx19 fun a20 cs21 r22 d23 => ?_
   refine LP_ev ok 7 [(26, .pointer (some (Addr.add a20 1)))] 8 rfl rfl ?_
   refine LP_ldfld (x := x17) (off := 1) 8 (v := I x17.Levels) rfl rfl rfl ti_3 ag_3 (fun _ => rfl) rfl r22 d23 ex rfl rfl ?_
   refine LP_ev ok 9 [(28, .bool (decide (x8 ≥ x17.Levels))), (29, .bool (decide (x8 ≥ x17.Levels)))] 11 rfl rfl ?_
   exact LP_end _ rfl ⟨decide (x8 ≥ x17.Levels), H, _, env_eq ⟨rfl, rfl, rfl, rfl, rfl, trivial⟩, rfl⟩
  rintro x14 _ _ ⟨H, ρ, rfl, rfl⟩
  subst hk
  refine W_cond (x14) rfl (fun hc24 => ?_) (fun hc24 => ?_)
  ·have H := H.1 hc24
   refine W_seq (W_region ?_)
   refine LP_ev ok 0 [(4, .bool false)] 1 rfl rfl ?_
   refine LP_end _ rfl (W_ret ?_)
   exact ⟨_, Ret_of [.bool false] ⟨⟨rfl, rfl⟩, trivial⟩, _, H, rfl, X.ext⟩
  have H := H.2 hc24
  refine W_skip ?_
  refine W_region ?_
  refine LP_ev ok 0 [(30, I (wr (x + 1))), (14, I (wr (x + 1)))] 2 rfl rfl ?_
  exact LP_end _ rfl ⟨wr (x + 1), ⟨H.1, _, env_eq ⟨rfl, rfl, rfl, rfl, trivial⟩, rfl⟩, H.2⟩
 have H := H.2 hc7
 refine W_exit ?_
 refine (if_pos rfl).mpr ?_
 refine W_seq (W_region ?_)
 refine LP_ev ok 0 [(4, .bool true)] 1 rfl rfl ?_
 refine LP_end _ rfl (W_ret ?_)
 exact ⟨_, Ret_of [.bool true] ⟨⟨rfl, rfl⟩, trivial⟩, _, H, rfl, X.ext⟩

theorem impl_isRecord_w (sx : List Variable) (r1 : Record) (Q : Bool → Prop) (H : impl_isRecord sx r1 Q) (w : World) {vx : Value} {hx : PH} (r : RS hx vx sx) (ex : Sub hx w) {vx2 : Value} {hx3 : PH} (r4 : RS hx3 vx2 r1.Values) (ex5 : Sub hx3 w) :
  CallsTo Try.prog 77 #[vx, .agg #[I r1.Area, I r1.House, vx2]] w fun v w' => ∃ r0, Q r0 ∧ v = .bool r0 ∧ Ext w w' := by
 obtain ⟨a, c, rfl⟩ := r.shape
 obtain ⟨a6, c7, rfl⟩ := r4.shape
 refine enter (args := [sl a sx c, .agg #[I r1.Area, I r1.House, sl a6 r1.Values c7]]) 29 Try.func77 rfl rfl rfl ?_
 refine W_forget [(0, sl a sx c), (1, .agg #[I r1.Area, I r1.House, sl a6 r1.Values c7])] ⟨rfl, rfl, trivial⟩ fun ρ => ?_
 have X := But.refl emp w
 refine W_seq (W_region ?_)
 refine LP_box 0 (cs := [I r1.Area, I r1.House, sl a6 r1.Values c7]) rfl rfl rfl rfl rfl fun b wx x ex8 f => ?_
 refine LP_ev ok 1 [(4, .bool false)] 2 rfl rfl ?_
 refine LP_end _ rfl ?_
 have X9 := (X.stepx x)
 obtain ⟨k, hk, H⟩ := jn_elim H
 refine W_join2 (S := Bool) (fun s ρ' w' => k s ∧ ∃ (ρ : Env), ρ' = setAll [(4, .bool s)] ρ ∧ But emp w w') ?_ ?_
 ·refine W_region ?_
  refine LP_ev ok 0 [(5, pb b)] 1 rfl rfl ?_
  refine LP_ldbox 1 (v := I r1.Area) rfl rfl rfl ti_3 ag_3 (fun _ => rfl) rfl ex8 rfl rfl ?_
  refine LP_ev ok 2 [(7, .bool (decide (r1.Area ≥ 0))), (8, .bool (decide (r1.Area ≥ 0)))] 4 rfl rfl ?_
  refine LP_split 8 (decide (r1.Area ≥ 0)) rfl (fun hc => ?_) (fun hc => ?_)
  ·have H := H.1 hc
   refine LP_ev ok 4 [(9, pb b)] 5 rfl rfl ?_
   refine LP_ldbox 5 (v := I r1.Area) rfl rfl rfl ti_3 ag_3 (fun _ => rfl) rfl ex8 rfl rfl ?_
   refine LP_ev ok 6 [(11, .bool (decide (r1.Area ≤ 29))), (12, .bool (decide (r1.Area ≤ 29))), (13, .bool (decide (r1.Area ≤ 29)))] 9 rfl rfl ?_
   refine LP_split 13 (decide (r1.Area ≤ 29)) rfl (fun hc16 => ?_) (fun hc16 => ?_)
   ·have H := H.1 hc16
    refine LP_ev ok 9 [(14, .pointer (some ⟨b, 1, none⟩))] 10 rfl rfl ?_
    refine LP_ldbox 10 (v := I r1.House) rfl rfl rfl ti_3 ag_3 (fun _ => rfl) rfl ex8 rfl rfl ?_
    refine LP_ev ok 11 [(16, .bool (decide (r1.House ≥ 0))), (17, .bool (decide (r1.House ≥ 0))), (18, .bool (decide (r1.House ≥ 0)))] 14 rfl rfl ?_
    refine LP_split 18 (decide (r1.House ≥ 0)) rfl (fun hc17 => ?_) (fun hc17 => ?_)
    ·have H := H.1 hc17
     refine LP_ev ok 14 [(19, .pointer (some ⟨b, 1, none⟩))] 15 rfl rfl ?_
     refine LP_ldbox 15 (v := I r1.House) rfl rfl rfl ti_3 ag_3 (fun _ => rfl) rfl ex8 rfl rfl ?_
     refine LP_ev ok 16 [(21, .bool (decide (r1.House ≤ 999))), (22, .bool (decide (r1.House ≤ 999))), (23, .bool (decide (r1.House ≤ 999)))] 19 rfl rfl ?_
     refine LP_split 23 (decide (r1.House ≤ 999)) rfl (fun hc18 => ?_) (fun hc18 => ?_)
     ·have H := H.1 hc18
      refine LP_ev ok 19 [(24, sl a sx c), (25, .pointer (some ⟨b, 2, none⟩))] 21 rfl rfl ?_
      refine LP_ldbox 21 (v := sl a6 r1.Values c7) rfl rfl rfl ti_25 ag_25 (fun _ => rfl) rfl ex8 rfl rfl ?_
      refine LP_call 22 rfl rfl rfl cal_43 rfl (impl_areValues_w _ _ _ H wx r (ex.ext x) r4 (ex5.ext x)) ?_
      rintro _ wx20 ⟨r19, H, rfl, x21⟩
      refine LP_ev ok 23 [(28, .bool r19), (4, .bool r19)] 25 rfl rfl ?_
      refine LP_end _ rfl ?_
      try refine W_forget [(4, .bool r19)] ⟨rfl, trivial⟩ fun ρ => ?_
      exact ⟨r19, H, _, env_eq ⟨rfl, trivial⟩, (X9.stepx x21)⟩
     have H := H.2 hc18
     refine LP_ev ok 19 [(24, undef), (25, undef), (26, undef), (27, undef), (28, .bool false), (4, .bool false)] 25 rfl rfl ?_
     refine LP_end _ rfl ?_
     try refine W_forget [(4, .bool false)] ⟨rfl, trivial⟩ fun ρ => ?_
     exact ⟨false, H, _, env_eq ⟨rfl, trivial⟩, X9⟩
    have H := H.2 hc17
    refine LP_ev ok 14 [(19, undef), (20, undef), (21, undef), (22, .bool false), (23, .bool false), (24, undef), (25, undef), (26, undef), (27, undef), (28, .bool false), (4, .bool false)] 25 rfl rfl ?_
    refine LP_end _ rfl ?_
    try refine W_forget [(4, .bool false)] ⟨rfl, trivial⟩ fun ρ => ?_
    exact ⟨false, H, _, env_eq ⟨rfl, trivial⟩, X9⟩
   have H := H.2 hc16
   refine LP_ev ok 9 [(14, undef), (15, undef), (16, undef), (17, .bool false), (18, .bool false), (19, undef), (20, undef), (21, undef), (22, .bool false), (23, .bool false), (24, undef), (25, undef), (26, undef), (27, undef), (28, .bool false), (4, .bool false)] 25 rfl rfl ?_
   refine LP_end _ rfl ?_
   try refine W_forget [(4, .bool false)] ⟨rfl, trivial⟩ fun ρ => ?_
   exact ⟨false, H, _, env_eq ⟨rfl, trivial⟩, X9⟩
  have H := H.2 hc
  refine LP_ev ok 4 [(9, undef), (10, undef), (11, undef), (12, .bool false), (13, .bool false), (14, undef), (15, undef), (16, undef), (17, .bool false), (18, .bool false), (19, undef), (20, undef), (21, undef), (22, .bool false), (23, .bool false), (24, undef), (25, undef), (26, undef), (27, undef), (28, .bool false), (4, .bool false)] 25 rfl rfl ?_
  refine LP_end _ rfl ?_
  try refine W_forget [(4, .bool false)] ⟨rfl, trivial⟩ fun ρ => ?_
  exact ⟨false, H, _, env_eq ⟨rfl, trivial⟩, X9⟩
 rintro x13 _ wx14 ⟨H, ρ, rfl, X15⟩
 subst hk
 refine W_ret ?_
 exact ⟨_, Ret_of [.bool x13] ⟨⟨rfl, rfl⟩, trivial⟩, _, H, rfl, X15.ext⟩

theorem impl_isData_w (sx : List Variable) (l : List Record) (Q : Bool → Prop) (H : impl_isData sx l Q) (w : World) {vx : Value} {hx : PH} (r : RS hx vx sx) (ex : Sub hx w) {vx1 : Value} {hx2 : PH} (r3 : RS hx2 vx1 l) (ex4 : Sub hx2 w) :
  CallsTo Try.prog 29 #[vx, vx1] w fun v w' => ∃ r0, Q r0 ∧ v = .bool r0 ∧ Ext w w' := by
 obtain ⟨a, c, rfl⟩ := r.shape
 obtain ⟨a5, c6, rfl⟩ := r3.shape
 refine enter (args := [sl a sx c, sl a5 l c6]) 21 Try.func29 rfl rfl rfl ?_
 refine W_forget [(0, sl a sx c), (1, sl a5 l c6)] ⟨rfl, rfl, trivial⟩ fun ρ => ?_
 have X := But.refl emp w
 refine W_seq (W_region ?_)
 refine LP_ev ok 0 [(4, .bool false)] 1 rfl rfl ?_
 refine LP_end _ rfl (W_seq ?_)
 refine W_seq (W_region ?_)
 refine LP_ev ok 0 [(7, sl a5 l c6), (8, I (ln l)), (9, .bool (decide ((ln l) > 40)))] 3 rfl rfl ?_
 refine LP_end _ rfl ?_
 refine W_cond (decide ((ln l) > 40)) rfl (fun hc => ?_) (fun hc => ?_)
 ·have H := H.1 hc
  refine W_seq (W_region ?_)
  refine LP_ev ok 0 [(4, .bool false)] 1 rfl rfl ?_
  refine LP_end _ rfl (W_ret ?_)
  exact ⟨_, Ret_of [.bool false] ⟨⟨rfl, rfl⟩, trivial⟩, _, H, rfl, X.ext⟩
 have H := H.2 hc
 refine W_skip ?_
 refine W_seq ?_
 refine W_seq (W_region ?_)
 refine LP_ev ok 0 [(10, sl a5 l c6), (11, I (ln l)), (12, I 0)] 3 rfl rfl ?_
 refine LP_end _ rfl ?_
 refine W_block ?_
 obtain ⟨J, m, Hx, H⟩ := H
 refine W_loop (S := Int) (fun s ρ' w' => J s ∧ ∃ (ρ : Env), ρ' = setAll [(0, sl a sx c), (10, sl a5 l c6), (11, I (ln l)), (12, I s)] ρ ∧ But emp w w' ∧ Sub hx w' ∧ Sub hx2 w') (fun s => m s) 0 ⟨Hx, _, env_eq ⟨rfl, rfl, rfl, rfl, trivial⟩, X, ex, ex4⟩ ?_
 rintro x _ wx ⟨Hi, ρ, rfl, X9, ex7, ex8⟩
 have H := H x Hi
 refine W_seq (W_region ?_)
 refine LP_ev ok 0 [(13, .bool (decide (x < (ln l))))] 1 rfl rfl ?_
 refine LP_end _ rfl (W_seq ?_)
 refine W_cond (decide (x < (ln l))) rfl (fun hc10 => ?_) (fun hc10 => ?_)
 ·have H := H.1 hc10
  refine W_skip ?_
  refine W_seq ?_
  refine W_block ?_
  refine W_seq (W_region ?_)
  obtain ⟨x11, hi, hx12, H⟩ := H
  refine LP_index 0 rfl rfl rfl Try.underlying26 ti_40 rfl rfl r3 hi hx12 fun a13 cs r14 d => ?_
  have d15 := d
  obtain ⟨u, rfl, r16⟩ := Record_rd d15
  obtain ⟨a17, c18, rfl⟩ := r16.shape
  refine LP_load 1 rfl rfl rfl ti_40 ag_40 rfl r14 d ex8 fun vx19 r20 => ?_
  obtain ⟨u21, rfl, r22⟩ := Record_rv r20
  obtain ⟨a23, c24, rfl⟩ := r22.shape
  refine LP_alloc 2 rfl rfl rfl ti_40 rfl fun b wx25 x26 ex27 f => ?_
  refine LP_stbox 3 (vs := [I x11.Area, I x11.House, sl a23 x11.Values c24]) (cs' := [I x11.Area, I x11.House, sl a23 x11.Values c24]) rfl rfl rfl ti_40 rfl rfl rfl rfl rfl ex27 rfl rfl fun wx28 ex29 y => ?_
  refine LP_end _ rfl (W_seq (W_region ?_))
  refine LP_ev ok 0 [(16, sl a sx c)] 1 rfl rfl ?_
  refine LP_ldbox 1 (v := .agg #[I x11.Area, I x11.House, sl a23 x11.Values c24]) rfl rfl rfl ti_40 ag_40 (fun h => by cases h) rfl ex29 rfl rfl ?_
  have ex31 := ((ex7.ext x26).but y (Dj.of_fresh ex7 f).symm)
  have ex32 := ((ex8.ext x26).but y (Dj.of_fresh ex8 f).symm)
  refine LP_call 2 rfl rfl rfl cal_77 rfl (impl_isRecord_w _ _ _ H wx28 r ex31 r22 ex32) ?_
  rintro _ wx33 ⟨r30, H, rfl, x34⟩
  refine LP_ev ok 3 [(19, .bool (!r30))] 4 rfl rfl ?_
  refine LP_end _ rfl ?_
  refine W_cond (!r30) rfl (fun hc35 => ?_) (fun hc35 => ?_)
  ·have H := H.1 hc35
   refine W_seq (W_region ?_)
   refine LP_ev ok 0 [(4, .bool false)] 1 rfl rfl ?_
   refine LP_end _ rfl (W_ret ?_)
   have f36 := f.mono X9.size
   exact ⟨_, Ret_of [.bool false] ⟨⟨rfl, rfl⟩, trivial⟩, _, H, rfl, (((X9.stepx x26).step y (f36.dom _)).stepx x34).ext⟩
  have H := H.2 hc35
  refine W_skip ?_
  refine W_region ?_
  refine LP_ev ok 0 [(20, I (wr (x + 1))), (12, I (wr (x + 1)))] 2 rfl rfl ?_
  refine LP_end _ rfl ?_
  have f38 := f.mono X9.size
  exact ⟨wr (x + 1), ⟨H.1, _, env_eq ⟨rfl, rfl, rfl, rfl, trivial⟩, (((X9.stepx x26).step y (f38.dom _)).stepx x34), (ex31.ext x34), (ex32.ext x34)⟩, H.2⟩
 have H := H.2 hc10
 refine W_exit ?_
 refine (if_pos rfl).mpr ?_
 refine W_seq (W_region ?_)
 refine LP_ev ok 0 [(4, .bool true)] 1 rfl rfl ?_
 refine LP_end _ rfl (W_ret ?_)
 exact ⟨_, Ret_of [.bool true] ⟨⟨rfl, rfl⟩, trivial⟩, _, H, rfl, X9.ext⟩

theorem slices_Clone_int_int_w (sx : List Int) (Q : (List Int) → Prop) (H : slices_Clone_int_int sx Q) (w : World) {vx : Value} {hx : PH} (r : RS hx vx sx) (ex : Sub hx w) :
  CallsTo Try.prog 47 #[vx] w fun v w' => ∃ r0 u0 g0, Q r0 ∧ v = u0 ∧ Ext w w' ∧ OS 3 g0 emp u0 r0 ∧ Sub g0 w' ∧ Fresh w.heap.size g0 := by
 obtain ⟨a, c, rfl⟩ := r.shape
 refine enter (args := [sl a sx c]) 8 Try.func47 rfl rfl rfl ?_
 refine W_forget [(0, sl a sx c)] ⟨rfl, trivial⟩ fun ρ => ?_
 have X := But.refl emp w
 refine W_seq (W_region ?_)
 refine LP_ev ok 0 [(2, .slice none 0 0)] 1 rfl rfl ?_
 refine LP_end _ rfl (W_seq ?_)
 refine W_seq (W_region ?_)
 refine LP_ev ok 0 [(3, sl a sx c)] 1 rfl rfl ?_
 refine LP_val 1 _ rfl rfl (ex_eqnil rfl Try.underlying25 rfl rfl _) ?_
 have H := H _ (nil_of r)
 refine LP_end _ rfl ?_
 refine W_cond (Option.isNone a) rfl (fun hc => ?_) (fun hc => ?_)
 ·have H := H.1 hc
  refine W_seq (W_region ?_)
  refine LP_ev ok 0 [(2, .slice none 0 0)] 1 rfl rfl ?_
  refine LP_end _ rfl (W_ret ?_)
  exact ⟨_, Ret_of [.slice none 0 0] ⟨⟨rfl, rfl⟩, trivial⟩, _, _, emp, H, rfl, X.ext, OS.nil, (emp_sub _), (emp_fresh _)⟩
 have H := H.2 hc
 refine W_skip ?_
 refine W_seq (W_region ?_)
 refine LP_lit (α := Int) (g := emp) 0 (vs := []) (xs := []) rfl rfl rfl Try.underlying25 ti_3 rfl rfl trivial rfl rfl fun hx1 vx2 wx x o ex3 f => ?_
 obtain ⟨a4, c5, rfl⟩ := o.shape
 refine LP_ev ok 1 [(6, sl a sx c)] 2 rfl rfl ?_
 obtain ⟨hb, H⟩ := H
 refine LP_appendf (α := Int) 2 rfl rfl rfl Try.underlying25 ti_3 rfl rfl rfl o ex3 r (ex.ext x) (by first | omega | (simp only [ln] at *; omega)) (by first | omega | (simp only [ln] at *; omega)) fun hx7 vx8 wx9 o10 ex11 y dm => ?_
 obtain ⟨a12, c13, rfl⟩ := o10.shape
 refine LP_ev ok 3 [(2, .slice a12 (List.length ((([] : List Int)) ++ sx)) c13)] 4 rfl rfl ?_
 refine LP_end _ rfl (W_ret ?_)
 have f15 := f.mono X.size
 have X16 := (X.stepx x)
 have f14 := dm.fresh f15 X16.size
 exact ⟨_, Ret_of [.slice a12 (List.length ((([] : List Int)) ++ sx)) c13] ⟨⟨rfl, rfl⟩, trivial⟩, _, _, _, H, rfl, (X16.step y (f15.dom _)).ext, o10, ex11, f14⟩

theorem impl_copyRecord_w (r : Record) (Q : Record → Prop) (H : impl_copyRecord r Q) (w : World) {vx : Value} {hx : PH} (r1 : RS hx vx r.Values) (ex : Sub hx w) :
  CallsTo Try.prog 78 #[.agg #[I r.Area, I r.House, vx]] w fun v w' => ∃ r0 u0_2 g0_2, Q r0 ∧ v = .agg #[I r0.Area, I r0.House, u0_2] ∧ Ext w w' ∧ OS 3 g0_2 emp u0_2 r0.Values ∧ Sub g0_2 w' ∧ Fresh w.heap.size g0_2 := by
 obtain ⟨a, c, rfl⟩ := r1.shape
 refine enter (args := [.agg #[I r.Area, I r.House, sl a r.Values c]]) 8 Try.func78 rfl rfl rfl ?_
 refine W_forget [(0, .agg #[I r.Area, I r.House, sl a r.Values c])] ⟨rfl, trivial⟩ fun ρ => ?_
 have X := But.refl emp w
 refine W_seq (W_region ?_)
 refine LP_box 0 (cs := [I r.Area, I r.House, sl a r.Values c]) rfl rfl rfl rfl rfl fun b wx x ex2 f => ?_
 refine LP_alloc 1 rfl rfl rfl ti_40 rfl fun b3 wx4 x5 ex6 f7 => ?_
 refine LP_end _ rfl (W_seq (W_region ?_))
 refine LP_ev ok 0 [(3, .pointer (some ⟨b, 2, none⟩))] 1 rfl rfl ?_
 have ex8 := (ex2.ext x5)
 refine LP_ldbox 1 (v := sl a r.Values c) rfl rfl rfl ti_25 ag_25 (fun _ => rfl) rfl ex8 rfl rfl ?_
 have xc := (x.trans x5)
 refine LP_call 2 rfl rfl rfl cal_47 rfl (slices_Clone_int_int_w _ _ H wx4 r1 (ex.ext xc)) ?_
 rintro _ wx11 ⟨r9, vx13, hx14, H, rfl, x12, o, ex15, f16⟩
 obtain ⟨a17, c18, rfl⟩ := o.shape
 refine LP_ev ok 3 [(6, .pointer (some ⟨b, 2, none⟩))] 4 rfl rfl ?_
 refine LP_stbox 4 (vs := [sl a17 r9 c18]) (cs' := [I r.Area, I r.House, sl a17 r9 c18]) rfl rfl rfl ti_25 rfl rfl rfl rfl rfl (ex8.ext x12) rfl rfl fun wx19 ex20 y => ?_
 refine LP_end _ rfl (W_seq (W_region ?_))
 refine LP_ldbox 0 (v := .agg #[I r.Area, I r.House, sl a17 r9 c18]) rfl rfl rfl ti_40 ag_40 (fun h => by cases h) rfl ex20 rfl rfl ?_
 refine LP_stbox 1 (vs := [I r.Area, I r.House, sl a17 r9 c18]) (cs' := [I r.Area, I r.House, sl a17 r9 c18]) rfl rfl rfl ti_40 rfl rfl rfl rfl rfl ((ex6.ext x12).but y (Dj.of_fresh ex2 f7)) rfl rfl fun wx22 ex23 y24 => ?_
 refine LP_end _ rfl (W_ret ?_)
 have X28 := (X.stepx xc)
 have f27 := f16.mono X28.size
 have f29 := f.mono X.size
 have f30 := f7.mono (X.stepx x).size
 exact ⟨_, Ret_of [.agg #[I r.Area, I r.House, sl a17 r9 c18]] ⟨⟨_, rfl, rfl, ld_res ti_40 ag_40 (fun h => by cases h) ex23 rfl rfl⟩, trivial⟩, _, _, _, H, rfl, (((X28.stepx x12).step y (f29.dom _)).step y24 (f30.dom _)).ext, o, ((ex15.but y (Dj.of_fresh ex8 f16)).but y24 (Dj.of_fresh ex6 f16)), f27⟩

theorem impl_copyRecords_w (l : List Record) (Q : (List Record) → Prop) (H : impl_copyRecords l Q) (w : World) {vx : Value} {hx : PH} (r : RS hx vx l) (ex : Sub hx w) :
  CallsTo Try.prog 30 #[vx] w fun v w' => ∃ r0 u0 g0, Q r0 ∧ v = u0 ∧ Ext w w' ∧ OD g0 u0 r0 ∧ Sub g0 w' ∧ Fresh w.heap.size g0 := by
 obtain ⟨a, c, rfl⟩ := r.shape
 refine enter (args := [sl a l c]) 23 Try.func30 rfl rfl rfl ?_
 refine W_forget [(0, sl a l c)] ⟨rfl, trivial⟩ fun ρ => ?_
 have X := But.refl emp w
 refine W_seq (W_region ?_)
 refine LP_ev ok 0 [(2, .slice none 0 0)] 1 rfl rfl ?_
 refine LP_end _ rfl (W_seq (W_region ?_))
 refine LP_ev ok 0 [(6, sl a l c), (7, I (ln l))] 2 rfl rfl ?_
 obtain ⟨hn, hb, H⟩ := H
 refine LP_makeD (α := Record) 2 rfl rfl rfl Try.underlying26 ti_40 (x0 := (Record.mk ((0 : Int)) ((0 : Int)) (([] : List Int)))) rfl ⟨_, _, emp, emp, rfl, (un_emp emp).symm, Dj.emp_l _, ⟨rfl, rfl⟩, ⟨_, _, emp, emp, rfl, (un_emp emp).symm, Dj.emp_l _, ⟨rfl, rfl⟩, ⟨_, rfl, OD.nil⟩⟩⟩ hn (by first | omega | (simp only [ln] at *; omega)) (by first | omega | (simp only [ln] at *; omega)) fun hx1 vx2 wx x o ex3 f => ?_
 obtain ⟨a4, c5, rfl⟩ := o.shape
 refine LP_ev ok 3 [(3, .slice a4 (List.length (List.replicate (Int.toNat (ln l)) ((Record.mk ((0 : Int)) ((0 : Int)) (([] : List Int)))))) c5)] 4 rfl rfl ?_
 refine LP_end _ rfl (W_seq ?_)
 refine W_seq (W_region ?_)
 refine LP_ev ok 0 [(9, sl a l c), (10, I (ln l)), (11, I 0)] 3 rfl rfl ?_
 refine LP_end _ rfl ?_
 refine W_block ?_
 have f17 := f.mono X.size
 obtain ⟨J, m, Hx, H⟩ := H
 refine W_loop (S := (List Record) × Int) (fun s ρ' w' => J s.1 s.2 ∧ ∃ (ρ : Env) (hx8 : PH), ρ' = setAll [(3, .slice a4 (List.length (List.replicate (Int.toNat (ln l)) ((Record.mk ((0 : Int)) ((0 : Int)) (([] : List Int)))))) c5), (9, sl a l c), (10, I (ln l)), (11, I s.2)] ρ ∧ But emp w w' ∧ OD hx8 (.slice a4 (List.length (List.replicate (Int.toNat (ln l)) ((Record.mk ((0 : Int)) ((0 : Int)) (([] : List Int)))))) c5) s.1 ∧ Sub hx8 w' ∧ Fresh w.heap.size hx8 ∧ Sub hx w' ∧ Dj hx8 hx) (fun s => m s.1 s.2) (List.replicate (Int.toNat (ln l)) ((Record.mk ((0 : Int)) ((0 : Int)) (([] : List Int)))), 0) ⟨Hx, _, hx1, env_eq ⟨rfl, rfl, rfl, rfl, trivial⟩, (X.stepx x), o, ex3, f17, (ex.ext x), (Dj.of_fresh ex f).symm⟩ ?_
 rintro ⟨c6, x12⟩ _ wx13 ⟨Hi, ρ, hx8, rfl, HF⟩
 revert HF
 refine bb6 fun X15 o9 ex10 f11 ex14 d => ?_
 have H := H c6 x12 Hi
 refine W_seq (W_region ?_)
 refine LP_ev ok 0 [(12, .bool (decide (x12 < (ln l))))] 1 rfl rfl ?_
 refine LP_end _ rfl (W_seq ?_)
 refine W_cond (decide (x12 < (ln l))) rfl (fun hc => ?_) (fun hc => ?_)
 ·have H := H.1 hc
  refine W_skip ?_
  refine W_seq ?_
  refine W_block ?_
  refine W_seq (W_region ?_)
  refine LP_ev ok 0 [(13, I x12)] 1 rfl rfl ?_
  obtain ⟨x19, hi, hx20, H⟩ := H
  refine LP_index 1 rfl rfl rfl Try.underlying26 ti_40 rfl rfl r hi hx20 fun a21 cs r22 d23 => ?_
  have d24 := d23
  obtain ⟨u, rfl, r25⟩ := Record_rd d24
  obtain ⟨a26, c27, rfl⟩ := r25.shape
  refine LP_load 2 rfl rfl rfl ti_40 ag_40 rfl r22 d23 ex14 fun vx28 r29 => ?_
  obtain ⟨u30, rfl, r31⟩ := Record_rv r29
  obtain ⟨a32, c33, rfl⟩ := r31.shape
  refine LP_alloc 3 rfl rfl rfl ti_40 rfl fun b wx34 x35 ex36 f37 => ?_
  refine LP_ev ok 4 [(4, I x12)] 5 rfl rfl ?_
  refine LP_stbox 5 (vs := [I x19.Area, I x19.House, sl a32 x19.Values c33]) (cs' := [I x19.Area, I x19.House, sl a32 x19.Values c33]) rfl rfl rfl ti_40 rfl rfl rfl rfl rfl ex36 rfl rfl fun wx38 ex39 y => ?_
  refine LP_end _ rfl ?_
  refine W_region ?_
  refine LP_ev ok 0 [(16, .slice a4 (List.length (List.replicate (Int.toNat (ln l)) ((Record.mk ((0 : Int)) ((0 : Int)) (([] : List Int)))))) c5), (17, I x12)] 2 rfl rfl ?_
  refine LP_ldbox 2 (v := .agg #[I x19.Area, I x19.House, sl a32 x19.Values c33]) rfl rfl rfl ti_40 ag_40 (fun h => by cases h) rfl ex39 rfl rfl ?_
  have ex41 := ((ex14.ext x35).but y (Dj.of_fresh ex14 f37).symm)
  refine LP_call 3 rfl rfl rfl cal_78 rfl (impl_copyRecord_w _ _ H wx38 r31 ex41) ?_
  rintro _ wx42 ⟨r40, vx44, hx45, H, rfl, x43, o46, ex47, f48⟩
  obtain ⟨a49, c50, rfl⟩ := o46.shape
  obtain ⟨hi51, hl, H⟩ := H
  refine LP_indexd (v := .slice a4 (List.length (List.replicate (Int.toNat (ln l)) ((Record.mk ((0 : Int)) ((0 : Int)) (([] : List Int)))))) c5) 4 rfl rfl rfl Try.underlying26 ti_40 rfl rfl o9 hi51 hl fun a52 wa => ?_
  have rv : RVO (un emp (un emp hx45)) (.agg #[I r40.Area, I r40.House, sl a49 r40.Values c50]) ((Record.mk r40.Area r40.House r40.Values) : Record) := ⟨_, ⟨_, _, _, _, rfl, rfl, (Dj.emp_l _), ⟨rfl, rfl⟩, ⟨_, _, _, _, rfl, rfl, (Dj.emp_l _), ⟨rfl, rfl⟩, ⟨_, rfl, (OS.od o46)⟩⟩⟩, rfl⟩
  refine LP_setD (y := ((Record.mk r40.Area r40.House r40.Values) : Record)) 5 rfl rfl rfl rfl rfl wa rv (((ex10.ext x35).but y (Dj.of_fresh ex10 f37).symm).ext x43) (Sub.un (emp_sub _) (Sub.un (emp_sub _) ex47)) (Dj.un_r (Dj.emp_r _) (Dj.un_r (Dj.emp_r _) (Dj.of_fresh ((ex10.ext x35).but y (Dj.of_fresh ex10 f37).symm) f48))) fun hx53 hw wx54 o55 ex56 y57 dh dq ex58 => ?_
  refine LP_end _ rfl ?_
  refine W_region ?_
  refine LP_ev ok 0 [(21, I (wr (x12 + 1))), (11, I (wr (x12 + 1)))] 2 rfl rfl ?_
  refine LP_end _ rfl ?_
  have f61 := f37.mono X15.size
  have f63 := f48.mono ((X15.stepx x35).step y (f61.dom _)).size
  have f65 := Fresh.domOf (Fresh.un f11 (Fresh.un (emp_fresh _) (Fresh.un (emp_fresh _) f63))) dq
  exact ⟨(List.set c6 (Int.toNat x12) (((Record.mk r40.Area r40.House r40.Values) : Record)), wr (x12 + 1)), ⟨H.1, _, hx53, env_eq ⟨rfl, rfl, rfl, rfl, trivial⟩, ((((X15.stepx x35).step y (f61.dom _)).stepx x43).step (But.dom y57 dh) (f11.dom _)), o55, ex56, f65, ((ex41.ext x43).but (But.dom y57 dh) d), (Dom.dj dq (Dj.un_l d (Dj.un_l (Dj.emp_l _) (Dj.un_l (Dj.emp_l _) (Dj.of_fresh ex41 f48).symm))))⟩, H.2⟩
 have H := H.2 hc
 refine W_exit ?_
 refine (if_pos rfl).mpr ?_
 refine W_seq (W_region ?_)
 refine LP_ev ok 0 [(22, .slice a4 (List.length (List.replicate (Int.toNat (ln l)) ((Record.mk ((0 : Int)) ((0 : Int)) (([] : List Int)))))) c5), (2, .slice a4 (List.length (List.replicate (Int.toNat (ln l)) ((Record.mk ((0 : Int)) ((0 : Int)) (([] : List Int)))))) c5)] 2 rfl rfl ?_
 refine LP_end _ rfl (W_ret ?_)
 exact ⟨_, Ret_of [.slice a4 (List.length (List.replicate (Int.toNat (ln l)) ((Record.mk ((0 : Int)) ((0 : Int)) (([] : List Int)))))) c5] ⟨⟨rfl, rfl⟩, trivial⟩, _, _, _, H, rfl, X15.ext, o9, ex10, f11⟩

theorem impl_fails_w (ex : Edit) (values : List Int) (Q : Bool → Prop) (H : impl_fails ex values Q) (w : World) {vx : Value} {hx : PH} (r : RS hx vx ex.Sets) (ex1 : Sub hx w) {vx2 : Value} {hx3 : PH} (r4 : RS hx3 vx2 values) (ex5 : Sub hx3 w) :
  CallsTo Try.prog 50 #[.agg #[vx], vx2] w fun v w' => ∃ r0, Q r0 ∧ v = .bool r0 ∧ Ext w w' := by
 obtain ⟨a, c, rfl⟩ := r.shape
 obtain ⟨a6, c7, rfl⟩ := r4.shape
 refine enter (args := [.agg #[sl a ex.Sets c], sl a6 values c7]) 24 Try.func50 rfl rfl rfl ?_
 refine W_forget [(0, .agg #[sl a ex.Sets c]), (1, sl a6 values c7)] ⟨rfl, rfl, trivial⟩ fun ρ => ?_
 have X := But.refl emp w
 refine W_seq (W_region ?_)
 refine LP_box 0 (cs := [sl a ex.Sets c]) rfl rfl rfl rfl rfl fun b wx x ex8 f => ?_
 refine LP_ev ok 1 [(4, .bool false)] 2 rfl rfl ?_
 refine LP_end _ rfl (W_seq ?_)
 refine W_seq (W_region ?_)
 refine LP_ev ok 0 [(7, sl a6 values c7), (8, I (ln values)), (9, I 0)] 3 rfl rfl ?_
 refine LP_end _ rfl ?_
 refine W_block ?_
 obtain ⟨J, m, Hx, H⟩ := H
 refine W_loop (S := Int) (fun s ρ' w' => J s ∧ ∃ (ρ : Env), ρ' = setAll [(2, pb b), (7, sl a6 values c7), (8, I (ln values)), (9, I s)] ρ ∧ wx = w') (fun s => m s) 0 ⟨Hx, _, env_eq ⟨rfl, rfl, rfl, rfl, trivial⟩, rfl⟩ ?_
 rintro x9 _ _ ⟨Hi, ρ, rfl, rfl⟩
 have H := H x9 Hi
 refine W_seq (W_region ?_)
 refine LP_ev ok 0 [(10, .bool (decide (x9 < (ln values))))] 1 rfl rfl ?_
 refine LP_end _ rfl (W_seq ?_)
 refine W_cond (decide (x9 < (ln values))) rfl (fun hc => ?_) (fun hc => ?_)
 ·have H := H.1 hc
  refine W_skip ?_
  refine W_seq ?_
  refine W_block ?_
  refine W_seq (W_region ?_)
  refine LP_ev ok 0 [(11, I x9)] 1 rfl rfl ?_
  obtain ⟨x11, hi, hx12, H⟩ := H
  refine LP_index 1 rfl rfl rfl Try.underlying25 ti_3 rfl rfl r4 hi hx12 fun a13 cs r14 d => ?_
  refine LP_load 2 rfl rfl rfl ti_3 ag_3 rfl r14 d (ex5.ext x) fun vx16 r17 => ?_
  obtain rfl := r17.int
  refine LP_ev ok 3 [(5, I x9), (6, I x11)] 5 rfl rfl ?_
  refine LP_end _ rfl (W_seq (W_region ?_))
  refine LP_ev ok 0 [(14, pb b)] 1 rfl rfl ?_
  refine LP_ldbox 1 (v := sl a ex.Sets c) rfl rfl rfl ti_25 ag_25 (fun _ => rfl) rfl ex8 rfl rfl ?_
  refine LP_ev ok 2 [(16, I x9)] 3 rfl rfl ?_
  obtain ⟨x18, hi19, hx20, H⟩ := H
  refine LP_index 3 rfl rfl rfl Try.underlying25 ti_3 rfl rfl r hi19 hx20 fun a21 cs22 r23 d24 => ?_
  refine LP_load 4 rfl rfl rfl ti_3 ag_3 rfl r23 d24 (ex1.ext x) fun vx26 r27 => ?_
  obtain rfl := r27.int
  refine LP_ev ok 5 [(19, I x11)] 6 rfl rfl ?_
  obtain ⟨hz, H⟩ := H
  refine LP_val 6 _ rfl rfl (ex_shr rfl rfl rfl hz _) ?_
  refine LP_ev ok 7 [(21, I (bits .and .i64 (shr .i64 x18 x11) 1)), (22, .bool ((bits .and .i64 (shr .i64 x18 x11) 1) == 0))] 9 rfl rfl ?_
  refine LP_end _ rfl ?_
  refine W_cond ((bits .and .i64 (shr .i64 x18 x11) 1) == 0) rfl (fun hc28 => ?_) (fun hc28 => ?_)
  ·have H := H.1 hc28
   refine W_seq (W_region ?_)
   refine LP_ev ok 0 [(4, .bool false)] 1 rfl rfl ?_
   refine LP_end _ rfl (W_ret ?_)
   exact ⟨_, Ret_of [.bool false] ⟨⟨rfl, rfl⟩, trivial⟩, _, H, rfl, (X.stepx x).ext⟩
  have H := H.2 hc28
  refine W_skip ?_
  refine W_region ?_
  refine LP_ev ok 0 [(23, I (wr (x9 + 1))), (9, I (wr (x9 + 1)))] 2 rfl rfl ?_
  exact LP_end _ rfl ⟨wr (x9 + 1), ⟨H.1, _, env_eq ⟨rfl, rfl, rfl, rfl, trivial⟩, rfl⟩, H.2⟩
 have H := H.2 hc
 refine W_exit ?_
 refine (if_pos rfl).mpr ?_
 refine W_seq (W_region ?_)
 refine LP_ev ok 0 [(4, .bool true)] 1 rfl rfl ?_
 refine LP_end _ rfl (W_ret ?_)
 exact ⟨_, Ret_of [.bool true] ⟨⟨rfl, rfl⟩, trivial⟩, _, H, rfl, (X.stepx x).ext⟩

theorem impl_failsOne_w (l : List Edit) (values : List Int) (Q : Bool → Prop) (H : impl_failsOne l values Q) (w : World) {vx : Value} {hx : PH} (r : RS hx vx l) (ex : Sub hx w) {vx1 : Value} {hx2 : PH} (r3 : RS hx2 vx1 values) (ex4 : Sub hx2 w) :
  CallsTo Try.prog 31 #[vx, vx1] w fun v w' => ∃ r0, Q r0 ∧ v = .bool r0 ∧ Ext w w' := by
 obtain ⟨a, c, rfl⟩ := r.shape
 obtain ⟨a5, c6, rfl⟩ := r3.shape
 refine enter (args := [sl a l c, sl a5 values c6]) 17 Try.func31 rfl rfl rfl ?_
 refine W_forget [(0, sl a l c), (1, sl a5 values c6)] ⟨rfl, rfl, trivial⟩ fun ρ => ?_
 have X := But.refl emp w
 refine W_seq (W_region ?_)
 refine LP_ev ok 0 [(4, .bool false)] 1 rfl rfl ?_
 refine LP_end _ rfl (W_seq ?_)
 refine W_seq (W_region ?_)
 refine LP_ev ok 0 [(7, sl a l c), (8, I (ln l)), (9, I 0)] 3 rfl rfl ?_
 refine LP_end _ rfl ?_
 refine W_block ?_
 obtain ⟨J, m, Hx, H⟩ := H
 refine W_loop (S := Int) (fun s ρ' w' => J s ∧ ∃ (ρ : Env), ρ' = setAll [(1, sl a5 values c6), (7, sl a l c), (8, I (ln l)), (9, I s)] ρ ∧ But emp w w' ∧ Sub hx w' ∧ Sub hx2 w') (fun s => m s) 0 ⟨Hx, _, env_eq ⟨rfl, rfl, rfl, rfl, trivial⟩, X, ex, ex4⟩ ?_
 rintro x _ wx ⟨Hi, ρ, rfl, X9, ex7, ex8⟩
 have H := H x Hi
 refine W_seq (W_region ?_)
 refine LP_ev ok 0 [(10, .bool (decide (x < (ln l))))] 1 rfl rfl ?_
 refine LP_end _ rfl (W_seq ?_)
 refine W_cond (decide (x < (ln l))) rfl (fun hc => ?_) (fun hc => ?_)
 ·have H := H.1 hc
  refine W_skip ?_
  refine W_seq ?_
  refine W_block ?_
  refine W_seq (W_region ?_)
  obtain ⟨x10, hi, hx11, H⟩ := H
  refine LP_index 0 rfl rfl rfl Try.underlying24 ti_79 rfl rfl r hi hx11 fun a12 cs r13 d => ?_
  have d14 := d
  obtain ⟨u, rfl, r15⟩ := Edit_rd d14
  obtain ⟨a16, c17, rfl⟩ := r15.shape
  refine LP_load 1 rfl rfl rfl ti_79 ag_79 rfl r13 d ex7 fun vx18 r19 => ?_
  obtain ⟨u20, rfl, r21⟩ := Edit_rv r19
  obtain ⟨a22, c23, rfl⟩ := r21.shape
  refine LP_alloc 2 rfl rfl rfl ti_79 rfl fun b wx24 x25 ex26 f => ?_
  refine LP_stbox 3 (vs := [sl a22 x10.Sets c23]) (cs' := [sl a22 x10.Sets c23]) rfl rfl rfl ti_79 rfl rfl rfl rfl rfl ex26 rfl rfl fun wx27 ex28 y => ?_
  refine LP_end _ rfl (W_seq (W_region ?_))
  refine LP_ldbox 0 (v := .agg #[sl a22 x10.Sets c23]) rfl rfl rfl ti_79 ag_79 (fun h => by cases h) rfl ex28 rfl rfl ?_
  refine LP_ev ok 1 [(14, sl a5 values c6)] 2 rfl rfl ?_
  have ex30 := ((ex7.ext x25).but y (Dj.of_fresh ex7 f).symm)
  have ex31 := ((ex8.ext x25).but y (Dj.of_fresh ex8 f).symm)
  refine LP_call 2 rfl rfl rfl cal_50 rfl (impl_fails_w _ _ _ H wx27 r21 ex30 r3 ex31) ?_
  rintro _ wx32 ⟨r29, H, rfl, x33⟩
  refine LP_end _ rfl ?_
  refine W_cond (r29) rfl (fun hc34 => ?_) (fun hc34 => ?_)
  ·have H := H.1 hc34
   refine W_seq (W_region ?_)
   refine LP_ev ok 0 [(4, .bool true)] 1 rfl rfl ?_
   refine LP_end _ rfl (W_ret ?_)
   have f35 := f.mono X9.size
   exact ⟨_, Ret_of [.bool true] ⟨⟨rfl, rfl⟩, trivial⟩, _, H, rfl, (((X9.stepx x25).step y (f35.dom _)).stepx x33).ext⟩
  have H := H.2 hc34
  refine W_skip ?_
  refine W_region ?_
  refine LP_ev ok 0 [(16, I (wr (x + 1))), (9, I (wr (x + 1)))] 2 rfl rfl ?_
  refine LP_end _ rfl ?_
  have f37 := f.mono X9.size
  exact ⟨wr (x + 1), ⟨H.1, _, env_eq ⟨rfl, rfl, rfl, rfl, trivial⟩, (((X9.stepx x25).step y (f37.dom _)).stepx x33), (ex30.ext x33), (ex31.ext x33)⟩, H.2⟩
 have H := H.2 hc
 refine W_exit ?_
 refine (if_pos rfl).mpr ?_
 refine W_seq (W_region ?_)
 refine LP_ev ok 0 [(4, .bool false)] 1 rfl rfl ?_
 refine LP_end _ rfl (W_ret ?_)
 exact ⟨_, Ret_of [.bool false] ⟨⟨rfl, rfl⟩, trivial⟩, _, H, rfl, X9.ext⟩

theorem impl_membersOf_w (mask : Int) (Q : (List Int) → Prop) (H : impl_membersOf mask Q) (w : World)  :
  CallsTo Try.prog 65 #[I mask] w fun v w' => ∃ r0 u0 g0, Q r0 ∧ v = u0 ∧ Ext w w' ∧ OS 3 g0 emp u0 r0 ∧ Sub g0 w' ∧ Fresh w.heap.size g0 := by
 refine enter (args := [I mask]) 21 Try.func65 rfl rfl rfl ?_
 refine W_forget [(0, I mask)] ⟨rfl, trivial⟩ fun ρ => ?_
 have X := But.refl emp w
 refine W_seq (W_region ?_)
 refine LP_ev ok 0 [(2, .slice none 0 0)] 1 rfl rfl ?_
 refine LP_end _ rfl (W_seq (W_region ?_))
 refine LP_ev ok 0 [(3, .slice none 0 0)] 1 rfl rfl ?_
 refine LP_end _ rfl (W_seq ?_)
 refine W_seq (W_region ?_)
 refine LP_ev ok 0 [(4, I 0)] 1 rfl rfl ?_
 refine LP_end _ rfl ?_
 refine W_block ?_
 obtain ⟨J, m, Hx, H⟩ := H
 refine W_loop (S := (List Int) × Int) (fun s ρ' w' => J s.1 s.2 ∧ ∃ (ρ : Env) (vx : Value) (hx : PH), ρ' = setAll [(0, I mask), (3, vx), (4, I s.2)] ρ ∧ But emp w w' ∧ OS 3 hx emp vx s.1 ∧ Sub hx w' ∧ Fresh w.heap.size hx) (fun s => m s.1 s.2) ([], 0) ⟨Hx, _, .slice none 0 0, emp, env_eq ⟨rfl, rfl, rfl, trivial⟩, X, OS.nil, (emp_sub _), (emp_fresh _)⟩ ?_
 rintro ⟨out, i⟩ _ wx ⟨Hi, ρ, vx, hx, rfl, X1, o, ex, f⟩
 have H := H out i Hi
 obtain ⟨a, c, rfl⟩ := o.shape
 refine W_seq ?_
 refine W_seq (W_region ?_)
 refine LP_ev ok 0 [(5, I mask), (6, I i)] 2 rfl rfl ?_
 obtain ⟨hz, H⟩ := H
 refine LP_val 2 _ rfl rfl (ex_shr rfl rfl rfl hz _) ?_
 refine LP_ev ok 3 [(8, .bool ((shr .i64 mask i) != 0))] 4 rfl rfl ?_
 refine LP_end _ rfl ?_
 refine W_cond ((shr .i64 mask i) != 0) rfl (fun hc => ?_) (fun hc => ?_)
 ·have H := H.1 hc
  refine W_skip ?_
  obtain ⟨k, hk, H⟩ := jn_elim H
  refine W_join2 (S := (List Int)) (fun s ρ' w' => k s ∧ ∃ (ρ : Env) (vx3 : Value) (hx4 : PH), ρ' = setAll [(0, I mask), (3, vx3), (4, I i)] ρ ∧ But emp w w' ∧ OS 3 hx4 emp vx3 s ∧ Sub hx4 w' ∧ Fresh w.heap.size hx4) ?_ ?_
  ·refine W_block ?_
   refine W_seq (W_region ?_)
   refine LP_ev ok 0 [(11, I mask), (12, I i)] 2 rfl rfl ?_
   obtain ⟨hz12, H⟩ := H
   refine LP_val 2 _ rfl rfl (ex_shr rfl rfl rfl hz12 _) ?_
   refine LP_ev ok 3 [(14, I (bits .and .i64 (shr .i64 mask i) 1)), (15, .bool ((bits .and .i64 (shr .i64 mask i) 1) == 1))] 5 rfl rfl ?_
   refine LP_end _ rfl ?_
   refine W_cond ((bits .and .i64 (shr .i64 mask i) 1) == 1) rfl (fun hc13 => ?_) (fun hc13 => ?_)
   ·have H := H.1 hc13
    refine W_region ?_
    refine LP_ev ok 0 [(16, sl a out c), (17, I i)] 2 rfl rfl ?_
    refine LP_lit (α := Int) (g := emp) 2 (vs := [I i]) (xs := [i]) rfl rfl rfl Try.underlying25 ti_3 rfl rfl ⟨⟨_, rfl, rfl⟩, trivial⟩ rfl rfl fun hx14 vx15 wx16 x o17 ex18 f19 => ?_
    obtain ⟨a20, c21, rfl⟩ := o17.shape
    obtain ⟨hb, H⟩ := H
    refine LP_appendf (α := Int) 3 rfl rfl rfl Try.underlying25 ti_3 rfl rfl rfl o (ex.ext x) o17.readf ex18 (by first | omega | (simp only [ln] at *; omega)) (by first | omega | (simp only [ln] at *; omega)) fun hx23 vx24 wx25 o26 ex27 y dm => ?_
    obtain ⟨a28, c29, rfl⟩ := o26.shape
    refine LP_ev ok 4 [(3, .slice a28 (List.length (out ++ ([i]))) c29)] 5 rfl rfl ?_
    refine LP_end _ rfl ?_
    have f31 := dm.fresh f (X1.stepx x).size
    exact ⟨out ++ ([i]), H, _, .slice a28 (List.length (out ++ ([i]))) c29, hx23, env_eq ⟨rfl, rfl, rfl, trivial⟩, ((X1.stepx x).step y (f.dom _)), o26, ex27, f31⟩
   have H := H.2 hc13
   exact W_skip ⟨out, H, _, sl a out c, hx, env_eq ⟨rfl, rfl, rfl, trivial⟩, X1, o, ex, f⟩
  rintro out2 _ wx8 ⟨H, ρ, vx3, hx4, rfl, X11, o5, ex6, f7⟩
  subst hk
  obtain ⟨a9, c10, rfl⟩ := o5.shape
  refine W_region ?_
  refine LP_ev ok 0 [(9, I i), (10, I (wr (i + 1))), (4, I (wr (i + 1)))] 3 rfl rfl ?_
  exact LP_end _ rfl ⟨(out2, wr (i + 1)), ⟨H.1, _, sl a9 out2 c10, hx4, env_eq ⟨rfl, rfl, rfl, trivial⟩, X11, o5, ex6, f7⟩, H.2⟩
 have H := H.2 hc
 refine W_exit ?_
 refine (if_pos rfl).mpr ?_
 refine W_seq (W_region ?_)
 refine LP_ev ok 0 [(20, sl a out c), (2, sl a out c)] 2 rfl rfl ?_
 refine LP_end _ rfl (W_ret ?_)
 exact ⟨_, Ret_of [sl a out c] ⟨⟨rfl, rfl⟩, trivial⟩, _, _, _, H, rfl, X1.ext, o, ex, f⟩

theorem slices_Index_int_int_w (sx : List Int) (vx1 : Int) (Q : Int → Prop) (H : slices_Index_int_int sx vx1 Q) (w : World) {vx : Value} {hx : PH} (r : RS hx vx sx) (ex : Sub hx w) :
  CallsTo Try.prog 117 #[vx, I vx1] w fun v w' => ∃ r0, Q r0 ∧ v = I r0 ∧ Ext w w' := by
 obtain ⟨a, c, rfl⟩ := r.shape
 refine enter (args := [sl a sx c, I vx1]) 19 Try.func117 rfl rfl rfl ?_
 refine W_forget [(0, sl a sx c), (1, I vx1)] ⟨rfl, rfl, trivial⟩ fun ρ => ?_
 have X := But.refl emp w
 refine W_seq (W_region ?_)
 refine LP_ev ok 0 [(4, I 0)] 1 rfl rfl ?_
 refine LP_end _ rfl (W_seq ?_)
 refine W_seq (W_region ?_)
 refine LP_ev ok 0 [(6, sl a sx c), (7, I (ln sx)), (8, I 0)] 3 rfl rfl ?_
 refine LP_end _ rfl ?_
 refine W_block ?_
 obtain ⟨J, m, Hx, H⟩ := H
 refine W_loop (S := Int) (fun s ρ' w' => J s ∧ ∃ (ρ : Env), ρ' = setAll [(0, sl a sx c), (1, I vx1), (7, I (ln sx)), (8, I s)] ρ ∧ w = w') (fun s => m s) 0 ⟨Hx, _, env_eq ⟨rfl, rfl, rfl, rfl, trivial⟩, rfl⟩ ?_
 rintro x _ _ ⟨Hi, ρ, rfl, rfl⟩
 have H := H x Hi
 refine W_seq (W_region ?_)
 refine LP_ev ok 0 [(9, .bool (decide (x < (ln sx))))] 1 rfl rfl ?_
 refine LP_end _ rfl (W_seq ?_)
 refine W_cond (decide (x < (ln sx))) rfl (fun hc => ?_) (fun hc => ?_)
 ·have H := H.1 hc
  refine W_skip ?_
  refine W_seq ?_
  refine W_block ?_
  refine W_seq (W_region ?_)
  refine LP_ev ok 0 [(10, I x), (5, I x)] 2 rfl rfl ?_
  refine LP_end _ rfl (W_seq (W_region ?_))
  refine LP_ev ok 0 [(11, I vx1), (12, sl a sx c), (13, I x)] 3 rfl rfl ?_
  obtain ⟨x2, hi, hx3, H⟩ := H
  refine LP_index 3 rfl rfl rfl Try.underlying25 ti_3 rfl rfl r hi hx3 fun a4 cs r5 d => ?_
  refine LP_load 4 rfl rfl rfl ti_3 ag_3 rfl r5 d ex fun vx6 r7 => ?_
  obtain rfl := r7.int
  refine LP_ev ok 5 [(16, .bool (vx1 == x2))] 6 rfl rfl ?_
  refine LP_end _ rfl ?_
  refine W_cond (vx1 == x2) rfl (fun hc8 => ?_) (fun hc8 => ?_)
  ·have H := H.1 hc8
   refine W_seq (W_region ?_)
   refine LP_ev ok 0 [(17, I x), (4, I x)] 2 rfl rfl ?_
   refine LP_end _ rfl (W_ret ?_)
   exact ⟨_, Ret_of [I x] ⟨⟨rfl, rfl⟩, trivial⟩, _, H, rfl, X.ext⟩
  have H := H.2 hc8
  refine W_skip ?_
  refine W_region ?_
  refine LP_ev ok 0 [(18, I (wr (x + 1))), (8, I (wr (x + 1)))] 2 rfl rfl ?_
  exact LP_end _ rfl ⟨wr (x + 1), ⟨H.1, _, env_eq ⟨rfl, rfl, rfl, rfl, trivial⟩, rfl⟩, H.2⟩
 have H := H.2 hc
 refine W_exit ?_
 refine (if_pos rfl).mpr ?_
 refine W_seq (W_region ?_)
 refine LP_ev ok 0 [(4, I ((-1)))] 1 rfl rfl ?_
 refine LP_end _ rfl (W_ret ?_)
 exact ⟨_, Ret_of [I ((-1))] ⟨⟨rfl, rfl⟩, trivial⟩, _, H, rfl, X.ext⟩

theorem slices_Contains_int_int_w (sx : List Int) (vx1 : Int) (Q : Bool → Prop) (H : slices_Contains_int_int sx vx1 Q) (w : World) {vx : Value} {hx : PH} (r : RS hx vx sx) (ex : Sub hx w) :
  CallsTo Try.prog 83 #[vx, I vx1] w fun v w' => ∃ r0, Q r0 ∧ v = .bool r0 ∧ Ext w w' := by
 obtain ⟨a, c, rfl⟩ := r.shape
 refine enter (args := [sl a sx c, I vx1]) 9 Try.func83 rfl rfl rfl ?_
 refine W_forget [(0, sl a sx c), (1, I vx1)] ⟨rfl, rfl, trivial⟩ fun ρ => ?_
 have X := But.refl emp w
 refine W_seq (W_region ?_)
 refine LP_ev ok 0 [(4, .bool false)] 1 rfl rfl ?_
 refine LP_end _ rfl (W_seq (W_region ?_))
 refine LP_ev ok 0 [(5, sl a sx c), (6, I vx1)] 2 rfl rfl ?_
 refine LP_call 2 rfl rfl rfl cal_117 rfl (slices_Index_int_int_w _ _ _ H w r ex) ?_
 rintro _ wx ⟨r2, H, rfl, x⟩
 refine LP_ev ok 3 [(8, .bool (decide (r2 ≥ 0))), (4, .bool (decide (r2 ≥ 0)))] 5 rfl rfl ?_
 refine LP_end _ rfl (W_ret ?_)
 exact ⟨_, Ret_of [.bool (decide (r2 ≥ 0))] ⟨⟨rfl, rfl⟩, trivial⟩, _, H, rfl, (X.stepx x).ext⟩

theorem impl_otherVars_w (sx : List Variable) (vars : List Int) (Q : (List Int) → Prop) (H : impl_otherVars sx vars Q) (w : World) {vx : Value} {hx : PH} (r : RS hx vx sx) (ex : Sub hx w) {vx1 : Value} {hx2 : PH} (r3 : RS hx2 vx1 vars) (ex4 : Sub hx2 w) :
  CallsTo Try.prog 34 #[vx, vx1] w fun v w' => ∃ r0 u0 g0, Q r0 ∧ v = u0 ∧ Ext w w' ∧ OS 3 g0 emp u0 r0 ∧ Sub g0 w' ∧ Fresh w.heap.size g0 := by
 obtain ⟨a, c, rfl⟩ := r.shape
 obtain ⟨a5, c6, rfl⟩ := r3.shape
 refine enter (args := [sl a sx c, sl a5 vars c6]) 22 Try.func34 rfl rfl rfl ?_
 refine W_forget [(0, sl a sx c), (1, sl a5 vars c6)] ⟨rfl, rfl, trivial⟩ fun ρ => ?_
 have X := But.refl emp w
 refine W_seq (W_region ?_)
 refine LP_ev ok 0 [(4, .slice none 0 0)] 1 rfl rfl ?_
 refine LP_end _ rfl (W_seq (W_region ?_))
 refine LP_ev ok 0 [(5, .slice none 0 0)] 1 rfl rfl ?_
 refine LP_end _ rfl (W_seq ?_)
 refine W_seq (W_region ?_)
 refine LP_ev ok 0 [(7, sl a sx c), (8, I (ln sx)), (9, I 0)] 3 rfl rfl ?_
 refine LP_end _ rfl ?_
 refine W_block ?_
 obtain ⟨J, m, Hx, H⟩ := H
 refine W_loop (S := (List Int) × Int) (fun s ρ' w' => J s.1 s.2 ∧ ∃ (ρ : Env) (vx7 : Value) (hx8 : PH), ρ' = setAll [(1, sl a5 vars c6), (5, vx7), (8, I (ln sx)), (9, I s.2)] ρ ∧ But emp w w' ∧ OS 3 hx8 emp vx7 s.1 ∧ Sub hx8 w' ∧ Fresh w.heap.size hx8 ∧ Sub hx2 w' ∧ Dj hx8 hx2) (fun s => m s.1 s.2) ([], 0) ⟨Hx, _, .slice none 0 0, emp, env_eq ⟨rfl, rfl, rfl, rfl, trivial⟩, X, OS.nil, (emp_sub _), (emp_fresh _), ex4, (fun _ => .inl rfl)⟩ ?_
 rintro ⟨out, x⟩ _ wx ⟨Hi, ρ, vx7, hx8, rfl, HF⟩
 revert HF
 refine bb6 fun X13 o ex9 f ex10 d => ?_
 have H := H out x Hi
 obtain ⟨a11, c12, rfl⟩ := o.shape
 refine W_seq (W_region ?_)
 refine LP_ev ok 0 [(10, .bool (decide (x < (ln sx))))] 1 rfl rfl ?_
 refine LP_end _ rfl (W_seq ?_)
 refine W_cond (decide (x < (ln sx))) rfl (fun hc => ?_) (fun hc => ?_)
 ·have H := H.1 hc
  refine W_skip ?_
  obtain ⟨k, hk, H⟩ := jn_elim H
  refine W_join2 (S := (List Int)) (fun s ρ' w' => k s ∧ ∃ (ρ : Env) (vx15 : Value) (hx16 : PH), ρ' = setAll [(1, sl a5 vars c6), (5, vx15), (8, I (ln sx)), (9, I x)] ρ ∧ But emp w w' ∧ OS 3 hx16 emp vx15 s ∧ Sub hx16 w' ∧ Fresh w.heap.size hx16 ∧ Sub hx2 w' ∧ Dj hx16 hx2) ?_ ?_
  ·refine W_block ?_
   refine W_seq (W_region ?_)
   refine LP_ev ok 0 [(11, I x), (6, I x)] 2 rfl rfl ?_
   refine LP_end _ rfl (W_seq (W_region ?_))
   refine LP_ev ok 0 [(12, sl a5 vars c6), (13, I x)] 2 rfl rfl ?_
   refine LP_call 2 rfl rfl rfl cal_83 rfl (slices_Contains_int_int_w _ _ _ H wx r3 ex10) ?_
   rintro _ wx27 ⟨r26, H, rfl, x28⟩
   refine LP_ev ok 3 [(15, .bool (!r26))] 4 rfl rfl ?_
   refine LP_end _ rfl ?_
   refine W_cond (!r26) rfl (fun hc29 => ?_) (fun hc29 => ?_)
   ·have H := H.1 hc29
    refine W_region ?_
    refine LP_ev ok 0 [(16, sl a11 out c12), (17, I x)] 2 rfl rfl ?_
    refine LP_lit (α := Int) (g := emp) 2 (vs := [I x]) (xs := [x]) rfl rfl rfl Try.underlying25 ti_3 rfl rfl ⟨⟨_, rfl, rfl⟩, trivial⟩ rfl rfl fun hx30 vx31 wx32 x33 o34 ex35 f36 => ?_
    obtain ⟨a37, c38, rfl⟩ := o34.shape
    have xc := (x28.trans x33)
    obtain ⟨hb, H⟩ := H
    refine LP_appendf (α := Int) 3 rfl rfl rfl Try.underlying25 ti_3 rfl rfl rfl o (ex9.ext xc) o34.readf ex35 (by first | omega | (simp only [ln] at *; omega)) (by first | omega | (simp only [ln] at *; omega)) fun hx40 vx41 wx42 o43 ex44 y dm => ?_
    obtain ⟨a45, c46, rfl⟩ := o43.shape
    refine LP_ev ok 4 [(5, .slice a45 (List.length (out ++ ([x]))) c46)] 5 rfl rfl ?_
    refine LP_end _ rfl ?_
    have f48 := dm.fresh f (X13.stepx xc).size
    exact ⟨out ++ ([x]), H, _, .slice a45 (List.length (out ++ ([x]))) c46, hx40, env_eq ⟨rfl, rfl, rfl, rfl, trivial⟩, ((X13.stepx xc).step y (f.dom _)), o43, ex44, f48, ((ex10.ext xc).but y d), (DomLe.dj dm d (ex10.ext xc))⟩
   have H := H.2 hc29
   exact W_skip ⟨out, H, _, sl a11 out c12, hx8, env_eq ⟨rfl, rfl, rfl, rfl, trivial⟩, (X13.stepx x28), o, (ex9.ext x28), f, (ex10.ext x28), d⟩
  rintro out14 _ wx20 ⟨H, ρ, vx15, hx16, rfl, HF⟩
  revert HF
  refine bb6 fun X25 o17 ex18 f19 ex21 d24 => ?_
  subst hk
  obtain ⟨a22, c23, rfl⟩ := o17.shape
  refine W_region ?_
  refine LP_ev ok 0 [(20, I (wr (x + 1))), (9, I (wr (x + 1)))] 2 rfl rfl ?_
  exact LP_end _ rfl ⟨(out14, wr (x + 1)), ⟨H.1, _, sl a22 out14 c23, hx16, env_eq ⟨rfl, rfl, rfl, rfl, trivial⟩, X25, o17, ex18, f19, ex21, d24⟩, H.2⟩
 have H := H.2 hc
 refine W_exit ?_
 refine (if_pos rfl).mpr ?_
 refine W_seq (W_region ?_)
 refine LP_ev ok 0 [(21, sl a11 out c12), (4, sl a11 out c12)] 2 rfl rfl ?_
 refine LP_end _ rfl (W_ret ?_)
 exact ⟨_, Ret_of [sl a11 out c12] ⟨⟨rfl, rfl⟩, trivial⟩, _, _, _, H, rfl, X13.ext, o, ex9, f⟩

end Go.Proofs.Ytklajcbpnpkniaa
