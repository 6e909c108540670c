/- The walks: each Go function does what its meaning says. -/
import Derived.Test.YtkebfmobfeponaaADefs
import Derived.Test.YtkebfmobfeponaaProg
import Derived.KernelRfl
set_option linter.unusedVariables false
set_option autoImplicit false
namespace Go.Proofs.Ytkebfmobfeponaa
open Go Go.RowKit Go.Gv

open Go.Proofs
set_option maxRecDepth 8000
set_option maxHeartbeats 4000000
def ty : Ty := Ty.of [(3, .int .i64), (4, .bool), (9, .string), (22, .slice 3), (25, .slice 57), (26, .slice 60), (34, .slice 66), (36, .slice 69), (63, .slice 22), (94, .slice 122), (99, .slice 124), (130, .int .u64)] [((24, 0), 0), ((32, 0), 0), ((46, 0), 0), ((46, 1), 1), ((46, 2), 2), ((46, 3), 3), ((50, 0), 0), ((50, 1), 1), ((50, 2), 2), ((50, 3), 3), ((57, 0), 0), ((57, 1), 1), ((60, 0), 0), ((60, 1), 4), ((66, 0), 0), ((66, 1), 1), ((69, 0), 0), ((69, 1), 4), ((86, 0), 0), ((86, 2), 2), ((97, 0), 0), ((97, 1), 1), ((97, 2), 2), ((97, 3), 3), ((103, 0), 0), ((103, 1), 1), ((103, 2), 2), ((103, 3), 3), ((122, 0), 0), ((122, 1), 1), ((124, 0), 0), ((124, 1), 1)] [(86, [.int .i64 0, .int .i64 0, .slice none 0 0], [(0, 1), (1, 1), (2, 1)]), (97, [.slice none 0 0, .int .i64 0, .int .i64 0, .slice none 0 0], [(0, 1), (1, 1), (2, 1), (3, 1)]), (103, [.slice none 0 0, .slice none 0 0, .slice none 0 0, .nilFunc], [(0, 1), (1, 1), (2, 1), (3, 1)]), (122, [.slice none 0 0, .int .i64 0], [(0, 1), (1, 1)]), (124, [.slice none 0 0, .int .i64 0], [(0, 1), (1, 1)])]
theorem fa24_0 : FldOk Try.prog 24 0 0 := fun _ _ => by kernel_rfl
theorem fa32_0 : FldOk Try.prog 32 0 0 := fun _ _ => by kernel_rfl
theorem fa46_0 : FldOk Try.prog 46 0 0 := fun _ _ => by kernel_rfl
theorem fa46_1 : FldOk Try.prog 46 1 1 := fun _ _ => by kernel_rfl
theorem fa46_2 : FldOk Try.prog 46 2 2 := fun _ _ => by kernel_rfl
theorem fa46_3 : FldOk Try.prog 46 3 3 := fun _ _ => by kernel_rfl
theorem fa50_0 : FldOk Try.prog 50 0 0 := fun _ _ => by kernel_rfl
theorem fa50_1 : FldOk Try.prog 50 1 1 := fun _ _ => by kernel_rfl
theorem fa50_2 : FldOk Try.prog 50 2 2 := fun _ _ => by kernel_rfl
theorem fa50_3 : FldOk Try.prog 50 3 3 := fun _ _ => by kernel_rfl
theorem fa57_0 : FldOk Try.prog 57 0 0 := fun _ _ => by kernel_rfl
theorem fa57_1 : FldOk Try.prog 57 1 1 := fun _ _ => by kernel_rfl
theorem fa60_0 : FldOk Try.prog 60 0 0 := fun _ _ => by kernel_rfl
theorem fa60_1 : FldOk Try.prog 60 1 4 := fun _ _ => by kernel_rfl
theorem fa66_0 : FldOk Try.prog 66 0 0 := fun _ _ => by kernel_rfl
theorem fa66_1 : FldOk Try.prog 66 1 1 := fun _ _ => by kernel_rfl
theorem fa69_0 : FldOk Try.prog 69 0 0 := fun _ _ => by kernel_rfl
theorem fa69_1 : FldOk Try.prog 69 1 4 := fun _ _ => by kernel_rfl
theorem fa86_0 : FldOk Try.prog 86 0 0 := fun _ _ => by kernel_rfl
theorem fa86_2 : FldOk Try.prog 86 2 2 := fun _ _ => by kernel_rfl
theorem fa97_0 : FldOk Try.prog 97 0 0 := fun _ _ => by kernel_rfl
theorem fa97_1 : FldOk Try.prog 97 1 1 := fun _ _ => by kernel_rfl
theorem fa97_2 : FldOk Try.prog 97 2 2 := fun _ _ => by kernel_rfl
theorem fa97_3 : FldOk Try.prog 97 3 3 := fun _ _ => by kernel_rfl
theorem fa103_0 : FldOk Try.prog 103 0 0 := fun _ _ => by kernel_rfl
theorem fa103_1 : FldOk Try.prog 103 1 1 := fun _ _ => by kernel_rfl
theorem fa103_2 : FldOk Try.prog 103 2 2 := fun _ _ => by kernel_rfl
theorem fa103_3 : FldOk Try.prog 103 3 3 := fun _ _ => by kernel_rfl
theorem fa122_0 : FldOk Try.prog 122 0 0 := fun _ _ => by kernel_rfl
theorem fa122_1 : FldOk Try.prog 122 1 1 := fun _ _ => by kernel_rfl
theorem fa124_0 : FldOk Try.prog 124 0 0 := fun _ _ => by kernel_rfl
theorem fa124_1 : FldOk Try.prog 124 1 1 := fun _ _ => by kernel_rfl
theorem so86 : StrOk Try.prog 86 [.int .i64 0, .int .i64 0, .slice none 0 0] [(0, 1), (1, 1), (2, 1)] := StrOk.of (zc := #[.int .i64 0, .int .i64 0, .slice none 0 0]) Try.underlying86 (fun _ => by kernel_rfl) rfl (fun _ => by kernel_rfl)
theorem so97 : StrOk Try.prog 97 [.slice none 0 0, .int .i64 0, .int .i64 0, .slice none 0 0] [(0, 1), (1, 1), (2, 1), (3, 1)] := StrOk.of (zc := #[.slice none 0 0, .int .i64 0, .int .i64 0, .slice none 0 0]) Try.underlying97 (fun _ => by kernel_rfl) rfl (fun _ => by kernel_rfl)
theorem so103 : StrOk Try.prog 103 [.slice none 0 0, .slice none 0 0, .slice none 0 0, .nilFunc] [(0, 1), (1, 1), (2, 1), (3, 1)] := StrOk.of (zc := #[.slice none 0 0, .slice none 0 0, .slice none 0 0, .nilFunc]) Try.underlying103 (fun _ => by kernel_rfl) rfl (fun _ => by kernel_rfl)
theorem so122 : StrOk Try.prog 122 [.slice none 0 0, .int .i64 0] [(0, 1), (1, 1)] := StrOk.of (zc := #[.slice none 0 0, .int .i64 0]) Try.underlying122 (fun _ => by kernel_rfl) rfl (fun _ => by kernel_rfl)
theorem so124 : StrOk Try.prog 124 [.slice none 0 0, .int .i64 0] [(0, 1), (1, 1)] := StrOk.of (zc := #[.slice none 0 0, .int .i64 0]) Try.underlying124 (fun _ => by kernel_rfl) rfl (fun _ => by kernel_rfl)
theorem ok : TyOk Try.prog ty := .of ⟨Try.underlying3, Try.underlying4, Try.underlying9, Try.underlying22, Try.underlying25, Try.underlying26, Try.underlying34, Try.underlying36, Try.underlying63, Try.underlying94, Try.underlying99, Try.underlying130, trivial⟩ ⟨fa24_0, fa32_0, fa46_0, fa46_1, fa46_2, fa46_3, fa50_0, fa50_1, fa50_2, fa50_3, fa57_0, fa57_1, fa60_0, fa60_1, fa66_0, fa66_1, fa69_0, fa69_1, fa86_0, fa86_2, fa97_0, fa97_1, fa97_2, fa97_3, fa103_0, fa103_1, fa103_2, fa103_3, fa122_0, fa122_1, fa124_0, fa124_1, trivial⟩ ⟨so86, so97, so103, so122, so124, trivial⟩
theorem ti_3 : TyI Try.prog 3 1 8 (.int .i64 0) := .mk' (by kernel_rfl) rfl
theorem ti_9 : TyI Try.prog 9 1 16 (.string ⟨#[]⟩) := .mk' (by kernel_rfl) rfl
theorem ti_22 : TyI Try.prog 22 1 24 (.slice none 0 0) := .mk' (by kernel_rfl) rfl
theorem ti_24 : TyI Try.prog 24 1 24 (.agg #[.slice none 0 0]) := .mk' (by kernel_rfl) rfl
theorem ti_32 : TyI Try.prog 32 1 24 (.agg #[.slice none 0 0]) := .mk' (by kernel_rfl) rfl
theorem ti_46 : TyI Try.prog 46 4 64 (.agg #[.int .i64 0, .slice none 0 0, .slice none 0 0, .int .i64 0]) := .mk' (by kernel_rfl) rfl
theorem ti_50 : TyI Try.prog 50 4 64 (.agg #[.int .i64 0, .slice none 0 0, .slice none 0 0, .int .i64 0]) := .mk' (by kernel_rfl) rfl
theorem ti_57 : TyI Try.prog 57 2 24 (.agg #[.string ⟨#[]⟩, .int .i64 0]) := .mk' (by kernel_rfl) rfl
theorem ti_60 : TyI Try.prog 60 5 88 (.agg #[.int .i64 0, .slice none 0 0, .slice none 0 0, .int .i64 0, .slice none 0 0]) := .mk' (by kernel_rfl) rfl
theorem ti_63 : TyI Try.prog 63 1 24 (.slice none 0 0) := .mk' (by kernel_rfl) rfl
theorem ti_65 : TyI Try.prog 65 1 8 (.nilFunc) := .mk' (by kernel_rfl) rfl
theorem ti_66 : TyI Try.prog 66 2 24 (.agg #[.string ⟨#[]⟩, .int .i64 0]) := .mk' (by kernel_rfl) rfl
theorem ti_69 : TyI Try.prog 69 5 88 (.agg #[.int .i64 0, .slice none 0 0, .slice none 0 0, .int .i64 0, .slice none 0 0]) := .mk' (by kernel_rfl) rfl
theorem ti_74 : TyI Try.prog 74 1 8 (.nilFunc) := .mk' (by kernel_rfl) rfl
theorem ti_86 : TyI Try.prog 86 3 40 (.agg #[.int .i64 0, .int .i64 0, .slice none 0 0]) := .mk' (by kernel_rfl) rfl
theorem ti_94 : TyI Try.prog 94 1 24 (.slice none 0 0) := .mk' (by kernel_rfl) rfl
theorem ti_99 : TyI Try.prog 99 1 24 (.slice none 0 0) := .mk' (by kernel_rfl) rfl
theorem ti_101 : TyI Try.prog 101 1 8 (.nilFunc) := .mk' (by kernel_rfl) rfl
theorem ti_103 : TyI Try.prog 103 4 80 (.agg #[.slice none 0 0, .slice none 0 0, .slice none 0 0, .nilFunc]) := .mk' (by kernel_rfl) rfl
theorem ti_122 : TyI Try.prog 122 2 32 (.agg #[.slice none 0 0, .int .i64 0]) := .mk' (by kernel_rfl) rfl
theorem ti_124 : TyI Try.prog 124 2 32 (.agg #[.slice none 0 0, .int .i64 0]) := .mk' (by kernel_rfl) rfl
theorem ag_3 : AggT Try.prog 3 false := ⟨_, Try.underlying3, by simp⟩
theorem ag_9 : AggT Try.prog 9 false := ⟨_, Try.underlying9, by simp⟩
theorem ag_22 : AggT Try.prog 22 false := ⟨_, Try.underlying22, by simp⟩
theorem ag_24 : AggT Try.prog 24 true := ⟨_, Try.underlying24, by simp⟩
theorem ag_32 : AggT Try.prog 32 true := ⟨_, Try.underlying32, by simp⟩
theorem ag_46 : AggT Try.prog 46 true := ⟨_, Try.underlying46, by simp⟩
theorem ag_50 : AggT Try.prog 50 true := ⟨_, Try.underlying50, by simp⟩
theorem ag_57 : AggT Try.prog 57 true := ⟨_, Try.underlying57, by simp⟩
theorem ag_60 : AggT Try.prog 60 true := ⟨_, Try.underlying60, by simp⟩
theorem ag_63 : AggT Try.prog 63 false := ⟨_, Try.underlying63, by simp⟩
theorem ag_65 : AggT Try.prog 65 false := ⟨_, Try.underlying65, by simp⟩
theorem ag_66 : AggT Try.prog 66 true := ⟨_, Try.underlying66, by simp⟩
theorem ag_69 : AggT Try.prog 69 true := ⟨_, Try.underlying69, by simp⟩
theorem ag_74 : AggT Try.prog 74 false := ⟨_, Try.underlying74, by simp⟩
theorem ag_86 : AggT Try.prog 86 true := ⟨_, Try.underlying86, by simp⟩
theorem ag_94 : AggT Try.prog 94 false := ⟨_, Try.underlying94, by simp⟩
theorem ag_99 : AggT Try.prog 99 false := ⟨_, Try.underlying99, by simp⟩
theorem ag_101 : AggT Try.prog 101 false := ⟨_, Try.underlying101, by simp⟩
theorem ag_122 : AggT Try.prog 122 true := ⟨_, Try.underlying122, by simp⟩
theorem ag_124 : AggT Try.prog 124 true := ⟨_, Try.underlying124, by simp⟩
theorem mix : Try.prog.follows .mixedOrders = true := by kernel_rfl
theorem cal_6 : Callable Try.prog 6 := .mk Try.func6 rfl (by decide)
theorem cal_7 : Callable Try.prog 7 := .mk Try.func7 rfl (by decide)
theorem cal_8 : Callable Try.prog 8 := .mk Try.func8 rfl (by decide)
theorem cal_10 : Callable Try.prog 10 := .mk Try.func10 rfl (by decide)
theorem cal_11 : Callable Try.prog 11 := .mk Try.func11 rfl (by decide)
theorem cal_12 : Callable Try.prog 12 := .mk Try.func12 rfl (by decide)
theorem cal_14 : Callable Try.prog 14 := .mk Try.func14 rfl (by decide)
theorem cal_15 : Callable Try.prog 15 := .mk Try.func15 rfl (by decide)
theorem cal_16 : Callable Try.prog 16 := .mk Try.func16 rfl (by decide)
theorem cal_19 : Callable Try.prog 19 := .mk Try.func19 rfl (by decide)
theorem cal_20 : Callable Try.prog 20 := .mk Try.func20 rfl (by decide)
theorem cal_21 : Callable Try.prog 21 := .mk Try.func21 rfl (by decide)
theorem cal_22 : Callable Try.prog 22 := .mk Try.func22 rfl (by decide)
theorem cal_23 : Callable Try.prog 23 := .mk Try.func23 rfl (by decide)
theorem cal_24 : Callable Try.prog 24 := .mk Try.func24 rfl (by decide)
theorem cal_25 : Callable Try.prog 25 := .mk Try.func25 rfl (by decide)
theorem cal_26 : Callable Try.prog 26 := .mk Try.func26 rfl (by decide)
theorem cal_27 : Callable Try.prog 27 := .mk Try.func27 rfl (by decide)
theorem cal_28 : Callable Try.prog 28 := .mk Try.func28 rfl (by decide)
theorem cal_29 : Callable Try.prog 29 := .mk Try.func29 rfl (by decide)
theorem cal_30 : Callable Try.prog 30 := .mk Try.func30 rfl (by decide)
theorem cal_31 : Callable Try.prog 31 := .mk Try.func31 rfl (by decide)
theorem cal_32 : Callable Try.prog 32 := .mk Try.func32 rfl (by decide)
theorem cal_33 : Callable Try.prog 33 := .mk Try.func33 rfl (by decide)
theorem cal_34 : Callable Try.prog 34 := .mk Try.func34 rfl (by decide)
theorem cal_35 : Callable Try.prog 35 := .mk Try.func35 rfl (by decide)
theorem cal_37 : Callable Try.prog 37 := .mk Try.func37 rfl (by decide)
theorem cal_38 : Callable Try.prog 38 := .mk Try.func38 rfl (by decide)
theorem cal_39 : Callable Try.prog 39 := .mk Try.func39 rfl (by decide)
theorem cal_41 : Callable Try.prog 41 := .mk Try.func41 rfl (by decide)
theorem cal_42 : Callable Try.prog 42 := .mk Try.func42 rfl (by decide)
theorem cal_43 : Callable Try.prog 43 := .mk Try.func43 rfl (by decide)
theorem cal_44 : Callable Try.prog 44 := .mk Try.func44 rfl (by decide)
theorem cal_45 : Callable Try.prog 45 := .mk Try.func45 rfl (by decide)
theorem cal_46 : Callable Try.prog 46 := .mk Try.func46 rfl (by decide)
theorem cal_47 : Callable Try.prog 47 := .mk Try.func47 rfl (by decide)
theorem cal_48 : Callable Try.prog 48 := .mk Try.func48 rfl (by decide)
theorem cal_49 : Callable Try.prog 49 := .mk Try.func49 rfl (by decide)
theorem cal_50 : Callable Try.prog 50 := .mk Try.func50 rfl (by decide)
theorem cal_51 : Callable Try.prog 51 := .mk Try.func51 rfl (by decide)
theorem cal_52 : Callable Try.prog 52 := .mk Try.func52 rfl (by decide)
theorem cal_53 : Callable Try.prog 53 := .mk Try.func53 rfl (by decide)
theorem cal_54 : Callable Try.prog 54 := .mk Try.func54 rfl (by decide)
theorem cal_55 : Callable Try.prog 55 := .mk Try.func55 rfl (by decide)
theorem cal_56 : Callable Try.prog 56 := .mk Try.func56 rfl (by decide)
theorem cal_57 : Callable Try.prog 57 := .mk Try.func57 rfl (by decide)
theorem cal_58 : Callable Try.prog 58 := .mk Try.func58 rfl (by decide)
theorem cal_59 : Callable Try.prog 59 := .mk Try.func59 rfl (by decide)
theorem cal_60 : Callable Try.prog 60 := .mk Try.func60 rfl (by decide)
theorem cal_61 : Callable Try.prog 61 := .mk Try.func61 rfl (by decide)
theorem cal_62 : Callable Try.prog 62 := .mk Try.func62 rfl (by decide)
theorem cal_63 : Callable Try.prog 63 := .mk Try.func63 rfl (by decide)
theorem cal_64 : Callable Try.prog 64 := .mk Try.func64 rfl (by decide)
theorem cal_65 : Callable Try.prog 65 := .mk Try.func65 rfl (by decide)
theorem cal_66 : Callable Try.prog 66 := .mk Try.func66 rfl (by decide)
theorem cal_67 : Callable Try.prog 67 := .mk Try.func67 rfl (by decide)
theorem cal_68 : Callable Try.prog 68 := .mk Try.func68 rfl (by decide)
theorem cal_69 : Callable Try.prog 69 := .mk Try.func69 rfl (by decide)
theorem cal_70 : Callable Try.prog 70 := .mk Try.func70 rfl (by decide)
theorem cal_71 : Callable Try.prog 71 := .mk Try.func71 rfl (by decide)
theorem cal_72 : Callable Try.prog 72 := .mk Try.func72 rfl (by decide)
theorem cal_73 : Callable Try.prog 73 := .mk Try.func73 rfl (by decide)
theorem cal_74 : Callable Try.prog 74 := .mk Try.func74 rfl (by decide)
theorem cal_75 : Callable Try.prog 75 := .mk Try.func75 rfl (by decide)
theorem cal_76 : Callable Try.prog 76 := .mk Try.func76 rfl (by decide)
theorem cal_77 : Callable Try.prog 77 := .mk Try.func77 rfl (by decide)
theorem cal_78 : Callable Try.prog 78 := .mk Try.func78 rfl (by decide)
theorem cal_79 : Callable Try.prog 79 := .mk Try.func79 rfl (by decide)
theorem cal_80 : Callable Try.prog 80 := .mk Try.func80 rfl (by decide)
theorem cal_81 : Callable Try.prog 81 := .mk Try.func81 rfl (by decide)
theorem cal_82 : Callable Try.prog 82 := .mk Try.func82 rfl (by decide)
theorem cal_83 : Callable Try.prog 83 := .mk Try.func83 rfl (by decide)
theorem cal_84 : Callable Try.prog 84 := .mk Try.func84 rfl (by decide)
theorem cal_85 : Callable Try.prog 85 := .mk Try.func85 rfl (by decide)
theorem cal_86 : Callable Try.prog 86 := .mk Try.func86 rfl (by decide)
theorem cal_87 : Callable Try.prog 87 := .mk Try.func87 rfl (by decide)
theorem cal_88 : Callable Try.prog 88 := .mk Try.func88 rfl (by decide)
theorem cal_89 : Callable Try.prog 89 := .mk Try.func89 rfl (by decide)
theorem cal_90 : Callable Try.prog 90 := .mk Try.func90 rfl (by decide)
theorem cal_91 : Callable Try.prog 91 := .mk Try.func91 rfl (by decide)
theorem cal_92 : Callable Try.prog 92 := .mk Try.func92 rfl (by decide)
theorem cal_93 : Callable Try.prog 93 := .mk Try.func93 rfl (by decide)
theorem cal_94 : Callable Try.prog 94 := .mk Try.func94 rfl (by decide)
theorem cal_95 : Callable Try.prog 95 := .mk Try.func95 rfl (by decide)
theorem cal_96 : Callable Try.prog 96 := .mk Try.func96 rfl (by decide)
theorem cal_97 : Callable Try.prog 97 := .mk Try.func97 rfl (by decide)
theorem cal_98 : Callable Try.prog 98 := .mk Try.func98 rfl (by decide)
theorem cal_99 : Callable Try.prog 99 := .mk Try.func99 rfl (by decide)
theorem cal_100 : Callable Try.prog 100 := .mk Try.func100 rfl (by decide)
theorem cal_101 : Callable Try.prog 101 := .mk Try.func101 rfl (by decide)
theorem cal_102 : Callable Try.prog 102 := .mk Try.func102 rfl (by decide)
theorem cal_103 : Callable Try.prog 103 := .mk Try.func103 rfl (by decide)
theorem cal_104 : Callable Try.prog 104 := .mk Try.func104 rfl (by decide)
theorem cal_105 : Callable Try.prog 105 := .mk Try.func105 rfl (by decide)
theorem cal_106 : Callable Try.prog 106 := .mk Try.func106 rfl (by decide)
theorem cal_107 : Callable Try.prog 107 := .mk Try.func107 rfl (by decide)
theorem cal_108 : Callable Try.prog 108 := .mk Try.func108 rfl (by decide)
theorem cal_109 : Callable Try.prog 109 := .mk Try.func109 rfl (by decide)
theorem cal_110 : Callable Try.prog 110 := .mk Try.func110 rfl (by decide)
theorem cal_111 : Callable Try.prog 111 := .mk Try.func111 rfl (by decide)

theorem laws_szIntS_w (a : List Int) (left : Int) (Q : Int → Prop) (H : laws_szIntS a left Q) (w : World) {vx : Value} {hx : PH} (r : RS hx vx a) (ex : Sub hx w) :
  CallsTo Try.prog 24 #[vx, I left] w fun v w' => ∃ r0, Q r0 ∧ v = I r0 ∧ Ext w w' := by
 obtain ⟨a1, c, rfl⟩ := r.shape
 refine enter (args := [sl a1 a c, I left]) 12 Try.func24 rfl rfl rfl ?_
 refine W_forget [(0, sl a1 a c), (1, I left)] ⟨rfl, rfl, trivial⟩ fun ρ => ?_
 have X := But.refl emp w
 refine W_seq ?_
 refine W_region ?_
 refine LP_ev ok 0 [(4, I 0)] 1 rfl rfl ?_
 refine LP_end _ rfl ?_
 refine W_seq ?_
 refine W_region ?_
 refine LP_ev ok 0 [(5, I left), (6, sl a1 a c), (7, I (ln a)), (8, I (wr (left - (ln a)))), (1, I (wr (left - (ln a))))] 5 rfl rfl ?_
 refine LP_end _ rfl ?_
 refine W_seq ?_
 refine W_seq ?_
 refine W_region ?_
 refine LP_ev ok 0 [(9, I (wr (left - (ln a)))), (10, .bool (decide ((wr (left - (ln a))) < 0)))] 2 rfl rfl ?_
 refine LP_end _ rfl ?_
 refine W_cond (decide ((wr (left - (ln a))) < 0)) rfl (fun hc => ?_) (fun hc => ?_)
 ·have H := H.1 hc
  refine W_seq ?_
  refine W_region ?_
  refine LP_ev ok 0 [(4, I ((-1)))] 1 rfl rfl ?_
  refine LP_end _ rfl ?_
  refine W_ret ?_
  exact ⟨_, Ret_of [I ((-1))] ⟨⟨rfl, rfl⟩, trivial⟩, _, H, rfl, X.ext⟩
 have H := H.2 hc
 refine W_skip ?_
 refine W_seq ?_
 refine W_region ?_
 refine LP_ev ok 0 [(11, I (wr (left - (ln a)))), (4, I (wr (left - (ln a))))] 2 rfl rfl ?_
 refine LP_end _ rfl ?_
 refine W_ret ?_
 exact ⟨_, Ret_of [I (wr (left - (ln a)))] ⟨⟨rfl, rfl⟩, trivial⟩, _, H, rfl, X.ext⟩

theorem laws_szGeo_w (a : Geo) (left : Int) (Q : Int → Prop) (H : laws_szGeo a left Q) (w : World) {vx : Value} {hx : PH} (r : RS hx vx a.Parents) (ex : Sub hx w) :
  CallsTo Try.prog 6 #[.agg #[vx], I left] w fun v w' => ∃ r0, Q r0 ∧ v = I r0 ∧ Ext w w' := by
 obtain ⟨a1, c, rfl⟩ := r.shape
 refine enter (args := [.agg #[sl a1 a.Parents c], I left]) 12 Try.func6 rfl rfl rfl ?_
 refine W_forget [(0, .agg #[sl a1 a.Parents c]), (1, I left)] ⟨rfl, rfl, trivial⟩ fun ρ => ?_
 have X := But.refl emp w
 refine W_seq ?_
 refine W_region ?_
 refine LP_box 0 (cs := [sl a1 a.Parents c]) rfl rfl rfl rfl rfl fun b wx x ex2 f => ?_
 refine LP_ev ok 1 [(4, I 0)] 2 rfl rfl ?_
 refine LP_end _ rfl ?_
 refine W_seq ?_
 refine W_region ?_
 refine LP_ev ok 0 [(5, pb b)] 1 rfl rfl ?_
 refine LP_ldbox 1 (v := sl a1 a.Parents c) rfl rfl rfl ti_22 ag_22 (fun _ => rfl) rfl ex2 rfl rfl ?_
 refine LP_ev ok 2 [(7, I left)] 3 rfl rfl ?_
 have ex4 := (ex.ext x)
 refine LP_call 3 rfl rfl rfl cal_24 rfl (laws_szIntS_w _ _ _ H wx r ex4) ?_
 rintro _ wx5 ⟨r3, H, rfl, x6⟩
 refine LP_ev ok 4 [(1, I r3)] 5 rfl rfl ?_
 refine LP_end _ rfl ?_
 refine W_seq ?_
 refine W_seq ?_
 refine W_region ?_
 refine LP_ev ok 0 [(9, I r3), (10, .bool (decide (r3 < 0)))] 2 rfl rfl ?_
 refine LP_end _ rfl ?_
 refine W_cond (decide (r3 < 0)) rfl (fun hc => ?_) (fun hc => ?_)
 ·have H := H.1 hc
  refine W_seq ?_
  refine W_region ?_
  refine LP_ev ok 0 [(4, I ((-1)))] 1 rfl rfl ?_
  refine LP_end _ rfl ?_
  refine W_ret ?_
  have X7 := ((X.stepx x).stepx x6)
  exact ⟨_, Ret_of [I ((-1))] ⟨⟨rfl, rfl⟩, trivial⟩, _, H, rfl, X7.ext⟩
 have H := H.2 hc
 refine W_skip ?_
 refine W_seq ?_
 refine W_region ?_
 refine LP_ev ok 0 [(11, I r3), (4, I r3)] 2 rfl rfl ?_
 refine LP_end _ rfl ?_
 refine W_ret ?_
 have X8 := ((X.stepx x).stepx x6)
 exact ⟨_, Ret_of [I r3] ⟨⟨rfl, rfl⟩, trivial⟩, _, H, rfl, X8.ext⟩

theorem laws_szVariable_w (a : Variable) (left : Int) (Q : Int → Prop) (H : laws_szVariable a left Q) (w : World)  :
  CallsTo Try.prog 25 #[.agg #[.string a.Name, I a.Levels], I left] w fun v w' => ∃ r0, Q r0 ∧ v = I r0 ∧ Ext w w' := by
 refine enter (args := [.agg #[.string a.Name, I a.Levels], I left]) 13 Try.func25 rfl rfl rfl ?_
 refine W_forget [(0, .agg #[.string a.Name, I a.Levels]), (1, I left)] ⟨rfl, rfl, trivial⟩ fun ρ => ?_
 have X := But.refl emp w
 refine W_seq ?_
 refine W_region ?_
 refine LP_box 0 (cs := [.string a.Name, I a.Levels]) rfl rfl rfl rfl rfl fun b wx x ex f => ?_
 refine LP_ev ok 1 [(4, I 0)] 2 rfl rfl ?_
 refine LP_end _ rfl ?_
 refine W_seq ?_
 refine W_region ?_
 refine LP_ev ok 0 [(5, I left), (6, pb b)] 2 rfl rfl ?_
 refine LP_ldbox 2 (v := .string a.Name) rfl rfl rfl ti_9 ag_9 (fun _ => rfl) rfl ex rfl rfl ?_
 refine LP_ev ok 3 [(8, I (sln a.Name)), (9, I (wr (left - (sln a.Name)))), (1, I (wr (left - (sln a.Name))))] 6 rfl rfl ?_
 refine LP_end _ rfl ?_
 refine W_seq ?_
 refine W_seq ?_
 refine W_region ?_
 refine LP_ev ok 0 [(10, I (wr (left - (sln a.Name)))), (11, .bool (decide ((wr (left - (sln a.Name))) < 0)))] 2 rfl rfl ?_
 refine LP_end _ rfl ?_
 refine W_cond (decide ((wr (left - (sln a.Name))) < 0)) rfl (fun hc => ?_) (fun hc => ?_)
 ·have H := H.1 hc
  refine W_seq ?_
  refine W_region ?_
  refine LP_ev ok 0 [(4, I ((-1)))] 1 rfl rfl ?_
  refine LP_end _ rfl ?_
  refine W_ret ?_
  have X1 := (X.stepx x)
  exact ⟨_, Ret_of [I ((-1))] ⟨⟨rfl, rfl⟩, trivial⟩, _, H, rfl, X1.ext⟩
 have H := H.2 hc
 refine W_skip ?_
 refine W_seq ?_
 refine W_region ?_
 refine LP_ev ok 0 [(12, I (wr (left - (sln a.Name)))), (4, I (wr (left - (sln a.Name))))] 2 rfl rfl ?_
 refine LP_end _ rfl ?_
 refine W_ret ?_
 have X2 := (X.stepx x)
 exact ⟨_, Ret_of [I (wr (left - (sln a.Name)))] ⟨⟨rfl, rfl⟩, trivial⟩, _, H, rfl, X2.ext⟩

theorem laws_szVariableS_w (a : List Variable) (left : Int) (Q : Int → Prop) (H : laws_szVariableS a left Q) (w : World) {vx : Value} {hx : PH} (r : RS hx vx a) (ex : Sub hx w) :
  CallsTo Try.prog 7 #[vx, I left] w fun v w' => ∃ r0, Q r0 ∧ v = I r0 ∧ Ext w w' := by
 obtain ⟨a1, c, rfl⟩ := r.shape
 refine enter (args := [sl a1 a c, I left]) 27 Try.func7 rfl rfl rfl ?_
 refine W_forget [(0, sl a1 a c), (1, I left)] ⟨rfl, rfl, trivial⟩ fun ρ => ?_
 have X := But.refl emp w
 refine W_seq ?_
 refine W_region ?_
 refine LP_ev ok 0 [(4, I 0)] 1 rfl rfl ?_
 refine LP_end _ rfl ?_
 refine W_seq ?_
 refine W_region ?_
 refine LP_ev ok 0 [(6, I left), (7, sl a1 a c), (8, I (ln a)), (9, I (wr (left - (ln a)))), (1, I (wr (left - (ln a))))] 5 rfl rfl ?_
 refine LP_end _ rfl ?_
 refine W_seq ?_
 refine W_seq ?_
 refine W_region ?_
 refine LP_ev ok 0 [(10, I (wr (left - (ln a)))), (11, .bool (decide ((wr (left - (ln a))) < 0)))] 2 rfl rfl ?_
 refine LP_end _ rfl ?_
 refine W_cond (decide ((wr (left - (ln a))) < 0)) rfl (fun hc => ?_) (fun hc => ?_)
 ·have H := H.1 hc
  refine W_seq ?_
  refine W_region ?_
  refine LP_ev ok 0 [(4, I ((-1)))] 1 rfl rfl ?_
  refine LP_end _ rfl ?_
  refine W_ret ?_
  exact ⟨_, Ret_of [I ((-1))] ⟨⟨rfl, rfl⟩, trivial⟩, _, H, rfl, X.ext⟩
 have H := H.2 hc
 refine W_skip ?_
 refine W_seq ?_
 refine W_seq ?_
 refine W_region ?_
 refine LP_ev ok 0 [(5, I 0)] 1 rfl rfl ?_
 refine LP_end _ rfl ?_
 refine W_block ?_
 obtain ⟨J, m, Hx, H⟩ := H
 refine W_loop (S := Int × Int) (fun s ρ' w' => J s.1 s.2 ∧ ∃ (ρ : Env), ρ' = setAll [(0, sl a1 a c), (1, I s.1), (5, I s.2)] ρ ∧ But emp w w' ∧ Sub hx w') (fun s => m s.1 s.2) (wr (left - (ln a)), 0) ⟨Hx, _, env_eq ⟨rfl, rfl, rfl, trivial⟩, X, ex⟩ ?_
 rintro ⟨left2, i⟩ _ wx ⟨Hi, ρ, rfl, X4, ex3⟩
 have H := H left2 i Hi
 refine W_seq ?_
 refine W_seq ?_
 refine W_region ?_
 refine LP_ev ok 0 [(12, I i), (13, sl a1 a c), (14, I (ln a)), (15, .bool (decide (i < (ln a))))] 4 rfl rfl ?_
 refine LP_end _ rfl ?_
 refine W_cond (decide (i < (ln a))) rfl (fun hc5 => ?_) (fun hc5 => ?_)
 ·have H := H.1 hc5
  refine W_skip ?_
  refine W_seq ?_
  refine W_block ?_
  refine W_seq ?_
  refine W_region ?_
  refine LP_ev ok 0 [(18, sl a1 a c), (19, I i)] 2 rfl rfl ?_
  obtain ⟨x, hi, hx6, H⟩ := H
  refine LP_index 2 rfl rfl rfl Try.underlying25 ti_57 rfl rfl r hi hx6 fun a7 cs r8 d => ?_
  refine LP_load 3 rfl rfl rfl ti_57 ag_57 rfl r8 d ex3 fun vx9 r10 => ?_
  obtain rfl := Variable_rv r10
  refine LP_ev ok 4 [(22, I left2)] 5 rfl rfl ?_
  refine LP_call 5 rfl rfl rfl cal_25 rfl (laws_szVariable_w _ _ _ H wx ) ?_
  rintro _ wx12 ⟨r11, H, rfl, x13⟩
  refine LP_ev ok 6 [(1, I r11)] 7 rfl rfl ?_
  refine LP_end _ rfl ?_
  refine W_seq ?_
  refine W_region ?_
  refine LP_ev ok 0 [(24, I r11), (25, .bool (decide (r11 < 0)))] 2 rfl rfl ?_
  refine LP_end _ rfl ?_
  refine W_cond (decide (r11 < 0)) rfl (fun hc14 => ?_) (fun hc14 => ?_)
  ·have H := H.1 hc14
   refine W_seq ?_
   refine W_region ?_
   refine LP_ev ok 0 [(4, I ((-1)))] 1 rfl rfl ?_
   refine LP_end _ rfl ?_
   refine W_ret ?_
   have X15 := (X4.stepx x13)
   exact ⟨_, Ret_of [I ((-1))] ⟨⟨rfl, rfl⟩, trivial⟩, _, H, rfl, X15.ext⟩
  have H := H.2 hc14
  refine W_skip ?_
  refine W_region ?_
  refine LP_ev ok 0 [(16, I i), (17, I (wr (i + 1))), (5, I (wr (i + 1)))] 3 rfl rfl ?_
  refine LP_end _ rfl ?_
  have X16 := (X4.stepx x13)
  have ex17 := (ex3.ext x13)
  exact ⟨(r11, wr (i + 1)), ⟨H.1, _, env_eq ⟨rfl, rfl, rfl, trivial⟩, X16, ex17⟩, H.2⟩
 have H := H.2 hc5
 refine W_exit ?_
 refine (if_pos rfl).mpr ?_
 refine W_seq ?_
 refine W_region ?_
 refine LP_ev ok 0 [(26, I left2), (4, I left2)] 2 rfl rfl ?_
 refine LP_end _ rfl ?_
 refine W_ret ?_
 exact ⟨_, Ret_of [I left2] ⟨⟨rfl, rfl⟩, trivial⟩, _, H, rfl, X4.ext⟩

theorem laws_szTable_w (a : Table) (left : Int) (Q : Int → Prop) (H : laws_szTable a left Q) (w : World) {vx : Value} {hx : PH} (r : RS hx vx a.Vars) (ex : Sub hx w) {vx2 : Value} {hx3 : PH} (r4 : RS hx3 vx2 a.Where) (ex5 : Sub hx3 w) :
  CallsTo Try.prog 19 #[.agg #[I a.Level, vx, vx2, I a.Sum], I left] w fun v w' => ∃ r0, Q r0 ∧ v = I r0 ∧ Ext w w' := by
 obtain ⟨a1, c, rfl⟩ := r.shape
 obtain ⟨a6, c7, rfl⟩ := r4.shape
 refine enter (args := [.agg #[I a.Level, sl a1 a.Vars c, sl a6 a.Where c7, I a.Sum], I left]) 18 Try.func19 rfl rfl rfl ?_
 refine W_forget [(0, .agg #[I a.Level, sl a1 a.Vars c, sl a6 a.Where c7, I a.Sum]), (1, I left)] ⟨rfl, rfl, trivial⟩ fun ρ => ?_
 have X := But.refl emp w
 refine W_seq ?_
 refine W_region ?_
 refine LP_box 0 (cs := [I a.Level, sl a1 a.Vars c, sl a6 a.Where c7, I a.Sum]) rfl rfl rfl rfl rfl fun b wx x ex8 f => ?_
 refine LP_ev ok 1 [(4, I 0)] 2 rfl rfl ?_
 refine LP_end _ rfl ?_
 refine W_seq ?_
 refine W_region ?_
 refine LP_ev ok 0 [(5, .pointer (some ⟨b, 1, none⟩))] 1 rfl rfl ?_
 refine LP_ldbox 1 (v := sl a1 a.Vars c) rfl rfl rfl ti_22 ag_22 (fun _ => rfl) rfl ex8 rfl rfl ?_
 refine LP_ev ok 2 [(7, I left)] 3 rfl rfl ?_
 have ex10 := (ex.ext x)
 refine LP_call 3 rfl rfl rfl cal_24 rfl (laws_szIntS_w _ _ _ H wx r ex10) ?_
 rintro _ wx11 ⟨r9, H, rfl, x12⟩
 refine LP_ev ok 4 [(1, I r9)] 5 rfl rfl ?_
 refine LP_end _ rfl ?_
 refine W_seq ?_
 refine W_seq ?_
 refine W_region ?_
 refine LP_ev ok 0 [(9, I r9), (10, .bool (decide (r9 < 0)))] 2 rfl rfl ?_
 refine LP_end _ rfl ?_
 refine W_cond (decide (r9 < 0)) rfl (fun hc => ?_) (fun hc => ?_)
 ·have H := H.1 hc
  refine W_seq ?_
  refine W_region ?_
  refine LP_ev ok 0 [(4, I ((-1)))] 1 rfl rfl ?_
  refine LP_end _ rfl ?_
  refine W_ret ?_
  have X13 := ((X.stepx x).stepx x12)
  exact ⟨_, Ret_of [I ((-1))] ⟨⟨rfl, rfl⟩, trivial⟩, _, H, rfl, X13.ext⟩
 have H := H.2 hc
 refine W_skip ?_
 refine W_seq ?_
 refine W_region ?_
 refine LP_ev ok 0 [(11, .pointer (some ⟨b, 2, none⟩))] 1 rfl rfl ?_
 have ex14 := (ex8.ext x12)
 refine LP_ldbox 1 (v := sl a6 a.Where c7) rfl rfl rfl ti_22 ag_22 (fun _ => rfl) rfl ex14 rfl rfl ?_
 refine LP_ev ok 2 [(13, I r9)] 3 rfl rfl ?_
 have ex16 := ((ex5.ext x).ext x12)
 refine LP_call 3 rfl rfl rfl cal_24 rfl (laws_szIntS_w _ _ _ H wx11 r4 ex16) ?_
 rintro _ wx17 ⟨r15, H, rfl, x18⟩
 refine LP_ev ok 4 [(1, I r15)] 5 rfl rfl ?_
 refine LP_end _ rfl ?_
 refine W_seq ?_
 refine W_seq ?_
 refine W_region ?_
 refine LP_ev ok 0 [(15, I r15), (16, .bool (decide (r15 < 0)))] 2 rfl rfl ?_
 refine LP_end _ rfl ?_
 refine W_cond (decide (r15 < 0)) rfl (fun hc19 => ?_) (fun hc19 => ?_)
 ·have H := H.1 hc19
  refine W_seq ?_
  refine W_region ?_
  refine LP_ev ok 0 [(4, I ((-1)))] 1 rfl rfl ?_
  refine LP_end _ rfl ?_
  refine W_ret ?_
  have X20 := (((X.stepx x).stepx x12).stepx x18)
  exact ⟨_, Ret_of [I ((-1))] ⟨⟨rfl, rfl⟩, trivial⟩, _, H, rfl, X20.ext⟩
 have H := H.2 hc19
 refine W_skip ?_
 refine W_seq ?_
 refine W_region ?_
 refine LP_ev ok 0 [(17, I r15), (4, I r15)] 2 rfl rfl ?_
 refine LP_end _ rfl ?_
 refine W_ret ?_
 have X21 := (((X.stepx x).stepx x12).stepx x18)
 exact ⟨_, Ret_of [I r15] ⟨⟨rfl, rfl⟩, trivial⟩, _, H, rfl, X21.ext⟩

theorem laws_szPublished_w (a : Published) (left : Int) (Q : Int → Prop) (H : laws_szPublished a left Q) (w : World) {vx : Value} {hx : PH} (r : RS hx vx a.Table.Vars) (ex : Sub hx w) {vx2 : Value} {hx3 : PH} (r4 : RS hx3 vx2 a.Table.Where) (ex5 : Sub hx3 w) {vx8 : Value} {hx9 : PH} (r10 : RS hx9 vx8 a.Cells) (ex11 : Sub hx9 w) :
  CallsTo Try.prog 26 #[.agg #[I a.Table.Level, vx, vx2, I a.Table.Sum, vx8], I left] w fun v w' => ∃ r0, Q r0 ∧ v = I r0 ∧ Ext w w' := by
 obtain ⟨a1, c, rfl⟩ := r.shape
 obtain ⟨a6, c7, rfl⟩ := r4.shape
 obtain ⟨a12, c13, rfl⟩ := r10.shape
 refine enter (args := [.agg #[I a.Table.Level, sl a1 a.Table.Vars c, sl a6 a.Table.Where c7, I a.Table.Sum, sl a12 a.Cells c13], I left]) 18 Try.func26 rfl rfl rfl ?_
 refine W_forget [(0, .agg #[I a.Table.Level, sl a1 a.Table.Vars c, sl a6 a.Table.Where c7, I a.Table.Sum, sl a12 a.Cells c13]), (1, I left)] ⟨rfl, rfl, trivial⟩ fun ρ => ?_
 have X := But.refl emp w
 refine W_seq ?_
 refine W_region ?_
 refine LP_box 0 (cs := [I a.Table.Level, sl a1 a.Table.Vars c, sl a6 a.Table.Where c7, I a.Table.Sum, sl a12 a.Cells c13]) rfl rfl rfl rfl rfl fun b wx x ex14 f => ?_
 refine LP_ev ok 1 [(4, I 0)] 2 rfl rfl ?_
 refine LP_end _ rfl ?_
 refine W_seq ?_
 refine W_region ?_
 refine LP_ev ok 0 [(5, pb b)] 1 rfl rfl ?_
 refine LP_ldbox 1 (v := .agg #[I a.Table.Level, sl a1 a.Table.Vars c, sl a6 a.Table.Where c7, I a.Table.Sum]) rfl rfl rfl ti_46 ag_46 (fun h => by cases h) rfl ex14 rfl rfl ?_
 refine LP_ev ok 2 [(7, I left)] 3 rfl rfl ?_
 have ex16 := (ex.ext x)
 have ex17 := (ex5.ext x)
 refine LP_call 3 rfl rfl rfl cal_19 rfl (laws_szTable_w _ _ _ H wx r ex16 r4 ex17) ?_
 rintro _ wx18 ⟨r15, H, rfl, x19⟩
 refine LP_ev ok 4 [(1, I r15)] 5 rfl rfl ?_
 refine LP_end _ rfl ?_
 refine W_seq ?_
 refine W_seq ?_
 refine W_region ?_
 refine LP_ev ok 0 [(9, I r15), (10, .bool (decide (r15 < 0)))] 2 rfl rfl ?_
 refine LP_end _ rfl ?_
 refine W_cond (decide (r15 < 0)) rfl (fun hc => ?_) (fun hc => ?_)
 ·have H := H.1 hc
  refine W_seq ?_
  refine W_region ?_
  refine LP_ev ok 0 [(4, I ((-1)))] 1 rfl rfl ?_
  refine LP_end _ rfl ?_
  refine W_ret ?_
  have X20 := ((X.stepx x).stepx x19)
  exact ⟨_, Ret_of [I ((-1))] ⟨⟨rfl, rfl⟩, trivial⟩, _, H, rfl, X20.ext⟩
 have H := H.2 hc
 refine W_skip ?_
 refine W_seq ?_
 refine W_region ?_
 refine LP_ev ok 0 [(11, .pointer (some ⟨b, 4, none⟩))] 1 rfl rfl ?_
 have ex21 := (ex14.ext x19)
 refine LP_ldbox 1 (v := sl a12 a.Cells c13) rfl rfl rfl ti_22 ag_22 (fun _ => rfl) rfl ex21 rfl rfl ?_
 refine LP_ev ok 2 [(13, I r15)] 3 rfl rfl ?_
 have ex23 := ((ex11.ext x).ext x19)
 refine LP_call 3 rfl rfl rfl cal_24 rfl (laws_szIntS_w _ _ _ H wx18 r10 ex23) ?_
 rintro _ wx24 ⟨r22, H, rfl, x25⟩
 refine LP_ev ok 4 [(1, I r22)] 5 rfl rfl ?_
 refine LP_end _ rfl ?_
 refine W_seq ?_
 refine W_seq ?_
 refine W_region ?_
 refine LP_ev ok 0 [(15, I r22), (16, .bool (decide (r22 < 0)))] 2 rfl rfl ?_
 refine LP_end _ rfl ?_
 refine W_cond (decide (r22 < 0)) rfl (fun hc26 => ?_) (fun hc26 => ?_)
 ·have H := H.1 hc26
  refine W_seq ?_
  refine W_region ?_
  refine LP_ev ok 0 [(4, I ((-1)))] 1 rfl rfl ?_
  refine LP_end _ rfl ?_
  refine W_ret ?_
  have X27 := (((X.stepx x).stepx x19).stepx x25)
  exact ⟨_, Ret_of [I ((-1))] ⟨⟨rfl, rfl⟩, trivial⟩, _, H, rfl, X27.ext⟩
 have H := H.2 hc26
 refine W_skip ?_
 refine W_seq ?_
 refine W_region ?_
 refine LP_ev ok 0 [(17, I r22), (4, I r22)] 2 rfl rfl ?_
 refine LP_end _ rfl ?_
 refine W_ret ?_
 have X28 := (((X.stepx x).stepx x19).stepx x25)
 exact ⟨_, Ret_of [I r22] ⟨⟨rfl, rfl⟩, trivial⟩, _, H, rfl, X28.ext⟩

theorem laws_szPublishedS_w (a : List Published) (left : Int) (Q : Int → Prop) (H : laws_szPublishedS a left Q) (w : World) {vx : Value} {hx : PH} (r : RS hx vx a) (ex : Sub hx w) :
  CallsTo Try.prog 8 #[vx, I left] w fun v w' => ∃ r0, Q r0 ∧ v = I r0 ∧ Ext w w' := by
 obtain ⟨a1, c, rfl⟩ := r.shape
 refine enter (args := [sl a1 a c, I left]) 27 Try.func8 rfl rfl rfl ?_
 refine W_forget [(0, sl a1 a c), (1, I left)] ⟨rfl, rfl, trivial⟩ fun ρ => ?_
 have X := But.refl emp w
 refine W_seq ?_
 refine W_region ?_
 refine LP_ev ok 0 [(4, I 0)] 1 rfl rfl ?_
 refine LP_end _ rfl ?_
 refine W_seq ?_
 refine W_region ?_
 refine LP_ev ok 0 [(6, I left), (7, sl a1 a c), (8, I (ln a)), (9, I (wr (left - (ln a)))), (1, I (wr (left - (ln a))))] 5 rfl rfl ?_
 refine LP_end _ rfl ?_
 refine W_seq ?_
 refine W_seq ?_
 refine W_region ?_
 refine LP_ev ok 0 [(10, I (wr (left - (ln a)))), (11, .bool (decide ((wr (left - (ln a))) < 0)))] 2 rfl rfl ?_
 refine LP_end _ rfl ?_
 refine W_cond (decide ((wr (left - (ln a))) < 0)) rfl (fun hc => ?_) (fun hc => ?_)
 ·have H := H.1 hc
  refine W_seq ?_
  refine W_region ?_
  refine LP_ev ok 0 [(4, I ((-1)))] 1 rfl rfl ?_
  refine LP_end _ rfl ?_
  refine W_ret ?_
  exact ⟨_, Ret_of [I ((-1))] ⟨⟨rfl, rfl⟩, trivial⟩, _, H, rfl, X.ext⟩
 have H := H.2 hc
 refine W_skip ?_
 refine W_seq ?_
 refine W_seq ?_
 refine W_region ?_
 refine LP_ev ok 0 [(5, I 0)] 1 rfl rfl ?_
 refine LP_end _ rfl ?_
 refine W_block ?_
 obtain ⟨J, m, Hx, H⟩ := H
 refine W_loop (S := Int × Int) (fun s ρ' w' => J s.1 s.2 ∧ ∃ (ρ : Env), ρ' = setAll [(0, sl a1 a c), (1, I s.1), (5, I s.2)] ρ ∧ But emp w w' ∧ Sub hx w') (fun s => m s.1 s.2) (wr (left - (ln a)), 0) ⟨Hx, _, env_eq ⟨rfl, rfl, rfl, trivial⟩, X, ex⟩ ?_
 rintro ⟨left2, i⟩ _ wx ⟨Hi, ρ, rfl, X4, ex3⟩
 have H := H left2 i Hi
 refine W_seq ?_
 refine W_seq ?_
 refine W_region ?_
 refine LP_ev ok 0 [(12, I i), (13, sl a1 a c), (14, I (ln a)), (15, .bool (decide (i < (ln a))))] 4 rfl rfl ?_
 refine LP_end _ rfl ?_
 refine W_cond (decide (i < (ln a))) rfl (fun hc5 => ?_) (fun hc5 => ?_)
 ·have H := H.1 hc5
  refine W_skip ?_
  refine W_seq ?_
  refine W_block ?_
  refine W_seq ?_
  refine W_region ?_
  refine LP_ev ok 0 [(18, sl a1 a c), (19, I i)] 2 rfl rfl ?_
  obtain ⟨x, hi, hx6, H⟩ := H
  refine LP_index 2 rfl rfl rfl Try.underlying26 ti_60 rfl rfl r hi hx6 fun a7 cs r8 d => ?_
  have d9 := d
  obtain ⟨u, u11, u13, rfl, r10, r12, r14⟩ := Published_rd d9
  obtain ⟨a15, c16, rfl⟩ := r10.shape
  obtain ⟨a17, c18, rfl⟩ := r12.shape
  obtain ⟨a19, c20, rfl⟩ := r14.shape
  refine LP_load 3 rfl rfl rfl ti_60 ag_60 rfl r8 d ex3 fun vx21 r22 => ?_
  obtain ⟨u23, u25, u27, rfl, r24, r26, r28⟩ := Published_rv r22
  obtain ⟨a29, c30, rfl⟩ := r24.shape
  obtain ⟨a31, c32, rfl⟩ := r26.shape
  obtain ⟨a33, c34, rfl⟩ := r28.shape
  refine LP_ev ok 4 [(22, I left2)] 5 rfl rfl ?_
  refine LP_call 5 rfl rfl rfl cal_26 rfl (laws_szPublished_w _ _ _ H wx r24 ex3 r26 ex3 r28 ex3) ?_
  rintro _ wx36 ⟨r35, H, rfl, x37⟩
  refine LP_ev ok 6 [(1, I r35)] 7 rfl rfl ?_
  refine LP_end _ rfl ?_
  refine W_seq ?_
  refine W_region ?_
  refine LP_ev ok 0 [(24, I r35), (25, .bool (decide (r35 < 0)))] 2 rfl rfl ?_
  refine LP_end _ rfl ?_
  refine W_cond (decide (r35 < 0)) rfl (fun hc38 => ?_) (fun hc38 => ?_)
  ·have H := H.1 hc38
   refine W_seq ?_
   refine W_region ?_
   refine LP_ev ok 0 [(4, I ((-1)))] 1 rfl rfl ?_
   refine LP_end _ rfl ?_
   refine W_ret ?_
   have X39 := (X4.stepx x37)
   exact ⟨_, Ret_of [I ((-1))] ⟨⟨rfl, rfl⟩, trivial⟩, _, H, rfl, X39.ext⟩
  have H := H.2 hc38
  refine W_skip ?_
  refine W_region ?_
  refine LP_ev ok 0 [(16, I i), (17, I (wr (i + 1))), (5, I (wr (i + 1)))] 3 rfl rfl ?_
  refine LP_end _ rfl ?_
  have X40 := (X4.stepx x37)
  have ex41 := (ex3.ext x37)
  exact ⟨(r35, wr (i + 1)), ⟨H.1, _, env_eq ⟨rfl, rfl, rfl, trivial⟩, X40, ex41⟩, H.2⟩
 have H := H.2 hc5
 refine W_exit ?_
 refine (if_pos rfl).mpr ?_
 refine W_seq ?_
 refine W_region ?_
 refine LP_ev ok 0 [(26, I left2), (4, I left2)] 2 rfl rfl ?_
 refine LP_end _ rfl ?_
 refine W_ret ?_
 exact ⟨_, Ret_of [I left2] ⟨⟨rfl, rfl⟩, trivial⟩, _, H, rfl, X4.ext⟩

theorem laws_toIntS_w (a : List Int) (Q : (List Int) → Prop) (H : laws_toIntS a Q) (w : World) {vx : Value} {hx : PH} (r : RS hx vx a) (ex : Sub hx w) :
  CallsTo Try.prog 30 #[vx] w fun v w' => ∃ r0 u0 g0, Q r0 ∧ v = u0 ∧ Ext w w' ∧ OS 3 g0 emp u0 r0 ∧ Sub g0 w' ∧ Fresh w.heap.size g0 := by
 obtain ⟨a1, c, rfl⟩ := r.shape
 refine enter (args := [sl a1 a c]) 22 Try.func30 rfl rfl rfl ?_
 refine W_forget [(0, sl a1 a c)] ⟨rfl, trivial⟩ fun ρ => ?_
 have X := But.refl emp w
 refine W_seq ?_
 refine W_region ?_
 refine LP_ev ok 0 [(2, .slice none 0 0)] 1 rfl rfl ?_
 refine LP_end _ rfl ?_
 refine W_seq ?_
 refine W_region ?_
 refine LP_ev ok 0 [(5, sl a1 a c), (6, I (ln a))] 2 rfl rfl ?_
 obtain ⟨hn, hb, H⟩ := H
 refine LP_make (α := Int) 2 rfl rfl rfl Try.underlying22 ti_3 (x0 := (0 : Int)) rfl rfl hn (by first | omega | (simp only [ln] at *; omega)) (by first | omega | (simp only [ln] at *; omega)) fun hx2 vx3 wx x o ex4 f => ?_
 obtain ⟨a5, c6, rfl⟩ := o.shape
 refine LP_ev ok 3 [(3, .slice a5 (List.length (List.replicate (Int.toNat (ln a)) ((0 : Int)))) c6)] 4 rfl rfl ?_
 refine LP_end _ rfl ?_
 refine W_seq ?_
 refine W_seq ?_
 refine W_region ?_
 refine LP_ev ok 0 [(4, I 0)] 1 rfl rfl ?_
 refine LP_end _ rfl ?_
 refine W_block ?_
 have X15 := (X.stepx x)
 have f16 := f.mono X.size
 have ex17 := (ex.ext x)
 obtain ⟨J, m, Hx, H⟩ := H
 refine W_loop (S := (List Int) × Int) (fun s ρ' w' => J s.1 s.2 ∧ ∃ (ρ : Env) (hx8 : PH), ρ' = setAll [(0, sl a1 a c), (3, .slice a5 (List.length (List.replicate (Int.toNat (ln a)) ((0 : Int)))) c6), (4, I s.2)] ρ ∧ But emp w w' ∧ OS 3 hx8 emp (.slice a5 (List.length (List.replicate (Int.toNat (ln a)) ((0 : Int)))) c6) s.1 ∧ Sub hx8 w' ∧ Fresh w.heap.size hx8 ∧ Sub hx w' ∧ Dj hx8 hx) (fun s => m s.1 s.2) (List.replicate (Int.toNat (ln a)) ((0 : Int)), 0) ⟨Hx, _, hx2, env_eq ⟨rfl, rfl, rfl, trivial⟩, X15, o, ex4, f16, ex17, (Dj.of_fresh ex f).symm⟩ ?_
 rintro ⟨out, i⟩ _ wx12 ⟨Hi, ρ, hx8, rfl, HF⟩
 revert HF
 refine bb6 fun X14 o9 ex10 f11 ex13 d => ?_
 have H := H out i Hi
 refine W_seq ?_
 refine W_seq ?_
 refine W_region ?_
 refine LP_ev ok 0 [(8, I i), (9, sl a1 a c), (10, I (ln a)), (11, .bool (decide (i < (ln a))))] 4 rfl rfl ?_
 refine LP_end _ rfl ?_
 refine W_cond (decide (i < (ln a))) rfl (fun hc => ?_) (fun hc => ?_)
 ·have H := H.1 hc
  refine W_skip ?_
  refine W_seq ?_
  refine W_block ?_
  refine W_region ?_
  refine LP_ev ok 0 [(14, .slice a5 (List.length (List.replicate (Int.toNat (ln a)) ((0 : Int)))) c6), (15, I i), (16, sl a1 a c), (17, I i)] 4 rfl rfl ?_
  obtain ⟨x18, hi, hx19, H⟩ := H
  refine LP_index 4 rfl rfl rfl Try.underlying22 ti_3 rfl rfl r hi hx19 fun a20 cs r21 d22 => ?_
  refine LP_load 5 rfl rfl rfl ti_3 ag_3 rfl r21 d22 ex13 fun vx23 r24 => ?_
  obtain rfl := r24.int
  obtain ⟨hi25, hl, H⟩ := H
  refine LP_indexw (v := .slice a5 (List.length (List.replicate (Int.toNat (ln a)) ((0 : Int)))) c6) 6 rfl rfl rfl Try.underlying22 ti_3 rfl rfl o9 hi25 hl fun a26 wa => ?_
  refine LP_set 7 rfl rfl rfl rfl rfl wa (Le.refl emp) ⟨_, rfl, rfl⟩ ex10 fun hx27 wx28 o29 ex30 y dm => ?_
  refine LP_end _ rfl ?_
  refine W_region ?_
  refine LP_ev ok 0 [(12, I i), (13, I (wr (i + 1))), (4, I (wr (i + 1)))] 3 rfl rfl ?_
  refine LP_end _ rfl ?_
  have X31 := (X14.step y (f11.dom _))
  have f32 := (dm _).fresh f11 X14.size
  have ex33 := (ex13.but y d)
  exact ⟨(List.set out (Int.toNat i) x18, wr (i + 1)), ⟨H.1, _, hx27, env_eq ⟨rfl, rfl, rfl, trivial⟩, X31, o29, ex30, f32, ex33, (DomLe.dj (dm _) d ex13)⟩, H.2⟩
 have H := H.2 hc
 refine W_exit ?_
 refine (if_pos rfl).mpr ?_
 refine W_seq ?_
 refine W_region ?_
 refine LP_ev ok 0 [(21, .slice a5 (List.length (List.replicate (Int.toNat (ln a)) ((0 : Int)))) c6), (2, .slice a5 (List.length (List.replicate (Int.toNat (ln a)) ((0 : Int)))) c6)] 2 rfl rfl ?_
 refine LP_end _ rfl ?_
 refine W_ret ?_
 exact ⟨_, Ret_of [.slice a5 (List.length (List.replicate (Int.toNat (ln a)) ((0 : Int)))) c6] ⟨⟨rfl, rfl⟩, trivial⟩, _, _, _, H, rfl, X14.ext, o9, ex10, f11⟩

theorem laws_toGeo_w (a : Geo) (Q : Geo → Prop) (H : laws_toGeo a Q) (w : World) {vx : Value} {hx : PH} (r : RS hx vx a.Parents) (ex : Sub hx w) :
  CallsTo Try.prog 10 #[.agg #[vx]] w fun v w' => ∃ r0 u0_0 g0_0, Q r0 ∧ v = .agg #[u0_0] ∧ Ext w w' ∧ OS 3 g0_0 emp u0_0 r0.Parents ∧ Sub g0_0 w' ∧ Fresh w.heap.size g0_0 := by
 obtain ⟨a1, c, rfl⟩ := r.shape
 refine enter (args := [.agg #[sl a1 a.Parents c]]) 9 Try.func10 rfl rfl rfl ?_
 refine W_forget [(0, .agg #[sl a1 a.Parents c])] ⟨rfl, trivial⟩ fun ρ => ?_
 have X := But.refl emp w
 refine W_seq ?_
 refine W_region ?_
 refine LP_box 0 (cs := [sl a1 a.Parents c]) rfl rfl rfl rfl rfl fun b wx x ex2 f => ?_
 refine LP_alloc 1 rfl rfl rfl ti_32 rfl fun b3 wx4 x5 ex6 f7 => ?_
 refine LP_end _ rfl ?_
 refine W_seq ?_
 refine W_region ?_
 refine LP_alloc 0 rfl rfl rfl ti_32 rfl fun b8 wx9 x10 ex11 f12 => ?_
 refine LP_end _ rfl ?_
 refine W_seq ?_
 refine W_region ?_
 refine LP_ev ok 0 [(4, pb b)] 1 rfl rfl ?_
 have ex13 := ((ex2.ext x5).ext x10)
 refine LP_ldbox 1 (v := sl a1 a.Parents c) rfl rfl rfl ti_22 ag_22 (fun _ => rfl) rfl ex13 rfl rfl ?_
 have ex15 := (((ex.ext x).ext x5).ext x10)
 refine LP_call 2 rfl rfl rfl cal_30 rfl (laws_toIntS_w _ _ H wx9 r ex15) ?_
 rintro _ wx16 ⟨r14, vx18, hx19, H, rfl, x17, o, ex20, f21⟩
 obtain ⟨a22, c23, rfl⟩ := o.shape
 refine LP_ev ok 3 [(7, pb b8)] 4 rfl rfl ?_
 have ex26 := (ex11.ext x17)
 refine LP_stbox 4 (vs := [sl a22 r14 c23]) (cs' := [sl a22 r14 c23]) rfl rfl rfl ti_22 rfl rfl rfl rfl rfl ex26 rfl rfl fun wx24 ex25 y => ?_
 refine LP_end _ rfl ?_
 refine W_seq ?_
 refine W_region ?_
 refine LP_ldbox 0 (v := .agg #[sl a22 r14 c23]) rfl rfl rfl ti_32 ag_32 (fun h => by cases h) rfl ex25 rfl rfl ?_
 have ex30 := (((ex6.ext x10).ext x17).but y (Dj.of_fresh ex6 f12).symm)
 refine LP_stbox 1 (vs := [sl a22 r14 c23]) (cs' := [sl a22 r14 c23]) rfl rfl rfl ti_32 rfl rfl rfl rfl rfl ex30 rfl rfl fun wx27 ex28 y29 => ?_
 refine LP_end _ rfl ?_
 refine W_ret ?_
 have ex31 := (ex6.ext x10)
 have ex32 := ((ex20.but y (Dj.of_fresh ex11 f21)).but y29 (Dj.of_fresh ex31 f21))
 have X34 := (((X.stepx x).stepx x5).stepx x10)
 have f33 := f21.mono X34.size
 have X36 := ((X.stepx x).stepx x5)
 have f35 := f12.mono X36.size
 have X38 := (X.stepx x)
 have f37 := f7.mono X38.size
 have X39 := (((X34.stepx x17).step y (f35.dom _)).step y29 (f37.dom _))
 exact ⟨_, Ret_of [.agg #[sl a22 r14 c23]] ⟨⟨_, rfl, rfl, ld_res ti_32 ag_32 (fun h => by cases h) ex28 rfl rfl⟩, trivial⟩, _, _, _, H, rfl, X39.ext, o, ex32, f33⟩

theorem laws_toVariable_w (a : Variable) (Q : Variable → Prop) (H : laws_toVariable a Q) (w : World)  :
  CallsTo Try.prog 31 #[.agg #[.string a.Name, I a.Levels]] w fun v w' => ∃ r0, Q r0 ∧ v = .agg #[.string r0.Name, I r0.Levels] ∧ Ext w w' := by
 refine enter (args := [.agg #[.string a.Name, I a.Levels]]) 11 Try.func31 rfl rfl rfl ?_
 refine W_forget [(0, .agg #[.string a.Name, I a.Levels])] ⟨rfl, trivial⟩ fun ρ => ?_
 have X := But.refl emp w
 refine W_seq ?_
 refine W_region ?_
 refine LP_box 0 (cs := [.string a.Name, I a.Levels]) rfl rfl rfl rfl rfl fun b wx x ex f => ?_
 refine LP_alloc 1 rfl rfl rfl ti_66 rfl fun b1 wx2 x3 ex4 f5 => ?_
 refine LP_end _ rfl ?_
 refine W_seq ?_
 refine W_region ?_
 refine LP_alloc 0 rfl rfl rfl ti_66 rfl fun b6 wx7 x8 ex9 f10 => ?_
 refine LP_end _ rfl ?_
 refine W_seq ?_
 refine W_region ?_
 refine LP_ev ok 0 [(4, pb b)] 1 rfl rfl ?_
 have ex11 := ((ex.ext x3).ext x8)
 refine LP_ldbox 1 (v := .string a.Name) rfl rfl rfl ti_9 ag_9 (fun _ => rfl) rfl ex11 rfl rfl ?_
 refine LP_ev ok 2 [(6, pb b6)] 3 rfl rfl ?_
 refine LP_stbox 3 (vs := [.string a.Name]) (cs' := [.string a.Name, I 0]) rfl rfl rfl ti_9 rfl rfl rfl rfl rfl ex9 rfl rfl fun wx12 ex13 y => ?_
 refine LP_end _ rfl ?_
 refine W_seq ?_
 refine W_region ?_
 refine LP_ev ok 0 [(7, .pointer (some ⟨b, 1, none⟩))] 1 rfl rfl ?_
 have ex14 := (ex.ext x3)
 have ex15 := (ex11.but y (Dj.of_fresh ex14 f10).symm)
 refine LP_ldbox 1 (v := I a.Levels) rfl rfl rfl ti_3 ag_3 (fun _ => rfl) rfl ex15 rfl rfl ?_
 refine LP_ev ok 2 [(9, .pointer (some ⟨b6, 1, none⟩))] 3 rfl rfl ?_
 refine LP_stbox 3 (vs := [I a.Levels]) (cs' := [.string a.Name, I a.Levels]) rfl rfl rfl ti_3 rfl rfl rfl rfl rfl ex13 rfl rfl fun wx16 ex17 y18 => ?_
 refine LP_end _ rfl ?_
 refine W_seq ?_
 refine W_region ?_
 refine LP_ldbox 0 (v := .agg #[.string a.Name, I a.Levels]) rfl rfl rfl ti_66 ag_66 (fun h => by cases h) rfl ex17 rfl rfl ?_
 have ex22 := (((ex4.ext x8).but y (Dj.of_fresh ex4 f10).symm).but y18 (Dj.box (Dj.of_fresh ex4 f10).symm))
 refine LP_stbox 1 (vs := [.string a.Name, I a.Levels]) (cs' := [.string a.Name, I a.Levels]) rfl rfl rfl ti_66 rfl rfl rfl rfl rfl ex22 rfl rfl fun wx19 ex20 y21 => ?_
 refine LP_end _ rfl ?_
 refine W_ret ?_
 have X24 := ((X.stepx x).stepx x3)
 have f23 := f10.mono X24.size
 have X26 := (X.stepx x)
 have f25 := f5.mono X26.size
 have X27 := ((((((X.stepx x).stepx x3).stepx x8).step y (f23.dom _)).step y18 ((Fresh.box f23).dom _)).step y21 (f25.dom _))
 exact ⟨_, Ret_of [.agg #[.string a.Name, I a.Levels]] ⟨⟨_, rfl, rfl, ld_res ti_66 ag_66 (fun h => by cases h) ex20 rfl rfl⟩, trivial⟩, _, H, rfl, X27.ext⟩

theorem laws_toVariableS_w (a : List Variable) (Q : (List Variable) → Prop) (H : laws_toVariableS a Q) (w : World) {vx : Value} {hx : PH} (r : RS hx vx a) (ex : Sub hx w) :
  CallsTo Try.prog 11 #[vx] w fun v w' => ∃ r0 u0 g0, Q r0 ∧ v = u0 ∧ Ext w w' ∧ OS 66 g0 emp u0 r0 ∧ Sub g0 w' ∧ Fresh w.heap.size g0 := by
 obtain ⟨a1, c, rfl⟩ := r.shape
 refine enter (args := [sl a1 a c]) 23 Try.func11 rfl rfl rfl ?_
 refine W_forget [(0, sl a1 a c)] ⟨rfl, trivial⟩ fun ρ => ?_
 have X := But.refl emp w
 refine W_seq ?_
 refine W_region ?_
 refine LP_ev ok 0 [(2, .slice none 0 0)] 1 rfl rfl ?_
 refine LP_end _ rfl ?_
 refine W_seq ?_
 refine W_region ?_
 refine LP_ev ok 0 [(5, sl a1 a c), (6, I (ln a))] 2 rfl rfl ?_
 obtain ⟨hn, hb, H⟩ := H
 refine LP_make (α := Variable) 2 rfl rfl rfl Try.underlying34 ti_66 (x0 := (Variable.mk ((ByteArray.mk #[])) ((0 : Int)))) rfl rfl hn (by first | omega | (simp only [ln] at *; omega)) (by first | omega | (simp only [ln] at *; omega)) fun hx2 vx3 wx x o ex4 f => ?_
 obtain ⟨a5, c6, rfl⟩ := o.shape
 refine LP_ev ok 3 [(3, .slice a5 (List.length (List.replicate (Int.toNat (ln a)) ((Variable.mk ((ByteArray.mk #[])) ((0 : Int)))))) c6)] 4 rfl rfl ?_
 refine LP_end _ rfl ?_
 refine W_seq ?_
 refine W_seq ?_
 refine W_region ?_
 refine LP_ev ok 0 [(4, I 0)] 1 rfl rfl ?_
 refine LP_end _ rfl ?_
 refine W_block ?_
 have X15 := (X.stepx x)
 have f16 := f.mono X.size
 have ex17 := (ex.ext x)
 obtain ⟨J, m, Hx, H⟩ := H
 refine W_loop (S := (List Variable) × Int) (fun s ρ' w' => J s.1 s.2 ∧ ∃ (ρ : Env) (hx8 : PH), ρ' = setAll [(0, sl a1 a c), (3, .slice a5 (List.length (List.replicate (Int.toNat (ln a)) ((Variable.mk ((ByteArray.mk #[])) ((0 : Int)))))) c6), (4, I s.2)] ρ ∧ But emp w w' ∧ OS 66 hx8 emp (.slice a5 (List.length (List.replicate (Int.toNat (ln a)) ((Variable.mk ((ByteArray.mk #[])) ((0 : Int)))))) c6) s.1 ∧ Sub hx8 w' ∧ Fresh w.heap.size hx8 ∧ Sub hx w' ∧ Dj hx8 hx) (fun s => m s.1 s.2) (List.replicate (Int.toNat (ln a)) ((Variable.mk ((ByteArray.mk #[])) ((0 : Int)))), 0) ⟨Hx, _, hx2, env_eq ⟨rfl, rfl, rfl, trivial⟩, X15, o, ex4, f16, ex17, (Dj.of_fresh ex f).symm⟩ ?_
 rintro ⟨out, i⟩ _ wx12 ⟨Hi, ρ, hx8, rfl, HF⟩
 revert HF
 refine bb6 fun X14 o9 ex10 f11 ex13 d => ?_
 have H := H out i Hi
 refine W_seq ?_
 refine W_seq ?_
 refine W_region ?_
 refine LP_ev ok 0 [(8, I i), (9, sl a1 a c), (10, I (ln a)), (11, .bool (decide (i < (ln a))))] 4 rfl rfl ?_
 refine LP_end _ rfl ?_
 refine W_cond (decide (i < (ln a))) rfl (fun hc => ?_) (fun hc => ?_)
 ·have H := H.1 hc
  refine W_skip ?_
  refine W_seq ?_
  refine W_block ?_
  refine W_region ?_
  refine LP_ev ok 0 [(14, .slice a5 (List.length (List.replicate (Int.toNat (ln a)) ((Variable.mk ((ByteArray.mk #[])) ((0 : Int)))))) c6), (15, I i), (16, sl a1 a c), (17, I i)] 4 rfl rfl ?_
  obtain ⟨x18, hi, hx19, H⟩ := H
  refine LP_index 4 rfl rfl rfl Try.underlying25 ti_57 rfl rfl r hi hx19 fun a20 cs r21 d22 => ?_
  refine LP_load 5 rfl rfl rfl ti_57 ag_57 rfl r21 d22 ex13 fun vx23 r24 => ?_
  obtain rfl := Variable_rv r24
  refine LP_call 6 rfl rfl rfl cal_31 rfl (laws_toVariable_w _ _ H wx12 ) ?_
  rintro _ wx26 ⟨r25, H, rfl, x27⟩
  obtain ⟨hi28, hl, H⟩ := H
  refine LP_indexw (v := .slice a5 (List.length (List.replicate (Int.toNat (ln a)) ((Variable.mk ((ByteArray.mk #[])) ((0 : Int)))))) c6) 7 rfl rfl rfl Try.underlying34 ti_66 rfl rfl o9 hi28 hl fun a29 wa => ?_
  have ex34 := (ex10.ext x27)
  refine LP_set 8 rfl rfl rfl rfl rfl wa (Le.refl emp) ⟨_, rfl, rfl⟩ ex34 fun hx30 wx31 o32 ex33 y dm => ?_
  refine LP_end _ rfl ?_
  refine W_region ?_
  refine LP_ev ok 0 [(12, I i), (13, I (wr (i + 1))), (4, I (wr (i + 1)))] 3 rfl rfl ?_
  refine LP_end _ rfl ?_
  have X35 := ((X14.stepx x27).step y (f11.dom _))
  have X37 := (X14.stepx x27)
  have f36 := (dm _).fresh f11 X37.size
  have ex38 := ((ex13.ext x27).but y d)
  have ex39 := (ex13.ext x27)
  exact ⟨(List.set out (Int.toNat i) r25, wr (i + 1)), ⟨H.1, _, hx30, env_eq ⟨rfl, rfl, rfl, trivial⟩, X35, o32, ex33, f36, ex38, (DomLe.dj (dm _) d ex39)⟩, H.2⟩
 have H := H.2 hc
 refine W_exit ?_
 refine (if_pos rfl).mpr ?_
 refine W_seq ?_
 refine W_region ?_
 refine LP_ev ok 0 [(22, .slice a5 (List.length (List.replicate (Int.toNat (ln a)) ((Variable.mk ((ByteArray.mk #[])) ((0 : Int)))))) c6), (2, .slice a5 (List.length (List.replicate (Int.toNat (ln a)) ((Variable.mk ((ByteArray.mk #[])) ((0 : Int)))))) c6)] 2 rfl rfl ?_
 refine LP_end _ rfl ?_
 refine W_ret ?_
 exact ⟨_, Ret_of [.slice a5 (List.length (List.replicate (Int.toNat (ln a)) ((Variable.mk ((ByteArray.mk #[])) ((0 : Int)))))) c6] ⟨⟨rfl, rfl⟩, trivial⟩, _, _, _, H, rfl, X14.ext, o9, ex10, f11⟩

theorem laws_toTable_w (a : Table) (Q : Table → Prop) (H : laws_toTable a Q) (w : World) {vx : Value} {hx : PH} (r : RS hx vx a.Vars) (ex : Sub hx w) {vx2 : Value} {hx3 : PH} (r4 : RS hx3 vx2 a.Where) (ex5 : Sub hx3 w) :
  CallsTo Try.prog 21 #[.agg #[I a.Level, vx, vx2, I a.Sum]] w fun v w' => ∃ r0 u0_1 g0_1 u0_2 g0_2, Q r0 ∧ v = .agg #[I r0.Level, u0_1, u0_2, I r0.Sum] ∧ Ext w w' ∧ OS 3 g0_1 emp u0_1 r0.Vars ∧ Sub g0_1 w' ∧ Fresh w.heap.size g0_1 ∧ OS 3 g0_2 emp u0_2 r0.Where ∧ Sub g0_2 w' ∧ Fresh w.heap.size g0_2 ∧ Dj g0_1 g0_2 := by
 obtain ⟨a1, c, rfl⟩ := r.shape
 obtain ⟨a6, c7, rfl⟩ := r4.shape
 refine enter (args := [.agg #[I a.Level, sl a1 a.Vars c, sl a6 a.Where c7, I a.Sum]]) 19 Try.func21 rfl rfl rfl ?_
 refine W_forget [(0, .agg #[I a.Level, sl a1 a.Vars c, sl a6 a.Where c7, I a.Sum])] ⟨rfl, trivial⟩ fun ρ => ?_
 have X := But.refl emp w
 refine W_seq ?_
 refine W_region ?_
 refine LP_box 0 (cs := [I a.Level, sl a1 a.Vars c, sl a6 a.Where c7, I a.Sum]) rfl rfl rfl rfl rfl fun b wx x ex8 f => ?_
 refine LP_alloc 1 rfl rfl rfl ti_50 rfl fun b9 wx10 x11 ex12 f13 => ?_
 refine LP_end _ rfl ?_
 refine W_seq ?_
 refine W_region ?_
 refine LP_alloc 0 rfl rfl rfl ti_50 rfl fun b14 wx15 x16 ex17 f18 => ?_
 refine LP_end _ rfl ?_
 refine W_seq ?_
 refine W_region ?_
 refine LP_ev ok 0 [(4, pb b)] 1 rfl rfl ?_
 have ex19 := ((ex8.ext x11).ext x16)
 refine LP_ldbox 1 (v := I a.Level) rfl rfl rfl ti_3 ag_3 (fun _ => rfl) rfl ex19 rfl rfl ?_
 refine LP_ev ok 2 [(6, pb b14)] 3 rfl rfl ?_
 refine LP_stbox 3 (vs := [I a.Level]) (cs' := [I a.Level, .slice none 0 0, .slice none 0 0, I 0]) rfl rfl rfl ti_3 rfl rfl rfl rfl rfl ex17 rfl rfl fun wx20 ex21 y => ?_
 refine LP_end _ rfl ?_
 refine W_seq ?_
 refine W_region ?_
 refine LP_ev ok 0 [(7, .pointer (some ⟨b, 1, none⟩))] 1 rfl rfl ?_
 have ex22 := (ex8.ext x11)
 have ex23 := (ex19.but y (Dj.of_fresh ex22 f18).symm)
 refine LP_ldbox 1 (v := sl a1 a.Vars c) rfl rfl rfl ti_22 ag_22 (fun _ => rfl) rfl ex23 rfl rfl ?_
 have ex25 := ((ex.ext x).ext x11)
 have ex26 := ((((ex.ext x).ext x11).ext x16).but y (Dj.of_fresh ex25 f18).symm)
 refine LP_call 2 rfl rfl rfl cal_30 rfl (laws_toIntS_w _ _ H wx20 r ex26) ?_
 rintro _ wx27 ⟨r24, vx29, hx30, H, rfl, x28, o, ex31, f32⟩
 obtain ⟨a33, c34, rfl⟩ := o.shape
 refine LP_ev ok 3 [(10, .pointer (some ⟨b14, 1, none⟩))] 4 rfl rfl ?_
 have ex38 := (ex21.ext x28)
 refine LP_stbox 4 (vs := [sl a33 r24 c34]) (cs' := [I a.Level, sl a33 r24 c34, .slice none 0 0, I 0]) rfl rfl rfl ti_22 rfl rfl rfl rfl rfl ex38 rfl rfl fun wx35 ex36 y37 => ?_
 refine LP_end _ rfl ?_
 refine W_seq ?_
 refine W_region ?_
 refine LP_ev ok 0 [(11, .pointer (some ⟨b, 2, none⟩))] 1 rfl rfl ?_
 have ex39 := ((ex23.ext x28).but y37 (Dj.box (Dj.of_fresh ex22 f18).symm))
 refine LP_ldbox 1 (v := sl a6 a.Where c7) rfl rfl rfl ti_22 ag_22 (fun _ => rfl) rfl ex39 rfl rfl ?_
 have ex41 := ((ex5.ext x).ext x11)
 have ex42 := ((((((ex5.ext x).ext x11).ext x16).but y (Dj.of_fresh ex41 f18).symm).ext x28).but y37 (Dj.box (Dj.of_fresh ex41 f18).symm))
 refine LP_call 2 rfl rfl rfl cal_30 rfl (laws_toIntS_w _ _ H wx35 r4 ex42) ?_
 rintro _ wx43 ⟨r40, vx45, hx46, H, rfl, x44, o47, ex48, f49⟩
 obtain ⟨a50, c51, rfl⟩ := o47.shape
 refine LP_ev ok 3 [(14, .pointer (some ⟨b14, 2, none⟩))] 4 rfl rfl ?_
 have ex55 := (ex36.ext x44)
 refine LP_stbox 4 (vs := [sl a50 r40 c51]) (cs' := [I a.Level, sl a33 r24 c34, sl a50 r40 c51, I 0]) rfl rfl rfl ti_22 rfl rfl rfl rfl rfl ex55 rfl rfl fun wx52 ex53 y54 => ?_
 refine LP_end _ rfl ?_
 refine W_seq ?_
 refine W_region ?_
 refine LP_ev ok 0 [(15, .pointer (some ⟨b, 3, none⟩))] 1 rfl rfl ?_
 have ex56 := ((ex39.ext x44).but y54 (Dj.box (Dj.of_fresh ex22 f18).symm))
 refine LP_ldbox 1 (v := I a.Sum) rfl rfl rfl ti_3 ag_3 (fun _ => rfl) rfl ex56 rfl rfl ?_
 refine LP_ev ok 2 [(17, .pointer (some ⟨b14, 3, none⟩))] 3 rfl rfl ?_
 refine LP_stbox 3 (vs := [I a.Sum]) (cs' := [I a.Level, sl a33 r24 c34, sl a50 r40 c51, I a.Sum]) rfl rfl rfl ti_3 rfl rfl rfl rfl rfl ex53 rfl rfl fun wx57 ex58 y59 => ?_
 refine LP_end _ rfl ?_
 refine W_seq ?_
 refine W_region ?_
 refine LP_ldbox 0 (v := .agg #[I a.Level, sl a33 r24 c34, sl a50 r40 c51, I a.Sum]) rfl rfl rfl ti_50 ag_50 (fun h => by cases h) rfl ex58 rfl rfl ?_
 have ex63 := (((((((ex12.ext x16).but y (Dj.of_fresh ex12 f18).symm).ext x28).but y37 (Dj.box (Dj.of_fresh ex12 f18).symm)).ext x44).but y54 (Dj.box (Dj.of_fresh ex12 f18).symm)).but y59 (Dj.box (Dj.of_fresh ex12 f18).symm))
 refine LP_stbox 1 (vs := [I a.Level, sl a33 r24 c34, sl a50 r40 c51, I a.Sum]) (cs' := [I a.Level, sl a33 r24 c34, sl a50 r40 c51, I a.Sum]) rfl rfl rfl ti_50 rfl rfl rfl rfl rfl ex63 rfl rfl fun wx60 ex61 y62 => ?_
 refine LP_end _ rfl ?_
 refine W_ret ?_
 have ex64 := ((ex12.ext x16).but y (Dj.of_fresh ex12 f18).symm)
 have ex65 := (((((ex31.but y37 (Dj.of_fresh ex21 f32)).ext x44).but y54 (Dj.box (Dj.of_fresh ex21 f32))).but y59 (Dj.box (Dj.of_fresh ex21 f32))).but y62 (Dj.of_fresh ex64 f32))
 have X68 := ((X.stepx x).stepx x11)
 have f67 := f18.mono X68.size
 have X69 := ((((X.stepx x).stepx x11).stepx x16).step y (f67.dom _))
 have f66 := f32.mono X69.size
 have ex70 := ((ex64.ext x28).but y37 (Dj.box (Dj.of_fresh ex12 f18).symm))
 have ex71 := (((ex48.but y54 (Dj.of_fresh ex36 f49)).but y59 (Dj.box (Dj.of_fresh ex36 f49))).but y62 (Dj.of_fresh ex70 f49))
 have X73 := ((X69.stepx x28).step y37 ((Fresh.box f67).dom _))
 have f72 := f49.mono X73.size
 have ex74 := (ex31.but y37 (Dj.of_fresh ex21 f32))
 have X76 := (X.stepx x)
 have f75 := f13.mono X76.size
 have X77 := ((((X73.stepx x44).step y54 ((Fresh.box f67).dom _)).step y59 ((Fresh.box f67).dom _)).step y62 (f75.dom _))
 exact ⟨_, Ret_of [.agg #[I a.Level, sl a33 r24 c34, sl a50 r40 c51, I a.Sum]] ⟨⟨_, rfl, rfl, ld_res ti_50 ag_50 (fun h => by cases h) ex61 rfl rfl⟩, trivial⟩, _, _, _, _, _, H, rfl, X77.ext, o, ex65, f66, o47, ex71, f72, (Dj.of_fresh ex74 f49)⟩

theorem laws_toPublished_w (a : Published) (Q : Published → Prop) (H : laws_toPublished a Q) (w : World) {vx : Value} {hx : PH} (r : RS hx vx a.Table.Vars) (ex : Sub hx w) {vx2 : Value} {hx3 : PH} (r4 : RS hx3 vx2 a.Table.Where) (ex5 : Sub hx3 w) {vx8 : Value} {hx9 : PH} (r10 : RS hx9 vx8 a.Cells) (ex11 : Sub hx9 w) :
  CallsTo Try.prog 32 #[.agg #[I a.Table.Level, vx, vx2, I a.Table.Sum, vx8]] w fun v w' => ∃ r0 u0_1 g0_1 u0_2 g0_2 u0_4 g0_4, Q r0 ∧ v = .agg #[I r0.Table.Level, u0_1, u0_2, I r0.Table.Sum, u0_4] ∧ Ext w w' ∧ OS 3 g0_1 emp u0_1 r0.Table.Vars ∧ Sub g0_1 w' ∧ Fresh w.heap.size g0_1 ∧ OS 3 g0_2 emp u0_2 r0.Table.Where ∧ Sub g0_2 w' ∧ Fresh w.heap.size g0_2 ∧ OS 3 g0_4 emp u0_4 r0.Cells ∧ Sub g0_4 w' ∧ Fresh w.heap.size g0_4 ∧ Dj g0_1 g0_2 ∧ Dj g0_1 g0_4 ∧ Dj g0_2 g0_4 := by
 obtain ⟨a1, c, rfl⟩ := r.shape
 obtain ⟨a6, c7, rfl⟩ := r4.shape
 obtain ⟨a12, c13, rfl⟩ := r10.shape
 refine enter (args := [.agg #[I a.Table.Level, sl a1 a.Table.Vars c, sl a6 a.Table.Where c7, I a.Table.Sum, sl a12 a.Cells c13]]) 13 Try.func32 rfl rfl rfl ?_
 refine W_forget [(0, .agg #[I a.Table.Level, sl a1 a.Table.Vars c, sl a6 a.Table.Where c7, I a.Table.Sum, sl a12 a.Cells c13])] ⟨rfl, trivial⟩ fun ρ => ?_
 have X := But.refl emp w
 refine W_seq ?_
 refine W_region ?_
 refine LP_box 0 (cs := [I a.Table.Level, sl a1 a.Table.Vars c, sl a6 a.Table.Where c7, I a.Table.Sum, sl a12 a.Cells c13]) rfl rfl rfl rfl rfl fun b wx x ex14 f => ?_
 refine LP_alloc 1 rfl rfl rfl ti_69 rfl fun b15 wx16 x17 ex18 f19 => ?_
 refine LP_end _ rfl ?_
 refine W_seq ?_
 refine W_region ?_
 refine LP_alloc 0 rfl rfl rfl ti_69 rfl fun b20 wx21 x22 ex23 f24 => ?_
 refine LP_end _ rfl ?_
 refine W_seq ?_
 refine W_region ?_
 refine LP_ev ok 0 [(4, pb b)] 1 rfl rfl ?_
 have ex25 := ((ex14.ext x17).ext x22)
 refine LP_ldbox 1 (v := .agg #[I a.Table.Level, sl a1 a.Table.Vars c, sl a6 a.Table.Where c7, I a.Table.Sum]) rfl rfl rfl ti_46 ag_46 (fun h => by cases h) rfl ex25 rfl rfl ?_
 have ex27 := (((ex.ext x).ext x17).ext x22)
 have ex28 := (((ex5.ext x).ext x17).ext x22)
 refine LP_call 2 rfl rfl rfl cal_21 rfl (laws_toTable_w _ _ H wx21 r ex27 r4 ex28) ?_
 rintro _ wx29 ⟨r26, vx31, hx32, vx35, hx36, H, rfl, x30, HF⟩
 revert HF
 refine bb7 fun o ex33 f34 o37 ex38 f39 d => ?_
 obtain ⟨a40, c41, rfl⟩ := o.shape
 obtain ⟨a42, c43, rfl⟩ := o37.shape
 refine LP_ev ok 3 [(7, pb b20)] 4 rfl rfl ?_
 have ex46 := (ex23.ext x30)
 refine LP_stbox 4 (vs := [I r26.Level, sl a40 r26.Vars c41, sl a42 r26.Where c43, I r26.Sum]) (cs' := [I r26.Level, sl a40 r26.Vars c41, sl a42 r26.Where c43, I r26.Sum, .slice none 0 0]) rfl rfl rfl ti_50 rfl rfl rfl rfl rfl ex46 rfl rfl fun wx44 ex45 y => ?_
 refine LP_end _ rfl ?_
 refine W_seq ?_
 refine W_region ?_
 refine LP_ev ok 0 [(8, .pointer (some ⟨b, 4, none⟩))] 1 rfl rfl ?_
 have ex47 := (ex14.ext x17)
 have ex48 := ((ex25.ext x30).but y (Dj.of_fresh ex47 f24).symm)
 refine LP_ldbox 1 (v := sl a12 a.Cells c13) rfl rfl rfl ti_22 ag_22 (fun _ => rfl) rfl ex48 rfl rfl ?_
 have ex50 := ((ex11.ext x).ext x17)
 have ex51 := (((((ex11.ext x).ext x17).ext x22).ext x30).but y (Dj.of_fresh ex50 f24).symm)
 refine LP_call 2 rfl rfl rfl cal_30 rfl (laws_toIntS_w _ _ H wx44 r10 ex51) ?_
 rintro _ wx52 ⟨r49, vx54, hx55, H, rfl, x53, o56, ex57, f58⟩
 obtain ⟨a59, c60, rfl⟩ := o56.shape
 refine LP_ev ok 3 [(11, .pointer (some ⟨b20, 4, none⟩))] 4 rfl rfl ?_
 have ex64 := (ex45.ext x53)
 refine LP_stbox 4 (vs := [sl a59 r49 c60]) (cs' := [I r26.Level, sl a40 r26.Vars c41, sl a42 r26.Where c43, I r26.Sum, sl a59 r49 c60]) rfl rfl rfl ti_22 rfl rfl rfl rfl rfl ex64 rfl rfl fun wx61 ex62 y63 => ?_
 refine LP_end _ rfl ?_
 refine W_seq ?_
 refine W_region ?_
 refine LP_ldbox 0 (v := .agg #[I r26.Level, sl a40 r26.Vars c41, sl a42 r26.Where c43, I r26.Sum, sl a59 r49 c60]) rfl rfl rfl ti_69 ag_69 (fun h => by cases h) rfl ex62 rfl rfl ?_
 have ex68 := (((((ex18.ext x22).ext x30).but y (Dj.of_fresh ex18 f24).symm).ext x53).but y63 (Dj.box (Dj.of_fresh ex18 f24).symm))
 refine LP_stbox 1 (vs := [I r26.Level, sl a40 r26.Vars c41, sl a42 r26.Where c43, I r26.Sum, sl a59 r49 c60]) (cs' := [I r26.Level, sl a40 r26.Vars c41, sl a42 r26.Where c43, I r26.Sum, sl a59 r49 c60]) rfl rfl rfl ti_69 rfl rfl rfl rfl rfl ex68 rfl rfl fun wx65 ex66 y67 => ?_
 refine LP_end _ rfl ?_
 refine W_ret ?_
 have ex69 := (ex18.ext x22)
 have ex70 := ((((ex33.but y (Dj.of_fresh ex23 f34)).ext x53).but y63 (Dj.box (Dj.of_fresh ex23 f34))).but y67 (Dj.of_fresh ex69 f34))
 have X72 := (((X.stepx x).stepx x17).stepx x22)
 have f71 := f34.mono X72.size
 have ex73 := ((((ex38.but y (Dj.of_fresh ex23 f39)).ext x53).but y63 (Dj.box (Dj.of_fresh ex23 f39))).but y67 (Dj.of_fresh ex69 f39))
 have f74 := f39.mono X72.size
 have ex75 := ((ex69.ext x30).but y (Dj.of_fresh ex18 f24).symm)
 have ex76 := ((ex57.but y63 (Dj.of_fresh ex45 f58)).but y67 (Dj.of_fresh ex75 f58))
 have X79 := ((X.stepx x).stepx x17)
 have f78 := f24.mono X79.size
 have X80 := ((X72.stepx x30).step y (f78.dom _))
 have f77 := f58.mono X80.size
 have ex81 := (ex33.but y (Dj.of_fresh ex23 f34))
 have ex82 := (ex38.but y (Dj.of_fresh ex23 f39))
 have X84 := (X.stepx x)
 have f83 := f19.mono X84.size
 have X85 := (((X80.stepx x53).step y63 ((Fresh.box f78).dom _)).step y67 (f83.dom _))
 exact ⟨_, Ret_of [.agg #[I r26.Level, sl a40 r26.Vars c41, sl a42 r26.Where c43, I r26.Sum, sl a59 r49 c60]] ⟨⟨_, rfl, rfl, ld_res ti_69 ag_69 (fun h => by cases h) ex66 rfl rfl⟩, trivial⟩, _, _, _, _, _, _, _, H, rfl, X85.ext, o, ex70, f71, o37, ex73, f74, o56, ex76, f77, d, (Dj.of_fresh ex81 f58), (Dj.of_fresh ex82 f58)⟩

theorem laws_toPublishedS_w (a : List Published) (Q : (List Published) → Prop) (H : laws_toPublishedS a Q) (w : World) {vx : Value} {hx : PH} (r : RS hx vx a) (ex : Sub hx w) :
  CallsTo Try.prog 12 #[vx] w fun v w' => ∃ r0 u0 g0, Q r0 ∧ v = u0 ∧ Ext w w' ∧ OD g0 u0 r0 ∧ Sub g0 w' ∧ Fresh w.heap.size g0 := by
 obtain ⟨a1, c, rfl⟩ := r.shape
 refine enter (args := [sl a1 a c]) 23 Try.func12 rfl rfl rfl ?_
 refine W_forget [(0, sl a1 a c)] ⟨rfl, trivial⟩ fun ρ => ?_
 have X := But.refl emp w
 refine W_seq ?_
 refine W_region ?_
 refine LP_ev ok 0 [(2, .slice none 0 0)] 1 rfl rfl ?_
 refine LP_end _ rfl ?_
 refine W_seq ?_
 refine W_region ?_
 refine LP_ev ok 0 [(5, sl a1 a c), (6, I (ln a))] 2 rfl rfl ?_
 obtain ⟨hn, hb, H⟩ := H
 refine LP_makeD (α := Published) 2 rfl rfl rfl Try.underlying36 ti_69 (x0 := (Published.mk ((Table.mk ((0 : Int)) (([] : List Int)) (([] : List Int)) ((0 : Int)))) (([] : List Int)))) rfl ⟨_, _, emp, emp, rfl, (un_emp emp).symm, Dj.emp_l _, ⟨_, _, emp, emp, rfl, (un_emp emp).symm, Dj.emp_l _, ⟨rfl, rfl⟩, ⟨_, _, emp, emp, rfl, (un_emp emp).symm, Dj.emp_l _, ⟨_, rfl, OD.nil⟩, ⟨_, _, emp, emp, rfl, (un_emp emp).symm, Dj.emp_l _, ⟨_, rfl, OD.nil⟩, ⟨rfl, rfl⟩⟩⟩⟩, ⟨_, rfl, OD.nil⟩⟩ hn (by first | omega | (simp only [ln] at *; omega)) (by first | omega | (simp only [ln] at *; omega)) fun hx2 vx3 wx x o ex4 f => ?_
 obtain ⟨a5, c6, rfl⟩ := o.shape
 refine LP_ev ok 3 [(3, .slice a5 (List.length (List.replicate (Int.toNat (ln a)) ((Published.mk ((Table.mk ((0 : Int)) (([] : List Int)) (([] : List Int)) ((0 : Int)))) (([] : List Int)))))) c6)] 4 rfl rfl ?_
 refine LP_end _ rfl ?_
 refine W_seq ?_
 refine W_seq ?_
 refine W_region ?_
 refine LP_ev ok 0 [(4, I 0)] 1 rfl rfl ?_
 refine LP_end _ rfl ?_
 refine W_block ?_
 have X15 := (X.stepx x)
 have f16 := f.mono X.size
 have ex17 := (ex.ext x)
 obtain ⟨J, m, Hx, H⟩ := H
 refine W_loop (S := (List Published) × Int) (fun s ρ' w' => J s.1 s.2 ∧ ∃ (ρ : Env) (hx8 : PH), ρ' = setAll [(0, sl a1 a c), (3, .slice a5 (List.length (List.replicate (Int.toNat (ln a)) ((Published.mk ((Table.mk ((0 : Int)) (([] : List Int)) (([] : List Int)) ((0 : Int)))) (([] : List Int)))))) c6), (4, I s.2)] ρ ∧ But emp w w' ∧ OD hx8 (.slice a5 (List.length (List.replicate (Int.toNat (ln a)) ((Published.mk ((Table.mk ((0 : Int)) (([] : List Int)) (([] : List Int)) ((0 : Int)))) (([] : List Int)))))) c6) s.1 ∧ Sub hx8 w' ∧ Fresh w.heap.size hx8 ∧ Sub hx w' ∧ Dj hx8 hx) (fun s => m s.1 s.2) (List.replicate (Int.toNat (ln a)) ((Published.mk ((Table.mk ((0 : Int)) (([] : List Int)) (([] : List Int)) ((0 : Int)))) (([] : List Int)))), 0) ⟨Hx, _, hx2, env_eq ⟨rfl, rfl, rfl, trivial⟩, X15, o, ex4, f16, ex17, (Dj.of_fresh ex f).symm⟩ ?_
 rintro ⟨out, i⟩ _ wx12 ⟨Hi, ρ, hx8, rfl, HF⟩
 revert HF
 refine bb6 fun X14 o9 ex10 f11 ex13 d => ?_
 have H := H out i Hi
 refine W_seq ?_
 refine W_seq ?_
 refine W_region ?_
 refine LP_ev ok 0 [(8, I i), (9, sl a1 a c), (10, I (ln a)), (11, .bool (decide (i < (ln a))))] 4 rfl rfl ?_
 refine LP_end _ rfl ?_
 refine W_cond (decide (i < (ln a))) rfl (fun hc => ?_) (fun hc => ?_)
 ·have H := H.1 hc
  refine W_skip ?_
  refine W_seq ?_
  refine W_block ?_
  refine W_region ?_
  refine LP_ev ok 0 [(14, .slice a5 (List.length (List.replicate (Int.toNat (ln a)) ((Published.mk ((Table.mk ((0 : Int)) (([] : List Int)) (([] : List Int)) ((0 : Int)))) (([] : List Int)))))) c6), (15, I i), (16, sl a1 a c), (17, I i)] 4 rfl rfl ?_
  obtain ⟨x18, hi, hx19, H⟩ := H
  refine LP_index 4 rfl rfl rfl Try.underlying26 ti_60 rfl rfl r hi hx19 fun a20 cs r21 d22 => ?_
  have d23 := d22
  obtain ⟨u, u25, u27, rfl, r24, r26, r28⟩ := Published_rd d23
  obtain ⟨a29, c30, rfl⟩ := r24.shape
  obtain ⟨a31, c32, rfl⟩ := r26.shape
  obtain ⟨a33, c34, rfl⟩ := r28.shape
  refine LP_load 5 rfl rfl rfl ti_60 ag_60 rfl r21 d22 ex13 fun vx35 r36 => ?_
  obtain ⟨u37, u39, u41, rfl, r38, r40, r42⟩ := Published_rv r36
  obtain ⟨a43, c44, rfl⟩ := r38.shape
  obtain ⟨a45, c46, rfl⟩ := r40.shape
  obtain ⟨a47, c48, rfl⟩ := r42.shape
  refine LP_call 6 rfl rfl rfl cal_32 rfl (laws_toPublished_w _ _ H wx12 r38 ex13 r40 ex13 r42 ex13) ?_
  rintro _ wx50 ⟨r49, vx52, hx53, vx57, hx58, vx62, hx63, H, rfl, x51, HF⟩
  revert HF
  refine bb9 fun o54 ex55 f56 o59 ex60 f61 o64 ex65 => ?_
  refine bb4 fun f66 d67 d68 d69 => ?_
  obtain ⟨a70, c71, rfl⟩ := o54.shape
  obtain ⟨a72, c73, rfl⟩ := o59.shape
  obtain ⟨a74, c75, rfl⟩ := o64.shape
  obtain ⟨hi76, hl, H⟩ := H
  refine LP_indexd (v := .slice a5 (List.length (List.replicate (Int.toNat (ln a)) ((Published.mk ((Table.mk ((0 : Int)) (([] : List Int)) (([] : List Int)) ((0 : Int)))) (([] : List Int)))))) c6) 7 rfl rfl rfl Try.underlying36 ti_69 rfl rfl o9 hi76 hl fun a77 wa => ?_
  have rv : RVO (un (un emp (un hx53 (un hx58 emp))) hx63) (.agg #[I r49.Table.Level, sl a70 r49.Table.Vars c71, sl a72 r49.Table.Where c73, I r49.Table.Sum, sl a74 r49.Cells c75]) ((Published.mk ((Table.mk r49.Table.Level r49.Table.Vars r49.Table.Where r49.Table.Sum)) r49.Cells) : Published) := ⟨_, ⟨_, _, _, _, rfl, rfl, (Dj.un_l (Dj.emp_l _) (Dj.un_l d68 (Dj.un_l d69 (Dj.emp_l _)))), ⟨_, _, _, _, rfl, rfl, (Dj.emp_l _), ⟨rfl, rfl⟩, ⟨_, _, _, _, rfl, rfl, (Dj.un_r d67 (Dj.emp_r _)), ⟨_, rfl, (OS.od o54)⟩, ⟨_, _, _, _, rfl, rfl, (Dj.emp_r _), ⟨_, rfl, (OS.od o59)⟩, ⟨rfl, rfl⟩⟩⟩⟩, ⟨_, rfl, (OS.od o64)⟩⟩, rfl⟩
  have ex83 := (ex10.ext x51)
  refine LP_setD (y := ((Published.mk ((Table.mk r49.Table.Level r49.Table.Vars r49.Table.Where r49.Table.Sum)) r49.Cells) : Published)) 8 rfl rfl rfl rfl rfl wa rv ex83 (Sub.un (Sub.un (emp_sub _) (Sub.un ex55 (Sub.un ex60 (emp_sub _)))) ex65) (Dj.un_r (Dj.un_r (Dj.emp_r _) (Dj.un_r (Dj.of_fresh ex10 f56) (Dj.un_r (Dj.of_fresh ex10 f61) (Dj.emp_r _)))) (Dj.of_fresh ex10 f66)) fun hx78 hw wx79 o80 ex81 y dh dq ex82 => ?_
  refine LP_end _ rfl ?_
  refine W_region ?_
  refine LP_ev ok 0 [(12, I i), (13, I (wr (i + 1))), (4, I (wr (i + 1)))] 3 rfl rfl ?_
  refine LP_end _ rfl ?_
  have X84 := ((X14.stepx x51).step (But.dom y dh) (f11.dom _))
  have f85 := f56.mono X14.size
  have f86 := f61.mono X14.size
  have f87 := f66.mono X14.size
  have f88 := Fresh.domOf (Fresh.un f11 (Fresh.un (Fresh.un (emp_fresh _) (Fresh.un f85 (Fresh.un f86 (emp_fresh _)))) f87)) dq
  have ex89 := ((ex13.ext x51).but (But.dom y dh) d)
  exact ⟨(List.set out (Int.toNat i) (((Published.mk ((Table.mk r49.Table.Level r49.Table.Vars r49.Table.Where r49.Table.Sum)) r49.Cells) : Published)), wr (i + 1)), ⟨H.1, _, hx78, env_eq ⟨rfl, rfl, rfl, trivial⟩, X84, o80, ex81, f88, ex89, (Dom.dj dq (Dj.un_l d (Dj.un_l (Dj.un_l (Dj.emp_l _) (Dj.un_l (Dj.of_fresh ex13 f56).symm (Dj.un_l (Dj.of_fresh ex13 f61).symm (Dj.emp_l _)))) (Dj.of_fresh ex13 f66).symm)))⟩, H.2⟩
 have H := H.2 hc
 refine W_exit ?_
 refine (if_pos rfl).mpr ?_
 refine W_seq ?_
 refine W_region ?_
 refine LP_ev ok 0 [(22, .slice a5 (List.length (List.replicate (Int.toNat (ln a)) ((Published.mk ((Table.mk ((0 : Int)) (([] : List Int)) (([] : List Int)) ((0 : Int)))) (([] : List Int)))))) c6), (2, .slice a5 (List.length (List.replicate (Int.toNat (ln a)) ((Published.mk ((Table.mk ((0 : Int)) (([] : List Int)) (([] : List Int)) ((0 : Int)))) (([] : List Int)))))) c6)] 2 rfl rfl ?_
 refine LP_end _ rfl ?_
 refine W_ret ?_
 exact ⟨_, Ret_of [.slice a5 (List.length (List.replicate (Int.toNat (ln a)) ((Published.mk ((Table.mk ((0 : Int)) (([] : List Int)) (([] : List Int)) ((0 : Int)))) (([] : List Int)))))) c6] ⟨⟨rfl, rfl⟩, trivial⟩, _, _, _, H, rfl, X14.ext, o9, ex10, f11⟩

theorem spec_l1In_w (n : Int) (lo : Int) (hi : Int) (Q : Bool → Prop) (H : spec_l1In n lo hi Q) (w : World)  :
  CallsTo Try.prog 28 #[I n, I lo, I hi] w fun v w' => ∃ r0, Q r0 ∧ v = .bool r0 ∧ Ext w w' := by
 refine enter (args := [I n, I lo, I hi]) 15 Try.func28 rfl rfl rfl ?_
 refine W_forget [(0, I n), (1, I lo), (2, I hi)] ⟨rfl, rfl, rfl, trivial⟩ fun ρ => ?_
 have X := But.refl emp w
 refine W_seq ?_
 refine W_region ?_
 refine LP_ev ok 0 [(6, .bool false)] 1 rfl rfl ?_
 refine LP_end _ rfl ?_
 obtain ⟨k, hk, H⟩ := jn_elim H
 refine W_join2 (S := Bool) (fun s ρ' w' => k s ∧ ∃ (ρ : Env), ρ' = setAll [(6, .bool s)] ρ ∧ w = w') ?_ ?_
 ·refine W_region ?_
  refine LP_ev ok 0 [(7, I n), (8, I lo), (9, .bool (decide (n ≥ lo))), (10, .bool (decide (n ≥ lo)))] 4 rfl rfl ?_
  refine LP_split 10 (decide (n ≥ lo)) rfl (fun hc => ?_) (fun hc => ?_)
  ·have H := H.1 hc
   refine LP_ev ok 4 [(11, I n), (12, I hi), (13, .bool (decide (n ≤ hi))), (14, .bool (decide (n ≤ hi))), (6, .bool (decide (n ≤ hi)))] 9 rfl rfl ?_
   refine LP_end _ rfl ?_
   exact ⟨decide (n ≤ hi), H, _, env_eq ⟨rfl, trivial⟩, rfl⟩
  have H := H.2 hc
  refine LP_ev ok 4 [(11, undef), (12, undef), (13, undef), (14, .bool false), (6, .bool false)] 9 rfl rfl ?_
  refine LP_end _ rfl ?_
  exact ⟨false, H, _, env_eq ⟨rfl, trivial⟩, rfl⟩
 rintro x _ _ ⟨H, ρ, rfl, rfl⟩
 subst hk
 refine W_ret ?_
 exact ⟨_, Ret_of [.bool x] ⟨⟨rfl, rfl⟩, trivial⟩, _, H, rfl, X.ext⟩

theorem spec_gGood_w (g : Geo) (Q : Bool → Prop) (H : spec_gGood g Q) (w : World) {vx : Value} {hx : PH} (r : RS hx vx g.Parents) (ex : Sub hx w) :
  CallsTo Try.prog 66 #[.agg #[vx]] w fun v w' => ∃ r0, Q r0 ∧ v = .bool r0 ∧ Ext w w' := by
 obtain ⟨a, c, rfl⟩ := r.shape
 refine enter (args := [.agg #[sl a g.Parents c]]) 35 Try.func66 rfl rfl rfl ?_
 refine W_forget [(0, .agg #[sl a g.Parents c])] ⟨rfl, trivial⟩ fun ρ => ?_
 have X := But.refl emp w
 refine W_seq ?_
 refine W_region ?_
 refine LP_box 0 (cs := [sl a g.Parents c]) rfl rfl rfl rfl rfl fun b wx x ex1 f => ?_
 refine LP_ev ok 1 [(2, .bool false)] 2 rfl rfl ?_
 refine LP_end _ rfl ?_
 refine W_seq ?_
 obtain ⟨k, hk, H⟩ := jn_elim H
 refine W_join2 (S := Bool) (fun s ρ' w' => k s ∧ ∃ (ρ : Env), ρ' = setAll [(1, pb b), (16, .bool s)] ρ ∧ But emp w w' ∧ Sub hx w' ∧ Sub (bx b 32 [sl a g.Parents c]) w') ?_ ?_
 ·refine W_region ?_
  refine LP_ev ok 0 [(5, pb b)] 1 rfl rfl ?_
  refine LP_ldbox 1 (v := sl a g.Parents c) rfl rfl rfl ti_22 ag_22 (fun _ => rfl) rfl ex1 rfl rfl ?_
  refine LP_ev ok 2 [(7, I (ln g.Parents))] 3 rfl rfl ?_
  refine LP_call 3 rfl rfl rfl cal_28 rfl (spec_l1In_w _ _ _ _ H wx ) ?_
  rintro _ wx8 ⟨r7, H, rfl, x9⟩
  refine LP_ev ok 4 [(9, .bool (!r7)), (10, .bool (!r7))] 6 rfl rfl ?_
  refine LP_split 10 (!r7) rfl (fun hc => ?_) (fun hc => ?_)
  ·have H := H.1 hc
   refine LP_ev ok 6 [(11, undef), (12, undef), (13, undef), (14, undef), (15, undef), (16, .bool true)] 12 rfl rfl ?_
   refine LP_end _ rfl ?_
   have X10 := ((X.stepx x).stepx x9)
   have ex11 := ((ex.ext x).ext x9)
   have ex12 := (ex1.ext x9)
   exact ⟨true, H, _, env_eq ⟨rfl, rfl, trivial⟩, X10, ex11, ex12⟩
  have H := H.2 hc
  refine LP_ev ok 6 [(11, pb b)] 7 rfl rfl ?_
  have ex13 := (ex1.ext x9)
  refine LP_ldbox 7 (v := sl a g.Parents c) rfl rfl rfl ti_22 ag_22 (fun _ => rfl) rfl ex13 rfl rfl ?_
  obtain ⟨x14, hi, hx15, H⟩ := H
  refine LP_index 8 rfl rfl rfl Try.underlying22 ti_3 rfl rfl r hi hx15 fun a16 cs r17 d => ?_
  have ex18 := ((ex.ext x).ext x9)
  refine LP_load 9 rfl rfl rfl ti_3 ag_3 rfl r17 d ex18 fun vx19 r20 => ?_
  obtain rfl := r20.int
  refine LP_ev ok 10 [(15, .bool (x14 != ((-1)))), (16, .bool (x14 != ((-1))))] 12 rfl rfl ?_
  refine LP_end _ rfl ?_
  have X21 := ((X.stepx x).stepx x9)
  exact ⟨x14 != ((-1)), H, _, env_eq ⟨rfl, rfl, trivial⟩, X21, ex18, ex13⟩
 rintro x2 _ wx3 ⟨H, ρ, rfl, X6, ex4, ex5⟩
 subst hk
 refine W_cond (x2) rfl (fun hc22 => ?_) (fun hc22 => ?_)
 ·have H := H.1 hc22
  refine W_seq ?_
  refine W_region ?_
  refine LP_ev ok 0 [(2, .bool false)] 1 rfl rfl ?_
  refine LP_end _ rfl ?_
  refine W_ret ?_
  exact ⟨_, Ret_of [.bool false] ⟨⟨rfl, rfl⟩, trivial⟩, _, H, rfl, X6.ext⟩
 have H := H.2 hc22
 refine W_skip ?_
 refine W_seq ?_
 refine W_seq ?_
 refine W_region ?_
 refine LP_ev ok 0 [(17, pb b)] 1 rfl rfl ?_
 refine LP_ldbox 1 (v := sl a g.Parents c) rfl rfl rfl ti_22 ag_22 (fun _ => rfl) rfl ex5 rfl rfl ?_
 refine LP_ev ok 2 [(19, I (ln g.Parents)), (20, I 0)] 4 rfl rfl ?_
 refine LP_end _ rfl ?_
 refine W_block ?_
 obtain ⟨J, m, Hx, H⟩ := H
 refine W_loop (S := Int) (fun s ρ' w' => J s ∧ ∃ (ρ : Env), ρ' = setAll [(18, sl a g.Parents c), (19, I (ln g.Parents)), (20, I s)] ρ ∧ But emp w w' ∧ Sub hx w') (fun s => m s) 0 ⟨Hx, _, env_eq ⟨rfl, rfl, rfl, trivial⟩, X6, ex4⟩ ?_
 rintro x23 _ wx24 ⟨Hi, ρ, rfl, X26, ex25⟩
 have H := H x23 Hi
 refine W_seq ?_
 refine W_region ?_
 refine LP_ev ok 0 [(21, .bool (decide (x23 < (ln g.Parents))))] 1 rfl rfl ?_
 refine LP_end _ rfl ?_
 refine W_seq ?_
 refine W_cond (decide (x23 < (ln g.Parents))) rfl (fun hc27 => ?_) (fun hc27 => ?_)
 ·have H := H.1 hc27
  refine W_skip ?_
  refine W_seq ?_
  refine W_block ?_
  refine W_seq ?_
  refine W_region ?_
  refine LP_ev ok 0 [(22, I x23)] 1 rfl rfl ?_
  obtain ⟨x28, hi29, hx30, H⟩ := H
  refine LP_index 1 rfl rfl rfl Try.underlying22 ti_3 rfl rfl r hi29 hx30 fun a31 cs32 r33 d34 => ?_
  refine LP_load 2 rfl rfl rfl ti_3 ag_3 rfl r33 d34 ex25 fun vx35 r36 => ?_
  obtain rfl := r36.int
  refine LP_ev ok 3 [(3, I x23), (4, I x28)] 5 rfl rfl ?_
  refine LP_end _ rfl ?_
  obtain ⟨k41, hk42, H⟩ := jn_elim H
  refine W_join2 (S := Bool) (fun s ρ' w' => k41 s ∧ ∃ (ρ : Env), ρ' = setAll [(18, sl a g.Parents c), (19, I (ln g.Parents)), (20, I x23), (33, .bool s)] ρ ∧ But emp w w' ∧ Sub hx w') ?_ ?_
  ·refine W_region ?_
   refine LP_ev ok 0 [(25, I x23), (26, .bool (decide (x23 > 0))), (27, .bool (decide (x23 > 0)))] 3 rfl rfl ?_
   refine LP_split 27 (decide (x23 > 0)) rfl (fun hc43 => ?_) (fun hc43 => ?_)
   ·have H := H.1 hc43
    refine LP_ev ok 3 [(28, I x28), (29, I x23), (30, I (wr (x23 - 1)))] 6 rfl rfl ?_
    refine LP_call 6 rfl rfl rfl cal_28 rfl (spec_l1In_w _ _ _ _ H wx24 ) ?_
    rintro _ wx45 ⟨r44, H, rfl, x46⟩
    refine LP_ev ok 7 [(32, .bool (!r44)), (33, .bool (!r44))] 9 rfl rfl ?_
    refine LP_end _ rfl ?_
    have X47 := (X26.stepx x46)
    have ex48 := (ex25.ext x46)
    exact ⟨!r44, H, _, env_eq ⟨rfl, rfl, rfl, rfl, trivial⟩, X47, ex48⟩
   have H := H.2 hc43
   refine LP_ev ok 3 [(28, undef), (29, undef), (30, undef), (31, undef), (32, undef), (33, .bool false)] 9 rfl rfl ?_
   refine LP_end _ rfl ?_
   exact ⟨false, H, _, env_eq ⟨rfl, rfl, rfl, rfl, trivial⟩, X26, ex25⟩
  rintro x37 _ wx38 ⟨H, ρ, rfl, X40, ex39⟩
  subst hk42
  refine W_cond (x37) rfl (fun hc49 => ?_) (fun hc49 => ?_)
  ·have H := H.1 hc49
   refine W_seq ?_
   refine W_region ?_
   refine LP_ev ok 0 [(2, .bool false)] 1 rfl rfl ?_
   refine LP_end _ rfl ?_
   refine W_ret ?_
   exact ⟨_, Ret_of [.bool false] ⟨⟨rfl, rfl⟩, trivial⟩, _, H, rfl, X40.ext⟩
  have H := H.2 hc49
  refine W_skip ?_
  refine W_region ?_
  refine LP_ev ok 0 [(34, I (wr (x23 + 1))), (20, I (wr (x23 + 1)))] 2 rfl rfl ?_
  refine LP_end _ rfl ?_
  exact ⟨wr (x23 + 1), ⟨H.1, _, env_eq ⟨rfl, rfl, rfl, trivial⟩, X40, ex39⟩, H.2⟩
 have H := H.2 hc27
 refine W_exit ?_
 refine (if_pos rfl).mpr ?_
 refine W_seq ?_
 refine W_region ?_
 refine LP_ev ok 0 [(2, .bool true)] 1 rfl rfl ?_
 refine LP_end _ rfl ?_
 refine W_ret ?_
 exact ⟨_, Ret_of [.bool true] ⟨⟨rfl, rfl⟩, trivial⟩, _, H, rfl, X26.ext⟩

theorem spec_sName_w (sx : ByteArray) (Q : Bool → Prop) (H : spec_sName sx Q) (w : World)  :
  CallsTo Try.prog 97 #[.string sx] w fun v w' => ∃ r0, Q r0 ∧ v = .bool r0 ∧ Ext w w' := by
 refine enter (args := [.string sx]) 23 Try.func97 rfl rfl rfl ?_
 refine W_forget [(0, .string sx)] ⟨rfl, trivial⟩ fun ρ => ?_
 have X := But.refl emp w
 refine W_seq ?_
 refine W_region ?_
 refine LP_ev ok 0 [(2, .bool false)] 1 rfl rfl ?_
 refine LP_end _ rfl ?_
 refine W_seq ?_
 refine W_seq ?_
 refine W_region ?_
 refine LP_ev ok 0 [(3, I 0)] 1 rfl rfl ?_
 refine LP_end _ rfl ?_
 refine W_block ?_
 obtain ⟨J, m, Hx, H⟩ := H
 refine W_loop (S := Int) (fun s ρ' w' => J s ∧ ∃ (ρ : Env), ρ' = setAll [(0, .string sx), (3, I s)] ρ ∧ w = w') (fun s => m s) 0 ⟨Hx, _, env_eq ⟨rfl, rfl, trivial⟩, rfl⟩ ?_
 rintro i _ _ ⟨Hi, ρ, rfl, rfl⟩
 have H := H i Hi
 refine W_seq ?_
 refine W_seq ?_
 refine W_region ?_
 refine LP_ev ok 0 [(4, I i), (5, .string sx), (6, I (sln sx)), (7, .bool (decide (i < (sln sx))))] 4 rfl rfl ?_
 refine LP_end _ rfl ?_
 refine W_cond (decide (i < (sln sx))) rfl (fun hc => ?_) (fun hc => ?_)
 ·have H := H.1 hc
  refine W_skip ?_
  refine W_seq ?_
  refine W_block ?_
  obtain ⟨k, hk, H⟩ := jn_elim H
  refine W_join2 (S := Bool) (fun s ρ' w' => k s ∧ ∃ (ρ : Env), ρ' = setAll [(0, .string sx), (3, I i), (19, .bool s)] ρ ∧ w = w') ?_ ?_
  ·refine W_region ?_
   refine LP_ev ok 0 [(10, .string sx), (11, I i)] 2 rfl rfl ?_
   obtain ⟨c, hi, hx, H⟩ := H
   refine LP_val 2 _ rfl rfl (ex_sidx rfl rfl rfl Try.underlying9 hi hx _) ?_
   refine LP_ev ok 3 [(13, .bool (decide ((((UInt8.toNat c : Nat) : Int)) < 97))), (14, .bool (decide ((((UInt8.toNat c : Nat) : Int)) < 97)))] 5 rfl rfl ?_
   refine LP_split 14 (decide ((((UInt8.toNat c : Nat) : Int)) < 97)) rfl (fun hc2 => ?_) (fun hc2 => ?_)
   ·have H := H.1 hc2
    refine LP_ev ok 5 [(15, undef), (16, undef), (17, undef), (18, undef), (19, .bool true)] 10 rfl rfl ?_
    refine LP_end _ rfl ?_
    exact ⟨true, H, _, env_eq ⟨rfl, rfl, rfl, trivial⟩, rfl⟩
   have H := H.2 hc2
   refine LP_ev ok 5 [(15, .string sx), (16, I i)] 7 rfl rfl ?_
   obtain ⟨c3, hi4, hx5, H⟩ := H
   refine LP_val 7 _ rfl rfl (ex_sidx rfl rfl rfl Try.underlying9 hi4 hx5 _) ?_
   refine LP_ev ok 8 [(18, .bool (decide ((((UInt8.toNat c3 : Nat) : Int)) > 122))), (19, .bool (decide ((((UInt8.toNat c3 : Nat) : Int)) > 122)))] 10 rfl rfl ?_
   refine LP_end _ rfl ?_
   exact ⟨decide ((((UInt8.toNat c3 : Nat) : Int)) > 122), H, _, env_eq ⟨rfl, rfl, rfl, trivial⟩, rfl⟩
  rintro x _ _ ⟨H, ρ, rfl, rfl⟩
  subst hk
  refine W_cond (x) rfl (fun hc6 => ?_) (fun hc6 => ?_)
  ·have H := H.1 hc6
   refine W_seq ?_
   refine W_region ?_
   refine LP_ev ok 0 [(2, .bool false)] 1 rfl rfl ?_
   refine LP_end _ rfl ?_
   refine W_ret ?_
   exact ⟨_, Ret_of [.bool false] ⟨⟨rfl, rfl⟩, trivial⟩, _, H, rfl, X.ext⟩
  have H := H.2 hc6
  refine W_skip ?_
  refine W_region ?_
  refine LP_ev ok 0 [(8, I i), (9, I (wr (i + 1))), (3, I (wr (i + 1)))] 3 rfl rfl ?_
  refine LP_end _ rfl ?_
  exact ⟨wr (i + 1), ⟨H.1, _, env_eq ⟨rfl, rfl, trivial⟩, rfl⟩, H.2⟩
 have H := H.2 hc
 refine W_exit ?_
 refine (if_pos rfl).mpr ?_
 refine W_seq ?_
 refine W_region ?_
 refine LP_ev ok 0 [(20, .string sx), (21, I (sln sx))] 2 rfl rfl ?_
 refine LP_call 2 rfl rfl rfl cal_28 rfl (spec_l1In_w _ _ _ _ H w ) ?_
 rintro _ wx7 ⟨r, H, rfl, x8⟩
 refine LP_ev ok 3 [(2, .bool r)] 4 rfl rfl ?_
 refine LP_end _ rfl ?_
 refine W_ret ?_
 have X9 := (X.stepx x8)
 exact ⟨_, Ret_of [.bool r] ⟨⟨rfl, rfl⟩, trivial⟩, _, H, rfl, X9.ext⟩

theorem spec_sFind_w (sx : List Variable) (name : ByteArray) (Q : Int → Prop) (H : spec_sFind sx name Q) (w : World) {vx : Value} {hx : PH} (r : RS hx vx sx) (ex : Sub hx w) :
  CallsTo Try.prog 98 #[vx, .string name] w fun v w' => ∃ r0, Q r0 ∧ v = I r0 ∧ Ext w w' := by
 obtain ⟨a, c, rfl⟩ := r.shape
 refine enter (args := [sl a sx c, .string name]) 20 Try.func98 rfl rfl rfl ?_
 refine W_forget [(0, sl a sx c), (1, .string name)] ⟨rfl, rfl, trivial⟩ fun ρ => ?_
 have X := But.refl emp w
 refine W_seq ?_
 refine W_region ?_
 refine LP_ev ok 0 [(4, I 0)] 1 rfl rfl ?_
 refine LP_end _ rfl ?_
 refine W_seq ?_
 refine W_seq ?_
 refine W_region ?_
 refine LP_ev ok 0 [(7, sl a sx c), (8, I (ln sx)), (9, I 0)] 3 rfl rfl ?_
 refine LP_end _ rfl ?_
 refine W_block ?_
 obtain ⟨J, m, Hx, H⟩ := H
 refine W_loop (S := Int) (fun s ρ' w' => J s ∧ ∃ (ρ : Env), ρ' = setAll [(1, .string name), (7, sl a sx c), (8, I (ln sx)), (9, I s)] ρ ∧ But emp w w' ∧ Sub hx w') (fun s => m s) 0 ⟨Hx, _, env_eq ⟨rfl, rfl, rfl, rfl, trivial⟩, X, ex⟩ ?_
 rintro x _ wx ⟨Hi, ρ, rfl, X2, ex1⟩
 have H := H x Hi
 refine W_seq ?_
 refine W_region ?_
 refine LP_ev ok 0 [(10, .bool (decide (x < (ln sx))))] 1 rfl rfl ?_
 refine LP_end _ rfl ?_
 refine W_seq ?_
 refine W_cond (decide (x < (ln sx))) rfl (fun hc => ?_) (fun hc => ?_)
 ·have H := H.1 hc
  refine W_skip ?_
  refine W_seq ?_
  refine W_block ?_
  refine W_seq ?_
  refine W_region ?_
  refine LP_ev ok 0 [(11, I x)] 1 rfl rfl ?_
  obtain ⟨x3, hi, hx4, H⟩ := H
  refine LP_index 1 rfl rfl rfl Try.underlying34 ti_66 rfl rfl r hi hx4 fun a5 cs r6 d => ?_
  refine LP_load 2 rfl rfl rfl ti_66 ag_66 rfl r6 d ex1 fun vx7 r8 => ?_
  obtain rfl := Variable_rv r8
  refine LP_alloc 3 rfl rfl rfl ti_66 rfl fun b wx9 x10 ex11 f => ?_
  refine LP_ev ok 4 [(5, I x)] 5 rfl rfl ?_
  refine LP_stbox 5 (vs := [.string x3.Name, I x3.Levels]) (cs' := [.string x3.Name, I x3.Levels]) rfl rfl rfl ti_66 rfl rfl rfl rfl rfl ex11 rfl rfl fun wx12 ex13 y => ?_
  refine LP_end _ rfl ?_
  refine W_seq ?_
  refine W_region ?_
  refine LP_ev ok 0 [(14, pb b)] 1 rfl rfl ?_
  refine LP_ldbox 1 (v := .string x3.Name) rfl rfl rfl ti_9 ag_9 (fun _ => rfl) rfl ex13 rfl rfl ?_
  refine LP_ev ok 2 [(16, .string name), (17, .bool (streq x3.Name name))] 4 rfl rfl ?_
  refine LP_end _ rfl ?_
  refine W_cond (streq x3.Name name) rfl (fun hc14 => ?_) (fun hc14 => ?_)
  ·have H := H.1 hc14
   refine W_seq ?_
   refine W_region ?_
   refine LP_ev ok 0 [(18, I x), (4, I x)] 2 rfl rfl ?_
   refine LP_end _ rfl ?_
   refine W_ret ?_
   have f15 := f.mono X2.size
   have X16 := ((X2.stepx x10).step y (f15.dom _))
   exact ⟨_, Ret_of [I x] ⟨⟨rfl, rfl⟩, trivial⟩, _, H, rfl, X16.ext⟩
  have H := H.2 hc14
  refine W_skip ?_
  refine W_region ?_
  refine LP_ev ok 0 [(19, I (wr (x + 1))), (9, I (wr (x + 1)))] 2 rfl rfl ?_
  refine LP_end _ rfl ?_
  have f17 := f.mono X2.size
  have X18 := ((X2.stepx x10).step y (f17.dom _))
  have ex19 := ((ex1.ext x10).but y (Dj.of_fresh ex1 f).symm)
  exact ⟨wr (x + 1), ⟨H.1, _, env_eq ⟨rfl, rfl, rfl, rfl, trivial⟩, X18, ex19⟩, H.2⟩
 have H := H.2 hc
 refine W_exit ?_
 refine (if_pos rfl).mpr ?_
 refine W_seq ?_
 refine W_region ?_
 refine LP_ev ok 0 [(4, I ((-1)))] 1 rfl rfl ?_
 refine LP_end _ rfl ?_
 refine W_ret ?_
 exact ⟨_, Ret_of [I ((-1))] ⟨⟨rfl, rfl⟩, trivial⟩, _, H, rfl, X2.ext⟩

theorem spec_sGood_w (sx : List Variable) (Q : Bool → Prop) (H : spec_sGood sx Q) (w : World) {vx : Value} {hx : PH} (r : RS hx vx sx) (ex : Sub hx w) :
  CallsTo Try.prog 67 #[vx] w fun v w' => ∃ r0, Q r0 ∧ v = .bool r0 ∧ Ext w w' := by
 obtain ⟨a, c, rfl⟩ := r.shape
 refine enter (args := [sl a sx c]) 36 Try.func67 rfl rfl rfl ?_
 refine W_forget [(0, sl a sx c)] ⟨rfl, trivial⟩ fun ρ => ?_
 have X := But.refl emp w
 refine W_seq ?_
 refine W_region ?_
 refine LP_ev ok 0 [(2, .bool false)] 1 rfl rfl ?_
 refine LP_end _ rfl ?_
 refine W_seq ?_
 refine W_seq ?_
 refine W_region ?_
 refine LP_ev ok 0 [(5, sl a sx c), (6, I (ln sx))] 2 rfl rfl ?_
 refine LP_call 2 rfl rfl rfl cal_28 rfl (spec_l1In_w _ _ _ _ H w ) ?_
 rintro _ wx ⟨r1, H, rfl, x⟩
 refine LP_ev ok 3 [(8, .bool (!r1))] 4 rfl rfl ?_
 refine LP_end _ rfl ?_
 refine W_cond (!r1) rfl (fun hc => ?_) (fun hc => ?_)
 ·have H := H.1 hc
  refine W_seq ?_
  refine W_region ?_
  refine LP_ev ok 0 [(2, .bool false)] 1 rfl rfl ?_
  refine LP_end _ rfl ?_
  refine W_ret ?_
  have X2 := (X.stepx x)
  exact ⟨_, Ret_of [.bool false] ⟨⟨rfl, rfl⟩, trivial⟩, _, H, rfl, X2.ext⟩
 have H := H.2 hc
 refine W_skip ?_
 refine W_seq ?_
 refine W_seq ?_
 refine W_region ?_
 refine LP_ev ok 0 [(9, sl a sx c), (10, I (ln sx)), (11, I 0)] 3 rfl rfl ?_
 refine LP_end _ rfl ?_
 refine W_block ?_
 have X7 := (X.stepx x)
 have ex8 := (ex.ext x)
 obtain ⟨J, m, Hx, H⟩ := H
 refine W_loop (S := Int) (fun s ρ' w' => J s ∧ ∃ (ρ : Env), ρ' = setAll [(0, sl a sx c), (9, sl a sx c), (10, I (ln sx)), (11, I s)] ρ ∧ But emp w w' ∧ Sub hx w') (fun s => m s) 0 ⟨Hx, _, env_eq ⟨rfl, rfl, rfl, rfl, trivial⟩, X7, ex8⟩ ?_
 rintro x3 _ wx4 ⟨Hi, ρ, rfl, X6, ex5⟩
 have H := H x3 Hi
 refine W_seq ?_
 refine W_region ?_
 refine LP_ev ok 0 [(12, .bool (decide (x3 < (ln sx))))] 1 rfl rfl ?_
 refine LP_end _ rfl ?_
 refine W_seq ?_
 refine W_cond (decide (x3 < (ln sx))) rfl (fun hc9 => ?_) (fun hc9 => ?_)
 ·have H := H.1 hc9
  refine W_skip ?_
  refine W_seq ?_
  refine W_block ?_
  refine W_seq ?_
  refine W_region ?_
  refine LP_ev ok 0 [(13, I x3)] 1 rfl rfl ?_
  obtain ⟨x10, hi, hx11, H⟩ := H
  refine LP_index 1 rfl rfl rfl Try.underlying34 ti_66 rfl rfl r hi hx11 fun a12 cs r13 d => ?_
  refine LP_load 2 rfl rfl rfl ti_66 ag_66 rfl r13 d ex5 fun vx14 r15 => ?_
  obtain rfl := Variable_rv r15
  refine LP_alloc 3 rfl rfl rfl ti_66 rfl fun b wx16 x17 ex18 f => ?_
  refine LP_ev ok 4 [(3, I x3)] 5 rfl rfl ?_
  refine LP_stbox 5 (vs := [.string x10.Name, I x10.Levels]) (cs' := [.string x10.Name, I x10.Levels]) rfl rfl rfl ti_66 rfl rfl rfl rfl rfl ex18 rfl rfl fun wx19 ex20 y => ?_
  refine LP_end _ rfl ?_
  obtain ⟨k, hk, H⟩ := jn_elim H
  refine W_join2 (S := Bool) (fun s ρ' w' => k s ∧ ∃ (ρ : Env), ρ' = setAll [(0, sl a sx c), (9, sl a sx c), (10, I (ln sx)), (11, I x3), (34, .bool s)] ρ ∧ But emp w w' ∧ Sub hx w') ?_ ?_
  ·refine W_quiet mix (by kernel_rfl) ?_
   refine QP_ev ok 0 [(16, pb b)] 1 rfl rfl ?_
   refine QP_ldbox 1 (v := .string x10.Name) rfl rfl rfl ti_9 ag_9 (fun _ => rfl) rfl ex20 rfl rfl ?_
   obtain ⟨r25, Hd, H⟩ := H
   refine QP_call (.bool r25) 2 rfl rfl rfl cal_97 rfl (fun wx26 x27 => (spec_sName_w _ _ Hd wx26 ).mono ?_) ?_
   ·rintro _ _ ⟨_, rfl, rfl, x⟩; exact ⟨rfl, x⟩
   refine QP_ev ok 3 [(19, .bool (!r25)), (20, .bool (!r25))] 5 rfl rfl ?_
   refine QP_split 20 (!r25) rfl (fun hc28 => ?_) (fun hc28 => ?_)
   ·have H := H.1 hc28
    refine QP_ev ok 5 [(21, undef), (22, undef), (23, undef), (24, undef), (25, .bool true), (26, .bool true), (27, undef), (28, undef), (29, undef), (30, undef), (31, undef), (32, undef), (33, undef), (34, .bool true)] 19 rfl rfl ?_
    refine QP_end _ rfl fun wx29 x30 => ?_
    try refine W_forget [(0, sl a sx c), (9, sl a sx c), (10, I (ln sx)), (11, I x3), (34, .bool true)] ⟨rfl, rfl, rfl, rfl, rfl, trivial⟩ fun ρ => ?_
    have f31 := f.mono X6.size
    have X32 := (((X6.stepx x17).step y (f31.dom _)).stepx x30)
    have ex33 := (((ex5.ext x17).but y (Dj.of_fresh ex5 f).symm).ext x30)
    exact ⟨true, H, _, env_eq ⟨rfl, rfl, rfl, rfl, rfl, trivial⟩, X32, ex33⟩
   have H := H.2 hc28
   refine QP_ev ok 5 [(21, .pointer (some ⟨b, 1, none⟩))] 6 rfl rfl ?_
   refine QP_ldbox 6 (v := I x10.Levels) rfl rfl rfl ti_3 ag_3 (fun _ => rfl) rfl ex20 rfl rfl ?_
   obtain ⟨r34, Hd35, H⟩ := H
   refine QP_call (.bool r34) 7 rfl rfl rfl cal_28 rfl (fun wx36 x37 => (spec_l1In_w _ _ _ _ Hd35 wx36 ).mono ?_) ?_
   ·rintro _ _ ⟨_, rfl, rfl, x⟩; exact ⟨rfl, x⟩
   refine QP_ev ok 8 [(24, .bool (!r34)), (25, .bool (!r34)), (26, .bool (!r34))] 11 rfl rfl ?_
   refine QP_split 26 (!r34) rfl (fun hc38 => ?_) (fun hc38 => ?_)
   ·have H := H.1 hc38
    refine QP_ev ok 11 [(27, undef), (28, undef), (29, undef), (30, undef), (31, undef), (32, undef), (33, undef), (34, .bool true)] 19 rfl rfl ?_
    refine QP_end _ rfl fun wx39 x40 => ?_
    try refine W_forget [(0, sl a sx c), (9, sl a sx c), (10, I (ln sx)), (11, I x3), (21, .pointer (some ⟨b, 1, none⟩)), (22, I x10.Levels), (23, .bool r34), (24, .bool (!r34)), (34, .bool true)] ⟨rfl, rfl, rfl, rfl, rfl, rfl, rfl, rfl, rfl, trivial⟩ fun ρ => ?_
    have f41 := f.mono X6.size
    have X42 := (((X6.stepx x17).step y (f41.dom _)).stepx x40)
    have ex43 := (((ex5.ext x17).but y (Dj.of_fresh ex5 f).symm).ext x40)
    exact ⟨true, H, _, env_eq ⟨rfl, rfl, rfl, rfl, rfl, trivial⟩, X42, ex43⟩
   have H := H.2 hc38
   refine QP_ev ok 11 [(27, sl a sx c), (28, I x3)] 13 rfl rfl ?_
   obtain ⟨hl, hu, hn, H⟩ := H
   refine QP_slice 13 0 x3 rfl rfl rfl Try.underlying34 ti_66 rfl rfl rfl r (.inl ⟨rfl, rfl⟩) (.inr rfl) hl hu hn fun vx44 r45 => ?_
   obtain ⟨a46, c47, rfl⟩ := r45.shape
   refine QP_ev ok 14 [(30, pb b)] 15 rfl rfl ?_
   refine QP_ldbox 15 (v := .string x10.Name) rfl rfl rfl ti_9 ag_9 (fun _ => rfl) rfl ex20 rfl rfl ?_
   obtain ⟨r48, Hd49, H⟩ := H
   have ex52 := ((ex5.ext x17).but y (Dj.of_fresh ex5 f).symm)
   refine QP_call (I r48) 16 rfl rfl rfl cal_98 rfl (fun wx50 x51 => (spec_sFind_w _ _ _ Hd49 wx50 r45 (ex52.ext x51)).mono ?_) ?_
   ·rintro _ _ ⟨_, rfl, rfl, x⟩; exact ⟨rfl, x⟩
   refine QP_ev ok 17 [(33, .bool (decide (r48 ≥ 0))), (34, .bool (decide (r48 ≥ 0)))] 19 rfl rfl ?_
   refine QP_end _ rfl fun wx53 x54 => ?_
   try refine W_forget [(0, sl a sx c), (9, sl a sx c), (10, I (ln sx)), (11, I x3), (21, .pointer (some ⟨b, 1, none⟩)), (22, I x10.Levels), (23, .bool r34), (24, .bool (!r34)), (27, sl a sx c), (28, I x3), (29, .slice a46 (List.length (List.take (Int.toNat x3 - Int.toNat 0) (List.drop (Int.toNat 0) sx))) c47), (30, pb b), (31, .string x10.Name), (32, I r48), (33, .bool (decide (r48 ≥ 0))), (34, .bool (decide (r48 ≥ 0)))] ⟨rfl, rfl, rfl, rfl, rfl, rfl, rfl, rfl, rfl, rfl, rfl, rfl, rfl, rfl, rfl, rfl, trivial⟩ fun ρ => ?_
   have f55 := f.mono X6.size
   have X56 := (((X6.stepx x17).step y (f55.dom _)).stepx x54)
   have ex57 := (ex52.ext x54)
   exact ⟨decide (r48 ≥ 0), H, _, env_eq ⟨rfl, rfl, rfl, rfl, rfl, trivial⟩, X56, ex57⟩
  rintro x21 _ wx22 ⟨H, ρ, rfl, X24, ex23⟩
  subst hk
  refine W_cond (x21) rfl (fun hc58 => ?_) (fun hc58 => ?_)
  ·have H := H.1 hc58
   refine W_seq ?_
   refine W_region ?_
   refine LP_ev ok 0 [(2, .bool false)] 1 rfl rfl ?_
   refine LP_end _ rfl ?_
   refine W_ret ?_
   exact ⟨_, Ret_of [.bool false] ⟨⟨rfl, rfl⟩, trivial⟩, _, H, rfl, X24.ext⟩
  have H := H.2 hc58
  refine W_skip ?_
  refine W_region ?_
  refine LP_ev ok 0 [(35, I (wr (x3 + 1))), (11, I (wr (x3 + 1)))] 2 rfl rfl ?_
  refine LP_end _ rfl ?_
  exact ⟨wr (x3 + 1), ⟨H.1, _, env_eq ⟨rfl, rfl, rfl, rfl, trivial⟩, X24, ex23⟩, H.2⟩
 have H := H.2 hc9
 refine W_exit ?_
 refine (if_pos rfl).mpr ?_
 refine W_seq ?_
 refine W_region ?_
 refine LP_ev ok 0 [(2, .bool true)] 1 rfl rfl ?_
 refine LP_end _ rfl ?_
 refine W_ret ?_
 exact ⟨_, Ret_of [.bool true] ⟨⟨rfl, rfl⟩, trivial⟩, _, H, rfl, X6.ext⟩

theorem spec_gChildren_w (g : Geo) (i : Int) (Q : (List Int) → Prop) (H : spec_gChildren g i Q) (w : World) {vx : Value} {hx : PH} (r : RS hx vx g.Parents) (ex : Sub hx w) :
  CallsTo Try.prog 100 #[.agg #[vx], I i] w fun v w' => ∃ r0 u0 g0, Q r0 ∧ v = u0 ∧ Ext w w' ∧ OS 3 g0 emp u0 r0 ∧ Sub g0 w' ∧ Fresh w.heap.size g0 := by
 obtain ⟨a, c, rfl⟩ := r.shape
 refine enter (args := [.agg #[sl a g.Parents c], I i]) 25 Try.func100 rfl rfl rfl ?_
 refine W_forget [(0, .agg #[sl a g.Parents c]), (1, I i)] ⟨rfl, rfl, trivial⟩ fun ρ => ?_
 have X := But.refl emp w
 refine W_seq ?_
 refine W_region ?_
 refine LP_box 0 (cs := [sl a g.Parents c]) rfl rfl rfl rfl rfl fun b wx x ex1 f => ?_
 refine LP_ev ok 1 [(4, .slice none 0 0)] 2 rfl rfl ?_
 refine LP_end _ rfl ?_
 refine W_seq ?_
 refine W_region ?_
 refine LP_ev ok 0 [(5, .slice none 0 0)] 1 rfl rfl ?_
 refine LP_end _ rfl ?_
 refine W_seq ?_
 refine W_seq ?_
 refine W_region ?_
 refine LP_ev ok 0 [(8, pb b)] 1 rfl rfl ?_
 refine LP_ldbox 1 (v := sl a g.Parents c) rfl rfl rfl ti_22 ag_22 (fun _ => rfl) rfl ex1 rfl rfl ?_
 refine LP_ev ok 2 [(10, I (ln g.Parents)), (11, I 0)] 4 rfl rfl ?_
 refine LP_end _ rfl ?_
 refine W_block ?_
 have X12 := (X.stepx x)
 have ex13 := (ex.ext x)
 obtain ⟨J, m, Hx, H⟩ := H
 refine W_loop (S := (List Int) × Int) (fun s ρ' w' => J s.1 s.2 ∧ ∃ (ρ : Env) (vx2 : Value) (hx3 : PH), ρ' = setAll [(1, I i), (5, vx2), (9, sl a g.Parents c), (10, I (ln g.Parents)), (11, I s.2)] ρ ∧ But emp w w' ∧ OS 3 hx3 emp vx2 s.1 ∧ Sub hx3 w' ∧ Fresh w.heap.size hx3 ∧ Sub hx w' ∧ Dj hx3 hx) (fun s => m s.1 s.2) ([], 0) ⟨Hx, _, .slice none 0 0, emp, env_eq ⟨rfl, rfl, rfl, rfl, rfl, trivial⟩, X12, OS.nil, (emp_sub _), (emp_fresh _), ex13, (fun _ => .inl rfl)⟩ ?_
 rintro ⟨out, x6⟩ _ wx7 ⟨Hi, ρ, vx2, hx3, rfl, HF⟩
 revert HF
 refine bb6 fun X11 o ex4 f5 ex8 d => ?_
 have H := H out x6 Hi
 obtain ⟨a9, c10, rfl⟩ := o.shape
 refine W_seq ?_
 refine W_region ?_
 refine LP_ev ok 0 [(12, .bool (decide (x6 < (ln g.Parents))))] 1 rfl rfl ?_
 refine LP_end _ rfl ?_
 refine W_seq ?_
 refine W_cond (decide (x6 < (ln g.Parents))) rfl (fun hc => ?_) (fun hc => ?_)
 ·have H := H.1 hc
  refine W_skip ?_
  obtain ⟨k, hk, H⟩ := jn_elim H
  refine W_join2 (S := (List Int)) (fun s ρ' w' => k s ∧ ∃ (ρ : Env) (vx15 : Value) (hx16 : PH), ρ' = setAll [(1, I i), (5, vx15), (9, sl a g.Parents c), (10, I (ln g.Parents)), (11, I x6)] ρ ∧ But emp w w' ∧ OS 3 hx16 emp vx15 s ∧ Sub hx16 w' ∧ Fresh w.heap.size hx16 ∧ Sub hx w' ∧ Dj hx16 hx) ?_ ?_
  ·refine W_block ?_
   refine W_seq ?_
   refine W_region ?_
   refine LP_ev ok 0 [(13, I x6)] 1 rfl rfl ?_
   obtain ⟨x26, hi, hx27, H⟩ := H
   refine LP_index 1 rfl rfl rfl Try.underlying22 ti_3 rfl rfl r hi hx27 fun a28 cs r29 d30 => ?_
   refine LP_load 2 rfl rfl rfl ti_3 ag_3 rfl r29 d30 ex8 fun vx31 r32 => ?_
   obtain rfl := r32.int
   refine LP_ev ok 3 [(6, I x6), (7, I x26)] 5 rfl rfl ?_
   refine LP_end _ rfl ?_
   refine W_seq ?_
   refine W_region ?_
   refine LP_ev ok 0 [(16, I x26), (17, I i), (18, .bool (x26 == i))] 3 rfl rfl ?_
   refine LP_end _ rfl ?_
   refine W_cond (x26 == i) rfl (fun hc33 => ?_) (fun hc33 => ?_)
   ·have H := H.1 hc33
    refine W_region ?_
    refine LP_ev ok 0 [(19, sl a9 out c10), (20, I x6)] 2 rfl rfl ?_
    refine LP_lit (α := Int) (g := emp) 2 (vs := [I x6]) (xs := [x6]) rfl rfl rfl Try.underlying22 ti_3 rfl rfl ⟨⟨_, rfl, rfl⟩, trivial⟩ rfl rfl fun hx34 vx35 wx36 x37 o38 ex39 f40 => ?_
    obtain ⟨a41, c42, rfl⟩ := o38.shape
    have ex43 := (ex4.ext x37)
    obtain ⟨hb, H⟩ := H
    refine LP_appendf (α := Int) 3 rfl rfl rfl Try.underlying22 ti_3 rfl rfl rfl o ex43 o38.readf ex39 (by first | omega | (simp only [ln] at *; omega)) (by first | omega | (simp only [ln] at *; omega)) fun hx44 vx45 wx46 o47 ex48 y dm => ?_
    obtain ⟨a49, c50, rfl⟩ := o47.shape
    refine LP_ev ok 4 [(5, .slice a49 (List.length (out ++ ([x6]))) c50)] 5 rfl rfl ?_
    refine LP_end _ rfl ?_
    have X51 := ((X11.stepx x37).step y (f5.dom _))
    have X53 := (X11.stepx x37)
    have f52 := dm.fresh f5 X53.size
    have ex54 := ((ex8.ext x37).but y d)
    have ex55 := (ex8.ext x37)
    exact ⟨out ++ ([x6]), H, _, .slice a49 (List.length (out ++ ([x6]))) c50, hx44, env_eq ⟨rfl, rfl, rfl, rfl, rfl, trivial⟩, X51, o47, ex48, f52, ex54, (DomLe.dj dm d ex55)⟩
   have H := H.2 hc33
   refine W_skip ?_
   exact ⟨out, H, _, sl a9 out c10, hx3, env_eq ⟨rfl, rfl, rfl, rfl, rfl, trivial⟩, X11, o, ex4, f5, ex8, d⟩
  rintro out14 _ wx20 ⟨H, ρ, vx15, hx16, rfl, HF⟩
  revert HF
  refine bb6 fun X25 o17 ex18 f19 ex21 d24 => ?_
  subst hk
  obtain ⟨a22, c23, rfl⟩ := o17.shape
  refine W_region ?_
  refine LP_ev ok 0 [(23, I (wr (x6 + 1))), (11, I (wr (x6 + 1)))] 2 rfl rfl ?_
  refine LP_end _ rfl ?_
  exact ⟨(out14, wr (x6 + 1)), ⟨H.1, _, sl a22 out14 c23, hx16, env_eq ⟨rfl, rfl, rfl, rfl, rfl, trivial⟩, X25, o17, ex18, f19, ex21, d24⟩, H.2⟩
 have H := H.2 hc
 refine W_exit ?_
 refine (if_pos rfl).mpr ?_
 refine W_seq ?_
 refine W_region ?_
 refine LP_ev ok 0 [(24, sl a9 out c10), (4, sl a9 out c10)] 2 rfl rfl ?_
 refine LP_end _ rfl ?_
 refine W_ret ?_
 exact ⟨_, Ret_of [sl a9 out c10] ⟨⟨rfl, rfl⟩, trivial⟩, _, _, _, H, rfl, X11.ext, o, ex4, f5⟩

theorem spec_gLeaves_w (g : Geo) (Q : (List Int) → Prop) (H : spec_gLeaves g Q) (w : World) {vx : Value} {hx : PH} (r : RS hx vx g.Parents) (ex : Sub hx w) :
  CallsTo Try.prog 73 #[.agg #[vx]] w fun v w' => ∃ r0 u0 g0, Q r0 ∧ v = u0 ∧ Ext w w' ∧ OS 3 g0 emp u0 r0 ∧ Sub g0 w' ∧ Fresh w.heap.size g0 := by
 obtain ⟨a, c, rfl⟩ := r.shape
 refine enter (args := [.agg #[sl a g.Parents c]]) 22 Try.func73 rfl rfl rfl ?_
 refine W_forget [(0, .agg #[sl a g.Parents c])] ⟨rfl, trivial⟩ fun ρ => ?_
 have X := But.refl emp w
 refine W_seq ?_
 refine W_region ?_
 refine LP_box 0 (cs := [sl a g.Parents c]) rfl rfl rfl rfl rfl fun b wx x ex1 f => ?_
 refine LP_ev ok 1 [(2, .slice none 0 0)] 2 rfl rfl ?_
 refine LP_end _ rfl ?_
 refine W_seq ?_
 refine W_region ?_
 refine LP_ev ok 0 [(3, .slice none 0 0)] 1 rfl rfl ?_
 refine LP_end _ rfl ?_
 refine W_seq ?_
 refine W_seq ?_
 refine W_region ?_
 refine LP_ev ok 0 [(5, pb b)] 1 rfl rfl ?_
 refine LP_ldbox 1 (v := sl a g.Parents c) rfl rfl rfl ti_22 ag_22 (fun _ => rfl) rfl ex1 rfl rfl ?_
 refine LP_ev ok 2 [(7, I (ln g.Parents)), (8, I 0)] 4 rfl rfl ?_
 refine LP_end _ rfl ?_
 refine W_block ?_
 have X14 := (X.stepx x)
 have ex15 := (ex.ext x)
 obtain ⟨J, m, Hx, H⟩ := H
 refine W_loop (S := (List Int) × Int) (fun s ρ' w' => J s.1 s.2 ∧ ∃ (ρ : Env) (vx2 : Value) (hx3 : PH), ρ' = setAll [(1, pb b), (3, vx2), (7, I (ln g.Parents)), (8, I s.2)] ρ ∧ But emp w w' ∧ OS 3 hx3 emp vx2 s.1 ∧ Sub hx3 w' ∧ Fresh w.heap.size hx3 ∧ Sub hx w' ∧ Sub (bx b 32 [sl a g.Parents c]) w' ∧ Dj hx3 hx ∧ Dj hx3 (bx b 32 [sl a g.Parents c])) (fun s => m s.1 s.2) ([], 0) ⟨Hx, _, .slice none 0 0, emp, env_eq ⟨rfl, rfl, rfl, rfl, trivial⟩, X14, OS.nil, (emp_sub _), (emp_fresh _), ex15, ex1, (fun _ => .inl rfl), (fun _ => .inl rfl)⟩ ?_
 rintro ⟨out, x6⟩ _ wx7 ⟨Hi, ρ, vx2, hx3, rfl, HF⟩
 revert HF
 refine bb8 fun X13 o ex4 f5 ex8 ex9 d d12 => ?_
 have H := H out x6 Hi
 obtain ⟨a10, c11, rfl⟩ := o.shape
 refine W_seq ?_
 refine W_region ?_
 refine LP_ev ok 0 [(9, .bool (decide (x6 < (ln g.Parents))))] 1 rfl rfl ?_
 refine LP_end _ rfl ?_
 refine W_seq ?_
 refine W_cond (decide (x6 < (ln g.Parents))) rfl (fun hc => ?_) (fun hc => ?_)
 ·have H := H.1 hc
  refine W_skip ?_
  obtain ⟨k, hk, H⟩ := jn_elim H
  refine W_join2 (S := (List Int)) (fun s ρ' w' => k s ∧ ∃ (ρ : Env) (vx17 : Value) (hx18 : PH), ρ' = setAll [(1, pb b), (3, vx17), (7, I (ln g.Parents)), (8, I x6)] ρ ∧ But emp w w' ∧ OS 3 hx18 emp vx17 s ∧ Sub hx18 w' ∧ Fresh w.heap.size hx18 ∧ Sub hx w' ∧ Sub (bx b 32 [sl a g.Parents c]) w' ∧ Dj hx18 hx ∧ Dj hx18 (bx b 32 [sl a g.Parents c])) ?_ ?_
  ·refine W_block ?_
   refine W_seq ?_
   refine W_region ?_
   refine LP_ev ok 0 [(10, I x6), (4, I x6)] 2 rfl rfl ?_
   refine LP_end _ rfl ?_
   refine W_seq ?_
   refine W_region ?_
   refine LP_ldbox 0 (v := .agg #[sl a g.Parents c]) rfl rfl rfl ti_32 ag_32 (fun h => by cases h) rfl ex9 rfl rfl ?_
   refine LP_ev ok 1 [(12, I x6)] 2 rfl rfl ?_
   refine LP_call 2 rfl rfl rfl cal_100 rfl (spec_gChildren_w _ _ _ H wx7 r ex8) ?_
   rintro _ wx31 ⟨r30, vx33, hx34, H, rfl, x32, o35, ex36, f37⟩
   obtain ⟨a38, c39, rfl⟩ := o35.shape
   refine LP_ev ok 3 [(14, I (ln r30)), (15, .bool ((ln r30) == 0))] 5 rfl rfl ?_
   refine LP_end _ rfl ?_
   refine W_cond ((ln r30) == 0) rfl (fun hc40 => ?_) (fun hc40 => ?_)
   ·have H := H.1 hc40
    refine W_region ?_
    refine LP_ev ok 0 [(16, sl a10 out c11), (17, I x6)] 2 rfl rfl ?_
    refine LP_lit (α := Int) (g := emp) 2 (vs := [I x6]) (xs := [x6]) rfl rfl rfl Try.underlying22 ti_3 rfl rfl ⟨⟨_, rfl, rfl⟩, trivial⟩ rfl rfl fun hx41 vx42 wx43 x44 o45 ex46 f47 => ?_
    obtain ⟨a48, c49, rfl⟩ := o45.shape
    have ex50 := ((ex4.ext x32).ext x44)
    obtain ⟨hb, H⟩ := H
    refine LP_appendf (α := Int) 3 rfl rfl rfl Try.underlying22 ti_3 rfl rfl rfl o ex50 o45.readf ex46 (by first | omega | (simp only [ln] at *; omega)) (by first | omega | (simp only [ln] at *; omega)) fun hx51 vx52 wx53 o54 ex55 y dm => ?_
    obtain ⟨a56, c57, rfl⟩ := o54.shape
    refine LP_ev ok 4 [(3, .slice a56 (List.length (out ++ ([x6]))) c57)] 5 rfl rfl ?_
    refine LP_end _ rfl ?_
    have X58 := (((X13.stepx x32).stepx x44).step y (f5.dom _))
    have X60 := ((X13.stepx x32).stepx x44)
    have f59 := dm.fresh f5 X60.size
    have ex61 := (((ex8.ext x32).ext x44).but y d)
    have ex62 := (((ex9.ext x32).ext x44).but y d12)
    have ex63 := ((ex8.ext x32).ext x44)
    have ex64 := ((ex9.ext x32).ext x44)
    exact ⟨out ++ ([x6]), H, _, .slice a56 (List.length (out ++ ([x6]))) c57, hx51, env_eq ⟨rfl, rfl, rfl, rfl, trivial⟩, X58, o54, ex55, f59, ex61, ex62, (DomLe.dj dm d ex63), (DomLe.dj dm d12 ex64)⟩
   have H := H.2 hc40
   refine W_skip ?_
   have X65 := (X13.stepx x32)
   have ex66 := (ex4.ext x32)
   have ex67 := (ex8.ext x32)
   have ex68 := (ex9.ext x32)
   exact ⟨out, H, _, sl a10 out c11, hx3, env_eq ⟨rfl, rfl, rfl, rfl, trivial⟩, X65, o, ex66, f5, ex67, ex68, d, d12⟩
  rintro out16 _ wx22 ⟨H, ρ, vx17, hx18, rfl, HF⟩
  revert HF
  refine bb8 fun X29 o19 ex20 f21 ex23 ex24 d27 d28 => ?_
  subst hk
  obtain ⟨a25, c26, rfl⟩ := o19.shape
  refine W_region ?_
  refine LP_ev ok 0 [(20, I (wr (x6 + 1))), (8, I (wr (x6 + 1)))] 2 rfl rfl ?_
  refine LP_end _ rfl ?_
  exact ⟨(out16, wr (x6 + 1)), ⟨H.1, _, sl a25 out16 c26, hx18, env_eq ⟨rfl, rfl, rfl, rfl, trivial⟩, X29, o19, ex20, f21, ex23, ex24, d27, d28⟩, H.2⟩
 have H := H.2 hc
 refine W_exit ?_
 refine (if_pos rfl).mpr ?_
 refine W_seq ?_
 refine W_region ?_
 refine LP_ev ok 0 [(21, sl a10 out c11), (2, sl a10 out c11)] 2 rfl rfl ?_
 refine LP_end _ rfl ?_
 refine W_ret ?_
 exact ⟨_, Ret_of [sl a10 out c11] ⟨⟨rfl, rfl⟩, trivial⟩, _, _, _, H, rfl, X13.ext, o, ex4, f5⟩

theorem spec_sCount_w (sx : List Variable) (Q : Int → Prop) (H : spec_sCount sx Q) (w : World) {vx : Value} {hx : PH} (r : RS hx vx sx) (ex : Sub hx w) :
  CallsTo Try.prog 71 #[vx] w fun v w' => ∃ r0, Q r0 ∧ v = I r0 ∧ Ext w w' := by
 obtain ⟨a, c, rfl⟩ := r.shape
 refine enter (args := [sl a sx c]) 18 Try.func71 rfl rfl rfl ?_
 refine W_forget [(0, sl a sx c)] ⟨rfl, trivial⟩ fun ρ => ?_
 have X := But.refl emp w
 refine W_seq ?_
 refine W_region ?_
 refine LP_ev ok 0 [(2, I 0)] 1 rfl rfl ?_
 refine LP_end _ rfl ?_
 refine W_seq ?_
 refine W_region ?_
 refine LP_ev ok 0 [(3, I 1)] 1 rfl rfl ?_
 refine LP_end _ rfl ?_
 refine W_seq ?_
 refine W_seq ?_
 refine W_region ?_
 refine LP_ev ok 0 [(6, sl a sx c), (7, I (ln sx)), (8, I 0)] 3 rfl rfl ?_
 refine LP_end _ rfl ?_
 refine W_block ?_
 obtain ⟨J, m, Hx, H⟩ := H
 refine W_loop (S := Int × Int) (fun s ρ' w' => J s.1 s.2 ∧ ∃ (ρ : Env), ρ' = setAll [(3, I s.1), (6, sl a sx c), (7, I (ln sx)), (8, I s.2)] ρ ∧ But emp w w' ∧ Sub hx w') (fun s => m s.1 s.2) (1, 0) ⟨Hx, _, env_eq ⟨rfl, rfl, rfl, rfl, trivial⟩, X, ex⟩ ?_
 rintro ⟨n, x⟩ _ wx ⟨Hi, ρ, rfl, X2, ex1⟩
 have H := H n x Hi
 refine W_seq ?_
 refine W_region ?_
 refine LP_ev ok 0 [(9, .bool (decide (x < (ln sx))))] 1 rfl rfl ?_
 refine LP_end _ rfl ?_
 refine W_seq ?_
 refine W_cond (decide (x < (ln sx))) rfl (fun hc => ?_) (fun hc => ?_)
 ·have H := H.1 hc
  refine W_skip ?_
  refine W_seq ?_
  refine W_block ?_
  refine W_seq ?_
  refine W_region ?_
  obtain ⟨x3, hi, hx4, H⟩ := H
  refine LP_index 0 rfl rfl rfl Try.underlying34 ti_66 rfl rfl r hi hx4 fun a5 cs r6 d => ?_
  refine LP_load 1 rfl rfl rfl ti_66 ag_66 rfl r6 d ex1 fun vx7 r8 => ?_
  obtain rfl := Variable_rv r8
  refine LP_alloc 2 rfl rfl rfl ti_66 rfl fun b wx9 x10 ex11 f => ?_
  refine LP_stbox 3 (vs := [.string x3.Name, I x3.Levels]) (cs' := [.string x3.Name, I x3.Levels]) rfl rfl rfl ti_66 rfl rfl rfl rfl rfl ex11 rfl rfl fun wx12 ex13 y => ?_
  refine LP_end _ rfl ?_
  refine W_region ?_
  refine LP_ev ok 0 [(12, I n), (13, .pointer (some ⟨b, 1, none⟩))] 2 rfl rfl ?_
  refine LP_ldbox 2 (v := I x3.Levels) rfl rfl rfl ti_3 ag_3 (fun _ => rfl) rfl ex13 rfl rfl ?_
  refine LP_ev ok 3 [(15, I (wr (n * x3.Levels))), (3, I (wr (n * x3.Levels)))] 5 rfl rfl ?_
  refine LP_end _ rfl ?_
  refine W_region ?_
  refine LP_ev ok 0 [(16, I (wr (x + 1))), (8, I (wr (x + 1)))] 2 rfl rfl ?_
  refine LP_end _ rfl ?_
  have f14 := f.mono X2.size
  have X15 := ((X2.stepx x10).step y (f14.dom _))
  have ex16 := ((ex1.ext x10).but y (Dj.of_fresh ex1 f).symm)
  exact ⟨(wr (n * x3.Levels), wr (x + 1)), ⟨H.1, _, env_eq ⟨rfl, rfl, rfl, rfl, trivial⟩, X15, ex16⟩, H.2⟩
 have H := H.2 hc
 refine W_exit ?_
 refine (if_pos rfl).mpr ?_
 refine W_seq ?_
 refine W_region ?_
 refine LP_ev ok 0 [(17, I n), (2, I n)] 2 rfl rfl ?_
 refine LP_end _ rfl ?_
 refine W_ret ?_
 exact ⟨_, Ret_of [I n] ⟨⟨rfl, rfl⟩, trivial⟩, _, H, rfl, X2.ext⟩

theorem spec_aTypes_w (g : Geo) (sx : List Variable) (Q : Int → Prop) (H : spec_aTypes g sx Q) (w : World) {vx : Value} {hx : PH} (r : RS hx vx g.Parents) (ex : Sub hx w) {vx1 : Value} {hx2 : PH} (r3 : RS hx2 vx1 sx) (ex4 : Sub hx2 w) :
  CallsTo Try.prog 44 #[.agg #[vx], vx1] w fun v w' => ∃ r0, Q r0 ∧ v = I r0 ∧ Ext w w' := by
 obtain ⟨a, c, rfl⟩ := r.shape
 obtain ⟨a5, c6, rfl⟩ := r3.shape
 refine enter (args := [.agg #[sl a g.Parents c], sl a5 sx c6]) 11 Try.func44 rfl rfl rfl ?_
 refine W_forget [(0, .agg #[sl a g.Parents c]), (1, sl a5 sx c6)] ⟨rfl, rfl, trivial⟩ fun ρ => ?_
 have X := But.refl emp w
 refine W_seq ?_
 refine W_region ?_
 refine LP_box 0 (cs := [sl a g.Parents c]) rfl rfl rfl rfl rfl fun b wx x ex7 f => ?_
 refine LP_ev ok 1 [(4, I 0)] 2 rfl rfl ?_
 refine LP_end _ rfl ?_
 refine W_seq ?_
 refine W_region ?_
 refine LP_ldbox 0 (v := .agg #[sl a g.Parents c]) rfl rfl rfl ti_32 ag_32 (fun h => by cases h) rfl ex7 rfl rfl ?_
 have ex9 := (ex.ext x)
 refine LP_call 1 rfl rfl rfl cal_73 rfl (spec_gLeaves_w _ _ H wx r ex9) ?_
 rintro _ wx10 ⟨r8, vx12, hx13, H, rfl, x11, o, ex14, f15⟩
 obtain ⟨a16, c17, rfl⟩ := o.shape
 refine LP_ev ok 2 [(7, I (ln r8)), (8, sl a5 sx c6)] 4 rfl rfl ?_
 have ex19 := ((ex4.ext x).ext x11)
 refine LP_call 4 rfl rfl rfl cal_71 rfl (spec_sCount_w _ _ H wx10 r3 ex19) ?_
 rintro _ wx20 ⟨r18, H, rfl, x21⟩
 refine LP_ev ok 5 [(10, I (wr ((ln r8) * r18))), (4, I (wr ((ln r8) * r18)))] 7 rfl rfl ?_
 refine LP_end _ rfl ?_
 refine W_ret ?_
 have X22 := (((X.stepx x).stepx x11).stepx x21)
 exact ⟨_, Ret_of [I (wr ((ln r8) * r18))] ⟨⟨rfl, rfl⟩, trivial⟩, _, H, rfl, X22.ext⟩

theorem spec_aGood_w (g : Geo) (sx : List Variable) (Q : Bool → Prop) (H : spec_aGood g sx Q) (w : World) {vx : Value} {hx : PH} (r : RS hx vx g.Parents) (ex : Sub hx w) {vx1 : Value} {hx2 : PH} (r3 : RS hx2 vx1 sx) (ex4 : Sub hx2 w) :
  CallsTo Try.prog 57 #[.agg #[vx], vx1] w fun v w' => ∃ r0, Q r0 ∧ v = .bool r0 ∧ Ext w w' := by
 obtain ⟨a, c, rfl⟩ := r.shape
 obtain ⟨a5, c6, rfl⟩ := r3.shape
 refine enter (args := [.agg #[sl a g.Parents c], sl a5 sx c6]) 17 Try.func57 rfl rfl rfl ?_
 refine W_forget [(0, .agg #[sl a g.Parents c]), (1, sl a5 sx c6)] ⟨rfl, rfl, trivial⟩ fun ρ => ?_
 have X := But.refl emp w
 refine W_seq ?_
 refine W_region ?_
 refine LP_box 0 (cs := [sl a g.Parents c]) rfl rfl rfl rfl rfl fun b wx x ex7 f => ?_
 refine LP_ev ok 1 [(4, .bool false)] 2 rfl rfl ?_
 refine LP_end _ rfl ?_
 obtain ⟨k, hk, H⟩ := jn_elim H
 refine W_join2 (S := Bool) (fun s ρ' w' => k s ∧ ∃ (ρ : Env), ρ' = setAll [(4, .bool s)] ρ ∧ But emp w w') ?_ ?_
 ·refine W_region ?_
  refine LP_ldbox 0 (v := .agg #[sl a g.Parents c]) rfl rfl rfl ti_32 ag_32 (fun h => by cases h) rfl ex7 rfl rfl ?_
  have ex12 := (ex.ext x)
  refine LP_call 1 rfl rfl rfl cal_66 rfl (spec_gGood_w _ _ H wx r ex12) ?_
  rintro _ wx13 ⟨r11, H, rfl, x14⟩
  refine LP_ev ok 2 [(7, .bool r11)] 3 rfl rfl ?_
  refine LP_split 7 (r11) rfl (fun hc => ?_) (fun hc => ?_)
  ·have H := H.1 hc
   refine LP_ev ok 3 [(8, sl a5 sx c6)] 4 rfl rfl ?_
   have ex16 := ((ex4.ext x).ext x14)
   refine LP_call 4 rfl rfl rfl cal_67 rfl (spec_sGood_w _ _ H wx13 r3 ex16) ?_
   rintro _ wx17 ⟨r15, H, rfl, x18⟩
   refine LP_ev ok 5 [(10, .bool r15), (11, .bool r15)] 7 rfl rfl ?_
   refine LP_split 11 (r15) rfl (fun hc19 => ?_) (fun hc19 => ?_)
   ·have H := H.1 hc19
    have ex20 := ((ex7.ext x14).ext x18)
    refine LP_ldbox 7 (v := .agg #[sl a g.Parents c]) rfl rfl rfl ti_32 ag_32 (fun h => by cases h) rfl ex20 rfl rfl ?_
    refine LP_ev ok 8 [(13, sl a5 sx c6)] 9 rfl rfl ?_
    have ex22 := ((ex12.ext x14).ext x18)
    have ex23 := (ex16.ext x18)
    refine LP_call 9 rfl rfl rfl cal_44 rfl (spec_aTypes_w _ _ _ H wx17 r ex22 r3 ex23) ?_
    rintro _ wx24 ⟨r21, H, rfl, x25⟩
    refine LP_ev ok 10 [(15, .bool (decide (r21 ≤ 12))), (16, .bool (decide (r21 ≤ 12))), (4, .bool (decide (r21 ≤ 12)))] 13 rfl rfl ?_
    refine LP_end _ rfl ?_
    have X26 := ((((X.stepx x).stepx x14).stepx x18).stepx x25)
    exact ⟨decide (r21 ≤ 12), H, _, env_eq ⟨rfl, trivial⟩, X26⟩
   have H := H.2 hc19
   refine LP_ev ok 7 [(12, undef), (13, undef), (14, undef), (15, undef), (16, .bool false), (4, .bool false)] 13 rfl rfl ?_
   refine LP_end _ rfl ?_
   have X27 := (((X.stepx x).stepx x14).stepx x18)
   exact ⟨false, H, _, env_eq ⟨rfl, trivial⟩, X27⟩
  have H := H.2 hc
  refine LP_ev ok 3 [(8, undef), (9, undef), (10, .bool false), (11, .bool false), (12, undef), (13, undef), (14, undef), (15, undef), (16, .bool false), (4, .bool false)] 13 rfl rfl ?_
  refine LP_end _ rfl ?_
  have X28 := ((X.stepx x).stepx x14)
  exact ⟨false, H, _, env_eq ⟨rfl, trivial⟩, X28⟩
 rintro x8 _ wx9 ⟨H, ρ, rfl, X10⟩
 subst hk
 refine W_ret ?_
 exact ⟨_, Ret_of [.bool x8] ⟨⟨rfl, rfl⟩, trivial⟩, _, H, rfl, X10.ext⟩

theorem spec_gDepth_w (g : Geo) (i : Int) (Q : Int → Prop) (H : spec_gDepth g i Q) (w : World) {vx : Value} {hx : PH} (r : RS hx vx g.Parents) (ex : Sub hx w) :
  CallsTo Try.prog 99 #[.agg #[vx], I i] w fun v w' => ∃ r0, Q r0 ∧ v = I r0 ∧ Ext w w' := by
 obtain ⟨a, c, rfl⟩ := r.shape
 refine enter (args := [.agg #[sl a g.Parents c], I i]) 20 Try.func99 rfl rfl rfl ?_
 refine W_forget [(0, .agg #[sl a g.Parents c]), (1, I i)] ⟨rfl, rfl, trivial⟩ fun ρ => ?_
 have X := But.refl emp w
 refine W_seq ?_
 refine W_region ?_
 refine LP_box 0 (cs := [sl a g.Parents c]) rfl rfl rfl rfl rfl fun b wx x ex1 f => ?_
 refine LP_ev ok 1 [(4, I 0)] 2 rfl rfl ?_
 refine LP_end _ rfl ?_
 refine W_seq ?_
 refine W_region ?_
 refine LP_ev ok 0 [(5, I 0)] 1 rfl rfl ?_
 refine LP_end _ rfl ?_
 refine W_seq ?_
 refine W_block ?_
 obtain ⟨J, m, Hx, H⟩ := H
 refine W_loop (S := Int × Int) (fun s ρ' w' => J s.1 s.2 ∧ ∃ (ρ : Env), ρ' = setAll [(1, I s.1), (2, pb b), (5, I s.2)] ρ ∧ wx = w') (fun s => m s.1 s.2) (i, 0) ⟨Hx, _, env_eq ⟨rfl, rfl, rfl, trivial⟩, rfl⟩ ?_
 rintro ⟨i2, n⟩ _ _ ⟨Hi, ρ, rfl, rfl⟩
 have H := H i2 n Hi
 refine W_seq ?_
 refine W_seq ?_
 refine W_region ?_
 refine LP_ev ok 0 [(6, pb b)] 1 rfl rfl ?_
 refine LP_ldbox 1 (v := sl a g.Parents c) rfl rfl rfl ti_22 ag_22 (fun _ => rfl) rfl ex1 rfl rfl ?_
 refine LP_ev ok 2 [(8, I i2)] 3 rfl rfl ?_
 obtain ⟨x4, hi, hx5, H⟩ := H
 refine LP_index 3 rfl rfl rfl Try.underlying22 ti_3 rfl rfl r hi hx5 fun a6 cs r7 d => ?_
 have ex8 := (ex.ext x)
 refine LP_load 4 rfl rfl rfl ti_3 ag_3 rfl r7 d ex8 fun vx9 r10 => ?_
 obtain rfl := r10.int
 refine LP_ev ok 5 [(11, .bool (decide (x4 ≥ 0)))] 6 rfl rfl ?_
 refine LP_end _ rfl ?_
 refine W_cond (decide (x4 ≥ 0)) rfl (fun hc => ?_) (fun hc => ?_)
 ·have H := H.1 hc
  refine W_skip ?_
  refine W_block ?_
  refine W_seq ?_
  refine W_region ?_
  refine LP_ev ok 0 [(12, pb b)] 1 rfl rfl ?_
  refine LP_ldbox 1 (v := sl a g.Parents c) rfl rfl rfl ti_22 ag_22 (fun _ => rfl) rfl ex1 rfl rfl ?_
  refine LP_ev ok 2 [(14, I i2)] 3 rfl rfl ?_
  obtain ⟨x11, hi12, hx13, H⟩ := H
  refine LP_index 3 rfl rfl rfl Try.underlying22 ti_3 rfl rfl r hi12 hx13 fun a14 cs15 r16 d17 => ?_
  refine LP_load 4 rfl rfl rfl ti_3 ag_3 rfl r16 d17 ex8 fun vx18 r19 => ?_
  obtain rfl := r19.int
  refine LP_ev ok 5 [(1, I x11)] 6 rfl rfl ?_
  refine LP_end _ rfl ?_
  refine W_region ?_
  refine LP_ev ok 0 [(17, I n), (18, I (wr (n + 1))), (5, I (wr (n + 1)))] 3 rfl rfl ?_
  refine LP_end _ rfl ?_
  exact ⟨(x11, wr (n + 1)), ⟨H.1, _, env_eq ⟨rfl, rfl, rfl, trivial⟩, rfl⟩, H.2⟩
 have H := H.2 hc
 refine W_exit ?_
 refine (if_pos rfl).mpr ?_
 refine W_seq ?_
 refine W_region ?_
 refine LP_ev ok 0 [(19, I n), (4, I n)] 2 rfl rfl ?_
 refine LP_end _ rfl ?_
 refine W_ret ?_
 have X20 := (X.stepx x)
 exact ⟨_, Ret_of [I n] ⟨⟨rfl, rfl⟩, trivial⟩, _, H, rfl, X20.ext⟩

theorem spec_gLevel_w (g : Geo) (level : Int) (Q : (List Int) → Prop) (H : spec_gLevel g level Q) (w : World) {vx : Value} {hx : PH} (r : RS hx vx g.Parents) (ex : Sub hx w) :
  CallsTo Try.prog 68 #[.agg #[vx], I level] w fun v w' => ∃ r0 u0 g0, Q r0 ∧ v = u0 ∧ Ext w w' ∧ OS 3 g0 emp u0 r0 ∧ Sub g0 w' ∧ Fresh w.heap.size g0 := by
 obtain ⟨a, c, rfl⟩ := r.shape
 refine enter (args := [.agg #[sl a g.Parents c], I level]) 24 Try.func68 rfl rfl rfl ?_
 refine W_forget [(0, .agg #[sl a g.Parents c]), (1, I level)] ⟨rfl, rfl, trivial⟩ fun ρ => ?_
 have X := But.refl emp w
 refine W_seq ?_
 refine W_region ?_
 refine LP_box 0 (cs := [sl a g.Parents c]) rfl rfl rfl rfl rfl fun b wx x ex1 f => ?_
 refine LP_ev ok 1 [(4, .slice none 0 0)] 2 rfl rfl ?_
 refine LP_end _ rfl ?_
 refine W_seq ?_
 refine W_region ?_
 refine LP_ev ok 0 [(5, .slice none 0 0)] 1 rfl rfl ?_
 refine LP_end _ rfl ?_
 refine W_seq ?_
 refine W_seq ?_
 refine W_region ?_
 refine LP_ev ok 0 [(7, pb b)] 1 rfl rfl ?_
 refine LP_ldbox 1 (v := sl a g.Parents c) rfl rfl rfl ti_22 ag_22 (fun _ => rfl) rfl ex1 rfl rfl ?_
 refine LP_ev ok 2 [(9, I (ln g.Parents)), (10, I 0)] 4 rfl rfl ?_
 refine LP_end _ rfl ?_
 refine W_block ?_
 have X14 := (X.stepx x)
 have ex15 := (ex.ext x)
 obtain ⟨J, m, Hx, H⟩ := H
 refine W_loop (S := (List Int) × Int) (fun s ρ' w' => J s.1 s.2 ∧ ∃ (ρ : Env) (vx2 : Value) (hx3 : PH), ρ' = setAll [(1, I level), (2, pb b), (5, vx2), (9, I (ln g.Parents)), (10, I s.2)] ρ ∧ But emp w w' ∧ OS 3 hx3 emp vx2 s.1 ∧ Sub hx3 w' ∧ Fresh w.heap.size hx3 ∧ Sub hx w' ∧ Sub (bx b 32 [sl a g.Parents c]) w' ∧ Dj hx3 hx ∧ Dj hx3 (bx b 32 [sl a g.Parents c])) (fun s => m s.1 s.2) ([], 0) ⟨Hx, _, .slice none 0 0, emp, env_eq ⟨rfl, rfl, rfl, rfl, rfl, trivial⟩, X14, OS.nil, (emp_sub _), (emp_fresh _), ex15, ex1, (fun _ => .inl rfl), (fun _ => .inl rfl)⟩ ?_
 rintro ⟨out, x6⟩ _ wx7 ⟨Hi, ρ, vx2, hx3, rfl, HF⟩
 revert HF
 refine bb8 fun X13 o ex4 f5 ex8 ex9 d d12 => ?_
 have H := H out x6 Hi
 obtain ⟨a10, c11, rfl⟩ := o.shape
 refine W_seq ?_
 refine W_region ?_
 refine LP_ev ok 0 [(11, .bool (decide (x6 < (ln g.Parents))))] 1 rfl rfl ?_
 refine LP_end _ rfl ?_
 refine W_seq ?_
 refine W_cond (decide (x6 < (ln g.Parents))) rfl (fun hc => ?_) (fun hc => ?_)
 ·have H := H.1 hc
  refine W_skip ?_
  obtain ⟨k, hk, H⟩ := jn_elim H
  refine W_join2 (S := (List Int)) (fun s ρ' w' => k s ∧ ∃ (ρ : Env) (vx17 : Value) (hx18 : PH), ρ' = setAll [(1, I level), (2, pb b), (5, vx17), (9, I (ln g.Parents)), (10, I x6)] ρ ∧ But emp w w' ∧ OS 3 hx18 emp vx17 s ∧ Sub hx18 w' ∧ Fresh w.heap.size hx18 ∧ Sub hx w' ∧ Sub (bx b 32 [sl a g.Parents c]) w' ∧ Dj hx18 hx ∧ Dj hx18 (bx b 32 [sl a g.Parents c])) ?_ ?_
  ·refine W_block ?_
   refine W_seq ?_
   refine W_region ?_
   refine LP_ev ok 0 [(12, I x6), (6, I x6)] 2 rfl rfl ?_
   refine LP_end _ rfl ?_
   refine W_seq ?_
   refine W_region ?_
   refine LP_ldbox 0 (v := .agg #[sl a g.Parents c]) rfl rfl rfl ti_32 ag_32 (fun h => by cases h) rfl ex9 rfl rfl ?_
   refine LP_ev ok 1 [(14, I x6)] 2 rfl rfl ?_
   refine LP_call 2 rfl rfl rfl cal_99 rfl (spec_gDepth_w _ _ _ H wx7 r ex8) ?_
   rintro _ wx31 ⟨r30, H, rfl, x32⟩
   refine LP_ev ok 3 [(16, I level), (17, .bool (r30 == level))] 5 rfl rfl ?_
   refine LP_end _ rfl ?_
   refine W_cond (r30 == level) rfl (fun hc33 => ?_) (fun hc33 => ?_)
   ·have H := H.1 hc33
    refine W_region ?_
    refine LP_ev ok 0 [(18, sl a10 out c11), (19, I x6)] 2 rfl rfl ?_
    refine LP_lit (α := Int) (g := emp) 2 (vs := [I x6]) (xs := [x6]) rfl rfl rfl Try.underlying22 ti_3 rfl rfl ⟨⟨_, rfl, rfl⟩, trivial⟩ rfl rfl fun hx34 vx35 wx36 x37 o38 ex39 f40 => ?_
    obtain ⟨a41, c42, rfl⟩ := o38.shape
    have ex43 := ((ex4.ext x32).ext x37)
    obtain ⟨hb, H⟩ := H
    refine LP_appendf (α := Int) 3 rfl rfl rfl Try.underlying22 ti_3 rfl rfl rfl o ex43 o38.readf ex39 (by first | omega | (simp only [ln] at *; omega)) (by first | omega | (simp only [ln] at *; omega)) fun hx44 vx45 wx46 o47 ex48 y dm => ?_
    obtain ⟨a49, c50, rfl⟩ := o47.shape
    refine LP_ev ok 4 [(5, .slice a49 (List.length (out ++ ([x6]))) c50)] 5 rfl rfl ?_
    refine LP_end _ rfl ?_
    have X51 := (((X13.stepx x32).stepx x37).step y (f5.dom _))
    have X53 := ((X13.stepx x32).stepx x37)
    have f52 := dm.fresh f5 X53.size
    have ex54 := (((ex8.ext x32).ext x37).but y d)
    have ex55 := (((ex9.ext x32).ext x37).but y d12)
    have ex56 := ((ex8.ext x32).ext x37)
    have ex57 := ((ex9.ext x32).ext x37)
    exact ⟨out ++ ([x6]), H, _, .slice a49 (List.length (out ++ ([x6]))) c50, hx44, env_eq ⟨rfl, rfl, rfl, rfl, rfl, trivial⟩, X51, o47, ex48, f52, ex54, ex55, (DomLe.dj dm d ex56), (DomLe.dj dm d12 ex57)⟩
   have H := H.2 hc33
   refine W_skip ?_
   have X58 := (X13.stepx x32)
   have ex59 := (ex4.ext x32)
   have ex60 := (ex8.ext x32)
   have ex61 := (ex9.ext x32)
   exact ⟨out, H, _, sl a10 out c11, hx3, env_eq ⟨rfl, rfl, rfl, rfl, rfl, trivial⟩, X58, o, ex59, f5, ex60, ex61, d, d12⟩
  rintro out16 _ wx22 ⟨H, ρ, vx17, hx18, rfl, HF⟩
  revert HF
  refine bb8 fun X29 o19 ex20 f21 ex23 ex24 d27 d28 => ?_
  subst hk
  obtain ⟨a25, c26, rfl⟩ := o19.shape
  refine W_region ?_
  refine LP_ev ok 0 [(22, I (wr (x6 + 1))), (10, I (wr (x6 + 1)))] 2 rfl rfl ?_
  refine LP_end _ rfl ?_
  exact ⟨(out16, wr (x6 + 1)), ⟨H.1, _, sl a25 out16 c26, hx18, env_eq ⟨rfl, rfl, rfl, rfl, rfl, trivial⟩, X29, o19, ex20, f21, ex23, ex24, d27, d28⟩, H.2⟩
 have H := H.2 hc
 refine W_exit ?_
 refine (if_pos rfl).mpr ?_
 refine W_seq ?_
 refine W_region ?_
 refine LP_ev ok 0 [(23, sl a10 out c11), (4, sl a10 out c11)] 2 rfl rfl ?_
 refine LP_end _ rfl ?_
 refine W_ret ?_
 exact ⟨_, Ret_of [sl a10 out c11] ⟨⟨rfl, rfl⟩, trivial⟩, _, _, _, H, rfl, X13.ext, o, ex4, f5⟩

theorem spec_l1Rising_w (l : List Int) (lo : Int) (hi : Int) (Q : Bool → Prop) (H : spec_l1Rising l lo hi Q) (w : World) {vx : Value} {hx : PH} (r : RS hx vx l) (ex : Sub hx w) :
  CallsTo Try.prog 69 #[vx, I lo, I hi] w fun v w' => ∃ r0, Q r0 ∧ v = .bool r0 ∧ Ext w w' := by
 obtain ⟨a, c, rfl⟩ := r.shape
 refine enter (args := [sl a l c, I lo, I hi]) 35 Try.func69 rfl rfl rfl ?_
 refine W_forget [(0, sl a l c), (1, I lo), (2, I hi)] ⟨rfl, rfl, rfl, trivial⟩ fun ρ => ?_
 have X := But.refl emp w
 refine W_seq ?_
 refine W_region ?_
 refine LP_ev ok 0 [(6, .bool false)] 1 rfl rfl ?_
 refine LP_end _ rfl ?_
 refine W_seq ?_
 refine W_seq ?_
 refine W_region ?_
 refine LP_ev ok 0 [(9, sl a l c), (10, I (ln l)), (11, I 0)] 3 rfl rfl ?_
 refine LP_end _ rfl ?_
 refine W_block ?_
 obtain ⟨J, m, Hx, H⟩ := H
 refine W_loop (S := Int) (fun s ρ' w' => J s ∧ ∃ (ρ : Env), ρ' = setAll [(0, sl a l c), (1, I lo), (2, I hi), (9, sl a l c), (10, I (ln l)), (11, I s)] ρ ∧ But emp w w' ∧ Sub hx w') (fun s => m s) 0 ⟨Hx, _, env_eq ⟨rfl, rfl, rfl, rfl, rfl, rfl, trivial⟩, X, ex⟩ ?_
 rintro x _ wx ⟨Hi, ρ, rfl, X2, ex1⟩
 have H := H x Hi
 refine W_seq ?_
 refine W_region ?_
 refine LP_ev ok 0 [(12, .bool (decide (x < (ln l))))] 1 rfl rfl ?_
 refine LP_end _ rfl ?_
 refine W_seq ?_
 refine W_cond (decide (x < (ln l))) rfl (fun hc => ?_) (fun hc => ?_)
 ·have H := H.1 hc
  refine W_skip ?_
  refine W_seq ?_
  refine W_block ?_
  refine W_seq ?_
  refine W_region ?_
  refine LP_ev ok 0 [(13, I x)] 1 rfl rfl ?_
  obtain ⟨x3, hi4, hx5, H⟩ := H
  refine LP_index 1 rfl rfl rfl Try.underlying22 ti_3 rfl rfl r hi4 hx5 fun a6 cs r7 d => ?_
  refine LP_load 2 rfl rfl rfl ti_3 ag_3 rfl r7 d ex1 fun vx8 r9 => ?_
  obtain rfl := r9.int
  refine LP_ev ok 3 [(7, I x), (8, I x3)] 5 rfl rfl ?_
  refine LP_end _ rfl ?_
  obtain ⟨k, hk, H⟩ := jn_elim H
  refine W_join2 (S := Bool) (fun s ρ' w' => k s ∧ ∃ (ρ : Env), ρ' = setAll [(0, sl a l c), (1, I lo), (2, I hi), (9, sl a l c), (10, I (ln l)), (11, I x), (33, .bool s)] ρ ∧ But emp w w' ∧ Sub hx w') ?_ ?_
  ·refine W_region ?_
   refine LP_ev ok 0 [(16, I x3), (17, I lo), (18, I hi)] 3 rfl rfl ?_
   refine LP_call 3 rfl rfl rfl cal_28 rfl (spec_l1In_w _ _ _ _ H wx ) ?_
   rintro _ wx15 ⟨r14, H, rfl, x16⟩
   refine LP_ev ok 4 [(20, .bool (!r14)), (21, .bool (!r14))] 6 rfl rfl ?_
   refine LP_split 21 (!r14) rfl (fun hc17 => ?_) (fun hc17 => ?_)
   ·have H := H.1 hc17
    refine LP_ev ok 6 [(22, undef), (23, undef), (24, undef), (25, undef), (26, undef), (27, undef), (28, undef), (29, undef), (30, undef), (31, undef), (32, undef), (33, .bool true)] 18 rfl rfl ?_
    refine LP_end _ rfl ?_
    have X18 := (X2.stepx x16)
    have ex19 := (ex1.ext x16)
    exact ⟨true, H, _, env_eq ⟨rfl, rfl, rfl, rfl, rfl, rfl, rfl, trivial⟩, X18, ex19⟩
   have H := H.2 hc17
   refine LP_ev ok 6 [(22, I x), (23, .bool (decide (x > 0))), (24, .bool (decide (x > 0)))] 9 rfl rfl ?_
   refine LP_split 24 (decide (x > 0)) rfl (fun hc20 => ?_) (fun hc20 => ?_)
   ·have H := H.1 hc20
    refine LP_ev ok 9 [(25, sl a l c), (26, I x), (27, I (wr (x - 1)))] 12 rfl rfl ?_
    obtain ⟨x21, hi22, hx23, H⟩ := H
    refine LP_index 12 rfl rfl rfl Try.underlying22 ti_3 rfl rfl r hi22 hx23 fun a24 cs25 r26 d27 => ?_
    have ex28 := (ex1.ext x16)
    refine LP_load 13 rfl rfl rfl ti_3 ag_3 rfl r26 d27 ex28 fun vx29 r30 => ?_
    obtain rfl := r30.int
    refine LP_ev ok 14 [(30, I x3), (31, .bool (decide (x21 ≥ x3))), (32, .bool (decide (x21 ≥ x3))), (33, .bool (decide (x21 ≥ x3)))] 18 rfl rfl ?_
    refine LP_end _ rfl ?_
    have X31 := (X2.stepx x16)
    exact ⟨decide (x21 ≥ x3), H, _, env_eq ⟨rfl, rfl, rfl, rfl, rfl, rfl, rfl, trivial⟩, X31, ex28⟩
   have H := H.2 hc20
   refine LP_ev ok 9 [(25, undef), (26, undef), (27, undef), (28, undef), (29, undef), (30, undef), (31, undef), (32, .bool false), (33, .bool false)] 18 rfl rfl ?_
   refine LP_end _ rfl ?_
   have X32 := (X2.stepx x16)
   have ex33 := (ex1.ext x16)
   exact ⟨false, H, _, env_eq ⟨rfl, rfl, rfl, rfl, rfl, rfl, rfl, trivial⟩, X32, ex33⟩
  rintro x10 _ wx11 ⟨H, ρ, rfl, X13, ex12⟩
  subst hk
  refine W_cond (x10) rfl (fun hc34 => ?_) (fun hc34 => ?_)
  ·have H := H.1 hc34
   refine W_seq ?_
   refine W_region ?_
   refine LP_ev ok 0 [(6, .bool false)] 1 rfl rfl ?_
   refine LP_end _ rfl ?_
   refine W_ret ?_
   exact ⟨_, Ret_of [.bool false] ⟨⟨rfl, rfl⟩, trivial⟩, _, H, rfl, X13.ext⟩
  have H := H.2 hc34
  refine W_skip ?_
  refine W_region ?_
  refine LP_ev ok 0 [(34, I (wr (x + 1))), (11, I (wr (x + 1)))] 2 rfl rfl ?_
  refine LP_end _ rfl ?_
  exact ⟨wr (x + 1), ⟨H.1, _, env_eq ⟨rfl, rfl, rfl, rfl, rfl, rfl, trivial⟩, X13, ex12⟩, H.2⟩
 have H := H.2 hc
 refine W_exit ?_
 refine (if_pos rfl).mpr ?_
 refine W_seq ?_
 refine W_region ?_
 refine LP_ev ok 0 [(6, .bool true)] 1 rfl rfl ?_
 refine LP_end _ rfl ?_
 refine W_ret ?_
 exact ⟨_, Ret_of [.bool true] ⟨⟨rfl, rfl⟩, trivial⟩, _, H, rfl, X2.ext⟩

theorem spec_uWhere_w (sx : List Variable) (wherex : List Int) (Q : Bool → Prop) (H : spec_uWhere sx wherex Q) (w : World) {vx : Value} {hx : PH} (r : RS hx vx sx) (ex : Sub hx w) {vx1 : Value} {hx2 : PH} (r3 : RS hx2 vx1 wherex) (ex4 : Sub hx2 w) :
  CallsTo Try.prog 70 #[vx, vx1] w fun v w' => ∃ r0, Q r0 ∧ v = .bool r0 ∧ Ext w w' := by
 obtain ⟨a, c, rfl⟩ := r.shape
 obtain ⟨a5, c6, rfl⟩ := r3.shape
 refine enter (args := [sl a sx c, sl a5 wherex c6]) 31 Try.func70 rfl rfl rfl ?_
 refine W_forget [(0, sl a sx c), (1, sl a5 wherex c6)] ⟨rfl, rfl, trivial⟩ fun ρ => ?_
 have X := But.refl emp w
 refine W_seq ?_
 refine W_region ?_
 refine LP_ev ok 0 [(4, .bool false)] 1 rfl rfl ?_
 refine LP_end _ rfl ?_
 refine W_seq ?_
 refine W_seq ?_
 refine W_region ?_
 refine LP_ev ok 0 [(7, sl a5 wherex c6), (8, I (ln wherex)), (9, sl a sx c), (10, I (ln sx)), (11, .bool ((ln wherex) != (ln sx)))] 5 rfl rfl ?_
 refine LP_end _ rfl ?_
 refine W_cond ((ln wherex) != (ln sx)) rfl (fun hc => ?_) (fun hc => ?_)
 ·have H := H.1 hc
  refine W_seq ?_
  refine W_region ?_
  refine LP_ev ok 0 [(4, .bool false)] 1 rfl rfl ?_
  refine LP_end _ rfl ?_
  refine W_ret ?_
  exact ⟨_, Ret_of [.bool false] ⟨⟨rfl, rfl⟩, trivial⟩, _, H, rfl, X.ext⟩
 have H := H.2 hc
 refine W_skip ?_
 refine W_seq ?_
 refine W_seq ?_
 refine W_region ?_
 refine LP_ev ok 0 [(12, sl a sx c), (13, I (ln sx)), (14, I 0)] 3 rfl rfl ?_
 refine LP_end _ rfl ?_
 refine W_block ?_
 obtain ⟨J, m, Hx, H⟩ := H
 refine W_loop (S := Int) (fun s ρ' w' => J s ∧ ∃ (ρ : Env), ρ' = setAll [(1, sl a5 wherex c6), (12, sl a sx c), (13, I (ln sx)), (14, I s)] ρ ∧ But emp w w' ∧ Sub hx w' ∧ Sub hx2 w') (fun s => m s) 0 ⟨Hx, _, env_eq ⟨rfl, rfl, rfl, rfl, trivial⟩, X, ex, ex4⟩ ?_
 rintro x _ wx ⟨Hi, ρ, rfl, X9, ex7, ex8⟩
 have H := H x Hi
 refine W_seq ?_
 refine W_region ?_
 refine LP_ev ok 0 [(15, .bool (decide (x < (ln sx))))] 1 rfl rfl ?_
 refine LP_end _ rfl ?_
 refine W_seq ?_
 refine W_cond (decide (x < (ln sx))) rfl (fun hc10 => ?_) (fun hc10 => ?_)
 ·have H := H.1 hc10
  refine W_skip ?_
  refine W_seq ?_
  refine W_block ?_
  refine W_seq ?_
  refine W_region ?_
  refine LP_ev ok 0 [(16, I x)] 1 rfl rfl ?_
  obtain ⟨x11, hi, hx12, H⟩ := H
  refine LP_index 1 rfl rfl rfl Try.underlying34 ti_66 rfl rfl r hi hx12 fun a13 cs r14 d => ?_
  refine LP_load 2 rfl rfl rfl ti_66 ag_66 rfl r14 d ex7 fun vx15 r16 => ?_
  obtain rfl := Variable_rv r16
  refine LP_alloc 3 rfl rfl rfl ti_66 rfl fun b wx17 x18 ex19 f => ?_
  refine LP_ev ok 4 [(5, I x)] 5 rfl rfl ?_
  refine LP_stbox 5 (vs := [.string x11.Name, I x11.Levels]) (cs' := [.string x11.Name, I x11.Levels]) rfl rfl rfl ti_66 rfl rfl rfl rfl rfl ex19 rfl rfl fun wx20 ex21 y => ?_
  refine LP_end _ rfl ?_
  refine W_seq ?_
  refine W_quiet mix (by kernel_rfl) ?_
  refine QP_ev ok 0 [(19, sl a5 wherex c6), (20, I x)] 2 rfl rfl ?_
  obtain ⟨x22, hi23, hx24, H⟩ := H
  refine QP_index 2 rfl rfl rfl Try.underlying22 ti_3 rfl rfl r3 hi23 hx24 fun a25 cs26 r27 d28 => ?_
  have ex29 := ((ex8.ext x18).but y (Dj.of_fresh ex8 f).symm)
  refine QP_load 3 rfl rfl rfl ti_3 ag_3 rfl r27 d28 ex29 fun vx30 r31 => ?_
  obtain rfl := r31.int
  refine QP_ev ok 4 [(23, .pointer (some ⟨b, 1, none⟩))] 5 rfl rfl ?_
  refine QP_ldbox 5 (v := I x11.Levels) rfl rfl rfl ti_3 ag_3 (fun _ => rfl) rfl ex21 rfl rfl ?_
  refine QP_ev ok 6 [(25, .int .u64 (IntKind.u64.wrap (x11.Levels)))] 7 rfl rfl ?_
  obtain ⟨hz, H⟩ := H
  refine QP_val 7 _ rfl rfl (fun _ _ => ex_shl rfl rfl rfl hz _) ?_
  refine QP_ev ok 8 [(27, I (wr ((shl .i64 1 (IntKind.u64.wrap (x11.Levels))) - 1)))] 9 rfl rfl ?_
  obtain ⟨r32, Hd, H⟩ := H
  refine QP_call (.bool r32) 9 rfl rfl rfl cal_28 rfl (fun wx33 x34 => (spec_l1In_w _ _ _ _ Hd wx33 ).mono ?_) ?_
  ·rintro _ _ ⟨_, rfl, rfl, x⟩; exact ⟨rfl, x⟩
  refine QP_ev ok 10 [(29, .bool (!r32))] 11 rfl rfl ?_
  refine QP_end _ rfl fun wx35 x36 => ?_
  refine W_cond (!r32) rfl (fun hc37 => ?_) (fun hc37 => ?_)
  ·have H := H.1 hc37
   refine W_seq ?_
   refine W_region ?_
   refine LP_ev ok 0 [(4, .bool false)] 1 rfl rfl ?_
   refine LP_end _ rfl ?_
   refine W_ret ?_
   have f38 := f.mono X9.size
   have X39 := (((X9.stepx x18).step y (f38.dom _)).stepx x36)
   exact ⟨_, Ret_of [.bool false] ⟨⟨rfl, rfl⟩, trivial⟩, _, H, rfl, X39.ext⟩
  have H := H.2 hc37
  refine W_skip ?_
  refine W_region ?_
  refine LP_ev ok 0 [(30, I (wr (x + 1))), (14, I (wr (x + 1)))] 2 rfl rfl ?_
  refine LP_end _ rfl ?_
  have f40 := f.mono X9.size
  have X41 := (((X9.stepx x18).step y (f40.dom _)).stepx x36)
  have ex42 := (((ex7.ext x18).but y (Dj.of_fresh ex7 f).symm).ext x36)
  have ex43 := (ex29.ext x36)
  exact ⟨wr (x + 1), ⟨H.1, _, env_eq ⟨rfl, rfl, rfl, rfl, trivial⟩, X41, ex42, ex43⟩, H.2⟩
 have H := H.2 hc10
 refine W_exit ?_
 refine (if_pos rfl).mpr ?_
 refine W_seq ?_
 refine W_region ?_
 refine LP_ev ok 0 [(4, .bool true)] 1 rfl rfl ?_
 refine LP_end _ rfl ?_
 refine W_ret ?_
 exact ⟨_, Ret_of [.bool true] ⟨⟨rfl, rfl⟩, trivial⟩, _, H, rfl, X9.ext⟩

theorem spec_sPart_w (sx : List Variable) (vars : List Int) (Q : (List Variable) → Prop) (H : spec_sPart sx vars Q) (w : World) {vx : Value} {hx : PH} (r : RS hx vx sx) (ex : Sub hx w) {vx1 : Value} {hx2 : PH} (r3 : RS hx2 vx1 vars) (ex4 : Sub hx2 w) :
  CallsTo Try.prog 72 #[vx, vx1] w fun v w' => ∃ r0 u0 g0, Q r0 ∧ v = u0 ∧ Ext w w' ∧ OS 66 g0 emp u0 r0 ∧ Sub g0 w' ∧ Fresh w.heap.size g0 := by
 obtain ⟨a, c, rfl⟩ := r.shape
 obtain ⟨a5, c6, rfl⟩ := r3.shape
 refine enter (args := [sl a sx c, sl a5 vars c6]) 23 Try.func72 rfl rfl rfl ?_
 refine W_forget [(0, sl a sx c), (1, sl a5 vars c6)] ⟨rfl, rfl, trivial⟩ fun ρ => ?_
 have X := But.refl emp w
 refine W_seq ?_
 refine W_region ?_
 refine LP_ev ok 0 [(4, .slice none 0 0)] 1 rfl rfl ?_
 refine LP_end _ rfl ?_
 refine W_seq ?_
 refine W_region ?_
 refine LP_ev ok 0 [(5, .slice none 0 0)] 1 rfl rfl ?_
 refine LP_end _ rfl ?_
 refine W_seq ?_
 refine W_seq ?_
 refine W_region ?_
 refine LP_ev ok 0 [(8, sl a5 vars c6), (9, I (ln vars)), (10, I 0)] 3 rfl rfl ?_
 refine LP_end _ rfl ?_
 refine W_block ?_
 obtain ⟨J, m, Hx, H⟩ := H
 refine W_loop (S := (List Variable) × Int) (fun s ρ' w' => J s.1 s.2 ∧ ∃ (ρ : Env) (vx7 : Value) (hx8 : PH), ρ' = setAll [(0, sl a sx c), (5, vx7), (8, sl a5 vars c6), (9, I (ln vars)), (10, I s.2)] ρ ∧ But emp w w' ∧ OS 66 hx8 emp vx7 s.1 ∧ Sub hx8 w' ∧ Fresh w.heap.size hx8 ∧ Sub hx w' ∧ Sub hx2 w' ∧ Dj hx8 hx ∧ Dj hx8 hx2) (fun s => m s.1 s.2) ([], 0) ⟨Hx, _, .slice none 0 0, emp, env_eq ⟨rfl, rfl, rfl, rfl, rfl, trivial⟩, X, OS.nil, (emp_sub _), (emp_fresh _), ex, ex4, (fun _ => .inl rfl), (fun _ => .inl rfl)⟩ ?_
 rintro ⟨out, x⟩ _ wx ⟨Hi, ρ, vx7, hx8, rfl, HF⟩
 revert HF
 refine bb8 fun X15 o ex9 f ex10 ex11 d d14 => ?_
 have H := H out x Hi
 obtain ⟨a12, c13, rfl⟩ := o.shape
 refine W_seq ?_
 refine W_region ?_
 refine LP_ev ok 0 [(11, .bool (decide (x < (ln vars))))] 1 rfl rfl ?_
 refine LP_end _ rfl ?_
 refine W_seq ?_
 refine W_cond (decide (x < (ln vars))) rfl (fun hc => ?_) (fun hc => ?_)
 ·have H := H.1 hc
  refine W_skip ?_
  refine W_seq ?_
  refine W_block ?_
  refine W_seq ?_
  refine W_region ?_
  obtain ⟨x16, hi, hx17, H⟩ := H
  refine LP_index 0 rfl rfl rfl Try.underlying22 ti_3 rfl rfl r3 hi hx17 fun a18 cs r19 d20 => ?_
  refine LP_load 1 rfl rfl rfl ti_3 ag_3 rfl r19 d20 ex11 fun vx21 r22 => ?_
  obtain rfl := r22.int
  refine LP_ev ok 2 [(7, I x16)] 3 rfl rfl ?_
  refine LP_end _ rfl ?_
  refine W_region ?_
  refine LP_ev ok 0 [(14, sl a12 out c13), (15, sl a sx c), (16, I x16)] 3 rfl rfl ?_
  obtain ⟨x23, hi24, hx25, H⟩ := H
  refine LP_index 3 rfl rfl rfl Try.underlying34 ti_66 rfl rfl r hi24 hx25 fun a26 cs27 r28 d29 => ?_
  refine LP_load 4 rfl rfl rfl ti_66 ag_66 rfl r28 d29 ex10 fun vx30 r31 => ?_
  obtain rfl := Variable_rv r31
  refine LP_lit (α := Variable) (g := emp) 5 (vs := [.agg #[.string x23.Name, I x23.Levels]]) (xs := [x23]) rfl rfl rfl Try.underlying34 ti_66 rfl rfl ⟨⟨_, rfl, rfl⟩, trivial⟩ rfl rfl fun hx32 vx33 wx34 x35 o36 ex37 f38 => ?_
  obtain ⟨a39, c40, rfl⟩ := o36.shape
  have ex41 := (ex9.ext x35)
  obtain ⟨hb, H⟩ := H
  refine LP_appendf (α := Variable) 6 rfl rfl rfl Try.underlying34 ti_66 rfl rfl rfl o ex41 o36.readf ex37 (by first | omega | (simp only [ln] at *; omega)) (by first | omega | (simp only [ln] at *; omega)) fun hx42 vx43 wx44 o45 ex46 y dm => ?_
  obtain ⟨a47, c48, rfl⟩ := o45.shape
  refine LP_ev ok 7 [(5, .slice a47 (List.length (out ++ ([x23]))) c48)] 8 rfl rfl ?_
  refine LP_end _ rfl ?_
  refine W_region ?_
  refine LP_ev ok 0 [(21, I (wr (x + 1))), (10, I (wr (x + 1)))] 2 rfl rfl ?_
  refine LP_end _ rfl ?_
  have X49 := ((X15.stepx x35).step y (f.dom _))
  have X51 := (X15.stepx x35)
  have f50 := dm.fresh f X51.size
  have ex52 := ((ex10.ext x35).but y d)
  have ex53 := ((ex11.ext x35).but y d14)
  have ex54 := (ex10.ext x35)
  have ex55 := (ex11.ext x35)
  exact ⟨(out ++ ([x23]), wr (x + 1)), ⟨H.1, _, .slice a47 (List.length (out ++ ([x23]))) c48, hx42, env_eq ⟨rfl, rfl, rfl, rfl, rfl, trivial⟩, X49, o45, ex46, f50, ex52, ex53, (DomLe.dj dm d ex54), (DomLe.dj dm d14 ex55)⟩, H.2⟩
 have H := H.2 hc
 refine W_exit ?_
 refine (if_pos rfl).mpr ?_
 refine W_seq ?_
 refine W_region ?_
 refine LP_ev ok 0 [(22, sl a12 out c13), (4, sl a12 out c13)] 2 rfl rfl ?_
 refine LP_end _ rfl ?_
 refine W_ret ?_
 exact ⟨_, Ret_of [sl a12 out c13] ⟨⟨rfl, rfl⟩, trivial⟩, _, _, _, H, rfl, X15.ext, o, ex9, f⟩

theorem spec_uCount_w (g : Geo) (sx : List Variable) (t : Table) (Q : Int → Prop) (H : spec_uCount g sx t Q) (w : World) {vx : Value} {hx : PH} (r : RS hx vx g.Parents) (ex : Sub hx w) {vx1 : Value} {hx2 : PH} (r3 : RS hx2 vx1 sx) (ex4 : Sub hx2 w) {vx7 : Value} {hx8 : PH} (r9 : RS hx8 vx7 t.Vars) (ex10 : Sub hx8 w) {vx13 : Value} {hx14 : PH} (r15 : RS hx14 vx13 t.Where) (ex16 : Sub hx14 w) :
  CallsTo Try.prog 43 #[.agg #[vx], vx1, .agg #[I t.Level, vx7, vx13, I t.Sum]] w fun v w' => ∃ r0, Q r0 ∧ v = I r0 ∧ Ext w w' := by
 obtain ⟨a, c, rfl⟩ := r.shape
 obtain ⟨a5, c6, rfl⟩ := r3.shape
 obtain ⟨a11, c12, rfl⟩ := r9.shape
 obtain ⟨a17, c18, rfl⟩ := r15.shape
 refine enter (args := [.agg #[sl a g.Parents c], sl a5 sx c6, .agg #[I t.Level, sl a11 t.Vars c12, sl a17 t.Where c18, I t.Sum]]) 18 Try.func43 rfl rfl rfl ?_
 refine W_forget [(0, .agg #[sl a g.Parents c]), (1, sl a5 sx c6), (2, .agg #[I t.Level, sl a11 t.Vars c12, sl a17 t.Where c18, I t.Sum])] ⟨rfl, rfl, rfl, trivial⟩ fun ρ => ?_
 have X := But.refl emp w
 refine W_seq ?_
 refine W_region ?_
 refine LP_box 0 (cs := [sl a g.Parents c]) rfl rfl rfl rfl rfl fun b wx x ex19 f => ?_
 refine LP_box 1 (cs := [I t.Level, sl a11 t.Vars c12, sl a17 t.Where c18, I t.Sum]) rfl rfl rfl rfl rfl fun b20 wx21 x22 ex23 f24 => ?_
 refine LP_ev ok 2 [(6, I 0)] 3 rfl rfl ?_
 refine LP_end _ rfl ?_
 refine W_seq ?_
 refine W_open mix fun wx25 x26 => ?_
 refine AP_game 10 [[], [], [1], [0, 1, 2], [0, 1, 2, 3], [], [], [6], [0, 1, 2, 3, 5, 6, 7], [0, 1, 2, 3, 5, 6, 7, 8], [0, 1, 2, 3, 4, 5, 6, 7, 8, 9], [0, 1, 2, 3, 4, 5, 6, 7, 8, 9, 10]] [[(3, none)], [(5, none)], [(8, some 1)], [(7, some 0), (9, some 2)], [(10, some 3)], [(1, none)], [(5, none)], [(13, some 6)], [(12, some 5), (14, some 7)], [(15, some 8)]] [(6, none), (11, some 4), (16, some 9)] [(0, false), (1, false), (2, false), (5, false), (6, false), (7, false), (3, true), (4, false), (8, true), (9, false)] (by kernel_rfl) (by kernel_rfl) ?_
 have ex27 := ((ex19.ext x22).ext x26)
 refine GS_r1 [(3, pb b)] (.agg #[sl a g.Parents c]) rfl rfl (fun _ h => h) (fun _ w e => ex_ldbox rfl ti_32 ag_32 (fun h => by cases h) rfl e rfl rfl) ex27 ?_
 refine GS_ev ok [(5, pb b20)] (pb b20) rfl rfl (fun _ h => h) (fun _ => rfl) ?_
 have ex28 := (ex23.ext x26)
 refine GS_r1 [(8, pb b20)] (I t.Level) rfl rfl (fun _ h => h) (fun _ w e => ex_ldbox rfl ti_3 ag_3 (fun _ => rfl) rfl e rfl rfl) ex28 ?_
 refine GS_ev ok [(1, sl a5 sx c6)] (sl a5 sx c6) rfl rfl (fun _ h => h) (fun _ => rfl) ?_
 refine GS_ev ok [(5, pb b20)] (.pointer (some ⟨b20, 1, none⟩)) rfl rfl (fun _ h => h) (fun _ => rfl) ?_
 refine GS_r1 [(13, .pointer (some ⟨b20, 1, none⟩))] (sl a11 t.Vars c12) rfl rfl (fun _ h => h) (fun _ w e => ex_ldbox rfl ti_22 ag_22 (fun _ => rfl) rfl e rfl rfl) ex28 ?_
 refine GS_lp [(7, .agg #[sl a g.Parents c]), (9, I t.Level)] rfl rfl (fun _ h => h) rfl fun ρ wx29 x30 => ?_
 have ex32 := ((((ex.ext x).ext x22).ext x26).ext x30)
 refine LP_call 0 rfl rfl rfl cal_68 rfl (spec_gLevel_w _ _ _ H wx29 r ex32) ?_
 rintro _ wx33 ⟨r31, vx35, hx36, H, rfl, x34, o, ex37, f38⟩
 obtain ⟨a39, c40, rfl⟩ := o.shape
 have ex41 := ((ex28.ext x30).ext x34)
 refine LP_gs ⟨⟨.inr ex41, .inl rfl, .inl rfl, trivial⟩, ?_⟩
 refine GS_ev ok [(10, sl a39 r31 c40)] (I (ln r31)) rfl rfl (fun _ h => h) (fun _ => rfl) ?_
 refine GS_lp [(12, sl a5 sx c6), (14, sl a11 t.Vars c12)] rfl rfl (fun _ h => h) rfl fun ρ wx42 x43 => ?_
 have ex45 := ((((((ex4.ext x).ext x22).ext x26).ext x30).ext x34).ext x43)
 have ex46 := ((((((ex10.ext x).ext x22).ext x26).ext x30).ext x34).ext x43)
 refine LP_call 0 rfl rfl rfl cal_72 rfl (spec_sPart_w _ _ _ H wx42 r3 ex45 r9 ex46) ?_
 rintro _ wx47 ⟨r44, vx49, hx50, H, rfl, x48, o51, ex52, f53⟩
 obtain ⟨a54, c55, rfl⟩ := o51.shape
 refine LP_gs ⟨⟨.inl rfl, .inl rfl, .inl rfl, trivial⟩, ?_⟩
 obtain ⟨r56, Hd, H⟩ := H
 refine GS_q [(15, sl a54 r44 c55)] (I r56) [hx50] [sl a54 r44 c55] rfl rfl (fun _ h => h) rfl cal_71 (fun _ => rfl) (fun w e => (spec_sCount_w _ _ Hd w o51.readf e.1).mono (fun _ _ h => by obtain ⟨_, rfl, rfl, x⟩ := h; exact ⟨rfl, x⟩)) ⟨ex52, trivial⟩ ?_
 intro wx57 x58 ρ hn
 refine AP_forget [(6, I 0), (11, I (ln r31)), (16, I r56)] (by exact hn) fun ρ => ?_
 refine AP_tail 10 [[], [], [1], [0, 1, 2], [0, 1, 2, 3], [], [], [6], [0, 1, 2, 3, 5, 6, 7], [0, 1, 2, 3, 5, 6, 7, 8], [0, 1, 2, 3, 4, 5, 6, 7, 8, 9], [0, 1, 2, 3, 4, 5, 6, 7, 8, 9, 10]] (by kernel_rfl) ?_
 refine LP_ev ok 10 [(17, I (wr ((ln r31) * r56))), (6, I (wr ((ln r31) * r56)))] 12 rfl rfl ?_
 refine LP_end _ rfl ?_
 refine W_ret ?_
 have X59 := ((((((((X.stepx x).stepx x22).stepx x26).stepx x30).stepx x34).stepx x43).stepx x48).stepx x58)
 exact ⟨_, Ret_of [I (wr ((ln r31) * r56))] ⟨⟨rfl, rfl⟩, trivial⟩, _, H, rfl, X59.ext⟩

theorem spec_uGood_w (g : Geo) (sx : List Variable) (t : Table) (Q : Bool → Prop) (H : spec_uGood g sx t Q) (w : World) {vx : Value} {hx : PH} (r : RS hx vx g.Parents) (ex : Sub hx w) {vx1 : Value} {hx2 : PH} (r3 : RS hx2 vx1 sx) (ex4 : Sub hx2 w) {vx7 : Value} {hx8 : PH} (r9 : RS hx8 vx7 t.Vars) (ex10 : Sub hx8 w) {vx13 : Value} {hx14 : PH} (r15 : RS hx14 vx13 t.Where) (ex16 : Sub hx14 w) :
  CallsTo Try.prog 42 #[.agg #[vx], vx1, .agg #[I t.Level, vx7, vx13, I t.Sum]] w fun v w' => ∃ r0, Q r0 ∧ v = .bool r0 ∧ Ext w w' := by
 obtain ⟨a, c, rfl⟩ := r.shape
 obtain ⟨a5, c6, rfl⟩ := r3.shape
 obtain ⟨a11, c12, rfl⟩ := r9.shape
 obtain ⟨a17, c18, rfl⟩ := r15.shape
 refine enter (args := [.agg #[sl a g.Parents c], sl a5 sx c6, .agg #[I t.Level, sl a11 t.Vars c12, sl a17 t.Where c18, I t.Sum]]) 53 Try.func42 rfl rfl rfl ?_
 refine W_forget [(0, .agg #[sl a g.Parents c]), (1, sl a5 sx c6), (2, .agg #[I t.Level, sl a11 t.Vars c12, sl a17 t.Where c18, I t.Sum])] ⟨rfl, rfl, rfl, trivial⟩ fun ρ => ?_
 have X := But.refl emp w
 refine W_seq ?_
 refine W_region ?_
 refine LP_box 0 (cs := [sl a g.Parents c]) rfl rfl rfl rfl rfl fun b wx x ex19 f => ?_
 refine LP_box 1 (cs := [I t.Level, sl a11 t.Vars c12, sl a17 t.Where c18, I t.Sum]) rfl rfl rfl rfl rfl fun b20 wx21 x22 ex23 f24 => ?_
 refine LP_ev ok 2 [(6, .bool false)] 3 rfl rfl ?_
 refine LP_end _ rfl ?_
 refine W_seq ?_
 obtain ⟨k, hk, H⟩ := jn_elim H
 refine W_join2 (S := Bool) (fun s ρ' w' => k s ∧ ∃ (ρ : Env), ρ' = setAll [(1, sl a5 sx c6), (3, pb b), (5, pb b20), (47, .bool s)] ρ ∧ But emp w w' ∧ Sub hx w' ∧ Sub hx2 w' ∧ Sub hx8 w' ∧ Sub hx14 w' ∧ Sub (bx b 32 [sl a g.Parents c]) w' ∧ Sub (bx b20 50 [I t.Level, sl a11 t.Vars c12, sl a17 t.Where c18, I t.Sum]) w') ?_ ?_
 ·refine W_region ?_
  have ex34 := (ex19.ext x22)
  refine LP_ldbox 0 (v := .agg #[sl a g.Parents c]) rfl rfl rfl ti_32 ag_32 (fun h => by cases h) rfl ex34 rfl rfl ?_
  have ex36 := ((ex.ext x).ext x22)
  refine LP_call 1 rfl rfl rfl cal_66 rfl (spec_gGood_w _ _ H wx21 r ex36) ?_
  rintro _ wx37 ⟨r35, H, rfl, x38⟩
  refine LP_ev ok 2 [(9, .bool (!r35)), (10, .bool (!r35))] 4 rfl rfl ?_
  refine LP_split 10 (!r35) rfl (fun hc => ?_) (fun hc => ?_)
  ·have H := H.1 hc
   refine LP_ev ok 4 [(11, undef), (12, undef), (13, undef), (14, .bool true), (15, .bool true), (16, undef), (17, undef), (18, undef), (19, undef), (20, undef), (21, undef), (22, .bool true), (23, .bool true), (24, undef), (25, undef), (26, undef), (27, undef), (28, undef), (29, undef), (30, undef), (31, .bool true), (32, .bool true), (33, undef), (34, undef), (35, undef), (36, undef), (37, undef), (38, .bool true), (39, .bool true), (40, undef), (41, undef), (42, undef), (43, undef), (44, undef), (45, undef), (46, undef), (47, .bool true)] 41 rfl rfl ?_
   refine LP_end _ rfl ?_
   try refine W_forget [(1, sl a5 sx c6), (3, pb b), (5, pb b20), (47, .bool true)] ⟨rfl, rfl, rfl, rfl, trivial⟩ fun ρ => ?_
   have X39 := (((X.stepx x).stepx x22).stepx x38)
   have ex40 := (ex36.ext x38)
   have ex41 := (((ex4.ext x).ext x22).ext x38)
   have ex42 := (((ex10.ext x).ext x22).ext x38)
   have ex43 := (((ex16.ext x).ext x22).ext x38)
   have ex44 := (ex34.ext x38)
   have ex45 := (ex23.ext x38)
   exact ⟨true, H, _, env_eq ⟨rfl, rfl, rfl, rfl, trivial⟩, X39, ex40, ex41, ex42, ex43, ex44, ex45⟩
  have H := H.2 hc
  refine LP_ev ok 4 [(11, sl a5 sx c6)] 5 rfl rfl ?_
  have ex47 := (((ex4.ext x).ext x22).ext x38)
  refine LP_call 5 rfl rfl rfl cal_67 rfl (spec_sGood_w _ _ H wx37 r3 ex47) ?_
  rintro _ wx48 ⟨r46, H, rfl, x49⟩
  refine LP_ev ok 6 [(13, .bool (!r46)), (14, .bool (!r46)), (15, .bool (!r46))] 9 rfl rfl ?_
  refine LP_split 15 (!r46) rfl (fun hc50 => ?_) (fun hc50 => ?_)
  ·have H := H.1 hc50
   refine LP_ev ok 9 [(16, undef), (17, undef), (18, undef), (19, undef), (20, undef), (21, undef), (22, .bool true), (23, .bool true), (24, undef), (25, undef), (26, undef), (27, undef), (28, undef), (29, undef), (30, undef), (31, .bool true), (32, .bool true), (33, undef), (34, undef), (35, undef), (36, undef), (37, undef), (38, .bool true), (39, .bool true), (40, undef), (41, undef), (42, undef), (43, undef), (44, undef), (45, undef), (46, undef), (47, .bool true)] 41 rfl rfl ?_
   refine LP_end _ rfl ?_
   try refine W_forget [(1, sl a5 sx c6), (3, pb b), (5, pb b20), (47, .bool true)] ⟨rfl, rfl, rfl, rfl, trivial⟩ fun ρ => ?_
   have X51 := ((((X.stepx x).stepx x22).stepx x38).stepx x49)
   have ex52 := ((ex36.ext x38).ext x49)
   have ex53 := (ex47.ext x49)
   have ex54 := ((((ex10.ext x).ext x22).ext x38).ext x49)
   have ex55 := ((((ex16.ext x).ext x22).ext x38).ext x49)
   have ex56 := ((ex34.ext x38).ext x49)
   have ex57 := ((ex23.ext x38).ext x49)
   exact ⟨true, H, _, env_eq ⟨rfl, rfl, rfl, rfl, trivial⟩, X51, ex52, ex53, ex54, ex55, ex56, ex57⟩
  have H := H.2 hc50
  have ex58 := ((ex34.ext x38).ext x49)
  refine LP_ldbox 9 (v := .agg #[sl a g.Parents c]) rfl rfl rfl ti_32 ag_32 (fun h => by cases h) rfl ex58 rfl rfl ?_
  refine LP_ev ok 10 [(17, pb b20)] 11 rfl rfl ?_
  have ex59 := ((ex23.ext x38).ext x49)
  refine LP_ldbox 11 (v := I t.Level) rfl rfl rfl ti_3 ag_3 (fun _ => rfl) rfl ex59 rfl rfl ?_
  have ex61 := ((ex36.ext x38).ext x49)
  refine LP_call 12 rfl rfl rfl cal_68 rfl (spec_gLevel_w _ _ _ H wx48 r ex61) ?_
  rintro _ wx62 ⟨r60, vx64, hx65, H, rfl, x63, o, ex66, f67⟩
  obtain ⟨a68, c69, rfl⟩ := o.shape
  refine LP_ev ok 13 [(20, I (ln r60)), (21, .bool ((ln r60) == 0)), (22, .bool ((ln r60) == 0)), (23, .bool ((ln r60) == 0))] 17 rfl rfl ?_
  refine LP_split 23 ((ln r60) == 0) rfl (fun hc70 => ?_) (fun hc70 => ?_)
  ·have H := H.1 hc70
   refine LP_ev ok 17 [(24, undef), (25, undef), (26, undef), (27, undef), (28, undef), (29, undef), (30, undef), (31, .bool true), (32, .bool true), (33, undef), (34, undef), (35, undef), (36, undef), (37, undef), (38, .bool true), (39, .bool true), (40, undef), (41, undef), (42, undef), (43, undef), (44, undef), (45, undef), (46, undef), (47, .bool true)] 41 rfl rfl ?_
   refine LP_end _ rfl ?_
   try refine W_forget [(1, sl a5 sx c6), (3, pb b), (5, pb b20), (47, .bool true)] ⟨rfl, rfl, rfl, rfl, trivial⟩ fun ρ => ?_
   have X71 := (((((X.stepx x).stepx x22).stepx x38).stepx x49).stepx x63)
   have ex72 := (ex61.ext x63)
   have ex73 := ((ex47.ext x49).ext x63)
   have ex74 := (((((ex10.ext x).ext x22).ext x38).ext x49).ext x63)
   have ex75 := (((((ex16.ext x).ext x22).ext x38).ext x49).ext x63)
   have ex76 := (ex58.ext x63)
   have ex77 := (ex59.ext x63)
   exact ⟨true, H, _, env_eq ⟨rfl, rfl, rfl, rfl, trivial⟩, X71, ex72, ex73, ex74, ex75, ex76, ex77⟩
  have H := H.2 hc70
  refine LP_ev ok 17 [(24, .pointer (some ⟨b20, 1, none⟩))] 18 rfl rfl ?_
  have ex78 := (ex59.ext x63)
  refine LP_ldbox 18 (v := sl a11 t.Vars c12) rfl rfl rfl ti_22 ag_22 (fun _ => rfl) rfl ex78 rfl rfl ?_
  refine LP_ev ok 19 [(26, sl a5 sx c6), (27, I (ln sx)), (28, I (wr ((ln sx) - 1)))] 22 rfl rfl ?_
  have ex80 := (((((ex10.ext x).ext x22).ext x38).ext x49).ext x63)
  refine LP_call 22 rfl rfl rfl cal_69 rfl (spec_l1Rising_w _ _ _ _ H wx62 r9 ex80) ?_
  rintro _ wx81 ⟨r79, H, rfl, x82⟩
  refine LP_ev ok 23 [(30, .bool (!r79)), (31, .bool (!r79)), (32, .bool (!r79))] 26 rfl rfl ?_
  refine LP_split 32 (!r79) rfl (fun hc83 => ?_) (fun hc83 => ?_)
  ·have H := H.1 hc83
   refine LP_ev ok 26 [(33, undef), (34, undef), (35, undef), (36, undef), (37, undef), (38, .bool true), (39, .bool true), (40, undef), (41, undef), (42, undef), (43, undef), (44, undef), (45, undef), (46, undef), (47, .bool true)] 41 rfl rfl ?_
   refine LP_end _ rfl ?_
   try refine W_forget [(1, sl a5 sx c6), (3, pb b), (5, pb b20), (47, .bool true)] ⟨rfl, rfl, rfl, rfl, trivial⟩ fun ρ => ?_
   have X84 := ((((((X.stepx x).stepx x22).stepx x38).stepx x49).stepx x63).stepx x82)
   have ex85 := ((ex61.ext x63).ext x82)
   have ex86 := (((ex47.ext x49).ext x63).ext x82)
   have ex87 := (ex80.ext x82)
   have ex88 := ((((((ex16.ext x).ext x22).ext x38).ext x49).ext x63).ext x82)
   have ex89 := ((ex58.ext x63).ext x82)
   have ex90 := (ex78.ext x82)
   exact ⟨true, H, _, env_eq ⟨rfl, rfl, rfl, rfl, trivial⟩, X84, ex85, ex86, ex87, ex88, ex89, ex90⟩
  have H := H.2 hc83
  refine LP_ev ok 26 [(33, sl a5 sx c6), (34, .pointer (some ⟨b20, 2, none⟩))] 28 rfl rfl ?_
  have ex91 := (ex78.ext x82)
  refine LP_ldbox 28 (v := sl a17 t.Where c18) rfl rfl rfl ti_22 ag_22 (fun _ => rfl) rfl ex91 rfl rfl ?_
  have ex93 := (((ex47.ext x49).ext x63).ext x82)
  have ex94 := ((((((ex16.ext x).ext x22).ext x38).ext x49).ext x63).ext x82)
  refine LP_call 29 rfl rfl rfl cal_70 rfl (spec_uWhere_w _ _ _ H wx81 r3 ex93 r15 ex94) ?_
  rintro _ wx95 ⟨r92, H, rfl, x96⟩
  refine LP_ev ok 30 [(37, .bool (!r92)), (38, .bool (!r92)), (39, .bool (!r92))] 33 rfl rfl ?_
  refine LP_split 39 (!r92) rfl (fun hc97 => ?_) (fun hc97 => ?_)
  ·have H := H.1 hc97
   refine LP_ev ok 33 [(40, undef), (41, undef), (42, undef), (43, undef), (44, undef), (45, undef), (46, undef), (47, .bool true)] 41 rfl rfl ?_
   refine LP_end _ rfl ?_
   try refine W_forget [(1, sl a5 sx c6), (3, pb b), (5, pb b20), (47, .bool true)] ⟨rfl, rfl, rfl, rfl, trivial⟩ fun ρ => ?_
   have X98 := (((((((X.stepx x).stepx x22).stepx x38).stepx x49).stepx x63).stepx x82).stepx x96)
   have ex99 := (((ex61.ext x63).ext x82).ext x96)
   have ex100 := (ex93.ext x96)
   have ex101 := ((ex80.ext x82).ext x96)
   have ex102 := (ex94.ext x96)
   have ex103 := (((ex58.ext x63).ext x82).ext x96)
   have ex104 := (ex91.ext x96)
   exact ⟨true, H, _, env_eq ⟨rfl, rfl, rfl, rfl, trivial⟩, X98, ex99, ex100, ex101, ex102, ex103, ex104⟩
  have H := H.2 hc97
  refine LP_ev ok 33 [(40, .pointer (some ⟨b20, 3, none⟩))] 34 rfl rfl ?_
  have ex105 := (ex91.ext x96)
  refine LP_ldbox 34 (v := I t.Sum) rfl rfl rfl ti_3 ag_3 (fun _ => rfl) rfl ex105 rfl rfl ?_
  refine LP_ev ok 35 [(42, sl a5 sx c6), (43, I (ln sx)), (44, I (wr ((ln sx) - 1)))] 38 rfl rfl ?_
  refine LP_call 38 rfl rfl rfl cal_28 rfl (spec_l1In_w _ _ _ _ H wx95 ) ?_
  rintro _ wx107 ⟨r106, H, rfl, x108⟩
  refine LP_ev ok 39 [(46, .bool (!r106)), (47, .bool (!r106))] 41 rfl rfl ?_
  refine LP_end _ rfl ?_
  try refine W_forget [(1, sl a5 sx c6), (3, pb b), (5, pb b20), (47, .bool (!r106))] ⟨rfl, rfl, rfl, rfl, trivial⟩ fun ρ => ?_
  have X109 := ((((((((X.stepx x).stepx x22).stepx x38).stepx x49).stepx x63).stepx x82).stepx x96).stepx x108)
  have ex110 := ((((ex61.ext x63).ext x82).ext x96).ext x108)
  have ex111 := ((ex93.ext x96).ext x108)
  have ex112 := (((ex80.ext x82).ext x96).ext x108)
  have ex113 := ((ex94.ext x96).ext x108)
  have ex114 := ((((ex58.ext x63).ext x82).ext x96).ext x108)
  have ex115 := (ex105.ext x108)
  exact ⟨!r106, H, _, env_eq ⟨rfl, rfl, rfl, rfl, trivial⟩, X109, ex110, ex111, ex112, ex113, ex114, ex115⟩
 rintro x25 _ wx26 ⟨H, ρ, rfl, HF⟩
 revert HF
 refine bb7 fun X33 ex27 ex28 ex29 ex30 ex31 ex32 => ?_
 subst hk
 refine W_cond (x25) rfl (fun hc116 => ?_) (fun hc116 => ?_)
 ·have H := H.1 hc116
  refine W_seq ?_
  refine W_region ?_
  refine LP_ev ok 0 [(6, .bool false)] 1 rfl rfl ?_
  refine LP_end _ rfl ?_
  refine W_ret ?_
  exact ⟨_, Ret_of [.bool false] ⟨⟨rfl, rfl⟩, trivial⟩, _, H, rfl, X33.ext⟩
 have H := H.2 hc116
 refine W_skip ?_
 refine W_seq ?_
 refine W_region ?_
 refine LP_ldbox 0 (v := .agg #[sl a g.Parents c]) rfl rfl rfl ti_32 ag_32 (fun h => by cases h) rfl ex31 rfl rfl ?_
 refine LP_ev ok 1 [(49, sl a5 sx c6)] 2 rfl rfl ?_
 refine LP_ldbox 2 (v := .agg #[I t.Level, sl a11 t.Vars c12, sl a17 t.Where c18, I t.Sum]) rfl rfl rfl ti_50 ag_50 (fun h => by cases h) rfl ex32 rfl rfl ?_
 refine LP_call 3 rfl rfl rfl cal_43 rfl (spec_uCount_w _ _ _ _ H wx26 r ex27 r3 ex28 r9 ex29 r15 ex30) ?_
 rintro _ wx118 ⟨r117, H, rfl, x119⟩
 refine LP_ev ok 4 [(52, .bool (decide (r117 ≤ 600))), (6, .bool (decide (r117 ≤ 600)))] 6 rfl rfl ?_
 refine LP_end _ rfl ?_
 refine W_ret ?_
 have X120 := (X33.stepx x119)
 exact ⟨_, Ret_of [.bool (decide (r117 ≤ 600))] ⟨⟨rfl, rfl⟩, trivial⟩, _, H, rfl, X120.ext⟩

theorem spec_l1All_w (l : List Int) (lo : Int) (hi : Int) (Q : Bool → Prop) (H : spec_l1All l lo hi Q) (w : World) {vx : Value} {hx : PH} (r : RS hx vx l) (ex : Sub hx w) :
  CallsTo Try.prog 91 #[vx, I lo, I hi] w fun v w' => ∃ r0, Q r0 ∧ v = .bool r0 ∧ Ext w w' := by
 obtain ⟨a, c, rfl⟩ := r.shape
 refine enter (args := [sl a l c, I lo, I hi]) 21 Try.func91 rfl rfl rfl ?_
 refine W_forget [(0, sl a l c), (1, I lo), (2, I hi)] ⟨rfl, rfl, rfl, trivial⟩ fun ρ => ?_
 have X := But.refl emp w
 refine W_seq ?_
 refine W_region ?_
 refine LP_ev ok 0 [(6, .bool false)] 1 rfl rfl ?_
 refine LP_end _ rfl ?_
 refine W_seq ?_
 refine W_seq ?_
 refine W_region ?_
 refine LP_ev ok 0 [(9, sl a l c), (10, I (ln l)), (11, I 0)] 3 rfl rfl ?_
 refine LP_end _ rfl ?_
 refine W_block ?_
 obtain ⟨J, m, Hx, H⟩ := H
 refine W_loop (S := Int) (fun s ρ' w' => J s ∧ ∃ (ρ : Env), ρ' = setAll [(1, I lo), (2, I hi), (9, sl a l c), (10, I (ln l)), (11, I s)] ρ ∧ But emp w w' ∧ Sub hx w') (fun s => m s) 0 ⟨Hx, _, env_eq ⟨rfl, rfl, rfl, rfl, rfl, trivial⟩, X, ex⟩ ?_
 rintro x _ wx ⟨Hi, ρ, rfl, X2, ex1⟩
 have H := H x Hi
 refine W_seq ?_
 refine W_region ?_
 refine LP_ev ok 0 [(12, .bool (decide (x < (ln l))))] 1 rfl rfl ?_
 refine LP_end _ rfl ?_
 refine W_seq ?_
 refine W_cond (decide (x < (ln l))) rfl (fun hc => ?_) (fun hc => ?_)
 ·have H := H.1 hc
  refine W_skip ?_
  refine W_seq ?_
  refine W_block ?_
  refine W_seq ?_
  refine W_region ?_
  obtain ⟨x3, hi4, hx5, H⟩ := H
  refine LP_index 0 rfl rfl rfl Try.underlying22 ti_3 rfl rfl r hi4 hx5 fun a6 cs r7 d => ?_
  refine LP_load 1 rfl rfl rfl ti_3 ag_3 rfl r7 d ex1 fun vx8 r9 => ?_
  obtain rfl := r9.int
  refine LP_ev ok 2 [(8, I x3)] 3 rfl rfl ?_
  refine LP_end _ rfl ?_
  refine W_seq ?_
  refine W_region ?_
  refine LP_ev ok 0 [(15, I x3), (16, I lo), (17, I hi)] 3 rfl rfl ?_
  refine LP_call 3 rfl rfl rfl cal_28 rfl (spec_l1In_w _ _ _ _ H wx ) ?_
  rintro _ wx11 ⟨r10, H, rfl, x12⟩
  refine LP_ev ok 4 [(19, .bool (!r10))] 5 rfl rfl ?_
  refine LP_end _ rfl ?_
  refine W_cond (!r10) rfl (fun hc13 => ?_) (fun hc13 => ?_)
  ·have H := H.1 hc13
   refine W_seq ?_
   refine W_region ?_
   refine LP_ev ok 0 [(6, .bool false)] 1 rfl rfl ?_
   refine LP_end _ rfl ?_
   refine W_ret ?_
   have X14 := (X2.stepx x12)
   exact ⟨_, Ret_of [.bool false] ⟨⟨rfl, rfl⟩, trivial⟩, _, H, rfl, X14.ext⟩
  have H := H.2 hc13
  refine W_skip ?_
  refine W_region ?_
  refine LP_ev ok 0 [(20, I (wr (x + 1))), (11, I (wr (x + 1)))] 2 rfl rfl ?_
  refine LP_end _ rfl ?_
  have X15 := (X2.stepx x12)
  have ex16 := (ex1.ext x12)
  exact ⟨wr (x + 1), ⟨H.1, _, env_eq ⟨rfl, rfl, rfl, rfl, rfl, trivial⟩, X15, ex16⟩, H.2⟩
 have H := H.2 hc
 refine W_exit ?_
 refine (if_pos rfl).mpr ?_
 refine W_seq ?_
 refine W_region ?_
 refine LP_ev ok 0 [(6, .bool true)] 1 rfl rfl ?_
 refine LP_end _ rfl ?_
 refine W_ret ?_
 exact ⟨_, Ret_of [.bool true] ⟨⟨rfl, rfl⟩, trivial⟩, _, H, rfl, X2.ext⟩

theorem spec_aPublished_w (g : Geo) (sx : List Variable) (pubs : List Published) (Q : Bool → Prop) (H : spec_aPublished g sx pubs Q) (w : World) {vx : Value} {hx : PH} (r : RS hx vx g.Parents) (ex : Sub hx w) {vx1 : Value} {hx2 : PH} (r3 : RS hx2 vx1 sx) (ex4 : Sub hx2 w) {vx7 : Value} {hx8 : PH} (r9 : RS hx8 vx7 pubs) (ex10 : Sub hx8 w) :
  CallsTo Try.prog 58 #[.agg #[vx], vx1, vx7] w fun v w' => ∃ r0, Q r0 ∧ v = .bool r0 ∧ Ext w w' := by
 obtain ⟨a, c, rfl⟩ := r.shape
 obtain ⟨a5, c6, rfl⟩ := r3.shape
 obtain ⟨a11, c12, rfl⟩ := r9.shape
 refine enter (args := [.agg #[sl a g.Parents c], sl a5 sx c6, sl a11 pubs c12]) 42 Try.func58 rfl rfl rfl ?_
 refine W_forget [(0, .agg #[sl a g.Parents c]), (1, sl a5 sx c6), (2, sl a11 pubs c12)] ⟨rfl, rfl, rfl, trivial⟩ fun ρ => ?_
 have X := But.refl emp w
 refine W_seq ?_
 refine W_region ?_
 refine LP_box 0 (cs := [sl a g.Parents c]) rfl rfl rfl rfl rfl fun b wx x ex13 f => ?_
 refine LP_ev ok 1 [(6, .bool false)] 2 rfl rfl ?_
 refine LP_end _ rfl ?_
 refine W_seq ?_
 refine W_seq ?_
 refine W_region ?_
 refine LP_ev ok 0 [(9, sl a11 pubs c12), (10, I (ln pubs)), (11, I 0)] 3 rfl rfl ?_
 refine LP_end _ rfl ?_
 refine W_block ?_
 have X21 := (X.stepx x)
 have ex22 := (ex.ext x)
 have ex23 := (ex4.ext x)
 have ex24 := (ex10.ext x)
 obtain ⟨J, m, Hx, H⟩ := H
 refine W_loop (S := Int) (fun s ρ' w' => J s ∧ ∃ (ρ : Env), ρ' = setAll [(1, sl a5 sx c6), (2, sl a11 pubs c12), (3, pb b), (9, sl a11 pubs c12), (10, I (ln pubs)), (11, I s)] ρ ∧ But emp w w' ∧ Sub hx w' ∧ Sub hx2 w' ∧ Sub hx8 w' ∧ Sub (bx b 32 [sl a g.Parents c]) w') (fun s => m s) 0 ⟨Hx, _, env_eq ⟨rfl, rfl, rfl, rfl, rfl, rfl, trivial⟩, X21, ex22, ex23, ex24, ex13⟩ ?_
 rintro x14 _ wx15 ⟨Hi, ρ, rfl, HF⟩
 revert HF
 refine bb5 fun X20 ex16 ex17 ex18 ex19 => ?_
 have H := H x14 Hi
 refine W_seq ?_
 refine W_region ?_
 refine LP_ev ok 0 [(12, .bool (decide (x14 < (ln pubs))))] 1 rfl rfl ?_
 refine LP_end _ rfl ?_
 refine W_seq ?_
 refine W_cond (decide (x14 < (ln pubs))) rfl (fun hc => ?_) (fun hc => ?_)
 ·have H := H.1 hc
  refine W_skip ?_
  refine W_seq ?_
  refine W_block ?_
  refine W_seq ?_
  refine W_region ?_
  obtain ⟨x25, hi, hx26, H⟩ := H
  refine LP_index 0 rfl rfl rfl Try.underlying36 ti_69 rfl rfl r9 hi hx26 fun a27 cs r28 d => ?_
  have d29 := d
  obtain ⟨u, u31, u33, rfl, r30, r32, r34⟩ := Published_rd d29
  obtain ⟨a35, c36, rfl⟩ := r30.shape
  obtain ⟨a37, c38, rfl⟩ := r32.shape
  obtain ⟨a39, c40, rfl⟩ := r34.shape
  refine LP_load 1 rfl rfl rfl ti_69 ag_69 rfl r28 d ex18 fun vx41 r42 => ?_
  obtain ⟨u43, u45, u47, rfl, r44, r46, r48⟩ := Published_rv r42
  obtain ⟨a49, c50, rfl⟩ := r44.shape
  obtain ⟨a51, c52, rfl⟩ := r46.shape
  obtain ⟨a53, c54, rfl⟩ := r48.shape
  refine LP_alloc 2 rfl rfl rfl ti_69 rfl fun b55 wx56 x57 ex58 f59 => ?_
  refine LP_stbox 3 (vs := [I x25.Table.Level, sl a49 x25.Table.Vars c50, sl a51 x25.Table.Where c52, I x25.Table.Sum, sl a53 x25.Cells c54]) (cs' := [I x25.Table.Level, sl a49 x25.Table.Vars c50, sl a51 x25.Table.Where c52, I x25.Table.Sum, sl a53 x25.Cells c54]) rfl rfl rfl ti_69 rfl rfl rfl rfl rfl ex58 rfl rfl fun wx60 ex61 y => ?_
  refine LP_end _ rfl ?_
  obtain ⟨k, hk, H⟩ := jn_elim H
  refine W_join2 (S := Bool) (fun s ρ' w' => k s ∧ ∃ (ρ : Env), ρ' = setAll [(1, sl a5 sx c6), (2, sl a11 pubs c12), (3, pb b), (9, sl a11 pubs c12), (10, I (ln pubs)), (11, I x14), (37, .bool s)] ρ ∧ But emp w w' ∧ Sub hx w' ∧ Sub hx2 w' ∧ Sub hx8 w' ∧ Sub (bx b 32 [sl a g.Parents c]) w') ?_ ?_
  ·refine W_quiet mix (by kernel_rfl) ?_
   have ex69 := ((ex19.ext x57).but y (Dj.of_fresh ex19 f59).symm)
   refine QP_ldbox 0 (v := .agg #[sl a g.Parents c]) rfl rfl rfl ti_32 ag_32 (fun h => by cases h) rfl ex69 rfl rfl ?_
   refine QP_ev ok 1 [(16, sl a5 sx c6), (17, pb b55)] 3 rfl rfl ?_
   refine QP_ldbox 3 (v := .agg #[I x25.Table.Level, sl a49 x25.Table.Vars c50, sl a51 x25.Table.Where c52, I x25.Table.Sum]) rfl rfl rfl ti_50 ag_50 (fun h => by cases h) rfl ex61 rfl rfl ?_
   obtain ⟨r70, Hd, H⟩ := H
   have ex73 := ((ex16.ext x57).but y (Dj.of_fresh ex16 f59).symm)
   have ex74 := ((ex17.ext x57).but y (Dj.of_fresh ex17 f59).symm)
   have ex75 := ((ex18.ext x57).but y (Dj.of_fresh ex18 f59).symm)
   refine QP_call (.bool r70) 4 rfl rfl rfl cal_42 rfl (fun wx71 x72 => (spec_uGood_w _ _ _ _ Hd wx71 r (ex73.ext x72) r3 (ex74.ext x72) r44 (ex75.ext x72) r46 (ex75.ext x72)).mono ?_) ?_
   ·rintro _ _ ⟨_, rfl, rfl, x⟩; exact ⟨rfl, x⟩
   refine QP_ev ok 5 [(20, .bool (!r70)), (21, .bool (!r70))] 7 rfl rfl ?_
   refine QP_split 21 (!r70) rfl (fun hc76 => ?_) (fun hc76 => ?_)
   ·have H := H.1 hc76
    refine QP_ev ok 7 [(22, undef), (23, undef), (24, undef), (25, undef), (26, undef), (27, undef), (28, undef), (29, undef), (30, undef), (31, .bool true), (32, .bool true), (33, undef), (34, undef), (35, undef), (36, undef), (37, .bool true)] 23 rfl rfl ?_
    refine QP_end _ rfl fun wx77 x78 => ?_
    try refine W_forget [(1, sl a5 sx c6), (2, sl a11 pubs c12), (3, pb b), (9, sl a11 pubs c12), (10, I (ln pubs)), (11, I x14), (37, .bool true)] ⟨rfl, rfl, rfl, rfl, rfl, rfl, rfl, trivial⟩ fun ρ => ?_
    have f79 := f59.mono X20.size
    have X80 := (((X20.stepx x57).step y (f79.dom _)).stepx x78)
    have ex81 := (ex73.ext x78)
    have ex82 := (ex74.ext x78)
    have ex83 := (ex75.ext x78)
    have ex84 := (ex69.ext x78)
    exact ⟨true, H, _, env_eq ⟨rfl, rfl, rfl, rfl, rfl, rfl, rfl, trivial⟩, X80, ex81, ex82, ex83, ex84⟩
   have H := H.2 hc76
   refine QP_ev ok 7 [(22, .pointer (some ⟨b55, 4, none⟩))] 8 rfl rfl ?_
   refine QP_ldbox 8 (v := sl a53 x25.Cells c54) rfl rfl rfl ti_22 ag_22 (fun _ => rfl) rfl ex61 rfl rfl ?_
   refine QP_ev ok 9 [(24, I (ln x25.Cells))] 10 rfl rfl ?_
   refine QP_ldbox 10 (v := .agg #[sl a g.Parents c]) rfl rfl rfl ti_32 ag_32 (fun h => by cases h) rfl ex69 rfl rfl ?_
   refine QP_ev ok 11 [(26, sl a5 sx c6), (27, pb b55)] 13 rfl rfl ?_
   refine QP_ldbox 13 (v := .agg #[I x25.Table.Level, sl a49 x25.Table.Vars c50, sl a51 x25.Table.Where c52, I x25.Table.Sum]) rfl rfl rfl ti_50 ag_50 (fun h => by cases h) rfl ex61 rfl rfl ?_
   obtain ⟨r85, Hd86, H⟩ := H
   refine QP_call (I r85) 14 rfl rfl rfl cal_43 rfl (fun wx87 x88 => (spec_uCount_w _ _ _ _ Hd86 wx87 r (ex73.ext x88) r3 (ex74.ext x88) r44 (ex75.ext x88) r46 (ex75.ext x88)).mono ?_) ?_
   ·rintro _ _ ⟨_, rfl, rfl, x⟩; exact ⟨rfl, x⟩
   refine QP_ev ok 15 [(30, .bool ((ln x25.Cells) != r85)), (31, .bool ((ln x25.Cells) != r85)), (32, .bool ((ln x25.Cells) != r85))] 18 rfl rfl ?_
   refine QP_split 32 ((ln x25.Cells) != r85) rfl (fun hc89 => ?_) (fun hc89 => ?_)
   ·have H := H.1 hc89
    refine QP_ev ok 18 [(33, undef), (34, undef), (35, undef), (36, undef), (37, .bool true)] 23 rfl rfl ?_
    refine QP_end _ rfl fun wx90 x91 => ?_
    try refine W_forget [(1, sl a5 sx c6), (2, sl a11 pubs c12), (3, pb b), (9, sl a11 pubs c12), (10, I (ln pubs)), (11, I x14), (22, .pointer (some ⟨b55, 4, none⟩)), (23, sl a53 x25.Cells c54), (24, I (ln x25.Cells)), (25, .agg #[sl a g.Parents c]), (26, sl a5 sx c6), (27, pb b55), (28, .agg #[I x25.Table.Level, sl a49 x25.Table.Vars c50, sl a51 x25.Table.Where c52, I x25.Table.Sum]), (29, I r85), (30, .bool ((ln x25.Cells) != r85)), (37, .bool true)] ⟨rfl, rfl, rfl, rfl, rfl, rfl, rfl, rfl, rfl, rfl, rfl, rfl, rfl, rfl, rfl, rfl, trivial⟩ fun ρ => ?_
    have f92 := f59.mono X20.size
    have X93 := (((X20.stepx x57).step y (f92.dom _)).stepx x91)
    have ex94 := (ex73.ext x91)
    have ex95 := (ex74.ext x91)
    have ex96 := (ex75.ext x91)
    have ex97 := (ex69.ext x91)
    exact ⟨true, H, _, env_eq ⟨rfl, rfl, rfl, rfl, rfl, rfl, rfl, trivial⟩, X93, ex94, ex95, ex96, ex97⟩
   have H := H.2 hc89
   refine QP_ev ok 18 [(33, .pointer (some ⟨b55, 4, none⟩))] 19 rfl rfl ?_
   refine QP_ldbox 19 (v := sl a53 x25.Cells c54) rfl rfl rfl ti_22 ag_22 (fun _ => rfl) rfl ex61 rfl rfl ?_
   obtain ⟨r98, Hd99, H⟩ := H
   refine QP_call (.bool r98) 20 rfl rfl rfl cal_91 rfl (fun wx100 x101 => (spec_l1All_w _ _ _ _ Hd99 wx100 r48 (ex75.ext x101)).mono ?_) ?_
   ·rintro _ _ ⟨_, rfl, rfl, x⟩; exact ⟨rfl, x⟩
   refine QP_ev ok 21 [(36, .bool (!r98)), (37, .bool (!r98))] 23 rfl rfl ?_
   refine QP_end _ rfl fun wx102 x103 => ?_
   try refine W_forget [(1, sl a5 sx c6), (2, sl a11 pubs c12), (3, pb b), (9, sl a11 pubs c12), (10, I (ln pubs)), (11, I x14), (22, .pointer (some ⟨b55, 4, none⟩)), (23, sl a53 x25.Cells c54), (24, I (ln x25.Cells)), (25, .agg #[sl a g.Parents c]), (26, sl a5 sx c6), (27, pb b55), (28, .agg #[I x25.Table.Level, sl a49 x25.Table.Vars c50, sl a51 x25.Table.Where c52, I x25.Table.Sum]), (29, I r85), (30, .bool ((ln x25.Cells) != r85)), (33, .pointer (some ⟨b55, 4, none⟩)), (34, sl a53 x25.Cells c54), (35, .bool r98), (36, .bool (!r98)), (37, .bool (!r98))] ⟨rfl, rfl, rfl, rfl, rfl, rfl, rfl, rfl, rfl, rfl, rfl, rfl, rfl, rfl, rfl, rfl, rfl, rfl, rfl, rfl, trivial⟩ fun ρ => ?_
   have f104 := f59.mono X20.size
   have X105 := (((X20.stepx x57).step y (f104.dom _)).stepx x103)
   have ex106 := (ex73.ext x103)
   have ex107 := (ex74.ext x103)
   have ex108 := (ex75.ext x103)
   have ex109 := (ex69.ext x103)
   exact ⟨!r98, H, _, env_eq ⟨rfl, rfl, rfl, rfl, rfl, rfl, rfl, trivial⟩, X105, ex106, ex107, ex108, ex109⟩
  rintro x62 _ wx63 ⟨H, ρ, rfl, HF⟩
  revert HF
  refine bb5 fun X68 ex64 ex65 ex66 ex67 => ?_
  subst hk
  refine W_cond (x62) rfl (fun hc110 => ?_) (fun hc110 => ?_)
  ·have H := H.1 hc110
   refine W_seq ?_
   refine W_region ?_
   refine LP_ev ok 0 [(6, .bool false)] 1 rfl rfl ?_
   refine LP_end _ rfl ?_
   refine W_ret ?_
   exact ⟨_, Ret_of [.bool false] ⟨⟨rfl, rfl⟩, trivial⟩, _, H, rfl, X68.ext⟩
  have H := H.2 hc110
  refine W_skip ?_
  refine W_region ?_
  refine LP_ev ok 0 [(38, I (wr (x14 + 1))), (11, I (wr (x14 + 1)))] 2 rfl rfl ?_
  refine LP_end _ rfl ?_
  exact ⟨wr (x14 + 1), ⟨H.1, _, env_eq ⟨rfl, rfl, rfl, rfl, rfl, rfl, trivial⟩, X68, ex64, ex65, ex66, ex67⟩, H.2⟩
 have H := H.2 hc
 refine W_exit ?_
 refine (if_pos rfl).mpr ?_
 refine W_seq ?_
 refine W_region ?_
 refine LP_ev ok 0 [(39, sl a11 pubs c12), (40, I (ln pubs)), (41, .bool (decide ((ln pubs) ≤ 20))), (6, .bool (decide ((ln pubs) ≤ 20)))] 4 rfl rfl ?_
 refine LP_end _ rfl ?_
 refine W_ret ?_
 exact ⟨_, Ret_of [.bool (decide ((ln pubs) ≤ 20))] ⟨⟨rfl, rfl⟩, trivial⟩, _, H, rfl, X20.ext⟩

theorem spec_aAsked_w (g : Geo) (sx : List Variable) (pubs : List Published) (n : Int) (Q : Bool → Prop) (H : spec_aAsked g sx pubs n Q) (w : World) {vx : Value} {hx : PH} (r : RS hx vx g.Parents) (ex : Sub hx w) {vx1 : Value} {hx2 : PH} (r3 : RS hx2 vx1 sx) (ex4 : Sub hx2 w) {vx7 : Value} {hx8 : PH} (r9 : RS hx8 vx7 pubs) (ex10 : Sub hx8 w) :
  CallsTo Try.prog 27 #[.agg #[vx], vx1, vx7, I n] w fun v w' => ∃ r0, Q r0 ∧ v = .bool r0 ∧ Ext w w' := by
 obtain ⟨a, c, rfl⟩ := r.shape
 obtain ⟨a5, c6, rfl⟩ := r3.shape
 obtain ⟨a11, c12, rfl⟩ := r9.shape
 refine enter (args := [.agg #[sl a g.Parents c], sl a5 sx c6, sl a11 pubs c12, I n]) 22 Try.func27 rfl rfl rfl ?_
 refine W_forget [(0, .agg #[sl a g.Parents c]), (1, sl a5 sx c6), (2, sl a11 pubs c12), (3, I n)] ⟨rfl, rfl, rfl, rfl, trivial⟩ fun ρ => ?_
 have X := But.refl emp w
 refine W_seq ?_
 refine W_region ?_
 refine LP_box 0 (cs := [sl a g.Parents c]) rfl rfl rfl rfl rfl fun b wx x ex13 f => ?_
 refine LP_ev ok 1 [(8, .bool false)] 2 rfl rfl ?_
 refine LP_end _ rfl ?_
 obtain ⟨k, hk, H⟩ := jn_elim H
 refine W_join2 (S := Bool) (fun s ρ' w' => k s ∧ ∃ (ρ : Env), ρ' = setAll [(8, .bool s)] ρ ∧ But emp w w') ?_ ?_
 ·refine W_region ?_
  refine LP_ldbox 0 (v := .agg #[sl a g.Parents c]) rfl rfl rfl ti_32 ag_32 (fun h => by cases h) rfl ex13 rfl rfl ?_
  refine LP_ev ok 1 [(10, sl a5 sx c6)] 2 rfl rfl ?_
  have ex18 := (ex.ext x)
  have ex19 := (ex4.ext x)
  refine LP_call 2 rfl rfl rfl cal_57 rfl (spec_aGood_w _ _ _ H wx r ex18 r3 ex19) ?_
  rintro _ wx20 ⟨r17, H, rfl, x21⟩
  refine LP_ev ok 3 [(12, .bool r17)] 4 rfl rfl ?_
  refine LP_split 12 (r17) rfl (fun hc => ?_) (fun hc => ?_)
  ·have H := H.1 hc
   have ex22 := (ex13.ext x21)
   refine LP_ldbox 4 (v := .agg #[sl a g.Parents c]) rfl rfl rfl ti_32 ag_32 (fun h => by cases h) rfl ex22 rfl rfl ?_
   refine LP_ev ok 5 [(14, sl a5 sx c6), (15, sl a11 pubs c12)] 7 rfl rfl ?_
   have ex24 := (ex18.ext x21)
   have ex25 := (ex19.ext x21)
   have ex26 := ((ex10.ext x).ext x21)
   refine LP_call 7 rfl rfl rfl cal_58 rfl (spec_aPublished_w _ _ _ _ H wx20 r ex24 r3 ex25 r9 ex26) ?_
   rintro _ wx27 ⟨r23, H, rfl, x28⟩
   refine LP_ev ok 8 [(17, .bool r23), (18, .bool r23)] 10 rfl rfl ?_
   refine LP_split 18 (r23) rfl (fun hc29 => ?_) (fun hc29 => ?_)
   ·have H := H.1 hc29
    refine LP_ev ok 10 [(19, I n)] 11 rfl rfl ?_
    refine LP_call 11 rfl rfl rfl cal_28 rfl (spec_l1In_w _ _ _ _ H wx27 ) ?_
    rintro _ wx31 ⟨r30, H, rfl, x32⟩
    refine LP_ev ok 12 [(21, .bool r30), (8, .bool r30)] 14 rfl rfl ?_
    refine LP_end _ rfl ?_
    have X33 := ((((X.stepx x).stepx x21).stepx x28).stepx x32)
    exact ⟨r30, H, _, env_eq ⟨rfl, trivial⟩, X33⟩
   have H := H.2 hc29
   refine LP_ev ok 10 [(19, undef), (20, undef), (21, .bool false), (8, .bool false)] 14 rfl rfl ?_
   refine LP_end _ rfl ?_
   have X34 := (((X.stepx x).stepx x21).stepx x28)
   exact ⟨false, H, _, env_eq ⟨rfl, trivial⟩, X34⟩
  have H := H.2 hc
  refine LP_ev ok 4 [(13, undef), (14, undef), (15, undef), (16, undef), (17, .bool false), (18, .bool false), (19, undef), (20, undef), (21, .bool false), (8, .bool false)] 14 rfl rfl ?_
  refine LP_end _ rfl ?_
  have X35 := ((X.stepx x).stepx x21)
  exact ⟨false, H, _, env_eq ⟨rfl, trivial⟩, X35⟩
 rintro x14 _ wx15 ⟨H, ρ, rfl, X16⟩
 subst hk
 refine W_ret ?_
 exact ⟨_, Ret_of [.bool x14] ⟨⟨rfl, rfl⟩, trivial⟩, _, H, rfl, X16.ext⟩

theorem spec_sAt_w (sx : List Variable) (i : Int) (Q : (List Int) → Prop) (H : spec_sAt sx i Q) (w : World) {vx : Value} {hx : PH} (r : RS hx vx sx) (ex : Sub hx w) :
  CallsTo Try.prog 79 #[vx, I i] w fun v w' => ∃ r0 u0 g0, Q r0 ∧ v = u0 ∧ Ext w w' ∧ OS 3 g0 emp u0 r0 ∧ Sub g0 w' ∧ Fresh w.heap.size g0 := by
 obtain ⟨a, c, rfl⟩ := r.shape
 refine enter (args := [sl a sx c, I i]) 35 Try.func79 rfl rfl rfl ?_
 refine W_forget [(0, sl a sx c), (1, I i)] ⟨rfl, rfl, trivial⟩ fun ρ => ?_
 have X := But.refl emp w
 refine W_seq ?_
 refine W_region ?_
 refine LP_ev ok 0 [(4, .slice none 0 0)] 1 rfl rfl ?_
 refine LP_end _ rfl ?_
 refine W_seq ?_
 refine W_region ?_
 refine LP_ev ok 0 [(7, sl a sx c), (8, I (ln sx))] 2 rfl rfl ?_
 obtain ⟨hn, hb, H⟩ := H
 refine LP_make (α := Int) 2 rfl rfl rfl Try.underlying22 ti_3 (x0 := (0 : Int)) rfl rfl hn (by first | omega | (simp only [ln] at *; omega)) (by first | omega | (simp only [ln] at *; omega)) fun hx1 vx2 wx x o ex3 f => ?_
 obtain ⟨a4, c5, rfl⟩ := o.shape
 refine LP_ev ok 3 [(5, .slice a4 (List.length (List.replicate (Int.toNat (ln sx)) ((0 : Int)))) c5)] 4 rfl rfl ?_
 refine LP_end _ rfl ?_
 refine W_seq ?_
 refine W_seq ?_
 refine W_region ?_
 refine LP_ev ok 0 [(10, sl a sx c), (11, I (ln sx)), (12, I (wr ((ln sx) - 1))), (6, I (wr ((ln sx) - 1)))] 4 rfl rfl ?_
 refine LP_end _ rfl ?_
 refine W_block ?_
 have X15 := (X.stepx x)
 have f16 := f.mono X.size
 have ex17 := (ex.ext x)
 obtain ⟨J, m, Hx, H⟩ := H
 refine W_loop (S := Int × (List Int) × Int) (fun s ρ' w' => J s.1 s.2.1 s.2.2 ∧ ∃ (ρ : Env) (hx8 : PH), ρ' = setAll [(0, sl a sx c), (1, I s.1), (5, .slice a4 (List.length (List.replicate (Int.toNat (ln sx)) ((0 : Int)))) c5), (6, I s.2.2)] ρ ∧ But emp w w' ∧ OS 3 hx8 emp (.slice a4 (List.length (List.replicate (Int.toNat (ln sx)) ((0 : Int)))) c5) s.2.1 ∧ Sub hx8 w' ∧ Fresh w.heap.size hx8 ∧ Sub hx w' ∧ Dj hx8 hx) (fun s => m s.1 s.2.1 s.2.2) (i, List.replicate (Int.toNat (ln sx)) ((0 : Int)), wr ((ln sx) - 1)) ⟨Hx, _, hx1, env_eq ⟨rfl, rfl, rfl, rfl, trivial⟩, X15, o, ex3, f16, ex17, (Dj.of_fresh ex f).symm⟩ ?_
 rintro ⟨i6, out, k⟩ _ wx12 ⟨Hi, ρ, hx8, rfl, HF⟩
 revert HF
 refine bb6 fun X14 o9 ex10 f11 ex13 d => ?_
 have H := H i6 out k Hi
 refine W_seq ?_
 refine W_seq ?_
 refine W_region ?_
 refine LP_ev ok 0 [(13, I k), (14, .bool (decide (k ≥ 0)))] 2 rfl rfl ?_
 refine LP_end _ rfl ?_
 refine W_cond (decide (k ≥ 0)) rfl (fun hc => ?_) (fun hc => ?_)
 ·have H := H.1 hc
  refine W_skip ?_
  refine W_seq ?_
  refine W_block ?_
  refine W_seq ?_
  refine W_region ?_
  refine LP_ev ok 0 [(17, .slice a4 (List.length (List.replicate (Int.toNat (ln sx)) ((0 : Int)))) c5), (18, I k), (19, I i6), (20, sl a sx c), (21, I k)] 5 rfl rfl ?_
  obtain ⟨x18, hi, hx19, H⟩ := H
  refine LP_index 5 rfl rfl rfl Try.underlying34 ti_66 rfl rfl r hi hx19 fun a20 cs r21 d22 => ?_
  refine LP_ev ok 6 [(23, .pointer (some (Addr.add a20 1)))] 7 rfl rfl ?_
  refine LP_ldfld (x := x18) (off := 1) 7 (v := I x18.Levels) rfl rfl rfl ti_3 ag_3 (fun _ => rfl) rfl r21 d22 ex13 rfl rfl ?_
  obtain ⟨hz, H⟩ := H
  refine LP_val 8 _ rfl rfl (ex_rem rfl rfl rfl hz _) ?_
  obtain ⟨hi23, hl, H⟩ := H
  refine LP_indexw (v := .slice a4 (List.length (List.replicate (Int.toNat (ln sx)) ((0 : Int)))) c5) 9 rfl rfl rfl Try.underlying22 ti_3 rfl rfl o9 hi23 hl fun a24 wa => ?_
  refine LP_set 10 rfl rfl rfl rfl rfl wa (Le.refl emp) ⟨_, rfl, rfl⟩ ex10 fun hx25 wx26 o27 ex28 y dm => ?_
  refine LP_end _ rfl ?_
  refine W_region ?_
  refine LP_ev ok 0 [(27, I i6), (28, sl a sx c), (29, I k)] 3 rfl rfl ?_
  obtain ⟨x29, hi30, hx31, H⟩ := H
  refine LP_index 3 rfl rfl rfl Try.underlying34 ti_66 rfl rfl r hi30 hx31 fun a32 cs33 r34 d35 => ?_
  refine LP_ev ok 4 [(31, .pointer (some (Addr.add a32 1)))] 5 rfl rfl ?_
  have ex36 := (ex13.but y d)
  refine LP_ldfld (x := x29) (off := 1) 5 (v := I x29.Levels) rfl rfl rfl ti_3 ag_3 (fun _ => rfl) rfl r34 d35 ex36 rfl rfl ?_
  obtain ⟨hz37, H⟩ := H
  refine LP_val 6 _ rfl rfl (ex_quo rfl rfl rfl hz37 _) ?_
  refine LP_ev ok 7 [(1, I (wr (Int.tdiv i6 x29.Levels)))] 8 rfl rfl ?_
  refine LP_end _ rfl ?_
  refine W_region ?_
  refine LP_ev ok 0 [(15, I k), (16, I (wr (k - 1))), (6, I (wr (k - 1)))] 3 rfl rfl ?_
  refine LP_end _ rfl ?_
  have X38 := (X14.step y (f11.dom _))
  have f39 := (dm _).fresh f11 X14.size
  exact ⟨(wr (Int.tdiv i6 x29.Levels), List.set out (Int.toNat k) (Int.tmod i6 x18.Levels), wr (k - 1)), ⟨H.1, _, hx25, env_eq ⟨rfl, rfl, rfl, rfl, trivial⟩, X38, o27, ex28, f39, ex36, (DomLe.dj (dm _) d ex13)⟩, H.2⟩
 have H := H.2 hc
 refine W_exit ?_
 refine (if_pos rfl).mpr ?_
 refine W_seq ?_
 refine W_region ?_
 refine LP_ev ok 0 [(34, .slice a4 (List.length (List.replicate (Int.toNat (ln sx)) ((0 : Int)))) c5), (4, .slice a4 (List.length (List.replicate (Int.toNat (ln sx)) ((0 : Int)))) c5)] 2 rfl rfl ?_
 refine LP_end _ rfl ?_
 refine W_ret ?_
 exact ⟨_, Ret_of [.slice a4 (List.length (List.replicate (Int.toNat (ln sx)) ((0 : Int)))) c5] ⟨⟨rfl, rfl⟩, trivial⟩, _, _, _, H, rfl, X14.ext, o9, ex10, f11⟩

theorem spec_aRecord_w (g : Geo) (sx : List Variable) (i : Int) (Q : Record → Prop) (H : spec_aRecord g sx i Q) (w : World) {vx : Value} {hx : PH} (r : RS hx vx g.Parents) (ex : Sub hx w) {vx1 : Value} {hx2 : PH} (r3 : RS hx2 vx1 sx) (ex4 : Sub hx2 w) :
  CallsTo Try.prog 46 #[.agg #[vx], vx1, I i] w fun v w' => ∃ r0 u0_2 g0_2, Q r0 ∧ v = .agg #[I r0.Area, I r0.House, u0_2] ∧ Ext w w' ∧ OS 3 g0_2 emp u0_2 r0.Values ∧ Sub g0_2 w' ∧ Fresh w.heap.size g0_2 := by
 obtain ⟨a, c, rfl⟩ := r.shape
 obtain ⟨a5, c6, rfl⟩ := r3.shape
 refine enter (args := [.agg #[sl a g.Parents c], sl a5 sx c6, I i]) 23 Try.func46 rfl rfl rfl ?_
 refine W_forget [(0, .agg #[sl a g.Parents c]), (1, sl a5 sx c6), (2, I i)] ⟨rfl, rfl, rfl, trivial⟩ fun ρ => ?_
 have X := But.refl emp w
 refine W_seq ?_
 refine W_region ?_
 refine LP_box 0 (cs := [sl a g.Parents c]) rfl rfl rfl rfl rfl fun b wx x ex7 f => ?_
 refine LP_alloc 1 rfl rfl rfl ti_86 rfl fun b8 wx9 x10 ex11 f12 => ?_
 refine LP_end _ rfl ?_
 refine W_seq ?_
 refine W_region ?_
 refine LP_ev ok 0 [(8, sl a5 sx c6)] 1 rfl rfl ?_
 have ex14 := ((ex4.ext x).ext x10)
 refine LP_call 1 rfl rfl rfl cal_71 rfl (spec_sCount_w _ _ H wx9 r3 ex14) ?_
 rintro _ wx15 ⟨r13, H, rfl, x16⟩
 refine LP_ev ok 2 [(7, I r13)] 3 rfl rfl ?_
 refine LP_end _ rfl ?_
 refine W_seq ?_
 refine W_open mix fun wx17 x18 => ?_
 refine AP_game 12 [[], [0], [], [], [2, 3], [0, 1, 2, 3, 4], [0, 1, 2, 3, 4, 5], [], [], [], [8, 9], [0, 1, 7, 8, 9, 10], [0, 1, 2, 3, 4, 5, 6, 7, 8, 9, 10, 11], [0, 1, 2, 3, 4, 5, 6, 7, 8, 9, 10, 11, 12]] [[(3, none)], [(10, some 0)], [(2, none)], [(7, none)], [(12, some 2), (13, some 3)], [(11, some 1), (14, some 4)], [(15, some 5)], [(1, none)], [(2, none)], [(7, none)], [(18, some 8), (19, some 9)], [(17, some 7), (20, some 10)]] [(6, none), (16, some 6), (21, some 11)] [(0, false), (2, false), (3, false), (4, false), (7, false), (8, false), (9, false), (10, false), (1, true), (5, false), (6, false), (11, true)] (by kernel_rfl) (by kernel_rfl) ?_
 have ex19 := (((ex7.ext x10).ext x16).ext x18)
 refine GS_r1 [(3, pb b)] (.agg #[sl a g.Parents c]) rfl rfl (fun _ h => h) (fun _ w e => ex_ldbox rfl ti_32 ag_32 (fun h => by cases h) rfl e rfl rfl) ex19 ?_
 refine GS_ev ok [(2, I i)] (I i) rfl rfl (fun _ h => h) (fun _ => rfl) ?_
 refine GS_ev ok [(7, I r13)] (I r13) rfl rfl (fun _ h => h) (fun _ => rfl) ?_
 obtain ⟨hz, H⟩ := H
 refine GS_r0 [(12, I i), (13, I r13)] (I (wr (Int.tdiv i r13))) rfl rfl (fun _ h => h) (fun _ _ => ex_quo rfl rfl rfl hz _) ?_
 refine GS_ev ok [(1, sl a5 sx c6)] (sl a5 sx c6) rfl rfl (fun _ h => h) (fun _ => rfl) ?_
 refine GS_ev ok [(2, I i)] (I i) rfl rfl (fun _ h => h) (fun _ => rfl) ?_
 refine GS_ev ok [(7, I r13)] (I r13) rfl rfl (fun _ h => h) (fun _ => rfl) ?_
 obtain ⟨hz20, H⟩ := H
 refine GS_r0 [(18, I i), (19, I r13)] (I (Int.tmod i r13)) rfl rfl (fun _ h => h) (fun _ _ => ex_rem rfl rfl rfl hz20 _) ?_
 refine GS_lp [(10, .agg #[sl a g.Parents c])] rfl rfl (fun _ h => h) rfl fun ρ wx21 x22 => ?_
 have ex24 := (((((ex.ext x).ext x10).ext x16).ext x18).ext x22)
 refine LP_call 0 rfl rfl rfl cal_73 rfl (spec_gLeaves_w _ _ H wx21 r ex24) ?_
 rintro _ wx25 ⟨r23, vx27, hx28, H, rfl, x26, o, ex29, f30⟩
 obtain ⟨a31, c32, rfl⟩ := o.shape
 refine LP_gs ⟨⟨.inl rfl, trivial⟩, ?_⟩
 obtain ⟨x33, hi, hx34, H⟩ := H
 obtain ⟨a35, cs, hx37, r36, d⟩ := run_indexAt Try.underlying22 ti_3 o.readf .i64 _ x33 hi hx34
 refine GS_r0 [(11, sl a31 r23 c32), (14, I (wr (Int.tdiv i r13)))] (.pointer (some a35)) rfl rfl (fun _ h => h) (fun _ _ => ex_index rfl rfl rfl (hx37 _)) ?_
 obtain ⟨vx38, hx40, r39⟩ := run_loadAt ti_3 ag_3 r36 d
 obtain rfl := r39.int
 refine GS_r1 [(15, .pointer (some a35))] (I x33) rfl rfl (fun _ h => h) (fun _ w e => ex_load rfl rfl (hx40 w e)) ex29 ?_
 refine GS_lp [(17, sl a5 sx c6), (20, I (Int.tmod i r13))] rfl rfl (fun _ h => h) rfl fun ρ wx41 x42 => ?_
 have ex44 := (((((ex14.ext x16).ext x18).ext x22).ext x26).ext x42)
 refine LP_call 0 rfl rfl rfl cal_79 rfl (spec_sAt_w _ _ _ H wx41 r3 ex44) ?_
 rintro _ wx45 ⟨r43, vx47, hx48, H, rfl, x46, o49, ex50, f51⟩
 obtain ⟨a52, c53, rfl⟩ := o49.shape
 have ex54 := ((ex29.ext x42).ext x46)
 refine LP_gs ⟨⟨.inr ex54, .inl rfl, trivial⟩, ?_⟩
 intro wx55 x56 ρ hn
 refine AP_forget [(6, pb b8), (16, I x33), (21, sl a52 r43 c53)] (by exact hn) fun ρ => ?_
 refine AP_tail 12 [[], [0], [], [], [2, 3], [0, 1, 2, 3, 4], [0, 1, 2, 3, 4, 5], [], [], [], [8, 9], [0, 1, 7, 8, 9, 10], [0, 1, 2, 3, 4, 5, 6, 7, 8, 9, 10, 11], [0, 1, 2, 3, 4, 5, 6, 7, 8, 9, 10, 11, 12]] (by kernel_rfl) ?_
 refine LP_ev ok 12 [(22, .agg #[I x33, I 0, sl a52 r43 c53])] 13 rfl rfl ?_
 have ex59 := (((((((ex11.ext x16).ext x18).ext x22).ext x26).ext x42).ext x46).ext x56)
 refine LP_stbox 13 (vs := [I x33, I 0, sl a52 r43 c53]) (cs' := [I x33, I 0, sl a52 r43 c53]) rfl rfl rfl ti_86 rfl rfl rfl rfl rfl ex59 rfl rfl fun wx57 ex58 y => ?_
 refine LP_end _ rfl ?_
 refine W_ret ?_
 have ex60 := (((((ex11.ext x16).ext x18).ext x22).ext x26).ext x42)
 have ex61 := ((ex50.ext x56).but y (Dj.of_fresh ex60 f51))
 have X63 := (((((((X.stepx x).stepx x10).stepx x16).stepx x18).stepx x22).stepx x26).stepx x42)
 have f62 := f51.mono X63.size
 have X65 := (X.stepx x)
 have f64 := f12.mono X65.size
 have X66 := (((X63.stepx x46).stepx x56).step y (f64.dom _))
 exact ⟨_, Ret_of [.agg #[I x33, I 0, sl a52 r43 c53]] ⟨⟨_, rfl, rfl, ld_res ti_86 ag_86 (fun h => by cases h) ex58 rfl rfl⟩, trivial⟩, _, _, _, H, rfl, X66.ext, o49, ex61, f62⟩

theorem spec_gUp_w (g : Geo) (i : Int) (level : Int) (Q : Int → Prop) (H : spec_gUp g i level Q) (w : World) {vx : Value} {hx : PH} (r : RS hx vx g.Parents) (ex : Sub hx w) :
  CallsTo Try.prog 74 #[.agg #[vx], I i, I level] w fun v w' => ∃ r0, Q r0 ∧ v = I r0 ∧ Ext w w' := by
 obtain ⟨a, c, rfl⟩ := r.shape
 refine enter (args := [.agg #[sl a g.Parents c], I i, I level]) 27 Try.func74 rfl rfl rfl ?_
 refine W_forget [(0, .agg #[sl a g.Parents c]), (1, I i), (2, I level)] ⟨rfl, rfl, rfl, trivial⟩ fun ρ => ?_
 have X := But.refl emp w
 refine W_seq ?_
 refine W_region ?_
 refine LP_box 0 (cs := [sl a g.Parents c]) rfl rfl rfl rfl rfl fun b wx x ex1 f => ?_
 refine LP_ev ok 1 [(6, I 0)] 2 rfl rfl ?_
 refine LP_end _ rfl ?_
 refine W_seq ?_
 refine W_region ?_
 refine LP_ldbox 0 (v := .agg #[sl a g.Parents c]) rfl rfl rfl ti_32 ag_32 (fun h => by cases h) rfl ex1 rfl rfl ?_
 refine LP_ev ok 1 [(9, I i)] 2 rfl rfl ?_
 have ex3 := (ex.ext x)
 refine LP_call 2 rfl rfl rfl cal_99 rfl (spec_gDepth_w _ _ _ H wx r ex3) ?_
 rintro _ wx4 ⟨r2, H, rfl, x5⟩
 refine LP_ev ok 3 [(7, I r2)] 4 rfl rfl ?_
 refine LP_end _ rfl ?_
 refine W_seq ?_
 refine W_seq ?_
 refine W_region ?_
 refine LP_ev ok 0 [(11, I level), (12, .bool (decide (level < 0)))] 2 rfl rfl ?_
 refine LP_end _ rfl ?_
 refine W_cond (decide (level < 0)) rfl (fun hc => ?_) (fun hc => ?_)
 ·have H := H.1 hc
  refine W_seq ?_
  refine W_region ?_
  refine LP_ev ok 0 [(6, I ((-1)))] 1 rfl rfl ?_
  refine LP_end _ rfl ?_
  refine W_ret ?_
  have X6 := ((X.stepx x).stepx x5)
  exact ⟨_, Ret_of [I ((-1))] ⟨⟨rfl, rfl⟩, trivial⟩, _, H, rfl, X6.ext⟩
 have H := H.2 hc
 refine W_skip ?_
 refine W_seq ?_
 refine W_block ?_
 obtain ⟨J, m, Hx, H⟩ := H
 refine W_loop (S := Int × Int) (fun s ρ' w' => J s.1 s.2 ∧ ∃ (ρ : Env), ρ' = setAll [(1, I s.1), (2, I level), (3, pb b), (7, I s.2)] ρ ∧ wx4 = w') (fun s => m s.1 s.2) (i, r2) ⟨Hx, _, env_eq ⟨rfl, rfl, rfl, rfl, trivial⟩, rfl⟩ ?_
 rintro ⟨i7, d⟩ _ _ ⟨Hi, ρ, rfl, rfl⟩
 have H := H i7 d Hi
 refine W_seq ?_
 refine W_seq ?_
 refine W_region ?_
 refine LP_ev ok 0 [(13, I d), (14, I level), (15, .bool (decide (d > level)))] 3 rfl rfl ?_
 refine LP_end _ rfl ?_
 refine W_cond (decide (d > level)) rfl (fun hc9 => ?_) (fun hc9 => ?_)
 ·have H := H.1 hc9
  refine W_skip ?_
  refine W_seq ?_
  refine W_block ?_
  refine W_region ?_
  refine LP_ev ok 0 [(18, pb b)] 1 rfl rfl ?_
  have ex10 := (ex1.ext x5)
  refine LP_ldbox 1 (v := sl a g.Parents c) rfl rfl rfl ti_22 ag_22 (fun _ => rfl) rfl ex10 rfl rfl ?_
  refine LP_ev ok 2 [(20, I i7)] 3 rfl rfl ?_
  obtain ⟨x11, hi, hx12, H⟩ := H
  refine LP_index 3 rfl rfl rfl Try.underlying22 ti_3 rfl rfl r hi hx12 fun a13 cs r14 d15 => ?_
  have ex16 := (ex3.ext x5)
  refine LP_load 4 rfl rfl rfl ti_3 ag_3 rfl r14 d15 ex16 fun vx17 r18 => ?_
  obtain rfl := r18.int
  refine LP_ev ok 5 [(1, I x11)] 6 rfl rfl ?_
  refine LP_end _ rfl ?_
  refine W_region ?_
  refine LP_ev ok 0 [(16, I d), (17, I (wr (d - 1))), (7, I (wr (d - 1)))] 3 rfl rfl ?_
  refine LP_end _ rfl ?_
  exact ⟨(x11, wr (d - 1)), ⟨H.1, _, env_eq ⟨rfl, rfl, rfl, rfl, trivial⟩, rfl⟩, H.2⟩
 have H := H.2 hc9
 refine W_exit ?_
 refine (if_pos rfl).mpr ?_
 refine W_seq ?_
 refine W_seq ?_
 refine W_region ?_
 refine LP_ev ok 0 [(23, I d), (24, I level), (25, .bool (decide (d < level)))] 3 rfl rfl ?_
 refine LP_end _ rfl ?_
 refine W_cond (decide (d < level)) rfl (fun hc19 => ?_) (fun hc19 => ?_)
 ·have H := H.1 hc19
  refine W_seq ?_
  refine W_region ?_
  refine LP_ev ok 0 [(6, I ((-1)))] 1 rfl rfl ?_
  refine LP_end _ rfl ?_
  refine W_ret ?_
  have X20 := ((X.stepx x).stepx x5)
  exact ⟨_, Ret_of [I ((-1))] ⟨⟨rfl, rfl⟩, trivial⟩, _, H, rfl, X20.ext⟩
 have H := H.2 hc19
 refine W_skip ?_
 refine W_seq ?_
 refine W_region ?_
 refine LP_ev ok 0 [(26, I i7), (6, I i7)] 2 rfl rfl ?_
 refine LP_end _ rfl ?_
 refine W_ret ?_
 have X21 := ((X.stepx x).stepx x5)
 exact ⟨_, Ret_of [I i7] ⟨⟨rfl, rfl⟩, trivial⟩, _, H, rfl, X21.ext⟩

theorem spec_uMeets_w (t : Table) (values : List Int) (Q : Bool → Prop) (H : spec_uMeets t values Q) (w : World) {vx : Value} {hx : PH} (r : RS hx vx t.Vars) (ex : Sub hx w) {vx1 : Value} {hx2 : PH} (r3 : RS hx2 vx1 t.Where) (ex4 : Sub hx2 w) {vx7 : Value} {hx8 : PH} (r9 : RS hx8 vx7 values) (ex10 : Sub hx8 w) :
  CallsTo Try.prog 75 #[.agg #[I t.Level, vx, vx1, I t.Sum], vx7] w fun v w' => ∃ r0, Q r0 ∧ v = .bool r0 ∧ Ext w w' := by
 obtain ⟨a, c, rfl⟩ := r.shape
 obtain ⟨a5, c6, rfl⟩ := r3.shape
 obtain ⟨a11, c12, rfl⟩ := r9.shape
 refine enter (args := [.agg #[I t.Level, sl a t.Vars c, sl a5 t.Where c6, I t.Sum], sl a11 values c12]) 29 Try.func75 rfl rfl rfl ?_
 refine W_forget [(0, .agg #[I t.Level, sl a t.Vars c, sl a5 t.Where c6, I t.Sum]), (1, sl a11 values c12)] ⟨rfl, rfl, trivial⟩ fun ρ => ?_
 have X := But.refl emp w
 refine W_seq ?_
 refine W_region ?_
 refine LP_box 0 (cs := [I t.Level, sl a t.Vars c, sl a5 t.Where c6, I t.Sum]) rfl rfl rfl rfl rfl fun b wx x ex13 f => ?_
 refine LP_ev ok 1 [(4, .bool false)] 2 rfl rfl ?_
 refine LP_end _ rfl ?_
 refine W_seq ?_
 refine W_seq ?_
 refine W_region ?_
 refine LP_ev ok 0 [(7, .pointer (some ⟨b, 2, none⟩))] 1 rfl rfl ?_
 refine LP_ldbox 1 (v := sl a5 t.Where c6) rfl rfl rfl ti_22 ag_22 (fun _ => rfl) rfl ex13 rfl rfl ?_
 refine LP_ev ok 2 [(9, I (ln t.Where)), (10, I 0)] 4 rfl rfl ?_
 refine LP_end _ rfl ?_
 refine W_block ?_
 obtain ⟨J, m, Hx, H⟩ := H
 refine W_loop (S := Int) (fun s ρ' w' => J s ∧ ∃ (ρ : Env), ρ' = setAll [(1, sl a11 values c12), (8, sl a5 t.Where c6), (9, I (ln t.Where)), (10, I s)] ρ ∧ wx = w') (fun s => m s) 0 ⟨Hx, _, env_eq ⟨rfl, rfl, rfl, rfl, trivial⟩, rfl⟩ ?_
 rintro x14 _ _ ⟨Hi, ρ, rfl, rfl⟩
 have H := H x14 Hi
 refine W_seq ?_
 refine W_region ?_
 refine LP_ev ok 0 [(11, .bool (decide (x14 < (ln t.Where))))] 1 rfl rfl ?_
 refine LP_end _ rfl ?_
 refine W_seq ?_
 refine W_cond (decide (x14 < (ln t.Where))) rfl (fun hc => ?_) (fun hc => ?_)
 ·have H := H.1 hc
  refine W_skip ?_
  refine W_seq ?_
  refine W_block ?_
  refine W_seq ?_
  refine W_region ?_
  refine LP_ev ok 0 [(12, I x14)] 1 rfl rfl ?_
  obtain ⟨x16, hi, hx17, H⟩ := H
  refine LP_index 1 rfl rfl rfl Try.underlying22 ti_3 rfl rfl r3 hi hx17 fun a18 cs r19 d => ?_
  have ex20 := (ex4.ext x)
  refine LP_load 2 rfl rfl rfl ti_3 ag_3 rfl r19 d ex20 fun vx21 r22 => ?_
  obtain rfl := r22.int
  refine LP_ev ok 3 [(5, I x14), (6, I x16)] 5 rfl rfl ?_
  refine LP_end _ rfl ?_
  obtain ⟨k, hk, H⟩ := jn_elim H
  refine W_join2 (S := Bool) (fun s ρ' w' => k s ∧ ∃ (ρ : Env), ρ' = setAll [(1, sl a11 values c12), (8, sl a5 t.Where c6), (9, I (ln t.Where)), (10, I x14), (27, .bool s)] ρ ∧ wx = w') ?_ ?_
  ·refine W_region ?_
   refine LP_ev ok 0 [(15, I x16), (16, .bool (x16 != 0)), (17, .bool (x16 != 0))] 3 rfl rfl ?_
   refine LP_split 17 (x16 != 0) rfl (fun hc25 => ?_) (fun hc25 => ?_)
   ·have H := H.1 hc25
    refine LP_ev ok 3 [(18, I x16), (19, sl a11 values c12), (20, I x14)] 6 rfl rfl ?_
    obtain ⟨x26, hi27, hx28, H⟩ := H
    refine LP_index 6 rfl rfl rfl Try.underlying22 ti_3 rfl rfl r9 hi27 hx28 fun a29 cs30 r31 d32 => ?_
    have ex33 := (ex10.ext x)
    refine LP_load 7 rfl rfl rfl ti_3 ag_3 rfl r31 d32 ex33 fun vx34 r35 => ?_
    obtain rfl := r35.int
    refine LP_ev ok 8 [(23, .int .u64 (IntKind.u64.wrap (x26)))] 9 rfl rfl ?_
    obtain ⟨hz, H⟩ := H
    refine LP_val 9 _ rfl rfl (ex_shr rfl rfl rfl hz _) ?_
    refine LP_ev ok 10 [(25, I (bits .and .i64 (shr .i64 x16 (IntKind.u64.wrap (x26))) 1)), (26, .bool ((bits .and .i64 (shr .i64 x16 (IntKind.u64.wrap (x26))) 1) == 0)), (27, .bool ((bits .and .i64 (shr .i64 x16 (IntKind.u64.wrap (x26))) 1) == 0))] 13 rfl rfl ?_
    refine LP_end _ rfl ?_
    exact ⟨(bits .and .i64 (shr .i64 x16 (IntKind.u64.wrap (x26))) 1) == 0, H, _, env_eq ⟨rfl, rfl, rfl, rfl, rfl, trivial⟩, rfl⟩
   have H := H.2 hc25
   refine LP_ev ok 3 [(18, undef), (19, undef), (20, undef), (21, undef), (22, undef), (23, undef), (24, undef), (25, undef), (26, undef), (27, .bool false)] 13 rfl rfl ?_
   refine LP_end _ rfl ?_
   exact ⟨false, H, _, env_eq ⟨rfl, rfl, rfl, rfl, rfl, trivial⟩, rfl⟩
  rintro x23 _ _ ⟨H, ρ, rfl, rfl⟩
  subst hk
  refine W_cond (x23) rfl (fun hc36 => ?_) (fun hc36 => ?_)
  ·have H := H.1 hc36
   refine W_seq ?_
   refine W_region ?_
   refine LP_ev ok 0 [(4, .bool false)] 1 rfl rfl ?_
   refine LP_end _ rfl ?_
   refine W_ret ?_
   have X37 := (X.stepx x)
   exact ⟨_, Ret_of [.bool false] ⟨⟨rfl, rfl⟩, trivial⟩, _, H, rfl, X37.ext⟩
  have H := H.2 hc36
  refine W_skip ?_
  refine W_region ?_
  refine LP_ev ok 0 [(28, I (wr (x14 + 1))), (10, I (wr (x14 + 1)))] 2 rfl rfl ?_
  refine LP_end _ rfl ?_
  exact ⟨wr (x14 + 1), ⟨H.1, _, env_eq ⟨rfl, rfl, rfl, rfl, trivial⟩, rfl⟩, H.2⟩
 have H := H.2 hc
 refine W_exit ?_
 refine (if_pos rfl).mpr ?_
 refine W_seq ?_
 refine W_region ?_
 refine LP_ev ok 0 [(4, .bool true)] 1 rfl rfl ?_
 refine LP_end _ rfl ?_
 refine W_ret ?_
 have X38 := (X.stepx x)
 exact ⟨_, Ret_of [.bool true] ⟨⟨rfl, rfl⟩, trivial⟩, _, H, rfl, X38.ext⟩

theorem spec_l1Find_w (l : List Int) (n : Int) (Q : Int → Prop) (H : spec_l1Find l n Q) (w : World) {vx : Value} {hx : PH} (r : RS hx vx l) (ex : Sub hx w) :
  CallsTo Try.prog 76 #[vx, I n] w fun v w' => ∃ r0, Q r0 ∧ v = I r0 ∧ Ext w w' := by
 obtain ⟨a, c, rfl⟩ := r.shape
 refine enter (args := [sl a l c, I n]) 19 Try.func76 rfl rfl rfl ?_
 refine W_forget [(0, sl a l c), (1, I n)] ⟨rfl, rfl, trivial⟩ fun ρ => ?_
 have X := But.refl emp w
 refine W_seq ?_
 refine W_region ?_
 refine LP_ev ok 0 [(4, I 0)] 1 rfl rfl ?_
 refine LP_end _ rfl ?_
 refine W_seq ?_
 refine W_seq ?_
 refine W_region ?_
 refine LP_ev ok 0 [(7, sl a l c), (8, I (ln l)), (9, I 0)] 3 rfl rfl ?_
 refine LP_end _ rfl ?_
 refine W_block ?_
 obtain ⟨J, m, Hx, H⟩ := H
 refine W_loop (S := Int) (fun s ρ' w' => J s ∧ ∃ (ρ : Env), ρ' = setAll [(1, I n), (7, sl a l c), (8, I (ln l)), (9, I s)] ρ ∧ w = w') (fun s => m s) 0 ⟨Hx, _, env_eq ⟨rfl, rfl, rfl, rfl, trivial⟩, rfl⟩ ?_
 rintro x _ _ ⟨Hi, ρ, rfl, rfl⟩
 have H := H x Hi
 refine W_seq ?_
 refine W_region ?_
 refine LP_ev ok 0 [(10, .bool (decide (x < (ln l))))] 1 rfl rfl ?_
 refine LP_end _ rfl ?_
 refine W_seq ?_
 refine W_cond (decide (x < (ln l))) rfl (fun hc => ?_) (fun hc => ?_)
 ·have H := H.1 hc
  refine W_skip ?_
  refine W_seq ?_
  refine W_block ?_
  refine W_seq ?_
  refine W_region ?_
  refine LP_ev ok 0 [(11, I x)] 1 rfl rfl ?_
  obtain ⟨x1, hi, hx2, H⟩ := H
  refine LP_index 1 rfl rfl rfl Try.underlying22 ti_3 rfl rfl r hi hx2 fun a3 cs r4 d => ?_
  refine LP_load 2 rfl rfl rfl ti_3 ag_3 rfl r4 d ex fun vx5 r6 => ?_
  obtain rfl := r6.int
  refine LP_ev ok 3 [(5, I x), (6, I x1)] 5 rfl rfl ?_
  refine LP_end _ rfl ?_
  refine W_seq ?_
  refine W_region ?_
  refine LP_ev ok 0 [(14, I x1), (15, I n), (16, .bool (x1 == n))] 3 rfl rfl ?_
  refine LP_end _ rfl ?_
  refine W_cond (x1 == n) rfl (fun hc7 => ?_) (fun hc7 => ?_)
  ·have H := H.1 hc7
   refine W_seq ?_
   refine W_region ?_
   refine LP_ev ok 0 [(17, I x), (4, I x)] 2 rfl rfl ?_
   refine LP_end _ rfl ?_
   refine W_ret ?_
   exact ⟨_, Ret_of [I x] ⟨⟨rfl, rfl⟩, trivial⟩, _, H, rfl, X.ext⟩
  have H := H.2 hc7
  refine W_skip ?_
  refine W_region ?_
  refine LP_ev ok 0 [(18, I (wr (x + 1))), (9, I (wr (x + 1)))] 2 rfl rfl ?_
  refine LP_end _ rfl ?_
  exact ⟨wr (x + 1), ⟨H.1, _, env_eq ⟨rfl, rfl, rfl, rfl, trivial⟩, rfl⟩, H.2⟩
 have H := H.2 hc
 refine W_exit ?_
 refine (if_pos rfl).mpr ?_
 refine W_seq ?_
 refine W_region ?_
 refine LP_ev ok 0 [(4, I ((-1)))] 1 rfl rfl ?_
 refine LP_end _ rfl ?_
 refine W_ret ?_
 exact ⟨_, Ret_of [I ((-1))] ⟨⟨rfl, rfl⟩, trivial⟩, _, H, rfl, X.ext⟩

theorem spec_sPick_w (values : List Int) (vars : List Int) (Q : (List Int) → Prop) (H : spec_sPick values vars Q) (w : World) {vx : Value} {hx : PH} (r : RS hx vx values) (ex : Sub hx w) {vx1 : Value} {hx2 : PH} (r3 : RS hx2 vx1 vars) (ex4 : Sub hx2 w) :
  CallsTo Try.prog 78 #[vx, vx1] w fun v w' => ∃ r0 u0 g0, Q r0 ∧ v = u0 ∧ Ext w w' ∧ OS 3 g0 emp u0 r0 ∧ Sub g0 w' ∧ Fresh w.heap.size g0 := by
 obtain ⟨a, c, rfl⟩ := r.shape
 obtain ⟨a5, c6, rfl⟩ := r3.shape
 refine enter (args := [sl a values c, sl a5 vars c6]) 23 Try.func78 rfl rfl rfl ?_
 refine W_forget [(0, sl a values c), (1, sl a5 vars c6)] ⟨rfl, rfl, trivial⟩ fun ρ => ?_
 have X := But.refl emp w
 refine W_seq ?_
 refine W_region ?_
 refine LP_ev ok 0 [(4, .slice none 0 0)] 1 rfl rfl ?_
 refine LP_end _ rfl ?_
 refine W_seq ?_
 refine W_region ?_
 refine LP_ev ok 0 [(5, .slice none 0 0)] 1 rfl rfl ?_
 refine LP_end _ rfl ?_
 refine W_seq ?_
 refine W_seq ?_
 refine W_region ?_
 refine LP_ev ok 0 [(8, sl a5 vars c6), (9, I (ln vars)), (10, I 0)] 3 rfl rfl ?_
 refine LP_end _ rfl ?_
 refine W_block ?_
 obtain ⟨J, m, Hx, H⟩ := H
 refine W_loop (S := (List Int) × Int) (fun s ρ' w' => J s.1 s.2 ∧ ∃ (ρ : Env) (vx7 : Value) (hx8 : PH), ρ' = setAll [(0, sl a values c), (5, vx7), (8, sl a5 vars c6), (9, I (ln vars)), (10, I s.2)] ρ ∧ But emp w w' ∧ OS 3 hx8 emp vx7 s.1 ∧ Sub hx8 w' ∧ Fresh w.heap.size hx8 ∧ Sub hx w' ∧ Sub hx2 w' ∧ Dj hx8 hx ∧ Dj hx8 hx2) (fun s => m s.1 s.2) ([], 0) ⟨Hx, _, .slice none 0 0, emp, env_eq ⟨rfl, rfl, rfl, rfl, rfl, trivial⟩, X, OS.nil, (emp_sub _), (emp_fresh _), ex, ex4, (fun _ => .inl rfl), (fun _ => .inl rfl)⟩ ?_
 rintro ⟨out, x⟩ _ wx ⟨Hi, ρ, vx7, hx8, rfl, HF⟩
 revert HF
 refine bb8 fun X15 o ex9 f ex10 ex11 d d14 => ?_
 have H := H out x Hi
 obtain ⟨a12, c13, rfl⟩ := o.shape
 refine W_seq ?_
 refine W_region ?_
 refine LP_ev ok 0 [(11, .bool (decide (x < (ln vars))))] 1 rfl rfl ?_
 refine LP_end _ rfl ?_
 refine W_seq ?_
 refine W_cond (decide (x < (ln vars))) rfl (fun hc => ?_) (fun hc => ?_)
 ·have H := H.1 hc
  refine W_skip ?_
  refine W_seq ?_
  refine W_block ?_
  refine W_seq ?_
  refine W_region ?_
  obtain ⟨x16, hi, hx17, H⟩ := H
  refine LP_index 0 rfl rfl rfl Try.underlying22 ti_3 rfl rfl r3 hi hx17 fun a18 cs r19 d20 => ?_
  refine LP_load 1 rfl rfl rfl ti_3 ag_3 rfl r19 d20 ex11 fun vx21 r22 => ?_
  obtain rfl := r22.int
  refine LP_ev ok 2 [(7, I x16)] 3 rfl rfl ?_
  refine LP_end _ rfl ?_
  refine W_region ?_
  refine LP_ev ok 0 [(14, sl a12 out c13), (15, sl a values c), (16, I x16)] 3 rfl rfl ?_
  obtain ⟨x23, hi24, hx25, H⟩ := H
  refine LP_index 3 rfl rfl rfl Try.underlying22 ti_3 rfl rfl r hi24 hx25 fun a26 cs27 r28 d29 => ?_
  refine LP_load 4 rfl rfl rfl ti_3 ag_3 rfl r28 d29 ex10 fun vx30 r31 => ?_
  obtain rfl := r31.int
  refine LP_lit (α := Int) (g := emp) 5 (vs := [I x23]) (xs := [x23]) rfl rfl rfl Try.underlying22 ti_3 rfl rfl ⟨⟨_, rfl, rfl⟩, trivial⟩ rfl rfl fun hx32 vx33 wx34 x35 o36 ex37 f38 => ?_
  obtain ⟨a39, c40, rfl⟩ := o36.shape
  have ex41 := (ex9.ext x35)
  obtain ⟨hb, H⟩ := H
  refine LP_appendf (α := Int) 6 rfl rfl rfl Try.underlying22 ti_3 rfl rfl rfl o ex41 o36.readf ex37 (by first | omega | (simp only [ln] at *; omega)) (by first | omega | (simp only [ln] at *; omega)) fun hx42 vx43 wx44 o45 ex46 y dm => ?_
  obtain ⟨a47, c48, rfl⟩ := o45.shape
  refine LP_ev ok 7 [(5, .slice a47 (List.length (out ++ ([x23]))) c48)] 8 rfl rfl ?_
  refine LP_end _ rfl ?_
  refine W_region ?_
  refine LP_ev ok 0 [(21, I (wr (x + 1))), (10, I (wr (x + 1)))] 2 rfl rfl ?_
  refine LP_end _ rfl ?_
  have X49 := ((X15.stepx x35).step y (f.dom _))
  have X51 := (X15.stepx x35)
  have f50 := dm.fresh f X51.size
  have ex52 := ((ex10.ext x35).but y d)
  have ex53 := ((ex11.ext x35).but y d14)
  have ex54 := (ex10.ext x35)
  have ex55 := (ex11.ext x35)
  exact ⟨(out ++ ([x23]), wr (x + 1)), ⟨H.1, _, .slice a47 (List.length (out ++ ([x23]))) c48, hx42, env_eq ⟨rfl, rfl, rfl, rfl, rfl, trivial⟩, X49, o45, ex46, f50, ex52, ex53, (DomLe.dj dm d ex54), (DomLe.dj dm d14 ex55)⟩, H.2⟩
 have H := H.2 hc
 refine W_exit ?_
 refine (if_pos rfl).mpr ?_
 refine W_seq ?_
 refine W_region ?_
 refine LP_ev ok 0 [(22, sl a12 out c13), (4, sl a12 out c13)] 2 rfl rfl ?_
 refine LP_end _ rfl ?_
 refine W_ret ?_
 exact ⟨_, Ret_of [sl a12 out c13] ⟨⟨rfl, rfl⟩, trivial⟩, _, _, _, H, rfl, X15.ext, o, ex9, f⟩

theorem spec_sIndex_w (sx : List Variable) (values : List Int) (Q : Int → Prop) (H : spec_sIndex sx values Q) (w : World) {vx : Value} {hx : PH} (r : RS hx vx sx) (ex : Sub hx w) {vx1 : Value} {hx2 : PH} (r3 : RS hx2 vx1 values) (ex4 : Sub hx2 w) :
  CallsTo Try.prog 77 #[vx, vx1] w fun v w' => ∃ r0, Q r0 ∧ v = I r0 ∧ Ext w w' := by
 obtain ⟨a, c, rfl⟩ := r.shape
 obtain ⟨a5, c6, rfl⟩ := r3.shape
 refine enter (args := [sl a sx c, sl a5 values c6]) 26 Try.func77 rfl rfl rfl ?_
 refine W_forget [(0, sl a sx c), (1, sl a5 values c6)] ⟨rfl, rfl, trivial⟩ fun ρ => ?_
 have X := But.refl emp w
 refine W_seq ?_
 refine W_region ?_
 refine LP_ev ok 0 [(4, I 0)] 1 rfl rfl ?_
 refine LP_end _ rfl ?_
 refine W_seq ?_
 refine W_region ?_
 refine LP_ev ok 0 [(5, I 0)] 1 rfl rfl ?_
 refine LP_end _ rfl ?_
 refine W_seq ?_
 refine W_seq ?_
 refine W_region ?_
 refine LP_ev ok 0 [(8, sl a sx c), (9, I (ln sx)), (10, I 0)] 3 rfl rfl ?_
 refine LP_end _ rfl ?_
 refine W_block ?_
 obtain ⟨J, m, Hx, H⟩ := H
 refine W_loop (S := Int × Int) (fun s ρ' w' => J s.1 s.2 ∧ ∃ (ρ : Env), ρ' = setAll [(1, sl a5 values c6), (5, I s.1), (8, sl a sx c), (9, I (ln sx)), (10, I s.2)] ρ ∧ But emp w w' ∧ Sub hx w' ∧ Sub hx2 w') (fun s => m s.1 s.2) (0, 0) ⟨Hx, _, env_eq ⟨rfl, rfl, rfl, rfl, rfl, trivial⟩, X, ex, ex4⟩ ?_
 rintro ⟨n, x⟩ _ wx ⟨Hi, ρ, rfl, X9, ex7, ex8⟩
 have H := H n x Hi
 refine W_seq ?_
 refine W_region ?_
 refine LP_ev ok 0 [(11, .bool (decide (x < (ln sx))))] 1 rfl rfl ?_
 refine LP_end _ rfl ?_
 refine W_seq ?_
 refine W_cond (decide (x < (ln sx))) rfl (fun hc => ?_) (fun hc => ?_)
 ·have H := H.1 hc
  refine W_skip ?_
  refine W_seq ?_
  refine W_block ?_
  refine W_seq ?_
  refine W_region ?_
  refine LP_ev ok 0 [(12, I x)] 1 rfl rfl ?_
  obtain ⟨x10, hi, hx11, H⟩ := H
  refine LP_index 1 rfl rfl rfl Try.underlying34 ti_66 rfl rfl r hi hx11 fun a12 cs r13 d => ?_
  refine LP_load 2 rfl rfl rfl ti_66 ag_66 rfl r13 d ex7 fun vx14 r15 => ?_
  obtain rfl := Variable_rv r15
  refine LP_alloc 3 rfl rfl rfl ti_66 rfl fun b wx16 x17 ex18 f => ?_
  refine LP_ev ok 4 [(6, I x)] 5 rfl rfl ?_
  refine LP_stbox 5 (vs := [.string x10.Name, I x10.Levels]) (cs' := [.string x10.Name, I x10.Levels]) rfl rfl rfl ti_66 rfl rfl rfl rfl rfl ex18 rfl rfl fun wx19 ex20 y => ?_
  refine LP_end _ rfl ?_
  refine W_quiet mix (by kernel_rfl) ?_
  refine QP_ev ok 0 [(15, I n), (16, .pointer (some ⟨b, 1, none⟩))] 2 rfl rfl ?_
  refine QP_ldbox 2 (v := I x10.Levels) rfl rfl rfl ti_3 ag_3 (fun _ => rfl) rfl ex20 rfl rfl ?_
  refine QP_ev ok 3 [(18, I (wr (n * x10.Levels))), (19, sl a5 values c6), (20, I x)] 6 rfl rfl ?_
  obtain ⟨x21, hi22, hx23, H⟩ := H
  refine QP_index 6 rfl rfl rfl Try.underlying22 ti_3 rfl rfl r3 hi22 hx23 fun a24 cs25 r26 d27 => ?_
  have ex28 := ((ex8.ext x17).but y (Dj.of_fresh ex8 f).symm)
  refine QP_load 7 rfl rfl rfl ti_3 ag_3 rfl r26 d27 ex28 fun vx29 r30 => ?_
  obtain rfl := r30.int
  refine QP_ev ok 8 [(23, I (wr ((wr (n * x10.Levels)) + x21))), (5, I (wr ((wr (n * x10.Levels)) + x21)))] 10 rfl rfl ?_
  refine QP_end _ rfl fun wx31 x32 => ?_
  refine W_region ?_
  refine LP_ev ok 0 [(24, I (wr (x + 1))), (10, I (wr (x + 1)))] 2 rfl rfl ?_
  refine LP_end _ rfl ?_
  have f33 := f.mono X9.size
  have X34 := (((X9.stepx x17).step y (f33.dom _)).stepx x32)
  have ex35 := (((ex7.ext x17).but y (Dj.of_fresh ex7 f).symm).ext x32)
  have ex36 := (ex28.ext x32)
  exact ⟨(wr ((wr (n * x10.Levels)) + x21), wr (x + 1)), ⟨H.1, _, env_eq ⟨rfl, rfl, rfl, rfl, rfl, trivial⟩, X34, ex35, ex36⟩, H.2⟩
 have H := H.2 hc
 refine W_exit ?_
 refine (if_pos rfl).mpr ?_
 refine W_seq ?_
 refine W_region ?_
 refine LP_ev ok 0 [(25, I n), (4, I n)] 2 rfl rfl ?_
 refine LP_end _ rfl ?_
 refine W_ret ?_
 exact ⟨_, Ret_of [I n] ⟨⟨rfl, rfl⟩, trivial⟩, _, H, rfl, X9.ext⟩

theorem spec_uCell_w (g : Geo) (sx : List Variable) (t : Table) (r19 : Record) (Q : Int → Int → Prop) (H : spec_uCell g sx t r19 Q) (w : World) {vx : Value} {hx : PH} (r : RS hx vx g.Parents) (ex : Sub hx w) {vx1 : Value} {hx2 : PH} (r3 : RS hx2 vx1 sx) (ex4 : Sub hx2 w) {vx7 : Value} {hx8 : PH} (r9 : RS hx8 vx7 t.Vars) (ex10 : Sub hx8 w) {vx13 : Value} {hx14 : PH} (r15 : RS hx14 vx13 t.Where) (ex16 : Sub hx14 w) {vx20 : Value} {hx21 : PH} (r22 : RS hx21 vx20 r19.Values) (ex23 : Sub hx21 w) :
  CallsTo Try.prog 45 #[.agg #[vx], vx1, .agg #[I t.Level, vx7, vx13, I t.Sum], .agg #[I r19.Area, I r19.House, vx20]] w fun v w' => ∃ r0 r1, Q r0 r1 ∧ v = .tuple #[I r0, I r1] ∧ Ext w w' := by
 obtain ⟨a, c, rfl⟩ := r.shape
 obtain ⟨a5, c6, rfl⟩ := r3.shape
 obtain ⟨a11, c12, rfl⟩ := r9.shape
 obtain ⟨a17, c18, rfl⟩ := r15.shape
 obtain ⟨a24, c25, rfl⟩ := r22.shape
 refine enter (args := [.agg #[sl a g.Parents c], sl a5 sx c6, .agg #[I t.Level, sl a11 t.Vars c12, sl a17 t.Where c18, I t.Sum], .agg #[I r19.Area, I r19.House, sl a24 r19.Values c25]]) 60 Try.func45 rfl rfl rfl ?_
 refine W_forget [(0, .agg #[sl a g.Parents c]), (1, sl a5 sx c6), (2, .agg #[I t.Level, sl a11 t.Vars c12, sl a17 t.Where c18, I t.Sum]), (3, .agg #[I r19.Area, I r19.House, sl a24 r19.Values c25])] ⟨rfl, rfl, rfl, rfl, trivial⟩ fun ρ => ?_
 have X := But.refl emp w
 refine W_seq ?_
 refine W_region ?_
 refine LP_box 0 (cs := [sl a g.Parents c]) rfl rfl rfl rfl rfl fun b wx x ex26 f => ?_
 refine LP_box 1 (cs := [I t.Level, sl a11 t.Vars c12, sl a17 t.Where c18, I t.Sum]) rfl rfl rfl rfl rfl fun b27 wx28 x29 ex30 f31 => ?_
 refine LP_box 2 (cs := [I r19.Area, I r19.House, sl a24 r19.Values c25]) rfl rfl rfl rfl rfl fun b32 wx33 x34 ex35 f36 => ?_
 refine LP_ev ok 3 [(8, I 0), (9, I 0)] 5 rfl rfl ?_
 refine LP_end _ rfl ?_
 refine W_seq ?_
 refine W_region ?_
 have ex37 := ((ex26.ext x29).ext x34)
 refine LP_ldbox 0 (v := .agg #[sl a g.Parents c]) rfl rfl rfl ti_32 ag_32 (fun h => by cases h) rfl ex37 rfl rfl ?_
 refine LP_ev ok 1 [(14, pb b32)] 2 rfl rfl ?_
 refine LP_ldbox 2 (v := I r19.Area) rfl rfl rfl ti_3 ag_3 (fun _ => rfl) rfl ex35 rfl rfl ?_
 refine LP_ev ok 3 [(16, pb b27)] 4 rfl rfl ?_
 have ex38 := (ex30.ext x34)
 refine LP_ldbox 4 (v := I t.Level) rfl rfl rfl ti_3 ag_3 (fun _ => rfl) rfl ex38 rfl rfl ?_
 have ex40 := (((ex.ext x).ext x29).ext x34)
 refine LP_call 5 rfl rfl rfl cal_74 rfl (spec_gUp_w _ _ _ _ H wx33 r ex40) ?_
 rintro _ wx41 ⟨r39, H, rfl, x42⟩
 refine LP_ev ok 6 [(10, I r39)] 7 rfl rfl ?_
 refine LP_end _ rfl ?_
 refine W_seq ?_
 obtain ⟨k, hk, H⟩ := jn_elim H
 refine W_join2 (S := Bool) (fun s ρ' w' => k s ∧ ∃ (ρ : Env), ρ' = setAll [(1, sl a5 sx c6), (4, pb b), (6, pb b27), (7, pb b32), (10, I r39), (27, .bool s)] ρ ∧ But emp w w' ∧ Sub hx w' ∧ Sub hx2 w' ∧ Sub hx8 w' ∧ Sub hx14 w' ∧ Sub hx21 w' ∧ Sub (bx b 32 [sl a g.Parents c]) w' ∧ Sub (bx b27 50 [I t.Level, sl a11 t.Vars c12, sl a17 t.Where c18, I t.Sum]) w' ∧ Sub (bx b32 86 [I r19.Area, I r19.House, sl a24 r19.Values c25]) w') ?_ ?_
 ·refine W_region ?_
  refine LP_ev ok 0 [(19, I r39), (20, .bool (decide (r39 < 0))), (21, .bool (decide (r39 < 0)))] 3 rfl rfl ?_
  refine LP_split 21 (decide (r39 < 0)) rfl (fun hc => ?_) (fun hc => ?_)
  ·have H := H.1 hc
   refine LP_ev ok 3 [(22, undef), (23, undef), (24, undef), (25, undef), (26, undef), (27, .bool true)] 9 rfl rfl ?_
   refine LP_end _ rfl ?_
   have X54 := ((((X.stepx x).stepx x29).stepx x34).stepx x42)
   have ex55 := (ex40.ext x42)
   have ex56 := ((((ex4.ext x).ext x29).ext x34).ext x42)
   have ex57 := ((((ex10.ext x).ext x29).ext x34).ext x42)
   have ex58 := ((((ex16.ext x).ext x29).ext x34).ext x42)
   have ex59 := ((((ex23.ext x).ext x29).ext x34).ext x42)
   have ex60 := (ex37.ext x42)
   have ex61 := (ex38.ext x42)
   have ex62 := (ex35.ext x42)
   exact ⟨true, H, _, env_eq ⟨rfl, rfl, rfl, rfl, rfl, rfl, trivial⟩, X54, ex55, ex56, ex57, ex58, ex59, ex60, ex61, ex62⟩
  have H := H.2 hc
  have ex63 := (ex38.ext x42)
  refine LP_ldbox 3 (v := .agg #[I t.Level, sl a11 t.Vars c12, sl a17 t.Where c18, I t.Sum]) rfl rfl rfl ti_50 ag_50 (fun h => by cases h) rfl ex63 rfl rfl ?_
  refine LP_ev ok 4 [(23, .pointer (some ⟨b32, 2, none⟩))] 5 rfl rfl ?_
  have ex64 := (ex35.ext x42)
  refine LP_ldbox 5 (v := sl a24 r19.Values c25) rfl rfl rfl ti_22 ag_22 (fun _ => rfl) rfl ex64 rfl rfl ?_
  have ex66 := ((((ex10.ext x).ext x29).ext x34).ext x42)
  have ex67 := ((((ex16.ext x).ext x29).ext x34).ext x42)
  have ex68 := ((((ex23.ext x).ext x29).ext x34).ext x42)
  refine LP_call 6 rfl rfl rfl cal_75 rfl (spec_uMeets_w _ _ _ H wx41 r9 ex66 r15 ex67 r22 ex68) ?_
  rintro _ wx69 ⟨r65, H, rfl, x70⟩
  refine LP_ev ok 7 [(26, .bool (!r65)), (27, .bool (!r65))] 9 rfl rfl ?_
  refine LP_end _ rfl ?_
  have X71 := (((((X.stepx x).stepx x29).stepx x34).stepx x42).stepx x70)
  have ex72 := ((ex40.ext x42).ext x70)
  have ex73 := (((((ex4.ext x).ext x29).ext x34).ext x42).ext x70)
  have ex74 := (ex66.ext x70)
  have ex75 := (ex67.ext x70)
  have ex76 := (ex68.ext x70)
  have ex77 := ((ex37.ext x42).ext x70)
  have ex78 := (ex63.ext x70)
  have ex79 := (ex64.ext x70)
  exact ⟨!r65, H, _, env_eq ⟨rfl, rfl, rfl, rfl, rfl, rfl, trivial⟩, X71, ex72, ex73, ex74, ex75, ex76, ex77, ex78, ex79⟩
 rintro x43 _ wx44 ⟨H, ρ, rfl, HF⟩
 revert HF
 refine bb9 fun X53 ex45 ex46 ex47 ex48 ex49 ex50 ex51 ex52 => ?_
 subst hk
 refine W_cond (x43) rfl (fun hc80 => ?_) (fun hc80 => ?_)
 ·have H := H.1 hc80
  refine W_seq ?_
  refine W_region ?_
  refine LP_ev ok 0 [(8, I ((-1))), (9, I 0)] 2 rfl rfl ?_
  refine LP_end _ rfl ?_
  refine W_ret ?_
  exact ⟨_, Ret_of [I ((-1)), I 0] ⟨⟨rfl, rfl⟩, ⟨rfl, rfl⟩, trivial⟩, _, _, H, rfl, X53.ext⟩
 have H := H.2 hc80
 refine W_skip ?_
 refine W_seq ?_
 refine W_region ?_
 refine LP_ev ok 0 [(28, sl a5 sx c6), (29, .pointer (some ⟨b27, 1, none⟩))] 2 rfl rfl ?_
 refine LP_ldbox 2 (v := sl a11 t.Vars c12) rfl rfl rfl ti_22 ag_22 (fun _ => rfl) rfl ex51 rfl rfl ?_
 refine LP_call 3 rfl rfl rfl cal_72 rfl (spec_sPart_w _ _ _ H wx44 r3 ex46 r9 ex47) ?_
 rintro _ wx82 ⟨r81, vx84, hx85, H, rfl, x83, o, ex86, f87⟩
 obtain ⟨a88, c89, rfl⟩ := o.shape
 refine LP_ev ok 4 [(11, sl a88 r81 c89)] 5 rfl rfl ?_
 refine LP_end _ rfl ?_
 refine W_seq ?_
 refine W_open mix fun wx90 x91 => ?_
 refine AP_game 16 [[], [], [1], [0, 1, 2], [], [0, 1, 2, 3, 4], [], [0, 1, 2, 3, 4, 5, 6], [0, 1, 2, 3, 4, 5, 6, 7], [], [], [10], [], [12], [0, 1, 2, 3, 4, 5, 6, 7, 10, 11, 12, 13], [0, 1, 2, 3, 4, 5, 6, 7, 9, 10, 11, 12, 13, 14], [0, 1, 2, 3, 4, 5, 6, 7, 8, 9, 10, 11, 12, 13, 14, 15], [0, 1, 2, 3, 4, 5, 6, 7, 8, 9, 10, 11, 12, 13, 14, 15, 16]] [[(4, none)], [(6, none)], [(33, some 1)], [(32, some 0), (34, some 2)], [(10, none)], [(35, some 3), (36, some 4)], [(11, none)], [(38, some 6)], [(37, some 5), (39, some 7)], [(11, none)], [(7, none)], [(42, some 10)], [(6, none)], [(44, some 12)], [(43, some 11), (45, some 13)], [(41, some 9), (46, some 14)]] [(6, none), (7, none), (40, some 8), (47, some 15)] [(0, false), (1, false), (2, false), (4, false), (6, false), (9, false), (10, false), (11, false), (12, false), (13, false), (3, true), (5, false), (7, false), (8, false), (14, true), (15, false)] (by kernel_rfl) (by kernel_rfl) ?_
 have ex92 := ((ex50.ext x83).ext x91)
 refine GS_r1 [(4, pb b)] (.agg #[sl a g.Parents c]) rfl rfl (fun _ h => h) (fun _ w e => ex_ldbox rfl ti_32 ag_32 (fun h => by cases h) rfl e rfl rfl) ex92 ?_
 refine GS_ev ok [(6, pb b27)] (pb b27) rfl rfl (fun _ h => h) (fun _ => rfl) ?_
 have ex93 := ((ex51.ext x83).ext x91)
 refine GS_r1 [(33, pb b27)] (I t.Level) rfl rfl (fun _ h => h) (fun _ w e => ex_ldbox rfl ti_3 ag_3 (fun _ => rfl) rfl e rfl rfl) ex93 ?_
 refine GS_ev ok [(10, I r39)] (I r39) rfl rfl (fun _ h => h) (fun _ => rfl) ?_
 refine GS_ev ok [(11, sl a88 r81 c89)] (sl a88 r81 c89) rfl rfl (fun _ h => h) (fun _ => rfl) ?_
 refine GS_ev ok [(11, sl a88 r81 c89)] (sl a88 r81 c89) rfl rfl (fun _ h => h) (fun _ => rfl) ?_
 refine GS_ev ok [(7, pb b32)] (.pointer (some ⟨b32, 2, none⟩)) rfl rfl (fun _ h => h) (fun _ => rfl) ?_
 have ex94 := ((ex52.ext x83).ext x91)
 refine GS_r1 [(42, .pointer (some ⟨b32, 2, none⟩))] (sl a24 r19.Values c25) rfl rfl (fun _ h => h) (fun _ w e => ex_ldbox rfl ti_22 ag_22 (fun _ => rfl) rfl e rfl rfl) ex94 ?_
 refine GS_ev ok [(6, pb b27)] (.pointer (some ⟨b27, 1, none⟩)) rfl rfl (fun _ h => h) (fun _ => rfl) ?_
 refine GS_r1 [(44, .pointer (some ⟨b27, 1, none⟩))] (sl a11 t.Vars c12) rfl rfl (fun _ h => h) (fun _ w e => ex_ldbox rfl ti_22 ag_22 (fun _ => rfl) rfl e rfl rfl) ex93 ?_
 refine GS_lp [(32, .agg #[sl a g.Parents c]), (34, I t.Level)] rfl rfl (fun _ h => h) rfl fun ρ wx95 x96 => ?_
 have ex98 := (((ex45.ext x83).ext x91).ext x96)
 refine LP_call 0 rfl rfl rfl cal_68 rfl (spec_gLevel_w _ _ _ H wx95 r ex98) ?_
 rintro _ wx99 ⟨r97, vx101, hx102, H, rfl, x100, o103, ex104, f105⟩
 obtain ⟨a106, c107, rfl⟩ := o103.shape
 have ex108 := ((ex93.ext x96).ext x100)
 have ex109 := ((ex94.ext x96).ext x100)
 refine LP_gs ⟨⟨.inr ex108, .inr ex109, .inl rfl, .inl rfl, trivial⟩, ?_⟩
 obtain ⟨r110, Hd, H⟩ := H
 refine GS_q [(35, sl a106 r97 c107), (36, I r39)] (I r110) [hx102] [sl a106 r97 c107, I r39] rfl rfl (fun _ h => h) rfl cal_76 (fun _ => rfl) (fun w e => (spec_l1Find_w _ _ _ Hd w o103.readf e.1).mono (fun _ _ h => by obtain ⟨_, rfl, rfl, x⟩ := h; exact ⟨rfl, x⟩)) ⟨ex104, trivial⟩ ?_
 obtain ⟨r111, Hd112, H⟩ := H
 have ex113 := (((ex86.ext x91).ext x96).ext x100)
 refine GS_q [(38, sl a88 r81 c89)] (I r111) [hx85] [sl a88 r81 c89] rfl rfl (fun _ h => h) rfl cal_71 (fun _ => rfl) (fun w e => (spec_sCount_w _ _ Hd112 w o.readf e.1).mono (fun _ _ h => by obtain ⟨_, rfl, rfl, x⟩ := h; exact ⟨rfl, x⟩)) ⟨ex113, trivial⟩ ?_
 refine GS_ev ok [(37, I r110), (39, I r111)] (I (wr (r110 * r111))) rfl rfl (fun _ h => h) (fun _ => rfl) ?_
 refine GS_lp [(43, sl a24 r19.Values c25), (45, sl a11 t.Vars c12)] rfl rfl (fun _ h => h) rfl fun ρ wx114 x115 => ?_
 have ex117 := (((((ex49.ext x83).ext x91).ext x96).ext x100).ext x115)
 have ex118 := (((((ex47.ext x83).ext x91).ext x96).ext x100).ext x115)
 refine LP_call 0 rfl rfl rfl cal_78 rfl (spec_sPick_w _ _ _ H wx114 r22 ex117 r9 ex118) ?_
 rintro _ wx119 ⟨r116, vx121, hx122, H, rfl, x120, o123, ex124, f125⟩
 obtain ⟨a126, c127, rfl⟩ := o123.shape
 refine LP_gs ⟨⟨.inl rfl, .inl rfl, .inl rfl, .inl rfl, .inl rfl, .inl rfl, trivial⟩, ?_⟩
 obtain ⟨r128, Hd129, H⟩ := H
 have ex130 := ((ex113.ext x115).ext x120)
 refine GS_q [(41, sl a88 r81 c89), (46, sl a126 r116 c127)] (I r128) [hx85, hx122] [sl a88 r81 c89, sl a126 r116 c127] rfl rfl (fun _ h => h) rfl cal_77 (fun _ => rfl) (fun w e => (spec_sIndex_w _ _ _ Hd129 w o.readf e.1 o123.readf e.2.1).mono (fun _ _ h => by obtain ⟨_, rfl, rfl, x⟩ := h; exact ⟨rfl, x⟩)) ⟨ex130, ex124, trivial⟩ ?_
 intro wx131 x132 ρ hn
 refine AP_forget [(6, pb b27), (7, pb b32), (40, I (wr (r110 * r111))), (47, I r128)] (by exact hn) fun ρ => ?_
 refine AP_tail 16 [[], [], [1], [0, 1, 2], [], [0, 1, 2, 3, 4], [], [0, 1, 2, 3, 4, 5, 6], [0, 1, 2, 3, 4, 5, 6, 7], [], [], [10], [], [12], [0, 1, 2, 3, 4, 5, 6, 7, 10, 11, 12, 13], [0, 1, 2, 3, 4, 5, 6, 7, 9, 10, 11, 12, 13, 14], [0, 1, 2, 3, 4, 5, 6, 7, 8, 9, 10, 11, 12, 13, 14, 15], [0, 1, 2, 3, 4, 5, 6, 7, 8, 9, 10, 11, 12, 13, 14, 15, 16]] (by kernel_rfl) ?_
 refine LP_ev ok 16 [(48, I (wr ((wr (r110 * r111)) + r128))), (12, I (wr ((wr (r110 * r111)) + r128)))] 18 rfl rfl ?_
 refine LP_end _ rfl ?_
 refine W_seq ?_
 refine W_seq ?_
 refine W_region ?_
 refine LP_ev ok 0 [(49, .pointer (some ⟨b27, 3, none⟩))] 1 rfl rfl ?_
 have ex133 := (((((ex93.ext x96).ext x100).ext x115).ext x120).ext x132)
 refine LP_ldbox 1 (v := I t.Sum) rfl rfl rfl ti_3 ag_3 (fun _ => rfl) rfl ex133 rfl rfl ?_
 refine LP_ev ok 2 [(51, .bool (decide (t.Sum < 0)))] 3 rfl rfl ?_
 refine LP_end _ rfl ?_
 refine W_cond (decide (t.Sum < 0)) rfl (fun hc134 => ?_) (fun hc134 => ?_)
 ·have H := H.1 hc134
  refine W_seq ?_
  refine W_region ?_
  refine LP_ev ok 0 [(52, I (wr ((wr (r110 * r111)) + r128))), (8, I (wr ((wr (r110 * r111)) + r128))), (9, I 1)] 3 rfl rfl ?_
  refine LP_end _ rfl ?_
  refine W_ret ?_
  have X135 := (((((((X53.stepx x83).stepx x91).stepx x96).stepx x100).stepx x115).stepx x120).stepx x132)
  exact ⟨_, Ret_of [I (wr ((wr (r110 * r111)) + r128)), I 1] ⟨⟨rfl, rfl⟩, ⟨rfl, rfl⟩, trivial⟩, _, _, H, rfl, X135.ext⟩
 have H := H.2 hc134
 refine W_skip ?_
 refine W_seq ?_
 refine W_quiet mix (by kernel_rfl) ?_
 refine QP_ev ok 0 [(53, I (wr ((wr (r110 * r111)) + r128))), (54, .pointer (some ⟨b32, 2, none⟩))] 2 rfl rfl ?_
 have ex136 := (((((ex94.ext x96).ext x100).ext x115).ext x120).ext x132)
 refine QP_ldbox 2 (v := sl a24 r19.Values c25) rfl rfl rfl ti_22 ag_22 (fun _ => rfl) rfl ex136 rfl rfl ?_
 refine QP_ev ok 3 [(56, .pointer (some ⟨b27, 3, none⟩))] 4 rfl rfl ?_
 refine QP_ldbox 4 (v := I t.Sum) rfl rfl rfl ti_3 ag_3 (fun _ => rfl) rfl ex133 rfl rfl ?_
 obtain ⟨x137, hi, hx138, H⟩ := H
 refine QP_index 5 rfl rfl rfl Try.underlying22 ti_3 rfl rfl r22 hi hx138 fun a139 cs r140 d => ?_
 have ex141 := ((ex117.ext x120).ext x132)
 refine QP_load 6 rfl rfl rfl ti_3 ag_3 rfl r140 d ex141 fun vx142 r143 => ?_
 obtain rfl := r143.int
 refine QP_ev ok 7 [(8, I (wr ((wr (r110 * r111)) + r128))), (9, I x137)] 9 rfl rfl ?_
 refine QP_end _ rfl fun wx144 x145 => ?_
 refine W_ret ?_
 have X146 := ((((((((X53.stepx x83).stepx x91).stepx x96).stepx x100).stepx x115).stepx x120).stepx x132).stepx x145)
 exact ⟨_, Ret_of [I (wr ((wr (r110 * r111)) + r128)), I x137] ⟨⟨rfl, rfl⟩, ⟨rfl, rfl⟩, trivial⟩, _, _, H, rfl, X146.ext⟩

theorem spec_aRules_w (g : Geo) (sx : List Variable) (pubs : List Published) (Q : (List ARule) → Prop) (H : spec_aRules g sx pubs Q) (w : World) {vx : Value} {hx : PH} (r : RS hx vx g.Parents) (ex : Sub hx w) {vx1 : Value} {hx2 : PH} (r3 : RS hx2 vx1 sx) (ex4 : Sub hx2 w) {vx7 : Value} {hx8 : PH} (r9 : RS hx8 vx7 pubs) (ex10 : Sub hx8 w) :
  CallsTo Try.prog 59 #[.agg #[vx], vx1, vx7] w fun v w' => ∃ r0 u0 g0, Q r0 ∧ v = u0 ∧ Ext w w' ∧ OD g0 u0 r0 ∧ Sub g0 w' ∧ Fresh w.heap.size g0 := by
 obtain ⟨a, c, rfl⟩ := r.shape
 obtain ⟨a5, c6, rfl⟩ := r3.shape
 obtain ⟨a11, c12, rfl⟩ := r9.shape
 refine enter (args := [.agg #[sl a g.Parents c], sl a5 sx c6, sl a11 pubs c12]) 72 Try.func59 rfl rfl rfl ?_
 refine W_forget [(0, .agg #[sl a g.Parents c]), (1, sl a5 sx c6), (2, sl a11 pubs c12)] ⟨rfl, rfl, rfl, trivial⟩ fun ρ => ?_
 have X := But.refl emp w
 refine W_seq ?_
 refine W_region ?_
 refine LP_box 0 (cs := [sl a g.Parents c]) rfl rfl rfl rfl rfl fun b wx x ex13 f => ?_
 refine LP_ev ok 1 [(6, .slice none 0 0)] 2 rfl rfl ?_
 refine LP_end _ rfl ?_
 refine W_seq ?_
 refine W_region ?_
 refine LP_ev ok 0 [(7, .slice none 0 0)] 1 rfl rfl ?_
 refine LP_end _ rfl ?_
 refine W_seq ?_
 refine W_seq ?_
 refine W_region ?_
 refine LP_ev ok 0 [(16, sl a11 pubs c12), (17, I (ln pubs)), (18, I 0)] 3 rfl rfl ?_
 refine LP_end _ rfl ?_
 refine W_block ?_
 have X30 := (X.stepx x)
 have ex31 := (ex.ext x)
 have ex32 := (ex4.ext x)
 have ex33 := (ex10.ext x)
 obtain ⟨J, m, Hx, H⟩ := H
 refine W_loop (S := (List ARule) × Int) (fun s ρ' w' => J s.1 s.2 ∧ ∃ (ρ : Env) (vx14 : Value) (hx15 : PH), ρ' = setAll [(1, sl a5 sx c6), (3, pb b), (7, vx14), (16, sl a11 pubs c12), (17, I (ln pubs)), (18, I s.2)] ρ ∧ But emp w w' ∧ OD hx15 vx14 s.1 ∧ Sub hx15 w' ∧ Fresh w.heap.size hx15 ∧ Sub hx w' ∧ Sub hx2 w' ∧ Sub hx8 w' ∧ Sub (bx b 32 [sl a g.Parents c]) w' ∧ Dj hx15 hx ∧ Dj hx15 hx2 ∧ Dj hx15 hx8 ∧ Dj hx15 (bx b 32 [sl a g.Parents c])) (fun s => m s.1 s.2) ([], 0) ⟨Hx, _, .slice none 0 0, emp, env_eq ⟨rfl, rfl, rfl, rfl, rfl, rfl, trivial⟩, X30, OD.nil, (emp_sub _), (emp_fresh _), ex31, ex32, ex33, ex13, (fun _ => .inl rfl), (fun _ => .inl rfl), (fun _ => .inl rfl), (fun _ => .inl rfl)⟩ ?_
 rintro ⟨out, x18⟩ _ wx19 ⟨Hi, ρ, vx14, hx15, rfl, HF⟩
 revert HF
 refine bb9 fun X29 o ex16 f17 ex20 ex21 ex22 ex23 => ?_
 refine bb4 fun d d26 d27 d28 => ?_
 have H := H out x18 Hi
 obtain ⟨a24, c25, rfl⟩ := o.shape
 refine W_seq ?_
 refine W_region ?_
 refine LP_ev ok 0 [(19, .bool (decide (x18 < (ln pubs))))] 1 rfl rfl ?_
 refine LP_end _ rfl ?_
 refine W_seq ?_
 refine W_cond (decide (x18 < (ln pubs))) rfl (fun hc => ?_) (fun hc => ?_)
 ·have H := H.1 hc
  refine W_skip ?_
  refine W_seq ?_
  refine W_block ?_
  refine W_seq ?_
  refine W_region ?_
  obtain ⟨x34, hi, hx35, H⟩ := H
  refine LP_index 0 rfl rfl rfl Try.underlying36 ti_69 rfl rfl r9 hi hx35 fun a36 cs r37 d38 => ?_
  have d39 := d38
  obtain ⟨u, u41, u43, rfl, r40, r42, r44⟩ := Published_rd d39
  obtain ⟨a45, c46, rfl⟩ := r40.shape
  obtain ⟨a47, c48, rfl⟩ := r42.shape
  obtain ⟨a49, c50, rfl⟩ := r44.shape
  refine LP_load 1 rfl rfl rfl ti_69 ag_69 rfl r37 d38 ex22 fun vx51 r52 => ?_
  obtain ⟨u53, u55, u57, rfl, r54, r56, r58⟩ := Published_rv r52
  obtain ⟨a59, c60, rfl⟩ := r54.shape
  obtain ⟨a61, c62, rfl⟩ := r56.shape
  obtain ⟨a63, c64, rfl⟩ := r58.shape
  refine LP_alloc 2 rfl rfl rfl ti_69 rfl fun b65 wx66 x67 ex68 f69 => ?_
  refine LP_stbox 3 (vs := [I x34.Table.Level, sl a59 x34.Table.Vars c60, sl a61 x34.Table.Where c62, I x34.Table.Sum, sl a63 x34.Cells c64]) (cs' := [I x34.Table.Level, sl a59 x34.Table.Vars c60, sl a61 x34.Table.Where c62, I x34.Table.Sum, sl a63 x34.Cells c64]) rfl rfl rfl ti_69 rfl rfl rfl rfl rfl ex68 rfl rfl fun wx70 ex71 y => ?_
  refine LP_end _ rfl ?_
  refine W_seq ?_
  refine W_region ?_
  refine LP_ev ok 0 [(22, .pointer (some ⟨b65, 4, none⟩))] 1 rfl rfl ?_
  refine LP_ldbox 1 (v := sl a63 x34.Cells c64) rfl rfl rfl ti_22 ag_22 (fun _ => rfl) rfl ex71 rfl rfl ?_
  refine LP_ev ok 2 [(24, I (ln x34.Cells)), (25, I 0)] 4 rfl rfl ?_
  refine LP_end _ rfl ?_
  refine W_block ?_
  have f96 := f69.mono X29.size
  have X97 := ((X29.stepx x67).step y (f96.dom _))
  have ex98 := ((ex16.ext x67).but y (Dj.of_fresh ex16 f69).symm)
  have ex99 := ((ex20.ext x67).but y (Dj.of_fresh ex20 f69).symm)
  have ex100 := ((ex21.ext x67).but y (Dj.of_fresh ex21 f69).symm)
  have ex101 := ((ex22.ext x67).but y (Dj.of_fresh ex22 f69).symm)
  have ex102 := ((ex23.ext x67).but y (Dj.of_fresh ex23 f69).symm)
  obtain ⟨J93, m94, Hx95, H⟩ := H
  refine W_loop (S := (List ARule) × Int) (fun s ρ' w' => J93 s.1 s.2 ∧ ∃ (ρ : Env) (vx73 : Value) (hx74 : PH), ρ' = setAll [(1, sl a5 sx c6), (3, pb b), (7, vx73), (9, pb b65), (16, sl a11 pubs c12), (17, I (ln pubs)), (18, I x18), (23, sl a63 x34.Cells c64), (24, I (ln x34.Cells)), (25, I s.2)] ρ ∧ But emp w w' ∧ OD hx74 vx73 s.1 ∧ Sub hx74 w' ∧ Fresh w.heap.size hx74 ∧ Sub hx w' ∧ Sub hx2 w' ∧ Sub hx8 w' ∧ Sub (bx b 32 [sl a g.Parents c]) w' ∧ Sub (bx b65 69 [I x34.Table.Level, sl a59 x34.Table.Vars c60, sl a61 x34.Table.Where c62, I x34.Table.Sum, sl a63 x34.Cells c64]) w' ∧ Dj hx74 hx ∧ Dj hx74 hx2 ∧ Dj hx74 hx8 ∧ Dj hx74 (bx b 32 [sl a g.Parents c]) ∧ Dj hx74 (bx b65 69 [I x34.Table.Level, sl a59 x34.Table.Vars c60, sl a61 x34.Table.Where c62, I x34.Table.Sum, sl a63 x34.Cells c64])) (fun s => m94 s.1 s.2) (out, 0) ⟨Hx95, _, sl a24 out c25, hx15, env_eq ⟨rfl, rfl, rfl, rfl, rfl, rfl, rfl, rfl, rfl, rfl, trivial⟩, X97, o, ex98, f17, ex99, ex100, ex101, ex102, ex71, d, d26, d27, d28, (Dj.box (Dj.of_fresh ex16 f69).symm).symm⟩ ?_
  rintro ⟨out72, x78⟩ _ wx79 ⟨Hi, ρ, vx73, hx74, rfl, HF⟩
  revert HF
  refine bb9 fun X92 o75 ex76 f77 ex80 ex81 ex82 ex83 => ?_
  refine bb6 fun ex84 d87 d88 d89 d90 d91 => ?_
  have H := H out72 x78 Hi
  obtain ⟨a85, c86, rfl⟩ := o75.shape
  refine W_seq ?_
  refine W_region ?_
  refine LP_ev ok 0 [(26, .bool (decide (x78 < (ln x34.Cells))))] 1 rfl rfl ?_
  refine LP_end _ rfl ?_
  refine W_seq ?_
  refine W_cond (decide (x78 < (ln x34.Cells))) rfl (fun hc104 => ?_) (fun hc104 => ?_)
  ·have H := H.1 hc104
   refine W_skip ?_
   obtain ⟨k, hk, H⟩ := jn_elim H
   refine W_join2 (S := (List ARule)) (fun s ρ' w' => k s ∧ ∃ (ρ : Env) (vx106 : Value) (hx107 : PH), ρ' = setAll [(1, sl a5 sx c6), (3, pb b), (7, vx106), (9, pb b65), (16, sl a11 pubs c12), (17, I (ln pubs)), (18, I x18), (23, sl a63 x34.Cells c64), (24, I (ln x34.Cells)), (25, I x78)] ρ ∧ But emp w w' ∧ OD hx107 vx106 s ∧ Sub hx107 w' ∧ Fresh w.heap.size hx107 ∧ Sub hx w' ∧ Sub hx2 w' ∧ Sub hx8 w' ∧ Sub (bx b 32 [sl a g.Parents c]) w' ∧ Sub (bx b65 69 [I x34.Table.Level, sl a59 x34.Table.Vars c60, sl a61 x34.Table.Where c62, I x34.Table.Sum, sl a63 x34.Cells c64]) w' ∧ Dj hx107 hx ∧ Dj hx107 hx2 ∧ Dj hx107 hx8 ∧ Dj hx107 (bx b 32 [sl a g.Parents c]) ∧ Dj hx107 (bx b65 69 [I x34.Table.Level, sl a59 x34.Table.Vars c60, sl a61 x34.Table.Where c62, I x34.Table.Sum, sl a63 x34.Cells c64])) ?_ ?_
   ·refine W_block ?_
    refine W_seq ?_
    refine W_region ?_
    refine LP_ev ok 0 [(27, I x78)] 1 rfl rfl ?_
    obtain ⟨x125, hi126, hx127, H⟩ := H
    refine LP_index 1 rfl rfl rfl Try.underlying22 ti_3 rfl rfl r58 hi126 hx127 fun a128 cs129 r130 d131 => ?_
    refine LP_load 2 rfl rfl rfl ti_3 ag_3 rfl r130 d131 ex82 fun vx132 r133 => ?_
    obtain rfl := r133.int
    refine LP_ev ok 3 [(10, I x78), (11, I x125)] 5 rfl rfl ?_
    refine LP_end _ rfl ?_
    refine W_seq ?_
    refine W_seq ?_
    refine W_region ?_
    refine LP_ev ok 0 [(30, I x125), (31, .bool (decide (x125 < 0)))] 2 rfl rfl ?_
    refine LP_end _ rfl ?_
    refine W_cond (decide (x125 < 0)) rfl (fun hc134 => ?_) (fun hc134 => ?_)
    ·have H := H.1 hc134
     refine W_exit ?_
     refine (if_pos rfl).mpr ?_
     exact ⟨out72, H, _, sl a85 out72 c86, hx74, env_eq ⟨rfl, rfl, rfl, rfl, rfl, rfl, rfl, rfl, rfl, rfl, trivial⟩, X92, o75, ex76, f77, ex80, ex81, ex82, ex83, ex84, d87, d88, d89, d90, d91⟩
    have H := H.2 hc134
    refine W_skip ?_
    refine W_seq ?_
    refine W_region ?_
    refine LP_ldbox 0 (v := .agg #[sl a g.Parents c]) rfl rfl rfl ti_32 ag_32 (fun h => by cases h) rfl ex83 rfl rfl ?_
    refine LP_ev ok 1 [(33, sl a5 sx c6)] 2 rfl rfl ?_
    refine LP_call 2 rfl rfl rfl cal_44 rfl (spec_aTypes_w _ _ _ H wx79 r ex80 r3 ex81) ?_
    rintro _ wx136 ⟨r135, H, rfl, x137⟩
    obtain ⟨hn, hb, H⟩ := H
    refine LP_make (α := Int) 3 rfl rfl rfl Try.underlying22 ti_3 (x0 := (0 : Int)) rfl rfl hn (by first | omega | (simp only [ln] at *; omega)) (by first | omega | (simp only [ln] at *; omega)) fun hx138 vx139 wx140 x141 o142 ex143 f144 => ?_
    obtain ⟨a145, c146, rfl⟩ := o142.shape
    refine LP_ev ok 4 [(36, I x125), (37, .agg #[.slice a145 (List.length (List.replicate (Int.toNat r135) ((0 : Int)))) c146, I x125])] 6 rfl rfl ?_
    refine LP_alloc 6 rfl rfl rfl ti_122 rfl fun b147 wx148 x149 ex150 f151 => ?_
    refine LP_stbox 7 (vs := [.slice a145 (List.length (List.replicate (Int.toNat r135) ((0 : Int)))) c146, I x125]) (cs' := [.slice a145 (List.length (List.replicate (Int.toNat r135) ((0 : Int)))) c146, I x125]) rfl rfl rfl ti_122 rfl rfl rfl rfl rfl ex150 rfl rfl fun wx152 ex153 y154 => ?_
    refine LP_end _ rfl ?_
    refine W_seq ?_
    refine W_seq ?_
    refine W_region ?_
    refine LP_ev ok 0 [(38, pb b147)] 1 rfl rfl ?_
    refine LP_ldbox 1 (v := .slice a145 (List.length (List.replicate (Int.toNat r135) ((0 : Int)))) c146) rfl rfl rfl ti_22 ag_22 (fun _ => rfl) rfl ex153 rfl rfl ?_
    refine LP_ev ok 2 [(40, I (ln (List.replicate (Int.toNat r135) ((0 : Int))))), (41, I 0)] 4 rfl rfl ?_
    refine LP_end _ rfl ?_
    refine W_block ?_
    have X181 := ((X92.stepx x137).stepx x141)
    have f180 := f151.mono X181.size
    have X182 := ((((X92.stepx x137).stepx x141).stepx x149).step y154 (f180.dom _))
    have ex183 := ((ex143.ext x149).but y154 (Dj.of_fresh ex143 f151).symm)
    have X185 := (X92.stepx x137)
    have f184 := f144.mono X185.size
    have ex186 := ((ex80.ext x137).ext x141)
    have ex187 := ((((ex80.ext x137).ext x141).ext x149).but y154 (Dj.of_fresh ex186 f151).symm)
    have ex188 := ((ex81.ext x137).ext x141)
    have ex189 := ((((ex81.ext x137).ext x141).ext x149).but y154 (Dj.of_fresh ex188 f151).symm)
    have ex190 := ((ex82.ext x137).ext x141)
    have ex191 := ((((ex82.ext x137).ext x141).ext x149).but y154 (Dj.of_fresh ex190 f151).symm)
    have ex192 := ((ex83.ext x137).ext x141)
    have ex193 := ((((ex83.ext x137).ext x141).ext x149).but y154 (Dj.of_fresh ex192 f151).symm)
    have ex194 := ((ex84.ext x137).ext x141)
    have ex195 := ((((ex84.ext x137).ext x141).ext x149).but y154 (Dj.of_fresh ex194 f151).symm)
    have ex196 := ((ex76.ext x137).ext x141)
    have ex197 := ((((ex76.ext x137).ext x141).ext x149).but y154 (Dj.of_fresh ex196 f151).symm)
    have ex198 := (ex80.ext x137)
    have ex199 := (ex81.ext x137)
    have ex200 := (ex82.ext x137)
    have ex201 := (ex83.ext x137)
    have ex202 := (ex84.ext x137)
    have ex203 := (ex76.ext x137)
    obtain ⟨J177, m178, Hx179, H⟩ := H
    refine W_loop (S := Int × (List Int)) (fun s ρ' w' => J177 s.1 s.2 ∧ ∃ (ρ : Env) (hx157 : PH), ρ' = setAll [(1, sl a5 sx c6), (3, pb b), (7, sl a85 out72 c86), (9, pb b65), (10, I x78), (12, pb b147), (16, sl a11 pubs c12), (17, I (ln pubs)), (18, I x18), (23, sl a63 x34.Cells c64), (24, I (ln x34.Cells)), (25, I x78), (40, I (ln (List.replicate (Int.toNat r135) ((0 : Int))))), (41, I s.1)] ρ ∧ But emp w w' ∧ OS 3 hx157 emp (.slice a145 (List.length (List.replicate (Int.toNat r135) ((0 : Int)))) c146) s.2 ∧ Sub hx157 w' ∧ Fresh w.heap.size hx157 ∧ Sub hx w' ∧ Sub hx2 w' ∧ Sub hx8 w' ∧ Sub (bx b 32 [sl a g.Parents c]) w' ∧ Sub (bx b65 69 [I x34.Table.Level, sl a59 x34.Table.Vars c60, sl a61 x34.Table.Where c62, I x34.Table.Sum, sl a63 x34.Cells c64]) w' ∧ Sub hx74 w' ∧ Sub (bx b147 122 [.slice a145 (List.length (List.replicate (Int.toNat r135) ((0 : Int)))) c146, I x125]) w' ∧ Dj hx157 hx ∧ Dj hx157 hx2 ∧ Dj hx157 hx8 ∧ Dj hx157 (bx b 32 [sl a g.Parents c]) ∧ Dj hx157 (bx b65 69 [I x34.Table.Level, sl a59 x34.Table.Vars c60, sl a61 x34.Table.Where c62, I x34.Table.Sum, sl a63 x34.Cells c64]) ∧ Dj hx157 hx74 ∧ Dj hx157 (bx b147 122 [.slice a145 (List.length (List.replicate (Int.toNat r135) ((0 : Int)))) c146, I x125])) (fun s => m178 s.1 s.2) (0, List.replicate (Int.toNat r135) ((0 : Int))) ⟨Hx179, _, hx138, env_eq ⟨rfl, rfl, rfl, rfl, rfl, rfl, rfl, rfl, rfl, rfl, rfl, rfl, rfl, rfl, trivial⟩, X182, o142, ex183, f184, ex187, ex189, ex191, ex193, ex195, ex197, ex153, (Dj.of_fresh ex198 f144).symm, (Dj.of_fresh ex199 f144).symm, (Dj.of_fresh ex200 f144).symm, (Dj.of_fresh ex201 f144).symm, (Dj.of_fresh ex202 f144).symm, (Dj.of_fresh ex203 f144).symm, (Dj.box (Dj.of_fresh ex143 f151).symm).symm⟩ ?_
    rintro ⟨x155, amounts⟩ _ wx161 ⟨Hi, ρ, hx157, rfl, HF⟩
    revert HF
    refine bb9 fun X176 o158 ex159 f160 ex162 ex163 ex164 ex165 => ?_
    refine bb9 fun ex166 ex167 ex168 d169 d170 d171 d172 d173 => ?_
    refine bb2 fun d174 d175 => ?_
    have H := H x155 amounts Hi
    refine W_seq ?_
    refine W_region ?_
    refine LP_ev ok 0 [(42, .bool (decide (x155 < (ln (List.replicate (Int.toNat r135) ((0 : Int)))))))] 1 rfl rfl ?_
    refine LP_end _ rfl ?_
    refine W_seq ?_
    refine W_cond (decide (x155 < (ln (List.replicate (Int.toNat r135) ((0 : Int)))))) rfl (fun hc205 => ?_) (fun hc205 => ?_)
    ·have H := H.1 hc205
     refine W_skip ?_
     obtain ⟨k228, hk229, H⟩ := jn_elim H
     refine W_join2 (S := (List Int)) (fun s ρ' w' => k228 s ∧ ∃ (ρ : Env) (hx208 : PH), ρ' = setAll [(1, sl a5 sx c6), (3, pb b), (7, sl a85 out72 c86), (9, pb b65), (10, I x78), (12, pb b147), (16, sl a11 pubs c12), (17, I (ln pubs)), (18, I x18), (23, sl a63 x34.Cells c64), (24, I (ln x34.Cells)), (25, I x78), (40, I (ln (List.replicate (Int.toNat r135) ((0 : Int))))), (41, I x155)] ρ ∧ But emp w w' ∧ OS 3 hx208 emp (.slice a145 (List.length (List.replicate (Int.toNat r135) ((0 : Int)))) c146) s ∧ Sub hx208 w' ∧ Fresh w.heap.size hx208 ∧ Sub hx w' ∧ Sub hx2 w' ∧ Sub hx8 w' ∧ Sub (bx b 32 [sl a g.Parents c]) w' ∧ Sub (bx b65 69 [I x34.Table.Level, sl a59 x34.Table.Vars c60, sl a61 x34.Table.Where c62, I x34.Table.Sum, sl a63 x34.Cells c64]) w' ∧ Sub hx74 w' ∧ Sub (bx b147 122 [.slice a145 (List.length (List.replicate (Int.toNat r135) ((0 : Int)))) c146, I x125]) w' ∧ Dj hx208 hx ∧ Dj hx208 hx2 ∧ Dj hx208 hx8 ∧ Dj hx208 (bx b 32 [sl a g.Parents c]) ∧ Dj hx208 (bx b65 69 [I x34.Table.Level, sl a59 x34.Table.Vars c60, sl a61 x34.Table.Where c62, I x34.Table.Sum, sl a63 x34.Cells c64]) ∧ Dj hx208 hx74 ∧ Dj hx208 (bx b147 122 [.slice a145 (List.length (List.replicate (Int.toNat r135) ((0 : Int)))) c146, I x125])) ?_ ?_
     ·refine W_block ?_
      refine W_seq ?_
      refine W_region ?_
      refine LP_ev ok 0 [(43, I x155), (13, I x155)] 2 rfl rfl ?_
      refine LP_end _ rfl ?_
      refine W_seq ?_
      refine W_open mix fun wx230 x231 => ?_
      refine AP_game 13 [[], [], [], [2], [], [], [], [4, 5, 6], [0, 1, 2, 3, 4, 5, 6, 7], [0, 1, 2, 3, 4, 5, 6, 7, 8], [0, 1, 2, 3, 4, 5, 6, 7, 8, 9], [0, 1, 2, 3, 4, 5, 6, 7, 8, 9], [0, 1, 2, 3, 4, 5, 6, 7, 8, 9, 10], [0, 1, 2, 3, 4, 5, 6, 7, 8, 9, 10, 11, 12]] [[(3, none)], [(1, none)], [(9, none)], [(47, some 2)], [(3, none)], [(1, none)], [(13, none)], [(49, some 4), (50, some 5), (51, some 6)], [(45, some 0), (46, some 1), (48, some 3), (52, some 7)], [(53, some 8)], [(44, some 9)], [(44, some 9)], [(54, some 10)]] [(1, none), (3, none), (7, none), (9, none), (10, none), (12, none), (13, none), (14, some 12), (16, none), (17, none), (18, none), (23, none), (24, none), (25, none), (40, none), (41, none), (55, some 11)] [(0, false), (1, false), (2, false), (3, false), (4, false), (5, false), (6, false), (7, true), (8, false), (9, false), (10, false), (11, false), (12, false)] (by kernel_rfl) (by kernel_rfl) ?_
      have ex232 := (ex165.ext x231)
      refine GS_r1 [(3, pb b)] (.agg #[sl a g.Parents c]) rfl rfl (fun _ h => h) (fun _ w e => ex_ldbox rfl ti_32 ag_32 (fun h => by cases h) rfl e rfl rfl) ex232 ?_
      refine GS_ev ok [(1, sl a5 sx c6)] (sl a5 sx c6) rfl rfl (fun _ h => h) (fun _ => rfl) ?_
      refine GS_ev ok [(9, pb b65)] (pb b65) rfl rfl (fun _ h => h) (fun _ => rfl) ?_
      have ex233 := (ex166.ext x231)
      refine GS_r1 [(47, pb b65)] (.agg #[I x34.Table.Level, sl a59 x34.Table.Vars c60, sl a61 x34.Table.Where c62, I x34.Table.Sum]) rfl rfl (fun _ h => h) (fun _ w e => ex_ldbox rfl ti_50 ag_50 (fun h => by cases h) rfl e rfl rfl) ex233 ?_
      refine GS_r1 [(3, pb b)] (.agg #[sl a g.Parents c]) rfl rfl (fun _ h => h) (fun _ w e => ex_ldbox rfl ti_32 ag_32 (fun h => by cases h) rfl e rfl rfl) ex232 ?_
      refine GS_ev ok [(1, sl a5 sx c6)] (sl a5 sx c6) rfl rfl (fun _ h => h) (fun _ => rfl) ?_
      refine GS_ev ok [(13, I x155)] (I x155) rfl rfl (fun _ h => h) (fun _ => rfl) ?_
      refine GS_lp [(49, .agg #[sl a g.Parents c]), (50, sl a5 sx c6), (51, I x155)] rfl rfl (fun _ h => h) rfl fun ρ wx234 x235 => ?_
      have ex237 := ((ex162.ext x231).ext x235)
      have ex238 := ((ex163.ext x231).ext x235)
      refine LP_call 0 rfl rfl rfl cal_46 rfl (spec_aRecord_w _ _ _ _ H wx234 r ex237 r3 ex238) ?_
      rintro _ wx239 ⟨r236, vx241, hx242, H, rfl, x240, o243, ex244, f245⟩
      obtain ⟨a246, c247, rfl⟩ := o243.shape
      have ex248 := ((ex233.ext x235).ext x240)
      have ex249 := ((ex232.ext x235).ext x240)
      refine LP_gs ⟨⟨.inl rfl, .inr ex248, .inr ex249, trivial⟩, ?_⟩
      obtain ⟨r250, r251, Hd, H⟩ := H
      have ex252 := (ex237.ext x240)
      have ex253 := (ex238.ext x240)
      have ex254 := (((ex164.ext x231).ext x235).ext x240)
      refine GS_q [(45, .agg #[sl a g.Parents c]), (46, sl a5 sx c6), (48, .agg #[I x34.Table.Level, sl a59 x34.Table.Vars c60, sl a61 x34.Table.Where c62, I x34.Table.Sum]), (52, .agg #[I r236.Area, I r236.House, sl a246 r236.Values c247])] (.tuple #[I r250, I r251]) [hx, hx2, hx8, hx8, hx242] [.agg #[sl a g.Parents c], sl a5 sx c6, .agg #[I x34.Table.Level, sl a59 x34.Table.Vars c60, sl a61 x34.Table.Where c62, I x34.Table.Sum], .agg #[I r236.Area, I r236.House, sl a246 r236.Values c247]] rfl rfl (fun _ h => h) rfl cal_45 (fun _ => rfl) (fun w e => (spec_uCell_w _ _ _ _ _ Hd w r e.1 r3 e.2.1 r54 e.2.2.1 r56 e.2.2.2.1 o243.readf e.2.2.2.2.1).mono (fun _ _ h => by obtain ⟨_, _, ⟨rfl, rfl⟩, rfl, x⟩ := h; exact ⟨rfl, x⟩)) ⟨ex252, ex253, ex254, ex254, ex244, trivial⟩ ?_
      refine GS_ev ok [(53, .tuple #[I r250, I r251])] (.tuple #[I r250, I r251]) rfl rfl (fun _ h => h) (fun _ => rfl) ?_
      refine GS_ev ok [(44, .tuple #[I r250, I r251])] (I r250) rfl rfl (fun _ h => h) (fun _ => rfl) ?_
      refine GS_ev ok [(44, .tuple #[I r250, I r251])] (I r251) rfl rfl (fun _ h => h) (fun _ => rfl) ?_
      refine GS_ev ok [(54, I r250)] (I r250) rfl rfl (fun _ h => h) (fun _ => rfl) ?_
      intro wx255 x256 ρ hn257
      refine AP_forget [(1, sl a5 sx c6), (3, pb b), (7, sl a85 out72 c86), (9, pb b65), (10, I x78), (12, pb b147), (13, I x155), (14, I r250), (16, sl a11 pubs c12), (17, I (ln pubs)), (18, I x18), (23, sl a63 x34.Cells c64), (24, I (ln x34.Cells)), (25, I x78), (40, I (ln (List.replicate (Int.toNat r135) ((0 : Int))))), (41, I x155), (55, I r251)] (by exact hn257) fun ρ => ?_
      refine AP_tail 13 [[], [], [], [2], [], [], [], [4, 5, 6], [0, 1, 2, 3, 4, 5, 6, 7], [0, 1, 2, 3, 4, 5, 6, 7, 8], [0, 1, 2, 3, 4, 5, 6, 7, 8, 9], [0, 1, 2, 3, 4, 5, 6, 7, 8, 9], [0, 1, 2, 3, 4, 5, 6, 7, 8, 9, 10], [0, 1, 2, 3, 4, 5, 6, 7, 8, 9, 10, 11, 12]] (by kernel_rfl) ?_
      refine LP_ev ok 13 [(15, I r251)] 14 rfl rfl ?_
      refine LP_end _ rfl ?_
      refine W_seq ?_
      refine W_region ?_
      refine LP_ev ok 0 [(56, I r250), (57, I x78), (58, .bool (r250 == x78))] 3 rfl rfl ?_
      refine LP_end _ rfl ?_
      refine W_cond (r250 == x78) rfl (fun hc258 => ?_) (fun hc258 => ?_)
      ·have H := H.1 hc258
       refine W_region ?_
       refine LP_ev ok 0 [(59, pb b147)] 1 rfl rfl ?_
       have ex259 := ((((ex168.ext x231).ext x235).ext x240).ext x256)
       refine LP_ldbox 1 (v := .slice a145 (List.length (List.replicate (Int.toNat r135) ((0 : Int)))) c146) rfl rfl rfl ti_22 ag_22 (fun _ => rfl) rfl ex259 rfl rfl ?_
       refine LP_ev ok 2 [(61, I x155), (62, I r251)] 4 rfl rfl ?_
       obtain ⟨hi260, hl, H⟩ := H
       refine LP_indexw (v := .slice a145 (List.length (List.replicate (Int.toNat r135) ((0 : Int)))) c146) 4 rfl rfl rfl Try.underlying22 ti_3 rfl rfl o158 hi260 hl fun a261 wa => ?_
       have ex267 := ((((ex159.ext x231).ext x235).ext x240).ext x256)
       refine LP_set 5 rfl rfl rfl rfl rfl wa (Le.refl emp) ⟨_, rfl, rfl⟩ ex267 fun hx262 wx263 o264 ex265 y266 dm => ?_
       refine LP_end _ rfl ?_
       have X268 := (((((X176.stepx x231).stepx x235).stepx x240).stepx x256).step y266 (f160.dom _))
       have X270 := ((((X176.stepx x231).stepx x235).stepx x240).stepx x256)
       have f269 := (dm _).fresh f160 X270.size
       have ex271 := ((ex252.ext x256).but y266 d169)
       have ex272 := ((ex253.ext x256).but y266 d170)
       have ex273 := ((ex254.ext x256).but y266 d171)
       have ex274 := ((((ex232.ext x235).ext x240).ext x256).but y266 d172)
       have ex275 := ((((ex233.ext x235).ext x240).ext x256).but y266 d173)
       have ex276 := (((((ex167.ext x231).ext x235).ext x240).ext x256).but y266 d174)
       have ex277 := (ex259.but y266 d175)
       have ex278 := (ex252.ext x256)
       have ex279 := (ex253.ext x256)
       have ex280 := (ex254.ext x256)
       have ex281 := (((ex232.ext x235).ext x240).ext x256)
       have ex282 := (((ex233.ext x235).ext x240).ext x256)
       have ex283 := ((((ex167.ext x231).ext x235).ext x240).ext x256)
       exact ⟨List.set amounts (Int.toNat x155) r251, H, _, hx262, env_eq ⟨rfl, rfl, rfl, rfl, rfl, rfl, rfl, rfl, rfl, rfl, rfl, rfl, rfl, rfl, trivial⟩, X268, o264, ex265, f269, ex271, ex272, ex273, ex274, ex275, ex276, ex277, (DomLe.dj (dm _) d169 ex278), (DomLe.dj (dm _) d170 ex279), (DomLe.dj (dm _) d171 ex280), (DomLe.dj (dm _) d172 ex281), (DomLe.dj (dm _) d173 ex282), (DomLe.dj (dm _) d174 ex283), (DomLe.dj (dm _) d175 ex259)⟩
      have H := H.2 hc258
      refine W_skip ?_
      have X284 := ((((X176.stepx x231).stepx x235).stepx x240).stepx x256)
      have ex285 := ((((ex159.ext x231).ext x235).ext x240).ext x256)
      have ex286 := (ex252.ext x256)
      have ex287 := (ex253.ext x256)
      have ex288 := (ex254.ext x256)
      have ex289 := (((ex232.ext x235).ext x240).ext x256)
      have ex290 := (((ex233.ext x235).ext x240).ext x256)
      have ex291 := ((((ex167.ext x231).ext x235).ext x240).ext x256)
      have ex292 := ((((ex168.ext x231).ext x235).ext x240).ext x256)
      exact ⟨amounts, H, _, hx157, env_eq ⟨rfl, rfl, rfl, rfl, rfl, rfl, rfl, rfl, rfl, rfl, rfl, rfl, rfl, rfl, trivial⟩, X284, o158, ex285, f160, ex286, ex287, ex288, ex289, ex290, ex291, ex292, d169, d170, d171, d172, d173, d174, d175⟩
     rintro amounts206 _ wx212 ⟨H, ρ, hx208, rfl, HF⟩
     revert HF
     refine bb9 fun X227 o209 ex210 f211 ex213 ex214 ex215 ex216 => ?_
     refine bb9 fun ex217 ex218 ex219 d220 d221 d222 d223 d224 => ?_
     refine bb2 fun d225 d226 => ?_
     subst hk229
     refine W_region ?_
     refine LP_ev ok 0 [(64, I (wr (x155 + 1))), (41, I (wr (x155 + 1)))] 2 rfl rfl ?_
     refine LP_end _ rfl ?_
     exact ⟨(wr (x155 + 1), amounts206), ⟨H.1, _, hx208, env_eq ⟨rfl, rfl, rfl, rfl, rfl, rfl, rfl, rfl, rfl, rfl, rfl, rfl, rfl, rfl, trivial⟩, X227, o209, ex210, f211, ex213, ex214, ex215, ex216, ex217, ex218, ex219, d220, d221, d222, d223, d224, d225, d226⟩, H.2⟩
    have H := H.2 hc205
    refine W_exit ?_
    refine (if_pos rfl).mpr ?_
    refine W_region ?_
    refine LP_ev ok 0 [(65, sl a85 out72 c86)] 1 rfl rfl ?_
    refine LP_ldbox 1 (v := .agg #[.slice a145 (List.length (List.replicate (Int.toNat r135) ((0 : Int)))) c146, I x125]) rfl rfl rfl ti_122 ag_122 (fun h => by cases h) rfl ex168 rfl rfl ?_
    have rv : RVO (un hx157 emp) (.agg #[.slice a145 (List.length (List.replicate (Int.toNat r135) ((0 : Int)))) c146, I x125]) ((ARule.mk amounts x125) : ARule) := ⟨_, ⟨_, _, _, _, rfl, rfl, (Dj.emp_r _), ⟨_, rfl, (OS.od o158)⟩, ⟨rfl, rfl⟩⟩, rfl⟩
    refine LP_litD (α := ARule) 2 (vs := [.agg #[.slice a145 (List.length (List.replicate (Int.toNat r135) ((0 : Int)))) c146, I x125]]) (xs := [((ARule.mk amounts x125) : ARule)]) rfl rfl rfl Try.underlying94 ti_122 rfl rfl (allO.one rv) (Sub.un ex159 (emp_sub _)) rfl rfl fun hx293 vx294 wx295 x296 o297 ex298 dm299 => ?_
    obtain ⟨a300, c301, rfl⟩ := o297.shape
    have ex302 := (ex167.ext x296)
    obtain ⟨hb303, H⟩ := H
    refine LP_appendD (α := ARule) 3 rfl rfl rfl Try.underlying94 ti_122 rfl rfl rfl o75 ex302 o297 ex298 (DomLe.dj dm299 (Dj.un_l d174 (Dj.emp_l _)) ex167).symm (by first | omega | (simp only [ln] at *; omega)) (by first | omega | (simp only [ln] at *; omega)) fun hx304 vx305 wx306 hw o307 ex308 y309 dh dm310 => ?_
    obtain ⟨a311, c312, rfl⟩ := o307.shape
    refine LP_ev ok 4 [(7, .slice a311 (List.length (out72 ++ ([((ARule.mk amounts x125) : ARule)]))) c312)] 5 rfl rfl ?_
    refine LP_end _ rfl ?_
    have X313 := ((X176.stepx x296).step (But.dom y309 dh) (f77.dom _))
    have f314 := DomLe.fresh dm299 (Fresh.un f160 (emp_fresh _)) X176.size
    have X316 := (X176.stepx x296)
    have f315 := DomLe.fresh dm310 (Fresh.un f77 f314) X316.size
    have ex317 := ((ex162.ext x296).but (But.dom y309 dh) d87)
    have ex318 := ((ex163.ext x296).but (But.dom y309 dh) d88)
    have ex319 := ((ex164.ext x296).but (But.dom y309 dh) d89)
    have ex320 := ((ex165.ext x296).but (But.dom y309 dh) d90)
    have ex321 := ((ex166.ext x296).but (But.dom y309 dh) d91)
    have ex322 := (ex162.ext x296)
    have ex323 := (ex163.ext x296)
    have ex324 := (ex164.ext x296)
    have ex325 := (ex165.ext x296)
    have ex326 := (ex166.ext x296)
    exact ⟨out72 ++ ([((ARule.mk amounts x125) : ARule)]), H, _, .slice a311 (List.length (out72 ++ ([((ARule.mk amounts x125) : ARule)]))) c312, hx304, env_eq ⟨rfl, rfl, rfl, rfl, rfl, rfl, rfl, rfl, rfl, rfl, trivial⟩, X313, o307, ex308, f315, ex317, ex318, ex319, ex320, ex321, (DomLe.dj dm310 (Dj.un_l d87 (DomLe.dj dm299 (Dj.un_l d169 (Dj.emp_l _)) ex162)) ex322), (DomLe.dj dm310 (Dj.un_l d88 (DomLe.dj dm299 (Dj.un_l d170 (Dj.emp_l _)) ex163)) ex323), (DomLe.dj dm310 (Dj.un_l d89 (DomLe.dj dm299 (Dj.un_l d171 (Dj.emp_l _)) ex164)) ex324), (DomLe.dj dm310 (Dj.un_l d90 (DomLe.dj dm299 (Dj.un_l d172 (Dj.emp_l _)) ex165)) ex325), (DomLe.dj dm310 (Dj.un_l d91 (DomLe.dj dm299 (Dj.un_l d173 (Dj.emp_l _)) ex166)) ex326)⟩
   rintro out105 _ wx111 ⟨H, ρ, vx106, hx107, rfl, HF⟩
   revert HF
   refine bb9 fun X124 o108 ex109 f110 ex112 ex113 ex114 ex115 => ?_
   refine bb6 fun ex116 d119 d120 d121 d122 d123 => ?_
   subst hk
   obtain ⟨a117, c118, rfl⟩ := o108.shape
   refine W_region ?_
   refine LP_ev ok 0 [(69, I (wr (x78 + 1))), (25, I (wr (x78 + 1)))] 2 rfl rfl ?_
   refine LP_end _ rfl ?_
   exact ⟨(out105, wr (x78 + 1)), ⟨H.1, _, sl a117 out105 c118, hx107, env_eq ⟨rfl, rfl, rfl, rfl, rfl, rfl, rfl, rfl, rfl, rfl, trivial⟩, X124, o108, ex109, f110, ex112, ex113, ex114, ex115, ex116, d119, d120, d121, d122, d123⟩, H.2⟩
  have H := H.2 hc104
  refine W_exit ?_
  refine (if_pos rfl).mpr ?_
  refine W_region ?_
  refine LP_ev ok 0 [(70, I (wr (x18 + 1))), (18, I (wr (x18 + 1)))] 2 rfl rfl ?_
  refine LP_end _ rfl ?_
  exact ⟨(out72, wr (x18 + 1)), ⟨H.1, _, sl a85 out72 c86, hx74, env_eq ⟨rfl, rfl, rfl, rfl, rfl, rfl, trivial⟩, X92, o75, ex76, f77, ex80, ex81, ex82, ex83, d87, d88, d89, d90⟩, H.2⟩
 have H := H.2 hc
 refine W_exit ?_
 refine (if_pos rfl).mpr ?_
 refine W_seq ?_
 refine W_region ?_
 refine LP_ev ok 0 [(71, sl a24 out c25), (6, sl a24 out c25)] 2 rfl rfl ?_
 refine LP_end _ rfl ?_
 refine W_ret ?_
 exact ⟨_, Ret_of [sl a24 out c25] ⟨⟨rfl, rfl⟩, trivial⟩, _, _, _, H, rfl, X29.ext, o, ex16, f17⟩

theorem spec_aSum_w (amounts : List Int) (counts : List Int) (Q : Int → Prop) (H : spec_aSum amounts counts Q) (w : World) {vx : Value} {hx : PH} (r : RS hx vx amounts) (ex : Sub hx w) {vx1 : Value} {hx2 : PH} (r3 : RS hx2 vx1 counts) (ex4 : Sub hx2 w) :
  CallsTo Try.prog 47 #[vx, vx1] w fun v w' => ∃ r0, Q r0 ∧ v = I r0 ∧ Ext w w' := by
 obtain ⟨a, c, rfl⟩ := r.shape
 obtain ⟨a5, c6, rfl⟩ := r3.shape
 refine enter (args := [sl a amounts c, sl a5 counts c6]) 25 Try.func47 rfl rfl rfl ?_
 refine W_forget [(0, sl a amounts c), (1, sl a5 counts c6)] ⟨rfl, rfl, trivial⟩ fun ρ => ?_
 have X := But.refl emp w
 refine W_seq ?_
 refine W_region ?_
 refine LP_ev ok 0 [(4, I 0)] 1 rfl rfl ?_
 refine LP_end _ rfl ?_
 refine W_seq ?_
 refine W_region ?_
 refine LP_ev ok 0 [(5, I 0)] 1 rfl rfl ?_
 refine LP_end _ rfl ?_
 refine W_seq ?_
 refine W_seq ?_
 refine W_region ?_
 refine LP_ev ok 0 [(8, sl a5 counts c6), (9, I (ln counts)), (10, I 0)] 3 rfl rfl ?_
 refine LP_end _ rfl ?_
 refine W_block ?_
 obtain ⟨J, m, Hx, H⟩ := H
 refine W_loop (S := Int × Int) (fun s ρ' w' => J s.1 s.2 ∧ ∃ (ρ : Env), ρ' = setAll [(0, sl a amounts c), (5, I s.1), (8, sl a5 counts c6), (9, I (ln counts)), (10, I s.2)] ρ ∧ w = w') (fun s => m s.1 s.2) (0, 0) ⟨Hx, _, env_eq ⟨rfl, rfl, rfl, rfl, rfl, trivial⟩, rfl⟩ ?_
 rintro ⟨n, x⟩ _ _ ⟨Hi, ρ, rfl, rfl⟩
 have H := H n x Hi
 refine W_seq ?_
 refine W_region ?_
 refine LP_ev ok 0 [(11, .bool (decide (x < (ln counts))))] 1 rfl rfl ?_
 refine LP_end _ rfl ?_
 refine W_seq ?_
 refine W_cond (decide (x < (ln counts))) rfl (fun hc => ?_) (fun hc => ?_)
 ·have H := H.1 hc
  refine W_skip ?_
  refine W_seq ?_
  refine W_block ?_
  refine W_seq ?_
  refine W_region ?_
  refine LP_ev ok 0 [(12, I x)] 1 rfl rfl ?_
  obtain ⟨x7, hi, hx8, H⟩ := H
  refine LP_index 1 rfl rfl rfl Try.underlying22 ti_3 rfl rfl r3 hi hx8 fun a9 cs r10 d => ?_
  refine LP_load 2 rfl rfl rfl ti_3 ag_3 rfl r10 d ex4 fun vx11 r12 => ?_
  obtain rfl := r12.int
  refine LP_ev ok 3 [(6, I x), (7, I x7)] 5 rfl rfl ?_
  refine LP_end _ rfl ?_
  refine W_region ?_
  refine LP_ev ok 0 [(15, I n), (16, sl a amounts c), (17, I x)] 3 rfl rfl ?_
  obtain ⟨x13, hi14, hx15, H⟩ := H
  refine LP_index 3 rfl rfl rfl Try.underlying22 ti_3 rfl rfl r hi14 hx15 fun a16 cs17 r18 d19 => ?_
  refine LP_load 4 rfl rfl rfl ti_3 ag_3 rfl r18 d19 ex fun vx20 r21 => ?_
  obtain rfl := r21.int
  refine LP_ev ok 5 [(20, I x7), (21, I (wr (x13 * x7))), (22, I (wr (n + (wr (x13 * x7))))), (5, I (wr (n + (wr (x13 * x7)))))] 9 rfl rfl ?_
  refine LP_end _ rfl ?_
  refine W_region ?_
  refine LP_ev ok 0 [(23, I (wr (x + 1))), (10, I (wr (x + 1)))] 2 rfl rfl ?_
  refine LP_end _ rfl ?_
  exact ⟨(wr (n + (wr (x13 * x7))), wr (x + 1)), ⟨H.1, _, env_eq ⟨rfl, rfl, rfl, rfl, rfl, trivial⟩, rfl⟩, H.2⟩
 have H := H.2 hc
 refine W_exit ?_
 refine (if_pos rfl).mpr ?_
 refine W_seq ?_
 refine W_region ?_
 refine LP_ev ok 0 [(24, I n), (4, I n)] 2 rfl rfl ?_
 refine LP_end _ rfl ?_
 refine W_ret ?_
 exact ⟨_, Ret_of [I n] ⟨⟨rfl, rfl⟩, trivial⟩, _, H, rfl, X.ext⟩

theorem spec_l1Own_w (l : List Int) (Q : (List Int) → Prop) (H : spec_l1Own l Q) (w : World) {vx : Value} {hx : PH} (r : RS hx vx l) (ex : Sub hx w) :
  CallsTo Try.prog 92 #[vx] w fun v w' => ∃ r0 u0 g0, Q r0 ∧ v = u0 ∧ Ext w w' ∧ OS 3 g0 emp u0 r0 ∧ Sub g0 w' ∧ Fresh w.heap.size g0 := by
 obtain ⟨a, c, rfl⟩ := r.shape
 refine enter (args := [sl a l c]) 6 Try.func92 rfl rfl rfl ?_
 refine W_forget [(0, sl a l c)] ⟨rfl, trivial⟩ fun ρ => ?_
 have X := But.refl emp w
 refine W_seq ?_
 refine W_region ?_
 refine LP_ev ok 0 [(2, .slice none 0 0)] 1 rfl rfl ?_
 refine LP_end _ rfl ?_
 refine W_seq ?_
 refine W_region ?_
 refine LP_lit (α := Int) (g := emp) 0 (vs := []) (xs := []) rfl rfl rfl Try.underlying22 ti_3 rfl rfl trivial rfl rfl fun hx1 vx2 wx x o ex3 f => ?_
 obtain ⟨a4, c5, rfl⟩ := o.shape
 refine LP_ev ok 1 [(4, sl a l c)] 2 rfl rfl ?_
 have ex6 := (ex.ext x)
 obtain ⟨hb, H⟩ := H
 refine LP_appendf (α := Int) 2 rfl rfl rfl Try.underlying22 ti_3 rfl rfl rfl o ex3 r ex6 (by first | omega | (simp only [ln] at *; omega)) (by first | omega | (simp only [ln] at *; omega)) fun hx7 vx8 wx9 o10 ex11 y dm => ?_
 obtain ⟨a12, c13, rfl⟩ := o10.shape
 refine LP_ev ok 3 [(2, .slice a12 (List.length ((([] : List Int)) ++ l)) c13)] 4 rfl rfl ?_
 refine LP_end _ rfl ?_
 refine W_ret ?_
 have f15 := f.mono X.size
 have X16 := (X.stepx x)
 have f14 := dm.fresh f15 X16.size
 have X17 := (X16.step y (f15.dom _))
 exact ⟨_, Ret_of [.slice a12 (List.length ((([] : List Int)) ++ l)) c13] ⟨⟨rfl, rfl⟩, trivial⟩, _, _, _, H, rfl, X17.ext, o10, ex11, f14⟩

theorem spec_aSearch_run_w (x : ASearch) (counts : List Int) (left : Int) (Q : (List (List Int)) → Int → Int → Prop) (H : spec_aSearch_run x counts left Q) (w : World) {vx : Value} {hx : PH} (r : RS hx vx x.Rules) (ex : Sub hx w) {vx1 : Value} {hx2 : PH} (r3 : OD hx2 vx1 x.Out) (ex4 : Sub hx2 w) {b : Nat} (ex7 : Sub (bx b 97 [vx, I x.Types, I x.Most, vx1]) w) {vx8 : Value} {hx9 : PH} (r10 : RS hx9 vx8 counts) (ex11 : Sub hx9 w) (d : Dj hx2 (bx b 97 [vx, I x.Types, I x.Most, vx1])) (d14 : Dj hx2 hx) (d15 : Dj hx2 hx9) (d16 : Dj (bx b 97 [vx, I x.Types, I x.Most, vx1]) hx) (d17 : Dj (bx b 97 [vx, I x.Types, I x.Most, vx1]) hx9) :
  CallsTo Try.prog 60 #[pb b, vx8, I left] w fun v w' => ∃ m1 m2_0 m2_1 v1_ k1, Q m1 m2_0 m2_1 ∧ v = .tuple #[] ∧ But (un hx2 (bx b 97 [vx, I x.Types, I x.Most, vx1])) w w' ∧ OD k1 v1_ m1 ∧ Sub k1 w' ∧ DomLe (un hx2 (bx b 97 [vx, I x.Types, I x.Most, vx1])) w.heap.size k1 ∧ Sub (bx b 97 [vx, I m2_0, I m2_1, v1_]) w' ∧ Dj k1 (bx b 97 [vx, I m2_0, I m2_1, v1_]) := by
 obtain ⟨S, mu, H0, HS⟩ := H
 have key : ∀ (m : Nat) (x : ASearch) (counts : List Int) (left : Int) (Q : (List (List Int)) → Int → Int → Prop), S x counts left Q → mu x counts left < m → ∀ (w : World) {vx : Value} {hx : PH} (r : RS hx vx x.Rules) (ex : Sub hx w) {vx1 : Value} {hx2 : PH} (r3 : OD hx2 vx1 x.Out) (ex4 : Sub hx2 w) {b : Nat} (ex7 : Sub (bx b 97 [vx, I x.Types, I x.Most, vx1]) w) {vx8 : Value} {hx9 : PH} (r10 : RS hx9 vx8 counts) (ex11 : Sub hx9 w) (d : Dj hx2 (bx b 97 [vx, I x.Types, I x.Most, vx1])) (d14 : Dj hx2 hx) (d15 : Dj hx2 hx9) (d16 : Dj (bx b 97 [vx, I x.Types, I x.Most, vx1]) hx) (d17 : Dj (bx b 97 [vx, I x.Types, I x.Most, vx1]) hx9), CallsTo Try.prog 60 #[pb b, vx8, I left] w fun v w' => ∃ m1 m2_0 m2_1 v1_ k1, Q m1 m2_0 m2_1 ∧ v = .tuple #[] ∧ But (un hx2 (bx b 97 [vx, I x.Types, I x.Most, vx1])) w w' ∧ OD k1 v1_ m1 ∧ Sub k1 w' ∧ DomLe (un hx2 (bx b 97 [vx, I x.Types, I x.Most, vx1])) w.heap.size k1 ∧ Sub (bx b 97 [vx, I m2_0, I m2_1, v1_]) w' ∧ Dj k1 (bx b 97 [vx, I m2_0, I m2_1, v1_]) := by
  intro m
  induction m with
  | zero => intro x counts left Q _ hm; exact absurd hm (Nat.not_lt_zero _)
  | succ m ih =>
   intro x counts left Q H0 hm w vx hx r ex vx1 hx2 r3 ex4 b ex7 vx8 hx9 r10 ex11 d d14 d15 d16 d17
   have H := HS x counts left Q H0
   obtain ⟨a, c, rfl⟩ := r.shape
   obtain ⟨a5, c6, rfl⟩ := r3.shape
   obtain ⟨a12, c13, rfl⟩ := r10.shape
   refine enter (args := [pb b, sl a12 counts c13, I left]) 95 Try.func60 rfl rfl rfl ?_
   refine W_forget [(0, pb b), (1, sl a12 counts c13), (2, I left)] ⟨rfl, rfl, rfl, trivial⟩ fun ρ => ?_
   obtain ⟨M, hM⟩ : ∃ M : PH, M = (un hx2 (bx b 97 [sl a x.Rules c, I x.Types, I x.Most, sl a5 x.Out c6])) := ⟨_, rfl⟩
   have D : Dom M hx2 := by subst hM; exact (Dom.l _ _)
   have D18 : Dom M (bx b 97 [sl a x.Rules c, I x.Types, I x.Most, sl a5 x.Out c6]) := by subst hM; exact (Dom.trans (Dom.r _ _) (Dom.refl _))
   have X := But.refl M w
   refine W_seq ?_
   refine W_seq ?_
   refine W_quiet mix (by kernel_rfl) ?_
   refine QP_ev ok 0 [(12, pb b), (13, pb b), (14, .pointer (some ⟨b, 3, none⟩))] 3 rfl rfl ?_
   refine QP_ldbox 3 (v := sl a5 x.Out c6) rfl rfl rfl ti_63 ag_63 (fun _ => rfl) rfl ex7 rfl rfl ?_
   refine QP_ev ok 4 [(16, I (ln x.Out)), (17, pb b), (18, pb b), (19, .pointer (some ⟨b, 2, none⟩))] 8 rfl rfl ?_
   refine QP_ldbox 8 (v := I x.Most) rfl rfl rfl ti_3 ag_3 (fun _ => rfl) rfl ex7 rfl rfl ?_
   refine QP_ev ok 9 [(21, .bool (decide ((ln x.Out) > x.Most)))] 10 rfl rfl ?_
   refine QP_end _ rfl fun wx x19 => ?_
   refine W_cond (decide ((ln x.Out) > x.Most)) rfl (fun hc => ?_) (fun hc => ?_)
   ·have H := H.1 hc
    refine W_ret ?_
    have ex20 := (ex4.ext x19)
    have ex21 := (ex7.ext x19)
    have X22 := (X.stepx x19)
    subst hM
    exact ⟨_, Ret_of [] trivial, _, _, _, _, _, H, rfl, X22, r3, ex20, (Dom.le D _), ex21, d⟩
   have H := H.2 hc
   refine W_skip ?_
   refine W_seq ?_
   refine W_region ?_
   refine LP_ev ok 0 [(22, sl a12 counts c13), (23, I (ln counts)), (24, pb b), (25, pb b), (26, .pointer (some ⟨b, 1, none⟩))] 5 rfl rfl ?_
   have ex23 := (ex7.ext x19)
   refine LP_ldbox 5 (v := I x.Types) rfl rfl rfl ti_3 ag_3 (fun _ => rfl) rfl ex23 rfl rfl ?_
   refine LP_ev ok 6 [(28, .bool ((ln counts) == x.Types)), (6, .bool ((ln counts) == x.Types))] 8 rfl rfl ?_
   refine LP_end _ rfl ?_
   refine W_seq ?_
   refine W_seq ?_
   refine W_region ?_
   refine LP_ev ok 0 [(29, pb b), (30, pb b), (31, pb b)] 3 rfl rfl ?_
   refine LP_ldbox 3 (v := sl a x.Rules c) rfl rfl rfl ti_94 ag_94 (fun _ => rfl) rfl ex23 rfl rfl ?_
   refine LP_ev ok 4 [(33, I (ln x.Rules)), (34, I 0)] 6 rfl rfl ?_
   refine LP_end _ rfl ?_
   refine W_block ?_
   have X32 := (X.stepx x19)
   have ex33 := (ex.ext x19)
   have ex34 := (ex4.ext x19)
   have ex35 := (ex11.ext x19)
   obtain ⟨J, m31, Hx, H⟩ := H
   refine W_loop (S := Int) (fun s ρ' w' => J s ∧ ∃ (ρ : Env), ρ' = setAll [(0, pb b), (1, sl a12 counts c13), (2, I left), (6, .bool ((ln counts) == x.Types)), (32, sl a x.Rules c), (33, I (ln x.Rules)), (34, I s)] ρ ∧ But M w w' ∧ Sub hx w' ∧ Sub hx2 w' ∧ Sub (bx b 97 [sl a x.Rules c, I x.Types, I x.Most, sl a5 x.Out c6]) w' ∧ Sub hx9 w') (fun s => m31 s) 0 ⟨Hx, _, env_eq ⟨rfl, rfl, rfl, rfl, rfl, rfl, rfl, trivial⟩, X32, ex33, ex34, ex23, ex35⟩ ?_
   rintro x24 _ wx25 ⟨Hi, ρ, rfl, HF⟩
   revert HF
   refine bb5 fun X30 ex26 ex27 ex28 ex29 => ?_
   have H := H x24 Hi
   refine W_seq ?_
   refine W_region ?_
   refine LP_ev ok 0 [(35, .bool (decide (x24 < (ln x.Rules))))] 1 rfl rfl ?_
   refine LP_end _ rfl ?_
   refine W_seq ?_
   refine W_cond (decide (x24 < (ln x.Rules))) rfl (fun hc36 => ?_) (fun hc36 => ?_)
   ·have H := H.1 hc36
    refine W_skip ?_
    refine W_seq ?_
    refine W_block ?_
    refine W_seq ?_
    refine W_region ?_
    obtain ⟨x37, hi, hx38, H⟩ := H
    refine LP_index 0 rfl rfl rfl Try.underlying94 ti_122 rfl rfl r hi hx38 fun a39 cs r40 d41 => ?_
    have d42 := d41
    obtain ⟨u, rfl, r43⟩ := ARule_rd d42
    obtain ⟨a44, c45, rfl⟩ := r43.shape
    refine LP_load 1 rfl rfl rfl ti_122 ag_122 rfl r40 d41 ex26 fun vx46 r47 => ?_
    obtain ⟨u48, rfl, r49⟩ := ARule_rv r47
    obtain ⟨a50, c51, rfl⟩ := r49.shape
    refine LP_alloc 2 rfl rfl rfl ti_122 rfl fun b52 wx53 x54 ex55 f => ?_
    refine LP_stbox 3 (vs := [sl a50 x37.Amounts c51, I x37.Sum]) (cs' := [sl a50 x37.Amounts c51, I x37.Sum]) rfl rfl rfl ti_122 rfl rfl rfl rfl rfl ex55 rfl rfl fun wx56 ex57 y => ?_
    refine LP_end _ rfl ?_
    refine W_seq ?_
    refine W_region ?_
    refine LP_ev ok 0 [(38, pb b52)] 1 rfl rfl ?_
    refine LP_ldbox 1 (v := sl a50 x37.Amounts c51) rfl rfl rfl ti_22 ag_22 (fun _ => rfl) rfl ex57 rfl rfl ?_
    refine LP_ev ok 2 [(40, sl a12 counts c13)] 3 rfl rfl ?_
    have ex59 := ((ex26.ext x54).but y (Dj.of_fresh ex26 f).symm)
    have ex60 := ((ex29.ext x54).but y (Dj.of_fresh ex29 f).symm)
    refine LP_call 3 rfl rfl rfl cal_47 rfl (spec_aSum_w _ _ _ H wx56 r49 ex59 r10 ex60) ?_
    rintro _ wx61 ⟨r58, H, rfl, x62⟩
    refine LP_ev ok 4 [(9, I r58)] 5 rfl rfl ?_
    refine LP_end _ rfl ?_
    obtain ⟨k, hk, H⟩ := jn_elim H
    refine W_join2 (S := Bool) (fun s ρ' w' => k s ∧ ∃ (ρ : Env), ρ' = setAll [(0, pb b), (1, sl a12 counts c13), (2, I left), (6, .bool ((ln counts) == x.Types)), (32, sl a x.Rules c), (33, I (ln x.Rules)), (34, I x24), (54, .bool s)] ρ ∧ wx61 = w') ?_ ?_
    ·refine W_region ?_
     refine LP_ev ok 0 [(42, I r58), (43, .pointer (some ⟨b52, 1, none⟩))] 2 rfl rfl ?_
     have ex65 := (ex57.ext x62)
     refine LP_ldbox 2 (v := I x37.Sum) rfl rfl rfl ti_3 ag_3 (fun _ => rfl) rfl ex65 rfl rfl ?_
     refine LP_ev ok 3 [(45, .bool (decide (r58 > x37.Sum))), (46, .bool (decide (r58 > x37.Sum)))] 5 rfl rfl ?_
     refine LP_split 46 (decide (r58 > x37.Sum)) rfl (fun hc66 => ?_) (fun hc66 => ?_)
     ·have H := H.1 hc66
      refine LP_ev ok 5 [(47, undef), (48, undef), (49, undef), (50, undef), (51, undef), (52, undef), (53, undef), (54, .bool true)] 13 rfl rfl ?_
      refine LP_end _ rfl ?_
      exact ⟨true, H, _, env_eq ⟨rfl, rfl, rfl, rfl, rfl, rfl, rfl, rfl, trivial⟩, rfl⟩
     have H := H.2 hc66
     refine LP_ev ok 5 [(47, .bool ((ln counts) == x.Types)), (48, .bool ((ln counts) == x.Types))] 7 rfl rfl ?_
     refine LP_split 48 ((ln counts) == x.Types) rfl (fun hc67 => ?_) (fun hc67 => ?_)
     ·have H := H.1 hc67
      refine LP_ev ok 7 [(49, I r58), (50, .pointer (some ⟨b52, 1, none⟩))] 9 rfl rfl ?_
      refine LP_ldbox 9 (v := I x37.Sum) rfl rfl rfl ti_3 ag_3 (fun _ => rfl) rfl ex65 rfl rfl ?_
      refine LP_ev ok 10 [(52, .bool (decide (r58 < x37.Sum))), (53, .bool (decide (r58 < x37.Sum))), (54, .bool (decide (r58 < x37.Sum)))] 13 rfl rfl ?_
      refine LP_end _ rfl ?_
      exact ⟨decide (r58 < x37.Sum), H, _, env_eq ⟨rfl, rfl, rfl, rfl, rfl, rfl, rfl, rfl, trivial⟩, rfl⟩
     have H := H.2 hc67
     refine LP_ev ok 7 [(49, undef), (50, undef), (51, undef), (52, undef), (53, .bool false), (54, .bool false)] 13 rfl rfl ?_
     refine LP_end _ rfl ?_
     exact ⟨false, H, _, env_eq ⟨rfl, rfl, rfl, rfl, rfl, rfl, rfl, rfl, trivial⟩, rfl⟩
    rintro x63 _ _ ⟨H, ρ, rfl, rfl⟩
    subst hk
    refine W_cond (x63) rfl (fun hc68 => ?_) (fun hc68 => ?_)
    ·have H := H.1 hc68
     refine W_ret ?_
     have ex69 := (((ex27.ext x54).but y (Dj.of_fresh ex27 f).symm).ext x62)
     have ex70 := (((ex28.ext x54).but y (Dj.of_fresh ex28 f).symm).ext x62)
     have f71 := f.mono X30.size
     have X72 := (((X30.stepx x54).step y (f71.dom _)).stepx x62)
     subst hM
     exact ⟨_, Ret_of [] trivial, _, _, _, _, _, H, rfl, X72, r3, ex69, (Dom.le D _), ex70, d⟩
    have H := H.2 hc68
    refine W_skip ?_
    refine W_region ?_
    refine LP_ev ok 0 [(55, I (wr (x24 + 1))), (34, I (wr (x24 + 1)))] 2 rfl rfl ?_
    refine LP_end _ rfl ?_
    have f73 := f.mono X30.size
    have X74 := (((X30.stepx x54).step y (f73.dom _)).stepx x62)
    have ex75 := (ex59.ext x62)
    have ex76 := (((ex27.ext x54).but y (Dj.of_fresh ex27 f).symm).ext x62)
    have ex77 := (((ex28.ext x54).but y (Dj.of_fresh ex28 f).symm).ext x62)
    have ex78 := (ex60.ext x62)
    exact ⟨wr (x24 + 1), ⟨H.1, _, env_eq ⟨rfl, rfl, rfl, rfl, rfl, rfl, rfl, trivial⟩, X74, ex75, ex76, ex77, ex78⟩, H.2⟩
   have H := H.2 hc36
   refine W_exit ?_
   refine (if_pos rfl).mpr ?_
   refine W_seq ?_
   refine W_seq ?_
   refine W_region ?_
   refine LP_ev ok 0 [(56, .bool ((ln counts) == x.Types))] 1 rfl rfl ?_
   refine LP_end _ rfl ?_
   refine W_cond ((ln counts) == x.Types) rfl (fun hc79 => ?_) (fun hc79 => ?_)
   ·have H := H.1 hc79
    obtain ⟨k92, hk93, H⟩ := jn_elim H
    refine W_join2 (S := (List (List Int))) (fun s ρ' w' => k92 s ∧ ∃ (ρ : Env) (vx80 : Value) (hx81 : PH), ρ' = setAll [] ρ ∧ But M w w' ∧ OD hx81 vx80 s ∧ Sub hx81 w' ∧ DomLe M w.heap.size hx81 ∧ Sub hx w' ∧ Sub (bx b 97 [sl a x.Rules c, I x.Types, I x.Most, vx80]) w' ∧ Dj hx81 hx ∧ Dj hx81 (bx b 97 [sl a x.Rules c, I x.Types, I x.Most, vx80])) ?_ ?_
    ·refine W_seq ?_
     refine W_region ?_
     refine LP_ev ok 0 [(57, I left), (58, .bool (left == 0))] 2 rfl rfl ?_
     refine LP_end _ rfl ?_
     refine W_cond (left == 0) rfl (fun hc94 => ?_) (fun hc94 => ?_)
     ·have H := H.1 hc94
      refine W_open mix fun wx95 x96 => ?_
      refine AP_game 9 [[], [], [1], [1, 2], [1, 2, 3], [], [5], [5, 6], [1, 2, 3, 4, 5, 6, 7], [0, 1, 2, 3, 4, 5, 6, 7, 8], [0, 1, 2, 3, 4, 5, 6, 7, 8, 9], [0, 1, 2, 3, 4, 5, 6, 7, 8, 9, 10]] [[(0, none)], [(0, none)], [(60, some 1)], [(61, some 2)], [(62, some 3)], [(1, none)], [(64, some 5)], [(65, some 6)], [(63, some 4), (66, some 7)]] [(59, some 0), (67, some 8)] [(0, false), (1, false), (2, false), (3, false), (4, false), (5, false), (6, true), (7, true), (8, true)] (by kernel_rfl) (by kernel_rfl) ?_
      refine GS_ev ok [(0, pb b)] (pb b) rfl rfl (fun _ h => h) (fun _ => rfl) ?_
      refine GS_ev ok [(0, pb b)] (pb b) rfl rfl (fun _ h => h) (fun _ => rfl) ?_
      refine GS_ev ok [(60, pb b)] (pb b) rfl rfl (fun _ h => h) (fun _ => rfl) ?_
      refine GS_ev ok [(61, pb b)] (.pointer (some ⟨b, 3, none⟩)) rfl rfl (fun _ h => h) (fun _ => rfl) ?_
      have ex97 := (ex28.ext x96)
      refine GS_r1 [(62, .pointer (some ⟨b, 3, none⟩))] (sl a5 x.Out c6) rfl rfl (fun _ h => h) (fun _ w e => ex_ldbox rfl ti_63 ag_63 (fun _ => rfl) rfl e rfl rfl) ex97 ?_
      refine GS_ev ok [(1, sl a12 counts c13)] (sl a12 counts c13) rfl rfl (fun _ h => h) (fun _ => rfl) ?_
      refine GS_lp [(64, sl a12 counts c13)] rfl rfl (fun _ h => h) rfl fun ρ wx98 x99 => ?_
      have ex101 := ((ex29.ext x96).ext x99)
      refine LP_call 0 rfl rfl rfl cal_92 rfl (spec_l1Own_w _ _ H wx98 r10 ex101) ?_
      rintro _ wx102 ⟨r100, vx104, hx105, H, rfl, x103, o106, ex107, f108⟩
      obtain ⟨a109, c110, rfl⟩ := o106.shape
      have ex111 := ((ex97.ext x99).ext x103)
      refine LP_gs ⟨⟨.inr ex111, trivial⟩, ?_⟩
      refine GS_lp [(65, sl a109 r100 c110)] rfl rfl (fun _ h => h) rfl fun ρ wx112 x113 => ?_
      have ex114 := (ex107.ext x113)
      refine LP_litD (α := List Int) 0 (vs := [sl a109 r100 c110]) (xs := [r100]) rfl rfl rfl Try.underlying63 ti_22 rfl rfl (allO.one (OD.rvo (OS.od o106))) ex114 rfl rfl fun hx115 vx116 wx117 x118 o119 ex120 dm => ?_
      obtain ⟨a121, c122, rfl⟩ := o119.shape
      have ex123 := ((ex111.ext x113).ext x118)
      refine LP_gs ⟨⟨.inr ex123, trivial⟩, ?_⟩
      refine GS_lp [(63, sl a5 x.Out c6), (66, .slice a121 (List.length ([r100])) c122)] rfl rfl (fun _ h => h) rfl fun ρ wx124 x125 => ?_
      have ex126 := ((((((ex27.ext x96).ext x99).ext x103).ext x113).ext x118).ext x125)
      have ex127 := ((ex27.ext x96).ext x99)
      have ex128 := ((ex127.ext x103).ext x113)
      have ex129 := (ex120.ext x125)
      obtain ⟨hb, H⟩ := H
      refine LP_appendD (α := List Int) 0 rfl rfl rfl Try.underlying63 ti_22 rfl rfl rfl r3 ex126 o119 ex129 (DomLe.dj dm (Dj.of_fresh ex127 f108).symm ex128).symm (by first | omega | (simp only [ln] at *; omega)) (by first | omega | (simp only [ln] at *; omega)) fun hx130 vx131 wx132 hw o133 ex134 y135 dh dm136 => ?_
      obtain ⟨a137, c138, rfl⟩ := o133.shape
      refine LP_gs ⟨⟨.inl rfl, trivial⟩, ?_⟩
      intro wx139 x140 ρ hn
      refine AP_forget [(59, pb b), (67, .slice a137 (List.length (x.Out ++ ([r100]))) c138)] (by exact hn) fun ρ => ?_
      refine AP_tail 9 [[], [], [1], [1, 2], [1, 2, 3], [], [5], [5, 6], [1, 2, 3, 4, 5, 6, 7], [0, 1, 2, 3, 4, 5, 6, 7, 8], [0, 1, 2, 3, 4, 5, 6, 7, 8, 9], [0, 1, 2, 3, 4, 5, 6, 7, 8, 9, 10]] (by kernel_rfl) ?_
      refine LP_ev ok 9 [(68, pb b), (69, .pointer (some ⟨b, 3, none⟩))] 11 rfl rfl ?_
      have ex144 := (((((((ex97.ext x99).ext x103).ext x113).ext x118).ext x125).but (But.dom y135 dh) d).ext x140)
      refine LP_stbox 11 (vs := [.slice a137 (List.length (x.Out ++ ([r100]))) c138]) (cs' := [sl a x.Rules c, I x.Types, I x.Most, .slice a137 (List.length (x.Out ++ ([r100]))) c138]) rfl rfl rfl ti_63 rfl rfl rfl rfl rfl ex144 rfl rfl fun wx141 ex142 y143 => ?_
      refine LP_end _ rfl ?_
      have X145 := (((((((((X30.stepx x96).stepx x99).stepx x103).stepx x113).stepx x118).stepx x125).step (But.dom y135 dh) (Dom.le D _)).stepx x140).step y143 (Dom.le D18 _))
      have ex146 := (ex97.ext x99)
      have ex147 := ((ex146.ext x103).ext x113)
      have ex148 := ((ex147.ext x118).ext x125)
      have ex149 := ((ex134.ext x140).but y143 (DomLe.dj dm136 (Dj.un_l d (DomLe.dj dm (Dj.of_fresh ex146 f108).symm ex147)) ex148).symm)
      have X151 := ((X30.stepx x96).stepx x99)
      have f150 := f108.mono X151.size
      have X153 := ((X151.stepx x103).stepx x113)
      have f152 := DomLe.fresh dm f150 X153.size
      have X154 := ((X153.stepx x118).stepx x125)
      have ex155 := (((((((((ex26.ext x96).ext x99).ext x103).ext x113).ext x118).ext x125).but (But.dom y135 dh) d14).ext x140).but y143 d16)
      have ex156 := ((ex26.ext x96).ext x99)
      have ex157 := ((ex156.ext x103).ext x113)
      have ex158 := ((ex157.ext x118).ext x125)
      exact ⟨x.Out ++ ([r100]), H, _, .slice a137 (List.length (x.Out ++ ([r100]))) c138, hx130, env_eq trivial, X145, o133, ex149, (DomLe.trans (DomLe.un (Dom.le D _) (f152.dom _)) dm136 X154.size), ex155, ex142, (DomLe.dj dm136 (Dj.un_l d14 (DomLe.dj dm (Dj.of_fresh ex156 f108).symm ex157)) ex158), (Dj.box (DomLe.dj dm136 (Dj.un_l d (DomLe.dj dm (Dj.of_fresh ex146 f108).symm ex147)) ex148).symm).symm⟩
     have H := H.2 hc94
     refine W_skip ?_
     exact ⟨x.Out, H, _, sl a5 x.Out c6, hx2, env_eq trivial, X30, r3, ex27, (Dom.le D _), ex26, ex28, d14, d⟩
    rintro out _ wx84 ⟨H, ρ, vx80, hx81, rfl, HF⟩
    revert HF
    refine bb8 fun X91 o ex82 f83 ex85 ex88 d89 d90 => ?_
    subst hk93
    obtain ⟨a86, c87, rfl⟩ := o.shape
    refine W_ret ?_
    subst hM
    exact ⟨_, Ret_of [] trivial, _, _, _, _, _, H, rfl, X91, o, ex82, f83, ex88, d90⟩
   have H := H.2 hc79
   refine W_skip ?_
   refine W_seq ?_
   refine W_region ?_
   refine LP_ev ok 0 [(10, I 0)] 1 rfl rfl ?_
   refine LP_end _ rfl ?_
   obtain ⟨k160, hk161, H⟩ := jn_elim H
   refine W_join2 (S := Int) (fun s ρ' w' => k160 s ∧ ∃ (ρ : Env), ρ' = setAll [(0, pb b), (1, sl a12 counts c13), (2, I left), (10, I s)] ρ ∧ wx25 = w') ?_ ?_
   ·refine W_seq ?_
    refine W_region ?_
    refine LP_ev ok 0 [(70, sl a12 counts c13), (71, I (ln counts)), (72, pb b), (73, pb b), (74, .pointer (some ⟨b, 1, none⟩))] 5 rfl rfl ?_
    refine LP_ldbox 5 (v := I x.Types) rfl rfl rfl ti_3 ag_3 (fun _ => rfl) rfl ex28 rfl rfl ?_
    refine LP_ev ok 6 [(76, I (wr (x.Types - 1))), (77, .bool ((ln counts) == (wr (x.Types - 1))))] 8 rfl rfl ?_
    refine LP_end _ rfl ?_
    refine W_cond ((ln counts) == (wr (x.Types - 1))) rfl (fun hc162 => ?_) (fun hc162 => ?_)
    ·have H := H.1 hc162
     refine W_region ?_
     refine LP_ev ok 0 [(78, I left), (10, I left)] 2 rfl rfl ?_
     refine LP_end _ rfl ?_
     exact ⟨left, H, _, env_eq ⟨rfl, rfl, rfl, rfl, trivial⟩, rfl⟩
    have H := H.2 hc162
    refine W_skip ?_
    exact ⟨0, H, _, env_eq ⟨rfl, rfl, rfl, rfl, trivial⟩, rfl⟩
   rintro least _ _ ⟨H, ρ, rfl, rfl⟩
   subst hk161
   refine W_seq ?_
   refine W_region ?_
   refine LP_ev ok 0 [(79, I least), (11, I least)] 2 rfl rfl ?_
   refine LP_end _ rfl ?_
   refine W_block ?_
   obtain ⟨J180, m181, Hx182, H⟩ := H
   refine W_loop (S := Int × Int × Int × (List (List Int))) (fun s ρ' w' => J180 s.1 s.2.1 s.2.2.1 s.2.2.2 ∧ ∃ (ρ : Env) (vx165 : Value) (hx166 : PH), ρ' = setAll [(0, pb b), (1, sl a12 counts c13), (2, I left), (11, I s.1)] ρ ∧ But M w w' ∧ OD hx166 vx165 s.2.2.2 ∧ Sub hx166 w' ∧ DomLe M w.heap.size hx166 ∧ Sub hx w' ∧ Sub hx9 w' ∧ Sub (bx b 97 [sl a x.Rules c, I s.2.1, I s.2.2.1, vx165]) w' ∧ Dj hx166 hx ∧ Dj hx166 hx9 ∧ Dj hx166 (bx b 97 [sl a x.Rules c, I s.2.1, I s.2.2.1, vx165])) (fun s => m181 s.1 s.2.1 s.2.2.1 s.2.2.2) (least, x.Types, x.Most, x.Out) ⟨Hx182, _, sl a5 x.Out c6, hx2, env_eq ⟨rfl, rfl, rfl, rfl, trivial⟩, X30, r3, ex27, (Dom.le D _), ex26, ex29, ex28, d14, d15, d⟩ ?_
   rintro ⟨k163, types, most, out164⟩ _ wx170 ⟨Hi, ρ, vx165, hx166, rfl, HF⟩
   revert HF
   refine bb9 fun X179 o167 ex168 f169 ex171 ex172 ex175 d176 => ?_
   refine bb2 fun d177 d178 => ?_
   have H := H k163 types most out164 Hi
   obtain ⟨a173, c174, rfl⟩ := o167.shape
   refine W_seq ?_
   refine W_seq ?_
   refine W_region ?_
   refine LP_ev ok 0 [(80, I k163), (81, I left), (82, .bool (decide (k163 ≤ left)))] 3 rfl rfl ?_
   refine LP_end _ rfl ?_
   refine W_cond (decide (k163 ≤ left)) rfl (fun hc184 => ?_) (fun hc184 => ?_)
   ·have H := H.1 hc184
    refine W_skip ?_
    refine W_seq ?_
    refine W_block ?_
    refine W_region ?_
    refine LP_ev ok 0 [(85, pb b), (86, sl a12 counts c13)] 2 rfl rfl ?_
    refine LP_call 2 rfl rfl rfl cal_92 rfl (spec_l1Own_w _ _ H wx170 r10 ex172) ?_
    rintro _ wx186 ⟨r185, vx188, hx189, H, rfl, x187, o190, ex191, f192⟩
    obtain ⟨a193, c194, rfl⟩ := o190.shape
    refine LP_ev ok 3 [(88, I k163)] 4 rfl rfl ?_
    refine LP_lit (α := Int) (g := emp) 4 (vs := [I k163]) (xs := [k163]) rfl rfl rfl Try.underlying22 ti_3 rfl rfl ⟨⟨_, rfl, rfl⟩, trivial⟩ rfl rfl fun hx195 vx196 wx197 x198 o199 ex200 f201 => ?_
    obtain ⟨a202, c203, rfl⟩ := o199.shape
    have ex204 := (ex191.ext x198)
    obtain ⟨hb205, H⟩ := H
    refine LP_appendf (α := Int) 5 rfl rfl rfl Try.underlying22 ti_3 rfl rfl rfl o190 ex204 o199.readf ex200 (by first | omega | (simp only [ln] at *; omega)) (by first | omega | (simp only [ln] at *; omega)) fun hx206 vx207 wx208 o209 ex210 y211 dm212 => ?_
    obtain ⟨a213, c214, rfl⟩ := o209.shape
    refine LP_ev ok 6 [(91, I left), (92, I k163), (93, I (wr (left - k163)))] 9 rfl rfl ?_
    have ex215 := ((ex168.ext x187).ext x198)
    have ex216 := ((ex175.ext x187).ext x198)
    have ex220 := (((ex171.ext x187).ext x198).but y211 (Dj.of_fresh ex171 f192).symm)
    have ex221 := (ex215.but y211 (Dj.of_fresh ex168 f192).symm)
    have ex222 := (ex216.but y211 (Dj.of_fresh ex175 f192).symm)
    refine LP_call 9 rfl rfl rfl cal_60 rfl (ih _ _ _ _ H.1 (Nat.lt_of_lt_of_le H.2 (Nat.le_of_lt_succ hm)) wx208 r ex220 o167 ex221 ex222 o209.readf ex210 d178 d176 (DomLe.dj dm212 (Dj.of_fresh ex168 f192).symm ex215).symm (Dj.box d16) (DomLe.dj dm212 (Dj.of_fresh ex175 f192).symm ex216).symm) ?_
    rintro _ wx223 ⟨r217, r218, r219, vx229, hx225, H, rfl, x224, HF⟩
    revert HF
    refine bb5 fun o226 ex227 dm228 ex230 d231 => ?_
    obtain ⟨a232, c233, rfl⟩ := o226.shape
    refine LP_end _ rfl ?_
    refine W_region ?_
    refine LP_ev ok 0 [(83, I k163), (84, I (wr (k163 + 1))), (11, I (wr (k163 + 1)))] 3 rfl rfl ?_
    refine LP_end _ rfl ?_
    have f234 := f192.mono X179.size
    have X235 := ((((X179.stepx x187).stepx x198).step y211 (f234.dom _)).step x224 (DomLe.un f169 (DomLe.dom D18 single_dom)))
    have X236 := (((X179.stepx x187).stepx x198).step y211 (f234.dom _))
    have ex237 := (ex220.but x224 (Dj.un_l d176 (Dj.box d16)))
    have ex238 := ((((ex172.ext x187).ext x198).but y211 (Dj.of_fresh ex172 f192).symm).but x224 (Dj.un_l d177 (Dj.box d17)))
    have ex239 := (((ex172.ext x187).ext x198).but y211 (Dj.of_fresh ex172 f192).symm)
    exact ⟨(wr (k163 + 1), r218, r219, r217), ⟨H.1, _, sl a232 r217 c233, hx225, env_eq ⟨rfl, rfl, rfl, rfl, trivial⟩, X235, o226, ex227, (DomLe.trans (DomLe.un f169 (DomLe.dom D18 single_dom)) dm228 X236.size), ex237, ex238, ex230, (DomLe.dj dm228 (Dj.un_l d176 (Dj.box d16)) ex220), (DomLe.dj dm228 (Dj.un_l d177 (Dj.box d17)) ex239), d231⟩, H.2⟩
   have H := H.2 hc184
   refine W_exit ?_
   refine (if_pos rfl).mpr ?_
   subst hM
   exact ⟨_, Ret_of [] trivial, _, _, _, _, _, H, rfl, X179, o167, ex168, f169, ex175, d178⟩
 exact key _ x counts left Q H0 (Nat.lt_succ_self _) w r ex r3 ex4 ex7 r10 ex11 d d14 d15 d16 d17

theorem spec_aSolve_w (g : Geo) (sx : List Variable) (pubs : List Published) (n : Int) (most : Int) (Q : (List (List Int)) → Prop) (H : spec_aSolve g sx pubs n most Q) (w : World) {vx : Value} {hx : PH} (r : RS hx vx g.Parents) (ex : Sub hx w) {vx1 : Value} {hx2 : PH} (r3 : RS hx2 vx1 sx) (ex4 : Sub hx2 w) {vx7 : Value} {hx8 : PH} (r9 : RS hx8 vx7 pubs) (ex10 : Sub hx8 w) :
  CallsTo Try.prog 29 #[.agg #[vx], vx1, vx7, I n, I most] w fun v w' => ∃ r0 u0 g0, Q r0 ∧ v = u0 ∧ Ext w w' ∧ OD g0 u0 r0 ∧ Sub g0 w' ∧ Fresh w.heap.size g0 := by
 obtain ⟨a, c, rfl⟩ := r.shape
 obtain ⟨a5, c6, rfl⟩ := r3.shape
 obtain ⟨a11, c12, rfl⟩ := r9.shape
 refine enter (args := [.agg #[sl a g.Parents c], sl a5 sx c6, sl a11 pubs c12, I n, I most]) 29 Try.func29 rfl rfl rfl ?_
 refine W_forget [(0, .agg #[sl a g.Parents c]), (1, sl a5 sx c6), (2, sl a11 pubs c12), (3, I n), (4, I most)] ⟨rfl, rfl, rfl, rfl, rfl, trivial⟩ fun ρ => ?_
 have X := But.refl emp w
 refine W_seq ?_
 refine W_region ?_
 refine LP_box 0 (cs := [sl a g.Parents c]) rfl rfl rfl rfl rfl fun b wx x ex13 f => ?_
 refine LP_ev ok 1 [(10, .slice none 0 0)] 2 rfl rfl ?_
 refine LP_end _ rfl ?_
 refine W_seq ?_
 refine W_open mix fun wx14 x15 => ?_
 refine AP_game 8 [[], [], [], [0, 1, 2], [], [], [0, 1, 2, 3, 4, 5], [], [0, 1, 2, 3, 4, 5, 6, 7], [0, 1, 2, 3, 4, 5, 6, 7, 8], [0, 1, 2, 3, 4, 5, 6, 7, 8, 9]] [[(5, none)], [(1, none)], [(2, none)], [(12, some 0), (13, some 1), (14, some 2)], [(5, none)], [(1, none)], [(16, some 4), (17, some 5)], [(4, none)]] [(3, none), (15, some 3), (18, some 6), (19, some 7)] [(0, false), (1, false), (2, false), (4, false), (5, false), (7, false), (3, true), (6, false)] (by kernel_rfl) (by kernel_rfl) ?_
 have ex16 := (ex13.ext x15)
 refine GS_r1 [(5, pb b)] (.agg #[sl a g.Parents c]) rfl rfl (fun _ h => h) (fun _ w e => ex_ldbox rfl ti_32 ag_32 (fun h => by cases h) rfl e rfl rfl) ex16 ?_
 refine GS_ev ok [(1, sl a5 sx c6)] (sl a5 sx c6) rfl rfl (fun _ h => h) (fun _ => rfl) ?_
 refine GS_ev ok [(2, sl a11 pubs c12)] (sl a11 pubs c12) rfl rfl (fun _ h => h) (fun _ => rfl) ?_
 refine GS_r1 [(5, pb b)] (.agg #[sl a g.Parents c]) rfl rfl (fun _ h => h) (fun _ w e => ex_ldbox rfl ti_32 ag_32 (fun h => by cases h) rfl e rfl rfl) ex16 ?_
 refine GS_ev ok [(1, sl a5 sx c6)] (sl a5 sx c6) rfl rfl (fun _ h => h) (fun _ => rfl) ?_
 refine GS_ev ok [(4, I most)] (I most) rfl rfl (fun _ h => h) (fun _ => rfl) ?_
 refine GS_lp [(12, .agg #[sl a g.Parents c]), (13, sl a5 sx c6), (14, sl a11 pubs c12)] rfl rfl (fun _ h => h) rfl fun ρ wx17 x18 => ?_
 have ex20 := (((ex.ext x).ext x15).ext x18)
 have ex21 := (((ex4.ext x).ext x15).ext x18)
 have ex22 := (((ex10.ext x).ext x15).ext x18)
 refine LP_call 0 rfl rfl rfl cal_59 rfl (spec_aRules_w _ _ _ _ H wx17 r ex20 r3 ex21 r9 ex22) ?_
 rintro _ wx23 ⟨r19, vx25, hx26, H, rfl, x24, o, ex27, f28⟩
 obtain ⟨a29, c30, rfl⟩ := o.shape
 have ex31 := ((ex16.ext x18).ext x24)
 refine LP_gs ⟨⟨.inr ex31, .inl rfl, trivial⟩, ?_⟩
 obtain ⟨r32, Hd, H⟩ := H
 have ex33 := (ex20.ext x24)
 have ex34 := (ex21.ext x24)
 refine GS_q [(16, .agg #[sl a g.Parents c]), (17, sl a5 sx c6)] (I r32) [hx, hx2] [.agg #[sl a g.Parents c], sl a5 sx c6] rfl rfl (fun _ h => h) rfl cal_44 (fun _ => rfl) (fun w e => (spec_aTypes_w _ _ _ Hd w r e.1 r3 e.2.1).mono (fun _ _ h => by obtain ⟨_, rfl, rfl, x⟩ := h; exact ⟨rfl, x⟩)) ⟨ex33, ex34, trivial⟩ ?_
 intro wx35 x36 ρ hn
 refine AP_forget [(3, I n), (15, sl a29 r19 c30), (18, I r32), (19, I most)] (by exact hn) fun ρ => ?_
 refine AP_tail 8 [[], [], [], [0, 1, 2], [], [], [0, 1, 2, 3, 4, 5], [], [0, 1, 2, 3, 4, 5, 6, 7], [0, 1, 2, 3, 4, 5, 6, 7, 8], [0, 1, 2, 3, 4, 5, 6, 7, 8, 9]] (by kernel_rfl) ?_
 refine LP_ev ok 8 [(20, .agg #[sl a29 r19 c30, I r32, I most, .slice none 0 0])] 9 rfl rfl ?_
 refine LP_box 9 (cs := [sl a29 r19 c30, I r32, I most, .slice none 0 0]) rfl rfl rfl rfl rfl fun b37 wx38 x39 ex40 f41 => ?_
 refine LP_ev ok 10 [(11, pb b37)] 11 rfl rfl ?_
 refine LP_end _ rfl ?_
 refine W_seq ?_
 refine W_region ?_
 refine LP_ev ok 0 [(22, pb b37), (23, I n)] 2 rfl rfl ?_
 have ex42 := (ex27.ext x36)
 have ex46 := (ex42.ext x39)
 refine LP_call 2 rfl rfl rfl cal_60 rfl (spec_aSearch_run_w _ _ _ _ H wx38 o.readf ex46 (OD.nil (α := List Int)) (emp_sub _) ex40 (.inl ⟨rfl, rfl⟩) (emp_sub _) (Dj.emp_l _) (Dj.emp_l _) (Dj.emp_l _) (Dj.of_fresh ex42 f41).symm (Dj.emp_r _)) ?_
 rintro _ wx47 ⟨r43, r44, r45, vx52, hx49, H, rfl, x48, HF⟩
 revert HF
 refine bb5 fun o50 ex51 dm ex53 d => ?_
 obtain ⟨a54, c55, rfl⟩ := o50.shape
 refine LP_end _ rfl ?_
 refine W_seq ?_
 refine W_region ?_
 refine LP_ev ok 0 [(25, pb b37), (26, pb b37), (27, .pointer (some ⟨b37, 3, none⟩))] 3 rfl rfl ?_
 refine LP_ldbox 3 (v := sl a54 r43 c55) rfl rfl rfl ti_63 ag_63 (fun _ => rfl) rfl ex53 rfl rfl ?_
 refine LP_ev ok 4 [(10, sl a54 r43 c55)] 5 rfl rfl ?_
 refine LP_end _ rfl ?_
 refine W_ret ?_
 have X57 := (((((X.stepx x).stepx x15).stepx x18).stepx x24).stepx x36)
 have f56 := f41.mono X57.size
 have X59 := (X57.stepx x39)
 have f58 := DomLe.fresh dm (Fresh.un (emp_fresh _) f56) X59.size
 have X60 := (X59.step x48 (DomLe.un (fun _ _ _ => rfl) (f56.dom _)))
 exact ⟨_, Ret_of [sl a54 r43 c55] ⟨⟨rfl, rfl⟩, trivial⟩, _, _, _, H, rfl, X60.ext, o50, ex51, f58⟩

end Go.Proofs.Ytkebfmobfeponaa
