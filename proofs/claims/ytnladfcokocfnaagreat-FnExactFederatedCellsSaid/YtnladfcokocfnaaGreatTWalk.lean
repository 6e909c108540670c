/- The walks: each Go function does what its meaning says. -/
import Derived.Test.YtnladfcokocfnaaGreatTDefs
import Derived.Test.YtnladfcokocfnaaGreatProg
import Derived.KernelRfl
set_option linter.unusedVariables false
set_option autoImplicit false
namespace Go.Proofs.YtnladfcokocfnaaGreat
open Go Go.RowKit Go.Gv

open Go.Proofs
set_option maxRecDepth 8000
set_option maxHeartbeats 4000000
def ty : Ty := Ty.of [(3, .int .i64), (4, .bool), (5, .int .u8), (9, .string), (22, .slice 3), (25, .slice 73), (28, .slice 75), (29, .slice 22), (39, .slice 82), (43, .slice 84), (58, .slice 5), (75, .slice 113), (84, .slice 118), (144, .int .u64)] [((24, 0), 0), ((27, 0), 0), ((27, 1), 1), ((27, 2), 2), ((27, 3), 3), ((37, 0), 0), ((41, 0), 0), ((41, 1), 1), ((41, 2), 2), ((41, 3), 3), ((73, 0), 0), ((73, 1), 1), ((82, 0), 0), ((82, 1), 1), ((113, 0), 0), ((113, 1), 1), ((113, 2), 2), ((118, 0), 0), ((118, 1), 1), ((118, 2), 2)] []
theorem fa24_0 : FldOk Tryz.prog 24 0 0 := fun _ _ => by kernel_rfl
theorem fa27_0 : FldOk Tryz.prog 27 0 0 := fun _ _ => by kernel_rfl
theorem fa27_1 : FldOk Tryz.prog 27 1 1 := fun _ _ => by kernel_rfl
theorem fa27_2 : FldOk Tryz.prog 27 2 2 := fun _ _ => by kernel_rfl
theorem fa27_3 : FldOk Tryz.prog 27 3 3 := fun _ _ => by kernel_rfl
theorem fa37_0 : FldOk Tryz.prog 37 0 0 := fun _ _ => by kernel_rfl
theorem fa41_0 : FldOk Tryz.prog 41 0 0 := fun _ _ => by kernel_rfl
theorem fa41_1 : FldOk Tryz.prog 41 1 1 := fun _ _ => by kernel_rfl
theorem fa41_2 : FldOk Tryz.prog 41 2 2 := fun _ _ => by kernel_rfl
theorem fa41_3 : FldOk Tryz.prog 41 3 3 := fun _ _ => by kernel_rfl
theorem fa73_0 : FldOk Tryz.prog 73 0 0 := fun _ _ => by kernel_rfl
theorem fa73_1 : FldOk Tryz.prog 73 1 1 := fun _ _ => by kernel_rfl
theorem fa82_0 : FldOk Tryz.prog 82 0 0 := fun _ _ => by kernel_rfl
theorem fa82_1 : FldOk Tryz.prog 82 1 1 := fun _ _ => by kernel_rfl
theorem fa113_0 : FldOk Tryz.prog 113 0 0 := fun _ _ => by kernel_rfl
theorem fa113_1 : FldOk Tryz.prog 113 1 1 := fun _ _ => by kernel_rfl
theorem fa113_2 : FldOk Tryz.prog 113 2 2 := fun _ _ => by kernel_rfl
theorem fa118_0 : FldOk Tryz.prog 118 0 0 := fun _ _ => by kernel_rfl
theorem fa118_1 : FldOk Tryz.prog 118 1 1 := fun _ _ => by kernel_rfl
theorem fa118_2 : FldOk Tryz.prog 118 2 2 := fun _ _ => by kernel_rfl
theorem ok : TyOk Tryz.prog ty := .of ⟨Tryz.underlying3, Tryz.underlying4, Tryz.underlying5, Tryz.underlying9, Tryz.underlying22, Tryz.underlying25, Tryz.underlying28, Tryz.underlying29, Tryz.underlying39, Tryz.underlying43, Tryz.underlying58, Tryz.underlying75, Tryz.underlying84, Tryz.underlying144, trivial⟩ ⟨fa24_0, fa27_0, fa27_1, fa27_2, fa27_3, fa37_0, fa41_0, fa41_1, fa41_2, fa41_3, fa73_0, fa73_1, fa82_0, fa82_1, fa113_0, fa113_1, fa113_2, fa118_0, fa118_1, fa118_2, trivial⟩ trivial
theorem ti_3 : TyI Tryz.prog 3 1 8 (.int .i64 0) := .mk' (by kernel_rfl) rfl
theorem ti_5 : TyI Tryz.prog 5 1 1 (.int .u8 0) := .mk' (by kernel_rfl) rfl
theorem ti_9 : TyI Tryz.prog 9 1 16 (.string ⟨#[]⟩) := .mk' (by kernel_rfl) rfl
theorem ti_22 : TyI Tryz.prog 22 1 24 (.slice none 0 0) := .mk' (by kernel_rfl) rfl
theorem ti_24 : TyI Tryz.prog 24 1 24 (.agg #[.slice none 0 0]) := .mk' (by kernel_rfl) rfl
theorem ti_27 : TyI Tryz.prog 27 4 64 (.agg #[.int .i64 0, .slice none 0 0, .slice none 0 0, .int .i64 0]) := .mk' (by kernel_rfl) rfl
theorem ti_37 : TyI Tryz.prog 37 1 24 (.agg #[.slice none 0 0]) := .mk' (by kernel_rfl) rfl
theorem ti_41 : TyI Tryz.prog 41 4 64 (.agg #[.int .i64 0, .slice none 0 0, .slice none 0 0, .int .i64 0]) := .mk' (by kernel_rfl) rfl
theorem ti_73 : TyI Tryz.prog 73 2 24 (.agg #[.string ⟨#[]⟩, .int .i64 0]) := .mk' (by kernel_rfl) rfl
theorem ti_75 : TyI Tryz.prog 75 1 24 (.slice none 0 0) := .mk' (by kernel_rfl) rfl
theorem ti_82 : TyI Tryz.prog 82 2 24 (.agg #[.string ⟨#[]⟩, .int .i64 0]) := .mk' (by kernel_rfl) rfl
theorem ti_84 : TyI Tryz.prog 84 1 24 (.slice none 0 0) := .mk' (by kernel_rfl) rfl
theorem ti_113 : TyI Tryz.prog 113 3 40 (.agg #[.int .i64 0, .int .i64 0, .slice none 0 0]) := .mk' (by kernel_rfl) rfl
theorem ti_118 : TyI Tryz.prog 118 3 40 (.agg #[.int .i64 0, .int .i64 0, .slice none 0 0]) := .mk' (by kernel_rfl) rfl
theorem ag_3 : AggT Tryz.prog 3 false := ⟨_, Tryz.underlying3, by simp⟩
theorem ag_9 : AggT Tryz.prog 9 false := ⟨_, Tryz.underlying9, by simp⟩
theorem ag_22 : AggT Tryz.prog 22 false := ⟨_, Tryz.underlying22, by simp⟩
theorem ag_24 : AggT Tryz.prog 24 true := ⟨_, Tryz.underlying24, by simp⟩
theorem ag_27 : AggT Tryz.prog 27 true := ⟨_, Tryz.underlying27, by simp⟩
theorem ag_37 : AggT Tryz.prog 37 true := ⟨_, Tryz.underlying37, by simp⟩
theorem ag_41 : AggT Tryz.prog 41 true := ⟨_, Tryz.underlying41, by simp⟩
theorem ag_73 : AggT Tryz.prog 73 true := ⟨_, Tryz.underlying73, by simp⟩
theorem ag_75 : AggT Tryz.prog 75 false := ⟨_, Tryz.underlying75, by simp⟩
theorem ag_82 : AggT Tryz.prog 82 true := ⟨_, Tryz.underlying82, by simp⟩
theorem ag_84 : AggT Tryz.prog 84 false := ⟨_, Tryz.underlying84, by simp⟩
theorem ag_113 : AggT Tryz.prog 113 true := ⟨_, Tryz.underlying113, by simp⟩
theorem ag_118 : AggT Tryz.prog 118 true := ⟨_, Tryz.underlying118, by simp⟩
theorem mix : Tryz.prog.follows .mixedOrders = true := by kernel_rfl
theorem cal_5 : Callable Tryz.prog 5 := .mk Tryz.func5 rfl (by decide)
theorem cal_6 : Callable Tryz.prog 6 := .mk Tryz.func6 rfl (by decide)
theorem cal_7 : Callable Tryz.prog 7 := .mk Tryz.func7 rfl (by decide)
theorem cal_8 : Callable Tryz.prog 8 := .mk Tryz.func8 rfl (by decide)
theorem cal_9 : Callable Tryz.prog 9 := .mk Tryz.func9 rfl (by decide)
theorem cal_10 : Callable Tryz.prog 10 := .mk Tryz.func10 rfl (by decide)
theorem cal_11 : Callable Tryz.prog 11 := .mk Tryz.func11 rfl (by decide)
theorem cal_12 : Callable Tryz.prog 12 := .mk Tryz.func12 rfl (by decide)
theorem cal_13 : Callable Tryz.prog 13 := .mk Tryz.func13 rfl (by decide)
theorem cal_14 : Callable Tryz.prog 14 := .mk Tryz.func14 rfl (by decide)
theorem cal_15 : Callable Tryz.prog 15 := .mk Tryz.func15 rfl (by decide)
theorem cal_16 : Callable Tryz.prog 16 := .mk Tryz.func16 rfl (by decide)
theorem cal_17 : Callable Tryz.prog 17 := .mk Tryz.func17 rfl (by decide)
theorem cal_18 : Callable Tryz.prog 18 := .mk Tryz.func18 rfl (by decide)
theorem cal_19 : Callable Tryz.prog 19 := .mk Tryz.func19 rfl (by decide)
theorem cal_20 : Callable Tryz.prog 20 := .mk Tryz.func20 rfl (by decide)
theorem cal_21 : Callable Tryz.prog 21 := .mk Tryz.func21 rfl (by decide)
theorem cal_22 : Callable Tryz.prog 22 := .mk Tryz.func22 rfl (by decide)
theorem cal_23 : Callable Tryz.prog 23 := .mk Tryz.func23 rfl (by decide)
theorem cal_24 : Callable Tryz.prog 24 := .mk Tryz.func24 rfl (by decide)
theorem cal_25 : Callable Tryz.prog 25 := .mk Tryz.func25 rfl (by decide)
theorem cal_26 : Callable Tryz.prog 26 := .mk Tryz.func26 rfl (by decide)
theorem cal_27 : Callable Tryz.prog 27 := .mk Tryz.func27 rfl (by decide)
theorem cal_28 : Callable Tryz.prog 28 := .mk Tryz.func28 rfl (by decide)
theorem cal_29 : Callable Tryz.prog 29 := .mk Tryz.func29 rfl (by decide)
theorem cal_34 : Callable Tryz.prog 34 := .mk Tryz.func34 rfl (by decide)
theorem cal_43 : Callable Tryz.prog 43 := .mk Tryz.func43 rfl (by decide)
theorem cal_44 : Callable Tryz.prog 44 := .mk Tryz.func44 rfl (by decide)
theorem cal_45 : Callable Tryz.prog 45 := .mk Tryz.func45 rfl (by decide)
theorem cal_46 : Callable Tryz.prog 46 := .mk Tryz.func46 rfl (by decide)
theorem cal_47 : Callable Tryz.prog 47 := .mk Tryz.func47 rfl (by decide)
theorem cal_48 : Callable Tryz.prog 48 := .mk Tryz.func48 rfl (by decide)
theorem cal_49 : Callable Tryz.prog 49 := .mk Tryz.func49 rfl (by decide)
theorem cal_50 : Callable Tryz.prog 50 := .mk Tryz.func50 rfl (by decide)
theorem cal_51 : Callable Tryz.prog 51 := .mk Tryz.func51 rfl (by decide)
theorem cal_52 : Callable Tryz.prog 52 := .mk Tryz.func52 rfl (by decide)
theorem cal_53 : Callable Tryz.prog 53 := .mk Tryz.func53 rfl (by decide)
theorem cal_54 : Callable Tryz.prog 54 := .mk Tryz.func54 rfl (by decide)
theorem cal_55 : Callable Tryz.prog 55 := .mk Tryz.func55 rfl (by decide)
theorem cal_56 : Callable Tryz.prog 56 := .mk Tryz.func56 rfl (by decide)
theorem cal_57 : Callable Tryz.prog 57 := .mk Tryz.func57 rfl (by decide)
theorem cal_58 : Callable Tryz.prog 58 := .mk Tryz.func58 rfl (by decide)
theorem cal_59 : Callable Tryz.prog 59 := .mk Tryz.func59 rfl (by decide)
theorem cal_60 : Callable Tryz.prog 60 := .mk Tryz.func60 rfl (by decide)
theorem cal_61 : Callable Tryz.prog 61 := .mk Tryz.func61 rfl (by decide)
theorem cal_62 : Callable Tryz.prog 62 := .mk Tryz.func62 rfl (by decide)
theorem cal_63 : Callable Tryz.prog 63 := .mk Tryz.func63 rfl (by decide)
theorem cal_64 : Callable Tryz.prog 64 := .mk Tryz.func64 rfl (by decide)
theorem cal_70 : Callable Tryz.prog 70 := .mk Tryz.func70 rfl (by decide)
theorem cal_71 : Callable Tryz.prog 71 := .mk Tryz.func71 rfl (by decide)
theorem cal_75 : Callable Tryz.prog 75 := .mk Tryz.func75 rfl (by decide)
theorem cal_78 : Callable Tryz.prog 78 := .mk Tryz.func78 rfl (by decide)
theorem cal_80 : Callable Tryz.prog 80 := .mk Tryz.func80 rfl (by decide)
theorem cal_81 : Callable Tryz.prog 81 := .mk Tryz.func81 rfl (by decide)
theorem cal_82 : Callable Tryz.prog 82 := .mk Tryz.func82 rfl (by decide)
theorem cal_83 : Callable Tryz.prog 83 := .mk Tryz.func83 rfl (by decide)
theorem cal_84 : Callable Tryz.prog 84 := .mk Tryz.func84 rfl (by decide)
theorem cal_85 : Callable Tryz.prog 85 := .mk Tryz.func85 rfl (by decide)
theorem cal_86 : Callable Tryz.prog 86 := .mk Tryz.func86 rfl (by decide)
theorem cal_87 : Callable Tryz.prog 87 := .mk Tryz.func87 rfl (by decide)
theorem cal_88 : Callable Tryz.prog 88 := .mk Tryz.func88 rfl (by decide)
theorem cal_89 : Callable Tryz.prog 89 := .mk Tryz.func89 rfl (by decide)
theorem cal_90 : Callable Tryz.prog 90 := .mk Tryz.func90 rfl (by decide)
theorem cal_91 : Callable Tryz.prog 91 := .mk Tryz.func91 rfl (by decide)
theorem cal_92 : Callable Tryz.prog 92 := .mk Tryz.func92 rfl (by decide)
theorem cal_93 : Callable Tryz.prog 93 := .mk Tryz.func93 rfl (by decide)
theorem cal_95 : Callable Tryz.prog 95 := .mk Tryz.func95 rfl (by decide)
theorem cal_97 : Callable Tryz.prog 97 := .mk Tryz.func97 rfl (by decide)
theorem cal_101 : Callable Tryz.prog 101 := .mk Tryz.func101 rfl (by decide)
theorem cal_102 : Callable Tryz.prog 102 := .mk Tryz.func102 rfl (by decide)
theorem cal_103 : Callable Tryz.prog 103 := .mk Tryz.func103 rfl (by decide)
theorem cal_104 : Callable Tryz.prog 104 := .mk Tryz.func104 rfl (by decide)
theorem cal_109 : Callable Tryz.prog 109 := .mk Tryz.func109 rfl (by decide)
theorem cal_110 : Callable Tryz.prog 110 := .mk Tryz.func110 rfl (by decide)
theorem cal_111 : Callable Tryz.prog 111 := .mk Tryz.func111 rfl (by decide)
theorem cal_112 : Callable Tryz.prog 112 := .mk Tryz.func112 rfl (by decide)
theorem cal_113 : Callable Tryz.prog 113 := .mk Tryz.func113 rfl (by decide)
theorem cal_114 : Callable Tryz.prog 114 := .mk Tryz.func114 rfl (by decide)
theorem cal_115 : Callable Tryz.prog 115 := .mk Tryz.func115 rfl (by decide)
theorem cal_116 : Callable Tryz.prog 116 := .mk Tryz.func116 rfl (by decide)
theorem cal_117 : Callable Tryz.prog 117 := .mk Tryz.func117 rfl (by decide)
theorem cal_118 : Callable Tryz.prog 118 := .mk Tryz.func118 rfl (by decide)
theorem cal_119 : Callable Tryz.prog 119 := .mk Tryz.func119 rfl (by decide)
theorem cal_120 : Callable Tryz.prog 120 := .mk Tryz.func120 rfl (by decide)
theorem cal_127 : Callable Tryz.prog 127 := .mk Tryz.func127 rfl (by decide)
theorem cal_129 : Callable Tryz.prog 129 := .mk Tryz.func129 rfl (by decide)
theorem cal_130 : Callable Tryz.prog 130 := .mk Tryz.func130 rfl (by decide)
theorem cal_131 : Callable Tryz.prog 131 := .mk Tryz.func131 rfl (by decide)
theorem cal_132 : Callable Tryz.prog 132 := .mk Tryz.func132 rfl (by decide)
theorem cal_133 : Callable Tryz.prog 133 := .mk Tryz.func133 rfl (by decide)
theorem cal_134 : Callable Tryz.prog 134 := .mk Tryz.func134 rfl (by decide)
theorem cal_135 : Callable Tryz.prog 135 := .mk Tryz.func135 rfl (by decide)
theorem cal_136 : Callable Tryz.prog 136 := .mk Tryz.func136 rfl (by decide)
theorem cal_137 : Callable Tryz.prog 137 := .mk Tryz.func137 rfl (by decide)
theorem cal_138 : Callable Tryz.prog 138 := .mk Tryz.func138 rfl (by decide)
theorem cal_139 : Callable Tryz.prog 139 := .mk Tryz.func139 rfl (by decide)
theorem cal_140 : Callable Tryz.prog 140 := .mk Tryz.func140 rfl (by decide)
theorem cal_141 : Callable Tryz.prog 141 := .mk Tryz.func141 rfl (by decide)
theorem cal_142 : Callable Tryz.prog 142 := .mk Tryz.func142 rfl (by decide)
theorem cal_143 : Callable Tryz.prog 143 := .mk Tryz.func143 rfl (by decide)
theorem cal_144 : Callable Tryz.prog 144 := .mk Tryz.func144 rfl (by decide)
theorem cal_145 : Callable Tryz.prog 145 := .mk Tryz.func145 rfl (by decide)
theorem cal_146 : Callable Tryz.prog 146 := .mk Tryz.func146 rfl (by decide)
theorem cal_147 : Callable Tryz.prog 147 := .mk Tryz.func147 rfl (by decide)
theorem cal_148 : Callable Tryz.prog 148 := .mk Tryz.func148 rfl (by decide)
theorem cal_149 : Callable Tryz.prog 149 := .mk Tryz.func149 rfl (by decide)
theorem cal_150 : Callable Tryz.prog 150 := .mk Tryz.func150 rfl (by decide)
theorem cal_151 : Callable Tryz.prog 151 := .mk Tryz.func151 rfl (by decide)
theorem cal_152 : Callable Tryz.prog 152 := .mk Tryz.func152 rfl (by decide)
theorem cal_153 : Callable Tryz.prog 153 := .mk Tryz.func153 rfl (by decide)
theorem cal_154 : Callable Tryz.prog 154 := .mk Tryz.func154 rfl (by decide)
theorem cal_160 : Callable Tryz.prog 160 := .mk Tryz.func160 rfl (by decide)
theorem cal_161 : Callable Tryz.prog 161 := .mk Tryz.func161 rfl (by decide)
theorem cal_162 : Callable Tryz.prog 162 := .mk Tryz.func162 rfl (by decide)
theorem cal_163 : Callable Tryz.prog 163 := .mk Tryz.func163 rfl (by decide)
theorem cal_164 : Callable Tryz.prog 164 := .mk Tryz.func164 rfl (by decide)
theorem cal_165 : Callable Tryz.prog 165 := .mk Tryz.func165 rfl (by decide)
theorem cal_166 : Callable Tryz.prog 166 := .mk Tryz.func166 rfl (by decide)
theorem cal_167 : Callable Tryz.prog 167 := .mk Tryz.func167 rfl (by decide)
theorem cal_168 : Callable Tryz.prog 168 := .mk Tryz.func168 rfl (by decide)
theorem cal_169 : Callable Tryz.prog 169 := .mk Tryz.func169 rfl (by decide)
theorem cal_170 : Callable Tryz.prog 170 := .mk Tryz.func170 rfl (by decide)
theorem cal_171 : Callable Tryz.prog 171 := .mk Tryz.func171 rfl (by decide)
theorem cal_172 : Callable Tryz.prog 172 := .mk Tryz.func172 rfl (by decide)
theorem cal_173 : Callable Tryz.prog 173 := .mk Tryz.func173 rfl (by decide)
theorem cal_174 : Callable Tryz.prog 174 := .mk Tryz.func174 rfl (by decide)
theorem cal_175 : Callable Tryz.prog 175 := .mk Tryz.func175 rfl (by decide)

theorem laws_szIntS_w (a : List Int) (left : Int) (Q : Int → Prop) (H : laws_szIntS a left Q) (w : World) {vx : Value} {hx : PH} (r : RS hx vx a) (ex : Sub hx w) :
  CallsTo Tryz.prog 43 #[vx, I left] w fun v w' => ∃ r0, Q r0 ∧ v = I r0 ∧ Ext w w' := by
 obtain ⟨a1, c, rfl⟩ := r.shape
 refine enter (args := [sl a1 a c, I left]) 12 Tryz.func43 rfl rfl rfl ?_
 refine W_forget [(0, sl a1 a c), (1, I left)] ⟨rfl, rfl, trivial⟩ fun ρ => ?_
 have X := But.refl emp w
 refine W_seq (W_region ?_)
 refine LP_ev ok 0 [(4, I 0)] 1 rfl rfl ?_
 refine LP_end _ rfl (W_seq (W_region ?_))
 refine LP_ev ok 0 [(5, I left), (6, sl a1 a c), (7, I (ln a)), (8, I (wr (left - (ln a)))), (1, I (wr (left - (ln a))))] 5 rfl rfl ?_
 refine LP_end _ rfl (W_seq ?_)
 refine W_seq (W_region ?_)
 refine LP_ev ok 0 [(9, I (wr (left - (ln a)))), (10, .bool (decide ((wr (left - (ln a))) < 0)))] 2 rfl rfl ?_
 refine LP_end _ rfl ?_
 refine W_cond (decide ((wr (left - (ln a))) < 0)) rfl (fun hc => ?_) (fun hc => ?_)
 ·have H := H.1 hc
  refine W_seq (W_region ?_)
  refine LP_ev ok 0 [(4, I ((-1)))] 1 rfl rfl ?_
  refine LP_end _ rfl (W_ret ?_)
  exact ⟨_, Ret_of [I ((-1))] ⟨⟨rfl, rfl⟩, trivial⟩, _, H, rfl, X.ext⟩
 have H := H.2 hc
 refine W_skip ?_
 refine W_seq (W_region ?_)
 refine LP_ev ok 0 [(11, I (wr (left - (ln a)))), (4, I (wr (left - (ln a))))] 2 rfl rfl ?_
 refine LP_end _ rfl (W_ret ?_)
 exact ⟨_, Ret_of [I (wr (left - (ln a)))] ⟨⟨rfl, rfl⟩, trivial⟩, _, H, rfl, X.ext⟩

theorem laws_szGeo_w (a : Geo) (left : Int) (Q : Int → Prop) (H : laws_szGeo a left Q) (w : World) {vx : Value} {hx : PH} (r : RS hx vx a.Parents) (ex : Sub hx w) :
  CallsTo Tryz.prog 5 #[.agg #[vx], I left] w fun v w' => ∃ r0, Q r0 ∧ v = I r0 ∧ Ext w w' := by
 obtain ⟨a1, c, rfl⟩ := r.shape
 refine enter (args := [.agg #[sl a1 a.Parents c], I left]) 12 Tryz.func5 rfl rfl rfl ?_
 refine W_forget [(0, .agg #[sl a1 a.Parents c]), (1, I left)] ⟨rfl, rfl, trivial⟩ fun ρ => ?_
 have X := But.refl emp w
 refine W_seq (W_region ?_)
 refine LP_box 0 (cs := [sl a1 a.Parents c]) rfl rfl rfl rfl rfl fun b wx x ex2 f => ?_
 refine LP_ev ok 1 [(4, I 0)] 2 rfl rfl ?_
 refine LP_end _ rfl (W_seq (W_region ?_))
 refine LP_ev ok 0 [(5, pb b)] 1 rfl rfl ?_
 refine LP_ldbox 1 (v := sl a1 a.Parents c) rfl rfl rfl ti_22 ag_22 (fun _ => rfl) rfl ex2 rfl rfl ?_
 refine LP_ev ok 2 [(7, I left)] 3 rfl rfl ?_
 refine LP_call 3 rfl rfl rfl cal_43 rfl (laws_szIntS_w _ _ _ H wx r (ex.ext x)) ?_
 rintro _ wx5 ⟨r3, H, rfl, x6⟩
 refine LP_ev ok 4 [(1, I r3)] 5 rfl rfl ?_
 refine LP_end _ rfl (W_seq ?_)
 refine W_seq (W_region ?_)
 refine LP_ev ok 0 [(9, I r3), (10, .bool (decide (r3 < 0)))] 2 rfl rfl ?_
 refine LP_end _ rfl ?_
 refine W_cond (decide (r3 < 0)) rfl (fun hc => ?_) (fun hc => ?_)
 ·have H := H.1 hc
  refine W_seq (W_region ?_)
  refine LP_ev ok 0 [(4, I ((-1)))] 1 rfl rfl ?_
  refine LP_end _ rfl (W_ret ?_)
  exact ⟨_, Ret_of [I ((-1))] ⟨⟨rfl, rfl⟩, trivial⟩, _, H, rfl, (X.stepx (x.trans x6)).ext⟩
 have H := H.2 hc
 refine W_skip ?_
 refine W_seq (W_region ?_)
 refine LP_ev ok 0 [(11, I r3), (4, I r3)] 2 rfl rfl ?_
 refine LP_end _ rfl (W_ret ?_)
 exact ⟨_, Ret_of [I r3] ⟨⟨rfl, rfl⟩, trivial⟩, _, H, rfl, (X.stepx (x.trans x6)).ext⟩

theorem laws_szVariable_w (a : Variable) (left : Int) (Q : Int → Prop) (H : laws_szVariable a left Q) (w : World)  :
  CallsTo Tryz.prog 44 #[.agg #[.string a.Name, I a.Levels], I left] w fun v w' => ∃ r0, Q r0 ∧ v = I r0 ∧ Ext w w' := by
 refine enter (args := [.agg #[.string a.Name, I a.Levels], I left]) 13 Tryz.func44 rfl rfl rfl ?_
 refine W_forget [(0, .agg #[.string a.Name, I a.Levels]), (1, I left)] ⟨rfl, rfl, trivial⟩ fun ρ => ?_
 have X := But.refl emp w
 refine W_seq (W_region ?_)
 refine LP_box 0 (cs := [.string a.Name, I a.Levels]) rfl rfl rfl rfl rfl fun b wx x ex f => ?_
 refine LP_ev ok 1 [(4, I 0)] 2 rfl rfl ?_
 refine LP_end _ rfl (W_seq (W_region ?_))
 refine LP_ev ok 0 [(5, I left), (6, pb b)] 2 rfl rfl ?_
 refine LP_ldbox 2 (v := .string a.Name) rfl rfl rfl ti_9 ag_9 (fun _ => rfl) rfl ex rfl rfl ?_
 refine LP_ev ok 3 [(8, I (sln a.Name)), (9, I (wr (left - (sln a.Name)))), (1, I (wr (left - (sln a.Name))))] 6 rfl rfl ?_
 refine LP_end _ rfl (W_seq ?_)
 refine W_seq (W_region ?_)
 refine LP_ev ok 0 [(10, I (wr (left - (sln a.Name)))), (11, .bool (decide ((wr (left - (sln a.Name))) < 0)))] 2 rfl rfl ?_
 refine LP_end _ rfl ?_
 refine W_cond (decide ((wr (left - (sln a.Name))) < 0)) rfl (fun hc => ?_) (fun hc => ?_)
 ·have H := H.1 hc
  refine W_seq (W_region ?_)
  refine LP_ev ok 0 [(4, I ((-1)))] 1 rfl rfl ?_
  refine LP_end _ rfl (W_ret ?_)
  exact ⟨_, Ret_of [I ((-1))] ⟨⟨rfl, rfl⟩, trivial⟩, _, H, rfl, (X.stepx x).ext⟩
 have H := H.2 hc
 refine W_skip ?_
 refine W_seq (W_region ?_)
 refine LP_ev ok 0 [(12, I (wr (left - (sln a.Name)))), (4, I (wr (left - (sln a.Name))))] 2 rfl rfl ?_
 refine LP_end _ rfl (W_ret ?_)
 exact ⟨_, Ret_of [I (wr (left - (sln a.Name)))] ⟨⟨rfl, rfl⟩, trivial⟩, _, H, rfl, (X.stepx x).ext⟩

theorem laws_szVariableS_w (a : List Variable) (left : Int) (Q : Int → Prop) (H : laws_szVariableS a left Q) (w : World) {vx : Value} {hx : PH} (r : RS hx vx a) (ex : Sub hx w) :
  CallsTo Tryz.prog 6 #[vx, I left] w fun v w' => ∃ r0, Q r0 ∧ v = I r0 ∧ Ext w w' := by
 obtain ⟨a1, c, rfl⟩ := r.shape
 refine enter (args := [sl a1 a c, I left]) 27 Tryz.func6 rfl rfl rfl ?_
 refine W_forget [(0, sl a1 a c), (1, I left)] ⟨rfl, rfl, trivial⟩ fun ρ => ?_
 have X := But.refl emp w
 refine W_seq (W_region ?_)
 refine LP_ev ok 0 [(4, I 0)] 1 rfl rfl ?_
 refine LP_end _ rfl (W_seq (W_region ?_))
 refine LP_ev ok 0 [(6, I left), (7, sl a1 a c), (8, I (ln a)), (9, I (wr (left - (ln a)))), (1, I (wr (left - (ln a))))] 5 rfl rfl ?_
 refine LP_end _ rfl (W_seq ?_)
 refine W_seq (W_region ?_)
 refine LP_ev ok 0 [(10, I (wr (left - (ln a)))), (11, .bool (decide ((wr (left - (ln a))) < 0)))] 2 rfl rfl ?_
 refine LP_end _ rfl ?_
 refine W_cond (decide ((wr (left - (ln a))) < 0)) rfl (fun hc => ?_) (fun hc => ?_)
 ·have H := H.1 hc
  refine W_seq (W_region ?_)
  refine LP_ev ok 0 [(4, I ((-1)))] 1 rfl rfl ?_
  refine LP_end _ rfl (W_ret ?_)
  exact ⟨_, Ret_of [I ((-1))] ⟨⟨rfl, rfl⟩, trivial⟩, _, H, rfl, X.ext⟩
 have H := H.2 hc
 refine W_skip ?_
 refine W_seq ?_
 refine W_seq (W_region ?_)
 refine LP_ev ok 0 [(5, I 0)] 1 rfl rfl ?_
 refine LP_end _ rfl ?_
 refine W_block ?_
 obtain ⟨J, m, Hx, H⟩ := H
 refine W_loop (S := Int × Int) (fun s ρ' w' => J s.1 s.2 ∧ ∃ (ρ : Env), ρ' = setAll [(0, sl a1 a c), (1, I s.1), (5, I s.2)] ρ ∧ But emp w w' ∧ Sub hx w') (fun s => m s.1 s.2) (wr (left - (ln a)), 0) ⟨Hx, _, env_eq ⟨rfl, rfl, rfl, trivial⟩, X, ex⟩ ?_
 rintro ⟨left2, i⟩ _ wx ⟨Hi, ρ, rfl, X4, ex3⟩
 have H := H left2 i Hi
 refine W_seq ?_
 refine W_seq (W_region ?_)
 refine LP_ev ok 0 [(12, I i), (13, sl a1 a c), (14, I (ln a)), (15, .bool (decide (i < (ln a))))] 4 rfl rfl ?_
 refine LP_end _ rfl ?_
 refine W_cond (decide (i < (ln a))) rfl (fun hc5 => ?_) (fun hc5 => ?_)
 ·have H := H.1 hc5
  refine W_skip ?_
  refine W_seq ?_
  refine W_block ?_
  refine W_seq (W_region ?_)
  refine LP_ev ok 0 [(18, sl a1 a c), (19, I i)] 2 rfl rfl ?_
  obtain ⟨x, hi, hx6, H⟩ := H
  refine LP_index 2 rfl rfl rfl Tryz.underlying25 ti_73 rfl rfl r hi hx6 fun a7 cs r8 d => ?_
  refine LP_load 3 rfl rfl rfl ti_73 ag_73 rfl r8 d ex3 fun vx9 r10 => ?_
  obtain rfl := Variable_rv r10
  refine LP_ev ok 4 [(22, I left2)] 5 rfl rfl ?_
  refine LP_call 5 rfl rfl rfl cal_44 rfl (laws_szVariable_w _ _ _ H wx ) ?_
  rintro _ wx12 ⟨r11, H, rfl, x13⟩
  refine LP_ev ok 6 [(1, I r11)] 7 rfl rfl ?_
  refine LP_end _ rfl (W_seq (W_region ?_))
  refine LP_ev ok 0 [(24, I r11), (25, .bool (decide (r11 < 0)))] 2 rfl rfl ?_
  refine LP_end _ rfl ?_
  refine W_cond (decide (r11 < 0)) rfl (fun hc14 => ?_) (fun hc14 => ?_)
  ·have H := H.1 hc14
   refine W_seq (W_region ?_)
   refine LP_ev ok 0 [(4, I ((-1)))] 1 rfl rfl ?_
   refine LP_end _ rfl (W_ret ?_)
   exact ⟨_, Ret_of [I ((-1))] ⟨⟨rfl, rfl⟩, trivial⟩, _, H, rfl, (X4.stepx x13).ext⟩
  have H := H.2 hc14
  refine W_skip ?_
  refine W_region ?_
  refine LP_ev ok 0 [(16, I i), (17, I (wr (i + 1))), (5, I (wr (i + 1)))] 3 rfl rfl ?_
  exact LP_end _ rfl ⟨(r11, wr (i + 1)), ⟨H.1, _, env_eq ⟨rfl, rfl, rfl, trivial⟩, (X4.stepx x13), (ex3.ext x13)⟩, H.2⟩
 have H := H.2 hc5
 refine W_exit ?_
 refine (if_pos rfl).mpr ?_
 refine W_seq (W_region ?_)
 refine LP_ev ok 0 [(26, I left2), (4, I left2)] 2 rfl rfl ?_
 refine LP_end _ rfl (W_ret ?_)
 exact ⟨_, Ret_of [I left2] ⟨⟨rfl, rfl⟩, trivial⟩, _, H, rfl, X4.ext⟩

theorem laws_szTable_w (a : Table) (left : Int) (Q : Int → Prop) (H : laws_szTable a left Q) (w : World) {vx : Value} {hx : PH} (r : RS hx vx a.Vars) (ex : Sub hx w) {vx2 : Value} {hx3 : PH} (r4 : RS hx3 vx2 a.Where) (ex5 : Sub hx3 w) :
  CallsTo Tryz.prog 7 #[.agg #[I a.Level, vx, vx2, I a.Sum], I left] w fun v w' => ∃ r0, Q r0 ∧ v = I r0 ∧ Ext w w' := by
 obtain ⟨a1, c, rfl⟩ := r.shape
 obtain ⟨a6, c7, rfl⟩ := r4.shape
 refine enter (args := [.agg #[I a.Level, sl a1 a.Vars c, sl a6 a.Where c7, I a.Sum], I left]) 18 Tryz.func7 rfl rfl rfl ?_
 refine W_forget [(0, .agg #[I a.Level, sl a1 a.Vars c, sl a6 a.Where c7, I a.Sum]), (1, I left)] ⟨rfl, rfl, trivial⟩ fun ρ => ?_
 have X := But.refl emp w
 refine W_seq (W_region ?_)
 refine LP_box 0 (cs := [I a.Level, sl a1 a.Vars c, sl a6 a.Where c7, I a.Sum]) rfl rfl rfl rfl rfl fun b wx x ex8 f => ?_
 refine LP_ev ok 1 [(4, I 0)] 2 rfl rfl ?_
 refine LP_end _ rfl (W_seq (W_region ?_))
 refine LP_ev ok 0 [(5, .pointer (some ⟨b, 1, none⟩))] 1 rfl rfl ?_
 refine LP_ldbox 1 (v := sl a1 a.Vars c) rfl rfl rfl ti_22 ag_22 (fun _ => rfl) rfl ex8 rfl rfl ?_
 refine LP_ev ok 2 [(7, I left)] 3 rfl rfl ?_
 refine LP_call 3 rfl rfl rfl cal_43 rfl (laws_szIntS_w _ _ _ H wx r (ex.ext x)) ?_
 rintro _ wx11 ⟨r9, H, rfl, x12⟩
 refine LP_ev ok 4 [(1, I r9)] 5 rfl rfl ?_
 refine LP_end _ rfl (W_seq ?_)
 refine W_seq (W_region ?_)
 refine LP_ev ok 0 [(9, I r9), (10, .bool (decide (r9 < 0)))] 2 rfl rfl ?_
 refine LP_end _ rfl ?_
 refine W_cond (decide (r9 < 0)) rfl (fun hc => ?_) (fun hc => ?_)
 ·have H := H.1 hc
  refine W_seq (W_region ?_)
  refine LP_ev ok 0 [(4, I ((-1)))] 1 rfl rfl ?_
  refine LP_end _ rfl (W_ret ?_)
  exact ⟨_, Ret_of [I ((-1))] ⟨⟨rfl, rfl⟩, trivial⟩, _, H, rfl, (X.stepx (x.trans x12)).ext⟩
 have H := H.2 hc
 refine W_skip ?_
 refine W_seq (W_region ?_)
 refine LP_ev ok 0 [(11, .pointer (some ⟨b, 2, none⟩))] 1 rfl rfl ?_
 refine LP_ldbox 1 (v := sl a6 a.Where c7) rfl rfl rfl ti_22 ag_22 (fun _ => rfl) rfl (ex8.ext x12) rfl rfl ?_
 refine LP_ev ok 2 [(13, I r9)] 3 rfl rfl ?_
 have xc16 := (x.trans x12)
 refine LP_call 3 rfl rfl rfl cal_43 rfl (laws_szIntS_w _ _ _ H wx11 r4 (ex5.ext xc16)) ?_
 rintro _ wx18 ⟨r15, H, rfl, x19⟩
 refine LP_ev ok 4 [(1, I r15)] 5 rfl rfl ?_
 refine LP_end _ rfl (W_seq ?_)
 refine W_seq (W_region ?_)
 refine LP_ev ok 0 [(15, I r15), (16, .bool (decide (r15 < 0)))] 2 rfl rfl ?_
 refine LP_end _ rfl ?_
 refine W_cond (decide (r15 < 0)) rfl (fun hc20 => ?_) (fun hc20 => ?_)
 ·have H := H.1 hc20
  refine W_seq (W_region ?_)
  refine LP_ev ok 0 [(4, I ((-1)))] 1 rfl rfl ?_
  refine LP_end _ rfl (W_ret ?_)
  exact ⟨_, Ret_of [I ((-1))] ⟨⟨rfl, rfl⟩, trivial⟩, _, H, rfl, (X.stepx (xc16.trans x19)).ext⟩
 have H := H.2 hc20
 refine W_skip ?_
 refine W_seq (W_region ?_)
 refine LP_ev ok 0 [(17, I r15), (4, I r15)] 2 rfl rfl ?_
 refine LP_end _ rfl (W_ret ?_)
 exact ⟨_, Ret_of [I r15] ⟨⟨rfl, rfl⟩, trivial⟩, _, H, rfl, (X.stepx (xc16.trans x19)).ext⟩

theorem laws_szRecord_w (a : Record) (left : Int) (Q : Int → Prop) (H : laws_szRecord a left Q) (w : World) {vx : Value} {hx : PH} (r : RS hx vx a.Values) (ex : Sub hx w) :
  CallsTo Tryz.prog 81 #[.agg #[I a.Area, I a.House, vx], I left] w fun v w' => ∃ r0, Q r0 ∧ v = I r0 ∧ Ext w w' := by
 obtain ⟨a1, c, rfl⟩ := r.shape
 refine enter (args := [.agg #[I a.Area, I a.House, sl a1 a.Values c], I left]) 12 Tryz.func81 rfl rfl rfl ?_
 refine W_forget [(0, .agg #[I a.Area, I a.House, sl a1 a.Values c]), (1, I left)] ⟨rfl, rfl, trivial⟩ fun ρ => ?_
 have X := But.refl emp w
 refine W_seq (W_region ?_)
 refine LP_box 0 (cs := [I a.Area, I a.House, sl a1 a.Values c]) rfl rfl rfl rfl rfl fun b wx x ex2 f => ?_
 refine LP_ev ok 1 [(4, I 0)] 2 rfl rfl ?_
 refine LP_end _ rfl (W_seq (W_region ?_))
 refine LP_ev ok 0 [(5, .pointer (some ⟨b, 2, none⟩))] 1 rfl rfl ?_
 refine LP_ldbox 1 (v := sl a1 a.Values c) rfl rfl rfl ti_22 ag_22 (fun _ => rfl) rfl ex2 rfl rfl ?_
 refine LP_ev ok 2 [(7, I left)] 3 rfl rfl ?_
 refine LP_call 3 rfl rfl rfl cal_43 rfl (laws_szIntS_w _ _ _ H wx r (ex.ext x)) ?_
 rintro _ wx5 ⟨r3, H, rfl, x6⟩
 refine LP_ev ok 4 [(1, I r3)] 5 rfl rfl ?_
 refine LP_end _ rfl (W_seq ?_)
 refine W_seq (W_region ?_)
 refine LP_ev ok 0 [(9, I r3), (10, .bool (decide (r3 < 0)))] 2 rfl rfl ?_
 refine LP_end _ rfl ?_
 refine W_cond (decide (r3 < 0)) rfl (fun hc => ?_) (fun hc => ?_)
 ·have H := H.1 hc
  refine W_seq (W_region ?_)
  refine LP_ev ok 0 [(4, I ((-1)))] 1 rfl rfl ?_
  refine LP_end _ rfl (W_ret ?_)
  exact ⟨_, Ret_of [I ((-1))] ⟨⟨rfl, rfl⟩, trivial⟩, _, H, rfl, (X.stepx (x.trans x6)).ext⟩
 have H := H.2 hc
 refine W_skip ?_
 refine W_seq (W_region ?_)
 refine LP_ev ok 0 [(11, I r3), (4, I r3)] 2 rfl rfl ?_
 refine LP_end _ rfl (W_ret ?_)
 exact ⟨_, Ret_of [I r3] ⟨⟨rfl, rfl⟩, trivial⟩, _, H, rfl, (X.stepx (x.trans x6)).ext⟩

theorem laws_szRecordS_w (a : List Record) (left : Int) (Q : Int → Prop) (H : laws_szRecordS a left Q) (w : World) {vx : Value} {hx : PH} (r : RS hx vx a) (ex : Sub hx w) :
  CallsTo Tryz.prog 45 #[vx, I left] w fun v w' => ∃ r0, Q r0 ∧ v = I r0 ∧ Ext w w' := by
 obtain ⟨a1, c, rfl⟩ := r.shape
 refine enter (args := [sl a1 a c, I left]) 27 Tryz.func45 rfl rfl rfl ?_
 refine W_forget [(0, sl a1 a c), (1, I left)] ⟨rfl, rfl, trivial⟩ fun ρ => ?_
 have X := But.refl emp w
 refine W_seq (W_region ?_)
 refine LP_ev ok 0 [(4, I 0)] 1 rfl rfl ?_
 refine LP_end _ rfl (W_seq (W_region ?_))
 refine LP_ev ok 0 [(6, I left), (7, sl a1 a c), (8, I (ln a)), (9, I (wr (left - (ln a)))), (1, I (wr (left - (ln a))))] 5 rfl rfl ?_
 refine LP_end _ rfl (W_seq ?_)
 refine W_seq (W_region ?_)
 refine LP_ev ok 0 [(10, I (wr (left - (ln a)))), (11, .bool (decide ((wr (left - (ln a))) < 0)))] 2 rfl rfl ?_
 refine LP_end _ rfl ?_
 refine W_cond (decide ((wr (left - (ln a))) < 0)) rfl (fun hc => ?_) (fun hc => ?_)
 ·have H := H.1 hc
  refine W_seq (W_region ?_)
  refine LP_ev ok 0 [(4, I ((-1)))] 1 rfl rfl ?_
  refine LP_end _ rfl (W_ret ?_)
  exact ⟨_, Ret_of [I ((-1))] ⟨⟨rfl, rfl⟩, trivial⟩, _, H, rfl, X.ext⟩
 have H := H.2 hc
 refine W_skip ?_
 refine W_seq ?_
 refine W_seq (W_region ?_)
 refine LP_ev ok 0 [(5, I 0)] 1 rfl rfl ?_
 refine LP_end _ rfl ?_
 refine W_block ?_
 obtain ⟨J, m, Hx, H⟩ := H
 refine W_loop (S := Int × Int) (fun s ρ' w' => J s.1 s.2 ∧ ∃ (ρ : Env), ρ' = setAll [(0, sl a1 a c), (1, I s.1), (5, I s.2)] ρ ∧ But emp w w' ∧ Sub hx w') (fun s => m s.1 s.2) (wr (left - (ln a)), 0) ⟨Hx, _, env_eq ⟨rfl, rfl, rfl, trivial⟩, X, ex⟩ ?_
 rintro ⟨left2, i⟩ _ wx ⟨Hi, ρ, rfl, X4, ex3⟩
 have H := H left2 i Hi
 refine W_seq ?_
 refine W_seq (W_region ?_)
 refine LP_ev ok 0 [(12, I i), (13, sl a1 a c), (14, I (ln a)), (15, .bool (decide (i < (ln a))))] 4 rfl rfl ?_
 refine LP_end _ rfl ?_
 refine W_cond (decide (i < (ln a))) rfl (fun hc5 => ?_) (fun hc5 => ?_)
 ·have H := H.1 hc5
  refine W_skip ?_
  refine W_seq ?_
  refine W_block ?_
  refine W_seq (W_region ?_)
  refine LP_ev ok 0 [(18, sl a1 a c), (19, I i)] 2 rfl rfl ?_
  obtain ⟨x, hi, hx6, H⟩ := H
  refine LP_index 2 rfl rfl rfl Tryz.underlying75 ti_113 rfl rfl r hi hx6 fun a7 cs r8 d => ?_
  have d9 := d
  obtain ⟨u, rfl, r10⟩ := Record_rd d9
  obtain ⟨a11, c12, rfl⟩ := r10.shape
  refine LP_load 3 rfl rfl rfl ti_113 ag_113 rfl r8 d ex3 fun vx13 r14 => ?_
  obtain ⟨u15, rfl, r16⟩ := Record_rv r14
  obtain ⟨a17, c18, rfl⟩ := r16.shape
  refine LP_ev ok 4 [(22, I left2)] 5 rfl rfl ?_
  refine LP_call 5 rfl rfl rfl cal_81 rfl (laws_szRecord_w _ _ _ H wx r16 ex3) ?_
  rintro _ wx20 ⟨r19, H, rfl, x21⟩
  refine LP_ev ok 6 [(1, I r19)] 7 rfl rfl ?_
  refine LP_end _ rfl (W_seq (W_region ?_))
  refine LP_ev ok 0 [(24, I r19), (25, .bool (decide (r19 < 0)))] 2 rfl rfl ?_
  refine LP_end _ rfl ?_
  refine W_cond (decide (r19 < 0)) rfl (fun hc22 => ?_) (fun hc22 => ?_)
  ·have H := H.1 hc22
   refine W_seq (W_region ?_)
   refine LP_ev ok 0 [(4, I ((-1)))] 1 rfl rfl ?_
   refine LP_end _ rfl (W_ret ?_)
   exact ⟨_, Ret_of [I ((-1))] ⟨⟨rfl, rfl⟩, trivial⟩, _, H, rfl, (X4.stepx x21).ext⟩
  have H := H.2 hc22
  refine W_skip ?_
  refine W_region ?_
  refine LP_ev ok 0 [(16, I i), (17, I (wr (i + 1))), (5, I (wr (i + 1)))] 3 rfl rfl ?_
  exact LP_end _ rfl ⟨(r19, wr (i + 1)), ⟨H.1, _, env_eq ⟨rfl, rfl, rfl, trivial⟩, (X4.stepx x21), (ex3.ext x21)⟩, H.2⟩
 have H := H.2 hc5
 refine W_exit ?_
 refine (if_pos rfl).mpr ?_
 refine W_seq (W_region ?_)
 refine LP_ev ok 0 [(26, I left2), (4, I left2)] 2 rfl rfl ?_
 refine LP_end _ rfl (W_ret ?_)
 exact ⟨_, Ret_of [I left2] ⟨⟨rfl, rfl⟩, trivial⟩, _, H, rfl, X4.ext⟩

theorem laws_szRecordSS_w (a : List (List Record)) (left : Int) (Q : Int → Prop) (H : laws_szRecordSS a left Q) (w : World) {vx : Value} {hx : PH} (r : RS hx vx a) (ex : Sub hx w) :
  CallsTo Tryz.prog 8 #[vx, I left] w fun v w' => ∃ r0, Q r0 ∧ v = I r0 ∧ Ext w w' := by
 obtain ⟨a1, c, rfl⟩ := r.shape
 refine enter (args := [sl a1 a c, I left]) 27 Tryz.func8 rfl rfl rfl ?_
 refine W_forget [(0, sl a1 a c), (1, I left)] ⟨rfl, rfl, trivial⟩ fun ρ => ?_
 have X := But.refl emp w
 refine W_seq (W_region ?_)
 refine LP_ev ok 0 [(4, I 0)] 1 rfl rfl ?_
 refine LP_end _ rfl (W_seq (W_region ?_))
 refine LP_ev ok 0 [(6, I left), (7, sl a1 a c), (8, I (ln a)), (9, I (wr (left - (ln a)))), (1, I (wr (left - (ln a))))] 5 rfl rfl ?_
 refine LP_end _ rfl (W_seq ?_)
 refine W_seq (W_region ?_)
 refine LP_ev ok 0 [(10, I (wr (left - (ln a)))), (11, .bool (decide ((wr (left - (ln a))) < 0)))] 2 rfl rfl ?_
 refine LP_end _ rfl ?_
 refine W_cond (decide ((wr (left - (ln a))) < 0)) rfl (fun hc => ?_) (fun hc => ?_)
 ·have H := H.1 hc
  refine W_seq (W_region ?_)
  refine LP_ev ok 0 [(4, I ((-1)))] 1 rfl rfl ?_
  refine LP_end _ rfl (W_ret ?_)
  exact ⟨_, Ret_of [I ((-1))] ⟨⟨rfl, rfl⟩, trivial⟩, _, H, rfl, X.ext⟩
 have H := H.2 hc
 refine W_skip ?_
 refine W_seq ?_
 refine W_seq (W_region ?_)
 refine LP_ev ok 0 [(5, I 0)] 1 rfl rfl ?_
 refine LP_end _ rfl ?_
 refine W_block ?_
 obtain ⟨J, m, Hx, H⟩ := H
 refine W_loop (S := Int × Int) (fun s ρ' w' => J s.1 s.2 ∧ ∃ (ρ : Env), ρ' = setAll [(0, sl a1 a c), (1, I s.1), (5, I s.2)] ρ ∧ But emp w w' ∧ Sub hx w') (fun s => m s.1 s.2) (wr (left - (ln a)), 0) ⟨Hx, _, env_eq ⟨rfl, rfl, rfl, trivial⟩, X, ex⟩ ?_
 rintro ⟨left2, i⟩ _ wx ⟨Hi, ρ, rfl, X4, ex3⟩
 have H := H left2 i Hi
 refine W_seq ?_
 refine W_seq (W_region ?_)
 refine LP_ev ok 0 [(12, I i), (13, sl a1 a c), (14, I (ln a)), (15, .bool (decide (i < (ln a))))] 4 rfl rfl ?_
 refine LP_end _ rfl ?_
 refine W_cond (decide (i < (ln a))) rfl (fun hc5 => ?_) (fun hc5 => ?_)
 ·have H := H.1 hc5
  refine W_skip ?_
  refine W_seq ?_
  refine W_block ?_
  refine W_seq (W_region ?_)
  refine LP_ev ok 0 [(18, sl a1 a c), (19, I i)] 2 rfl rfl ?_
  obtain ⟨x, hi, hx6, H⟩ := H
  refine LP_index 2 rfl rfl rfl Tryz.underlying28 ti_75 rfl rfl r hi hx6 fun a7 cs r8 d => ?_
  refine LP_load 3 rfl rfl rfl ti_75 ag_75 rfl r8 d ex3 fun vx9 r10 => ?_
  have r13 := r10.slice
  obtain ⟨a11, c12, rfl⟩ := r13.shape
  refine LP_ev ok 4 [(22, I left2)] 5 rfl rfl ?_
  refine LP_call 5 rfl rfl rfl cal_45 rfl (laws_szRecordS_w _ _ _ H wx r13 ex3) ?_
  rintro _ wx15 ⟨r14, H, rfl, x16⟩
  refine LP_ev ok 6 [(1, I r14)] 7 rfl rfl ?_
  refine LP_end _ rfl (W_seq (W_region ?_))
  refine LP_ev ok 0 [(24, I r14), (25, .bool (decide (r14 < 0)))] 2 rfl rfl ?_
  refine LP_end _ rfl ?_
  refine W_cond (decide (r14 < 0)) rfl (fun hc17 => ?_) (fun hc17 => ?_)
  ·have H := H.1 hc17
   refine W_seq (W_region ?_)
   refine LP_ev ok 0 [(4, I ((-1)))] 1 rfl rfl ?_
   refine LP_end _ rfl (W_ret ?_)
   exact ⟨_, Ret_of [I ((-1))] ⟨⟨rfl, rfl⟩, trivial⟩, _, H, rfl, (X4.stepx x16).ext⟩
  have H := H.2 hc17
  refine W_skip ?_
  refine W_region ?_
  refine LP_ev ok 0 [(16, I i), (17, I (wr (i + 1))), (5, I (wr (i + 1)))] 3 rfl rfl ?_
  exact LP_end _ rfl ⟨(r14, wr (i + 1)), ⟨H.1, _, env_eq ⟨rfl, rfl, rfl, trivial⟩, (X4.stepx x16), (ex3.ext x16)⟩, H.2⟩
 have H := H.2 hc5
 refine W_exit ?_
 refine (if_pos rfl).mpr ?_
 refine W_seq (W_region ?_)
 refine LP_ev ok 0 [(26, I left2), (4, I left2)] 2 rfl rfl ?_
 refine LP_end _ rfl (W_ret ?_)
 exact ⟨_, Ret_of [I left2] ⟨⟨rfl, rfl⟩, trivial⟩, _, H, rfl, X4.ext⟩

theorem laws_szIntSS_w (a : List (List Int)) (left : Int) (Q : Int → Prop) (H : laws_szIntSS a left Q) (w : World) {vx : Value} {hx : PH} (r : RS hx vx a) (ex : Sub hx w) :
  CallsTo Tryz.prog 9 #[vx, I left] w fun v w' => ∃ r0, Q r0 ∧ v = I r0 ∧ Ext w w' := by
 obtain ⟨a1, c, rfl⟩ := r.shape
 refine enter (args := [sl a1 a c, I left]) 27 Tryz.func9 rfl rfl rfl ?_
 refine W_forget [(0, sl a1 a c), (1, I left)] ⟨rfl, rfl, trivial⟩ fun ρ => ?_
 have X := But.refl emp w
 refine W_seq (W_region ?_)
 refine LP_ev ok 0 [(4, I 0)] 1 rfl rfl ?_
 refine LP_end _ rfl (W_seq (W_region ?_))
 refine LP_ev ok 0 [(6, I left), (7, sl a1 a c), (8, I (ln a)), (9, I (wr (left - (ln a)))), (1, I (wr (left - (ln a))))] 5 rfl rfl ?_
 refine LP_end _ rfl (W_seq ?_)
 refine W_seq (W_region ?_)
 refine LP_ev ok 0 [(10, I (wr (left - (ln a)))), (11, .bool (decide ((wr (left - (ln a))) < 0)))] 2 rfl rfl ?_
 refine LP_end _ rfl ?_
 refine W_cond (decide ((wr (left - (ln a))) < 0)) rfl (fun hc => ?_) (fun hc => ?_)
 ·have H := H.1 hc
  refine W_seq (W_region ?_)
  refine LP_ev ok 0 [(4, I ((-1)))] 1 rfl rfl ?_
  refine LP_end _ rfl (W_ret ?_)
  exact ⟨_, Ret_of [I ((-1))] ⟨⟨rfl, rfl⟩, trivial⟩, _, H, rfl, X.ext⟩
 have H := H.2 hc
 refine W_skip ?_
 refine W_seq ?_
 refine W_seq (W_region ?_)
 refine LP_ev ok 0 [(5, I 0)] 1 rfl rfl ?_
 refine LP_end _ rfl ?_
 refine W_block ?_
 obtain ⟨J, m, Hx, H⟩ := H
 refine W_loop (S := Int × Int) (fun s ρ' w' => J s.1 s.2 ∧ ∃ (ρ : Env), ρ' = setAll [(0, sl a1 a c), (1, I s.1), (5, I s.2)] ρ ∧ But emp w w' ∧ Sub hx w') (fun s => m s.1 s.2) (wr (left - (ln a)), 0) ⟨Hx, _, env_eq ⟨rfl, rfl, rfl, trivial⟩, X, ex⟩ ?_
 rintro ⟨left2, i⟩ _ wx ⟨Hi, ρ, rfl, X4, ex3⟩
 have H := H left2 i Hi
 refine W_seq ?_
 refine W_seq (W_region ?_)
 refine LP_ev ok 0 [(12, I i), (13, sl a1 a c), (14, I (ln a)), (15, .bool (decide (i < (ln a))))] 4 rfl rfl ?_
 refine LP_end _ rfl ?_
 refine W_cond (decide (i < (ln a))) rfl (fun hc5 => ?_) (fun hc5 => ?_)
 ·have H := H.1 hc5
  refine W_skip ?_
  refine W_seq ?_
  refine W_block ?_
  refine W_seq (W_region ?_)
  refine LP_ev ok 0 [(18, sl a1 a c), (19, I i)] 2 rfl rfl ?_
  obtain ⟨x, hi, hx6, H⟩ := H
  refine LP_index 2 rfl rfl rfl Tryz.underlying29 ti_22 rfl rfl r hi hx6 fun a7 cs r8 d => ?_
  refine LP_load 3 rfl rfl rfl ti_22 ag_22 rfl r8 d ex3 fun vx9 r10 => ?_
  have r13 := r10.slice
  obtain ⟨a11, c12, rfl⟩ := r13.shape
  refine LP_ev ok 4 [(22, I left2)] 5 rfl rfl ?_
  refine LP_call 5 rfl rfl rfl cal_43 rfl (laws_szIntS_w _ _ _ H wx r13 ex3) ?_
  rintro _ wx15 ⟨r14, H, rfl, x16⟩
  refine LP_ev ok 6 [(1, I r14)] 7 rfl rfl ?_
  refine LP_end _ rfl (W_seq (W_region ?_))
  refine LP_ev ok 0 [(24, I r14), (25, .bool (decide (r14 < 0)))] 2 rfl rfl ?_
  refine LP_end _ rfl ?_
  refine W_cond (decide (r14 < 0)) rfl (fun hc17 => ?_) (fun hc17 => ?_)
  ·have H := H.1 hc17
   refine W_seq (W_region ?_)
   refine LP_ev ok 0 [(4, I ((-1)))] 1 rfl rfl ?_
   refine LP_end _ rfl (W_ret ?_)
   exact ⟨_, Ret_of [I ((-1))] ⟨⟨rfl, rfl⟩, trivial⟩, _, H, rfl, (X4.stepx x16).ext⟩
  have H := H.2 hc17
  refine W_skip ?_
  refine W_region ?_
  refine LP_ev ok 0 [(16, I i), (17, I (wr (i + 1))), (5, I (wr (i + 1)))] 3 rfl rfl ?_
  exact LP_end _ rfl ⟨(r14, wr (i + 1)), ⟨H.1, _, env_eq ⟨rfl, rfl, rfl, trivial⟩, (X4.stepx x16), (ex3.ext x16)⟩, H.2⟩
 have H := H.2 hc5
 refine W_exit ?_
 refine (if_pos rfl).mpr ?_
 refine W_seq (W_region ?_)
 refine LP_ev ok 0 [(26, I left2), (4, I left2)] 2 rfl rfl ?_
 refine LP_end _ rfl (W_ret ?_)
 exact ⟨_, Ret_of [I left2] ⟨⟨rfl, rfl⟩, trivial⟩, _, H, rfl, X4.ext⟩

theorem laws_toIntS_w (a : List Int) (Q : (List Int) → Prop) (H : laws_toIntS a Q) (w : World) {vx : Value} {hx : PH} (r : RS hx vx a) (ex : Sub hx w) :
  CallsTo Tryz.prog 51 #[vx] w fun v w' => ∃ r0 u0 g0, Q r0 ∧ v = u0 ∧ Ext w w' ∧ OS 3 g0 emp u0 r0 ∧ Sub g0 w' ∧ Fresh w.heap.size g0 := by
 obtain ⟨a1, c, rfl⟩ := r.shape
 refine enter (args := [sl a1 a c]) 22 Tryz.func51 rfl rfl rfl ?_
 refine W_forget [(0, sl a1 a c)] ⟨rfl, trivial⟩ fun ρ => ?_
 have X := But.refl emp w
 refine W_seq (W_region ?_)
 refine LP_ev ok 0 [(2, .slice none 0 0)] 1 rfl rfl ?_
 refine LP_end _ rfl (W_seq (W_region ?_))
 refine LP_ev ok 0 [(5, sl a1 a c), (6, I (ln a))] 2 rfl rfl ?_
 obtain ⟨hn, hb, H⟩ := H
 refine LP_make (α := Int) 2 rfl rfl rfl Tryz.underlying22 ti_3 (x0 := (0 : Int)) rfl rfl hn (by first | omega | (simp only [ln] at *; omega)) (by first | omega | (simp only [ln] at *; omega)) fun hx2 vx3 wx x o ex4 f => ?_
 obtain ⟨a5, c6, rfl⟩ := o.shape
 refine LP_ev ok 3 [(3, .slice a5 (List.length (List.replicate (Int.toNat (ln a)) ((0 : Int)))) c6)] 4 rfl rfl ?_
 refine LP_end _ rfl (W_seq ?_)
 refine W_seq (W_region ?_)
 refine LP_ev ok 0 [(4, I 0)] 1 rfl rfl ?_
 refine LP_end _ rfl ?_
 refine W_block ?_
 have f16 := f.mono X.size
 obtain ⟨J, m, Hx, H⟩ := H
 refine W_loop (S := (List Int) × Int) (fun s ρ' w' => J s.1 s.2 ∧ ∃ (ρ : Env) (hx8 : PH), ρ' = setAll [(0, sl a1 a c), (3, .slice a5 (List.length (List.replicate (Int.toNat (ln a)) ((0 : Int)))) c6), (4, I s.2)] ρ ∧ But emp w w' ∧ OS 3 hx8 emp (.slice a5 (List.length (List.replicate (Int.toNat (ln a)) ((0 : Int)))) c6) s.1 ∧ Sub hx8 w' ∧ Fresh w.heap.size hx8 ∧ Sub hx w' ∧ Dj hx8 hx) (fun s => m s.1 s.2) (List.replicate (Int.toNat (ln a)) ((0 : Int)), 0) ⟨Hx, _, hx2, env_eq ⟨rfl, rfl, rfl, trivial⟩, (X.stepx x), o, ex4, f16, (ex.ext x), (Dj.of_fresh ex f).symm⟩ ?_
 rintro ⟨out, i⟩ _ wx12 ⟨Hi, ρ, hx8, rfl, HF⟩
 revert HF
 refine bb6 fun X14 o9 ex10 f11 ex13 d => ?_
 have H := H out i Hi
 refine W_seq ?_
 refine W_seq (W_region ?_)
 refine LP_ev ok 0 [(8, I i), (9, sl a1 a c), (10, I (ln a)), (11, .bool (decide (i < (ln a))))] 4 rfl rfl ?_
 refine LP_end _ rfl ?_
 refine W_cond (decide (i < (ln a))) rfl (fun hc => ?_) (fun hc => ?_)
 ·have H := H.1 hc
  refine W_skip ?_
  refine W_seq ?_
  refine W_block ?_
  refine W_region ?_
  refine LP_ev ok 0 [(14, .slice a5 (List.length (List.replicate (Int.toNat (ln a)) ((0 : Int)))) c6), (15, I i), (16, sl a1 a c), (17, I i)] 4 rfl rfl ?_
  obtain ⟨x18, hi, hx19, H⟩ := H
  refine LP_index 4 rfl rfl rfl Tryz.underlying22 ti_3 rfl rfl r hi hx19 fun a20 cs r21 d22 => ?_
  refine LP_load 5 rfl rfl rfl ti_3 ag_3 rfl r21 d22 ex13 fun vx23 r24 => ?_
  obtain rfl := r24.int
  obtain ⟨hi25, hl, H⟩ := H
  refine LP_indexw (v := .slice a5 (List.length (List.replicate (Int.toNat (ln a)) ((0 : Int)))) c6) 6 rfl rfl rfl Tryz.underlying22 ti_3 rfl rfl o9 hi25 hl fun a26 wa => ?_
  refine LP_set 7 rfl rfl rfl rfl rfl wa (Le.refl emp) ⟨_, rfl, rfl⟩ ex10 fun hx27 wx28 o29 ex30 y dm => ?_
  refine LP_end _ rfl ?_
  refine W_region ?_
  refine LP_ev ok 0 [(12, I i), (13, I (wr (i + 1))), (4, I (wr (i + 1)))] 3 rfl rfl ?_
  refine LP_end _ rfl ?_
  have f32 := (dm _).fresh f11 X14.size
  exact ⟨(List.set out (Int.toNat i) x18, wr (i + 1)), ⟨H.1, _, hx27, env_eq ⟨rfl, rfl, rfl, trivial⟩, (X14.step y (f11.dom _)), o29, ex30, f32, (ex13.but y d), (DomLe.dj (dm _) d ex13)⟩, H.2⟩
 have H := H.2 hc
 refine W_exit ?_
 refine (if_pos rfl).mpr ?_
 refine W_seq (W_region ?_)
 refine LP_ev ok 0 [(21, .slice a5 (List.length (List.replicate (Int.toNat (ln a)) ((0 : Int)))) c6), (2, .slice a5 (List.length (List.replicate (Int.toNat (ln a)) ((0 : Int)))) c6)] 2 rfl rfl ?_
 refine LP_end _ rfl (W_ret ?_)
 exact ⟨_, Ret_of [.slice a5 (List.length (List.replicate (Int.toNat (ln a)) ((0 : Int)))) c6] ⟨⟨rfl, rfl⟩, trivial⟩, _, _, _, H, rfl, X14.ext, o9, ex10, f11⟩

theorem laws_toGeo_w (a : Geo) (Q : Geo → Prop) (H : laws_toGeo a Q) (w : World) {vx : Value} {hx : PH} (r : RS hx vx a.Parents) (ex : Sub hx w) :
  CallsTo Tryz.prog 11 #[.agg #[vx]] w fun v w' => ∃ r0 u0_0 g0_0, Q r0 ∧ v = .agg #[u0_0] ∧ Ext w w' ∧ OS 3 g0_0 emp u0_0 r0.Parents ∧ Sub g0_0 w' ∧ Fresh w.heap.size g0_0 := by
 obtain ⟨a1, c, rfl⟩ := r.shape
 refine enter (args := [.agg #[sl a1 a.Parents c]]) 9 Tryz.func11 rfl rfl rfl ?_
 refine W_forget [(0, .agg #[sl a1 a.Parents c])] ⟨rfl, trivial⟩ fun ρ => ?_
 have X := But.refl emp w
 refine W_seq (W_region ?_)
 refine LP_box 0 (cs := [sl a1 a.Parents c]) rfl rfl rfl rfl rfl fun b wx x ex2 f => ?_
 refine LP_alloc 1 rfl rfl rfl ti_37 rfl fun b3 wx4 x5 ex6 f7 => ?_
 refine LP_end _ rfl (W_seq (W_region ?_))
 refine LP_alloc 0 rfl rfl rfl ti_37 rfl fun b8 wx9 x10 ex11 f12 => ?_
 refine LP_end _ rfl (W_seq (W_region ?_))
 refine LP_ev ok 0 [(4, pb b)] 1 rfl rfl ?_
 refine LP_ldbox 1 (v := sl a1 a.Parents c) rfl rfl rfl ti_22 ag_22 (fun _ => rfl) rfl (ex2.ext (x5.trans x10)) rfl rfl ?_
 have xc15 := ((x.trans x5).trans x10)
 refine LP_call 2 rfl rfl rfl cal_51 rfl (laws_toIntS_w _ _ H wx9 r (ex.ext xc15)) ?_
 rintro _ wx17 ⟨r14, vx19, hx20, H, rfl, x18, o, ex21, f22⟩
 obtain ⟨a23, c24, rfl⟩ := o.shape
 refine LP_ev ok 3 [(7, pb b8)] 4 rfl rfl ?_
 refine LP_stbox 4 (vs := [sl a23 r14 c24]) (cs' := [sl a23 r14 c24]) rfl rfl rfl ti_22 rfl rfl rfl rfl rfl (ex11.ext x18) rfl rfl fun wx25 ex26 y => ?_
 refine LP_end _ rfl (W_seq (W_region ?_))
 refine LP_ldbox 0 (v := .agg #[sl a23 r14 c24]) rfl rfl rfl ti_37 ag_37 (fun h => by cases h) rfl ex26 rfl rfl ?_
 refine LP_stbox 1 (vs := [sl a23 r14 c24]) (cs' := [sl a23 r14 c24]) rfl rfl rfl ti_37 rfl rfl rfl rfl rfl ((ex6.ext (x10.trans x18)).but y (Dj.of_fresh ex6 f12).symm) rfl rfl fun wx28 ex29 y30 => ?_
 refine LP_end _ rfl (W_ret ?_)
 have X36 := (X.stepx xc15)
 have f35 := f22.mono X36.size
 have f37 := f12.mono (X.stepx (x.trans x5)).size
 have f40 := f7.mono (X.stepx x).size
 exact ⟨_, Ret_of [.agg #[sl a23 r14 c24]] ⟨⟨_, rfl, rfl, ld_res ti_37 ag_37 (fun h => by cases h) ex29 rfl rfl⟩, trivial⟩, _, _, _, H, rfl, (((X36.stepx x18).step y (f37.dom _)).step y30 (f40.dom _)).ext, o, ((ex21.but y (Dj.of_fresh ex11 f22)).but y30 (Dj.of_fresh (ex6.ext x10) f22)), f35⟩

theorem laws_toVariable_w (a : Variable) (Q : Variable → Prop) (H : laws_toVariable a Q) (w : World)  :
  CallsTo Tryz.prog 52 #[.agg #[.string a.Name, I a.Levels]] w fun v w' => ∃ r0, Q r0 ∧ v = .agg #[.string r0.Name, I r0.Levels] ∧ Ext w w' := by
 refine enter (args := [.agg #[.string a.Name, I a.Levels]]) 11 Tryz.func52 rfl rfl rfl ?_
 refine W_forget [(0, .agg #[.string a.Name, I a.Levels])] ⟨rfl, trivial⟩ fun ρ => ?_
 have X := But.refl emp w
 refine W_seq (W_region ?_)
 refine LP_box 0 (cs := [.string a.Name, I a.Levels]) rfl rfl rfl rfl rfl fun b wx x ex f => ?_
 refine LP_alloc 1 rfl rfl rfl ti_82 rfl fun b1 wx2 x3 ex4 f5 => ?_
 refine LP_end _ rfl (W_seq (W_region ?_))
 refine LP_alloc 0 rfl rfl rfl ti_82 rfl fun b6 wx7 x8 ex9 f10 => ?_
 refine LP_end _ rfl (W_seq (W_region ?_))
 refine LP_ev ok 0 [(4, pb b)] 1 rfl rfl ?_
 have ex11 := (ex.ext (x3.trans x8))
 refine LP_ldbox 1 (v := .string a.Name) rfl rfl rfl ti_9 ag_9 (fun _ => rfl) rfl ex11 rfl rfl ?_
 refine LP_ev ok 2 [(6, pb b6)] 3 rfl rfl ?_
 refine LP_stbox 3 (vs := [.string a.Name]) (cs' := [.string a.Name, I 0]) rfl rfl rfl ti_9 rfl rfl rfl rfl rfl ex9 rfl rfl fun wx12 ex13 y => ?_
 refine LP_end _ rfl (W_seq (W_region ?_))
 refine LP_ev ok 0 [(7, .pointer (some ⟨b, 1, none⟩))] 1 rfl rfl ?_
 refine LP_ldbox 1 (v := I a.Levels) rfl rfl rfl ti_3 ag_3 (fun _ => rfl) rfl (ex11.but y (Dj.of_fresh (ex.ext x3) f10).symm) rfl rfl ?_
 refine LP_ev ok 2 [(9, .pointer (some ⟨b6, 1, none⟩))] 3 rfl rfl ?_
 refine LP_stbox 3 (vs := [I a.Levels]) (cs' := [.string a.Name, I a.Levels]) rfl rfl rfl ti_3 rfl rfl rfl rfl rfl ex13 rfl rfl fun wx16 ex17 y18 => ?_
 refine LP_end _ rfl (W_seq (W_region ?_))
 refine LP_ldbox 0 (v := .agg #[.string a.Name, I a.Levels]) rfl rfl rfl ti_82 ag_82 (fun h => by cases h) rfl ex17 rfl rfl ?_
 refine LP_stbox 1 (vs := [.string a.Name, I a.Levels]) (cs' := [.string a.Name, I a.Levels]) rfl rfl rfl ti_82 rfl rfl rfl rfl rfl (((ex4.ext x8).but y (Dj.of_fresh ex4 f10).symm).but y18 (Dj.box (Dj.of_fresh ex4 f10).symm)) rfl rfl fun wx19 ex20 y21 => ?_
 refine LP_end _ rfl (W_ret ?_)
 have f24 := f10.mono (X.stepx (x.trans x3)).size
 have f27 := f5.mono (X.stepx x).size
 exact ⟨_, Ret_of [.agg #[.string a.Name, I a.Levels]] ⟨⟨_, rfl, rfl, ld_res ti_82 ag_82 (fun h => by cases h) ex20 rfl rfl⟩, trivial⟩, _, H, rfl, ((((X.stepx ((x.trans x3).trans x8)).step y (f24.dom _)).step y18 ((Fresh.box f24).dom _)).step y21 (f27.dom _)).ext⟩

theorem laws_toVariableS_w (a : List Variable) (Q : (List Variable) → Prop) (H : laws_toVariableS a Q) (w : World) {vx : Value} {hx : PH} (r : RS hx vx a) (ex : Sub hx w) :
  CallsTo Tryz.prog 12 #[vx] w fun v w' => ∃ r0 u0 g0, Q r0 ∧ v = u0 ∧ Ext w w' ∧ OS 82 g0 emp u0 r0 ∧ Sub g0 w' ∧ Fresh w.heap.size g0 := by
 obtain ⟨a1, c, rfl⟩ := r.shape
 refine enter (args := [sl a1 a c]) 23 Tryz.func12 rfl rfl rfl ?_
 refine W_forget [(0, sl a1 a c)] ⟨rfl, trivial⟩ fun ρ => ?_
 have X := But.refl emp w
 refine W_seq (W_region ?_)
 refine LP_ev ok 0 [(2, .slice none 0 0)] 1 rfl rfl ?_
 refine LP_end _ rfl (W_seq (W_region ?_))
 refine LP_ev ok 0 [(5, sl a1 a c), (6, I (ln a))] 2 rfl rfl ?_
 obtain ⟨hn, hb, H⟩ := H
 refine LP_make (α := Variable) 2 rfl rfl rfl Tryz.underlying39 ti_82 (x0 := (Variable.mk ((ByteArray.mk #[])) ((0 : Int)))) rfl rfl hn (by first | omega | (simp only [ln] at *; omega)) (by first | omega | (simp only [ln] at *; omega)) fun hx2 vx3 wx x o ex4 f => ?_
 obtain ⟨a5, c6, rfl⟩ := o.shape
 refine LP_ev ok 3 [(3, .slice a5 (List.length (List.replicate (Int.toNat (ln a)) ((Variable.mk ((ByteArray.mk #[])) ((0 : Int)))))) c6)] 4 rfl rfl ?_
 refine LP_end _ rfl (W_seq ?_)
 refine W_seq (W_region ?_)
 refine LP_ev ok 0 [(4, I 0)] 1 rfl rfl ?_
 refine LP_end _ rfl ?_
 refine W_block ?_
 have f16 := f.mono X.size
 obtain ⟨J, m, Hx, H⟩ := H
 refine W_loop (S := (List Variable) × Int) (fun s ρ' w' => J s.1 s.2 ∧ ∃ (ρ : Env) (hx8 : PH), ρ' = setAll [(0, sl a1 a c), (3, .slice a5 (List.length (List.replicate (Int.toNat (ln a)) ((Variable.mk ((ByteArray.mk #[])) ((0 : Int)))))) c6), (4, I s.2)] ρ ∧ But emp w w' ∧ OS 82 hx8 emp (.slice a5 (List.length (List.replicate (Int.toNat (ln a)) ((Variable.mk ((ByteArray.mk #[])) ((0 : Int)))))) c6) s.1 ∧ Sub hx8 w' ∧ Fresh w.heap.size hx8 ∧ Sub hx w' ∧ Dj hx8 hx) (fun s => m s.1 s.2) (List.replicate (Int.toNat (ln a)) ((Variable.mk ((ByteArray.mk #[])) ((0 : Int)))), 0) ⟨Hx, _, hx2, env_eq ⟨rfl, rfl, rfl, trivial⟩, (X.stepx x), o, ex4, f16, (ex.ext x), (Dj.of_fresh ex f).symm⟩ ?_
 rintro ⟨out, i⟩ _ wx12 ⟨Hi, ρ, hx8, rfl, HF⟩
 revert HF
 refine bb6 fun X14 o9 ex10 f11 ex13 d => ?_
 have H := H out i Hi
 refine W_seq ?_
 refine W_seq (W_region ?_)
 refine LP_ev ok 0 [(8, I i), (9, sl a1 a c), (10, I (ln a)), (11, .bool (decide (i < (ln a))))] 4 rfl rfl ?_
 refine LP_end _ rfl ?_
 refine W_cond (decide (i < (ln a))) rfl (fun hc => ?_) (fun hc => ?_)
 ·have H := H.1 hc
  refine W_skip ?_
  refine W_seq ?_
  refine W_block ?_
  refine W_region ?_
  refine LP_ev ok 0 [(14, .slice a5 (List.length (List.replicate (Int.toNat (ln a)) ((Variable.mk ((ByteArray.mk #[])) ((0 : Int)))))) c6), (15, I i), (16, sl a1 a c), (17, I i)] 4 rfl rfl ?_
  obtain ⟨x18, hi, hx19, H⟩ := H
  refine LP_index 4 rfl rfl rfl Tryz.underlying25 ti_73 rfl rfl r hi hx19 fun a20 cs r21 d22 => ?_
  refine LP_load 5 rfl rfl rfl ti_73 ag_73 rfl r21 d22 ex13 fun vx23 r24 => ?_
  obtain rfl := Variable_rv r24
  refine LP_call 6 rfl rfl rfl cal_52 rfl (laws_toVariable_w _ _ H wx12 ) ?_
  rintro _ wx26 ⟨r25, H, rfl, x27⟩
  obtain ⟨hi28, hl, H⟩ := H
  refine LP_indexw (v := .slice a5 (List.length (List.replicate (Int.toNat (ln a)) ((Variable.mk ((ByteArray.mk #[])) ((0 : Int)))))) c6) 7 rfl rfl rfl Tryz.underlying39 ti_82 rfl rfl o9 hi28 hl fun a29 wa => ?_
  refine LP_set 8 rfl rfl rfl rfl rfl wa (Le.refl emp) ⟨_, rfl, rfl⟩ (ex10.ext x27) fun hx30 wx31 o32 ex33 y dm => ?_
  refine LP_end _ rfl ?_
  refine W_region ?_
  refine LP_ev ok 0 [(12, I i), (13, I (wr (i + 1))), (4, I (wr (i + 1)))] 3 rfl rfl ?_
  refine LP_end _ rfl ?_
  have f36 := (dm _).fresh f11 (X14.stepx x27).size
  exact ⟨(List.set out (Int.toNat i) r25, wr (i + 1)), ⟨H.1, _, hx30, env_eq ⟨rfl, rfl, rfl, trivial⟩, ((X14.stepx x27).step y (f11.dom _)), o32, ex33, f36, ((ex13.ext x27).but y d), (DomLe.dj (dm _) d (ex13.ext x27))⟩, H.2⟩
 have H := H.2 hc
 refine W_exit ?_
 refine (if_pos rfl).mpr ?_
 refine W_seq (W_region ?_)
 refine LP_ev ok 0 [(22, .slice a5 (List.length (List.replicate (Int.toNat (ln a)) ((Variable.mk ((ByteArray.mk #[])) ((0 : Int)))))) c6), (2, .slice a5 (List.length (List.replicate (Int.toNat (ln a)) ((Variable.mk ((ByteArray.mk #[])) ((0 : Int)))))) c6)] 2 rfl rfl ?_
 refine LP_end _ rfl (W_ret ?_)
 exact ⟨_, Ret_of [.slice a5 (List.length (List.replicate (Int.toNat (ln a)) ((Variable.mk ((ByteArray.mk #[])) ((0 : Int)))))) c6] ⟨⟨rfl, rfl⟩, trivial⟩, _, _, _, H, rfl, X14.ext, o9, ex10, f11⟩

theorem laws_toTable_w (a : Table) (Q : Table → Prop) (H : laws_toTable a Q) (w : World) {vx : Value} {hx : PH} (r : RS hx vx a.Vars) (ex : Sub hx w) {vx2 : Value} {hx3 : PH} (r4 : RS hx3 vx2 a.Where) (ex5 : Sub hx3 w) :
  CallsTo Tryz.prog 13 #[.agg #[I a.Level, vx, vx2, I a.Sum]] w fun v w' => ∃ r0 u0_1 g0_1 u0_2 g0_2, Q r0 ∧ v = .agg #[I r0.Level, u0_1, u0_2, I r0.Sum] ∧ Ext w w' ∧ OS 3 g0_1 emp u0_1 r0.Vars ∧ Sub g0_1 w' ∧ Fresh w.heap.size g0_1 ∧ OS 3 g0_2 emp u0_2 r0.Where ∧ Sub g0_2 w' ∧ Fresh w.heap.size g0_2 ∧ Dj g0_1 g0_2 := by
 obtain ⟨a1, c, rfl⟩ := r.shape
 obtain ⟨a6, c7, rfl⟩ := r4.shape
 refine enter (args := [.agg #[I a.Level, sl a1 a.Vars c, sl a6 a.Where c7, I a.Sum]]) 19 Tryz.func13 rfl rfl rfl ?_
 refine W_forget [(0, .agg #[I a.Level, sl a1 a.Vars c, sl a6 a.Where c7, I a.Sum])] ⟨rfl, trivial⟩ fun ρ => ?_
 have X := But.refl emp w
 refine W_seq (W_region ?_)
 refine LP_box 0 (cs := [I a.Level, sl a1 a.Vars c, sl a6 a.Where c7, I a.Sum]) rfl rfl rfl rfl rfl fun b wx x ex8 f => ?_
 refine LP_alloc 1 rfl rfl rfl ti_41 rfl fun b9 wx10 x11 ex12 f13 => ?_
 refine LP_end _ rfl (W_seq (W_region ?_))
 refine LP_alloc 0 rfl rfl rfl ti_41 rfl fun b14 wx15 x16 ex17 f18 => ?_
 refine LP_end _ rfl (W_seq (W_region ?_))
 refine LP_ev ok 0 [(4, pb b)] 1 rfl rfl ?_
 have ex19 := (ex8.ext (x11.trans x16))
 refine LP_ldbox 1 (v := I a.Level) rfl rfl rfl ti_3 ag_3 (fun _ => rfl) rfl ex19 rfl rfl ?_
 refine LP_ev ok 2 [(6, pb b14)] 3 rfl rfl ?_
 refine LP_stbox 3 (vs := [I a.Level]) (cs' := [I a.Level, .slice none 0 0, .slice none 0 0, I 0]) rfl rfl rfl ti_3 rfl rfl rfl rfl rfl ex17 rfl rfl fun wx20 ex21 y => ?_
 refine LP_end _ rfl (W_seq (W_region ?_))
 refine LP_ev ok 0 [(7, .pointer (some ⟨b, 1, none⟩))] 1 rfl rfl ?_
 have ex22 := (ex8.ext x11)
 have ex23 := (ex19.but y (Dj.of_fresh ex22 f18).symm)
 refine LP_ldbox 1 (v := sl a1 a.Vars c) rfl rfl rfl ti_22 ag_22 (fun _ => rfl) rfl ex23 rfl rfl ?_
 have xc25 := ((x.trans x11).trans x16)
 have xc26 := (x.trans x11)
 refine LP_call 2 rfl rfl rfl cal_51 rfl (laws_toIntS_w _ _ H wx20 r ((ex.ext xc25).but y (Dj.of_fresh (ex.ext xc26) f18).symm)) ?_
 rintro _ wx29 ⟨r24, vx31, hx32, H, rfl, x30, o, ex33, f34⟩
 obtain ⟨a35, c36, rfl⟩ := o.shape
 refine LP_ev ok 3 [(10, .pointer (some ⟨b14, 1, none⟩))] 4 rfl rfl ?_
 refine LP_stbox 4 (vs := [sl a35 r24 c36]) (cs' := [I a.Level, sl a35 r24 c36, .slice none 0 0, I 0]) rfl rfl rfl ti_22 rfl rfl rfl rfl rfl (ex21.ext x30) rfl rfl fun wx37 ex38 y39 => ?_
 refine LP_end _ rfl (W_seq (W_region ?_))
 refine LP_ev ok 0 [(11, .pointer (some ⟨b, 2, none⟩))] 1 rfl rfl ?_
 have ex41 := ((ex23.ext x30).but y39 (Dj.box (Dj.of_fresh ex22 f18).symm))
 refine LP_ldbox 1 (v := sl a6 a.Where c7) rfl rfl rfl ti_22 ag_22 (fun _ => rfl) rfl ex41 rfl rfl ?_
 have ex43 := (ex5.ext xc26)
 refine LP_call 2 rfl rfl rfl cal_51 rfl (laws_toIntS_w _ _ H wx37 r4 ((((ex5.ext xc25).but y (Dj.of_fresh ex43 f18).symm).ext x30).but y39 (Dj.box (Dj.of_fresh ex43 f18).symm))) ?_
 rintro _ wx45 ⟨r42, vx47, hx48, H, rfl, x46, o49, ex50, f51⟩
 obtain ⟨a52, c53, rfl⟩ := o49.shape
 refine LP_ev ok 3 [(14, .pointer (some ⟨b14, 2, none⟩))] 4 rfl rfl ?_
 refine LP_stbox 4 (vs := [sl a52 r42 c53]) (cs' := [I a.Level, sl a35 r24 c36, sl a52 r42 c53, I 0]) rfl rfl rfl ti_22 rfl rfl rfl rfl rfl (ex38.ext x46) rfl rfl fun wx54 ex55 y56 => ?_
 refine LP_end _ rfl (W_seq (W_region ?_))
 refine LP_ev ok 0 [(15, .pointer (some ⟨b, 3, none⟩))] 1 rfl rfl ?_
 refine LP_ldbox 1 (v := I a.Sum) rfl rfl rfl ti_3 ag_3 (fun _ => rfl) rfl ((ex41.ext x46).but y56 (Dj.box (Dj.of_fresh ex22 f18).symm)) rfl rfl ?_
 refine LP_ev ok 2 [(17, .pointer (some ⟨b14, 3, none⟩))] 3 rfl rfl ?_
 refine LP_stbox 3 (vs := [I a.Sum]) (cs' := [I a.Level, sl a35 r24 c36, sl a52 r42 c53, I a.Sum]) rfl rfl rfl ti_3 rfl rfl rfl rfl rfl ex55 rfl rfl fun wx59 ex60 y61 => ?_
 refine LP_end _ rfl (W_seq (W_region ?_))
 refine LP_ldbox 0 (v := .agg #[I a.Level, sl a35 r24 c36, sl a52 r42 c53, I a.Sum]) rfl rfl rfl ti_41 ag_41 (fun h => by cases h) rfl ex60 rfl rfl ?_
 refine LP_stbox 1 (vs := [I a.Level, sl a35 r24 c36, sl a52 r42 c53, I a.Sum]) (cs' := [I a.Level, sl a35 r24 c36, sl a52 r42 c53, I a.Sum]) rfl rfl rfl ti_41 rfl rfl rfl rfl rfl (((((((ex12.ext x16).but y (Dj.of_fresh ex12 f18).symm).ext x30).but y39 (Dj.box (Dj.of_fresh ex12 f18).symm)).ext x46).but y56 (Dj.box (Dj.of_fresh ex12 f18).symm)).but y61 (Dj.box (Dj.of_fresh ex12 f18).symm)) rfl rfl fun wx62 ex63 y64 => ?_
 refine LP_end _ rfl (W_ret ?_)
 have ex66 := ((ex12.ext x16).but y (Dj.of_fresh ex12 f18).symm)
 have f69 := f18.mono (X.stepx xc26).size
 have X71 := ((X.stepx xc25).step y (f69.dom _))
 have f68 := f34.mono X71.size
 have X75 := ((X71.stepx x30).step y39 ((Fresh.box f69).dom _))
 have f74 := f51.mono X75.size
 have f77 := f13.mono (X.stepx x).size
 exact ⟨_, Ret_of [.agg #[I a.Level, sl a35 r24 c36, sl a52 r42 c53, I a.Sum]] ⟨⟨_, rfl, rfl, ld_res ti_41 ag_41 (fun h => by cases h) ex63 rfl rfl⟩, trivial⟩, _, _, _, _, _, H, rfl, ((((X75.stepx x46).step y56 ((Fresh.box f69).dom _)).step y61 ((Fresh.box f69).dom _)).step y64 (f77.dom _)).ext, o, (((((ex33.but y39 (Dj.of_fresh ex21 f34)).ext x46).but y56 (Dj.box (Dj.of_fresh ex21 f34))).but y61 (Dj.box (Dj.of_fresh ex21 f34))).but y64 (Dj.of_fresh ex66 f34)), f68, o49, (((ex50.but y56 (Dj.of_fresh ex38 f51)).but y61 (Dj.box (Dj.of_fresh ex38 f51))).but y64 (Dj.of_fresh ((ex66.ext x30).but y39 (Dj.box (Dj.of_fresh ex12 f18).symm)) f51)), f74, (Dj.of_fresh (ex33.but y39 (Dj.of_fresh ex21 f34)) f51)⟩

theorem laws_toRecord_w (a : Record) (Q : Record → Prop) (H : laws_toRecord a Q) (w : World) {vx : Value} {hx : PH} (r : RS hx vx a.Values) (ex : Sub hx w) :
  CallsTo Tryz.prog 86 #[.agg #[I a.Area, I a.House, vx]] w fun v w' => ∃ r0 u0_2 g0_2, Q r0 ∧ v = .agg #[I r0.Area, I r0.House, u0_2] ∧ Ext w w' ∧ OS 3 g0_2 emp u0_2 r0.Values ∧ Sub g0_2 w' ∧ Fresh w.heap.size g0_2 := by
 obtain ⟨a1, c, rfl⟩ := r.shape
 refine enter (args := [.agg #[I a.Area, I a.House, sl a1 a.Values c]]) 15 Tryz.func86 rfl rfl rfl ?_
 refine W_forget [(0, .agg #[I a.Area, I a.House, sl a1 a.Values c])] ⟨rfl, trivial⟩ fun ρ => ?_
 have X := But.refl emp w
 refine W_seq (W_region ?_)
 refine LP_box 0 (cs := [I a.Area, I a.House, sl a1 a.Values c]) rfl rfl rfl rfl rfl fun b wx x ex2 f => ?_
 refine LP_alloc 1 rfl rfl rfl ti_118 rfl fun b3 wx4 x5 ex6 f7 => ?_
 refine LP_end _ rfl (W_seq (W_region ?_))
 refine LP_alloc 0 rfl rfl rfl ti_118 rfl fun b8 wx9 x10 ex11 f12 => ?_
 refine LP_end _ rfl (W_seq (W_region ?_))
 refine LP_ev ok 0 [(4, pb b)] 1 rfl rfl ?_
 have ex13 := (ex2.ext (x5.trans x10))
 refine LP_ldbox 1 (v := I a.Area) rfl rfl rfl ti_3 ag_3 (fun _ => rfl) rfl ex13 rfl rfl ?_
 refine LP_ev ok 2 [(6, pb b8)] 3 rfl rfl ?_
 refine LP_stbox 3 (vs := [I a.Area]) (cs' := [I a.Area, I 0, .slice none 0 0]) rfl rfl rfl ti_3 rfl rfl rfl rfl rfl ex11 rfl rfl fun wx14 ex15 y => ?_
 refine LP_end _ rfl (W_seq (W_region ?_))
 refine LP_ev ok 0 [(7, .pointer (some ⟨b, 1, none⟩))] 1 rfl rfl ?_
 have ex16 := (ex2.ext x5)
 have ex17 := (ex13.but y (Dj.of_fresh ex16 f12).symm)
 refine LP_ldbox 1 (v := I a.House) rfl rfl rfl ti_3 ag_3 (fun _ => rfl) rfl ex17 rfl rfl ?_
 refine LP_ev ok 2 [(9, .pointer (some ⟨b8, 1, none⟩))] 3 rfl rfl ?_
 refine LP_stbox 3 (vs := [I a.House]) (cs' := [I a.Area, I a.House, .slice none 0 0]) rfl rfl rfl ti_3 rfl rfl rfl rfl rfl ex15 rfl rfl fun wx18 ex19 y20 => ?_
 refine LP_end _ rfl (W_seq (W_region ?_))
 refine LP_ev ok 0 [(10, .pointer (some ⟨b, 2, none⟩))] 1 rfl rfl ?_
 refine LP_ldbox 1 (v := sl a1 a.Values c) rfl rfl rfl ti_22 ag_22 (fun _ => rfl) rfl (ex17.but y20 (Dj.box (Dj.of_fresh ex16 f12).symm)) rfl rfl ?_
 have xc23 := ((x.trans x5).trans x10)
 have xc24 := (x.trans x5)
 have ex25 := (ex.ext xc24)
 refine LP_call 2 rfl rfl rfl cal_51 rfl (laws_toIntS_w _ _ H wx18 r (((ex.ext xc23).but y (Dj.of_fresh ex25 f12).symm).but y20 (Dj.box (Dj.of_fresh ex25 f12).symm))) ?_
 rintro _ wx27 ⟨r22, vx29, hx30, H, rfl, x28, o, ex31, f32⟩
 obtain ⟨a33, c34, rfl⟩ := o.shape
 refine LP_ev ok 3 [(13, .pointer (some ⟨b8, 2, none⟩))] 4 rfl rfl ?_
 refine LP_stbox 4 (vs := [sl a33 r22 c34]) (cs' := [I a.Area, I a.House, sl a33 r22 c34]) rfl rfl rfl ti_22 rfl rfl rfl rfl rfl (ex19.ext x28) rfl rfl fun wx35 ex36 y37 => ?_
 refine LP_end _ rfl (W_seq (W_region ?_))
 refine LP_ldbox 0 (v := .agg #[I a.Area, I a.House, sl a33 r22 c34]) rfl rfl rfl ti_118 ag_118 (fun h => by cases h) rfl ex36 rfl rfl ?_
 refine LP_stbox 1 (vs := [I a.Area, I a.House, sl a33 r22 c34]) (cs' := [I a.Area, I a.House, sl a33 r22 c34]) rfl rfl rfl ti_118 rfl rfl rfl rfl rfl (((((ex6.ext x10).but y (Dj.of_fresh ex6 f12).symm).but y20 (Dj.box (Dj.of_fresh ex6 f12).symm)).ext x28).but y37 (Dj.box (Dj.of_fresh ex6 f12).symm)) rfl rfl fun wx39 ex40 y41 => ?_
 refine LP_end _ rfl (W_ret ?_)
 have f46 := f12.mono (X.stepx xc24).size
 have X48 := (((X.stepx xc23).step y (f46.dom _)).step y20 ((Fresh.box f46).dom _))
 have f45 := f32.mono X48.size
 have f49 := f7.mono (X.stepx x).size
 exact ⟨_, Ret_of [.agg #[I a.Area, I a.House, sl a33 r22 c34]] ⟨⟨_, rfl, rfl, ld_res ti_118 ag_118 (fun h => by cases h) ex40 rfl rfl⟩, trivial⟩, _, _, _, H, rfl, (((X48.stepx x28).step y37 ((Fresh.box f46).dom _)).step y41 (f49.dom _)).ext, o, ((ex31.but y37 (Dj.of_fresh ex19 f32)).but y41 (Dj.of_fresh (((ex6.ext x10).but y (Dj.of_fresh ex6 f12).symm).but y20 (Dj.box (Dj.of_fresh ex6 f12).symm)) f32)), f45⟩

theorem laws_toRecordS_w (a : List Record) (Q : (List Record) → Prop) (H : laws_toRecordS a Q) (w : World) {vx : Value} {hx : PH} (r : RS hx vx a) (ex : Sub hx w) :
  CallsTo Tryz.prog 53 #[vx] w fun v w' => ∃ r0 u0 g0, Q r0 ∧ v = u0 ∧ Ext w w' ∧ OD g0 u0 r0 ∧ Sub g0 w' ∧ Fresh w.heap.size g0 := by
 obtain ⟨a1, c, rfl⟩ := r.shape
 refine enter (args := [sl a1 a c]) 23 Tryz.func53 rfl rfl rfl ?_
 refine W_forget [(0, sl a1 a c)] ⟨rfl, trivial⟩ fun ρ => ?_
 have X := But.refl emp w
 refine W_seq (W_region ?_)
 refine LP_ev ok 0 [(2, .slice none 0 0)] 1 rfl rfl ?_
 refine LP_end _ rfl (W_seq (W_region ?_))
 refine LP_ev ok 0 [(5, sl a1 a c), (6, I (ln a))] 2 rfl rfl ?_
 obtain ⟨hn, hb, H⟩ := H
 refine LP_makeD (α := Record) 2 rfl rfl rfl Tryz.underlying84 ti_118 (x0 := (Record.mk ((0 : Int)) ((0 : Int)) (([] : List Int)))) rfl ⟨_, _, emp, emp, rfl, (un_emp emp).symm, Dj.emp_l _, ⟨rfl, rfl⟩, ⟨_, _, emp, emp, rfl, (un_emp emp).symm, Dj.emp_l _, ⟨rfl, rfl⟩, ⟨_, rfl, OD.nil⟩⟩⟩ hn (by first | omega | (simp only [ln] at *; omega)) (by first | omega | (simp only [ln] at *; omega)) fun hx2 vx3 wx x o ex4 f => ?_
 obtain ⟨a5, c6, rfl⟩ := o.shape
 refine LP_ev ok 3 [(3, .slice a5 (List.length (List.replicate (Int.toNat (ln a)) ((Record.mk ((0 : Int)) ((0 : Int)) (([] : List Int)))))) c6)] 4 rfl rfl ?_
 refine LP_end _ rfl (W_seq ?_)
 refine W_seq (W_region ?_)
 refine LP_ev ok 0 [(4, I 0)] 1 rfl rfl ?_
 refine LP_end _ rfl ?_
 refine W_block ?_
 have f16 := f.mono X.size
 obtain ⟨J, m, Hx, H⟩ := H
 refine W_loop (S := (List Record) × Int) (fun s ρ' w' => J s.1 s.2 ∧ ∃ (ρ : Env) (hx8 : PH), ρ' = setAll [(0, sl a1 a c), (3, .slice a5 (List.length (List.replicate (Int.toNat (ln a)) ((Record.mk ((0 : Int)) ((0 : Int)) (([] : List Int)))))) c6), (4, I s.2)] ρ ∧ But emp w w' ∧ OD hx8 (.slice a5 (List.length (List.replicate (Int.toNat (ln a)) ((Record.mk ((0 : Int)) ((0 : Int)) (([] : List Int)))))) c6) s.1 ∧ Sub hx8 w' ∧ Fresh w.heap.size hx8 ∧ Sub hx w' ∧ Dj hx8 hx) (fun s => m s.1 s.2) (List.replicate (Int.toNat (ln a)) ((Record.mk ((0 : Int)) ((0 : Int)) (([] : List Int)))), 0) ⟨Hx, _, hx2, env_eq ⟨rfl, rfl, rfl, trivial⟩, (X.stepx x), o, ex4, f16, (ex.ext x), (Dj.of_fresh ex f).symm⟩ ?_
 rintro ⟨out, i⟩ _ wx12 ⟨Hi, ρ, hx8, rfl, HF⟩
 revert HF
 refine bb6 fun X14 o9 ex10 f11 ex13 d => ?_
 have H := H out i Hi
 refine W_seq ?_
 refine W_seq (W_region ?_)
 refine LP_ev ok 0 [(8, I i), (9, sl a1 a c), (10, I (ln a)), (11, .bool (decide (i < (ln a))))] 4 rfl rfl ?_
 refine LP_end _ rfl ?_
 refine W_cond (decide (i < (ln a))) rfl (fun hc => ?_) (fun hc => ?_)
 ·have H := H.1 hc
  refine W_skip ?_
  refine W_seq ?_
  refine W_block ?_
  refine W_region ?_
  refine LP_ev ok 0 [(14, .slice a5 (List.length (List.replicate (Int.toNat (ln a)) ((Record.mk ((0 : Int)) ((0 : Int)) (([] : List Int)))))) c6), (15, I i), (16, sl a1 a c), (17, I i)] 4 rfl rfl ?_
  obtain ⟨x18, hi, hx19, H⟩ := H
  refine LP_index 4 rfl rfl rfl Tryz.underlying75 ti_113 rfl rfl r hi hx19 fun a20 cs r21 d22 => ?_
  have d23 := d22
  obtain ⟨u, rfl, r24⟩ := Record_rd d23
  obtain ⟨a25, c26, rfl⟩ := r24.shape
  refine LP_load 5 rfl rfl rfl ti_113 ag_113 rfl r21 d22 ex13 fun vx27 r28 => ?_
  obtain ⟨u29, rfl, r30⟩ := Record_rv r28
  obtain ⟨a31, c32, rfl⟩ := r30.shape
  refine LP_call 6 rfl rfl rfl cal_86 rfl (laws_toRecord_w _ _ H wx12 r30 ex13) ?_
  rintro _ wx34 ⟨r33, vx36, hx37, H, rfl, x35, o38, ex39, f40⟩
  obtain ⟨a41, c42, rfl⟩ := o38.shape
  obtain ⟨hi43, hl, H⟩ := H
  refine LP_indexd (v := .slice a5 (List.length (List.replicate (Int.toNat (ln a)) ((Record.mk ((0 : Int)) ((0 : Int)) (([] : List Int)))))) c6) 7 rfl rfl rfl Tryz.underlying84 ti_118 rfl rfl o9 hi43 hl fun a44 wa => ?_
  have rv : RVO (un emp (un emp hx37)) (.agg #[I r33.Area, I r33.House, sl a41 r33.Values c42]) ((Record.mk r33.Area r33.House r33.Values) : Record) := ⟨_, ⟨_, _, _, _, rfl, rfl, (Dj.emp_l _), ⟨rfl, rfl⟩, ⟨_, _, _, _, rfl, rfl, (Dj.emp_l _), ⟨rfl, rfl⟩, ⟨_, rfl, (OS.od o38)⟩⟩⟩, rfl⟩
  refine LP_setD (y := ((Record.mk r33.Area r33.House r33.Values) : Record)) 8 rfl rfl rfl rfl rfl wa rv (ex10.ext x35) (Sub.un (emp_sub _) (Sub.un (emp_sub _) ex39)) (Dj.un_r (Dj.emp_r _) (Dj.un_r (Dj.emp_r _) (Dj.of_fresh ex10 f40))) fun hx45 hw wx46 o47 ex48 y dh dq ex49 => ?_
  refine LP_end _ rfl ?_
  refine W_region ?_
  refine LP_ev ok 0 [(12, I i), (13, I (wr (i + 1))), (4, I (wr (i + 1)))] 3 rfl rfl ?_
  refine LP_end _ rfl ?_
  have f52 := f40.mono X14.size
  have f53 := Fresh.domOf (Fresh.un f11 (Fresh.un (emp_fresh _) (Fresh.un (emp_fresh _) f52))) dq
  exact ⟨(List.set out (Int.toNat i) (((Record.mk r33.Area r33.House r33.Values) : Record)), wr (i + 1)), ⟨H.1, _, hx45, env_eq ⟨rfl, rfl, rfl, trivial⟩, ((X14.stepx x35).step (But.dom y dh) (f11.dom _)), o47, ex48, f53, ((ex13.ext x35).but (But.dom y dh) d), (Dom.dj dq (Dj.un_l d (Dj.un_l (Dj.emp_l _) (Dj.un_l (Dj.emp_l _) (Dj.of_fresh ex13 f40).symm))))⟩, H.2⟩
 have H := H.2 hc
 refine W_exit ?_
 refine (if_pos rfl).mpr ?_
 refine W_seq (W_region ?_)
 refine LP_ev ok 0 [(22, .slice a5 (List.length (List.replicate (Int.toNat (ln a)) ((Record.mk ((0 : Int)) ((0 : Int)) (([] : List Int)))))) c6), (2, .slice a5 (List.length (List.replicate (Int.toNat (ln a)) ((Record.mk ((0 : Int)) ((0 : Int)) (([] : List Int)))))) c6)] 2 rfl rfl ?_
 refine LP_end _ rfl (W_ret ?_)
 exact ⟨_, Ret_of [.slice a5 (List.length (List.replicate (Int.toNat (ln a)) ((Record.mk ((0 : Int)) ((0 : Int)) (([] : List Int)))))) c6] ⟨⟨rfl, rfl⟩, trivial⟩, _, _, _, H, rfl, X14.ext, o9, ex10, f11⟩

theorem laws_toRecordSS_w (a : List (List Record)) (Q : (List (List Record)) → Prop) (H : laws_toRecordSS a Q) (w : World) {vx : Value} {hx : PH} (r : RS hx vx a) (ex : Sub hx w) :
  CallsTo Tryz.prog 14 #[vx] w fun v w' => ∃ r0 u0 g0, Q r0 ∧ v = u0 ∧ Ext w w' ∧ OD g0 u0 r0 ∧ Sub g0 w' ∧ Fresh w.heap.size g0 := by
 obtain ⟨a1, c, rfl⟩ := r.shape
 refine enter (args := [sl a1 a c]) 23 Tryz.func14 rfl rfl rfl ?_
 refine W_forget [(0, sl a1 a c)] ⟨rfl, trivial⟩ fun ρ => ?_
 have X := But.refl emp w
 refine W_seq (W_region ?_)
 refine LP_ev ok 0 [(2, .slice none 0 0)] 1 rfl rfl ?_
 refine LP_end _ rfl (W_seq (W_region ?_))
 refine LP_ev ok 0 [(5, sl a1 a c), (6, I (ln a))] 2 rfl rfl ?_
 obtain ⟨hn, hb, H⟩ := H
 refine LP_maked (β := Record) 2 rfl rfl rfl Tryz.underlying43 ti_84 rfl hn (by first | omega | (simp only [ln] at *; omega)) (by first | omega | (simp only [ln] at *; omega)) fun hx2 vx3 wx x o ex4 f => ?_
 obtain ⟨a5, c6, rfl⟩ := o.shape
 refine LP_ev ok 3 [(3, .slice a5 (List.length (List.replicate (Int.toNat (ln a)) (([] : List Record)))) c6)] 4 rfl rfl ?_
 refine LP_end _ rfl (W_seq ?_)
 refine W_seq (W_region ?_)
 refine LP_ev ok 0 [(4, I 0)] 1 rfl rfl ?_
 refine LP_end _ rfl ?_
 refine W_block ?_
 have f16 := f.mono X.size
 obtain ⟨J, m, Hx, H⟩ := H
 refine W_loop (S := (List (List Record)) × Int) (fun s ρ' w' => J s.1 s.2 ∧ ∃ (ρ : Env) (hx8 : PH), ρ' = setAll [(0, sl a1 a c), (3, .slice a5 (List.length (List.replicate (Int.toNat (ln a)) (([] : List Record)))) c6), (4, I s.2)] ρ ∧ But emp w w' ∧ OD hx8 (.slice a5 (List.length (List.replicate (Int.toNat (ln a)) (([] : List Record)))) c6) s.1 ∧ Sub hx8 w' ∧ Fresh w.heap.size hx8 ∧ Sub hx w' ∧ Dj hx8 hx) (fun s => m s.1 s.2) (List.replicate (Int.toNat (ln a)) (([] : List Record)), 0) ⟨Hx, _, hx2, env_eq ⟨rfl, rfl, rfl, trivial⟩, (X.stepx x), o, ex4, f16, (ex.ext x), (Dj.of_fresh ex f).symm⟩ ?_
 rintro ⟨out, i⟩ _ wx12 ⟨Hi, ρ, hx8, rfl, HF⟩
 revert HF
 refine bb6 fun X14 o9 ex10 f11 ex13 d => ?_
 have H := H out i Hi
 refine W_seq ?_
 refine W_seq (W_region ?_)
 refine LP_ev ok 0 [(8, I i), (9, sl a1 a c), (10, I (ln a)), (11, .bool (decide (i < (ln a))))] 4 rfl rfl ?_
 refine LP_end _ rfl ?_
 refine W_cond (decide (i < (ln a))) rfl (fun hc => ?_) (fun hc => ?_)
 ·have H := H.1 hc
  refine W_skip ?_
  refine W_seq ?_
  refine W_block ?_
  refine W_region ?_
  refine LP_ev ok 0 [(14, .slice a5 (List.length (List.replicate (Int.toNat (ln a)) (([] : List Record)))) c6), (15, I i), (16, sl a1 a c), (17, I i)] 4 rfl rfl ?_
  obtain ⟨x18, hi, hx19, H⟩ := H
  refine LP_index 4 rfl rfl rfl Tryz.underlying28 ti_75 rfl rfl r hi hx19 fun a20 cs r21 d22 => ?_
  refine LP_load 5 rfl rfl rfl ti_75 ag_75 rfl r21 d22 ex13 fun vx23 r24 => ?_
  have r27 := r24.slice
  obtain ⟨a25, c26, rfl⟩ := r27.shape
  refine LP_call 6 rfl rfl rfl cal_53 rfl (laws_toRecordS_w _ _ H wx12 r27 ex13) ?_
  rintro _ wx29 ⟨r28, vx31, hx32, H, rfl, x30, o33, ex34, f35⟩
  obtain ⟨a36, c37, rfl⟩ := o33.shape
  obtain ⟨hi38, hl, H⟩ := H
  refine LP_indexd (v := .slice a5 (List.length (List.replicate (Int.toNat (ln a)) (([] : List Record)))) c6) 7 rfl rfl rfl Tryz.underlying43 ti_84 rfl rfl o9 hi38 hl fun a39 wa => ?_
  refine LP_setD (y := r28) 8 rfl rfl rfl rfl rfl wa (OD.rvo o33) (ex10.ext x30) ex34 (Dj.of_fresh ex10 f35) fun hx40 hw wx41 o42 ex43 y dh dq ex44 => ?_
  refine LP_end _ rfl ?_
  refine W_region ?_
  refine LP_ev ok 0 [(12, I i), (13, I (wr (i + 1))), (4, I (wr (i + 1)))] 3 rfl rfl ?_
  refine LP_end _ rfl ?_
  have f47 := f35.mono X14.size
  have f48 := Fresh.domOf (Fresh.un f11 f47) dq
  exact ⟨(List.set out (Int.toNat i) r28, wr (i + 1)), ⟨H.1, _, hx40, env_eq ⟨rfl, rfl, rfl, trivial⟩, ((X14.stepx x30).step (But.dom y dh) (f11.dom _)), o42, ex43, f48, ((ex13.ext x30).but (But.dom y dh) d), (Dom.dj dq (Dj.un_l d (Dj.of_fresh ex13 f35).symm))⟩, H.2⟩
 have H := H.2 hc
 refine W_exit ?_
 refine (if_pos rfl).mpr ?_
 refine W_seq (W_region ?_)
 refine LP_ev ok 0 [(22, .slice a5 (List.length (List.replicate (Int.toNat (ln a)) (([] : List Record)))) c6), (2, .slice a5 (List.length (List.replicate (Int.toNat (ln a)) (([] : List Record)))) c6)] 2 rfl rfl ?_
 refine LP_end _ rfl (W_ret ?_)
 exact ⟨_, Ret_of [.slice a5 (List.length (List.replicate (Int.toNat (ln a)) (([] : List Record)))) c6] ⟨⟨rfl, rfl⟩, trivial⟩, _, _, _, H, rfl, X14.ext, o9, ex10, f11⟩

theorem laws_toIntSS_w (a : List (List Int)) (Q : (List (List Int)) → Prop) (H : laws_toIntSS a Q) (w : World) {vx : Value} {hx : PH} (r : RS hx vx a) (ex : Sub hx w) :
  CallsTo Tryz.prog 15 #[vx] w fun v w' => ∃ r0 u0 g0, Q r0 ∧ v = u0 ∧ Ext w w' ∧ OD g0 u0 r0 ∧ Sub g0 w' ∧ Fresh w.heap.size g0 := by
 obtain ⟨a1, c, rfl⟩ := r.shape
 refine enter (args := [sl a1 a c]) 23 Tryz.func15 rfl rfl rfl ?_
 refine W_forget [(0, sl a1 a c)] ⟨rfl, trivial⟩ fun ρ => ?_
 have X := But.refl emp w
 refine W_seq (W_region ?_)
 refine LP_ev ok 0 [(2, .slice none 0 0)] 1 rfl rfl ?_
 refine LP_end _ rfl (W_seq (W_region ?_))
 refine LP_ev ok 0 [(5, sl a1 a c), (6, I (ln a))] 2 rfl rfl ?_
 obtain ⟨hn, hb, H⟩ := H
 refine LP_maked (β := Int) 2 rfl rfl rfl Tryz.underlying29 ti_22 rfl hn (by first | omega | (simp only [ln] at *; omega)) (by first | omega | (simp only [ln] at *; omega)) fun hx2 vx3 wx x o ex4 f => ?_
 obtain ⟨a5, c6, rfl⟩ := o.shape
 refine LP_ev ok 3 [(3, .slice a5 (List.length (List.replicate (Int.toNat (ln a)) (([] : List Int)))) c6)] 4 rfl rfl ?_
 refine LP_end _ rfl (W_seq ?_)
 refine W_seq (W_region ?_)
 refine LP_ev ok 0 [(4, I 0)] 1 rfl rfl ?_
 refine LP_end _ rfl ?_
 refine W_block ?_
 have f16 := f.mono X.size
 obtain ⟨J, m, Hx, H⟩ := H
 refine W_loop (S := (List (List Int)) × Int) (fun s ρ' w' => J s.1 s.2 ∧ ∃ (ρ : Env) (hx8 : PH), ρ' = setAll [(0, sl a1 a c), (3, .slice a5 (List.length (List.replicate (Int.toNat (ln a)) (([] : List Int)))) c6), (4, I s.2)] ρ ∧ But emp w w' ∧ OD hx8 (.slice a5 (List.length (List.replicate (Int.toNat (ln a)) (([] : List Int)))) c6) s.1 ∧ Sub hx8 w' ∧ Fresh w.heap.size hx8 ∧ Sub hx w' ∧ Dj hx8 hx) (fun s => m s.1 s.2) (List.replicate (Int.toNat (ln a)) (([] : List Int)), 0) ⟨Hx, _, hx2, env_eq ⟨rfl, rfl, rfl, trivial⟩, (X.stepx x), o, ex4, f16, (ex.ext x), (Dj.of_fresh ex f).symm⟩ ?_
 rintro ⟨out, i⟩ _ wx12 ⟨Hi, ρ, hx8, rfl, HF⟩
 revert HF
 refine bb6 fun X14 o9 ex10 f11 ex13 d => ?_
 have H := H out i Hi
 refine W_seq ?_
 refine W_seq (W_region ?_)
 refine LP_ev ok 0 [(8, I i), (9, sl a1 a c), (10, I (ln a)), (11, .bool (decide (i < (ln a))))] 4 rfl rfl ?_
 refine LP_end _ rfl ?_
 refine W_cond (decide (i < (ln a))) rfl (fun hc => ?_) (fun hc => ?_)
 ·have H := H.1 hc
  refine W_skip ?_
  refine W_seq ?_
  refine W_block ?_
  refine W_region ?_
  refine LP_ev ok 0 [(14, .slice a5 (List.length (List.replicate (Int.toNat (ln a)) (([] : List Int)))) c6), (15, I i), (16, sl a1 a c), (17, I i)] 4 rfl rfl ?_
  obtain ⟨x18, hi, hx19, H⟩ := H
  refine LP_index 4 rfl rfl rfl Tryz.underlying29 ti_22 rfl rfl r hi hx19 fun a20 cs r21 d22 => ?_
  refine LP_load 5 rfl rfl rfl ti_22 ag_22 rfl r21 d22 ex13 fun vx23 r24 => ?_
  have r27 := r24.slice
  obtain ⟨a25, c26, rfl⟩ := r27.shape
  refine LP_call 6 rfl rfl rfl cal_51 rfl (laws_toIntS_w _ _ H wx12 r27 ex13) ?_
  rintro _ wx29 ⟨r28, vx31, hx32, H, rfl, x30, o33, ex34, f35⟩
  obtain ⟨a36, c37, rfl⟩ := o33.shape
  obtain ⟨hi38, hl, H⟩ := H
  refine LP_indexd (v := .slice a5 (List.length (List.replicate (Int.toNat (ln a)) (([] : List Int)))) c6) 7 rfl rfl rfl Tryz.underlying29 ti_22 rfl rfl o9 hi38 hl fun a39 wa => ?_
  refine LP_setD (y := r28) 8 rfl rfl rfl rfl rfl wa (OD.rvo (OS.od o33)) (ex10.ext x30) ex34 (Dj.of_fresh ex10 f35) fun hx40 hw wx41 o42 ex43 y dh dq ex44 => ?_
  refine LP_end _ rfl ?_
  refine W_region ?_
  refine LP_ev ok 0 [(12, I i), (13, I (wr (i + 1))), (4, I (wr (i + 1)))] 3 rfl rfl ?_
  refine LP_end _ rfl ?_
  have f47 := f35.mono X14.size
  have f48 := Fresh.domOf (Fresh.un f11 f47) dq
  exact ⟨(List.set out (Int.toNat i) r28, wr (i + 1)), ⟨H.1, _, hx40, env_eq ⟨rfl, rfl, rfl, trivial⟩, ((X14.stepx x30).step (But.dom y dh) (f11.dom _)), o42, ex43, f48, ((ex13.ext x30).but (But.dom y dh) d), (Dom.dj dq (Dj.un_l d (Dj.of_fresh ex13 f35).symm))⟩, H.2⟩
 have H := H.2 hc
 refine W_exit ?_
 refine (if_pos rfl).mpr ?_
 refine W_seq (W_region ?_)
 refine LP_ev ok 0 [(22, .slice a5 (List.length (List.replicate (Int.toNat (ln a)) (([] : List Int)))) c6), (2, .slice a5 (List.length (List.replicate (Int.toNat (ln a)) (([] : List Int)))) c6)] 2 rfl rfl ?_
 refine LP_end _ rfl (W_ret ?_)
 exact ⟨_, Ret_of [.slice a5 (List.length (List.replicate (Int.toNat (ln a)) (([] : List Int)))) c6] ⟨⟨rfl, rfl⟩, trivial⟩, _, _, _, H, rfl, X14.ext, o9, ex10, f11⟩

theorem spec_l1In_w (n : Int) (lo : Int) (hi : Int) (Q : Bool → Prop) (H : spec_l1In n lo hi Q) (w : World)  :
  CallsTo Tryz.prog 75 #[I n, I lo, I hi] w fun v w' => ∃ r0, Q r0 ∧ v = .bool r0 ∧ Ext w w' := by
 refine enter (args := [I n, I lo, I hi]) 15 Tryz.func75 rfl rfl rfl ?_
 refine W_forget [(0, I n), (1, I lo), (2, I hi)] ⟨rfl, rfl, rfl, trivial⟩ fun ρ => ?_
 have X := But.refl emp w
 refine W_seq (W_region ?_)
 refine LP_ev ok 0 [(6, .bool false)] 1 rfl rfl ?_
 refine LP_end _ rfl ?_
 obtain ⟨k, hk, H⟩ := jn_elim H
 refine W_join2 (S := Bool) (fun s ρ' w' => k s ∧ ∃ (ρ : Env), ρ' = setAll [(6, .bool s)] ρ ∧ w = w') ?_ ?_
 ·refine W_region ?_
  refine LP_ev ok 0 [(7, I n), (8, I lo), (9, .bool (decide (n ≥ lo))), (10, .bool (decide (n ≥ lo)))] 4 rfl rfl ?_
  refine LP_split 10 (decide (n ≥ lo)) rfl (fun hc => ?_) (fun hc => ?_)
  ·have H := H.1 hc
   refine LP_ev ok 4 [(11, I n), (12, I hi), (13, .bool (decide (n ≤ hi))), (14, .bool (decide (n ≤ hi))), (6, .bool (decide (n ≤ hi)))] 9 rfl rfl ?_
   exact LP_end _ rfl ⟨decide (n ≤ hi), H, _, env_eq ⟨rfl, trivial⟩, rfl⟩
  have H := H.2 hc
  refine LP_ev ok 4 [(11, undef), (12, undef), (13, undef), (14, .bool false), (6, .bool false)] 9 rfl rfl ?_
  exact LP_end _ rfl ⟨false, H, _, env_eq ⟨rfl, trivial⟩, rfl⟩
 rintro x _ _ ⟨H, ρ, rfl, rfl⟩
 subst hk
 refine W_ret ?_
 exact ⟨_, Ret_of [.bool x] ⟨⟨rfl, rfl⟩, trivial⟩, _, H, rfl, X.ext⟩

theorem spec_gGood_w (g : Geo) (Q : Bool → Prop) (H : spec_gGood g Q) (w : World) {vx : Value} {hx : PH} (r : RS hx vx g.Parents) (ex : Sub hx w) :
  CallsTo Tryz.prog 95 #[.agg #[vx]] w fun v w' => ∃ r0, Q r0 ∧ v = .bool r0 ∧ Ext w w' := by
 obtain ⟨a, c, rfl⟩ := r.shape
 refine enter (args := [.agg #[sl a g.Parents c]]) 35 Tryz.func95 rfl rfl rfl ?_
 refine W_forget [(0, .agg #[sl a g.Parents c])] ⟨rfl, trivial⟩ fun ρ => ?_
 have X := But.refl emp w
 refine W_seq (W_region ?_)
 refine LP_box 0 (cs := [sl a g.Parents c]) rfl rfl rfl rfl rfl fun b wx x ex1 f => ?_
 refine LP_ev ok 1 [(2, .bool false)] 2 rfl rfl ?_
 refine LP_end _ rfl (W_seq ?_)
 obtain ⟨k, hk, H⟩ := jn_elim H
 refine W_join2 (S := Bool) (fun s ρ' w' => k s ∧ ∃ (ρ : Env), ρ' = setAll [(1, pb b), (16, .bool s)] ρ ∧ But emp w w' ∧ Sub hx w' ∧ Sub (bx b 37 [sl a g.Parents c]) w') ?_ ?_
 ·refine W_region ?_
  refine LP_ev ok 0 [(5, pb b)] 1 rfl rfl ?_
  refine LP_ldbox 1 (v := sl a g.Parents c) rfl rfl rfl ti_22 ag_22 (fun _ => rfl) rfl ex1 rfl rfl ?_
  refine LP_ev ok 2 [(7, I (ln g.Parents))] 3 rfl rfl ?_
  refine LP_call 3 rfl rfl rfl cal_75 rfl (spec_l1In_w _ _ _ _ H wx ) ?_
  rintro _ wx8 ⟨r7, H, rfl, x9⟩
  refine LP_ev ok 4 [(9, .bool (!r7)), (10, .bool (!r7))] 6 rfl rfl ?_
  refine LP_split 10 (!r7) rfl (fun hc => ?_) (fun hc => ?_)
  ·have H := H.1 hc
   refine LP_ev ok 6 [(11, undef), (12, undef), (13, undef), (14, undef), (15, undef), (16, .bool true)] 12 rfl rfl ?_
   refine LP_end _ rfl ?_
   have xc := (x.trans x9)
   exact ⟨true, H, _, env_eq ⟨rfl, rfl, trivial⟩, (X.stepx xc), (ex.ext xc), (ex1.ext x9)⟩
  have H := H.2 hc
  refine LP_ev ok 6 [(11, pb b)] 7 rfl rfl ?_
  have ex13 := (ex1.ext x9)
  refine LP_ldbox 7 (v := sl a g.Parents c) rfl rfl rfl ti_22 ag_22 (fun _ => rfl) rfl ex13 rfl rfl ?_
  obtain ⟨x14, hi, hx15, H⟩ := H
  refine LP_index 8 rfl rfl rfl Tryz.underlying22 ti_3 rfl rfl r hi hx15 fun a16 cs r17 d => ?_
  have xc18 := (x.trans x9)
  have ex19 := (ex.ext xc18)
  refine LP_load 9 rfl rfl rfl ti_3 ag_3 rfl r17 d ex19 fun vx20 r21 => ?_
  obtain rfl := r21.int
  refine LP_ev ok 10 [(15, .bool (x14 != ((-1)))), (16, .bool (x14 != ((-1))))] 12 rfl rfl ?_
  exact LP_end _ rfl ⟨x14 != ((-1)), H, _, env_eq ⟨rfl, rfl, trivial⟩, (X.stepx xc18), ex19, ex13⟩
 rintro x2 _ wx3 ⟨H, ρ, rfl, X6, ex4, ex5⟩
 subst hk
 refine W_cond (x2) rfl (fun hc23 => ?_) (fun hc23 => ?_)
 ·have H := H.1 hc23
  refine W_seq (W_region ?_)
  refine LP_ev ok 0 [(2, .bool false)] 1 rfl rfl ?_
  refine LP_end _ rfl (W_ret ?_)
  exact ⟨_, Ret_of [.bool false] ⟨⟨rfl, rfl⟩, trivial⟩, _, H, rfl, X6.ext⟩
 have H := H.2 hc23
 refine W_skip ?_
 refine W_seq ?_
 refine W_seq (W_region ?_)
 refine LP_ev ok 0 [(17, pb b)] 1 rfl rfl ?_
 refine LP_ldbox 1 (v := sl a g.Parents c) rfl rfl rfl ti_22 ag_22 (fun _ => rfl) rfl ex5 rfl rfl ?_
 refine LP_ev ok 2 [(19, I (ln g.Parents)), (20, I 0)] 4 rfl rfl ?_
 refine LP_end _ rfl ?_
 refine W_block ?_
 obtain ⟨J, m, Hx, H⟩ := H
 refine W_loop (S := Int) (fun s ρ' w' => J s ∧ ∃ (ρ : Env), ρ' = setAll [(18, sl a g.Parents c), (19, I (ln g.Parents)), (20, I s)] ρ ∧ But emp w w' ∧ Sub hx w') (fun s => m s) 0 ⟨Hx, _, env_eq ⟨rfl, rfl, rfl, trivial⟩, X6, ex4⟩ ?_
 rintro x24 _ wx25 ⟨Hi, ρ, rfl, X27, ex26⟩
 have H := H x24 Hi
 refine W_seq (W_region ?_)
 refine LP_ev ok 0 [(21, .bool (decide (x24 < (ln g.Parents))))] 1 rfl rfl ?_
 refine LP_end _ rfl (W_seq ?_)
 refine W_cond (decide (x24 < (ln g.Parents))) rfl (fun hc28 => ?_) (fun hc28 => ?_)
 ·have H := H.1 hc28
  refine W_skip ?_
  refine W_seq ?_
  refine W_block ?_
  refine W_seq (W_region ?_)
  refine LP_ev ok 0 [(22, I x24)] 1 rfl rfl ?_
  obtain ⟨x29, hi30, hx31, H⟩ := H
  refine LP_index 1 rfl rfl rfl Tryz.underlying22 ti_3 rfl rfl r hi30 hx31 fun a32 cs33 r34 d35 => ?_
  refine LP_load 2 rfl rfl rfl ti_3 ag_3 rfl r34 d35 ex26 fun vx36 r37 => ?_
  obtain rfl := r37.int
  refine LP_ev ok 3 [(3, I x24), (4, I x29)] 5 rfl rfl ?_
  refine LP_end _ rfl ?_
  obtain ⟨k42, hk43, H⟩ := jn_elim H
  refine W_join2 (S := Bool) (fun s ρ' w' => k42 s ∧ ∃ (ρ : Env), ρ' = setAll [(18, sl a g.Parents c), (19, I (ln g.Parents)), (20, I x24), (33, .bool s)] ρ ∧ But emp w w' ∧ Sub hx w') ?_ ?_
  ·refine W_region ?_
   refine LP_ev ok 0 [(25, I x24), (26, .bool (decide (x24 > 0))), (27, .bool (decide (x24 > 0)))] 3 rfl rfl ?_
   refine LP_split 27 (decide (x24 > 0)) rfl (fun hc44 => ?_) (fun hc44 => ?_)
   ·have H := H.1 hc44
    refine LP_ev ok 3 [(28, I x29), (29, I x24), (30, I (wr (x24 - 1)))] 6 rfl rfl ?_
    refine LP_call 6 rfl rfl rfl cal_75 rfl (spec_l1In_w _ _ _ _ H wx25 ) ?_
    rintro _ wx46 ⟨r45, H, rfl, x47⟩
    refine LP_ev ok 7 [(32, .bool (!r45)), (33, .bool (!r45))] 9 rfl rfl ?_
    exact LP_end _ rfl ⟨!r45, H, _, env_eq ⟨rfl, rfl, rfl, rfl, trivial⟩, (X27.stepx x47), (ex26.ext x47)⟩
   have H := H.2 hc44
   refine LP_ev ok 3 [(28, undef), (29, undef), (30, undef), (31, undef), (32, undef), (33, .bool false)] 9 rfl rfl ?_
   exact LP_end _ rfl ⟨false, H, _, env_eq ⟨rfl, rfl, rfl, rfl, trivial⟩, X27, ex26⟩
  rintro x38 _ wx39 ⟨H, ρ, rfl, X41, ex40⟩
  subst hk43
  refine W_cond (x38) rfl (fun hc50 => ?_) (fun hc50 => ?_)
  ·have H := H.1 hc50
   refine W_seq (W_region ?_)
   refine LP_ev ok 0 [(2, .bool false)] 1 rfl rfl ?_
   refine LP_end _ rfl (W_ret ?_)
   exact ⟨_, Ret_of [.bool false] ⟨⟨rfl, rfl⟩, trivial⟩, _, H, rfl, X41.ext⟩
  have H := H.2 hc50
  refine W_skip ?_
  refine W_region ?_
  refine LP_ev ok 0 [(34, I (wr (x24 + 1))), (20, I (wr (x24 + 1)))] 2 rfl rfl ?_
  exact LP_end _ rfl ⟨wr (x24 + 1), ⟨H.1, _, env_eq ⟨rfl, rfl, rfl, trivial⟩, X41, ex40⟩, H.2⟩
 have H := H.2 hc28
 refine W_exit ?_
 refine (if_pos rfl).mpr ?_
 refine W_seq (W_region ?_)
 refine LP_ev ok 0 [(2, .bool true)] 1 rfl rfl ?_
 refine LP_end _ rfl (W_ret ?_)
 exact ⟨_, Ret_of [.bool true] ⟨⟨rfl, rfl⟩, trivial⟩, _, H, rfl, X27.ext⟩

theorem spec_sName_w (sx : ByteArray) (Q : Bool → Prop) (H : spec_sName sx Q) (w : World)  :
  CallsTo Tryz.prog 160 #[.string sx] w fun v w' => ∃ r0, Q r0 ∧ v = .bool r0 ∧ Ext w w' := by
 refine enter (args := [.string sx]) 23 Tryz.func160 rfl rfl rfl ?_
 refine W_forget [(0, .string sx)] ⟨rfl, trivial⟩ fun ρ => ?_
 have X := But.refl emp w
 refine W_seq (W_region ?_)
 refine LP_ev ok 0 [(2, .bool false)] 1 rfl rfl ?_
 refine LP_end _ rfl (W_seq ?_)
 refine W_seq (W_region ?_)
 refine LP_ev ok 0 [(3, I 0)] 1 rfl rfl ?_
 refine LP_end _ rfl ?_
 refine W_block ?_
 obtain ⟨J, m, Hx, H⟩ := H
 refine W_loop (S := Int) (fun s ρ' w' => J s ∧ ∃ (ρ : Env), ρ' = setAll [(0, .string sx), (3, I s)] ρ ∧ w = w') (fun s => m s) 0 ⟨Hx, _, env_eq ⟨rfl, rfl, trivial⟩, rfl⟩ ?_
 rintro i _ _ ⟨Hi, ρ, rfl, rfl⟩
 have H := H i Hi
 refine W_seq ?_
 refine W_seq (W_region ?_)
 refine LP_ev ok 0 [(4, I i), (5, .string sx), (6, I (sln sx)), (7, .bool (decide (i < (sln sx))))] 4 rfl rfl ?_
 refine LP_end _ rfl ?_
 refine W_cond (decide (i < (sln sx))) rfl (fun hc => ?_) (fun hc => ?_)
 ·have H := H.1 hc
  refine W_skip ?_
  refine W_seq ?_
  refine W_block ?_
  obtain ⟨k, hk, H⟩ := jn_elim H
  refine W_join2 (S := Bool) (fun s ρ' w' => k s ∧ ∃ (ρ : Env), ρ' = setAll [(0, .string sx), (3, I i), (19, .bool s)] ρ ∧ w = w') ?_ ?_
  ·refine W_region ?_
   refine LP_ev ok 0 [(10, .string sx), (11, I i)] 2 rfl rfl ?_
   obtain ⟨c, hi, hx, H⟩ := H
   refine LP_val 2 _ rfl rfl (ex_sidx rfl rfl rfl Tryz.underlying9 hi hx _) ?_
   refine LP_ev ok 3 [(13, .bool (decide ((((UInt8.toNat c : Nat) : Int)) < 97))), (14, .bool (decide ((((UInt8.toNat c : Nat) : Int)) < 97)))] 5 rfl rfl ?_
   refine LP_split 14 (decide ((((UInt8.toNat c : Nat) : Int)) < 97)) rfl (fun hc2 => ?_) (fun hc2 => ?_)
   ·have H := H.1 hc2
    refine LP_ev ok 5 [(15, undef), (16, undef), (17, undef), (18, undef), (19, .bool true)] 10 rfl rfl ?_
    exact LP_end _ rfl ⟨true, H, _, env_eq ⟨rfl, rfl, rfl, trivial⟩, rfl⟩
   have H := H.2 hc2
   refine LP_ev ok 5 [(15, .string sx), (16, I i)] 7 rfl rfl ?_
   obtain ⟨c3, hi4, hx5, H⟩ := H
   refine LP_val 7 _ rfl rfl (ex_sidx rfl rfl rfl Tryz.underlying9 hi4 hx5 _) ?_
   refine LP_ev ok 8 [(18, .bool (decide ((((UInt8.toNat c3 : Nat) : Int)) > 122))), (19, .bool (decide ((((UInt8.toNat c3 : Nat) : Int)) > 122)))] 10 rfl rfl ?_
   exact LP_end _ rfl ⟨decide ((((UInt8.toNat c3 : Nat) : Int)) > 122), H, _, env_eq ⟨rfl, rfl, rfl, trivial⟩, rfl⟩
  rintro x _ _ ⟨H, ρ, rfl, rfl⟩
  subst hk
  refine W_cond (x) rfl (fun hc6 => ?_) (fun hc6 => ?_)
  ·have H := H.1 hc6
   refine W_seq (W_region ?_)
   refine LP_ev ok 0 [(2, .bool false)] 1 rfl rfl ?_
   refine LP_end _ rfl (W_ret ?_)
   exact ⟨_, Ret_of [.bool false] ⟨⟨rfl, rfl⟩, trivial⟩, _, H, rfl, X.ext⟩
  have H := H.2 hc6
  refine W_skip ?_
  refine W_region ?_
  refine LP_ev ok 0 [(8, I i), (9, I (wr (i + 1))), (3, I (wr (i + 1)))] 3 rfl rfl ?_
  exact LP_end _ rfl ⟨wr (i + 1), ⟨H.1, _, env_eq ⟨rfl, rfl, trivial⟩, rfl⟩, H.2⟩
 have H := H.2 hc
 refine W_exit ?_
 refine (if_pos rfl).mpr ?_
 refine W_seq (W_region ?_)
 refine LP_ev ok 0 [(20, .string sx), (21, I (sln sx))] 2 rfl rfl ?_
 refine LP_call 2 rfl rfl rfl cal_75 rfl (spec_l1In_w _ _ _ _ H w ) ?_
 rintro _ wx7 ⟨r, H, rfl, x8⟩
 refine LP_ev ok 3 [(2, .bool r)] 4 rfl rfl ?_
 refine LP_end _ rfl (W_ret ?_)
 exact ⟨_, Ret_of [.bool r] ⟨⟨rfl, rfl⟩, trivial⟩, _, H, rfl, (X.stepx x8).ext⟩

theorem spec_sFind_w (sx : List Variable) (name : ByteArray) (Q : Int → Prop) (H : spec_sFind sx name Q) (w : World) {vx : Value} {hx : PH} (r : RS hx vx sx) (ex : Sub hx w) :
  CallsTo Tryz.prog 161 #[vx, .string name] w fun v w' => ∃ r0, Q r0 ∧ v = I r0 ∧ Ext w w' := by
 obtain ⟨a, c, rfl⟩ := r.shape
 refine enter (args := [sl a sx c, .string name]) 20 Tryz.func161 rfl rfl rfl ?_
 refine W_forget [(0, sl a sx c), (1, .string name)] ⟨rfl, rfl, trivial⟩ fun ρ => ?_
 have X := But.refl emp w
 refine W_seq (W_region ?_)
 refine LP_ev ok 0 [(4, I 0)] 1 rfl rfl ?_
 refine LP_end _ rfl (W_seq ?_)
 refine W_seq (W_region ?_)
 refine LP_ev ok 0 [(7, sl a sx c), (8, I (ln sx)), (9, I 0)] 3 rfl rfl ?_
 refine LP_end _ rfl ?_
 refine W_block ?_
 obtain ⟨J, m, Hx, H⟩ := H
 refine W_loop (S := Int) (fun s ρ' w' => J s ∧ ∃ (ρ : Env), ρ' = setAll [(1, .string name), (7, sl a sx c), (8, I (ln sx)), (9, I s)] ρ ∧ But emp w w' ∧ Sub hx w') (fun s => m s) 0 ⟨Hx, _, env_eq ⟨rfl, rfl, rfl, rfl, trivial⟩, X, ex⟩ ?_
 rintro x _ wx ⟨Hi, ρ, rfl, X2, ex1⟩
 have H := H x Hi
 refine W_seq (W_region ?_)
 refine LP_ev ok 0 [(10, .bool (decide (x < (ln sx))))] 1 rfl rfl ?_
 refine LP_end _ rfl (W_seq ?_)
 refine W_cond (decide (x < (ln sx))) rfl (fun hc => ?_) (fun hc => ?_)
 ·have H := H.1 hc
  refine W_skip ?_
  refine W_seq ?_
  refine W_block ?_
  refine W_seq (W_region ?_)
  refine LP_ev ok 0 [(11, I x)] 1 rfl rfl ?_
  obtain ⟨x3, hi, hx4, H⟩ := H
  refine LP_index 1 rfl rfl rfl Tryz.underlying39 ti_82 rfl rfl r hi hx4 fun a5 cs r6 d => ?_
  refine LP_load 2 rfl rfl rfl ti_82 ag_82 rfl r6 d ex1 fun vx7 r8 => ?_
  obtain rfl := Variable_rv r8
  refine LP_alloc 3 rfl rfl rfl ti_82 rfl fun b wx9 x10 ex11 f => ?_
  refine LP_ev ok 4 [(5, I x)] 5 rfl rfl ?_
  refine LP_stbox 5 (vs := [.string x3.Name, I x3.Levels]) (cs' := [.string x3.Name, I x3.Levels]) rfl rfl rfl ti_82 rfl rfl rfl rfl rfl ex11 rfl rfl fun wx12 ex13 y => ?_
  refine LP_end _ rfl (W_seq (W_region ?_))
  refine LP_ev ok 0 [(14, pb b)] 1 rfl rfl ?_
  refine LP_ldbox 1 (v := .string x3.Name) rfl rfl rfl ti_9 ag_9 (fun _ => rfl) rfl ex13 rfl rfl ?_
  refine LP_ev ok 2 [(16, .string name), (17, .bool (streq x3.Name name))] 4 rfl rfl ?_
  refine LP_end _ rfl ?_
  refine W_cond (streq x3.Name name) rfl (fun hc14 => ?_) (fun hc14 => ?_)
  ·have H := H.1 hc14
   refine W_seq (W_region ?_)
   refine LP_ev ok 0 [(18, I x), (4, I x)] 2 rfl rfl ?_
   refine LP_end _ rfl (W_ret ?_)
   have f15 := f.mono X2.size
   exact ⟨_, Ret_of [I x] ⟨⟨rfl, rfl⟩, trivial⟩, _, H, rfl, ((X2.stepx x10).step y (f15.dom _)).ext⟩
  have H := H.2 hc14
  refine W_skip ?_
  refine W_region ?_
  refine LP_ev ok 0 [(19, I (wr (x + 1))), (9, I (wr (x + 1)))] 2 rfl rfl ?_
  refine LP_end _ rfl ?_
  have f17 := f.mono X2.size
  exact ⟨wr (x + 1), ⟨H.1, _, env_eq ⟨rfl, rfl, rfl, rfl, trivial⟩, ((X2.stepx x10).step y (f17.dom _)), ((ex1.ext x10).but y (Dj.of_fresh ex1 f).symm)⟩, H.2⟩
 have H := H.2 hc
 refine W_exit ?_
 refine (if_pos rfl).mpr ?_
 refine W_seq (W_region ?_)
 refine LP_ev ok 0 [(4, I ((-1)))] 1 rfl rfl ?_
 refine LP_end _ rfl (W_ret ?_)
 exact ⟨_, Ret_of [I ((-1))] ⟨⟨rfl, rfl⟩, trivial⟩, _, H, rfl, X2.ext⟩

theorem spec_sGood_w (sx : List Variable) (Q : Bool → Prop) (H : spec_sGood sx Q) (w : World) {vx : Value} {hx : PH} (r : RS hx vx sx) (ex : Sub hx w) :
  CallsTo Tryz.prog 129 #[vx] w fun v w' => ∃ r0, Q r0 ∧ v = .bool r0 ∧ Ext w w' := by
 obtain ⟨a, c, rfl⟩ := r.shape
 refine enter (args := [sl a sx c]) 36 Tryz.func129 rfl rfl rfl ?_
 refine W_forget [(0, sl a sx c)] ⟨rfl, trivial⟩ fun ρ => ?_
 have X := But.refl emp w
 refine W_seq (W_region ?_)
 refine LP_ev ok 0 [(2, .bool false)] 1 rfl rfl ?_
 refine LP_end _ rfl (W_seq ?_)
 refine W_seq (W_region ?_)
 refine LP_ev ok 0 [(5, sl a sx c), (6, I (ln sx))] 2 rfl rfl ?_
 refine LP_call 2 rfl rfl rfl cal_75 rfl (spec_l1In_w _ _ _ _ H w ) ?_
 rintro _ wx ⟨r1, H, rfl, x⟩
 refine LP_ev ok 3 [(8, .bool (!r1))] 4 rfl rfl ?_
 refine LP_end _ rfl ?_
 refine W_cond (!r1) rfl (fun hc => ?_) (fun hc => ?_)
 ·have H := H.1 hc
  refine W_seq (W_region ?_)
  refine LP_ev ok 0 [(2, .bool false)] 1 rfl rfl ?_
  refine LP_end _ rfl (W_ret ?_)
  exact ⟨_, Ret_of [.bool false] ⟨⟨rfl, rfl⟩, trivial⟩, _, H, rfl, (X.stepx x).ext⟩
 have H := H.2 hc
 refine W_skip ?_
 refine W_seq ?_
 refine W_seq (W_region ?_)
 refine LP_ev ok 0 [(9, sl a sx c), (10, I (ln sx)), (11, I 0)] 3 rfl rfl ?_
 refine LP_end _ rfl ?_
 refine W_block ?_
 obtain ⟨J, m, Hx, H⟩ := H
 refine W_loop (S := Int) (fun s ρ' w' => J s ∧ ∃ (ρ : Env), ρ' = setAll [(0, sl a sx c), (9, sl a sx c), (10, I (ln sx)), (11, I s)] ρ ∧ But emp w w' ∧ Sub hx w') (fun s => m s) 0 ⟨Hx, _, env_eq ⟨rfl, rfl, rfl, rfl, trivial⟩, (X.stepx x), (ex.ext x)⟩ ?_
 rintro x3 _ wx4 ⟨Hi, ρ, rfl, X6, ex5⟩
 have H := H x3 Hi
 refine W_seq (W_region ?_)
 refine LP_ev ok 0 [(12, .bool (decide (x3 < (ln sx))))] 1 rfl rfl ?_
 refine LP_end _ rfl (W_seq ?_)
 refine W_cond (decide (x3 < (ln sx))) rfl (fun hc9 => ?_) (fun hc9 => ?_)
 ·have H := H.1 hc9
  refine W_skip ?_
  refine W_seq ?_
  refine W_block ?_
  refine W_seq (W_region ?_)
  refine LP_ev ok 0 [(13, I x3)] 1 rfl rfl ?_
  obtain ⟨x10, hi, hx11, H⟩ := H
  refine LP_index 1 rfl rfl rfl Tryz.underlying39 ti_82 rfl rfl r hi hx11 fun a12 cs r13 d => ?_
  refine LP_load 2 rfl rfl rfl ti_82 ag_82 rfl r13 d ex5 fun vx14 r15 => ?_
  obtain rfl := Variable_rv r15
  refine LP_alloc 3 rfl rfl rfl ti_82 rfl fun b wx16 x17 ex18 f => ?_
  refine LP_ev ok 4 [(3, I x3)] 5 rfl rfl ?_
  refine LP_stbox 5 (vs := [.string x10.Name, I x10.Levels]) (cs' := [.string x10.Name, I x10.Levels]) rfl rfl rfl ti_82 rfl rfl rfl rfl rfl ex18 rfl rfl fun wx19 ex20 y => ?_
  refine LP_end _ rfl ?_
  obtain ⟨k, hk, H⟩ := jn_elim H
  refine W_join2 (S := Bool) (fun s ρ' w' => k s ∧ ∃ (ρ : Env), ρ' = setAll [(0, sl a sx c), (9, sl a sx c), (10, I (ln sx)), (11, I x3), (34, .bool s)] ρ ∧ But emp w w' ∧ Sub hx w') ?_ ?_
  ·refine W_quiet mix (by kernel_rfl) ?_
   refine QP_ev ok 0 [(16, pb b)] 1 rfl rfl ?_
   refine QP_ldbox 1 (v := .string x10.Name) rfl rfl rfl ti_9 ag_9 (fun _ => rfl) rfl ex20 rfl rfl ?_
   obtain ⟨r25, Hd, H⟩ := H
   refine QP_call (.bool r25) 2 rfl rfl rfl cal_160 rfl (fun wx26 x27 => (spec_sName_w _ _ Hd wx26 ).mono ?_) ?_
   ·rintro _ _ ⟨_, rfl, rfl, x⟩; exact ⟨rfl, x⟩
   refine QP_ev ok 3 [(19, .bool (!r25)), (20, .bool (!r25))] 5 rfl rfl ?_
   refine QP_split 20 (!r25) rfl (fun hc28 => ?_) (fun hc28 => ?_)
   ·have H := H.1 hc28
    refine QP_ev ok 5 [(21, undef), (22, undef), (23, undef), (24, undef), (25, .bool true), (26, .bool true), (27, undef), (28, undef), (29, undef), (30, undef), (31, undef), (32, undef), (33, undef), (34, .bool true)] 19 rfl rfl ?_
    refine QP_end _ rfl fun wx29 x30 => ?_
    try refine W_forget [(0, sl a sx c), (9, sl a sx c), (10, I (ln sx)), (11, I x3), (34, .bool true)] ⟨rfl, rfl, rfl, rfl, rfl, trivial⟩ fun ρ => ?_
    have f31 := f.mono X6.size
    exact ⟨true, H, _, env_eq ⟨rfl, rfl, rfl, rfl, rfl, trivial⟩, (((X6.stepx x17).step y (f31.dom _)).stepx x30), (((ex5.ext x17).but y (Dj.of_fresh ex5 f).symm).ext x30)⟩
   have H := H.2 hc28
   refine QP_ev ok 5 [(21, .pointer (some ⟨b, 1, none⟩))] 6 rfl rfl ?_
   refine QP_ldbox 6 (v := I x10.Levels) rfl rfl rfl ti_3 ag_3 (fun _ => rfl) rfl ex20 rfl rfl ?_
   obtain ⟨r34, Hd35, H⟩ := H
   refine QP_call (.bool r34) 7 rfl rfl rfl cal_75 rfl (fun wx36 x37 => (spec_l1In_w _ _ _ _ Hd35 wx36 ).mono ?_) ?_
   ·rintro _ _ ⟨_, rfl, rfl, x⟩; exact ⟨rfl, x⟩
   refine QP_ev ok 8 [(24, .bool (!r34)), (25, .bool (!r34)), (26, .bool (!r34))] 11 rfl rfl ?_
   refine QP_split 26 (!r34) rfl (fun hc38 => ?_) (fun hc38 => ?_)
   ·have H := H.1 hc38
    refine QP_ev ok 11 [(27, undef), (28, undef), (29, undef), (30, undef), (31, undef), (32, undef), (33, undef), (34, .bool true)] 19 rfl rfl ?_
    refine QP_end _ rfl fun wx39 x40 => ?_
    try refine W_forget [(0, sl a sx c), (9, sl a sx c), (10, I (ln sx)), (11, I x3), (21, .pointer (some ⟨b, 1, none⟩)), (22, I x10.Levels), (23, .bool r34), (24, .bool (!r34)), (34, .bool true)] ⟨rfl, rfl, rfl, rfl, rfl, rfl, rfl, rfl, rfl, trivial⟩ fun ρ => ?_
    have f41 := f.mono X6.size
    exact ⟨true, H, _, env_eq ⟨rfl, rfl, rfl, rfl, rfl, trivial⟩, (((X6.stepx x17).step y (f41.dom _)).stepx x40), (((ex5.ext x17).but y (Dj.of_fresh ex5 f).symm).ext x40)⟩
   have H := H.2 hc38
   refine QP_ev ok 11 [(27, sl a sx c), (28, I x3)] 13 rfl rfl ?_
   obtain ⟨hl, hu, hn, H⟩ := H
   refine QP_slice 13 0 x3 rfl rfl rfl Tryz.underlying39 ti_82 rfl rfl rfl r (.inl ⟨rfl, rfl⟩) (.inr rfl) hl hu hn fun vx44 r45 => ?_
   obtain ⟨a46, c47, rfl⟩ := r45.shape
   refine QP_ev ok 14 [(30, pb b)] 15 rfl rfl ?_
   refine QP_ldbox 15 (v := .string x10.Name) rfl rfl rfl ti_9 ag_9 (fun _ => rfl) rfl ex20 rfl rfl ?_
   obtain ⟨r48, Hd49, H⟩ := H
   have ex52 := ((ex5.ext x17).but y (Dj.of_fresh ex5 f).symm)
   refine QP_call (I r48) 16 rfl rfl rfl cal_161 rfl (fun wx50 x51 => (spec_sFind_w _ _ _ Hd49 wx50 r45 (ex52.ext x51)).mono ?_) ?_
   ·rintro _ _ ⟨_, rfl, rfl, x⟩; exact ⟨rfl, x⟩
   refine QP_ev ok 17 [(33, .bool (decide (r48 ≥ 0))), (34, .bool (decide (r48 ≥ 0)))] 19 rfl rfl ?_
   refine QP_end _ rfl fun wx53 x54 => ?_
   try refine W_forget [(0, sl a sx c), (9, sl a sx c), (10, I (ln sx)), (11, I x3), (21, .pointer (some ⟨b, 1, none⟩)), (22, I x10.Levels), (23, .bool r34), (24, .bool (!r34)), (27, sl a sx c), (28, I x3), (29, .slice a46 (List.length (List.take (Int.toNat x3 - Int.toNat 0) (List.drop (Int.toNat 0) sx))) c47), (30, pb b), (31, .string x10.Name), (32, I r48), (33, .bool (decide (r48 ≥ 0))), (34, .bool (decide (r48 ≥ 0)))] ⟨rfl, rfl, rfl, rfl, rfl, rfl, rfl, rfl, rfl, rfl, rfl, rfl, rfl, rfl, rfl, rfl, trivial⟩ fun ρ => ?_
   have f55 := f.mono X6.size
   exact ⟨decide (r48 ≥ 0), H, _, env_eq ⟨rfl, rfl, rfl, rfl, rfl, trivial⟩, (((X6.stepx x17).step y (f55.dom _)).stepx x54), (ex52.ext x54)⟩
  rintro x21 _ wx22 ⟨H, ρ, rfl, X24, ex23⟩
  subst hk
  refine W_cond (x21) rfl (fun hc58 => ?_) (fun hc58 => ?_)
  ·have H := H.1 hc58
   refine W_seq (W_region ?_)
   refine LP_ev ok 0 [(2, .bool false)] 1 rfl rfl ?_
   refine LP_end _ rfl (W_ret ?_)
   exact ⟨_, Ret_of [.bool false] ⟨⟨rfl, rfl⟩, trivial⟩, _, H, rfl, X24.ext⟩
  have H := H.2 hc58
  refine W_skip ?_
  refine W_region ?_
  refine LP_ev ok 0 [(35, I (wr (x3 + 1))), (11, I (wr (x3 + 1)))] 2 rfl rfl ?_
  exact LP_end _ rfl ⟨wr (x3 + 1), ⟨H.1, _, env_eq ⟨rfl, rfl, rfl, rfl, trivial⟩, X24, ex23⟩, H.2⟩
 have H := H.2 hc9
 refine W_exit ?_
 refine (if_pos rfl).mpr ?_
 refine W_seq (W_region ?_)
 refine LP_ev ok 0 [(2, .bool true)] 1 rfl rfl ?_
 refine LP_end _ rfl (W_ret ?_)
 exact ⟨_, Ret_of [.bool true] ⟨⟨rfl, rfl⟩, trivial⟩, _, H, rfl, X6.ext⟩

theorem spec_gDepth_w (g : Geo) (i : Int) (Q : Int → Prop) (H : spec_gDepth g i Q) (w : World) {vx : Value} {hx : PH} (r : RS hx vx g.Parents) (ex : Sub hx w) :
  CallsTo Tryz.prog 162 #[.agg #[vx], I i] w fun v w' => ∃ r0, Q r0 ∧ v = I r0 ∧ Ext w w' := by
 obtain ⟨a, c, rfl⟩ := r.shape
 refine enter (args := [.agg #[sl a g.Parents c], I i]) 20 Tryz.func162 rfl rfl rfl ?_
 refine W_forget [(0, .agg #[sl a g.Parents c]), (1, I i)] ⟨rfl, rfl, trivial⟩ fun ρ => ?_
 have X := But.refl emp w
 refine W_seq (W_region ?_)
 refine LP_box 0 (cs := [sl a g.Parents c]) rfl rfl rfl rfl rfl fun b wx x ex1 f => ?_
 refine LP_ev ok 1 [(4, I 0)] 2 rfl rfl ?_
 refine LP_end _ rfl (W_seq (W_region ?_))
 refine LP_ev ok 0 [(5, I 0)] 1 rfl rfl ?_
 refine LP_end _ rfl (W_seq ?_)
 refine W_block ?_
 obtain ⟨J, m, Hx, H⟩ := H
 refine W_loop (S := Int × Int) (fun s ρ' w' => J s.1 s.2 ∧ ∃ (ρ : Env), ρ' = setAll [(1, I s.1), (2, pb b), (5, I s.2)] ρ ∧ wx = w') (fun s => m s.1 s.2) (i, 0) ⟨Hx, _, env_eq ⟨rfl, rfl, rfl, trivial⟩, rfl⟩ ?_
 rintro ⟨i2, n⟩ _ _ ⟨Hi, ρ, rfl, rfl⟩
 have H := H i2 n Hi
 refine W_seq ?_
 refine W_seq (W_region ?_)
 refine LP_ev ok 0 [(6, pb b)] 1 rfl rfl ?_
 refine LP_ldbox 1 (v := sl a g.Parents c) rfl rfl rfl ti_22 ag_22 (fun _ => rfl) rfl ex1 rfl rfl ?_
 refine LP_ev ok 2 [(8, I i2)] 3 rfl rfl ?_
 obtain ⟨x4, hi, hx5, H⟩ := H
 refine LP_index 3 rfl rfl rfl Tryz.underlying22 ti_3 rfl rfl r hi hx5 fun a6 cs r7 d => ?_
 have ex8 := (ex.ext x)
 refine LP_load 4 rfl rfl rfl ti_3 ag_3 rfl r7 d ex8 fun vx9 r10 => ?_
 obtain rfl := r10.int
 refine LP_ev ok 5 [(11, .bool (decide (x4 ≥ 0)))] 6 rfl rfl ?_
 refine LP_end _ rfl ?_
 refine W_cond (decide (x4 ≥ 0)) rfl (fun hc => ?_) (fun hc => ?_)
 ·have H := H.1 hc
  refine W_skip ?_
  refine W_block ?_
  refine W_seq (W_region ?_)
  refine LP_ev ok 0 [(12, pb b)] 1 rfl rfl ?_
  refine LP_ldbox 1 (v := sl a g.Parents c) rfl rfl rfl ti_22 ag_22 (fun _ => rfl) rfl ex1 rfl rfl ?_
  refine LP_ev ok 2 [(14, I i2)] 3 rfl rfl ?_
  obtain ⟨x11, hi12, hx13, H⟩ := H
  refine LP_index 3 rfl rfl rfl Tryz.underlying22 ti_3 rfl rfl r hi12 hx13 fun a14 cs15 r16 d17 => ?_
  refine LP_load 4 rfl rfl rfl ti_3 ag_3 rfl r16 d17 ex8 fun vx18 r19 => ?_
  obtain rfl := r19.int
  refine LP_ev ok 5 [(1, I x11)] 6 rfl rfl ?_
  refine LP_end _ rfl ?_
  refine W_region ?_
  refine LP_ev ok 0 [(17, I n), (18, I (wr (n + 1))), (5, I (wr (n + 1)))] 3 rfl rfl ?_
  exact LP_end _ rfl ⟨(x11, wr (n + 1)), ⟨H.1, _, env_eq ⟨rfl, rfl, rfl, trivial⟩, rfl⟩, H.2⟩
 have H := H.2 hc
 refine W_exit ?_
 refine (if_pos rfl).mpr ?_
 refine W_seq (W_region ?_)
 refine LP_ev ok 0 [(19, I n), (4, I n)] 2 rfl rfl ?_
 refine LP_end _ rfl (W_ret ?_)
 exact ⟨_, Ret_of [I n] ⟨⟨rfl, rfl⟩, trivial⟩, _, H, rfl, (X.stepx x).ext⟩

theorem spec_gLevel_w (g : Geo) (level : Int) (Q : (List Int) → Prop) (H : spec_gLevel g level Q) (w : World) {vx : Value} {hx : PH} (r : RS hx vx g.Parents) (ex : Sub hx w) :
  CallsTo Tryz.prog 130 #[.agg #[vx], I level] w fun v w' => ∃ r0 u0 g0, Q r0 ∧ v = u0 ∧ Ext w w' ∧ OS 3 g0 emp u0 r0 ∧ Sub g0 w' ∧ Fresh w.heap.size g0 := by
 obtain ⟨a, c, rfl⟩ := r.shape
 refine enter (args := [.agg #[sl a g.Parents c], I level]) 24 Tryz.func130 rfl rfl rfl ?_
 refine W_forget [(0, .agg #[sl a g.Parents c]), (1, I level)] ⟨rfl, rfl, trivial⟩ fun ρ => ?_
 have X := But.refl emp w
 refine W_seq (W_region ?_)
 refine LP_box 0 (cs := [sl a g.Parents c]) rfl rfl rfl rfl rfl fun b wx x ex1 f => ?_
 refine LP_ev ok 1 [(4, .slice none 0 0)] 2 rfl rfl ?_
 refine LP_end _ rfl (W_seq (W_region ?_))
 refine LP_ev ok 0 [(5, .slice none 0 0)] 1 rfl rfl ?_
 refine LP_end _ rfl (W_seq ?_)
 refine W_seq (W_region ?_)
 refine LP_ev ok 0 [(7, pb b)] 1 rfl rfl ?_
 refine LP_ldbox 1 (v := sl a g.Parents c) rfl rfl rfl ti_22 ag_22 (fun _ => rfl) rfl ex1 rfl rfl ?_
 refine LP_ev ok 2 [(9, I (ln g.Parents)), (10, I 0)] 4 rfl rfl ?_
 refine LP_end _ rfl ?_
 refine W_block ?_
 obtain ⟨J, m, Hx, H⟩ := H
 refine W_loop (S := (List Int) × Int) (fun s ρ' w' => J s.1 s.2 ∧ ∃ (ρ : Env) (vx2 : Value) (hx3 : PH), ρ' = setAll [(1, I level), (2, pb b), (5, vx2), (9, I (ln g.Parents)), (10, I s.2)] ρ ∧ But emp w w' ∧ OS 3 hx3 emp vx2 s.1 ∧ Sub hx3 w' ∧ Fresh w.heap.size hx3 ∧ Sub hx w' ∧ Sub (bx b 37 [sl a g.Parents c]) w' ∧ Dj hx3 hx ∧ Dj hx3 (bx b 37 [sl a g.Parents c])) (fun s => m s.1 s.2) ([], 0) ⟨Hx, _, .slice none 0 0, emp, env_eq ⟨rfl, rfl, rfl, rfl, rfl, trivial⟩, (X.stepx x), OS.nil, (emp_sub _), (emp_fresh _), (ex.ext x), ex1, (fun _ => .inl rfl), (fun _ => .inl rfl)⟩ ?_
 rintro ⟨out, x6⟩ _ wx7 ⟨Hi, ρ, vx2, hx3, rfl, HF⟩
 revert HF
 refine bb8 fun X13 o ex4 f5 ex8 ex9 d d12 => ?_
 have H := H out x6 Hi
 obtain ⟨a10, c11, rfl⟩ := o.shape
 refine W_seq (W_region ?_)
 refine LP_ev ok 0 [(11, .bool (decide (x6 < (ln g.Parents))))] 1 rfl rfl ?_
 refine LP_end _ rfl (W_seq ?_)
 refine W_cond (decide (x6 < (ln g.Parents))) rfl (fun hc => ?_) (fun hc => ?_)
 ·have H := H.1 hc
  refine W_skip ?_
  obtain ⟨k, hk, H⟩ := jn_elim H
  refine W_join2 (S := (List Int)) (fun s ρ' w' => k s ∧ ∃ (ρ : Env) (vx17 : Value) (hx18 : PH), ρ' = setAll [(1, I level), (2, pb b), (5, vx17), (9, I (ln g.Parents)), (10, I x6)] ρ ∧ But emp w w' ∧ OS 3 hx18 emp vx17 s ∧ Sub hx18 w' ∧ Fresh w.heap.size hx18 ∧ Sub hx w' ∧ Sub (bx b 37 [sl a g.Parents c]) w' ∧ Dj hx18 hx ∧ Dj hx18 (bx b 37 [sl a g.Parents c])) ?_ ?_
  ·refine W_block ?_
   refine W_seq (W_region ?_)
   refine LP_ev ok 0 [(12, I x6), (6, I x6)] 2 rfl rfl ?_
   refine LP_end _ rfl (W_seq (W_region ?_))
   refine LP_ldbox 0 (v := .agg #[sl a g.Parents c]) rfl rfl rfl ti_37 ag_37 (fun h => by cases h) rfl ex9 rfl rfl ?_
   refine LP_ev ok 1 [(14, I x6)] 2 rfl rfl ?_
   refine LP_call 2 rfl rfl rfl cal_162 rfl (spec_gDepth_w _ _ _ H wx7 r ex8) ?_
   rintro _ wx31 ⟨r30, H, rfl, x32⟩
   refine LP_ev ok 3 [(16, I level), (17, .bool (r30 == level))] 5 rfl rfl ?_
   refine LP_end _ rfl ?_
   refine W_cond (r30 == level) rfl (fun hc33 => ?_) (fun hc33 => ?_)
   ·have H := H.1 hc33
    refine W_region ?_
    refine LP_ev ok 0 [(18, sl a10 out c11), (19, I x6)] 2 rfl rfl ?_
    refine LP_lit (α := Int) (g := emp) 2 (vs := [I x6]) (xs := [x6]) rfl rfl rfl Tryz.underlying22 ti_3 rfl rfl ⟨⟨_, rfl, rfl⟩, trivial⟩ rfl rfl fun hx34 vx35 wx36 x37 o38 ex39 f40 => ?_
    obtain ⟨a41, c42, rfl⟩ := o38.shape
    have xc := (x32.trans x37)
    obtain ⟨hb, H⟩ := H
    refine LP_appendf (α := Int) 3 rfl rfl rfl Tryz.underlying22 ti_3 rfl rfl rfl o (ex4.ext xc) o38.readf ex39 (by first | omega | (simp only [ln] at *; omega)) (by first | omega | (simp only [ln] at *; omega)) fun hx44 vx45 wx46 o47 ex48 y dm => ?_
    obtain ⟨a49, c50, rfl⟩ := o47.shape
    refine LP_ev ok 4 [(5, .slice a49 (List.length (out ++ ([x6]))) c50)] 5 rfl rfl ?_
    refine LP_end _ rfl ?_
    have f52 := dm.fresh f5 (X13.stepx xc).size
    exact ⟨out ++ ([x6]), H, _, .slice a49 (List.length (out ++ ([x6]))) c50, hx44, env_eq ⟨rfl, rfl, rfl, rfl, rfl, trivial⟩, ((X13.stepx xc).step y (f5.dom _)), o47, ex48, f52, ((ex8.ext xc).but y d), ((ex9.ext xc).but y d12), (DomLe.dj dm d (ex8.ext xc)), (DomLe.dj dm d12 (ex9.ext xc))⟩
   have H := H.2 hc33
   exact W_skip ⟨out, H, _, sl a10 out c11, hx3, env_eq ⟨rfl, rfl, rfl, rfl, rfl, trivial⟩, (X13.stepx x32), o, (ex4.ext x32), f5, (ex8.ext x32), (ex9.ext x32), d, d12⟩
  rintro out16 _ wx22 ⟨H, ρ, vx17, hx18, rfl, HF⟩
  revert HF
  refine bb8 fun X29 o19 ex20 f21 ex23 ex24 d27 d28 => ?_
  subst hk
  obtain ⟨a25, c26, rfl⟩ := o19.shape
  refine W_region ?_
  refine LP_ev ok 0 [(22, I (wr (x6 + 1))), (10, I (wr (x6 + 1)))] 2 rfl rfl ?_
  exact LP_end _ rfl ⟨(out16, wr (x6 + 1)), ⟨H.1, _, sl a25 out16 c26, hx18, env_eq ⟨rfl, rfl, rfl, rfl, rfl, trivial⟩, X29, o19, ex20, f21, ex23, ex24, d27, d28⟩, H.2⟩
 have H := H.2 hc
 refine W_exit ?_
 refine (if_pos rfl).mpr ?_
 refine W_seq (W_region ?_)
 refine LP_ev ok 0 [(23, sl a10 out c11), (4, sl a10 out c11)] 2 rfl rfl ?_
 refine LP_end _ rfl (W_ret ?_)
 exact ⟨_, Ret_of [sl a10 out c11] ⟨⟨rfl, rfl⟩, trivial⟩, _, _, _, H, rfl, X13.ext, o, ex4, f5⟩

theorem spec_l1Rising_w (l : List Int) (lo : Int) (hi : Int) (Q : Bool → Prop) (H : spec_l1Rising l lo hi Q) (w : World) {vx : Value} {hx : PH} (r : RS hx vx l) (ex : Sub hx w) :
  CallsTo Tryz.prog 131 #[vx, I lo, I hi] w fun v w' => ∃ r0, Q r0 ∧ v = .bool r0 ∧ Ext w w' := by
 obtain ⟨a, c, rfl⟩ := r.shape
 refine enter (args := [sl a l c, I lo, I hi]) 35 Tryz.func131 rfl rfl rfl ?_
 refine W_forget [(0, sl a l c), (1, I lo), (2, I hi)] ⟨rfl, rfl, rfl, trivial⟩ fun ρ => ?_
 have X := But.refl emp w
 refine W_seq (W_region ?_)
 refine LP_ev ok 0 [(6, .bool false)] 1 rfl rfl ?_
 refine LP_end _ rfl (W_seq ?_)
 refine W_seq (W_region ?_)
 refine LP_ev ok 0 [(9, sl a l c), (10, I (ln l)), (11, I 0)] 3 rfl rfl ?_
 refine LP_end _ rfl ?_
 refine W_block ?_
 obtain ⟨J, m, Hx, H⟩ := H
 refine W_loop (S := Int) (fun s ρ' w' => J s ∧ ∃ (ρ : Env), ρ' = setAll [(0, sl a l c), (1, I lo), (2, I hi), (9, sl a l c), (10, I (ln l)), (11, I s)] ρ ∧ But emp w w' ∧ Sub hx w') (fun s => m s) 0 ⟨Hx, _, env_eq ⟨rfl, rfl, rfl, rfl, rfl, rfl, trivial⟩, X, ex⟩ ?_
 rintro x _ wx ⟨Hi, ρ, rfl, X2, ex1⟩
 have H := H x Hi
 refine W_seq (W_region ?_)
 refine LP_ev ok 0 [(12, .bool (decide (x < (ln l))))] 1 rfl rfl ?_
 refine LP_end _ rfl (W_seq ?_)
 refine W_cond (decide (x < (ln l))) rfl (fun hc => ?_) (fun hc => ?_)
 ·have H := H.1 hc
  refine W_skip ?_
  refine W_seq ?_
  refine W_block ?_
  refine W_seq (W_region ?_)
  refine LP_ev ok 0 [(13, I x)] 1 rfl rfl ?_
  obtain ⟨x3, hi4, hx5, H⟩ := H
  refine LP_index 1 rfl rfl rfl Tryz.underlying22 ti_3 rfl rfl r hi4 hx5 fun a6 cs r7 d => ?_
  refine LP_load 2 rfl rfl rfl ti_3 ag_3 rfl r7 d ex1 fun vx8 r9 => ?_
  obtain rfl := r9.int
  refine LP_ev ok 3 [(7, I x), (8, I x3)] 5 rfl rfl ?_
  refine LP_end _ rfl ?_
  obtain ⟨k, hk, H⟩ := jn_elim H
  refine W_join2 (S := Bool) (fun s ρ' w' => k s ∧ ∃ (ρ : Env), ρ' = setAll [(0, sl a l c), (1, I lo), (2, I hi), (9, sl a l c), (10, I (ln l)), (11, I x), (33, .bool s)] ρ ∧ But emp w w' ∧ Sub hx w') ?_ ?_
  ·refine W_region ?_
   refine LP_ev ok 0 [(16, I x3), (17, I lo), (18, I hi)] 3 rfl rfl ?_
   refine LP_call 3 rfl rfl rfl cal_75 rfl (spec_l1In_w _ _ _ _ H wx ) ?_
   rintro _ wx15 ⟨r14, H, rfl, x16⟩
   refine LP_ev ok 4 [(20, .bool (!r14)), (21, .bool (!r14))] 6 rfl rfl ?_
   refine LP_split 21 (!r14) rfl (fun hc17 => ?_) (fun hc17 => ?_)
   ·have H := H.1 hc17
    refine LP_ev ok 6 [(22, undef), (23, undef), (24, undef), (25, undef), (26, undef), (27, undef), (28, undef), (29, undef), (30, undef), (31, undef), (32, undef), (33, .bool true)] 18 rfl rfl ?_
    exact LP_end _ rfl ⟨true, H, _, env_eq ⟨rfl, rfl, rfl, rfl, rfl, rfl, rfl, trivial⟩, (X2.stepx x16), (ex1.ext x16)⟩
   have H := H.2 hc17
   refine LP_ev ok 6 [(22, I x), (23, .bool (decide (x > 0))), (24, .bool (decide (x > 0)))] 9 rfl rfl ?_
   refine LP_split 24 (decide (x > 0)) rfl (fun hc20 => ?_) (fun hc20 => ?_)
   ·have H := H.1 hc20
    refine LP_ev ok 9 [(25, sl a l c), (26, I x), (27, I (wr (x - 1)))] 12 rfl rfl ?_
    obtain ⟨x21, hi22, hx23, H⟩ := H
    refine LP_index 12 rfl rfl rfl Tryz.underlying22 ti_3 rfl rfl r hi22 hx23 fun a24 cs25 r26 d27 => ?_
    have ex28 := (ex1.ext x16)
    refine LP_load 13 rfl rfl rfl ti_3 ag_3 rfl r26 d27 ex28 fun vx29 r30 => ?_
    obtain rfl := r30.int
    refine LP_ev ok 14 [(30, I x3), (31, .bool (decide (x21 ≥ x3))), (32, .bool (decide (x21 ≥ x3))), (33, .bool (decide (x21 ≥ x3)))] 18 rfl rfl ?_
    exact LP_end _ rfl ⟨decide (x21 ≥ x3), H, _, env_eq ⟨rfl, rfl, rfl, rfl, rfl, rfl, rfl, trivial⟩, (X2.stepx x16), ex28⟩
   have H := H.2 hc20
   refine LP_ev ok 9 [(25, undef), (26, undef), (27, undef), (28, undef), (29, undef), (30, undef), (31, undef), (32, .bool false), (33, .bool false)] 18 rfl rfl ?_
   exact LP_end _ rfl ⟨false, H, _, env_eq ⟨rfl, rfl, rfl, rfl, rfl, rfl, rfl, trivial⟩, (X2.stepx x16), (ex1.ext x16)⟩
  rintro x10 _ wx11 ⟨H, ρ, rfl, X13, ex12⟩
  subst hk
  refine W_cond (x10) rfl (fun hc34 => ?_) (fun hc34 => ?_)
  ·have H := H.1 hc34
   refine W_seq (W_region ?_)
   refine LP_ev ok 0 [(6, .bool false)] 1 rfl rfl ?_
   refine LP_end _ rfl (W_ret ?_)
   exact ⟨_, Ret_of [.bool false] ⟨⟨rfl, rfl⟩, trivial⟩, _, H, rfl, X13.ext⟩
  have H := H.2 hc34
  refine W_skip ?_
  refine W_region ?_
  refine LP_ev ok 0 [(34, I (wr (x + 1))), (11, I (wr (x + 1)))] 2 rfl rfl ?_
  exact LP_end _ rfl ⟨wr (x + 1), ⟨H.1, _, env_eq ⟨rfl, rfl, rfl, rfl, rfl, rfl, trivial⟩, X13, ex12⟩, H.2⟩
 have H := H.2 hc
 refine W_exit ?_
 refine (if_pos rfl).mpr ?_
 refine W_seq (W_region ?_)
 refine LP_ev ok 0 [(6, .bool true)] 1 rfl rfl ?_
 refine LP_end _ rfl (W_ret ?_)
 exact ⟨_, Ret_of [.bool true] ⟨⟨rfl, rfl⟩, trivial⟩, _, H, rfl, X2.ext⟩

theorem spec_uWhere_w (sx : List Variable) (wherex : List Int) (Q : Bool → Prop) (H : spec_uWhere sx wherex Q) (w : World) {vx : Value} {hx : PH} (r : RS hx vx sx) (ex : Sub hx w) {vx1 : Value} {hx2 : PH} (r3 : RS hx2 vx1 wherex) (ex4 : Sub hx2 w) :
  CallsTo Tryz.prog 132 #[vx, vx1] w fun v w' => ∃ r0, Q r0 ∧ v = .bool r0 ∧ Ext w w' := by
 obtain ⟨a, c, rfl⟩ := r.shape
 obtain ⟨a5, c6, rfl⟩ := r3.shape
 refine enter (args := [sl a sx c, sl a5 wherex c6]) 31 Tryz.func132 rfl rfl rfl ?_
 refine W_forget [(0, sl a sx c), (1, sl a5 wherex c6)] ⟨rfl, rfl, trivial⟩ fun ρ => ?_
 have X := But.refl emp w
 refine W_seq (W_region ?_)
 refine LP_ev ok 0 [(4, .bool false)] 1 rfl rfl ?_
 refine LP_end _ rfl (W_seq ?_)
 refine W_seq (W_region ?_)
 refine LP_ev ok 0 [(7, sl a5 wherex c6), (8, I (ln wherex)), (9, sl a sx c), (10, I (ln sx)), (11, .bool ((ln wherex) != (ln sx)))] 5 rfl rfl ?_
 refine LP_end _ rfl ?_
 refine W_cond ((ln wherex) != (ln sx)) rfl (fun hc => ?_) (fun hc => ?_)
 ·have H := H.1 hc
  refine W_seq (W_region ?_)
  refine LP_ev ok 0 [(4, .bool false)] 1 rfl rfl ?_
  refine LP_end _ rfl (W_ret ?_)
  exact ⟨_, Ret_of [.bool false] ⟨⟨rfl, rfl⟩, trivial⟩, _, H, rfl, X.ext⟩
 have H := H.2 hc
 refine W_skip ?_
 refine W_seq ?_
 refine W_seq (W_region ?_)
 refine LP_ev ok 0 [(12, sl a sx c), (13, I (ln sx)), (14, I 0)] 3 rfl rfl ?_
 refine LP_end _ rfl ?_
 refine W_block ?_
 obtain ⟨J, m, Hx, H⟩ := H
 refine W_loop (S := Int) (fun s ρ' w' => J s ∧ ∃ (ρ : Env), ρ' = setAll [(1, sl a5 wherex c6), (12, sl a sx c), (13, I (ln sx)), (14, I s)] ρ ∧ But emp w w' ∧ Sub hx w' ∧ Sub hx2 w') (fun s => m s) 0 ⟨Hx, _, env_eq ⟨rfl, rfl, rfl, rfl, trivial⟩, X, ex, ex4⟩ ?_
 rintro x _ wx ⟨Hi, ρ, rfl, X9, ex7, ex8⟩
 have H := H x Hi
 refine W_seq (W_region ?_)
 refine LP_ev ok 0 [(15, .bool (decide (x < (ln sx))))] 1 rfl rfl ?_
 refine LP_end _ rfl (W_seq ?_)
 refine W_cond (decide (x < (ln sx))) rfl (fun hc10 => ?_) (fun hc10 => ?_)
 ·have H := H.1 hc10
  refine W_skip ?_
  refine W_seq ?_
  refine W_block ?_
  refine W_seq (W_region ?_)
  refine LP_ev ok 0 [(16, I x)] 1 rfl rfl ?_
  obtain ⟨x11, hi, hx12, H⟩ := H
  refine LP_index 1 rfl rfl rfl Tryz.underlying39 ti_82 rfl rfl r hi hx12 fun a13 cs r14 d => ?_
  refine LP_load 2 rfl rfl rfl ti_82 ag_82 rfl r14 d ex7 fun vx15 r16 => ?_
  obtain rfl := Variable_rv r16
  refine LP_alloc 3 rfl rfl rfl ti_82 rfl fun b wx17 x18 ex19 f => ?_
  refine LP_ev ok 4 [(5, I x)] 5 rfl rfl ?_
  refine LP_stbox 5 (vs := [.string x11.Name, I x11.Levels]) (cs' := [.string x11.Name, I x11.Levels]) rfl rfl rfl ti_82 rfl rfl rfl rfl rfl ex19 rfl rfl fun wx20 ex21 y => ?_
  refine LP_end _ rfl (W_seq ?_)
  refine W_quiet mix (by kernel_rfl) ?_
  refine QP_ev ok 0 [(19, sl a5 wherex c6), (20, I x)] 2 rfl rfl ?_
  obtain ⟨x22, hi23, hx24, H⟩ := H
  refine QP_index 2 rfl rfl rfl Tryz.underlying22 ti_3 rfl rfl r3 hi23 hx24 fun a25 cs26 r27 d28 => ?_
  have ex29 := ((ex8.ext x18).but y (Dj.of_fresh ex8 f).symm)
  refine QP_load 3 rfl rfl rfl ti_3 ag_3 rfl r27 d28 ex29 fun vx30 r31 => ?_
  obtain rfl := r31.int
  refine QP_ev ok 4 [(23, .pointer (some ⟨b, 1, none⟩))] 5 rfl rfl ?_
  refine QP_ldbox 5 (v := I x11.Levels) rfl rfl rfl ti_3 ag_3 (fun _ => rfl) rfl ex21 rfl rfl ?_
  refine QP_ev ok 6 [(25, .int .u64 (IntKind.u64.wrap (x11.Levels)))] 7 rfl rfl ?_
  obtain ⟨hz, H⟩ := H
  refine QP_val 7 _ rfl rfl (fun _ _ => ex_shl rfl rfl rfl hz _) ?_
  refine QP_ev ok 8 [(27, I (wr ((shl .i64 1 (IntKind.u64.wrap (x11.Levels))) - 1)))] 9 rfl rfl ?_
  obtain ⟨r32, Hd, H⟩ := H
  refine QP_call (.bool r32) 9 rfl rfl rfl cal_75 rfl (fun wx33 x34 => (spec_l1In_w _ _ _ _ Hd wx33 ).mono ?_) ?_
  ·rintro _ _ ⟨_, rfl, rfl, x⟩; exact ⟨rfl, x⟩
  refine QP_ev ok 10 [(29, .bool (!r32))] 11 rfl rfl ?_
  refine QP_end _ rfl fun wx35 x36 => ?_
  refine W_cond (!r32) rfl (fun hc37 => ?_) (fun hc37 => ?_)
  ·have H := H.1 hc37
   refine W_seq (W_region ?_)
   refine LP_ev ok 0 [(4, .bool false)] 1 rfl rfl ?_
   refine LP_end _ rfl (W_ret ?_)
   have f38 := f.mono X9.size
   exact ⟨_, Ret_of [.bool false] ⟨⟨rfl, rfl⟩, trivial⟩, _, H, rfl, (((X9.stepx x18).step y (f38.dom _)).stepx x36).ext⟩
  have H := H.2 hc37
  refine W_skip ?_
  refine W_region ?_
  refine LP_ev ok 0 [(30, I (wr (x + 1))), (14, I (wr (x + 1)))] 2 rfl rfl ?_
  refine LP_end _ rfl ?_
  have f40 := f.mono X9.size
  exact ⟨wr (x + 1), ⟨H.1, _, env_eq ⟨rfl, rfl, rfl, rfl, trivial⟩, (((X9.stepx x18).step y (f40.dom _)).stepx x36), (((ex7.ext x18).but y (Dj.of_fresh ex7 f).symm).ext x36), (ex29.ext x36)⟩, H.2⟩
 have H := H.2 hc10
 refine W_exit ?_
 refine (if_pos rfl).mpr ?_
 refine W_seq (W_region ?_)
 refine LP_ev ok 0 [(4, .bool true)] 1 rfl rfl ?_
 refine LP_end _ rfl (W_ret ?_)
 exact ⟨_, Ret_of [.bool true] ⟨⟨rfl, rfl⟩, trivial⟩, _, H, rfl, X9.ext⟩

theorem spec_sPart_w (sx : List Variable) (vars : List Int) (Q : (List Variable) → Prop) (H : spec_sPart sx vars Q) (w : World) {vx : Value} {hx : PH} (r : RS hx vx sx) (ex : Sub hx w) {vx1 : Value} {hx2 : PH} (r3 : RS hx2 vx1 vars) (ex4 : Sub hx2 w) :
  CallsTo Tryz.prog 136 #[vx, vx1] w fun v w' => ∃ r0 u0 g0, Q r0 ∧ v = u0 ∧ Ext w w' ∧ OS 82 g0 emp u0 r0 ∧ Sub g0 w' ∧ Fresh w.heap.size g0 := by
 obtain ⟨a, c, rfl⟩ := r.shape
 obtain ⟨a5, c6, rfl⟩ := r3.shape
 refine enter (args := [sl a sx c, sl a5 vars c6]) 23 Tryz.func136 rfl rfl rfl ?_
 refine W_forget [(0, sl a sx c), (1, sl a5 vars c6)] ⟨rfl, rfl, trivial⟩ fun ρ => ?_
 have X := But.refl emp w
 refine W_seq (W_region ?_)
 refine LP_ev ok 0 [(4, .slice none 0 0)] 1 rfl rfl ?_
 refine LP_end _ rfl (W_seq (W_region ?_))
 refine LP_ev ok 0 [(5, .slice none 0 0)] 1 rfl rfl ?_
 refine LP_end _ rfl (W_seq ?_)
 refine W_seq (W_region ?_)
 refine LP_ev ok 0 [(8, sl a5 vars c6), (9, I (ln vars)), (10, I 0)] 3 rfl rfl ?_
 refine LP_end _ rfl ?_
 refine W_block ?_
 obtain ⟨J, m, Hx, H⟩ := H
 refine W_loop (S := (List Variable) × Int) (fun s ρ' w' => J s.1 s.2 ∧ ∃ (ρ : Env) (vx7 : Value) (hx8 : PH), ρ' = setAll [(0, sl a sx c), (5, vx7), (8, sl a5 vars c6), (9, I (ln vars)), (10, I s.2)] ρ ∧ But emp w w' ∧ OS 82 hx8 emp vx7 s.1 ∧ Sub hx8 w' ∧ Fresh w.heap.size hx8 ∧ Sub hx w' ∧ Sub hx2 w' ∧ Dj hx8 hx ∧ Dj hx8 hx2) (fun s => m s.1 s.2) ([], 0) ⟨Hx, _, .slice none 0 0, emp, env_eq ⟨rfl, rfl, rfl, rfl, rfl, trivial⟩, X, OS.nil, (emp_sub _), (emp_fresh _), ex, ex4, (fun _ => .inl rfl), (fun _ => .inl rfl)⟩ ?_
 rintro ⟨out, x⟩ _ wx ⟨Hi, ρ, vx7, hx8, rfl, HF⟩
 revert HF
 refine bb8 fun X15 o ex9 f ex10 ex11 d d14 => ?_
 have H := H out x Hi
 obtain ⟨a12, c13, rfl⟩ := o.shape
 refine W_seq (W_region ?_)
 refine LP_ev ok 0 [(11, .bool (decide (x < (ln vars))))] 1 rfl rfl ?_
 refine LP_end _ rfl (W_seq ?_)
 refine W_cond (decide (x < (ln vars))) rfl (fun hc => ?_) (fun hc => ?_)
 ·have H := H.1 hc
  refine W_skip ?_
  refine W_seq ?_
  refine W_block ?_
  refine W_seq (W_region ?_)
  obtain ⟨x16, hi, hx17, H⟩ := H
  refine LP_index 0 rfl rfl rfl Tryz.underlying22 ti_3 rfl rfl r3 hi hx17 fun a18 cs r19 d20 => ?_
  refine LP_load 1 rfl rfl rfl ti_3 ag_3 rfl r19 d20 ex11 fun vx21 r22 => ?_
  obtain rfl := r22.int
  refine LP_ev ok 2 [(7, I x16)] 3 rfl rfl ?_
  refine LP_end _ rfl ?_
  refine W_region ?_
  refine LP_ev ok 0 [(14, sl a12 out c13), (15, sl a sx c), (16, I x16)] 3 rfl rfl ?_
  obtain ⟨x23, hi24, hx25, H⟩ := H
  refine LP_index 3 rfl rfl rfl Tryz.underlying39 ti_82 rfl rfl r hi24 hx25 fun a26 cs27 r28 d29 => ?_
  refine LP_load 4 rfl rfl rfl ti_82 ag_82 rfl r28 d29 ex10 fun vx30 r31 => ?_
  obtain rfl := Variable_rv r31
  refine LP_lit (α := Variable) (g := emp) 5 (vs := [.agg #[.string x23.Name, I x23.Levels]]) (xs := [x23]) rfl rfl rfl Tryz.underlying39 ti_82 rfl rfl ⟨⟨_, rfl, rfl⟩, trivial⟩ rfl rfl fun hx32 vx33 wx34 x35 o36 ex37 f38 => ?_
  obtain ⟨a39, c40, rfl⟩ := o36.shape
  obtain ⟨hb, H⟩ := H
  refine LP_appendf (α := Variable) 6 rfl rfl rfl Tryz.underlying39 ti_82 rfl rfl rfl o (ex9.ext x35) o36.readf ex37 (by first | omega | (simp only [ln] at *; omega)) (by first | omega | (simp only [ln] at *; omega)) fun hx42 vx43 wx44 o45 ex46 y dm => ?_
  obtain ⟨a47, c48, rfl⟩ := o45.shape
  refine LP_ev ok 7 [(5, .slice a47 (List.length (out ++ ([x23]))) c48)] 8 rfl rfl ?_
  refine LP_end _ rfl ?_
  refine W_region ?_
  refine LP_ev ok 0 [(21, I (wr (x + 1))), (10, I (wr (x + 1)))] 2 rfl rfl ?_
  refine LP_end _ rfl ?_
  have f50 := dm.fresh f (X15.stepx x35).size
  exact ⟨(out ++ ([x23]), wr (x + 1)), ⟨H.1, _, .slice a47 (List.length (out ++ ([x23]))) c48, hx42, env_eq ⟨rfl, rfl, rfl, rfl, rfl, trivial⟩, ((X15.stepx x35).step y (f.dom _)), o45, ex46, f50, ((ex10.ext x35).but y d), ((ex11.ext x35).but y d14), (DomLe.dj dm d (ex10.ext x35)), (DomLe.dj dm d14 (ex11.ext x35))⟩, H.2⟩
 have H := H.2 hc
 refine W_exit ?_
 refine (if_pos rfl).mpr ?_
 refine W_seq (W_region ?_)
 refine LP_ev ok 0 [(22, sl a12 out c13), (4, sl a12 out c13)] 2 rfl rfl ?_
 refine LP_end _ rfl (W_ret ?_)
 exact ⟨_, Ret_of [sl a12 out c13] ⟨⟨rfl, rfl⟩, trivial⟩, _, _, _, H, rfl, X15.ext, o, ex9, f⟩

theorem spec_sCount_w (sx : List Variable) (Q : Int → Prop) (H : spec_sCount sx Q) (w : World) {vx : Value} {hx : PH} (r : RS hx vx sx) (ex : Sub hx w) :
  CallsTo Tryz.prog 135 #[vx] w fun v w' => ∃ r0, Q r0 ∧ v = I r0 ∧ Ext w w' := by
 obtain ⟨a, c, rfl⟩ := r.shape
 refine enter (args := [sl a sx c]) 18 Tryz.func135 rfl rfl rfl ?_
 refine W_forget [(0, sl a sx c)] ⟨rfl, trivial⟩ fun ρ => ?_
 have X := But.refl emp w
 refine W_seq (W_region ?_)
 refine LP_ev ok 0 [(2, I 0)] 1 rfl rfl ?_
 refine LP_end _ rfl (W_seq (W_region ?_))
 refine LP_ev ok 0 [(3, I 1)] 1 rfl rfl ?_
 refine LP_end _ rfl (W_seq ?_)
 refine W_seq (W_region ?_)
 refine LP_ev ok 0 [(6, sl a sx c), (7, I (ln sx)), (8, I 0)] 3 rfl rfl ?_
 refine LP_end _ rfl ?_
 refine W_block ?_
 obtain ⟨J, m, Hx, H⟩ := H
 refine W_loop (S := Int × Int) (fun s ρ' w' => J s.1 s.2 ∧ ∃ (ρ : Env), ρ' = setAll [(3, I s.1), (6, sl a sx c), (7, I (ln sx)), (8, I s.2)] ρ ∧ But emp w w' ∧ Sub hx w') (fun s => m s.1 s.2) (1, 0) ⟨Hx, _, env_eq ⟨rfl, rfl, rfl, rfl, trivial⟩, X, ex⟩ ?_
 rintro ⟨n, x⟩ _ wx ⟨Hi, ρ, rfl, X2, ex1⟩
 have H := H n x Hi
 refine W_seq (W_region ?_)
 refine LP_ev ok 0 [(9, .bool (decide (x < (ln sx))))] 1 rfl rfl ?_
 refine LP_end _ rfl (W_seq ?_)
 refine W_cond (decide (x < (ln sx))) rfl (fun hc => ?_) (fun hc => ?_)
 ·have H := H.1 hc
  refine W_skip ?_
  refine W_seq ?_
  refine W_block ?_
  refine W_seq (W_region ?_)
  obtain ⟨x3, hi, hx4, H⟩ := H
  refine LP_index 0 rfl rfl rfl Tryz.underlying39 ti_82 rfl rfl r hi hx4 fun a5 cs r6 d => ?_
  refine LP_load 1 rfl rfl rfl ti_82 ag_82 rfl r6 d ex1 fun vx7 r8 => ?_
  obtain rfl := Variable_rv r8
  refine LP_alloc 2 rfl rfl rfl ti_82 rfl fun b wx9 x10 ex11 f => ?_
  refine LP_stbox 3 (vs := [.string x3.Name, I x3.Levels]) (cs' := [.string x3.Name, I x3.Levels]) rfl rfl rfl ti_82 rfl rfl rfl rfl rfl ex11 rfl rfl fun wx12 ex13 y => ?_
  refine LP_end _ rfl ?_
  refine W_region ?_
  refine LP_ev ok 0 [(12, I n), (13, .pointer (some ⟨b, 1, none⟩))] 2 rfl rfl ?_
  refine LP_ldbox 2 (v := I x3.Levels) rfl rfl rfl ti_3 ag_3 (fun _ => rfl) rfl ex13 rfl rfl ?_
  refine LP_ev ok 3 [(15, I (wr (n * x3.Levels))), (3, I (wr (n * x3.Levels)))] 5 rfl rfl ?_
  refine LP_end _ rfl ?_
  refine W_region ?_
  refine LP_ev ok 0 [(16, I (wr (x + 1))), (8, I (wr (x + 1)))] 2 rfl rfl ?_
  refine LP_end _ rfl ?_
  have f14 := f.mono X2.size
  exact ⟨(wr (n * x3.Levels), wr (x + 1)), ⟨H.1, _, env_eq ⟨rfl, rfl, rfl, rfl, trivial⟩, ((X2.stepx x10).step y (f14.dom _)), ((ex1.ext x10).but y (Dj.of_fresh ex1 f).symm)⟩, H.2⟩
 have H := H.2 hc
 refine W_exit ?_
 refine (if_pos rfl).mpr ?_
 refine W_seq (W_region ?_)
 refine LP_ev ok 0 [(17, I n), (2, I n)] 2 rfl rfl ?_
 refine LP_end _ rfl (W_ret ?_)
 exact ⟨_, Ret_of [I n] ⟨⟨rfl, rfl⟩, trivial⟩, _, H, rfl, X2.ext⟩

theorem spec_uCount_w (g : Geo) (sx : List Variable) (t : Table) (Q : Int → Prop) (H : spec_uCount g sx t Q) (w : World) {vx : Value} {hx : PH} (r : RS hx vx g.Parents) (ex : Sub hx w) {vx1 : Value} {hx2 : PH} (r3 : RS hx2 vx1 sx) (ex4 : Sub hx2 w) {vx7 : Value} {hx8 : PH} (r9 : RS hx8 vx7 t.Vars) (ex10 : Sub hx8 w) {vx13 : Value} {hx14 : PH} (r15 : RS hx14 vx13 t.Where) (ex16 : Sub hx14 w) :
  CallsTo Tryz.prog 103 #[.agg #[vx], vx1, .agg #[I t.Level, vx7, vx13, I t.Sum]] w fun v w' => ∃ r0, Q r0 ∧ v = I r0 ∧ Ext w w' := by
 obtain ⟨a, c, rfl⟩ := r.shape
 obtain ⟨a5, c6, rfl⟩ := r3.shape
 obtain ⟨a11, c12, rfl⟩ := r9.shape
 obtain ⟨a17, c18, rfl⟩ := r15.shape
 refine enter (args := [.agg #[sl a g.Parents c], sl a5 sx c6, .agg #[I t.Level, sl a11 t.Vars c12, sl a17 t.Where c18, I t.Sum]]) 18 Tryz.func103 rfl rfl rfl ?_
 refine W_forget [(0, .agg #[sl a g.Parents c]), (1, sl a5 sx c6), (2, .agg #[I t.Level, sl a11 t.Vars c12, sl a17 t.Where c18, I t.Sum])] ⟨rfl, rfl, rfl, trivial⟩ fun ρ => ?_
 have X := But.refl emp w
 refine W_seq (W_region ?_)
 refine LP_box 0 (cs := [sl a g.Parents c]) rfl rfl rfl rfl rfl fun b wx x ex19 f => ?_
 refine LP_box 1 (cs := [I t.Level, sl a11 t.Vars c12, sl a17 t.Where c18, I t.Sum]) rfl rfl rfl rfl rfl fun b20 wx21 x22 ex23 f24 => ?_
 refine LP_ev ok 2 [(6, I 0)] 3 rfl rfl ?_
 refine LP_end _ rfl (W_seq ?_)
 refine W_open mix fun wx25 x26 => ?_
 refine AP_game 10 [[], [], [1], [0, 1, 2], [0, 1, 2, 3], [], [], [6], [0, 1, 2, 3, 5, 6, 7], [0, 1, 2, 3, 5, 6, 7, 8], [0, 1, 2, 3, 4, 5, 6, 7, 8, 9], [0, 1, 2, 3, 4, 5, 6, 7, 8, 9, 10]] [[(3, none)], [(5, none)], [(8, some 1)], [(7, some 0), (9, some 2)], [(10, some 3)], [(1, none)], [(5, none)], [(13, some 6)], [(12, some 5), (14, some 7)], [(15, some 8)]] [(6, none), (11, some 4), (16, some 9)] [(0, false), (1, false), (2, false), (5, false), (6, false), (7, false), (3, true), (4, false), (8, true), (9, false)] (by kernel_rfl) (by kernel_rfl) ?_
 refine GS_r1 [(3, pb b)] (.agg #[sl a g.Parents c]) rfl rfl (fun _ h => h) (fun _ w e => ex_ldbox rfl ti_37 ag_37 (fun h => by cases h) rfl e rfl rfl) (ex19.ext (x22.trans x26)) ?_
 refine GS_ev ok [(5, pb b20)] (pb b20) rfl rfl (fun _ h => h) (fun _ => rfl) ?_
 have ex28 := (ex23.ext x26)
 refine GS_r1 [(8, pb b20)] (I t.Level) rfl rfl (fun _ h => h) (fun _ w e => ex_ldbox rfl ti_3 ag_3 (fun _ => rfl) rfl e rfl rfl) ex28 ?_
 refine GS_ev ok [(1, sl a5 sx c6)] (sl a5 sx c6) rfl rfl (fun _ h => h) (fun _ => rfl) ?_
 refine GS_ev ok [(5, pb b20)] (.pointer (some ⟨b20, 1, none⟩)) rfl rfl (fun _ h => h) (fun _ => rfl) ?_
 refine GS_r1 [(13, .pointer (some ⟨b20, 1, none⟩))] (sl a11 t.Vars c12) rfl rfl (fun _ h => h) (fun _ w e => ex_ldbox rfl ti_22 ag_22 (fun _ => rfl) rfl e rfl rfl) ex28 ?_
 refine GS_lp [(7, .agg #[sl a g.Parents c]), (9, I t.Level)] rfl rfl (fun _ h => h) rfl fun ρ wx29 x30 => ?_
 refine LP_call 0 rfl rfl rfl cal_130 rfl (spec_gLevel_w _ _ _ H wx29 r (ex.ext (((x.trans x22).trans x26).trans x30))) ?_
 rintro _ wx34 ⟨r31, vx36, hx37, H, rfl, x35, o, ex38, f39⟩
 obtain ⟨a40, c41, rfl⟩ := o.shape
 refine LP_gs ⟨⟨.inr (ex28.ext (x30.trans x35)), .inl rfl, .inl rfl, trivial⟩, ?_⟩
 refine GS_ev ok [(10, sl a40 r31 c41)] (I (ln r31)) rfl rfl (fun _ h => h) (fun _ => rfl) ?_
 refine GS_lp [(12, sl a5 sx c6), (14, sl a11 t.Vars c12)] rfl rfl (fun _ h => h) rfl fun ρ wx44 x45 => ?_
 have xc47 := (((((x.trans x22).trans x26).trans x30).trans x35).trans x45)
 refine LP_call 0 rfl rfl rfl cal_136 rfl (spec_sPart_w _ _ _ H wx44 r3 (ex4.ext xc47) r9 (ex10.ext xc47)) ?_
 rintro _ wx50 ⟨r46, vx52, hx53, H, rfl, x51, o54, ex55, f56⟩
 obtain ⟨a57, c58, rfl⟩ := o54.shape
 refine LP_gs ⟨⟨.inl rfl, .inl rfl, .inl rfl, trivial⟩, ?_⟩
 obtain ⟨r59, Hd, H⟩ := H
 refine GS_q [(15, sl a57 r46 c58)] (I r59) [hx53] [sl a57 r46 c58] rfl rfl (fun _ h => h) rfl cal_135 (fun _ => rfl) (fun w e => (spec_sCount_w _ _ Hd w o54.readf e.1).mono (fun _ _ h => by obtain ⟨_, rfl, rfl, x⟩ := h; exact ⟨rfl, x⟩)) ⟨ex55, trivial⟩ ?_
 intro wx60 x61 ρ hn
 refine AP_forget [(6, I 0), (11, I (ln r31)), (16, I r59)] (by exact hn) fun ρ => ?_
 refine AP_tail 10 [[], [], [1], [0, 1, 2], [0, 1, 2, 3], [], [], [6], [0, 1, 2, 3, 5, 6, 7], [0, 1, 2, 3, 5, 6, 7, 8], [0, 1, 2, 3, 4, 5, 6, 7, 8, 9], [0, 1, 2, 3, 4, 5, 6, 7, 8, 9, 10]] (by kernel_rfl) ?_
 refine LP_ev ok 10 [(17, I (wr ((ln r31) * r59))), (6, I (wr ((ln r31) * r59)))] 12 rfl rfl ?_
 refine LP_end _ rfl (W_ret ?_)
 exact ⟨_, Ret_of [I (wr ((ln r31) * r59))] ⟨⟨rfl, rfl⟩, trivial⟩, _, H, rfl, (X.stepx (((((((x.trans x22).trans x26).trans x30).trans x35).trans x45).trans x51).trans x61)).ext⟩

theorem spec_uGood_w (g : Geo) (sx : List Variable) (t : Table) (Q : Bool → Prop) (H : spec_uGood g sx t Q) (w : World) {vx : Value} {hx : PH} (r : RS hx vx g.Parents) (ex : Sub hx w) {vx1 : Value} {hx2 : PH} (r3 : RS hx2 vx1 sx) (ex4 : Sub hx2 w) {vx7 : Value} {hx8 : PH} (r9 : RS hx8 vx7 t.Vars) (ex10 : Sub hx8 w) {vx13 : Value} {hx14 : PH} (r15 : RS hx14 vx13 t.Where) (ex16 : Sub hx14 w) :
  CallsTo Tryz.prog 101 #[.agg #[vx], vx1, .agg #[I t.Level, vx7, vx13, I t.Sum]] w fun v w' => ∃ r0, Q r0 ∧ v = .bool r0 ∧ Ext w w' := by
 obtain ⟨a, c, rfl⟩ := r.shape
 obtain ⟨a5, c6, rfl⟩ := r3.shape
 obtain ⟨a11, c12, rfl⟩ := r9.shape
 obtain ⟨a17, c18, rfl⟩ := r15.shape
 refine enter (args := [.agg #[sl a g.Parents c], sl a5 sx c6, .agg #[I t.Level, sl a11 t.Vars c12, sl a17 t.Where c18, I t.Sum]]) 53 Tryz.func101 rfl rfl rfl ?_
 refine W_forget [(0, .agg #[sl a g.Parents c]), (1, sl a5 sx c6), (2, .agg #[I t.Level, sl a11 t.Vars c12, sl a17 t.Where c18, I t.Sum])] ⟨rfl, rfl, rfl, trivial⟩ fun ρ => ?_
 have X := But.refl emp w
 refine W_seq (W_region ?_)
 refine LP_box 0 (cs := [sl a g.Parents c]) rfl rfl rfl rfl rfl fun b wx x ex19 f => ?_
 refine LP_box 1 (cs := [I t.Level, sl a11 t.Vars c12, sl a17 t.Where c18, I t.Sum]) rfl rfl rfl rfl rfl fun b20 wx21 x22 ex23 f24 => ?_
 refine LP_ev ok 2 [(6, .bool false)] 3 rfl rfl ?_
 refine LP_end _ rfl (W_seq ?_)
 obtain ⟨k, hk, H⟩ := jn_elim H
 refine W_join2 (S := Bool) (fun s ρ' w' => k s ∧ ∃ (ρ : Env), ρ' = setAll [(1, sl a5 sx c6), (3, pb b), (5, pb b20), (47, .bool s)] ρ ∧ But emp w w' ∧ Sub hx w' ∧ Sub hx2 w' ∧ Sub hx8 w' ∧ Sub hx14 w' ∧ Sub (bx b 37 [sl a g.Parents c]) w' ∧ Sub (bx b20 41 [I t.Level, sl a11 t.Vars c12, sl a17 t.Where c18, I t.Sum]) w') ?_ ?_
 ·refine W_region ?_
  have ex34 := (ex19.ext x22)
  refine LP_ldbox 0 (v := .agg #[sl a g.Parents c]) rfl rfl rfl ti_37 ag_37 (fun h => by cases h) rfl ex34 rfl rfl ?_
  have xc := (x.trans x22)
  have ex36 := (ex.ext xc)
  refine LP_call 1 rfl rfl rfl cal_95 rfl (spec_gGood_w _ _ H wx21 r ex36) ?_
  rintro _ wx37 ⟨r35, H, rfl, x38⟩
  refine LP_ev ok 2 [(9, .bool (!r35)), (10, .bool (!r35))] 4 rfl rfl ?_
  refine LP_split 10 (!r35) rfl (fun hc => ?_) (fun hc => ?_)
  ·have H := H.1 hc
   refine LP_ev ok 4 [(11, undef), (12, undef), (13, undef), (14, .bool true), (15, .bool true), (16, undef), (17, undef), (18, undef), (19, undef), (20, undef), (21, undef), (22, .bool true), (23, .bool true), (24, undef), (25, undef), (26, undef), (27, undef), (28, undef), (29, undef), (30, undef), (31, .bool true), (32, .bool true), (33, undef), (34, undef), (35, undef), (36, undef), (37, undef), (38, .bool true), (39, .bool true), (40, undef), (41, undef), (42, undef), (43, undef), (44, undef), (45, undef), (46, undef), (47, .bool true)] 41 rfl rfl ?_
   refine LP_end _ rfl ?_
   try refine W_forget [(1, sl a5 sx c6), (3, pb b), (5, pb b20), (47, .bool true)] ⟨rfl, rfl, rfl, rfl, trivial⟩ fun ρ => ?_
   have xc39 := (xc.trans x38)
   exact ⟨true, H, _, env_eq ⟨rfl, rfl, rfl, rfl, trivial⟩, (X.stepx xc39), (ex36.ext x38), (ex4.ext xc39), (ex10.ext xc39), (ex16.ext xc39), (ex34.ext x38), (ex23.ext x38)⟩
  have H := H.2 hc
  refine LP_ev ok 4 [(11, sl a5 sx c6)] 5 rfl rfl ?_
  have xc48 := (xc.trans x38)
  have ex49 := (ex4.ext xc48)
  refine LP_call 5 rfl rfl rfl cal_129 rfl (spec_sGood_w _ _ H wx37 r3 ex49) ?_
  rintro _ wx50 ⟨r47, H, rfl, x51⟩
  refine LP_ev ok 6 [(13, .bool (!r47)), (14, .bool (!r47)), (15, .bool (!r47))] 9 rfl rfl ?_
  refine LP_split 15 (!r47) rfl (fun hc52 => ?_) (fun hc52 => ?_)
  ·have H := H.1 hc52
   refine LP_ev ok 9 [(16, undef), (17, undef), (18, undef), (19, undef), (20, undef), (21, undef), (22, .bool true), (23, .bool true), (24, undef), (25, undef), (26, undef), (27, undef), (28, undef), (29, undef), (30, undef), (31, .bool true), (32, .bool true), (33, undef), (34, undef), (35, undef), (36, undef), (37, undef), (38, .bool true), (39, .bool true), (40, undef), (41, undef), (42, undef), (43, undef), (44, undef), (45, undef), (46, undef), (47, .bool true)] 41 rfl rfl ?_
   refine LP_end _ rfl ?_
   try refine W_forget [(1, sl a5 sx c6), (3, pb b), (5, pb b20), (47, .bool true)] ⟨rfl, rfl, rfl, rfl, trivial⟩ fun ρ => ?_
   have xc53 := (xc48.trans x51)
   have xc55 := (x38.trans x51)
   exact ⟨true, H, _, env_eq ⟨rfl, rfl, rfl, rfl, trivial⟩, (X.stepx xc53), (ex36.ext xc55), (ex49.ext x51), (ex10.ext xc53), (ex16.ext xc53), (ex34.ext xc55), (ex23.ext xc55)⟩
  have H := H.2 hc52
  have xc62 := (x38.trans x51)
  have ex63 := (ex34.ext xc62)
  refine LP_ldbox 9 (v := .agg #[sl a g.Parents c]) rfl rfl rfl ti_37 ag_37 (fun h => by cases h) rfl ex63 rfl rfl ?_
  refine LP_ev ok 10 [(17, pb b20)] 11 rfl rfl ?_
  have ex64 := (ex23.ext xc62)
  refine LP_ldbox 11 (v := I t.Level) rfl rfl rfl ti_3 ag_3 (fun _ => rfl) rfl ex64 rfl rfl ?_
  have ex66 := (ex36.ext xc62)
  refine LP_call 12 rfl rfl rfl cal_130 rfl (spec_gLevel_w _ _ _ H wx50 r ex66) ?_
  rintro _ wx67 ⟨r65, vx69, hx70, H, rfl, x68, o, ex71, f72⟩
  obtain ⟨a73, c74, rfl⟩ := o.shape
  refine LP_ev ok 13 [(20, I (ln r65)), (21, .bool ((ln r65) == 0)), (22, .bool ((ln r65) == 0)), (23, .bool ((ln r65) == 0))] 17 rfl rfl ?_
  refine LP_split 23 ((ln r65) == 0) rfl (fun hc75 => ?_) (fun hc75 => ?_)
  ·have H := H.1 hc75
   refine LP_ev ok 17 [(24, undef), (25, undef), (26, undef), (27, undef), (28, undef), (29, undef), (30, undef), (31, .bool true), (32, .bool true), (33, undef), (34, undef), (35, undef), (36, undef), (37, undef), (38, .bool true), (39, .bool true), (40, undef), (41, undef), (42, undef), (43, undef), (44, undef), (45, undef), (46, undef), (47, .bool true)] 41 rfl rfl ?_
   refine LP_end _ rfl ?_
   try refine W_forget [(1, sl a5 sx c6), (3, pb b), (5, pb b20), (47, .bool true)] ⟨rfl, rfl, rfl, rfl, trivial⟩ fun ρ => ?_
   have xc76 := ((((x.trans x22).trans x38).trans x51).trans x68)
   exact ⟨true, H, _, env_eq ⟨rfl, rfl, rfl, rfl, trivial⟩, (X.stepx xc76), (ex66.ext x68), (ex49.ext (x51.trans x68)), (ex10.ext xc76), (ex16.ext xc76), (ex63.ext x68), (ex64.ext x68)⟩
  have H := H.2 hc75
  refine LP_ev ok 17 [(24, .pointer (some ⟨b20, 1, none⟩))] 18 rfl rfl ?_
  have ex85 := (ex64.ext x68)
  refine LP_ldbox 18 (v := sl a11 t.Vars c12) rfl rfl rfl ti_22 ag_22 (fun _ => rfl) rfl ex85 rfl rfl ?_
  refine LP_ev ok 19 [(26, sl a5 sx c6), (27, I (ln sx)), (28, I (wr ((ln sx) - 1)))] 22 rfl rfl ?_
  have xc87 := ((((x.trans x22).trans x38).trans x51).trans x68)
  have ex88 := (ex10.ext xc87)
  refine LP_call 22 rfl rfl rfl cal_131 rfl (spec_l1Rising_w _ _ _ _ H wx67 r9 ex88) ?_
  rintro _ wx89 ⟨r86, H, rfl, x90⟩
  refine LP_ev ok 23 [(30, .bool (!r86)), (31, .bool (!r86)), (32, .bool (!r86))] 26 rfl rfl ?_
  refine LP_split 32 (!r86) rfl (fun hc91 => ?_) (fun hc91 => ?_)
  ·have H := H.1 hc91
   refine LP_ev ok 26 [(33, undef), (34, undef), (35, undef), (36, undef), (37, undef), (38, .bool true), (39, .bool true), (40, undef), (41, undef), (42, undef), (43, undef), (44, undef), (45, undef), (46, undef), (47, .bool true)] 41 rfl rfl ?_
   refine LP_end _ rfl ?_
   try refine W_forget [(1, sl a5 sx c6), (3, pb b), (5, pb b20), (47, .bool true)] ⟨rfl, rfl, rfl, rfl, trivial⟩ fun ρ => ?_
   have xc92 := (xc87.trans x90)
   have xc94 := (x68.trans x90)
   exact ⟨true, H, _, env_eq ⟨rfl, rfl, rfl, rfl, trivial⟩, (X.stepx xc92), (ex66.ext xc94), (ex49.ext ((x51.trans x68).trans x90)), (ex88.ext x90), (ex16.ext xc92), (ex63.ext xc94), (ex85.ext x90)⟩
  have H := H.2 hc91
  refine LP_ev ok 26 [(33, sl a5 sx c6), (34, .pointer (some ⟨b20, 2, none⟩))] 28 rfl rfl ?_
  have ex102 := (ex85.ext x90)
  refine LP_ldbox 28 (v := sl a17 t.Where c18) rfl rfl rfl ti_22 ag_22 (fun _ => rfl) rfl ex102 rfl rfl ?_
  have ex105 := (ex49.ext ((x51.trans x68).trans x90))
  have xc106 := (xc87.trans x90)
  have ex107 := (ex16.ext xc106)
  refine LP_call 29 rfl rfl rfl cal_132 rfl (spec_uWhere_w _ _ _ H wx89 r3 ex105 r15 ex107) ?_
  rintro _ wx108 ⟨r103, H, rfl, x109⟩
  refine LP_ev ok 30 [(37, .bool (!r103)), (38, .bool (!r103)), (39, .bool (!r103))] 33 rfl rfl ?_
  refine LP_split 39 (!r103) rfl (fun hc110 => ?_) (fun hc110 => ?_)
  ·have H := H.1 hc110
   refine LP_ev ok 33 [(40, undef), (41, undef), (42, undef), (43, undef), (44, undef), (45, undef), (46, undef), (47, .bool true)] 41 rfl rfl ?_
   refine LP_end _ rfl ?_
   try refine W_forget [(1, sl a5 sx c6), (3, pb b), (5, pb b20), (47, .bool true)] ⟨rfl, rfl, rfl, rfl, trivial⟩ fun ρ => ?_
   have xc113 := ((x68.trans x90).trans x109)
   exact ⟨true, H, _, env_eq ⟨rfl, rfl, rfl, rfl, trivial⟩, (X.stepx (xc106.trans x109)), (ex66.ext xc113), (ex105.ext x109), (ex88.ext (x90.trans x109)), (ex107.ext x109), (ex63.ext xc113), (ex102.ext x109)⟩
  have H := H.2 hc110
  refine LP_ev ok 33 [(40, .pointer (some ⟨b20, 3, none⟩))] 34 rfl rfl ?_
  have ex121 := (ex102.ext x109)
  refine LP_ldbox 34 (v := I t.Sum) rfl rfl rfl ti_3 ag_3 (fun _ => rfl) rfl ex121 rfl rfl ?_
  refine LP_ev ok 35 [(42, sl a5 sx c6), (43, I (ln sx)), (44, I (wr ((ln sx) - 1)))] 38 rfl rfl ?_
  refine LP_call 38 rfl rfl rfl cal_75 rfl (spec_l1In_w _ _ _ _ H wx108 ) ?_
  rintro _ wx123 ⟨r122, H, rfl, x124⟩
  refine LP_ev ok 39 [(46, .bool (!r122)), (47, .bool (!r122))] 41 rfl rfl ?_
  refine LP_end _ rfl ?_
  try refine W_forget [(1, sl a5 sx c6), (3, pb b), (5, pb b20), (47, .bool (!r122))] ⟨rfl, rfl, rfl, rfl, trivial⟩ fun ρ => ?_
  have xc127 := (((x68.trans x90).trans x109).trans x124)
  have xc129 := (x109.trans x124)
  exact ⟨!r122, H, _, env_eq ⟨rfl, rfl, rfl, rfl, trivial⟩, (X.stepx (((((((x.trans x22).trans x38).trans x51).trans x68).trans x90).trans x109).trans x124)), (ex66.ext xc127), (ex105.ext xc129), (ex88.ext ((x90.trans x109).trans x124)), (ex107.ext xc129), (ex63.ext xc127), (ex121.ext x124)⟩
 rintro x25 _ wx26 ⟨H, ρ, rfl, HF⟩
 revert HF
 refine bb7 fun X33 ex27 ex28 ex29 ex30 ex31 ex32 => ?_
 subst hk
 refine W_cond (x25) rfl (fun hc136 => ?_) (fun hc136 => ?_)
 ·have H := H.1 hc136
  refine W_seq (W_region ?_)
  refine LP_ev ok 0 [(6, .bool false)] 1 rfl rfl ?_
  refine LP_end _ rfl (W_ret ?_)
  exact ⟨_, Ret_of [.bool false] ⟨⟨rfl, rfl⟩, trivial⟩, _, H, rfl, X33.ext⟩
 have H := H.2 hc136
 refine W_skip ?_
 refine W_seq (W_region ?_)
 refine LP_ldbox 0 (v := .agg #[sl a g.Parents c]) rfl rfl rfl ti_37 ag_37 (fun h => by cases h) rfl ex31 rfl rfl ?_
 refine LP_ev ok 1 [(49, sl a5 sx c6)] 2 rfl rfl ?_
 refine LP_ldbox 2 (v := .agg #[I t.Level, sl a11 t.Vars c12, sl a17 t.Where c18, I t.Sum]) rfl rfl rfl ti_41 ag_41 (fun h => by cases h) rfl ex32 rfl rfl ?_
 refine LP_call 3 rfl rfl rfl cal_103 rfl (spec_uCount_w _ _ _ _ H wx26 r ex27 r3 ex28 r9 ex29 r15 ex30) ?_
 rintro _ wx138 ⟨r137, H, rfl, x139⟩
 refine LP_ev ok 4 [(52, .bool (decide (r137 ≤ 600))), (6, .bool (decide (r137 ≤ 600)))] 6 rfl rfl ?_
 refine LP_end _ rfl (W_ret ?_)
 exact ⟨_, Ret_of [.bool (decide (r137 ≤ 600))] ⟨⟨rfl, rfl⟩, trivial⟩, _, H, rfl, (X33.stepx x139).ext⟩

theorem spec_sFits_w (sx : List Variable) (values : List Int) (Q : Bool → Prop) (H : spec_sFits sx values Q) (w : World) {vx : Value} {hx : PH} (r : RS hx vx sx) (ex : Sub hx w) {vx1 : Value} {hx2 : PH} (r3 : RS hx2 vx1 values) (ex4 : Sub hx2 w) :
  CallsTo Tryz.prog 174 #[vx, vx1] w fun v w' => ∃ r0, Q r0 ∧ v = .bool r0 ∧ Ext w w' := by
 obtain ⟨a, c, rfl⟩ := r.shape
 obtain ⟨a5, c6, rfl⟩ := r3.shape
 refine enter (args := [sl a sx c, sl a5 values c6]) 29 Tryz.func174 rfl rfl rfl ?_
 refine W_forget [(0, sl a sx c), (1, sl a5 values c6)] ⟨rfl, rfl, trivial⟩ fun ρ => ?_
 have X := But.refl emp w
 refine W_seq (W_region ?_)
 refine LP_ev ok 0 [(4, .bool false)] 1 rfl rfl ?_
 refine LP_end _ rfl (W_seq ?_)
 refine W_seq (W_region ?_)
 refine LP_ev ok 0 [(7, sl a5 values c6), (8, I (ln values)), (9, sl a sx c), (10, I (ln sx)), (11, .bool ((ln values) != (ln sx)))] 5 rfl rfl ?_
 refine LP_end _ rfl ?_
 refine W_cond ((ln values) != (ln sx)) rfl (fun hc => ?_) (fun hc => ?_)
 ·have H := H.1 hc
  refine W_seq (W_region ?_)
  refine LP_ev ok 0 [(4, .bool false)] 1 rfl rfl ?_
  refine LP_end _ rfl (W_ret ?_)
  exact ⟨_, Ret_of [.bool false] ⟨⟨rfl, rfl⟩, trivial⟩, _, H, rfl, X.ext⟩
 have H := H.2 hc
 refine W_skip ?_
 refine W_seq ?_
 refine W_seq (W_region ?_)
 refine LP_ev ok 0 [(12, sl a sx c), (13, I (ln sx)), (14, I 0)] 3 rfl rfl ?_
 refine LP_end _ rfl ?_
 refine W_block ?_
 obtain ⟨J, m, Hx, H⟩ := H
 refine W_loop (S := Int) (fun s ρ' w' => J s ∧ ∃ (ρ : Env), ρ' = setAll [(1, sl a5 values c6), (12, sl a sx c), (13, I (ln sx)), (14, I s)] ρ ∧ But emp w w' ∧ Sub hx w' ∧ Sub hx2 w') (fun s => m s) 0 ⟨Hx, _, env_eq ⟨rfl, rfl, rfl, rfl, trivial⟩, X, ex, ex4⟩ ?_
 rintro x _ wx ⟨Hi, ρ, rfl, X9, ex7, ex8⟩
 have H := H x Hi
 refine W_seq (W_region ?_)
 refine LP_ev ok 0 [(15, .bool (decide (x < (ln sx))))] 1 rfl rfl ?_
 refine LP_end _ rfl (W_seq ?_)
 refine W_cond (decide (x < (ln sx))) rfl (fun hc10 => ?_) (fun hc10 => ?_)
 ·have H := H.1 hc10
  refine W_skip ?_
  refine W_seq ?_
  refine W_block ?_
  refine W_seq (W_region ?_)
  refine LP_ev ok 0 [(16, I x)] 1 rfl rfl ?_
  obtain ⟨x11, hi, hx12, H⟩ := H
  refine LP_index 1 rfl rfl rfl Tryz.underlying39 ti_82 rfl rfl r hi hx12 fun a13 cs r14 d => ?_
  refine LP_load 2 rfl rfl rfl ti_82 ag_82 rfl r14 d ex7 fun vx15 r16 => ?_
  obtain rfl := Variable_rv r16
  refine LP_alloc 3 rfl rfl rfl ti_82 rfl fun b wx17 x18 ex19 f => ?_
  refine LP_ev ok 4 [(5, I x)] 5 rfl rfl ?_
  refine LP_stbox 5 (vs := [.string x11.Name, I x11.Levels]) (cs' := [.string x11.Name, I x11.Levels]) rfl rfl rfl ti_82 rfl rfl rfl rfl rfl ex19 rfl rfl fun wx20 ex21 y => ?_
  refine LP_end _ rfl (W_seq ?_)
  refine W_quiet mix (by kernel_rfl) ?_
  refine QP_ev ok 0 [(19, sl a5 values c6), (20, I x)] 2 rfl rfl ?_
  obtain ⟨x22, hi23, hx24, H⟩ := H
  refine QP_index 2 rfl rfl rfl Tryz.underlying22 ti_3 rfl rfl r3 hi23 hx24 fun a25 cs26 r27 d28 => ?_
  have ex29 := ((ex8.ext x18).but y (Dj.of_fresh ex8 f).symm)
  refine QP_load 3 rfl rfl rfl ti_3 ag_3 rfl r27 d28 ex29 fun vx30 r31 => ?_
  obtain rfl := r31.int
  refine QP_ev ok 4 [(23, .pointer (some ⟨b, 1, none⟩))] 5 rfl rfl ?_
  refine QP_ldbox 5 (v := I x11.Levels) rfl rfl rfl ti_3 ag_3 (fun _ => rfl) rfl ex21 rfl rfl ?_
  refine QP_ev ok 6 [(25, I (wr (x11.Levels - 1)))] 7 rfl rfl ?_
  obtain ⟨r32, Hd, H⟩ := H
  refine QP_call (.bool r32) 7 rfl rfl rfl cal_75 rfl (fun wx33 x34 => (spec_l1In_w _ _ _ _ Hd wx33 ).mono ?_) ?_
  ·rintro _ _ ⟨_, rfl, rfl, x⟩; exact ⟨rfl, x⟩
  refine QP_ev ok 8 [(27, .bool (!r32))] 9 rfl rfl ?_
  refine QP_end _ rfl fun wx35 x36 => ?_
  refine W_cond (!r32) rfl (fun hc37 => ?_) (fun hc37 => ?_)
  ·have H := H.1 hc37
   refine W_seq (W_region ?_)
   refine LP_ev ok 0 [(4, .bool false)] 1 rfl rfl ?_
   refine LP_end _ rfl (W_ret ?_)
   have f38 := f.mono X9.size
   exact ⟨_, Ret_of [.bool false] ⟨⟨rfl, rfl⟩, trivial⟩, _, H, rfl, (((X9.stepx x18).step y (f38.dom _)).stepx x36).ext⟩
  have H := H.2 hc37
  refine W_skip ?_
  refine W_region ?_
  refine LP_ev ok 0 [(28, I (wr (x + 1))), (14, I (wr (x + 1)))] 2 rfl rfl ?_
  refine LP_end _ rfl ?_
  have f40 := f.mono X9.size
  exact ⟨wr (x + 1), ⟨H.1, _, env_eq ⟨rfl, rfl, rfl, rfl, trivial⟩, (((X9.stepx x18).step y (f40.dom _)).stepx x36), (((ex7.ext x18).but y (Dj.of_fresh ex7 f).symm).ext x36), (ex29.ext x36)⟩, H.2⟩
 have H := H.2 hc10
 refine W_exit ?_
 refine (if_pos rfl).mpr ?_
 refine W_seq (W_region ?_)
 refine LP_ev ok 0 [(4, .bool true)] 1 rfl rfl ?_
 refine LP_end _ rfl (W_ret ?_)
 exact ⟨_, Ret_of [.bool true] ⟨⟨rfl, rfl⟩, trivial⟩, _, H, rfl, X9.ext⟩

theorem spec_rGood_w (sx : List Variable) (r1 : Record) (Q : Bool → Prop) (H : spec_rGood sx r1 Q) (w : World) {vx : Value} {hx : PH} (r : RS hx vx sx) (ex : Sub hx w) {vx2 : Value} {hx3 : PH} (r4 : RS hx3 vx2 r1.Values) (ex5 : Sub hx3 w) :
  CallsTo Tryz.prog 171 #[vx, .agg #[I r1.Area, I r1.House, vx2]] w fun v w' => ∃ r0, Q r0 ∧ v = .bool r0 ∧ Ext w w' := by
 obtain ⟨a, c, rfl⟩ := r.shape
 obtain ⟨a6, c7, rfl⟩ := r4.shape
 refine enter (args := [sl a sx c, .agg #[I r1.Area, I r1.House, sl a6 r1.Values c7]]) 19 Tryz.func171 rfl rfl rfl ?_
 refine W_forget [(0, sl a sx c), (1, .agg #[I r1.Area, I r1.House, sl a6 r1.Values c7])] ⟨rfl, rfl, trivial⟩ fun ρ => ?_
 have X := But.refl emp w
 refine W_seq (W_region ?_)
 refine LP_box 0 (cs := [I r1.Area, I r1.House, sl a6 r1.Values c7]) rfl rfl rfl rfl rfl fun b wx x ex8 f => ?_
 refine LP_ev ok 1 [(4, .bool false)] 2 rfl rfl ?_
 refine LP_end _ rfl ?_
 obtain ⟨k, hk, H⟩ := jn_elim H
 refine W_join2 (S := Bool) (fun s ρ' w' => k s ∧ ∃ (ρ : Env), ρ' = setAll [(4, .bool s)] ρ ∧ But emp w w') ?_ ?_
 ·refine W_region ?_
  refine LP_ev ok 0 [(5, pb b)] 1 rfl rfl ?_
  refine LP_ldbox 1 (v := I r1.Area) rfl rfl rfl ti_3 ag_3 (fun _ => rfl) rfl ex8 rfl rfl ?_
  refine LP_call 2 rfl rfl rfl cal_75 rfl (spec_l1In_w _ _ _ _ H wx ) ?_
  rintro _ wx13 ⟨r12, H, rfl, x14⟩
  refine LP_ev ok 3 [(8, .bool r12)] 4 rfl rfl ?_
  refine LP_split 8 (r12) rfl (fun hc => ?_) (fun hc => ?_)
  ·have H := H.1 hc
   refine LP_ev ok 4 [(9, .pointer (some ⟨b, 1, none⟩))] 5 rfl rfl ?_
   have ex15 := (ex8.ext x14)
   refine LP_ldbox 5 (v := I r1.House) rfl rfl rfl ti_3 ag_3 (fun _ => rfl) rfl ex15 rfl rfl ?_
   refine LP_call 6 rfl rfl rfl cal_75 rfl (spec_l1In_w _ _ _ _ H wx13 ) ?_
   rintro _ wx17 ⟨r16, H, rfl, x18⟩
   refine LP_ev ok 7 [(12, .bool r16), (13, .bool r16)] 9 rfl rfl ?_
   refine LP_split 13 (r16) rfl (fun hc19 => ?_) (fun hc19 => ?_)
   ·have H := H.1 hc19
    refine LP_ev ok 9 [(14, sl a sx c), (15, .pointer (some ⟨b, 2, none⟩))] 11 rfl rfl ?_
    refine LP_ldbox 11 (v := sl a6 r1.Values c7) rfl rfl rfl ti_22 ag_22 (fun _ => rfl) rfl (ex15.ext x18) rfl rfl ?_
    have xc := ((x.trans x14).trans x18)
    refine LP_call 12 rfl rfl rfl cal_174 rfl (spec_sFits_w _ _ _ H wx17 r (ex.ext xc) r4 (ex5.ext xc)) ?_
    rintro _ wx24 ⟨r21, H, rfl, x25⟩
    refine LP_ev ok 13 [(18, .bool r21), (4, .bool r21)] 15 rfl rfl ?_
    exact LP_end _ rfl ⟨r21, H, _, env_eq ⟨rfl, trivial⟩, (X.stepx (xc.trans x25))⟩
   have H := H.2 hc19
   refine LP_ev ok 9 [(14, undef), (15, undef), (16, undef), (17, undef), (18, .bool false), (4, .bool false)] 15 rfl rfl ?_
   exact LP_end _ rfl ⟨false, H, _, env_eq ⟨rfl, trivial⟩, (X.stepx ((x.trans x14).trans x18))⟩
  have H := H.2 hc
  refine LP_ev ok 4 [(9, undef), (10, undef), (11, undef), (12, .bool false), (13, .bool false), (14, undef), (15, undef), (16, undef), (17, undef), (18, .bool false), (4, .bool false)] 15 rfl rfl ?_
  exact LP_end _ rfl ⟨false, H, _, env_eq ⟨rfl, trivial⟩, (X.stepx (x.trans x14))⟩
 rintro x9 _ wx10 ⟨H, ρ, rfl, X11⟩
 subst hk
 refine W_ret ?_
 exact ⟨_, Ret_of [.bool x9] ⟨⟨rfl, rfl⟩, trivial⟩, _, H, rfl, X11.ext⟩

theorem spec_dGood_w (sx : List Variable) (l : List Record) (Q : Bool → Prop) (H : spec_dGood sx l Q) (w : World) {vx : Value} {hx : PH} (r : RS hx vx sx) (ex : Sub hx w) {vx1 : Value} {hx2 : PH} (r3 : RS hx2 vx1 l) (ex4 : Sub hx2 w) :
  CallsTo Tryz.prog 163 #[vx, vx1] w fun v w' => ∃ r0, Q r0 ∧ v = .bool r0 ∧ Ext w w' := by
 obtain ⟨a, c, rfl⟩ := r.shape
 obtain ⟨a5, c6, rfl⟩ := r3.shape
 refine enter (args := [sl a sx c, sl a5 l c6]) 21 Tryz.func163 rfl rfl rfl ?_
 refine W_forget [(0, sl a sx c), (1, sl a5 l c6)] ⟨rfl, rfl, trivial⟩ fun ρ => ?_
 have X := But.refl emp w
 refine W_seq (W_region ?_)
 refine LP_ev ok 0 [(4, .bool false)] 1 rfl rfl ?_
 refine LP_end _ rfl (W_seq ?_)
 refine W_seq (W_region ?_)
 refine LP_ev ok 0 [(7, sl a5 l c6), (8, I (ln l)), (9, I 0)] 3 rfl rfl ?_
 refine LP_end _ rfl ?_
 refine W_block ?_
 obtain ⟨J, m, Hx, H⟩ := H
 refine W_loop (S := Int) (fun s ρ' w' => J s ∧ ∃ (ρ : Env), ρ' = setAll [(0, sl a sx c), (1, sl a5 l c6), (7, sl a5 l c6), (8, I (ln l)), (9, I s)] ρ ∧ But emp w w' ∧ Sub hx w' ∧ Sub hx2 w') (fun s => m s) 0 ⟨Hx, _, env_eq ⟨rfl, rfl, rfl, rfl, rfl, trivial⟩, X, ex, ex4⟩ ?_
 rintro x _ wx ⟨Hi, ρ, rfl, X9, ex7, ex8⟩
 have H := H x Hi
 refine W_seq (W_region ?_)
 refine LP_ev ok 0 [(10, .bool (decide (x < (ln l))))] 1 rfl rfl ?_
 refine LP_end _ rfl (W_seq ?_)
 refine W_cond (decide (x < (ln l))) rfl (fun hc => ?_) (fun hc => ?_)
 ·have H := H.1 hc
  refine W_skip ?_
  refine W_seq ?_
  refine W_block ?_
  refine W_seq (W_region ?_)
  obtain ⟨x10, hi, hx11, H⟩ := H
  refine LP_index 0 rfl rfl rfl Tryz.underlying84 ti_118 rfl rfl r3 hi hx11 fun a12 cs r13 d => ?_
  have d14 := d
  obtain ⟨u, rfl, r15⟩ := Record_rd d14
  obtain ⟨a16, c17, rfl⟩ := r15.shape
  refine LP_load 1 rfl rfl rfl ti_118 ag_118 rfl r13 d ex8 fun vx18 r19 => ?_
  obtain ⟨u20, rfl, r21⟩ := Record_rv r19
  obtain ⟨a22, c23, rfl⟩ := r21.shape
  refine LP_alloc 2 rfl rfl rfl ti_118 rfl fun b wx24 x25 ex26 f => ?_
  refine LP_stbox 3 (vs := [I x10.Area, I x10.House, sl a22 x10.Values c23]) (cs' := [I x10.Area, I x10.House, sl a22 x10.Values c23]) rfl rfl rfl ti_118 rfl rfl rfl rfl rfl ex26 rfl rfl fun wx27 ex28 y => ?_
  refine LP_end _ rfl (W_seq (W_region ?_))
  refine LP_ev ok 0 [(13, sl a sx c)] 1 rfl rfl ?_
  refine LP_ldbox 1 (v := .agg #[I x10.Area, I x10.House, sl a22 x10.Values c23]) rfl rfl rfl ti_118 ag_118 (fun h => by cases h) rfl ex28 rfl rfl ?_
  have ex30 := ((ex7.ext x25).but y (Dj.of_fresh ex7 f).symm)
  have ex31 := ((ex8.ext x25).but y (Dj.of_fresh ex8 f).symm)
  refine LP_call 2 rfl rfl rfl cal_171 rfl (spec_rGood_w _ _ _ H wx27 r ex30 r21 ex31) ?_
  rintro _ wx32 ⟨r29, H, rfl, x33⟩
  refine LP_ev ok 3 [(16, .bool (!r29))] 4 rfl rfl ?_
  refine LP_end _ rfl ?_
  refine W_cond (!r29) rfl (fun hc34 => ?_) (fun hc34 => ?_)
  ·have H := H.1 hc34
   refine W_seq (W_region ?_)
   refine LP_ev ok 0 [(4, .bool false)] 1 rfl rfl ?_
   refine LP_end _ rfl (W_ret ?_)
   have f35 := f.mono X9.size
   exact ⟨_, Ret_of [.bool false] ⟨⟨rfl, rfl⟩, trivial⟩, _, H, rfl, (((X9.stepx x25).step y (f35.dom _)).stepx x33).ext⟩
  have H := H.2 hc34
  refine W_skip ?_
  refine W_region ?_
  refine LP_ev ok 0 [(17, I (wr (x + 1))), (9, I (wr (x + 1)))] 2 rfl rfl ?_
  refine LP_end _ rfl ?_
  have f37 := f.mono X9.size
  exact ⟨wr (x + 1), ⟨H.1, _, env_eq ⟨rfl, rfl, rfl, rfl, rfl, trivial⟩, (((X9.stepx x25).step y (f37.dom _)).stepx x33), (ex30.ext x33), (ex31.ext x33)⟩, H.2⟩
 have H := H.2 hc
 refine W_exit ?_
 refine (if_pos rfl).mpr ?_
 refine W_seq (W_region ?_)
 refine LP_ev ok 0 [(18, sl a5 l c6), (19, I (ln l)), (20, .bool (decide ((ln l) ≤ 40))), (4, .bool (decide ((ln l) ≤ 40)))] 4 rfl rfl ?_
 refine LP_end _ rfl (W_ret ?_)
 exact ⟨_, Ret_of [.bool (decide ((ln l) ≤ 40))] ⟨⟨rfl, rfl⟩, trivial⟩, _, H, rfl, X9.ext⟩

theorem spec_dInput_w (sx : List Variable) (l : List Record) (Q : Bool → Prop) (H : spec_dInput sx l Q) (w : World) {vx : Value} {hx : PH} (r : RS hx vx sx) (ex : Sub hx w) {vx1 : Value} {hx2 : PH} (r3 : RS hx2 vx1 l) (ex4 : Sub hx2 w) :
  CallsTo Tryz.prog 133 #[vx, vx1] w fun v w' => ∃ r0, Q r0 ∧ v = .bool r0 ∧ Ext w w' := by
 obtain ⟨a, c, rfl⟩ := r.shape
 obtain ⟨a5, c6, rfl⟩ := r3.shape
 refine enter (args := [sl a sx c, sl a5 l c6]) 12 Tryz.func133 rfl rfl rfl ?_
 refine W_forget [(0, sl a sx c), (1, sl a5 l c6)] ⟨rfl, rfl, trivial⟩ fun ρ => ?_
 have X := But.refl emp w
 refine W_seq (W_region ?_)
 refine LP_ev ok 0 [(4, .bool false)] 1 rfl rfl ?_
 refine LP_end _ rfl ?_
 obtain ⟨k, hk, H⟩ := jn_elim H
 refine W_join2 (S := Bool) (fun s ρ' w' => k s ∧ ∃ (ρ : Env), ρ' = setAll [(4, .bool s)] ρ ∧ But emp w w') ?_ ?_
 ·refine W_region ?_
  refine LP_ev ok 0 [(5, sl a sx c)] 1 rfl rfl ?_
  refine LP_call 1 rfl rfl rfl cal_129 rfl (spec_sGood_w _ _ H w r ex) ?_
  rintro _ wx9 ⟨r8, H, rfl, x10⟩
  refine LP_ev ok 2 [(7, .bool r8)] 3 rfl rfl ?_
  refine LP_split 7 (r8) rfl (fun hc => ?_) (fun hc => ?_)
  ·have H := H.1 hc
   refine LP_ev ok 3 [(8, sl a sx c), (9, sl a5 l c6)] 5 rfl rfl ?_
   refine LP_call 5 rfl rfl rfl cal_163 rfl (spec_dGood_w _ _ _ H wx9 r (ex.ext x10) r3 (ex4.ext x10)) ?_
   rintro _ wx14 ⟨r11, H, rfl, x15⟩
   refine LP_ev ok 6 [(11, .bool r11), (4, .bool r11)] 8 rfl rfl ?_
   exact LP_end _ rfl ⟨r11, H, _, env_eq ⟨rfl, trivial⟩, (X.stepx (x10.trans x15))⟩
  have H := H.2 hc
  refine LP_ev ok 3 [(8, undef), (9, undef), (10, undef), (11, .bool false), (4, .bool false)] 8 rfl rfl ?_
  exact LP_end _ rfl ⟨false, H, _, env_eq ⟨rfl, trivial⟩, (X.stepx x10)⟩
 rintro x _ wx ⟨H, ρ, rfl, X7⟩
 subst hk
 refine W_ret ?_
 exact ⟨_, Ret_of [.bool x] ⟨⟨rfl, rfl⟩, trivial⟩, _, H, rfl, X7.ext⟩

theorem spec_gChildren_w (g : Geo) (i : Int) (Q : (List Int) → Prop) (H : spec_gChildren g i Q) (w : World) {vx : Value} {hx : PH} (r : RS hx vx g.Parents) (ex : Sub hx w) :
  CallsTo Tryz.prog 127 #[.agg #[vx], I i] w fun v w' => ∃ r0 u0 g0, Q r0 ∧ v = u0 ∧ Ext w w' ∧ OS 3 g0 emp u0 r0 ∧ Sub g0 w' ∧ Fresh w.heap.size g0 := by
 obtain ⟨a, c, rfl⟩ := r.shape
 refine enter (args := [.agg #[sl a g.Parents c], I i]) 25 Tryz.func127 rfl rfl rfl ?_
 refine W_forget [(0, .agg #[sl a g.Parents c]), (1, I i)] ⟨rfl, rfl, trivial⟩ fun ρ => ?_
 have X := But.refl emp w
 refine W_seq (W_region ?_)
 refine LP_box 0 (cs := [sl a g.Parents c]) rfl rfl rfl rfl rfl fun b wx x ex1 f => ?_
 refine LP_ev ok 1 [(4, .slice none 0 0)] 2 rfl rfl ?_
 refine LP_end _ rfl (W_seq (W_region ?_))
 refine LP_ev ok 0 [(5, .slice none 0 0)] 1 rfl rfl ?_
 refine LP_end _ rfl (W_seq ?_)
 refine W_seq (W_region ?_)
 refine LP_ev ok 0 [(8, pb b)] 1 rfl rfl ?_
 refine LP_ldbox 1 (v := sl a g.Parents c) rfl rfl rfl ti_22 ag_22 (fun _ => rfl) rfl ex1 rfl rfl ?_
 refine LP_ev ok 2 [(10, I (ln g.Parents)), (11, I 0)] 4 rfl rfl ?_
 refine LP_end _ rfl ?_
 refine W_block ?_
 obtain ⟨J, m, Hx, H⟩ := H
 refine W_loop (S := (List Int) × Int) (fun s ρ' w' => J s.1 s.2 ∧ ∃ (ρ : Env) (vx2 : Value) (hx3 : PH), ρ' = setAll [(1, I i), (5, vx2), (9, sl a g.Parents c), (10, I (ln g.Parents)), (11, I s.2)] ρ ∧ But emp w w' ∧ OS 3 hx3 emp vx2 s.1 ∧ Sub hx3 w' ∧ Fresh w.heap.size hx3 ∧ Sub hx w' ∧ Dj hx3 hx) (fun s => m s.1 s.2) ([], 0) ⟨Hx, _, .slice none 0 0, emp, env_eq ⟨rfl, rfl, rfl, rfl, rfl, trivial⟩, (X.stepx x), OS.nil, (emp_sub _), (emp_fresh _), (ex.ext x), (fun _ => .inl rfl)⟩ ?_
 rintro ⟨out, x6⟩ _ wx7 ⟨Hi, ρ, vx2, hx3, rfl, HF⟩
 revert HF
 refine bb6 fun X11 o ex4 f5 ex8 d => ?_
 have H := H out x6 Hi
 obtain ⟨a9, c10, rfl⟩ := o.shape
 refine W_seq (W_region ?_)
 refine LP_ev ok 0 [(12, .bool (decide (x6 < (ln g.Parents))))] 1 rfl rfl ?_
 refine LP_end _ rfl (W_seq ?_)
 refine W_cond (decide (x6 < (ln g.Parents))) rfl (fun hc => ?_) (fun hc => ?_)
 ·have H := H.1 hc
  refine W_skip ?_
  obtain ⟨k, hk, H⟩ := jn_elim H
  refine W_join2 (S := (List Int)) (fun s ρ' w' => k s ∧ ∃ (ρ : Env) (vx15 : Value) (hx16 : PH), ρ' = setAll [(1, I i), (5, vx15), (9, sl a g.Parents c), (10, I (ln g.Parents)), (11, I x6)] ρ ∧ But emp w w' ∧ OS 3 hx16 emp vx15 s ∧ Sub hx16 w' ∧ Fresh w.heap.size hx16 ∧ Sub hx w' ∧ Dj hx16 hx) ?_ ?_
  ·refine W_block ?_
   refine W_seq (W_region ?_)
   refine LP_ev ok 0 [(13, I x6)] 1 rfl rfl ?_
   obtain ⟨x26, hi, hx27, H⟩ := H
   refine LP_index 1 rfl rfl rfl Tryz.underlying22 ti_3 rfl rfl r hi hx27 fun a28 cs r29 d30 => ?_
   refine LP_load 2 rfl rfl rfl ti_3 ag_3 rfl r29 d30 ex8 fun vx31 r32 => ?_
   obtain rfl := r32.int
   refine LP_ev ok 3 [(6, I x6), (7, I x26)] 5 rfl rfl ?_
   refine LP_end _ rfl (W_seq (W_region ?_))
   refine LP_ev ok 0 [(16, I x26), (17, I i), (18, .bool (x26 == i))] 3 rfl rfl ?_
   refine LP_end _ rfl ?_
   refine W_cond (x26 == i) rfl (fun hc33 => ?_) (fun hc33 => ?_)
   ·have H := H.1 hc33
    refine W_region ?_
    refine LP_ev ok 0 [(19, sl a9 out c10), (20, I x6)] 2 rfl rfl ?_
    refine LP_lit (α := Int) (g := emp) 2 (vs := [I x6]) (xs := [x6]) rfl rfl rfl Tryz.underlying22 ti_3 rfl rfl ⟨⟨_, rfl, rfl⟩, trivial⟩ rfl rfl fun hx34 vx35 wx36 x37 o38 ex39 f40 => ?_
    obtain ⟨a41, c42, rfl⟩ := o38.shape
    obtain ⟨hb, H⟩ := H
    refine LP_appendf (α := Int) 3 rfl rfl rfl Tryz.underlying22 ti_3 rfl rfl rfl o (ex4.ext x37) o38.readf ex39 (by first | omega | (simp only [ln] at *; omega)) (by first | omega | (simp only [ln] at *; omega)) fun hx44 vx45 wx46 o47 ex48 y dm => ?_
    obtain ⟨a49, c50, rfl⟩ := o47.shape
    refine LP_ev ok 4 [(5, .slice a49 (List.length (out ++ ([x6]))) c50)] 5 rfl rfl ?_
    refine LP_end _ rfl ?_
    have f52 := dm.fresh f5 (X11.stepx x37).size
    exact ⟨out ++ ([x6]), H, _, .slice a49 (List.length (out ++ ([x6]))) c50, hx44, env_eq ⟨rfl, rfl, rfl, rfl, rfl, trivial⟩, ((X11.stepx x37).step y (f5.dom _)), o47, ex48, f52, ((ex8.ext x37).but y d), (DomLe.dj dm d (ex8.ext x37))⟩
   have H := H.2 hc33
   exact W_skip ⟨out, H, _, sl a9 out c10, hx3, env_eq ⟨rfl, rfl, rfl, rfl, rfl, trivial⟩, X11, o, ex4, f5, ex8, d⟩
  rintro out14 _ wx20 ⟨H, ρ, vx15, hx16, rfl, HF⟩
  revert HF
  refine bb6 fun X25 o17 ex18 f19 ex21 d24 => ?_
  subst hk
  obtain ⟨a22, c23, rfl⟩ := o17.shape
  refine W_region ?_
  refine LP_ev ok 0 [(23, I (wr (x6 + 1))), (11, I (wr (x6 + 1)))] 2 rfl rfl ?_
  exact LP_end _ rfl ⟨(out14, wr (x6 + 1)), ⟨H.1, _, sl a22 out14 c23, hx16, env_eq ⟨rfl, rfl, rfl, rfl, rfl, trivial⟩, X25, o17, ex18, f19, ex21, d24⟩, H.2⟩
 have H := H.2 hc
 refine W_exit ?_
 refine (if_pos rfl).mpr ?_
 refine W_seq (W_region ?_)
 refine LP_ev ok 0 [(24, sl a9 out c10), (4, sl a9 out c10)] 2 rfl rfl ?_
 refine LP_end _ rfl (W_ret ?_)
 exact ⟨_, Ret_of [sl a9 out c10] ⟨⟨rfl, rfl⟩, trivial⟩, _, _, _, H, rfl, X11.ext, o, ex4, f5⟩

theorem spec_gLeaves_w (g : Geo) (Q : (List Int) → Prop) (H : spec_gLeaves g Q) (w : World) {vx : Value} {hx : PH} (r : RS hx vx g.Parents) (ex : Sub hx w) :
  CallsTo Tryz.prog 97 #[.agg #[vx]] w fun v w' => ∃ r0 u0 g0, Q r0 ∧ v = u0 ∧ Ext w w' ∧ OS 3 g0 emp u0 r0 ∧ Sub g0 w' ∧ Fresh w.heap.size g0 := by
 obtain ⟨a, c, rfl⟩ := r.shape
 refine enter (args := [.agg #[sl a g.Parents c]]) 22 Tryz.func97 rfl rfl rfl ?_
 refine W_forget [(0, .agg #[sl a g.Parents c])] ⟨rfl, trivial⟩ fun ρ => ?_
 have X := But.refl emp w
 refine W_seq (W_region ?_)
 refine LP_box 0 (cs := [sl a g.Parents c]) rfl rfl rfl rfl rfl fun b wx x ex1 f => ?_
 refine LP_ev ok 1 [(2, .slice none 0 0)] 2 rfl rfl ?_
 refine LP_end _ rfl (W_seq (W_region ?_))
 refine LP_ev ok 0 [(3, .slice none 0 0)] 1 rfl rfl ?_
 refine LP_end _ rfl (W_seq ?_)
 refine W_seq (W_region ?_)
 refine LP_ev ok 0 [(5, pb b)] 1 rfl rfl ?_
 refine LP_ldbox 1 (v := sl a g.Parents c) rfl rfl rfl ti_22 ag_22 (fun _ => rfl) rfl ex1 rfl rfl ?_
 refine LP_ev ok 2 [(7, I (ln g.Parents)), (8, I 0)] 4 rfl rfl ?_
 refine LP_end _ rfl ?_
 refine W_block ?_
 obtain ⟨J, m, Hx, H⟩ := H
 refine W_loop (S := (List Int) × Int) (fun s ρ' w' => J s.1 s.2 ∧ ∃ (ρ : Env) (vx2 : Value) (hx3 : PH), ρ' = setAll [(1, pb b), (3, vx2), (7, I (ln g.Parents)), (8, I s.2)] ρ ∧ But emp w w' ∧ OS 3 hx3 emp vx2 s.1 ∧ Sub hx3 w' ∧ Fresh w.heap.size hx3 ∧ Sub hx w' ∧ Sub (bx b 37 [sl a g.Parents c]) w' ∧ Dj hx3 hx ∧ Dj hx3 (bx b 37 [sl a g.Parents c])) (fun s => m s.1 s.2) ([], 0) ⟨Hx, _, .slice none 0 0, emp, env_eq ⟨rfl, rfl, rfl, rfl, trivial⟩, (X.stepx x), OS.nil, (emp_sub _), (emp_fresh _), (ex.ext x), ex1, (fun _ => .inl rfl), (fun _ => .inl rfl)⟩ ?_
 rintro ⟨out, x6⟩ _ wx7 ⟨Hi, ρ, vx2, hx3, rfl, HF⟩
 revert HF
 refine bb8 fun X13 o ex4 f5 ex8 ex9 d d12 => ?_
 have H := H out x6 Hi
 obtain ⟨a10, c11, rfl⟩ := o.shape
 refine W_seq (W_region ?_)
 refine LP_ev ok 0 [(9, .bool (decide (x6 < (ln g.Parents))))] 1 rfl rfl ?_
 refine LP_end _ rfl (W_seq ?_)
 refine W_cond (decide (x6 < (ln g.Parents))) rfl (fun hc => ?_) (fun hc => ?_)
 ·have H := H.1 hc
  refine W_skip ?_
  obtain ⟨k, hk, H⟩ := jn_elim H
  refine W_join2 (S := (List Int)) (fun s ρ' w' => k s ∧ ∃ (ρ : Env) (vx17 : Value) (hx18 : PH), ρ' = setAll [(1, pb b), (3, vx17), (7, I (ln g.Parents)), (8, I x6)] ρ ∧ But emp w w' ∧ OS 3 hx18 emp vx17 s ∧ Sub hx18 w' ∧ Fresh w.heap.size hx18 ∧ Sub hx w' ∧ Sub (bx b 37 [sl a g.Parents c]) w' ∧ Dj hx18 hx ∧ Dj hx18 (bx b 37 [sl a g.Parents c])) ?_ ?_
  ·refine W_block ?_
   refine W_seq (W_region ?_)
   refine LP_ev ok 0 [(10, I x6), (4, I x6)] 2 rfl rfl ?_
   refine LP_end _ rfl (W_seq (W_region ?_))
   refine LP_ldbox 0 (v := .agg #[sl a g.Parents c]) rfl rfl rfl ti_37 ag_37 (fun h => by cases h) rfl ex9 rfl rfl ?_
   refine LP_ev ok 1 [(12, I x6)] 2 rfl rfl ?_
   refine LP_call 2 rfl rfl rfl cal_127 rfl (spec_gChildren_w _ _ _ H wx7 r ex8) ?_
   rintro _ wx31 ⟨r30, vx33, hx34, H, rfl, x32, o35, ex36, f37⟩
   obtain ⟨a38, c39, rfl⟩ := o35.shape
   refine LP_ev ok 3 [(14, I (ln r30)), (15, .bool ((ln r30) == 0))] 5 rfl rfl ?_
   refine LP_end _ rfl ?_
   refine W_cond ((ln r30) == 0) rfl (fun hc40 => ?_) (fun hc40 => ?_)
   ·have H := H.1 hc40
    refine W_region ?_
    refine LP_ev ok 0 [(16, sl a10 out c11), (17, I x6)] 2 rfl rfl ?_
    refine LP_lit (α := Int) (g := emp) 2 (vs := [I x6]) (xs := [x6]) rfl rfl rfl Tryz.underlying22 ti_3 rfl rfl ⟨⟨_, rfl, rfl⟩, trivial⟩ rfl rfl fun hx41 vx42 wx43 x44 o45 ex46 f47 => ?_
    obtain ⟨a48, c49, rfl⟩ := o45.shape
    have xc := (x32.trans x44)
    obtain ⟨hb, H⟩ := H
    refine LP_appendf (α := Int) 3 rfl rfl rfl Tryz.underlying22 ti_3 rfl rfl rfl o (ex4.ext xc) o45.readf ex46 (by first | omega | (simp only [ln] at *; omega)) (by first | omega | (simp only [ln] at *; omega)) fun hx51 vx52 wx53 o54 ex55 y dm => ?_
    obtain ⟨a56, c57, rfl⟩ := o54.shape
    refine LP_ev ok 4 [(3, .slice a56 (List.length (out ++ ([x6]))) c57)] 5 rfl rfl ?_
    refine LP_end _ rfl ?_
    have f59 := dm.fresh f5 (X13.stepx xc).size
    exact ⟨out ++ ([x6]), H, _, .slice a56 (List.length (out ++ ([x6]))) c57, hx51, env_eq ⟨rfl, rfl, rfl, rfl, trivial⟩, ((X13.stepx xc).step y (f5.dom _)), o54, ex55, f59, ((ex8.ext xc).but y d), ((ex9.ext xc).but y d12), (DomLe.dj dm d (ex8.ext xc)), (DomLe.dj dm d12 (ex9.ext xc))⟩
   have H := H.2 hc40
   exact W_skip ⟨out, H, _, sl a10 out c11, hx3, env_eq ⟨rfl, rfl, rfl, rfl, trivial⟩, (X13.stepx x32), o, (ex4.ext x32), f5, (ex8.ext x32), (ex9.ext x32), d, d12⟩
  rintro out16 _ wx22 ⟨H, ρ, vx17, hx18, rfl, HF⟩
  revert HF
  refine bb8 fun X29 o19 ex20 f21 ex23 ex24 d27 d28 => ?_
  subst hk
  obtain ⟨a25, c26, rfl⟩ := o19.shape
  refine W_region ?_
  refine LP_ev ok 0 [(20, I (wr (x6 + 1))), (8, I (wr (x6 + 1)))] 2 rfl rfl ?_
  exact LP_end _ rfl ⟨(out16, wr (x6 + 1)), ⟨H.1, _, sl a25 out16 c26, hx18, env_eq ⟨rfl, rfl, rfl, rfl, trivial⟩, X29, o19, ex20, f21, ex23, ex24, d27, d28⟩, H.2⟩
 have H := H.2 hc
 refine W_exit ?_
 refine (if_pos rfl).mpr ?_
 refine W_seq (W_region ?_)
 refine LP_ev ok 0 [(21, sl a10 out c11), (2, sl a10 out c11)] 2 rfl rfl ?_
 refine LP_end _ rfl (W_ret ?_)
 exact ⟨_, Ret_of [sl a10 out c11] ⟨⟨rfl, rfl⟩, trivial⟩, _, _, _, H, rfl, X13.ext, o, ex4, f5⟩

theorem spec_l1Has_w (l : List Int) (n : Int) (Q : Bool → Prop) (H : spec_l1Has l n Q) (w : World) {vx : Value} {hx : PH} (r : RS hx vx l) (ex : Sub hx w) :
  CallsTo Tryz.prog 134 #[vx, I n] w fun v w' => ∃ r0, Q r0 ∧ v = .bool r0 ∧ Ext w w' := by
 obtain ⟨a, c, rfl⟩ := r.shape
 refine enter (args := [sl a l c, I n]) 17 Tryz.func134 rfl rfl rfl ?_
 refine W_forget [(0, sl a l c), (1, I n)] ⟨rfl, rfl, trivial⟩ fun ρ => ?_
 have X := But.refl emp w
 refine W_seq (W_region ?_)
 refine LP_ev ok 0 [(4, .bool false)] 1 rfl rfl ?_
 refine LP_end _ rfl (W_seq ?_)
 refine W_seq (W_region ?_)
 refine LP_ev ok 0 [(7, sl a l c), (8, I (ln l)), (9, I 0)] 3 rfl rfl ?_
 refine LP_end _ rfl ?_
 refine W_block ?_
 obtain ⟨J, m, Hx, H⟩ := H
 refine W_loop (S := Int) (fun s ρ' w' => J s ∧ ∃ (ρ : Env), ρ' = setAll [(1, I n), (7, sl a l c), (8, I (ln l)), (9, I s)] ρ ∧ w = w') (fun s => m s) 0 ⟨Hx, _, env_eq ⟨rfl, rfl, rfl, rfl, trivial⟩, rfl⟩ ?_
 rintro x _ _ ⟨Hi, ρ, rfl, rfl⟩
 have H := H x Hi
 refine W_seq (W_region ?_)
 refine LP_ev ok 0 [(10, .bool (decide (x < (ln l))))] 1 rfl rfl ?_
 refine LP_end _ rfl (W_seq ?_)
 refine W_cond (decide (x < (ln l))) rfl (fun hc => ?_) (fun hc => ?_)
 ·have H := H.1 hc
  refine W_skip ?_
  refine W_seq ?_
  refine W_block ?_
  refine W_seq (W_region ?_)
  obtain ⟨x1, hi, hx2, H⟩ := H
  refine LP_index 0 rfl rfl rfl Tryz.underlying22 ti_3 rfl rfl r hi hx2 fun a3 cs r4 d => ?_
  refine LP_load 1 rfl rfl rfl ti_3 ag_3 rfl r4 d ex fun vx5 r6 => ?_
  obtain rfl := r6.int
  refine LP_ev ok 2 [(6, I x1)] 3 rfl rfl ?_
  refine LP_end _ rfl (W_seq (W_region ?_))
  refine LP_ev ok 0 [(13, I x1), (14, I n), (15, .bool (x1 == n))] 3 rfl rfl ?_
  refine LP_end _ rfl ?_
  refine W_cond (x1 == n) rfl (fun hc7 => ?_) (fun hc7 => ?_)
  ·have H := H.1 hc7
   refine W_seq (W_region ?_)
   refine LP_ev ok 0 [(4, .bool true)] 1 rfl rfl ?_
   refine LP_end _ rfl (W_ret ?_)
   exact ⟨_, Ret_of [.bool true] ⟨⟨rfl, rfl⟩, trivial⟩, _, H, rfl, X.ext⟩
  have H := H.2 hc7
  refine W_skip ?_
  refine W_region ?_
  refine LP_ev ok 0 [(16, I (wr (x + 1))), (9, I (wr (x + 1)))] 2 rfl rfl ?_
  exact LP_end _ rfl ⟨wr (x + 1), ⟨H.1, _, env_eq ⟨rfl, rfl, rfl, rfl, trivial⟩, rfl⟩, H.2⟩
 have H := H.2 hc
 refine W_exit ?_
 refine (if_pos rfl).mpr ?_
 refine W_seq (W_region ?_)
 refine LP_ev ok 0 [(4, .bool false)] 1 rfl rfl ?_
 refine LP_end _ rfl (W_ret ?_)
 exact ⟨_, Ret_of [.bool false] ⟨⟨rfl, rfl⟩, trivial⟩, _, H, rfl, X.ext⟩

theorem spec_uSurvey_w (g : Geo) (sx : List Variable) (l : List Record) (Q : Bool → Prop) (H : spec_uSurvey g sx l Q) (w : World) {vx : Value} {hx : PH} (r : RS hx vx g.Parents) (ex : Sub hx w) {vx1 : Value} {hx2 : PH} (r3 : RS hx2 vx1 sx) (ex4 : Sub hx2 w) {vx7 : Value} {hx8 : PH} (r9 : RS hx8 vx7 l) (ex10 : Sub hx8 w) :
  CallsTo Tryz.prog 102 #[.agg #[vx], vx1, vx7] w fun v w' => ∃ r0, Q r0 ∧ v = .bool r0 ∧ Ext w w' := by
 obtain ⟨a, c, rfl⟩ := r.shape
 obtain ⟨a5, c6, rfl⟩ := r3.shape
 obtain ⟨a11, c12, rfl⟩ := r9.shape
 refine enter (args := [.agg #[sl a g.Parents c], sl a5 sx c6, sl a11 l c12]) 33 Tryz.func102 rfl rfl rfl ?_
 refine W_forget [(0, .agg #[sl a g.Parents c]), (1, sl a5 sx c6), (2, sl a11 l c12)] ⟨rfl, rfl, rfl, trivial⟩ fun ρ => ?_
 have X := But.refl emp w
 refine W_seq (W_region ?_)
 refine LP_box 0 (cs := [sl a g.Parents c]) rfl rfl rfl rfl rfl fun b wx x ex13 f => ?_
 refine LP_ev ok 1 [(6, .bool false)] 2 rfl rfl ?_
 refine LP_end _ rfl (W_seq ?_)
 obtain ⟨k, hk, H⟩ := jn_elim H
 refine W_join2 (S := Bool) (fun s ρ' w' => k s ∧ ∃ (ρ : Env), ρ' = setAll [(2, sl a11 l c12), (3, pb b), (18, .bool s)] ρ ∧ But emp w w' ∧ Sub hx w' ∧ Sub hx8 w' ∧ Sub (bx b 37 [sl a g.Parents c]) w') ?_ ?_
 ·refine W_region ?_
  refine LP_ldbox 0 (v := .agg #[sl a g.Parents c]) rfl rfl rfl ti_37 ag_37 (fun h => by cases h) rfl ex13 rfl rfl ?_
  have ex21 := (ex.ext x)
  refine LP_call 1 rfl rfl rfl cal_95 rfl (spec_gGood_w _ _ H wx r ex21) ?_
  rintro _ wx22 ⟨r20, H, rfl, x23⟩
  refine LP_ev ok 2 [(12, .bool (!r20)), (13, .bool (!r20))] 4 rfl rfl ?_
  refine LP_split 13 (!r20) rfl (fun hc => ?_) (fun hc => ?_)
  ·have H := H.1 hc
   refine LP_ev ok 4 [(14, undef), (15, undef), (16, undef), (17, undef), (18, .bool true)] 9 rfl rfl ?_
   refine LP_end _ rfl ?_
   have xc := (x.trans x23)
   exact ⟨true, H, _, env_eq ⟨rfl, rfl, rfl, trivial⟩, (X.stepx xc), (ex21.ext x23), (ex10.ext xc), (ex13.ext x23)⟩
  have H := H.2 hc
  refine LP_ev ok 4 [(14, sl a5 sx c6), (15, sl a11 l c12)] 6 rfl rfl ?_
  have xc29 := (x.trans x23)
  have ex31 := (ex10.ext xc29)
  refine LP_call 6 rfl rfl rfl cal_133 rfl (spec_dInput_w _ _ _ H wx22 r3 (ex4.ext xc29) r9 ex31) ?_
  rintro _ wx32 ⟨r28, H, rfl, x33⟩
  refine LP_ev ok 7 [(17, .bool (!r28)), (18, .bool (!r28))] 9 rfl rfl ?_
  refine LP_end _ rfl ?_
  have xc36 := (x23.trans x33)
  exact ⟨!r28, H, _, env_eq ⟨rfl, rfl, rfl, trivial⟩, (X.stepx (xc29.trans x33)), (ex21.ext xc36), (ex31.ext x33), (ex13.ext xc36)⟩
 rintro x14 _ wx15 ⟨H, ρ, rfl, X19, ex16, ex17, ex18⟩
 subst hk
 refine W_cond (x14) rfl (fun hc40 => ?_) (fun hc40 => ?_)
 ·have H := H.1 hc40
  refine W_seq (W_region ?_)
  refine LP_ev ok 0 [(6, .bool false)] 1 rfl rfl ?_
  refine LP_end _ rfl (W_ret ?_)
  exact ⟨_, Ret_of [.bool false] ⟨⟨rfl, rfl⟩, trivial⟩, _, H, rfl, X19.ext⟩
 have H := H.2 hc40
 refine W_skip ?_
 refine W_seq (W_region ?_)
 refine LP_ldbox 0 (v := .agg #[sl a g.Parents c]) rfl rfl rfl ti_37 ag_37 (fun h => by cases h) rfl ex18 rfl rfl ?_
 refine LP_call 1 rfl rfl rfl cal_97 rfl (spec_gLeaves_w _ _ H wx15 r ex16) ?_
 rintro _ wx42 ⟨r41, vx44, hx45, H, rfl, x43, o, ex46, f47⟩
 obtain ⟨a48, c49, rfl⟩ := o.shape
 refine LP_ev ok 2 [(7, sl a48 r41 c49)] 3 rfl rfl ?_
 refine LP_end _ rfl (W_seq ?_)
 refine W_seq (W_region ?_)
 refine LP_ev ok 0 [(21, sl a11 l c12), (22, I (ln l)), (23, I 0)] 3 rfl rfl ?_
 refine LP_end _ rfl ?_
 refine W_block ?_
 obtain ⟨J, m, Hx, H⟩ := H
 refine W_loop (S := Int) (fun s ρ' w' => J s ∧ ∃ (ρ : Env), ρ' = setAll [(7, sl a48 r41 c49), (21, sl a11 l c12), (22, I (ln l)), (23, I s)] ρ ∧ But emp w w' ∧ Sub hx8 w' ∧ Sub hx45 w') (fun s => m s) 0 ⟨Hx, _, env_eq ⟨rfl, rfl, rfl, rfl, trivial⟩, (X19.stepx x43), (ex17.ext x43), ex46⟩ ?_
 rintro x50 _ wx51 ⟨Hi, ρ, rfl, X54, ex52, ex53⟩
 have H := H x50 Hi
 refine W_seq (W_region ?_)
 refine LP_ev ok 0 [(24, .bool (decide (x50 < (ln l))))] 1 rfl rfl ?_
 refine LP_end _ rfl (W_seq ?_)
 refine W_cond (decide (x50 < (ln l))) rfl (fun hc57 => ?_) (fun hc57 => ?_)
 ·have H := H.1 hc57
  refine W_skip ?_
  refine W_seq ?_
  refine W_block ?_
  refine W_seq (W_region ?_)
  obtain ⟨x58, hi, hx59, H⟩ := H
  refine LP_index 0 rfl rfl rfl Tryz.underlying84 ti_118 rfl rfl r9 hi hx59 fun a60 cs r61 d => ?_
  have d62 := d
  obtain ⟨u, rfl, r63⟩ := Record_rd d62
  obtain ⟨a64, c65, rfl⟩ := r63.shape
  refine LP_load 1 rfl rfl rfl ti_118 ag_118 rfl r61 d ex52 fun vx66 r67 => ?_
  obtain ⟨u68, rfl, r69⟩ := Record_rv r67
  obtain ⟨a70, c71, rfl⟩ := r69.shape
  refine LP_alloc 2 rfl rfl rfl ti_118 rfl fun b72 wx73 x74 ex75 f76 => ?_
  refine LP_stbox 3 (vs := [I x58.Area, I x58.House, sl a70 x58.Values c71]) (cs' := [I x58.Area, I x58.House, sl a70 x58.Values c71]) rfl rfl rfl ti_118 rfl rfl rfl rfl rfl ex75 rfl rfl fun wx77 ex78 y => ?_
  refine LP_end _ rfl (W_seq (W_region ?_))
  refine LP_ev ok 0 [(27, sl a48 r41 c49), (28, pb b72)] 2 rfl rfl ?_
  refine LP_ldbox 2 (v := I x58.Area) rfl rfl rfl ti_3 ag_3 (fun _ => rfl) rfl ex78 rfl rfl ?_
  have ex80 := ((ex53.ext x74).but y (Dj.of_fresh ex53 f76).symm)
  refine LP_call 3 rfl rfl rfl cal_134 rfl (spec_l1Has_w _ _ _ H wx77 o.readf ex80) ?_
  rintro _ wx81 ⟨r79, H, rfl, x82⟩
  refine LP_ev ok 4 [(31, .bool (!r79))] 5 rfl rfl ?_
  refine LP_end _ rfl ?_
  refine W_cond (!r79) rfl (fun hc83 => ?_) (fun hc83 => ?_)
  ·have H := H.1 hc83
   refine W_seq (W_region ?_)
   refine LP_ev ok 0 [(6, .bool false)] 1 rfl rfl ?_
   refine LP_end _ rfl (W_ret ?_)
   have f84 := f76.mono X54.size
   exact ⟨_, Ret_of [.bool false] ⟨⟨rfl, rfl⟩, trivial⟩, _, H, rfl, (((X54.stepx x74).step y (f84.dom _)).stepx x82).ext⟩
  have H := H.2 hc83
  refine W_skip ?_
  refine W_region ?_
  refine LP_ev ok 0 [(32, I (wr (x50 + 1))), (23, I (wr (x50 + 1)))] 2 rfl rfl ?_
  refine LP_end _ rfl ?_
  have f86 := f76.mono X54.size
  exact ⟨wr (x50 + 1), ⟨H.1, _, env_eq ⟨rfl, rfl, rfl, rfl, trivial⟩, (((X54.stepx x74).step y (f86.dom _)).stepx x82), (((ex52.ext x74).but y (Dj.of_fresh ex52 f76).symm).ext x82), (ex80.ext x82)⟩, H.2⟩
 have H := H.2 hc57
 refine W_exit ?_
 refine (if_pos rfl).mpr ?_
 refine W_seq (W_region ?_)
 refine LP_ev ok 0 [(6, .bool true)] 1 rfl rfl ?_
 refine LP_end _ rfl (W_ret ?_)
 exact ⟨_, Ret_of [.bool true] ⟨⟨rfl, rfl⟩, trivial⟩, _, H, rfl, X54.ext⟩

theorem spec_zeSites_w (g : Geo) (sx : List Variable) (t : Table) (sites : List (List Record)) (Q : Bool → Prop) (H : spec_zeSites g sx t sites Q) (w : World) {vx : Value} {hx : PH} (r : RS hx vx g.Parents) (ex : Sub hx w) {vx1 : Value} {hx2 : PH} (r3 : RS hx2 vx1 sx) (ex4 : Sub hx2 w) {vx7 : Value} {hx8 : PH} (r9 : RS hx8 vx7 t.Vars) (ex10 : Sub hx8 w) {vx13 : Value} {hx14 : PH} (r15 : RS hx14 vx13 t.Where) (ex16 : Sub hx14 w) {vx19 : Value} {hx20 : PH} (r21 : RS hx20 vx19 sites) (ex22 : Sub hx20 w) :
  CallsTo Tryz.prog 70 #[.agg #[vx], vx1, .agg #[I t.Level, vx7, vx13, I t.Sum], vx19] w fun v w' => ∃ r0, Q r0 ∧ v = .bool r0 ∧ Ext w w' := by
 obtain ⟨a, c, rfl⟩ := r.shape
 obtain ⟨a5, c6, rfl⟩ := r3.shape
 obtain ⟨a11, c12, rfl⟩ := r9.shape
 obtain ⟨a17, c18, rfl⟩ := r15.shape
 obtain ⟨a23, c24, rfl⟩ := r21.shape
 refine enter (args := [.agg #[sl a g.Parents c], sl a5 sx c6, .agg #[I t.Level, sl a11 t.Vars c12, sl a17 t.Where c18, I t.Sum], sl a23 sites c24]) 34 Tryz.func70 rfl rfl rfl ?_
 refine W_forget [(0, .agg #[sl a g.Parents c]), (1, sl a5 sx c6), (2, .agg #[I t.Level, sl a11 t.Vars c12, sl a17 t.Where c18, I t.Sum]), (3, sl a23 sites c24)] ⟨rfl, rfl, rfl, rfl, trivial⟩ fun ρ => ?_
 have X := But.refl emp w
 refine W_seq (W_region ?_)
 refine LP_box 0 (cs := [sl a g.Parents c]) rfl rfl rfl rfl rfl fun b wx x ex25 f => ?_
 refine LP_box 1 (cs := [I t.Level, sl a11 t.Vars c12, sl a17 t.Where c18, I t.Sum]) rfl rfl rfl rfl rfl fun b26 wx27 x28 ex29 f30 => ?_
 refine LP_ev ok 2 [(8, .bool false)] 3 rfl rfl ?_
 refine LP_end _ rfl (W_seq ?_)
 obtain ⟨k, hk, H⟩ := jn_elim H
 refine W_join2 (S := Bool) (fun s ρ' w' => k s ∧ ∃ (ρ : Env), ρ' = setAll [(1, sl a5 sx c6), (3, sl a23 sites c24), (4, pb b), (21, .bool s)] ρ ∧ But emp w w' ∧ Sub hx w' ∧ Sub hx2 w' ∧ Sub hx20 w' ∧ Sub (bx b 37 [sl a g.Parents c]) w') ?_ ?_
 ·refine W_region ?_
  have ex38 := (ex25.ext x28)
  refine LP_ldbox 0 (v := .agg #[sl a g.Parents c]) rfl rfl rfl ti_37 ag_37 (fun h => by cases h) rfl ex38 rfl rfl ?_
  refine LP_ev ok 1 [(12, sl a5 sx c6)] 2 rfl rfl ?_
  refine LP_ldbox 2 (v := .agg #[I t.Level, sl a11 t.Vars c12, sl a17 t.Where c18, I t.Sum]) rfl rfl rfl ti_41 ag_41 (fun h => by cases h) rfl ex29 rfl rfl ?_
  have xc := (x.trans x28)
  have ex40 := (ex.ext xc)
  have ex41 := (ex4.ext xc)
  refine LP_call 3 rfl rfl rfl cal_101 rfl (spec_uGood_w _ _ _ _ H wx27 r ex40 r3 ex41 r9 (ex10.ext xc) r15 (ex16.ext xc)) ?_
  rintro _ wx44 ⟨r39, H, rfl, x45⟩
  refine LP_ev ok 4 [(15, .bool (!r39)), (16, .bool (!r39))] 6 rfl rfl ?_
  refine LP_split 16 (!r39) rfl (fun hc => ?_) (fun hc => ?_)
  ·have H := H.1 hc
   refine LP_ev ok 6 [(17, undef), (18, undef), (19, undef), (20, undef), (21, .bool true)] 11 rfl rfl ?_
   refine LP_end _ rfl ?_
   have xc46 := (xc.trans x45)
   exact ⟨true, H, _, env_eq ⟨rfl, rfl, rfl, rfl, trivial⟩, (X.stepx xc46), (ex40.ext x45), (ex41.ext x45), (ex22.ext xc46), (ex38.ext x45)⟩
  have H := H.2 hc
  refine LP_ev ok 6 [(17, sl a23 sites c24), (18, I (ln sites))] 8 rfl rfl ?_
  refine LP_call 8 rfl rfl rfl cal_75 rfl (spec_l1In_w _ _ _ _ H wx44 ) ?_
  rintro _ wx53 ⟨r52, H, rfl, x54⟩
  refine LP_ev ok 9 [(20, .bool (!r52)), (21, .bool (!r52))] 11 rfl rfl ?_
  refine LP_end _ rfl ?_
  have xc55 := (((x.trans x28).trans x45).trans x54)
  have xc57 := (x45.trans x54)
  exact ⟨!r52, H, _, env_eq ⟨rfl, rfl, rfl, rfl, trivial⟩, (X.stepx xc55), (ex40.ext xc57), (ex41.ext xc57), (ex22.ext xc55), (ex38.ext xc57)⟩
 rintro x31 _ wx32 ⟨H, ρ, rfl, HF⟩
 revert HF
 refine bb5 fun X37 ex33 ex34 ex35 ex36 => ?_
 subst hk
 refine W_cond (x31) rfl (fun hc62 => ?_) (fun hc62 => ?_)
 ·have H := H.1 hc62
  refine W_seq (W_region ?_)
  refine LP_ev ok 0 [(8, .bool false)] 1 rfl rfl ?_
  refine LP_end _ rfl (W_ret ?_)
  exact ⟨_, Ret_of [.bool false] ⟨⟨rfl, rfl⟩, trivial⟩, _, H, rfl, X37.ext⟩
 have H := H.2 hc62
 refine W_skip ?_
 refine W_seq ?_
 refine W_seq (W_region ?_)
 refine LP_ev ok 0 [(22, sl a23 sites c24), (23, I (ln sites)), (24, I 0)] 3 rfl rfl ?_
 refine LP_end _ rfl ?_
 refine W_block ?_
 obtain ⟨J, m, Hx, H⟩ := H
 refine W_loop (S := Int) (fun s ρ' w' => J s ∧ ∃ (ρ : Env), ρ' = setAll [(1, sl a5 sx c6), (4, pb b), (22, sl a23 sites c24), (23, I (ln sites)), (24, I s)] ρ ∧ But emp w w' ∧ Sub hx w' ∧ Sub hx2 w' ∧ Sub hx20 w' ∧ Sub (bx b 37 [sl a g.Parents c]) w') (fun s => m s) 0 ⟨Hx, _, env_eq ⟨rfl, rfl, rfl, rfl, rfl, trivial⟩, X37, ex33, ex34, ex35, ex36⟩ ?_
 rintro x63 _ wx64 ⟨Hi, ρ, rfl, HF⟩
 revert HF
 refine bb5 fun X69 ex65 ex66 ex67 ex68 => ?_
 have H := H x63 Hi
 refine W_seq (W_region ?_)
 refine LP_ev ok 0 [(25, .bool (decide (x63 < (ln sites))))] 1 rfl rfl ?_
 refine LP_end _ rfl (W_seq ?_)
 refine W_cond (decide (x63 < (ln sites))) rfl (fun hc70 => ?_) (fun hc70 => ?_)
 ·have H := H.1 hc70
  refine W_skip ?_
  refine W_seq ?_
  refine W_block ?_
  refine W_seq (W_region ?_)
  obtain ⟨x71, hi, hx72, H⟩ := H
  refine LP_index 0 rfl rfl rfl Tryz.underlying43 ti_84 rfl rfl r21 hi hx72 fun a73 cs r74 d => ?_
  refine LP_load 1 rfl rfl rfl ti_84 ag_84 rfl r74 d ex67 fun vx75 r76 => ?_
  have r79 := r76.slice
  obtain ⟨a77, c78, rfl⟩ := r79.shape
  refine LP_ev ok 2 [(10, sl a77 x71 c78)] 3 rfl rfl ?_
  refine LP_end _ rfl (W_seq (W_region ?_))
  refine LP_ldbox 0 (v := .agg #[sl a g.Parents c]) rfl rfl rfl ti_37 ag_37 (fun h => by cases h) rfl ex68 rfl rfl ?_
  refine LP_ev ok 1 [(29, sl a5 sx c6), (30, sl a77 x71 c78)] 3 rfl rfl ?_
  refine LP_call 3 rfl rfl rfl cal_102 rfl (spec_uSurvey_w _ _ _ _ H wx64 r ex65 r3 ex66 r79 ex67) ?_
  rintro _ wx81 ⟨r80, H, rfl, x82⟩
  refine LP_ev ok 4 [(32, .bool (!r80))] 5 rfl rfl ?_
  refine LP_end _ rfl ?_
  refine W_cond (!r80) rfl (fun hc83 => ?_) (fun hc83 => ?_)
  ·have H := H.1 hc83
   refine W_seq (W_region ?_)
   refine LP_ev ok 0 [(8, .bool false)] 1 rfl rfl ?_
   refine LP_end _ rfl (W_ret ?_)
   exact ⟨_, Ret_of [.bool false] ⟨⟨rfl, rfl⟩, trivial⟩, _, H, rfl, (X69.stepx x82).ext⟩
  have H := H.2 hc83
  refine W_skip ?_
  refine W_region ?_
  refine LP_ev ok 0 [(33, I (wr (x63 + 1))), (24, I (wr (x63 + 1)))] 2 rfl rfl ?_
  exact LP_end _ rfl ⟨wr (x63 + 1), ⟨H.1, _, env_eq ⟨rfl, rfl, rfl, rfl, rfl, trivial⟩, (X69.stepx x82), (ex65.ext x82), (ex66.ext x82), (ex67.ext x82), (ex68.ext x82)⟩, H.2⟩
 have H := H.2 hc70
 refine W_exit ?_
 refine (if_pos rfl).mpr ?_
 refine W_seq (W_region ?_)
 refine LP_ev ok 0 [(8, .bool true)] 1 rfl rfl ?_
 refine LP_end _ rfl (W_ret ?_)
 exact ⟨_, Ret_of [.bool true] ⟨⟨rfl, rfl⟩, trivial⟩, _, H, rfl, X69.ext⟩

theorem spec_gUp_w (g : Geo) (i : Int) (level : Int) (Q : Int → Prop) (H : spec_gUp g i level Q) (w : World) {vx : Value} {hx : PH} (r : RS hx vx g.Parents) (ex : Sub hx w) :
  CallsTo Tryz.prog 137 #[.agg #[vx], I i, I level] w fun v w' => ∃ r0, Q r0 ∧ v = I r0 ∧ Ext w w' := by
 obtain ⟨a, c, rfl⟩ := r.shape
 refine enter (args := [.agg #[sl a g.Parents c], I i, I level]) 27 Tryz.func137 rfl rfl rfl ?_
 refine W_forget [(0, .agg #[sl a g.Parents c]), (1, I i), (2, I level)] ⟨rfl, rfl, rfl, trivial⟩ fun ρ => ?_
 have X := But.refl emp w
 refine W_seq (W_region ?_)
 refine LP_box 0 (cs := [sl a g.Parents c]) rfl rfl rfl rfl rfl fun b wx x ex1 f => ?_
 refine LP_ev ok 1 [(6, I 0)] 2 rfl rfl ?_
 refine LP_end _ rfl (W_seq (W_region ?_))
 refine LP_ldbox 0 (v := .agg #[sl a g.Parents c]) rfl rfl rfl ti_37 ag_37 (fun h => by cases h) rfl ex1 rfl rfl ?_
 refine LP_ev ok 1 [(9, I i)] 2 rfl rfl ?_
 have ex3 := (ex.ext x)
 refine LP_call 2 rfl rfl rfl cal_162 rfl (spec_gDepth_w _ _ _ H wx r ex3) ?_
 rintro _ wx4 ⟨r2, H, rfl, x5⟩
 refine LP_ev ok 3 [(7, I r2)] 4 rfl rfl ?_
 refine LP_end _ rfl (W_seq ?_)
 refine W_seq (W_region ?_)
 refine LP_ev ok 0 [(11, I level), (12, .bool (decide (level < 0)))] 2 rfl rfl ?_
 refine LP_end _ rfl ?_
 refine W_cond (decide (level < 0)) rfl (fun hc => ?_) (fun hc => ?_)
 ·have H := H.1 hc
  refine W_seq (W_region ?_)
  refine LP_ev ok 0 [(6, I ((-1)))] 1 rfl rfl ?_
  refine LP_end _ rfl (W_ret ?_)
  exact ⟨_, Ret_of [I ((-1))] ⟨⟨rfl, rfl⟩, trivial⟩, _, H, rfl, (X.stepx (x.trans x5)).ext⟩
 have H := H.2 hc
 refine W_skip ?_
 refine W_seq ?_
 refine W_block ?_
 obtain ⟨J, m, Hx, H⟩ := H
 refine W_loop (S := Int × Int) (fun s ρ' w' => J s.1 s.2 ∧ ∃ (ρ : Env), ρ' = setAll [(1, I s.1), (2, I level), (3, pb b), (7, I s.2)] ρ ∧ wx4 = w') (fun s => m s.1 s.2) (i, r2) ⟨Hx, _, env_eq ⟨rfl, rfl, rfl, rfl, trivial⟩, rfl⟩ ?_
 rintro ⟨i7, d⟩ _ _ ⟨Hi, ρ, rfl, rfl⟩
 have H := H i7 d Hi
 refine W_seq ?_
 refine W_seq (W_region ?_)
 refine LP_ev ok 0 [(13, I d), (14, I level), (15, .bool (decide (d > level)))] 3 rfl rfl ?_
 refine LP_end _ rfl ?_
 refine W_cond (decide (d > level)) rfl (fun hc9 => ?_) (fun hc9 => ?_)
 ·have H := H.1 hc9
  refine W_skip ?_
  refine W_seq ?_
  refine W_block ?_
  refine W_region ?_
  refine LP_ev ok 0 [(18, pb b)] 1 rfl rfl ?_
  refine LP_ldbox 1 (v := sl a g.Parents c) rfl rfl rfl ti_22 ag_22 (fun _ => rfl) rfl (ex1.ext x5) rfl rfl ?_
  refine LP_ev ok 2 [(20, I i7)] 3 rfl rfl ?_
  obtain ⟨x11, hi, hx12, H⟩ := H
  refine LP_index 3 rfl rfl rfl Tryz.underlying22 ti_3 rfl rfl r hi hx12 fun a13 cs r14 d15 => ?_
  refine LP_load 4 rfl rfl rfl ti_3 ag_3 rfl r14 d15 (ex3.ext x5) fun vx17 r18 => ?_
  obtain rfl := r18.int
  refine LP_ev ok 5 [(1, I x11)] 6 rfl rfl ?_
  refine LP_end _ rfl ?_
  refine W_region ?_
  refine LP_ev ok 0 [(16, I d), (17, I (wr (d - 1))), (7, I (wr (d - 1)))] 3 rfl rfl ?_
  exact LP_end _ rfl ⟨(x11, wr (d - 1)), ⟨H.1, _, env_eq ⟨rfl, rfl, rfl, rfl, trivial⟩, rfl⟩, H.2⟩
 have H := H.2 hc9
 refine W_exit ?_
 refine (if_pos rfl).mpr ?_
 refine W_seq ?_
 refine W_seq (W_region ?_)
 refine LP_ev ok 0 [(23, I d), (24, I level), (25, .bool (decide (d < level)))] 3 rfl rfl ?_
 refine LP_end _ rfl ?_
 refine W_cond (decide (d < level)) rfl (fun hc19 => ?_) (fun hc19 => ?_)
 ·have H := H.1 hc19
  refine W_seq (W_region ?_)
  refine LP_ev ok 0 [(6, I ((-1)))] 1 rfl rfl ?_
  refine LP_end _ rfl (W_ret ?_)
  exact ⟨_, Ret_of [I ((-1))] ⟨⟨rfl, rfl⟩, trivial⟩, _, H, rfl, (X.stepx (x.trans x5)).ext⟩
 have H := H.2 hc19
 refine W_skip ?_
 refine W_seq (W_region ?_)
 refine LP_ev ok 0 [(26, I i7), (6, I i7)] 2 rfl rfl ?_
 refine LP_end _ rfl (W_ret ?_)
 exact ⟨_, Ret_of [I i7] ⟨⟨rfl, rfl⟩, trivial⟩, _, H, rfl, (X.stepx (x.trans x5)).ext⟩

theorem spec_uMeets_w (t : Table) (values : List Int) (Q : Bool → Prop) (H : spec_uMeets t values Q) (w : World) {vx : Value} {hx : PH} (r : RS hx vx t.Vars) (ex : Sub hx w) {vx1 : Value} {hx2 : PH} (r3 : RS hx2 vx1 t.Where) (ex4 : Sub hx2 w) {vx7 : Value} {hx8 : PH} (r9 : RS hx8 vx7 values) (ex10 : Sub hx8 w) :
  CallsTo Tryz.prog 138 #[.agg #[I t.Level, vx, vx1, I t.Sum], vx7] w fun v w' => ∃ r0, Q r0 ∧ v = .bool r0 ∧ Ext w w' := by
 obtain ⟨a, c, rfl⟩ := r.shape
 obtain ⟨a5, c6, rfl⟩ := r3.shape
 obtain ⟨a11, c12, rfl⟩ := r9.shape
 refine enter (args := [.agg #[I t.Level, sl a t.Vars c, sl a5 t.Where c6, I t.Sum], sl a11 values c12]) 29 Tryz.func138 rfl rfl rfl ?_
 refine W_forget [(0, .agg #[I t.Level, sl a t.Vars c, sl a5 t.Where c6, I t.Sum]), (1, sl a11 values c12)] ⟨rfl, rfl, trivial⟩ fun ρ => ?_
 have X := But.refl emp w
 refine W_seq (W_region ?_)
 refine LP_box 0 (cs := [I t.Level, sl a t.Vars c, sl a5 t.Where c6, I t.Sum]) rfl rfl rfl rfl rfl fun b wx x ex13 f => ?_
 refine LP_ev ok 1 [(4, .bool false)] 2 rfl rfl ?_
 refine LP_end _ rfl (W_seq ?_)
 refine W_seq (W_region ?_)
 refine LP_ev ok 0 [(7, .pointer (some ⟨b, 2, none⟩))] 1 rfl rfl ?_
 refine LP_ldbox 1 (v := sl a5 t.Where c6) rfl rfl rfl ti_22 ag_22 (fun _ => rfl) rfl ex13 rfl rfl ?_
 refine LP_ev ok 2 [(9, I (ln t.Where)), (10, I 0)] 4 rfl rfl ?_
 refine LP_end _ rfl ?_
 refine W_block ?_
 obtain ⟨J, m, Hx, H⟩ := H
 refine W_loop (S := Int) (fun s ρ' w' => J s ∧ ∃ (ρ : Env), ρ' = setAll [(1, sl a11 values c12), (8, sl a5 t.Where c6), (9, I (ln t.Where)), (10, I s)] ρ ∧ wx = w') (fun s => m s) 0 ⟨Hx, _, env_eq ⟨rfl, rfl, rfl, rfl, trivial⟩, rfl⟩ ?_
 rintro x14 _ _ ⟨Hi, ρ, rfl, rfl⟩
 have H := H x14 Hi
 refine W_seq (W_region ?_)
 refine LP_ev ok 0 [(11, .bool (decide (x14 < (ln t.Where))))] 1 rfl rfl ?_
 refine LP_end _ rfl (W_seq ?_)
 refine W_cond (decide (x14 < (ln t.Where))) rfl (fun hc => ?_) (fun hc => ?_)
 ·have H := H.1 hc
  refine W_skip ?_
  refine W_seq ?_
  refine W_block ?_
  refine W_seq (W_region ?_)
  refine LP_ev ok 0 [(12, I x14)] 1 rfl rfl ?_
  obtain ⟨x16, hi, hx17, H⟩ := H
  refine LP_index 1 rfl rfl rfl Tryz.underlying22 ti_3 rfl rfl r3 hi hx17 fun a18 cs r19 d => ?_
  refine LP_load 2 rfl rfl rfl ti_3 ag_3 rfl r19 d (ex4.ext x) fun vx21 r22 => ?_
  obtain rfl := r22.int
  refine LP_ev ok 3 [(5, I x14), (6, I x16)] 5 rfl rfl ?_
  refine LP_end _ rfl ?_
  obtain ⟨k, hk, H⟩ := jn_elim H
  refine W_join2 (S := Bool) (fun s ρ' w' => k s ∧ ∃ (ρ : Env), ρ' = setAll [(1, sl a11 values c12), (8, sl a5 t.Where c6), (9, I (ln t.Where)), (10, I x14), (27, .bool s)] ρ ∧ wx = w') ?_ ?_
  ·refine W_region ?_
   refine LP_ev ok 0 [(15, I x16), (16, .bool (x16 != 0)), (17, .bool (x16 != 0))] 3 rfl rfl ?_
   refine LP_split 17 (x16 != 0) rfl (fun hc25 => ?_) (fun hc25 => ?_)
   ·have H := H.1 hc25
    refine LP_ev ok 3 [(18, I x16), (19, sl a11 values c12), (20, I x14)] 6 rfl rfl ?_
    obtain ⟨x26, hi27, hx28, H⟩ := H
    refine LP_index 6 rfl rfl rfl Tryz.underlying22 ti_3 rfl rfl r9 hi27 hx28 fun a29 cs30 r31 d32 => ?_
    refine LP_load 7 rfl rfl rfl ti_3 ag_3 rfl r31 d32 (ex10.ext x) fun vx34 r35 => ?_
    obtain rfl := r35.int
    refine LP_ev ok 8 [(23, .int .u64 (IntKind.u64.wrap (x26)))] 9 rfl rfl ?_
    obtain ⟨hz, H⟩ := H
    refine LP_val 9 _ rfl rfl (ex_shr rfl rfl rfl hz _) ?_
    refine LP_ev ok 10 [(25, I (bits .and .i64 (shr .i64 x16 (IntKind.u64.wrap (x26))) 1)), (26, .bool ((bits .and .i64 (shr .i64 x16 (IntKind.u64.wrap (x26))) 1) == 0)), (27, .bool ((bits .and .i64 (shr .i64 x16 (IntKind.u64.wrap (x26))) 1) == 0))] 13 rfl rfl ?_
    exact LP_end _ rfl ⟨(bits .and .i64 (shr .i64 x16 (IntKind.u64.wrap (x26))) 1) == 0, H, _, env_eq ⟨rfl, rfl, rfl, rfl, rfl, trivial⟩, rfl⟩
   have H := H.2 hc25
   refine LP_ev ok 3 [(18, undef), (19, undef), (20, undef), (21, undef), (22, undef), (23, undef), (24, undef), (25, undef), (26, undef), (27, .bool false)] 13 rfl rfl ?_
   exact LP_end _ rfl ⟨false, H, _, env_eq ⟨rfl, rfl, rfl, rfl, rfl, trivial⟩, rfl⟩
  rintro x23 _ _ ⟨H, ρ, rfl, rfl⟩
  subst hk
  refine W_cond (x23) rfl (fun hc36 => ?_) (fun hc36 => ?_)
  ·have H := H.1 hc36
   refine W_seq (W_region ?_)
   refine LP_ev ok 0 [(4, .bool false)] 1 rfl rfl ?_
   refine LP_end _ rfl (W_ret ?_)
   exact ⟨_, Ret_of [.bool false] ⟨⟨rfl, rfl⟩, trivial⟩, _, H, rfl, (X.stepx x).ext⟩
  have H := H.2 hc36
  refine W_skip ?_
  refine W_region ?_
  refine LP_ev ok 0 [(28, I (wr (x14 + 1))), (10, I (wr (x14 + 1)))] 2 rfl rfl ?_
  exact LP_end _ rfl ⟨wr (x14 + 1), ⟨H.1, _, env_eq ⟨rfl, rfl, rfl, rfl, trivial⟩, rfl⟩, H.2⟩
 have H := H.2 hc
 refine W_exit ?_
 refine (if_pos rfl).mpr ?_
 refine W_seq (W_region ?_)
 refine LP_ev ok 0 [(4, .bool true)] 1 rfl rfl ?_
 refine LP_end _ rfl (W_ret ?_)
 exact ⟨_, Ret_of [.bool true] ⟨⟨rfl, rfl⟩, trivial⟩, _, H, rfl, (X.stepx x).ext⟩

theorem spec_l1Find_w (l : List Int) (n : Int) (Q : Int → Prop) (H : spec_l1Find l n Q) (w : World) {vx : Value} {hx : PH} (r : RS hx vx l) (ex : Sub hx w) :
  CallsTo Tryz.prog 139 #[vx, I n] w fun v w' => ∃ r0, Q r0 ∧ v = I r0 ∧ Ext w w' := by
 obtain ⟨a, c, rfl⟩ := r.shape
 refine enter (args := [sl a l c, I n]) 19 Tryz.func139 rfl rfl rfl ?_
 refine W_forget [(0, sl a l c), (1, I n)] ⟨rfl, rfl, trivial⟩ fun ρ => ?_
 have X := But.refl emp w
 refine W_seq (W_region ?_)
 refine LP_ev ok 0 [(4, I 0)] 1 rfl rfl ?_
 refine LP_end _ rfl (W_seq ?_)
 refine W_seq (W_region ?_)
 refine LP_ev ok 0 [(7, sl a l c), (8, I (ln l)), (9, I 0)] 3 rfl rfl ?_
 refine LP_end _ rfl ?_
 refine W_block ?_
 obtain ⟨J, m, Hx, H⟩ := H
 refine W_loop (S := Int) (fun s ρ' w' => J s ∧ ∃ (ρ : Env), ρ' = setAll [(1, I n), (7, sl a l c), (8, I (ln l)), (9, I s)] ρ ∧ w = w') (fun s => m s) 0 ⟨Hx, _, env_eq ⟨rfl, rfl, rfl, rfl, trivial⟩, rfl⟩ ?_
 rintro x _ _ ⟨Hi, ρ, rfl, rfl⟩
 have H := H x Hi
 refine W_seq (W_region ?_)
 refine LP_ev ok 0 [(10, .bool (decide (x < (ln l))))] 1 rfl rfl ?_
 refine LP_end _ rfl (W_seq ?_)
 refine W_cond (decide (x < (ln l))) rfl (fun hc => ?_) (fun hc => ?_)
 ·have H := H.1 hc
  refine W_skip ?_
  refine W_seq ?_
  refine W_block ?_
  refine W_seq (W_region ?_)
  refine LP_ev ok 0 [(11, I x)] 1 rfl rfl ?_
  obtain ⟨x1, hi, hx2, H⟩ := H
  refine LP_index 1 rfl rfl rfl Tryz.underlying22 ti_3 rfl rfl r hi hx2 fun a3 cs r4 d => ?_
  refine LP_load 2 rfl rfl rfl ti_3 ag_3 rfl r4 d ex fun vx5 r6 => ?_
  obtain rfl := r6.int
  refine LP_ev ok 3 [(5, I x), (6, I x1)] 5 rfl rfl ?_
  refine LP_end _ rfl (W_seq (W_region ?_))
  refine LP_ev ok 0 [(14, I x1), (15, I n), (16, .bool (x1 == n))] 3 rfl rfl ?_
  refine LP_end _ rfl ?_
  refine W_cond (x1 == n) rfl (fun hc7 => ?_) (fun hc7 => ?_)
  ·have H := H.1 hc7
   refine W_seq (W_region ?_)
   refine LP_ev ok 0 [(17, I x), (4, I x)] 2 rfl rfl ?_
   refine LP_end _ rfl (W_ret ?_)
   exact ⟨_, Ret_of [I x] ⟨⟨rfl, rfl⟩, trivial⟩, _, H, rfl, X.ext⟩
  have H := H.2 hc7
  refine W_skip ?_
  refine W_region ?_
  refine LP_ev ok 0 [(18, I (wr (x + 1))), (9, I (wr (x + 1)))] 2 rfl rfl ?_
  exact LP_end _ rfl ⟨wr (x + 1), ⟨H.1, _, env_eq ⟨rfl, rfl, rfl, rfl, trivial⟩, rfl⟩, H.2⟩
 have H := H.2 hc
 refine W_exit ?_
 refine (if_pos rfl).mpr ?_
 refine W_seq (W_region ?_)
 refine LP_ev ok 0 [(4, I ((-1)))] 1 rfl rfl ?_
 refine LP_end _ rfl (W_ret ?_)
 exact ⟨_, Ret_of [I ((-1))] ⟨⟨rfl, rfl⟩, trivial⟩, _, H, rfl, X.ext⟩

theorem spec_sPick_w (values : List Int) (vars : List Int) (Q : (List Int) → Prop) (H : spec_sPick values vars Q) (w : World) {vx : Value} {hx : PH} (r : RS hx vx values) (ex : Sub hx w) {vx1 : Value} {hx2 : PH} (r3 : RS hx2 vx1 vars) (ex4 : Sub hx2 w) :
  CallsTo Tryz.prog 141 #[vx, vx1] w fun v w' => ∃ r0 u0 g0, Q r0 ∧ v = u0 ∧ Ext w w' ∧ OS 3 g0 emp u0 r0 ∧ Sub g0 w' ∧ Fresh w.heap.size g0 := by
 obtain ⟨a, c, rfl⟩ := r.shape
 obtain ⟨a5, c6, rfl⟩ := r3.shape
 refine enter (args := [sl a values c, sl a5 vars c6]) 23 Tryz.func141 rfl rfl rfl ?_
 refine W_forget [(0, sl a values c), (1, sl a5 vars c6)] ⟨rfl, rfl, trivial⟩ fun ρ => ?_
 have X := But.refl emp w
 refine W_seq (W_region ?_)
 refine LP_ev ok 0 [(4, .slice none 0 0)] 1 rfl rfl ?_
 refine LP_end _ rfl (W_seq (W_region ?_))
 refine LP_ev ok 0 [(5, .slice none 0 0)] 1 rfl rfl ?_
 refine LP_end _ rfl (W_seq ?_)
 refine W_seq (W_region ?_)
 refine LP_ev ok 0 [(8, sl a5 vars c6), (9, I (ln vars)), (10, I 0)] 3 rfl rfl ?_
 refine LP_end _ rfl ?_
 refine W_block ?_
 obtain ⟨J, m, Hx, H⟩ := H
 refine W_loop (S := (List Int) × Int) (fun s ρ' w' => J s.1 s.2 ∧ ∃ (ρ : Env) (vx7 : Value) (hx8 : PH), ρ' = setAll [(0, sl a values c), (5, vx7), (8, sl a5 vars c6), (9, I (ln vars)), (10, I s.2)] ρ ∧ But emp w w' ∧ OS 3 hx8 emp vx7 s.1 ∧ Sub hx8 w' ∧ Fresh w.heap.size hx8 ∧ Sub hx w' ∧ Sub hx2 w' ∧ Dj hx8 hx ∧ Dj hx8 hx2) (fun s => m s.1 s.2) ([], 0) ⟨Hx, _, .slice none 0 0, emp, env_eq ⟨rfl, rfl, rfl, rfl, rfl, trivial⟩, X, OS.nil, (emp_sub _), (emp_fresh _), ex, ex4, (fun _ => .inl rfl), (fun _ => .inl rfl)⟩ ?_
 rintro ⟨out, x⟩ _ wx ⟨Hi, ρ, vx7, hx8, rfl, HF⟩
 revert HF
 refine bb8 fun X15 o ex9 f ex10 ex11 d d14 => ?_
 have H := H out x Hi
 obtain ⟨a12, c13, rfl⟩ := o.shape
 refine W_seq (W_region ?_)
 refine LP_ev ok 0 [(11, .bool (decide (x < (ln vars))))] 1 rfl rfl ?_
 refine LP_end _ rfl (W_seq ?_)
 refine W_cond (decide (x < (ln vars))) rfl (fun hc => ?_) (fun hc => ?_)
 ·have H := H.1 hc
  refine W_skip ?_
  refine W_seq ?_
  refine W_block ?_
  refine W_seq (W_region ?_)
  obtain ⟨x16, hi, hx17, H⟩ := H
  refine LP_index 0 rfl rfl rfl Tryz.underlying22 ti_3 rfl rfl r3 hi hx17 fun a18 cs r19 d20 => ?_
  refine LP_load 1 rfl rfl rfl ti_3 ag_3 rfl r19 d20 ex11 fun vx21 r22 => ?_
  obtain rfl := r22.int
  refine LP_ev ok 2 [(7, I x16)] 3 rfl rfl ?_
  refine LP_end _ rfl ?_
  refine W_region ?_
  refine LP_ev ok 0 [(14, sl a12 out c13), (15, sl a values c), (16, I x16)] 3 rfl rfl ?_
  obtain ⟨x23, hi24, hx25, H⟩ := H
  refine LP_index 3 rfl rfl rfl Tryz.underlying22 ti_3 rfl rfl r hi24 hx25 fun a26 cs27 r28 d29 => ?_
  refine LP_load 4 rfl rfl rfl ti_3 ag_3 rfl r28 d29 ex10 fun vx30 r31 => ?_
  obtain rfl := r31.int
  refine LP_lit (α := Int) (g := emp) 5 (vs := [I x23]) (xs := [x23]) rfl rfl rfl Tryz.underlying22 ti_3 rfl rfl ⟨⟨_, rfl, rfl⟩, trivial⟩ rfl rfl fun hx32 vx33 wx34 x35 o36 ex37 f38 => ?_
  obtain ⟨a39, c40, rfl⟩ := o36.shape
  obtain ⟨hb, H⟩ := H
  refine LP_appendf (α := Int) 6 rfl rfl rfl Tryz.underlying22 ti_3 rfl rfl rfl o (ex9.ext x35) o36.readf ex37 (by first | omega | (simp only [ln] at *; omega)) (by first | omega | (simp only [ln] at *; omega)) fun hx42 vx43 wx44 o45 ex46 y dm => ?_
  obtain ⟨a47, c48, rfl⟩ := o45.shape
  refine LP_ev ok 7 [(5, .slice a47 (List.length (out ++ ([x23]))) c48)] 8 rfl rfl ?_
  refine LP_end _ rfl ?_
  refine W_region ?_
  refine LP_ev ok 0 [(21, I (wr (x + 1))), (10, I (wr (x + 1)))] 2 rfl rfl ?_
  refine LP_end _ rfl ?_
  have f50 := dm.fresh f (X15.stepx x35).size
  exact ⟨(out ++ ([x23]), wr (x + 1)), ⟨H.1, _, .slice a47 (List.length (out ++ ([x23]))) c48, hx42, env_eq ⟨rfl, rfl, rfl, rfl, rfl, trivial⟩, ((X15.stepx x35).step y (f.dom _)), o45, ex46, f50, ((ex10.ext x35).but y d), ((ex11.ext x35).but y d14), (DomLe.dj dm d (ex10.ext x35)), (DomLe.dj dm d14 (ex11.ext x35))⟩, H.2⟩
 have H := H.2 hc
 refine W_exit ?_
 refine (if_pos rfl).mpr ?_
 refine W_seq (W_region ?_)
 refine LP_ev ok 0 [(22, sl a12 out c13), (4, sl a12 out c13)] 2 rfl rfl ?_
 refine LP_end _ rfl (W_ret ?_)
 exact ⟨_, Ret_of [sl a12 out c13] ⟨⟨rfl, rfl⟩, trivial⟩, _, _, _, H, rfl, X15.ext, o, ex9, f⟩

theorem spec_sIndex_w (sx : List Variable) (values : List Int) (Q : Int → Prop) (H : spec_sIndex sx values Q) (w : World) {vx : Value} {hx : PH} (r : RS hx vx sx) (ex : Sub hx w) {vx1 : Value} {hx2 : PH} (r3 : RS hx2 vx1 values) (ex4 : Sub hx2 w) :
  CallsTo Tryz.prog 140 #[vx, vx1] w fun v w' => ∃ r0, Q r0 ∧ v = I r0 ∧ Ext w w' := by
 obtain ⟨a, c, rfl⟩ := r.shape
 obtain ⟨a5, c6, rfl⟩ := r3.shape
 refine enter (args := [sl a sx c, sl a5 values c6]) 26 Tryz.func140 rfl rfl rfl ?_
 refine W_forget [(0, sl a sx c), (1, sl a5 values c6)] ⟨rfl, rfl, trivial⟩ fun ρ => ?_
 have X := But.refl emp w
 refine W_seq (W_region ?_)
 refine LP_ev ok 0 [(4, I 0)] 1 rfl rfl ?_
 refine LP_end _ rfl (W_seq (W_region ?_))
 refine LP_ev ok 0 [(5, I 0)] 1 rfl rfl ?_
 refine LP_end _ rfl (W_seq ?_)
 refine W_seq (W_region ?_)
 refine LP_ev ok 0 [(8, sl a sx c), (9, I (ln sx)), (10, I 0)] 3 rfl rfl ?_
 refine LP_end _ rfl ?_
 refine W_block ?_
 obtain ⟨J, m, Hx, H⟩ := H
 refine W_loop (S := Int × Int) (fun s ρ' w' => J s.1 s.2 ∧ ∃ (ρ : Env), ρ' = setAll [(1, sl a5 values c6), (5, I s.1), (8, sl a sx c), (9, I (ln sx)), (10, I s.2)] ρ ∧ But emp w w' ∧ Sub hx w' ∧ Sub hx2 w') (fun s => m s.1 s.2) (0, 0) ⟨Hx, _, env_eq ⟨rfl, rfl, rfl, rfl, rfl, trivial⟩, X, ex, ex4⟩ ?_
 rintro ⟨n, x⟩ _ wx ⟨Hi, ρ, rfl, X9, ex7, ex8⟩
 have H := H n x Hi
 refine W_seq (W_region ?_)
 refine LP_ev ok 0 [(11, .bool (decide (x < (ln sx))))] 1 rfl rfl ?_
 refine LP_end _ rfl (W_seq ?_)
 refine W_cond (decide (x < (ln sx))) rfl (fun hc => ?_) (fun hc => ?_)
 ·have H := H.1 hc
  refine W_skip ?_
  refine W_seq ?_
  refine W_block ?_
  refine W_seq (W_region ?_)
  refine LP_ev ok 0 [(12, I x)] 1 rfl rfl ?_
  obtain ⟨x10, hi, hx11, H⟩ := H
  refine LP_index 1 rfl rfl rfl Tryz.underlying39 ti_82 rfl rfl r hi hx11 fun a12 cs r13 d => ?_
  refine LP_load 2 rfl rfl rfl ti_82 ag_82 rfl r13 d ex7 fun vx14 r15 => ?_
  obtain rfl := Variable_rv r15
  refine LP_alloc 3 rfl rfl rfl ti_82 rfl fun b wx16 x17 ex18 f => ?_
  refine LP_ev ok 4 [(6, I x)] 5 rfl rfl ?_
  refine LP_stbox 5 (vs := [.string x10.Name, I x10.Levels]) (cs' := [.string x10.Name, I x10.Levels]) rfl rfl rfl ti_82 rfl rfl rfl rfl rfl ex18 rfl rfl fun wx19 ex20 y => ?_
  refine LP_end _ rfl ?_
  refine W_quiet mix (by kernel_rfl) ?_
  refine QP_ev ok 0 [(15, I n), (16, .pointer (some ⟨b, 1, none⟩))] 2 rfl rfl ?_
  refine QP_ldbox 2 (v := I x10.Levels) rfl rfl rfl ti_3 ag_3 (fun _ => rfl) rfl ex20 rfl rfl ?_
  refine QP_ev ok 3 [(18, I (wr (n * x10.Levels))), (19, sl a5 values c6), (20, I x)] 6 rfl rfl ?_
  obtain ⟨x21, hi22, hx23, H⟩ := H
  refine QP_index 6 rfl rfl rfl Tryz.underlying22 ti_3 rfl rfl r3 hi22 hx23 fun a24 cs25 r26 d27 => ?_
  have ex28 := ((ex8.ext x17).but y (Dj.of_fresh ex8 f).symm)
  refine QP_load 7 rfl rfl rfl ti_3 ag_3 rfl r26 d27 ex28 fun vx29 r30 => ?_
  obtain rfl := r30.int
  refine QP_ev ok 8 [(23, I (wr ((wr (n * x10.Levels)) + x21))), (5, I (wr ((wr (n * x10.Levels)) + x21)))] 10 rfl rfl ?_
  refine QP_end _ rfl fun wx31 x32 => ?_
  refine W_region ?_
  refine LP_ev ok 0 [(24, I (wr (x + 1))), (10, I (wr (x + 1)))] 2 rfl rfl ?_
  refine LP_end _ rfl ?_
  have f33 := f.mono X9.size
  exact ⟨(wr ((wr (n * x10.Levels)) + x21), wr (x + 1)), ⟨H.1, _, env_eq ⟨rfl, rfl, rfl, rfl, rfl, trivial⟩, (((X9.stepx x17).step y (f33.dom _)).stepx x32), (((ex7.ext x17).but y (Dj.of_fresh ex7 f).symm).ext x32), (ex28.ext x32)⟩, H.2⟩
 have H := H.2 hc
 refine W_exit ?_
 refine (if_pos rfl).mpr ?_
 refine W_seq (W_region ?_)
 refine LP_ev ok 0 [(25, I n), (4, I n)] 2 rfl rfl ?_
 refine LP_end _ rfl (W_ret ?_)
 exact ⟨_, Ret_of [I n] ⟨⟨rfl, rfl⟩, trivial⟩, _, H, rfl, X9.ext⟩

theorem spec_uCell_w (g : Geo) (sx : List Variable) (t : Table) (r19 : Record) (Q : Int → Int → Prop) (H : spec_uCell g sx t r19 Q) (w : World) {vx : Value} {hx : PH} (r : RS hx vx g.Parents) (ex : Sub hx w) {vx1 : Value} {hx2 : PH} (r3 : RS hx2 vx1 sx) (ex4 : Sub hx2 w) {vx7 : Value} {hx8 : PH} (r9 : RS hx8 vx7 t.Vars) (ex10 : Sub hx8 w) {vx13 : Value} {hx14 : PH} (r15 : RS hx14 vx13 t.Where) (ex16 : Sub hx14 w) {vx20 : Value} {hx21 : PH} (r22 : RS hx21 vx20 r19.Values) (ex23 : Sub hx21 w) :
  CallsTo Tryz.prog 104 #[.agg #[vx], vx1, .agg #[I t.Level, vx7, vx13, I t.Sum], .agg #[I r19.Area, I r19.House, vx20]] w fun v w' => ∃ r0 r1, Q r0 r1 ∧ v = .tuple #[I r0, I r1] ∧ Ext w w' := by
 obtain ⟨a, c, rfl⟩ := r.shape
 obtain ⟨a5, c6, rfl⟩ := r3.shape
 obtain ⟨a11, c12, rfl⟩ := r9.shape
 obtain ⟨a17, c18, rfl⟩ := r15.shape
 obtain ⟨a24, c25, rfl⟩ := r22.shape
 refine enter (args := [.agg #[sl a g.Parents c], sl a5 sx c6, .agg #[I t.Level, sl a11 t.Vars c12, sl a17 t.Where c18, I t.Sum], .agg #[I r19.Area, I r19.House, sl a24 r19.Values c25]]) 60 Tryz.func104 rfl rfl rfl ?_
 refine W_forget [(0, .agg #[sl a g.Parents c]), (1, sl a5 sx c6), (2, .agg #[I t.Level, sl a11 t.Vars c12, sl a17 t.Where c18, I t.Sum]), (3, .agg #[I r19.Area, I r19.House, sl a24 r19.Values c25])] ⟨rfl, rfl, rfl, rfl, trivial⟩ fun ρ => ?_
 have X := But.refl emp w
 refine W_seq (W_region ?_)
 refine LP_box 0 (cs := [sl a g.Parents c]) rfl rfl rfl rfl rfl fun b wx x ex26 f => ?_
 refine LP_box 1 (cs := [I t.Level, sl a11 t.Vars c12, sl a17 t.Where c18, I t.Sum]) rfl rfl rfl rfl rfl fun b27 wx28 x29 ex30 f31 => ?_
 refine LP_box 2 (cs := [I r19.Area, I r19.House, sl a24 r19.Values c25]) rfl rfl rfl rfl rfl fun b32 wx33 x34 ex35 f36 => ?_
 refine LP_ev ok 3 [(8, I 0), (9, I 0)] 5 rfl rfl ?_
 refine LP_end _ rfl (W_seq (W_region ?_))
 have ex37 := (ex26.ext (x29.trans x34))
 refine LP_ldbox 0 (v := .agg #[sl a g.Parents c]) rfl rfl rfl ti_37 ag_37 (fun h => by cases h) rfl ex37 rfl rfl ?_
 refine LP_ev ok 1 [(14, pb b32)] 2 rfl rfl ?_
 refine LP_ldbox 2 (v := I r19.Area) rfl rfl rfl ti_3 ag_3 (fun _ => rfl) rfl ex35 rfl rfl ?_
 refine LP_ev ok 3 [(16, pb b27)] 4 rfl rfl ?_
 have ex38 := (ex30.ext x34)
 refine LP_ldbox 4 (v := I t.Level) rfl rfl rfl ti_3 ag_3 (fun _ => rfl) rfl ex38 rfl rfl ?_
 have xc40 := ((x.trans x29).trans x34)
 have ex41 := (ex.ext xc40)
 refine LP_call 5 rfl rfl rfl cal_137 rfl (spec_gUp_w _ _ _ _ H wx33 r ex41) ?_
 rintro _ wx42 ⟨r39, H, rfl, x43⟩
 refine LP_ev ok 6 [(10, I r39)] 7 rfl rfl ?_
 refine LP_end _ rfl (W_seq ?_)
 obtain ⟨k, hk, H⟩ := jn_elim H
 refine W_join2 (S := Bool) (fun s ρ' w' => k s ∧ ∃ (ρ : Env), ρ' = setAll [(1, sl a5 sx c6), (4, pb b), (6, pb b27), (7, pb b32), (10, I r39), (27, .bool s)] ρ ∧ But emp w w' ∧ Sub hx w' ∧ Sub hx2 w' ∧ Sub hx8 w' ∧ Sub hx14 w' ∧ Sub hx21 w' ∧ Sub (bx b 37 [sl a g.Parents c]) w' ∧ Sub (bx b27 41 [I t.Level, sl a11 t.Vars c12, sl a17 t.Where c18, I t.Sum]) w' ∧ Sub (bx b32 118 [I r19.Area, I r19.House, sl a24 r19.Values c25]) w') ?_ ?_
 ·refine W_region ?_
  refine LP_ev ok 0 [(19, I r39), (20, .bool (decide (r39 < 0))), (21, .bool (decide (r39 < 0)))] 3 rfl rfl ?_
  refine LP_split 21 (decide (r39 < 0)) rfl (fun hc => ?_) (fun hc => ?_)
  ·have H := H.1 hc
   refine LP_ev ok 3 [(22, undef), (23, undef), (24, undef), (25, undef), (26, undef), (27, .bool true)] 9 rfl rfl ?_
   refine LP_end _ rfl ?_
   have xc55 := (xc40.trans x43)
   exact ⟨true, H, _, env_eq ⟨rfl, rfl, rfl, rfl, rfl, rfl, trivial⟩, (X.stepx xc55), (ex41.ext x43), (ex4.ext xc55), (ex10.ext xc55), (ex16.ext xc55), (ex23.ext xc55), (ex37.ext x43), (ex38.ext x43), (ex35.ext x43)⟩
  have H := H.2 hc
  have ex65 := (ex38.ext x43)
  refine LP_ldbox 3 (v := .agg #[I t.Level, sl a11 t.Vars c12, sl a17 t.Where c18, I t.Sum]) rfl rfl rfl ti_41 ag_41 (fun h => by cases h) rfl ex65 rfl rfl ?_
  refine LP_ev ok 4 [(23, .pointer (some ⟨b32, 2, none⟩))] 5 rfl rfl ?_
  have ex66 := (ex35.ext x43)
  refine LP_ldbox 5 (v := sl a24 r19.Values c25) rfl rfl rfl ti_22 ag_22 (fun _ => rfl) rfl ex66 rfl rfl ?_
  have xc68 := (xc40.trans x43)
  have ex69 := (ex10.ext xc68)
  have ex70 := (ex16.ext xc68)
  have ex71 := (ex23.ext xc68)
  refine LP_call 6 rfl rfl rfl cal_138 rfl (spec_uMeets_w _ _ _ H wx42 r9 ex69 r15 ex70 r22 ex71) ?_
  rintro _ wx72 ⟨r67, H, rfl, x73⟩
  refine LP_ev ok 7 [(26, .bool (!r67)), (27, .bool (!r67))] 9 rfl rfl ?_
  refine LP_end _ rfl ?_
  have xc74 := (xc68.trans x73)
  have xc76 := (x43.trans x73)
  exact ⟨!r67, H, _, env_eq ⟨rfl, rfl, rfl, rfl, rfl, rfl, trivial⟩, (X.stepx xc74), (ex41.ext xc76), (ex4.ext xc74), (ex69.ext x73), (ex70.ext x73), (ex71.ext x73), (ex37.ext xc76), (ex65.ext x73), (ex66.ext x73)⟩
 rintro x44 _ wx45 ⟨H, ρ, rfl, HF⟩
 revert HF
 refine bb9 fun X54 ex46 ex47 ex48 ex49 ex50 ex51 ex52 ex53 => ?_
 subst hk
 refine W_cond (x44) rfl (fun hc85 => ?_) (fun hc85 => ?_)
 ·have H := H.1 hc85
  refine W_seq (W_region ?_)
  refine LP_ev ok 0 [(8, I ((-1))), (9, I 0)] 2 rfl rfl ?_
  refine LP_end _ rfl (W_ret ?_)
  exact ⟨_, Ret_of [I ((-1)), I 0] ⟨⟨rfl, rfl⟩, ⟨rfl, rfl⟩, trivial⟩, _, _, H, rfl, X54.ext⟩
 have H := H.2 hc85
 refine W_skip ?_
 refine W_seq (W_region ?_)
 refine LP_ev ok 0 [(28, sl a5 sx c6), (29, .pointer (some ⟨b27, 1, none⟩))] 2 rfl rfl ?_
 refine LP_ldbox 2 (v := sl a11 t.Vars c12) rfl rfl rfl ti_22 ag_22 (fun _ => rfl) rfl ex52 rfl rfl ?_
 refine LP_call 3 rfl rfl rfl cal_136 rfl (spec_sPart_w _ _ _ H wx45 r3 ex47 r9 ex48) ?_
 rintro _ wx87 ⟨r86, vx89, hx90, H, rfl, x88, o, ex91, f92⟩
 obtain ⟨a93, c94, rfl⟩ := o.shape
 refine LP_ev ok 4 [(11, sl a93 r86 c94)] 5 rfl rfl ?_
 refine LP_end _ rfl (W_seq ?_)
 refine W_open mix fun wx95 x96 => ?_
 refine AP_game 16 [[], [], [1], [0, 1, 2], [], [0, 1, 2, 3, 4], [], [0, 1, 2, 3, 4, 5, 6], [0, 1, 2, 3, 4, 5, 6, 7], [], [], [10], [], [12], [0, 1, 2, 3, 4, 5, 6, 7, 10, 11, 12, 13], [0, 1, 2, 3, 4, 5, 6, 7, 9, 10, 11, 12, 13, 14], [0, 1, 2, 3, 4, 5, 6, 7, 8, 9, 10, 11, 12, 13, 14, 15], [0, 1, 2, 3, 4, 5, 6, 7, 8, 9, 10, 11, 12, 13, 14, 15, 16]] [[(4, none)], [(6, none)], [(33, some 1)], [(32, some 0), (34, some 2)], [(10, none)], [(35, some 3), (36, some 4)], [(11, none)], [(38, some 6)], [(37, some 5), (39, some 7)], [(11, none)], [(7, none)], [(42, some 10)], [(6, none)], [(44, some 12)], [(43, some 11), (45, some 13)], [(41, some 9), (46, some 14)]] [(6, none), (7, none), (40, some 8), (47, some 15)] [(0, false), (1, false), (2, false), (4, false), (6, false), (9, false), (10, false), (11, false), (12, false), (13, false), (3, true), (5, false), (7, false), (8, false), (14, true), (15, false)] (by kernel_rfl) (by kernel_rfl) ?_
 have xc97 := (x88.trans x96)
 refine GS_r1 [(4, pb b)] (.agg #[sl a g.Parents c]) rfl rfl (fun _ h => h) (fun _ w e => ex_ldbox rfl ti_37 ag_37 (fun h => by cases h) rfl e rfl rfl) (ex51.ext xc97) ?_
 refine GS_ev ok [(6, pb b27)] (pb b27) rfl rfl (fun _ h => h) (fun _ => rfl) ?_
 have ex99 := (ex52.ext xc97)
 refine GS_r1 [(33, pb b27)] (I t.Level) rfl rfl (fun _ h => h) (fun _ w e => ex_ldbox rfl ti_3 ag_3 (fun _ => rfl) rfl e rfl rfl) ex99 ?_
 refine GS_ev ok [(10, I r39)] (I r39) rfl rfl (fun _ h => h) (fun _ => rfl) ?_
 refine GS_ev ok [(11, sl a93 r86 c94)] (sl a93 r86 c94) rfl rfl (fun _ h => h) (fun _ => rfl) ?_
 refine GS_ev ok [(11, sl a93 r86 c94)] (sl a93 r86 c94) rfl rfl (fun _ h => h) (fun _ => rfl) ?_
 refine GS_ev ok [(7, pb b32)] (.pointer (some ⟨b32, 2, none⟩)) rfl rfl (fun _ h => h) (fun _ => rfl) ?_
 have ex100 := (ex53.ext xc97)
 refine GS_r1 [(42, .pointer (some ⟨b32, 2, none⟩))] (sl a24 r19.Values c25) rfl rfl (fun _ h => h) (fun _ w e => ex_ldbox rfl ti_22 ag_22 (fun _ => rfl) rfl e rfl rfl) ex100 ?_
 refine GS_ev ok [(6, pb b27)] (.pointer (some ⟨b27, 1, none⟩)) rfl rfl (fun _ h => h) (fun _ => rfl) ?_
 refine GS_r1 [(44, .pointer (some ⟨b27, 1, none⟩))] (sl a11 t.Vars c12) rfl rfl (fun _ h => h) (fun _ w e => ex_ldbox rfl ti_22 ag_22 (fun _ => rfl) rfl e rfl rfl) ex99 ?_
 refine GS_lp [(32, .agg #[sl a g.Parents c]), (34, I t.Level)] rfl rfl (fun _ h => h) rfl fun ρ wx101 x102 => ?_
 refine LP_call 0 rfl rfl rfl cal_130 rfl (spec_gLevel_w _ _ _ H wx101 r (ex46.ext (xc97.trans x102))) ?_
 rintro _ wx106 ⟨r103, vx108, hx109, H, rfl, x107, o110, ex111, f112⟩
 obtain ⟨a113, c114, rfl⟩ := o110.shape
 have xc115 := (x102.trans x107)
 refine LP_gs ⟨⟨.inr (ex99.ext xc115), .inr (ex100.ext xc115), .inl rfl, .inl rfl, trivial⟩, ?_⟩
 obtain ⟨r118, Hd, H⟩ := H
 refine GS_q [(35, sl a113 r103 c114), (36, I r39)] (I r118) [hx109] [sl a113 r103 c114, I r39] rfl rfl (fun _ h => h) rfl cal_139 (fun _ => rfl) (fun w e => (spec_l1Find_w _ _ _ Hd w o110.readf e.1).mono (fun _ _ h => by obtain ⟨_, rfl, rfl, x⟩ := h; exact ⟨rfl, x⟩)) ⟨ex111, trivial⟩ ?_
 obtain ⟨r119, Hd120, H⟩ := H
 have ex122 := (ex91.ext ((x96.trans x102).trans x107))
 refine GS_q [(38, sl a93 r86 c94)] (I r119) [hx90] [sl a93 r86 c94] rfl rfl (fun _ h => h) rfl cal_135 (fun _ => rfl) (fun w e => (spec_sCount_w _ _ Hd120 w o.readf e.1).mono (fun _ _ h => by obtain ⟨_, rfl, rfl, x⟩ := h; exact ⟨rfl, x⟩)) ⟨ex122, trivial⟩ ?_
 refine GS_ev ok [(37, I r118), (39, I r119)] (I (wr (r118 * r119))) rfl rfl (fun _ h => h) (fun _ => rfl) ?_
 refine GS_lp [(43, sl a24 r19.Values c25), (45, sl a11 t.Vars c12)] rfl rfl (fun _ h => h) rfl fun ρ wx123 x124 => ?_
 have xc126 := ((((x88.trans x96).trans x102).trans x107).trans x124)
 have ex127 := (ex50.ext xc126)
 refine LP_call 0 rfl rfl rfl cal_141 rfl (spec_sPick_w _ _ _ H wx123 r22 ex127 r9 (ex48.ext xc126)) ?_
 rintro _ wx129 ⟨r125, vx131, hx132, H, rfl, x130, o133, ex134, f135⟩
 obtain ⟨a136, c137, rfl⟩ := o133.shape
 refine LP_gs ⟨⟨.inl rfl, .inl rfl, .inl rfl, .inl rfl, .inl rfl, .inl rfl, trivial⟩, ?_⟩
 obtain ⟨r138, Hd139, H⟩ := H
 refine GS_q [(41, sl a93 r86 c94), (46, sl a136 r125 c137)] (I r138) [hx90, hx132] [sl a93 r86 c94, sl a136 r125 c137] rfl rfl (fun _ h => h) rfl cal_140 (fun _ => rfl) (fun w e => (spec_sIndex_w _ _ _ Hd139 w o.readf e.1 o133.readf e.2.1).mono (fun _ _ h => by obtain ⟨_, rfl, rfl, x⟩ := h; exact ⟨rfl, x⟩)) ⟨(ex122.ext (x124.trans x130)), ex134, trivial⟩ ?_
 intro wx142 x143 ρ hn
 refine AP_forget [(6, pb b27), (7, pb b32), (40, I (wr (r118 * r119))), (47, I r138)] (by exact hn) fun ρ => ?_
 refine AP_tail 16 [[], [], [1], [0, 1, 2], [], [0, 1, 2, 3, 4], [], [0, 1, 2, 3, 4, 5, 6], [0, 1, 2, 3, 4, 5, 6, 7], [], [], [10], [], [12], [0, 1, 2, 3, 4, 5, 6, 7, 10, 11, 12, 13], [0, 1, 2, 3, 4, 5, 6, 7, 9, 10, 11, 12, 13, 14], [0, 1, 2, 3, 4, 5, 6, 7, 8, 9, 10, 11, 12, 13, 14, 15], [0, 1, 2, 3, 4, 5, 6, 7, 8, 9, 10, 11, 12, 13, 14, 15, 16]] (by kernel_rfl) ?_
 refine LP_ev ok 16 [(48, I (wr ((wr (r118 * r119)) + r138))), (12, I (wr ((wr (r118 * r119)) + r138)))] 18 rfl rfl ?_
 refine LP_end _ rfl (W_seq ?_)
 refine W_seq (W_region ?_)
 refine LP_ev ok 0 [(49, .pointer (some ⟨b27, 3, none⟩))] 1 rfl rfl ?_
 have xc144 := ((((x102.trans x107).trans x124).trans x130).trans x143)
 have ex145 := (ex99.ext xc144)
 refine LP_ldbox 1 (v := I t.Sum) rfl rfl rfl ti_3 ag_3 (fun _ => rfl) rfl ex145 rfl rfl ?_
 refine LP_ev ok 2 [(51, .bool (decide (t.Sum < 0)))] 3 rfl rfl ?_
 refine LP_end _ rfl ?_
 refine W_cond (decide (t.Sum < 0)) rfl (fun hc146 => ?_) (fun hc146 => ?_)
 ·have H := H.1 hc146
  refine W_seq (W_region ?_)
  refine LP_ev ok 0 [(52, I (wr ((wr (r118 * r119)) + r138))), (8, I (wr ((wr (r118 * r119)) + r138))), (9, I 1)] 3 rfl rfl ?_
  refine LP_end _ rfl (W_ret ?_)
  exact ⟨_, Ret_of [I (wr ((wr (r118 * r119)) + r138)), I 1] ⟨⟨rfl, rfl⟩, ⟨rfl, rfl⟩, trivial⟩, _, _, H, rfl, (X54.stepx ((((((x88.trans x96).trans x102).trans x107).trans x124).trans x130).trans x143)).ext⟩
 have H := H.2 hc146
 refine W_skip ?_
 refine W_seq ?_
 refine W_quiet mix (by kernel_rfl) ?_
 refine QP_ev ok 0 [(53, I (wr ((wr (r118 * r119)) + r138))), (54, .pointer (some ⟨b32, 2, none⟩))] 2 rfl rfl ?_
 refine QP_ldbox 2 (v := sl a24 r19.Values c25) rfl rfl rfl ti_22 ag_22 (fun _ => rfl) rfl (ex100.ext xc144) rfl rfl ?_
 refine QP_ev ok 3 [(56, .pointer (some ⟨b27, 3, none⟩))] 4 rfl rfl ?_
 refine QP_ldbox 4 (v := I t.Sum) rfl rfl rfl ti_3 ag_3 (fun _ => rfl) rfl ex145 rfl rfl ?_
 obtain ⟨x150, hi, hx151, H⟩ := H
 refine QP_index 5 rfl rfl rfl Tryz.underlying22 ti_3 rfl rfl r22 hi hx151 fun a152 cs r153 d => ?_
 refine QP_load 6 rfl rfl rfl ti_3 ag_3 rfl r153 d (ex127.ext (x130.trans x143)) fun vx156 r157 => ?_
 obtain rfl := r157.int
 refine QP_ev ok 7 [(8, I (wr ((wr (r118 * r119)) + r138))), (9, I x150)] 9 rfl rfl ?_
 refine QP_end _ rfl fun wx158 x159 => ?_
 refine W_ret ?_
 exact ⟨_, Ret_of [I (wr ((wr (r118 * r119)) + r138)), I x150] ⟨⟨rfl, rfl⟩, ⟨rfl, rfl⟩, trivial⟩, _, _, H, rfl, (X54.stepx (((((((x88.trans x96).trans x102).trans x107).trans x124).trans x130).trans x143).trans x159)).ext⟩

theorem spec_uTable_w (g : Geo) (sx : List Variable) (t : Table) (l : List Record) (Q : (List Int) → Prop) (H : spec_uTable g sx t l Q) (w : World) {vx : Value} {hx : PH} (r : RS hx vx g.Parents) (ex : Sub hx w) {vx1 : Value} {hx2 : PH} (r3 : RS hx2 vx1 sx) (ex4 : Sub hx2 w) {vx7 : Value} {hx8 : PH} (r9 : RS hx8 vx7 t.Vars) (ex10 : Sub hx8 w) {vx13 : Value} {hx14 : PH} (r15 : RS hx14 vx13 t.Where) (ex16 : Sub hx14 w) {vx19 : Value} {hx20 : PH} (r21 : RS hx20 vx19 l) (ex22 : Sub hx20 w) :
  CallsTo Tryz.prog 71 #[.agg #[vx], vx1, .agg #[I t.Level, vx7, vx13, I t.Sum], vx19] w fun v w' => ∃ r0 u0 g0, Q r0 ∧ v = u0 ∧ Ext w w' ∧ OS 3 g0 emp u0 r0 ∧ Sub g0 w' ∧ Fresh w.heap.size g0 := by
 obtain ⟨a, c, rfl⟩ := r.shape
 obtain ⟨a5, c6, rfl⟩ := r3.shape
 obtain ⟨a11, c12, rfl⟩ := r9.shape
 obtain ⟨a17, c18, rfl⟩ := r15.shape
 obtain ⟨a23, c24, rfl⟩ := r21.shape
 refine enter (args := [.agg #[sl a g.Parents c], sl a5 sx c6, .agg #[I t.Level, sl a11 t.Vars c12, sl a17 t.Where c18, I t.Sum], sl a23 l c24]) 44 Tryz.func71 rfl rfl rfl ?_
 refine W_forget [(0, .agg #[sl a g.Parents c]), (1, sl a5 sx c6), (2, .agg #[I t.Level, sl a11 t.Vars c12, sl a17 t.Where c18, I t.Sum]), (3, sl a23 l c24)] ⟨rfl, rfl, rfl, rfl, trivial⟩ fun ρ => ?_
 have X := But.refl emp w
 refine W_seq (W_region ?_)
 refine LP_box 0 (cs := [sl a g.Parents c]) rfl rfl rfl rfl rfl fun b wx x ex25 f => ?_
 refine LP_box 1 (cs := [I t.Level, sl a11 t.Vars c12, sl a17 t.Where c18, I t.Sum]) rfl rfl rfl rfl rfl fun b26 wx27 x28 ex29 f30 => ?_
 refine LP_ev ok 2 [(8, .slice none 0 0)] 3 rfl rfl ?_
 refine LP_end _ rfl (W_seq (W_region ?_))
 have ex31 := (ex25.ext x28)
 refine LP_ldbox 0 (v := .agg #[sl a g.Parents c]) rfl rfl rfl ti_37 ag_37 (fun h => by cases h) rfl ex31 rfl rfl ?_
 refine LP_ev ok 1 [(15, sl a5 sx c6)] 2 rfl rfl ?_
 refine LP_ldbox 2 (v := .agg #[I t.Level, sl a11 t.Vars c12, sl a17 t.Where c18, I t.Sum]) rfl rfl rfl ti_41 ag_41 (fun h => by cases h) rfl ex29 rfl rfl ?_
 have xc := (x.trans x28)
 have ex33 := (ex.ext xc)
 have ex34 := (ex4.ext xc)
 have ex35 := (ex10.ext xc)
 have ex36 := (ex16.ext xc)
 refine LP_call 3 rfl rfl rfl cal_103 rfl (spec_uCount_w _ _ _ _ H wx27 r ex33 r3 ex34 r9 ex35 r15 ex36) ?_
 rintro _ wx37 ⟨r32, H, rfl, x38⟩
 obtain ⟨hn, hb, H⟩ := H
 refine LP_make (α := Int) 4 rfl rfl rfl Tryz.underlying22 ti_3 (x0 := (0 : Int)) rfl rfl hn (by first | omega | (simp only [ln] at *; omega)) (by first | omega | (simp only [ln] at *; omega)) fun hx39 vx40 wx41 x42 o ex43 f44 => ?_
 obtain ⟨a45, c46, rfl⟩ := o.shape
 refine LP_ev ok 5 [(9, .slice a45 (List.length (List.replicate (Int.toNat r32) ((0 : Int)))) c46)] 6 rfl rfl ?_
 refine LP_end _ rfl (W_seq ?_)
 refine W_seq (W_region ?_)
 refine LP_ev ok 0 [(19, sl a23 l c24), (20, I (ln l)), (21, I 0)] 3 rfl rfl ?_
 refine LP_end _ rfl ?_
 refine W_block ?_
 have xc68 := (((x.trans x28).trans x38).trans x42)
 have xc71 := (xc.trans x38)
 have f70 := f44.mono (X.stepx xc71).size
 have xc73 := (x38.trans x42)
 obtain ⟨J, m, Hx, H⟩ := H
 refine W_loop (S := (List Int) × Int) (fun s ρ' w' => J s.1 s.2 ∧ ∃ (ρ : Env) (hx48 : PH), ρ' = setAll [(1, sl a5 sx c6), (4, pb b), (6, pb b26), (9, .slice a45 (List.length (List.replicate (Int.toNat r32) ((0 : Int)))) c46), (19, sl a23 l c24), (20, I (ln l)), (21, I s.2)] ρ ∧ But emp w w' ∧ OS 3 hx48 emp (.slice a45 (List.length (List.replicate (Int.toNat r32) ((0 : Int)))) c46) s.1 ∧ Sub hx48 w' ∧ Fresh w.heap.size hx48 ∧ Sub hx w' ∧ Sub hx2 w' ∧ Sub hx8 w' ∧ Sub hx14 w' ∧ Sub hx20 w' ∧ Sub (bx b 37 [sl a g.Parents c]) w' ∧ Sub (bx b26 41 [I t.Level, sl a11 t.Vars c12, sl a17 t.Where c18, I t.Sum]) w' ∧ Dj hx48 hx ∧ Dj hx48 hx2 ∧ Dj hx48 hx8 ∧ Dj hx48 hx14 ∧ Dj hx48 hx20 ∧ Dj hx48 (bx b 37 [sl a g.Parents c]) ∧ Dj hx48 (bx b26 41 [I t.Level, sl a11 t.Vars c12, sl a17 t.Where c18, I t.Sum])) (fun s => m s.1 s.2) (List.replicate (Int.toNat r32) ((0 : Int)), 0) ⟨Hx, _, hx39, env_eq ⟨rfl, rfl, rfl, rfl, rfl, rfl, rfl, trivial⟩, (X.stepx xc68), o, ex43, f70, (ex33.ext xc73), (ex34.ext xc73), (ex35.ext xc73), (ex36.ext xc73), (ex22.ext xc68), (ex31.ext xc73), (ex29.ext xc73), (Dj.of_fresh (ex33.ext x38) f44).symm, (Dj.of_fresh (ex34.ext x38) f44).symm, (Dj.of_fresh (ex35.ext x38) f44).symm, (Dj.of_fresh (ex36.ext x38) f44).symm, (Dj.of_fresh (ex22.ext xc71) f44).symm, (Dj.of_fresh (ex31.ext x38) f44).symm, (Dj.of_fresh (ex29.ext x38) f44).symm⟩ ?_
 rintro ⟨out, x52⟩ _ wx53 ⟨Hi, ρ, hx48, rfl, HF⟩
 revert HF
 refine bb9 fun X67 o49 ex50 f51 ex54 ex55 ex56 ex57 => ?_
 refine bb9 fun ex58 ex59 ex60 d d61 d62 d63 d64 => ?_
 refine bb2 fun d65 d66 => ?_
 have H := H out x52 Hi
 refine W_seq (W_region ?_)
 refine LP_ev ok 0 [(22, .bool (decide (x52 < (ln l))))] 1 rfl rfl ?_
 refine LP_end _ rfl (W_seq ?_)
 refine W_cond (decide (x52 < (ln l))) rfl (fun hc => ?_) (fun hc => ?_)
 ·have H := H.1 hc
  refine W_skip ?_
  obtain ⟨k, hk, H⟩ := jn_elim H
  refine W_join2 (S := (List Int)) (fun s ρ' w' => k s ∧ ∃ (ρ : Env) (hx90 : PH), ρ' = setAll [(1, sl a5 sx c6), (4, pb b), (6, pb b26), (9, .slice a45 (List.length (List.replicate (Int.toNat r32) ((0 : Int)))) c46), (19, sl a23 l c24), (20, I (ln l)), (21, I x52)] ρ ∧ But emp w w' ∧ OS 3 hx90 emp (.slice a45 (List.length (List.replicate (Int.toNat r32) ((0 : Int)))) c46) s ∧ Sub hx90 w' ∧ Fresh w.heap.size hx90 ∧ Sub hx w' ∧ Sub hx2 w' ∧ Sub hx8 w' ∧ Sub hx14 w' ∧ Sub hx20 w' ∧ Sub (bx b 37 [sl a g.Parents c]) w' ∧ Sub (bx b26 41 [I t.Level, sl a11 t.Vars c12, sl a17 t.Where c18, I t.Sum]) w' ∧ Dj hx90 hx ∧ Dj hx90 hx2 ∧ Dj hx90 hx8 ∧ Dj hx90 hx14 ∧ Dj hx90 hx20 ∧ Dj hx90 (bx b 37 [sl a g.Parents c]) ∧ Dj hx90 (bx b26 41 [I t.Level, sl a11 t.Vars c12, sl a17 t.Where c18, I t.Sum])) ?_ ?_
  ·refine W_block ?_
   refine W_seq (W_region ?_)
   obtain ⟨x110, hi, hx111, H⟩ := H
   refine LP_index 0 rfl rfl rfl Tryz.underlying84 ti_118 rfl rfl r21 hi hx111 fun a112 cs r113 d114 => ?_
   have d115 := d114
   obtain ⟨u, rfl, r116⟩ := Record_rd d115
   obtain ⟨a117, c118, rfl⟩ := r116.shape
   refine LP_load 1 rfl rfl rfl ti_118 ag_118 rfl r113 d114 ex58 fun vx119 r120 => ?_
   obtain ⟨u121, rfl, r122⟩ := Record_rv r120
   obtain ⟨a123, c124, rfl⟩ := r122.shape
   refine LP_alloc 2 rfl rfl rfl ti_118 rfl fun b125 wx126 x127 ex128 f129 => ?_
   refine LP_stbox 3 (vs := [I x110.Area, I x110.House, sl a123 x110.Values c124]) (cs' := [I x110.Area, I x110.House, sl a123 x110.Values c124]) rfl rfl rfl ti_118 rfl rfl rfl rfl rfl ex128 rfl rfl fun wx130 ex131 y => ?_
   refine LP_end _ rfl (W_seq (W_region ?_))
   have ex132 := ((ex59.ext x127).but y (Dj.of_fresh ex59 f129).symm)
   refine LP_ldbox 0 (v := .agg #[sl a g.Parents c]) rfl rfl rfl ti_37 ag_37 (fun h => by cases h) rfl ex132 rfl rfl ?_
   refine LP_ev ok 1 [(27, sl a5 sx c6)] 2 rfl rfl ?_
   have ex133 := ((ex60.ext x127).but y (Dj.of_fresh ex60 f129).symm)
   refine LP_ldbox 2 (v := .agg #[I t.Level, sl a11 t.Vars c12, sl a17 t.Where c18, I t.Sum]) rfl rfl rfl ti_41 ag_41 (fun h => by cases h) rfl ex133 rfl rfl ?_
   refine LP_ldbox 3 (v := .agg #[I x110.Area, I x110.House, sl a123 x110.Values c124]) rfl rfl rfl ti_118 ag_118 (fun h => by cases h) rfl ex131 rfl rfl ?_
   have ex136 := ((ex54.ext x127).but y (Dj.of_fresh ex54 f129).symm)
   have ex137 := ((ex55.ext x127).but y (Dj.of_fresh ex55 f129).symm)
   have ex138 := ((ex56.ext x127).but y (Dj.of_fresh ex56 f129).symm)
   have ex139 := ((ex57.ext x127).but y (Dj.of_fresh ex57 f129).symm)
   have ex140 := ((ex58.ext x127).but y (Dj.of_fresh ex58 f129).symm)
   refine LP_call 4 rfl rfl rfl cal_104 rfl (spec_uCell_w _ _ _ _ _ H wx130 r ex136 r3 ex137 r9 ex138 r15 ex139 r122 ex140) ?_
   rintro _ wx141 ⟨r134, r135, H, rfl, x142⟩
   refine LP_ev ok 5 [(25, .tuple #[I r134, I r135]), (31, I r134), (32, I r135), (12, I r134), (13, I r135)] 10 rfl rfl ?_
   refine LP_end _ rfl (W_seq (W_region ?_))
   refine LP_ev ok 0 [(33, I r134), (34, .bool (decide (r134 ≥ 0)))] 2 rfl rfl ?_
   refine LP_end _ rfl ?_
   refine W_cond (decide (r134 ≥ 0)) rfl (fun hc143 => ?_) (fun hc143 => ?_)
   ·have H := H.1 hc143
    refine W_region ?_
    refine LP_ev ok 0 [(35, .slice a45 (List.length (List.replicate (Int.toNat r32) ((0 : Int)))) c46), (36, I r134)] 2 rfl rfl ?_
    obtain ⟨x144, hi145, hx146, H⟩ := H
    refine LP_index 2 rfl rfl rfl Tryz.underlying22 ti_3 rfl rfl o49.readf hi145 hx146 fun a147 cs148 r149 d150 => ?_
    have ex151 := (((ex50.ext x127).but y (Dj.of_fresh ex50 f129).symm).ext x142)
    refine LP_load 3 rfl rfl rfl ti_3 ag_3 rfl r149 d150 ex151 fun vx152 r153 => ?_
    obtain rfl := r153.int
    refine LP_ev ok 4 [(39, I r135), (40, I (wr (x144 + r135)))] 6 rfl rfl ?_
    obtain ⟨hi154, hl, H⟩ := H
    refine LP_indexw (v := .slice a45 (List.length (List.replicate (Int.toNat r32) ((0 : Int)))) c46) 6 rfl rfl rfl Tryz.underlying22 ti_3 rfl rfl o49 hi154 hl fun a155 wa => ?_
    refine LP_set 7 rfl rfl rfl rfl rfl wa (Le.refl emp) ⟨_, rfl, rfl⟩ ex151 fun hx156 wx157 o158 ex159 y160 dm => ?_
    refine LP_end _ rfl ?_
    try refine W_forget [(1, sl a5 sx c6), (4, pb b), (6, pb b26), (9, .slice a45 (List.length (List.replicate (Int.toNat r32) ((0 : Int)))) c46), (19, sl a23 l c24), (20, I (ln l)), (21, I x52)] ⟨rfl, rfl, rfl, rfl, rfl, rfl, rfl, trivial⟩ fun ρ => ?_
    have f161 := f129.mono X67.size
    have f163 := (dm _).fresh f51 (((X67.stepx x127).step y (f161.dom _)).stepx x142).size
    exact ⟨List.set out (Int.toNat r134) (wr (x144 + r135)), H, _, hx156, env_eq ⟨rfl, rfl, rfl, rfl, rfl, rfl, rfl, trivial⟩, ((((X67.stepx x127).step y (f161.dom _)).stepx x142).step y160 (f51.dom _)), o158, ex159, f163, ((ex136.ext x142).but y160 d), ((ex137.ext x142).but y160 d61), ((ex138.ext x142).but y160 d62), ((ex139.ext x142).but y160 d63), ((ex140.ext x142).but y160 d64), ((ex132.ext x142).but y160 d65), ((ex133.ext x142).but y160 d66), (DomLe.dj (dm _) d (ex136.ext x142)), (DomLe.dj (dm _) d61 (ex137.ext x142)), (DomLe.dj (dm _) d62 (ex138.ext x142)), (DomLe.dj (dm _) d63 (ex139.ext x142)), (DomLe.dj (dm _) d64 (ex140.ext x142)), (DomLe.dj (dm _) d65 (ex132.ext x142)), (DomLe.dj (dm _) d66 (ex133.ext x142))⟩
   have H := H.2 hc143
   refine W_skip ?_
   have f179 := f129.mono X67.size
   exact ⟨out, H, _, hx48, env_eq ⟨rfl, rfl, rfl, rfl, rfl, rfl, rfl, trivial⟩, (((X67.stepx x127).step y (f179.dom _)).stepx x142), o49, (((ex50.ext x127).but y (Dj.of_fresh ex50 f129).symm).ext x142), f51, (ex136.ext x142), (ex137.ext x142), (ex138.ext x142), (ex139.ext x142), (ex140.ext x142), (ex132.ext x142), (ex133.ext x142), d, d61, d62, d63, d64, d65, d66⟩
  rintro out88 _ wx94 ⟨H, ρ, hx90, rfl, HF⟩
  revert HF
  refine bb9 fun X109 o91 ex92 f93 ex95 ex96 ex97 ex98 => ?_
  refine bb9 fun ex99 ex100 ex101 d102 d103 d104 d105 d106 => ?_
  refine bb2 fun d107 d108 => ?_
  subst hk
  refine W_region ?_
  refine LP_ev ok 0 [(42, I (wr (x52 + 1))), (21, I (wr (x52 + 1)))] 2 rfl rfl ?_
  exact LP_end _ rfl ⟨(out88, wr (x52 + 1)), ⟨H.1, _, hx90, env_eq ⟨rfl, rfl, rfl, rfl, rfl, rfl, rfl, trivial⟩, X109, o91, ex92, f93, ex95, ex96, ex97, ex98, ex99, ex100, ex101, d102, d103, d104, d105, d106, d107, d108⟩, H.2⟩
 have H := H.2 hc
 refine W_exit ?_
 refine (if_pos rfl).mpr ?_
 refine W_seq (W_region ?_)
 refine LP_ev ok 0 [(43, .slice a45 (List.length (List.replicate (Int.toNat r32) ((0 : Int)))) c46), (8, .slice a45 (List.length (List.replicate (Int.toNat r32) ((0 : Int)))) c46)] 2 rfl rfl ?_
 refine LP_end _ rfl (W_ret ?_)
 exact ⟨_, Ret_of [.slice a45 (List.length (List.replicate (Int.toNat r32) ((0 : Int)))) c46] ⟨⟨rfl, rfl⟩, trivial⟩, _, _, _, H, rfl, X67.ext, o49, ex50, f51⟩

theorem spec_SiteCells_w (g : Geo) (sx : List Variable) (t : Table) (sites : List (List Record)) (Q : (List (List Int)) → Bool → Prop) (H : spec_SiteCells g sx t sites Q) (w : World) {vx : Value} {hx : PH} (r : RS hx vx g.Parents) (ex : Sub hx w) {vx1 : Value} {hx2 : PH} (r3 : RS hx2 vx1 sx) (ex4 : Sub hx2 w) {vx7 : Value} {hx8 : PH} (r9 : RS hx8 vx7 t.Vars) (ex10 : Sub hx8 w) {vx13 : Value} {hx14 : PH} (r15 : RS hx14 vx13 t.Where) (ex16 : Sub hx14 w) {vx19 : Value} {hx20 : PH} (r21 : RS hx20 vx19 sites) (ex22 : Sub hx20 w) :
  CallsTo Tryz.prog 34 #[.agg #[vx], vx1, .agg #[I t.Level, vx7, vx13, I t.Sum], vx19] w fun v w' => ∃ r0 r1 u0 g0, Q r0 r1 ∧ v = .tuple #[u0, .bool r1] ∧ Ext w w' ∧ OD g0 u0 r0 ∧ Sub g0 w' ∧ Fresh w.heap.size g0 := by
 obtain ⟨a, c, rfl⟩ := r.shape
 obtain ⟨a5, c6, rfl⟩ := r3.shape
 obtain ⟨a11, c12, rfl⟩ := r9.shape
 obtain ⟨a17, c18, rfl⟩ := r15.shape
 obtain ⟨a23, c24, rfl⟩ := r21.shape
 refine enter (args := [.agg #[sl a g.Parents c], sl a5 sx c6, .agg #[I t.Level, sl a11 t.Vars c12, sl a17 t.Where c18, I t.Sum], sl a23 sites c24]) 35 Tryz.func34 rfl rfl rfl ?_
 refine W_forget [(0, .agg #[sl a g.Parents c]), (1, sl a5 sx c6), (2, .agg #[I t.Level, sl a11 t.Vars c12, sl a17 t.Where c18, I t.Sum]), (3, sl a23 sites c24)] ⟨rfl, rfl, rfl, rfl, trivial⟩ fun ρ => ?_
 have X := But.refl emp w
 refine W_seq (W_region ?_)
 refine LP_box 0 (cs := [sl a g.Parents c]) rfl rfl rfl rfl rfl fun b wx x ex25 f => ?_
 refine LP_box 1 (cs := [I t.Level, sl a11 t.Vars c12, sl a17 t.Where c18, I t.Sum]) rfl rfl rfl rfl rfl fun b26 wx27 x28 ex29 f30 => ?_
 refine LP_ev ok 2 [(8, .slice none 0 0), (9, .bool false)] 4 rfl rfl ?_
 refine LP_end _ rfl (W_seq ?_)
 refine W_seq (W_region ?_)
 have ex31 := (ex25.ext x28)
 refine LP_ldbox 0 (v := .agg #[sl a g.Parents c]) rfl rfl rfl ti_37 ag_37 (fun h => by cases h) rfl ex31 rfl rfl ?_
 refine LP_ev ok 1 [(14, sl a5 sx c6)] 2 rfl rfl ?_
 refine LP_ldbox 2 (v := .agg #[I t.Level, sl a11 t.Vars c12, sl a17 t.Where c18, I t.Sum]) rfl rfl rfl ti_41 ag_41 (fun h => by cases h) rfl ex29 rfl rfl ?_
 refine LP_ev ok 3 [(16, sl a23 sites c24)] 4 rfl rfl ?_
 have xc := (x.trans x28)
 have ex33 := (ex.ext xc)
 have ex34 := (ex4.ext xc)
 have ex35 := (ex10.ext xc)
 have ex36 := (ex16.ext xc)
 have ex37 := (ex22.ext xc)
 refine LP_call 4 rfl rfl rfl cal_70 rfl (spec_zeSites_w _ _ _ _ _ H wx27 r ex33 r3 ex34 r9 ex35 r15 ex36 r21 ex37) ?_
 rintro _ wx38 ⟨r32, H, rfl, x39⟩
 refine LP_ev ok 5 [(18, .bool (!r32))] 6 rfl rfl ?_
 refine LP_end _ rfl ?_
 refine W_cond (!r32) rfl (fun hc => ?_) (fun hc => ?_)
 ·have H := H.1 hc
  refine W_seq (W_region ?_)
  refine LP_ev ok 0 [(8, .slice none 0 0), (9, .bool false)] 2 rfl rfl ?_
  refine LP_end _ rfl (W_ret ?_)
  exact ⟨_, Ret_of [.slice none 0 0, .bool false] ⟨⟨rfl, rfl⟩, ⟨rfl, rfl⟩, trivial⟩, _, _, _, emp, H, rfl, (X.stepx (xc.trans x39)).ext, OD.nil, (emp_sub _), (emp_fresh _)⟩
 have H := H.2 hc
 refine W_skip ?_
 refine W_seq (W_region ?_)
 refine LP_ev ok 0 [(10, .slice none 0 0)] 1 rfl rfl ?_
 refine LP_end _ rfl (W_seq ?_)
 refine W_seq (W_region ?_)
 refine LP_ev ok 0 [(19, sl a23 sites c24), (20, I (ln sites)), (21, I 0)] 3 rfl rfl ?_
 refine LP_end _ rfl ?_
 refine W_block ?_
 obtain ⟨J, m, Hx, H⟩ := H
 refine W_loop (S := (List (List Int)) × Int) (fun s ρ' w' => J s.1 s.2 ∧ ∃ (ρ : Env) (vx42 : Value) (hx43 : PH), ρ' = setAll [(1, sl a5 sx c6), (4, pb b), (6, pb b26), (10, vx42), (19, sl a23 sites c24), (20, I (ln sites)), (21, I s.2)] ρ ∧ But emp w w' ∧ OD hx43 vx42 s.1 ∧ Sub hx43 w' ∧ Fresh w.heap.size hx43 ∧ Sub hx w' ∧ Sub hx2 w' ∧ Sub hx8 w' ∧ Sub hx14 w' ∧ Sub hx20 w' ∧ Sub (bx b 37 [sl a g.Parents c]) w' ∧ Sub (bx b26 41 [I t.Level, sl a11 t.Vars c12, sl a17 t.Where c18, I t.Sum]) w' ∧ Dj hx43 hx ∧ Dj hx43 hx2 ∧ Dj hx43 hx8 ∧ Dj hx43 hx14 ∧ Dj hx43 hx20 ∧ Dj hx43 (bx b 37 [sl a g.Parents c]) ∧ Dj hx43 (bx b26 41 [I t.Level, sl a11 t.Vars c12, sl a17 t.Where c18, I t.Sum])) (fun s => m s.1 s.2) ([], 0) ⟨Hx, _, .slice none 0 0, emp, env_eq ⟨rfl, rfl, rfl, rfl, rfl, rfl, rfl, trivial⟩, (X.stepx (xc.trans x39)), OD.nil, (emp_sub _), (emp_fresh _), (ex33.ext x39), (ex34.ext x39), (ex35.ext x39), (ex36.ext x39), (ex37.ext x39), (ex31.ext x39), (ex29.ext x39), (fun _ => .inl rfl), (fun _ => .inl rfl), (fun _ => .inl rfl), (fun _ => .inl rfl), (fun _ => .inl rfl), (fun _ => .inl rfl), (fun _ => .inl rfl)⟩ ?_
 rintro ⟨out, x46⟩ _ wx47 ⟨Hi, ρ, vx42, hx43, rfl, HF⟩
 revert HF
 refine bb9 fun X63 o ex44 f45 ex48 ex49 ex50 ex51 => ?_
 refine bb9 fun ex52 ex53 ex54 d d57 d58 d59 d60 => ?_
 refine bb2 fun d61 d62 => ?_
 have H := H out x46 Hi
 obtain ⟨a55, c56, rfl⟩ := o.shape
 refine W_seq (W_region ?_)
 refine LP_ev ok 0 [(22, .bool (decide (x46 < (ln sites))))] 1 rfl rfl ?_
 refine LP_end _ rfl (W_seq ?_)
 refine W_cond (decide (x46 < (ln sites))) rfl (fun hc73 => ?_) (fun hc73 => ?_)
 ·have H := H.1 hc73
  refine W_skip ?_
  refine W_seq ?_
  refine W_block ?_
  refine W_seq (W_region ?_)
  obtain ⟨x74, hi, hx75, H⟩ := H
  refine LP_index 0 rfl rfl rfl Tryz.underlying43 ti_84 rfl rfl r21 hi hx75 fun a76 cs r77 d78 => ?_
  refine LP_load 1 rfl rfl rfl ti_84 ag_84 rfl r77 d78 ex52 fun vx79 r80 => ?_
  have r83 := r80.slice
  obtain ⟨a81, c82, rfl⟩ := r83.shape
  refine LP_ev ok 2 [(12, sl a81 x74 c82)] 3 rfl rfl ?_
  refine LP_end _ rfl ?_
  refine W_region ?_
  refine LP_ev ok 0 [(25, sl a55 out c56)] 1 rfl rfl ?_
  refine LP_ldbox 1 (v := .agg #[sl a g.Parents c]) rfl rfl rfl ti_37 ag_37 (fun h => by cases h) rfl ex53 rfl rfl ?_
  refine LP_ev ok 2 [(27, sl a5 sx c6)] 3 rfl rfl ?_
  refine LP_ldbox 3 (v := .agg #[I t.Level, sl a11 t.Vars c12, sl a17 t.Where c18, I t.Sum]) rfl rfl rfl ti_41 ag_41 (fun h => by cases h) rfl ex54 rfl rfl ?_
  refine LP_ev ok 4 [(29, sl a81 x74 c82)] 5 rfl rfl ?_
  refine LP_call 5 rfl rfl rfl cal_71 rfl (spec_uTable_w _ _ _ _ _ H wx47 r ex48 r3 ex49 r9 ex50 r15 ex51 r83 ex52) ?_
  rintro _ wx85 ⟨r84, vx87, hx88, H, rfl, x86, o89, ex90, f91⟩
  obtain ⟨a92, c93, rfl⟩ := o89.shape
  refine LP_litD (α := List Int) 6 (vs := [sl a92 r84 c93]) (xs := [r84]) rfl rfl rfl Tryz.underlying29 ti_22 rfl rfl (allO.one (OD.rvo (OS.od o89))) ex90 rfl rfl fun hx94 vx95 wx96 x97 o98 ex99 dm => ?_
  obtain ⟨a100, c101, rfl⟩ := o98.shape
  have xc102 := (x86.trans x97)
  obtain ⟨hb, H⟩ := H
  refine LP_appendD (α := List Int) 7 rfl rfl rfl Tryz.underlying29 ti_22 rfl rfl rfl o (ex44.ext xc102) o98 ex99 (DomLe.dj dm (Dj.of_fresh ex44 f91).symm (ex44.ext x86)).symm (by first | omega | (simp only [ln] at *; omega)) (by first | omega | (simp only [ln] at *; omega)) fun hx105 vx106 wx107 hw o108 ex109 y dh dm110 => ?_
  obtain ⟨a111, c112, rfl⟩ := o108.shape
  refine LP_ev ok 8 [(10, .slice a111 (List.length (out ++ ([r84]))) c112)] 9 rfl rfl ?_
  refine LP_end _ rfl ?_
  refine W_region ?_
  refine LP_ev ok 0 [(33, I (wr (x46 + 1))), (21, I (wr (x46 + 1)))] 2 rfl rfl ?_
  refine LP_end _ rfl ?_
  have f114 := f91.mono X63.size
  have X116 := (X63.stepx x86)
  have f115 := DomLe.fresh dm f114 X116.size
  have f117 := DomLe.fresh dm110 (Fresh.un f45 f115) (X116.stepx x97).size
  have ex126 := (ex48.ext x86)
  have ex128 := (ex49.ext x86)
  have ex130 := (ex50.ext x86)
  have ex132 := (ex51.ext x86)
  have ex134 := (ex52.ext x86)
  have ex136 := (ex53.ext x86)
  have ex138 := (ex54.ext x86)
  exact ⟨(out ++ ([r84]), wr (x46 + 1)), ⟨H.1, _, .slice a111 (List.length (out ++ ([r84]))) c112, hx105, env_eq ⟨rfl, rfl, rfl, rfl, rfl, rfl, rfl, trivial⟩, ((X63.stepx xc102).step (But.dom y dh) (f45.dom _)), o108, ex109, f117, ((ex48.ext xc102).but (But.dom y dh) d), ((ex49.ext xc102).but (But.dom y dh) d57), ((ex50.ext xc102).but (But.dom y dh) d58), ((ex51.ext xc102).but (But.dom y dh) d59), ((ex52.ext xc102).but (But.dom y dh) d60), ((ex53.ext xc102).but (But.dom y dh) d61), ((ex54.ext xc102).but (But.dom y dh) d62), (DomLe.dj dm110 (Dj.un_l d (DomLe.dj dm (Dj.of_fresh ex48 f91).symm ex126)) (ex126.ext x97)), (DomLe.dj dm110 (Dj.un_l d57 (DomLe.dj dm (Dj.of_fresh ex49 f91).symm ex128)) (ex128.ext x97)), (DomLe.dj dm110 (Dj.un_l d58 (DomLe.dj dm (Dj.of_fresh ex50 f91).symm ex130)) (ex130.ext x97)), (DomLe.dj dm110 (Dj.un_l d59 (DomLe.dj dm (Dj.of_fresh ex51 f91).symm ex132)) (ex132.ext x97)), (DomLe.dj dm110 (Dj.un_l d60 (DomLe.dj dm (Dj.of_fresh ex52 f91).symm ex134)) (ex134.ext x97)), (DomLe.dj dm110 (Dj.un_l d61 (DomLe.dj dm (Dj.of_fresh ex53 f91).symm ex136)) (ex136.ext x97)), (DomLe.dj dm110 (Dj.un_l d62 (DomLe.dj dm (Dj.of_fresh ex54 f91).symm ex138)) (ex138.ext x97))⟩, H.2⟩
 have H := H.2 hc73
 refine W_exit ?_
 refine (if_pos rfl).mpr ?_
 refine W_seq (W_region ?_)
 refine LP_ev ok 0 [(34, sl a55 out c56), (8, sl a55 out c56), (9, .bool true)] 3 rfl rfl ?_
 refine LP_end _ rfl (W_ret ?_)
 exact ⟨_, Ret_of [sl a55 out c56, .bool true] ⟨⟨rfl, rfl⟩, ⟨rfl, rfl⟩, trivial⟩, _, _, _, _, H, rfl, X63.ext, o, ex44, f45⟩

theorem spec_l1All_w (l : List Int) (lo : Int) (hi : Int) (Q : Bool → Prop) (H : spec_l1All l lo hi Q) (w : World) {vx : Value} {hx : PH} (r : RS hx vx l) (ex : Sub hx w) :
  CallsTo Tryz.prog 83 #[vx, I lo, I hi] w fun v w' => ∃ r0, Q r0 ∧ v = .bool r0 ∧ Ext w w' := by
 obtain ⟨a, c, rfl⟩ := r.shape
 refine enter (args := [sl a l c, I lo, I hi]) 21 Tryz.func83 rfl rfl rfl ?_
 refine W_forget [(0, sl a l c), (1, I lo), (2, I hi)] ⟨rfl, rfl, rfl, trivial⟩ fun ρ => ?_
 have X := But.refl emp w
 refine W_seq (W_region ?_)
 refine LP_ev ok 0 [(6, .bool false)] 1 rfl rfl ?_
 refine LP_end _ rfl (W_seq ?_)
 refine W_seq (W_region ?_)
 refine LP_ev ok 0 [(9, sl a l c), (10, I (ln l)), (11, I 0)] 3 rfl rfl ?_
 refine LP_end _ rfl ?_
 refine W_block ?_
 obtain ⟨J, m, Hx, H⟩ := H
 refine W_loop (S := Int) (fun s ρ' w' => J s ∧ ∃ (ρ : Env), ρ' = setAll [(1, I lo), (2, I hi), (9, sl a l c), (10, I (ln l)), (11, I s)] ρ ∧ But emp w w' ∧ Sub hx w') (fun s => m s) 0 ⟨Hx, _, env_eq ⟨rfl, rfl, rfl, rfl, rfl, trivial⟩, X, ex⟩ ?_
 rintro x _ wx ⟨Hi, ρ, rfl, X2, ex1⟩
 have H := H x Hi
 refine W_seq (W_region ?_)
 refine LP_ev ok 0 [(12, .bool (decide (x < (ln l))))] 1 rfl rfl ?_
 refine LP_end _ rfl (W_seq ?_)
 refine W_cond (decide (x < (ln l))) rfl (fun hc => ?_) (fun hc => ?_)
 ·have H := H.1 hc
  refine W_skip ?_
  refine W_seq ?_
  refine W_block ?_
  refine W_seq (W_region ?_)
  obtain ⟨x3, hi4, hx5, H⟩ := H
  refine LP_index 0 rfl rfl rfl Tryz.underlying22 ti_3 rfl rfl r hi4 hx5 fun a6 cs r7 d => ?_
  refine LP_load 1 rfl rfl rfl ti_3 ag_3 rfl r7 d ex1 fun vx8 r9 => ?_
  obtain rfl := r9.int
  refine LP_ev ok 2 [(8, I x3)] 3 rfl rfl ?_
  refine LP_end _ rfl (W_seq (W_region ?_))
  refine LP_ev ok 0 [(15, I x3), (16, I lo), (17, I hi)] 3 rfl rfl ?_
  refine LP_call 3 rfl rfl rfl cal_75 rfl (spec_l1In_w _ _ _ _ H wx ) ?_
  rintro _ wx11 ⟨r10, H, rfl, x12⟩
  refine LP_ev ok 4 [(19, .bool (!r10))] 5 rfl rfl ?_
  refine LP_end _ rfl ?_
  refine W_cond (!r10) rfl (fun hc13 => ?_) (fun hc13 => ?_)
  ·have H := H.1 hc13
   refine W_seq (W_region ?_)
   refine LP_ev ok 0 [(6, .bool false)] 1 rfl rfl ?_
   refine LP_end _ rfl (W_ret ?_)
   exact ⟨_, Ret_of [.bool false] ⟨⟨rfl, rfl⟩, trivial⟩, _, H, rfl, (X2.stepx x12).ext⟩
  have H := H.2 hc13
  refine W_skip ?_
  refine W_region ?_
  refine LP_ev ok 0 [(20, I (wr (x + 1))), (11, I (wr (x + 1)))] 2 rfl rfl ?_
  exact LP_end _ rfl ⟨wr (x + 1), ⟨H.1, _, env_eq ⟨rfl, rfl, rfl, rfl, rfl, trivial⟩, (X2.stepx x12), (ex1.ext x12)⟩, H.2⟩
 have H := H.2 hc
 refine W_exit ?_
 refine (if_pos rfl).mpr ?_
 refine W_seq (W_region ?_)
 refine LP_ev ok 0 [(6, .bool true)] 1 rfl rfl ?_
 refine LP_end _ rfl (W_ret ?_)
 exact ⟨_, Ret_of [.bool true] ⟨⟨rfl, rfl⟩, trivial⟩, _, H, rfl, X2.ext⟩

theorem spec_hDigest_w (l : List Int) (Q : Bool → Prop) (H : spec_hDigest l Q) (w : World) {vx : Value} {hx : PH} (r : RS hx vx l) (ex : Sub hx w) :
  CallsTo Tryz.prog 82 #[vx] w fun v w' => ∃ r0, Q r0 ∧ v = .bool r0 ∧ Ext w w' := by
 obtain ⟨a, c, rfl⟩ := r.shape
 refine enter (args := [sl a l c]) 5 Tryz.func82 rfl rfl rfl ?_
 refine W_forget [(0, sl a l c)] ⟨rfl, trivial⟩ fun ρ => ?_
 have X := But.refl emp w
 refine W_seq (W_region ?_)
 refine LP_ev ok 0 [(2, .bool false)] 1 rfl rfl ?_
 refine LP_end _ rfl (W_seq (W_region ?_))
 refine LP_ev ok 0 [(3, sl a l c)] 1 rfl rfl ?_
 refine LP_call 1 rfl rfl rfl cal_83 rfl (spec_l1All_w _ _ _ _ H w r ex) ?_
 rintro _ wx ⟨r1, H, rfl, x⟩
 refine LP_ev ok 2 [(2, .bool r1)] 3 rfl rfl ?_
 refine LP_end _ rfl (W_ret ?_)
 exact ⟨_, Ret_of [.bool r1] ⟨⟨rfl, rfl⟩, trivial⟩, _, H, rfl, (X.stepx x).ext⟩

theorem spec_zeSeeds_w (seeds : List (List Int)) (Q : Bool → Prop) (H : spec_zeSeeds seeds Q) (w : World) {vx : Value} {hx : PH} (r : RS hx vx seeds) (ex : Sub hx w) :
  CallsTo Tryz.prog 46 #[vx] w fun v w' => ∃ r0, Q r0 ∧ v = .bool r0 ∧ Ext w w' := by
 obtain ⟨a, c, rfl⟩ := r.shape
 refine enter (args := [sl a seeds c]) 45 Tryz.func46 rfl rfl rfl ?_
 refine W_forget [(0, sl a seeds c)] ⟨rfl, trivial⟩ fun ρ => ?_
 have X := But.refl emp w
 refine W_seq (W_region ?_)
 refine LP_ev ok 0 [(2, .bool false)] 1 rfl rfl ?_
 refine LP_end _ rfl (W_seq ?_)
 refine W_seq (W_region ?_)
 refine LP_ev ok 0 [(6, sl a seeds c), (7, I (ln seeds))] 2 rfl rfl ?_
 refine LP_call 2 rfl rfl rfl cal_75 rfl (spec_l1In_w _ _ _ _ H w ) ?_
 rintro _ wx ⟨r1, H, rfl, x⟩
 refine LP_ev ok 3 [(9, .bool (!r1))] 4 rfl rfl ?_
 refine LP_end _ rfl ?_
 refine W_cond (!r1) rfl (fun hc => ?_) (fun hc => ?_)
 ·have H := H.1 hc
  refine W_seq (W_region ?_)
  refine LP_ev ok 0 [(2, .bool false)] 1 rfl rfl ?_
  refine LP_end _ rfl (W_ret ?_)
  exact ⟨_, Ret_of [.bool false] ⟨⟨rfl, rfl⟩, trivial⟩, _, H, rfl, (X.stepx x).ext⟩
 have H := H.2 hc
 refine W_skip ?_
 refine W_seq ?_
 refine W_seq (W_region ?_)
 refine LP_ev ok 0 [(10, sl a seeds c), (11, I (ln seeds)), (12, I 0)] 3 rfl rfl ?_
 refine LP_end _ rfl ?_
 refine W_block ?_
 obtain ⟨J, m, Hx, H⟩ := H
 refine W_loop (S := Int) (fun s ρ' w' => J s ∧ ∃ (ρ : Env), ρ' = setAll [(0, sl a seeds c), (10, sl a seeds c), (11, I (ln seeds)), (12, I s)] ρ ∧ But emp w w' ∧ Sub hx w') (fun s => m s) 0 ⟨Hx, _, env_eq ⟨rfl, rfl, rfl, rfl, trivial⟩, (X.stepx x), (ex.ext x)⟩ ?_
 rintro x3 _ wx4 ⟨Hi, ρ, rfl, X6, ex5⟩
 have H := H x3 Hi
 refine W_seq (W_region ?_)
 refine LP_ev ok 0 [(13, .bool (decide (x3 < (ln seeds))))] 1 rfl rfl ?_
 refine LP_end _ rfl (W_seq ?_)
 refine W_cond (decide (x3 < (ln seeds))) rfl (fun hc9 => ?_) (fun hc9 => ?_)
 ·have H := H.1 hc9
  refine W_skip ?_
  refine W_seq ?_
  refine W_block ?_
  refine W_seq (W_region ?_)
  refine LP_ev ok 0 [(14, I x3)] 1 rfl rfl ?_
  obtain ⟨x10, hi, hx11, H⟩ := H
  refine LP_index 1 rfl rfl rfl Tryz.underlying29 ti_22 rfl rfl r hi hx11 fun a12 cs r13 d => ?_
  refine LP_load 2 rfl rfl rfl ti_22 ag_22 rfl r13 d ex5 fun vx14 r15 => ?_
  have r18 := r15.slice
  obtain ⟨a16, c17, rfl⟩ := r18.shape
  refine LP_ev ok 3 [(3, I x3), (4, sl a16 x10 c17)] 5 rfl rfl ?_
  refine LP_end _ rfl (W_seq ?_)
  obtain ⟨k, hk, H⟩ := jn_elim H
  refine W_join2 (S := Bool) (fun s ρ' w' => k s ∧ ∃ (ρ : Env), ρ' = setAll [(0, sl a seeds c), (3, I x3), (4, sl a16 x10 c17), (10, sl a seeds c), (11, I (ln seeds)), (12, I x3), (26, .bool s)] ρ ∧ But emp w w' ∧ Sub hx w') ?_ ?_
  ·refine W_region ?_
   refine LP_ev ok 0 [(17, sl a16 x10 c17), (18, I (ln x10)), (19, sl a seeds c), (20, I (ln seeds)), (21, .bool ((ln x10) != (ln seeds))), (22, .bool ((ln x10) != (ln seeds)))] 6 rfl rfl ?_
   refine LP_split 22 ((ln x10) != (ln seeds)) rfl (fun hc23 => ?_) (fun hc23 => ?_)
   ·have H := H.1 hc23
    refine LP_ev ok 6 [(23, undef), (24, undef), (25, undef), (26, .bool true)] 10 rfl rfl ?_
    exact LP_end _ rfl ⟨true, H, _, env_eq ⟨rfl, rfl, rfl, rfl, rfl, rfl, rfl, trivial⟩, X6, ex5⟩
   have H := H.2 hc23
   refine LP_ev ok 6 [(23, sl a16 x10 c17)] 7 rfl rfl ?_
   refine LP_call 7 rfl rfl rfl cal_82 rfl (spec_hDigest_w _ _ H wx4 r18 ex5) ?_
   rintro _ wx25 ⟨r24, H, rfl, x26⟩
   refine LP_ev ok 8 [(25, .bool (!r24)), (26, .bool (!r24))] 10 rfl rfl ?_
   exact LP_end _ rfl ⟨!r24, H, _, env_eq ⟨rfl, rfl, rfl, rfl, rfl, rfl, rfl, trivial⟩, (X6.stepx x26), (ex5.ext x26)⟩
  rintro x19 _ wx20 ⟨H, ρ, rfl, X22, ex21⟩
  subst hk
  refine W_cond (x19) rfl (fun hc29 => ?_) (fun hc29 => ?_)
  ·have H := H.1 hc29
   refine W_seq (W_region ?_)
   refine LP_ev ok 0 [(2, .bool false)] 1 rfl rfl ?_
   refine LP_end _ rfl (W_ret ?_)
   exact ⟨_, Ret_of [.bool false] ⟨⟨rfl, rfl⟩, trivial⟩, _, H, rfl, X22.ext⟩
  have H := H.2 hc29
  refine W_skip ?_
  refine W_seq (W_region ?_)
  refine LP_ev ok 0 [(5, I 0)] 1 rfl rfl ?_
  refine LP_end _ rfl ?_
  refine W_block ?_
  obtain ⟨J34, m35, Hx36, H⟩ := H
  refine W_loop (S := Int) (fun s ρ' w' => J34 s ∧ ∃ (ρ : Env), ρ' = setAll [(0, sl a seeds c), (3, I x3), (4, sl a16 x10 c17), (5, I s), (10, sl a seeds c), (11, I (ln seeds)), (12, I x3)] ρ ∧ But emp w w' ∧ Sub hx w') (fun s => m35 s) 0 ⟨Hx36, _, env_eq ⟨rfl, rfl, rfl, rfl, rfl, rfl, rfl, trivial⟩, X22, ex21⟩ ?_
  rintro k30 _ wx31 ⟨Hi, ρ, rfl, X33, ex32⟩
  have H := H k30 Hi
  refine W_seq ?_
  refine W_seq (W_region ?_)
  refine LP_ev ok 0 [(27, I k30), (28, I x3), (29, .bool (decide (k30 < x3)))] 3 rfl rfl ?_
  refine LP_end _ rfl ?_
  refine W_cond (decide (k30 < x3)) rfl (fun hc38 => ?_) (fun hc38 => ?_)
  ·have H := H.1 hc38
   refine W_skip ?_
   refine W_seq ?_
   refine W_block ?_
   refine W_seq ?_
   refine W_quiet mix (by kernel_rfl) ?_
   refine QP_ev ok 0 [(32, sl a16 x10 c17), (33, I k30)] 2 rfl rfl ?_
   obtain ⟨x39, hi40, hx41, H⟩ := H
   refine QP_index 2 rfl rfl rfl Tryz.underlying22 ti_3 rfl rfl r18 hi40 hx41 fun a42 cs43 r44 d45 => ?_
   refine QP_load 3 rfl rfl rfl ti_3 ag_3 rfl r44 d45 ex32 fun vx46 r47 => ?_
   obtain rfl := r47.int
   refine QP_ev ok 4 [(36, sl a seeds c), (37, I k30)] 6 rfl rfl ?_
   obtain ⟨x48, hi49, hx50, H⟩ := H
   refine QP_index 6 rfl rfl rfl Tryz.underlying29 ti_22 rfl rfl r hi49 hx50 fun a51 cs52 r53 d54 => ?_
   refine QP_load 7 rfl rfl rfl ti_22 ag_22 rfl r53 d54 ex32 fun vx55 r56 => ?_
   have r59 := r56.slice
   obtain ⟨a57, c58, rfl⟩ := r59.shape
   refine QP_ev ok 8 [(40, I x3)] 9 rfl rfl ?_
   obtain ⟨x60, hi61, hx62, H⟩ := H
   refine QP_index 9 rfl rfl rfl Tryz.underlying22 ti_3 rfl rfl r59 hi61 hx62 fun a63 cs64 r65 d66 => ?_
   refine QP_load 10 rfl rfl rfl ti_3 ag_3 rfl r65 d66 ex32 fun vx67 r68 => ?_
   obtain rfl := r68.int
   refine QP_ev ok 11 [(43, .bool (x39 != x60))] 12 rfl rfl ?_
   refine QP_end _ rfl fun wx69 x70 => ?_
   refine W_cond (x39 != x60) rfl (fun hc71 => ?_) (fun hc71 => ?_)
   ·have H := H.1 hc71
    refine W_seq (W_region ?_)
    refine LP_ev ok 0 [(2, .bool false)] 1 rfl rfl ?_
    refine LP_end _ rfl (W_ret ?_)
    exact ⟨_, Ret_of [.bool false] ⟨⟨rfl, rfl⟩, trivial⟩, _, H, rfl, (X33.stepx x70).ext⟩
   have H := H.2 hc71
   refine W_skip ?_
   refine W_region ?_
   refine LP_ev ok 0 [(30, I k30), (31, I (wr (k30 + 1))), (5, I (wr (k30 + 1)))] 3 rfl rfl ?_
   exact LP_end _ rfl ⟨wr (k30 + 1), ⟨H.1, _, env_eq ⟨rfl, rfl, rfl, rfl, rfl, rfl, rfl, trivial⟩, (X33.stepx x70), (ex32.ext x70)⟩, H.2⟩
  have H := H.2 hc38
  refine W_exit ?_
  refine (if_pos rfl).mpr ?_
  refine W_region ?_
  refine LP_ev ok 0 [(44, I (wr (x3 + 1))), (12, I (wr (x3 + 1)))] 2 rfl rfl ?_
  exact LP_end _ rfl ⟨wr (x3 + 1), ⟨H.1, _, env_eq ⟨rfl, rfl, rfl, rfl, trivial⟩, X33, ex32⟩, H.2⟩
 have H := H.2 hc9
 refine W_exit ?_
 refine (if_pos rfl).mpr ?_
 refine W_seq (W_region ?_)
 refine LP_ev ok 0 [(2, .bool true)] 1 rfl rfl ?_
 refine LP_end _ rfl (W_ret ?_)
 exact ⟨_, Ret_of [.bool true] ⟨⟨rfl, rfl⟩, trivial⟩, _, H, rfl, X6.ext⟩

theorem spec_zeModulus_w (m : Int) (Q : Bool → Prop) (H : spec_zeModulus m Q) (w : World)  :
  CallsTo Tryz.prog 80 #[I m] w fun v w' => ∃ r0, Q r0 ∧ v = .bool r0 ∧ Ext w w' := by
 refine enter (args := [I m]) 5 Tryz.func80 rfl rfl rfl ?_
 refine W_forget [(0, I m)] ⟨rfl, trivial⟩ fun ρ => ?_
 have X := But.refl emp w
 refine W_seq (W_region ?_)
 refine LP_ev ok 0 [(2, .bool false)] 1 rfl rfl ?_
 refine LP_end _ rfl (W_seq (W_region ?_))
 refine LP_ev ok 0 [(3, I m)] 1 rfl rfl ?_
 refine LP_call 1 rfl rfl rfl cal_75 rfl (spec_l1In_w _ _ _ _ H w ) ?_
 rintro _ wx ⟨r, H, rfl, x⟩
 refine LP_ev ok 2 [(2, .bool r)] 3 rfl rfl ?_
 refine LP_end _ rfl (W_ret ?_)
 exact ⟨_, Ret_of [.bool r] ⟨⟨rfl, rfl⟩, trivial⟩, _, H, rfl, (X.stepx x).ext⟩

theorem spec_zeRound_w (round : Int) (n : Int) (m : Int) (Q : Bool → Prop) (H : spec_zeRound round n m Q) (w : World)  :
  CallsTo Tryz.prog 47 #[I round, I n, I m] w fun v w' => ∃ r0, Q r0 ∧ v = .bool r0 ∧ Ext w w' := by
 refine enter (args := [I round, I n, I m]) 17 Tryz.func47 rfl rfl rfl ?_
 refine W_forget [(0, I round), (1, I n), (2, I m)] ⟨rfl, rfl, rfl, trivial⟩ fun ρ => ?_
 have X := But.refl emp w
 refine W_seq (W_region ?_)
 refine LP_ev ok 0 [(6, .bool false)] 1 rfl rfl ?_
 refine LP_end _ rfl ?_
 obtain ⟨k, hk, H⟩ := jn_elim H
 refine W_join2 (S := Bool) (fun s ρ' w' => k s ∧ ∃ (ρ : Env), ρ' = setAll [(6, .bool s)] ρ ∧ But emp w w') ?_ ?_
 ·refine W_region ?_
  refine LP_ev ok 0 [(7, I round)] 1 rfl rfl ?_
  refine LP_call 1 rfl rfl rfl cal_75 rfl (spec_l1In_w _ _ _ _ H w ) ?_
  rintro _ wx2 ⟨r, H, rfl, x3⟩
  refine LP_ev ok 2 [(9, .bool r)] 3 rfl rfl ?_
  refine LP_split 9 (r) rfl (fun hc => ?_) (fun hc => ?_)
  ·have H := H.1 hc
   refine LP_ev ok 3 [(10, I n)] 4 rfl rfl ?_
   refine LP_call 4 rfl rfl rfl cal_75 rfl (spec_l1In_w _ _ _ _ H wx2 ) ?_
   rintro _ wx5 ⟨r4, H, rfl, x6⟩
   refine LP_ev ok 5 [(12, .bool r4), (13, .bool r4)] 7 rfl rfl ?_
   refine LP_split 13 (r4) rfl (fun hc7 => ?_) (fun hc7 => ?_)
   ·have H := H.1 hc7
    refine LP_ev ok 7 [(14, I m)] 8 rfl rfl ?_
    refine LP_call 8 rfl rfl rfl cal_80 rfl (spec_zeModulus_w _ _ H wx5 ) ?_
    rintro _ wx9 ⟨r8, H, rfl, x10⟩
    refine LP_ev ok 9 [(16, .bool r8), (6, .bool r8)] 11 rfl rfl ?_
    exact LP_end _ rfl ⟨r8, H, _, env_eq ⟨rfl, trivial⟩, (X.stepx ((x3.trans x6).trans x10))⟩
   have H := H.2 hc7
   refine LP_ev ok 7 [(14, undef), (15, undef), (16, .bool false), (6, .bool false)] 11 rfl rfl ?_
   exact LP_end _ rfl ⟨false, H, _, env_eq ⟨rfl, trivial⟩, (X.stepx (x3.trans x6))⟩
  have H := H.2 hc
  refine LP_ev ok 3 [(10, undef), (11, undef), (12, .bool false), (13, .bool false), (14, undef), (15, undef), (16, .bool false), (6, .bool false)] 11 rfl rfl ?_
  exact LP_end _ rfl ⟨false, H, _, env_eq ⟨rfl, trivial⟩, (X.stepx x3)⟩
 rintro x _ wx ⟨H, ρ, rfl, X1⟩
 subst hk
 refine W_ret ?_
 exact ⟨_, Ret_of [.bool x] ⟨⟨rfl, rfl⟩, trivial⟩, _, H, rfl, X1.ext⟩

theorem spec_zeValues_w (m : Int) (l : List Int) (Q : Bool → Prop) (H : spec_zeValues m l Q) (w : World) {vx : Value} {hx : PH} (r : RS hx vx l) (ex : Sub hx w) :
  CallsTo Tryz.prog 48 #[I m, vx] w fun v w' => ∃ r0, Q r0 ∧ v = .bool r0 ∧ Ext w w' := by
 obtain ⟨a, c, rfl⟩ := r.shape
 refine enter (args := [I m, sl a l c]) 14 Tryz.func48 rfl rfl rfl ?_
 refine W_forget [(0, I m), (1, sl a l c)] ⟨rfl, rfl, trivial⟩ fun ρ => ?_
 have X := But.refl emp w
 refine W_seq (W_region ?_)
 refine LP_ev ok 0 [(4, .bool false)] 1 rfl rfl ?_
 refine LP_end _ rfl ?_
 obtain ⟨k, hk, H⟩ := jn_elim H
 refine W_join2 (S := Bool) (fun s ρ' w' => k s ∧ ∃ (ρ : Env), ρ' = setAll [(4, .bool s)] ρ ∧ But emp w w') ?_ ?_
 ·refine W_region ?_
  refine LP_ev ok 0 [(5, sl a l c), (6, I (ln l)), (7, .bool (decide ((ln l) ≤ 600))), (8, .bool (decide ((ln l) ≤ 600)))] 4 rfl rfl ?_
  refine LP_split 8 (decide ((ln l) ≤ 600)) rfl (fun hc => ?_) (fun hc => ?_)
  ·have H := H.1 hc
   refine LP_ev ok 4 [(9, sl a l c), (10, I m), (11, I (wr (m - 1)))] 7 rfl rfl ?_
   refine LP_call 7 rfl rfl rfl cal_83 rfl (spec_l1All_w _ _ _ _ H w r ex) ?_
   rintro _ wx3 ⟨r2, H, rfl, x4⟩
   refine LP_ev ok 8 [(13, .bool r2), (4, .bool r2)] 10 rfl rfl ?_
   exact LP_end _ rfl ⟨r2, H, _, env_eq ⟨rfl, trivial⟩, (X.stepx x4)⟩
  have H := H.2 hc
  refine LP_ev ok 4 [(9, undef), (10, undef), (11, undef), (12, undef), (13, .bool false), (4, .bool false)] 10 rfl rfl ?_
  exact LP_end _ rfl ⟨false, H, _, env_eq ⟨rfl, trivial⟩, X⟩
 rintro x _ wx ⟨H, ρ, rfl, X1⟩
 subst hk
 refine W_ret ?_
 exact ⟨_, Ret_of [.bool x] ⟨⟨rfl, rfl⟩, trivial⟩, _, H, rfl, X1.ext⟩

theorem spec_hMod_w (x : Int) (m : Int) (Q : Int → Prop) (H : spec_hMod x m Q) (w : World)  :
  CallsTo Tryz.prog 109 #[I x, I m] w fun v w' => ∃ r0, Q r0 ∧ v = I r0 ∧ Ext w w' := by
 refine enter (args := [I x, I m]) 12 Tryz.func109 rfl rfl rfl ?_
 refine W_forget [(0, I x), (1, I m)] ⟨rfl, rfl, trivial⟩ fun ρ => ?_
 have X := But.refl emp w
 refine W_seq (W_region ?_)
 refine LP_ev ok 0 [(4, I 0)] 1 rfl rfl ?_
 refine LP_end _ rfl (W_seq (W_region ?_))
 refine LP_ev ok 0 [(5, I x), (6, I m)] 2 rfl rfl ?_
 obtain ⟨hz, H⟩ := H
 refine LP_val 2 _ rfl rfl (ex_rem rfl rfl rfl hz _) ?_
 refine LP_ev ok 3 [(8, I m), (9, I (wr ((Int.tmod x m) + m))), (10, I m)] 6 rfl rfl ?_
 obtain ⟨hz1, H⟩ := H
 refine LP_val 6 _ rfl rfl (ex_rem rfl rfl rfl hz1 _) ?_
 refine LP_ev ok 7 [(4, I (Int.tmod (wr ((Int.tmod x m) + m)) m))] 8 rfl rfl ?_
 refine LP_end _ rfl (W_ret ?_)
 exact ⟨_, Ret_of [I (Int.tmod (wr ((Int.tmod x m) + m)) m)] ⟨⟨rfl, rfl⟩, trivial⟩, _, H, rfl, X.ext⟩

theorem spec_hInts_w (l : List Int) (Q : Int → Prop) (H : spec_hInts l Q) (w : World) {vx : Value} {hx : PH} (r : RS hx vx l) (ex : Sub hx w) :
  CallsTo Tryz.prog 142 #[vx] w fun v w' => ∃ r0, Q r0 ∧ v = I r0 ∧ Ext w w' := by
 obtain ⟨a, c, rfl⟩ := r.shape
 refine enter (args := [sl a l c]) 43 Tryz.func142 rfl rfl rfl ?_
 refine W_forget [(0, sl a l c)] ⟨rfl, trivial⟩ fun ρ => ?_
 have X := But.refl emp w
 refine W_seq (W_region ?_)
 refine LP_ev ok 0 [(2, I 0)] 1 rfl rfl ?_
 refine LP_end _ rfl (W_seq (W_region ?_))
 refine LP_ev ok 0 [(7, sl a l c), (8, I (ln l)), (3, I (ln l)), (4, I 1)] 4 rfl rfl ?_
 refine LP_end _ rfl (W_seq ?_)
 refine W_seq (W_region ?_)
 refine LP_ev ok 0 [(5, I 0)] 1 rfl rfl ?_
 refine LP_end _ rfl ?_
 refine W_block ?_
 obtain ⟨J, m, Hx, H⟩ := H
 refine W_loop (S := Int × Int × Int) (fun s ρ' w' => J s.1 s.2.1 s.2.2 ∧ ∃ (ρ : Env), ρ' = setAll [(0, sl a l c), (3, I s.1), (4, I s.2.1), (5, I s.2.2)] ρ ∧ But emp w w' ∧ Sub hx w') (fun s => m s.1 s.2.1 s.2.2) (ln l, 1, 0) ⟨Hx, _, env_eq ⟨rfl, rfl, rfl, rfl, trivial⟩, X, ex⟩ ?_
 rintro ⟨a1, b, i⟩ _ wx ⟨Hi, ρ, rfl, X3, ex2⟩
 have H := H a1 b i Hi
 refine W_seq ?_
 refine W_seq (W_region ?_)
 refine LP_ev ok 0 [(9, I i), (10, sl a l c), (11, I (ln l)), (12, I (wr ((ln l) + 4))), (13, .bool (decide (i < (wr ((ln l) + 4)))))] 5 rfl rfl ?_
 refine LP_end _ rfl ?_
 refine W_cond (decide (i < (wr ((ln l) + 4)))) rfl (fun hc => ?_) (fun hc => ?_)
 ·have H := H.1 hc
  refine W_skip ?_
  refine W_seq ?_
  refine W_block ?_
  refine W_seq (W_region ?_)
  refine LP_ev ok 0 [(6, I 0)] 1 rfl rfl ?_
  refine LP_end _ rfl ?_
  obtain ⟨k, hk, H⟩ := jn_elim H
  refine W_join2 (S := Int) (fun s ρ' w' => k s ∧ ∃ (ρ : Env), ρ' = setAll [(0, sl a l c), (3, I a1), (4, I b), (5, I i), (6, I s)] ρ ∧ wx = w') ?_ ?_
  ·refine W_seq (W_region ?_)
   refine LP_ev ok 0 [(16, I i), (17, sl a l c), (18, I (ln l)), (19, .bool (decide (i < (ln l))))] 4 rfl rfl ?_
   refine LP_end _ rfl ?_
   refine W_cond (decide (i < (ln l))) rfl (fun hc5 => ?_) (fun hc5 => ?_)
   ·have H := H.1 hc5
    refine W_region ?_
    refine LP_ev ok 0 [(20, sl a l c), (21, I i)] 2 rfl rfl ?_
    obtain ⟨x6, hi, hx7, H⟩ := H
    refine LP_index 2 rfl rfl rfl Tryz.underlying22 ti_3 rfl rfl r hi hx7 fun a8 cs r9 d => ?_
    refine LP_load 3 rfl rfl rfl ti_3 ag_3 rfl r9 d ex2 fun vx10 r11 => ?_
    obtain rfl := r11.int
    refine LP_ev ok 4 [(6, I x6)] 5 rfl rfl ?_
    exact LP_end _ rfl ⟨x6, H, _, env_eq ⟨rfl, rfl, rfl, rfl, rfl, trivial⟩, rfl⟩
   have H := H.2 hc5
   exact W_skip ⟨0, H, _, env_eq ⟨rfl, rfl, rfl, rfl, rfl, trivial⟩, rfl⟩
  rintro x _ _ ⟨H, ρ, rfl, rfl⟩
  subst hk
  refine W_seq (W_region ?_)
  refine LP_ev ok 0 [(24, I a1), (25, I (wr (48271 * a1))), (26, I x)] 3 rfl rfl ?_
  refine LP_call 3 rfl rfl rfl cal_109 rfl (spec_hMod_w _ _ _ H wx ) ?_
  rintro _ wx13 ⟨r12, H, rfl, x14⟩
  refine LP_ev ok 4 [(28, I (wr ((wr (48271 * a1)) + r12))), (29, I (wr ((wr ((wr (48271 * a1)) + r12)) + 1)))] 6 rfl rfl ?_
  refine LP_val 6 _ rfl rfl (ex_rem rfl rfl rfl (by decide) _) ?_
  refine LP_ev ok 7 [(3, I (Int.tmod (wr ((wr ((wr (48271 * a1)) + r12)) + 1)) 2147483647))] 8 rfl rfl ?_
  refine LP_end _ rfl ?_
  refine W_region ?_
  refine LP_ev ok 0 [(31, I b), (32, I (wr (69621 * b))), (33, I x)] 3 rfl rfl ?_
  refine LP_call 3 rfl rfl rfl cal_109 rfl (spec_hMod_w _ _ _ H wx13 ) ?_
  rintro _ wx16 ⟨r15, H, rfl, x17⟩
  refine LP_ev ok 4 [(35, I (wr ((wr (69621 * b)) + r15))), (36, I (Int.tmod (wr ((wr ((wr (48271 * a1)) + r12)) + 1)) 2147483647)), (37, I (wr ((wr ((wr (69621 * b)) + r15)) + (Int.tmod (wr ((wr ((wr (48271 * a1)) + r12)) + 1)) 2147483647))))] 7 rfl rfl ?_
  refine LP_val 7 _ rfl rfl (ex_rem rfl rfl rfl (by decide) _) ?_
  refine LP_ev ok 8 [(4, I (Int.tmod (wr ((wr ((wr (69621 * b)) + r15)) + (Int.tmod (wr ((wr ((wr (48271 * a1)) + r12)) + 1)) 2147483647))) 2147483629))] 9 rfl rfl ?_
  refine LP_end _ rfl ?_
  refine W_region ?_
  refine LP_ev ok 0 [(14, I i), (15, I (wr (i + 1))), (5, I (wr (i + 1)))] 3 rfl rfl ?_
  refine LP_end _ rfl ?_
  have xc := (x14.trans x17)
  exact ⟨(Int.tmod (wr ((wr ((wr (48271 * a1)) + r12)) + 1)) 2147483647, Int.tmod (wr ((wr ((wr (69621 * b)) + r15)) + (Int.tmod (wr ((wr ((wr (48271 * a1)) + r12)) + 1)) 2147483647))) 2147483629, wr (i + 1)), ⟨H.1, _, env_eq ⟨rfl, rfl, rfl, rfl, trivial⟩, (X3.stepx xc), (ex2.ext xc)⟩, H.2⟩
 have H := H.2 hc
 refine W_exit ?_
 refine (if_pos rfl).mpr ?_
 refine W_seq (W_region ?_)
 refine LP_ev ok 0 [(39, I a1), (40, I (wr (a1 * 2 ^ 31))), (41, I b), (42, I (wr ((wr (a1 * 2 ^ 31)) + b))), (2, I (wr ((wr (a1 * 2 ^ 31)) + b)))] 5 rfl rfl ?_
 refine LP_end _ rfl (W_ret ?_)
 exact ⟨_, Ret_of [I (wr ((wr (a1 * 2 ^ 31)) + b))] ⟨⟨rfl, rfl⟩, trivial⟩, _, H, rfl, X3.ext⟩

theorem spec_zeMask_w (seed : Int) (i : Int) (k : Int) (round : Int) (n : Int) (m : Int) (Q : (List Int) → Prop) (H : spec_zeMask seed i k round n m Q) (w : World)  :
  CallsTo Tryz.prog 110 #[I seed, I i, I k, I round, I n, I m] w fun v w' => ∃ r0 u0 g0, Q r0 ∧ v = u0 ∧ Ext w w' ∧ OS 3 g0 emp u0 r0 ∧ Sub g0 w' ∧ Fresh w.heap.size g0 := by
 refine enter (args := [I seed, I i, I k, I round, I n, I m]) 33 Tryz.func110 rfl rfl rfl ?_
 refine W_forget [(0, I seed), (1, I i), (2, I k), (3, I round), (4, I n), (5, I m)] ⟨rfl, rfl, rfl, rfl, rfl, rfl, trivial⟩ fun ρ => ?_
 have X := But.refl emp w
 refine W_seq (W_region ?_)
 refine LP_ev ok 0 [(12, .slice none 0 0)] 1 rfl rfl ?_
 refine LP_end _ rfl (W_seq (W_region ?_))
 refine LP_ev ok 0 [(13, .slice none 0 0)] 1 rfl rfl ?_
 refine LP_end _ rfl (W_seq ?_)
 refine W_seq (W_region ?_)
 refine LP_ev ok 0 [(14, I 0)] 1 rfl rfl ?_
 refine LP_end _ rfl ?_
 refine W_block ?_
 obtain ⟨J, m2, Hx, H⟩ := H
 refine W_loop (S := (List Int) × Int) (fun s ρ' w' => J s.1 s.2 ∧ ∃ (ρ : Env) (vx : Value) (hx : PH), ρ' = setAll [(0, I seed), (1, I i), (2, I k), (3, I round), (4, I n), (5, I m), (13, vx), (14, I s.2)] ρ ∧ But emp w w' ∧ OS 3 hx emp vx s.1 ∧ Sub hx w' ∧ Fresh w.heap.size hx) (fun s => m2 s.1 s.2) ([], 0) ⟨Hx, _, .slice none 0 0, emp, env_eq ⟨rfl, rfl, rfl, rfl, rfl, rfl, rfl, rfl, trivial⟩, X, OS.nil, (emp_sub _), (emp_fresh _)⟩ ?_
 rintro ⟨out, j⟩ _ wx ⟨Hi, ρ, vx, hx, rfl, X1, o, ex, f⟩
 have H := H out j Hi
 obtain ⟨a, c, rfl⟩ := o.shape
 refine W_seq ?_
 refine W_seq (W_region ?_)
 refine LP_ev ok 0 [(15, I j), (16, I n), (17, .bool (decide (j < n)))] 3 rfl rfl ?_
 refine LP_end _ rfl ?_
 refine W_cond (decide (j < n)) rfl (fun hc => ?_) (fun hc => ?_)
 ·have H := H.1 hc
  refine W_skip ?_
  refine W_seq ?_
  refine W_block ?_
  refine W_region ?_
  refine LP_ev ok 0 [(20, sl a out c), (21, I seed), (22, I i), (23, I k), (24, I round), (25, I j)] 6 rfl rfl ?_
  refine LP_lit (α := Int) (g := emp) 6 (vs := [I 5, I seed, I i, I k, I round, I j]) (xs := [5, seed, i, k, round, j]) rfl rfl rfl Tryz.underlying22 ti_3 rfl rfl ⟨⟨_, rfl, rfl⟩, ⟨_, rfl, rfl⟩, ⟨_, rfl, rfl⟩, ⟨_, rfl, rfl⟩, ⟨_, rfl, rfl⟩, ⟨_, rfl, rfl⟩, trivial⟩ rfl rfl fun hx3 vx4 wx5 x o6 ex7 f8 => ?_
  obtain ⟨a9, c10, rfl⟩ := o6.shape
  refine LP_call 7 rfl rfl rfl cal_142 rfl (spec_hInts_w _ _ H wx5 o6.readf ex7) ?_
  rintro _ wx11 ⟨r, H, rfl, x12⟩
  refine LP_ev ok 8 [(28, I m)] 9 rfl rfl ?_
  obtain ⟨hz, H⟩ := H
  refine LP_val 9 _ rfl rfl (ex_rem rfl rfl rfl hz _) ?_
  refine LP_lit (α := Int) (g := emp) 10 (vs := [I (Int.tmod r m)]) (xs := [Int.tmod r m]) rfl rfl rfl Tryz.underlying22 ti_3 rfl rfl ⟨⟨_, rfl, rfl⟩, trivial⟩ rfl rfl fun hx13 vx14 wx15 x16 o17 ex18 f19 => ?_
  obtain ⟨a20, c21, rfl⟩ := o17.shape
  have xc := ((x.trans x12).trans x16)
  obtain ⟨hb, H⟩ := H
  refine LP_appendf (α := Int) 11 rfl rfl rfl Tryz.underlying22 ti_3 rfl rfl rfl o (ex.ext xc) o17.readf ex18 (by first | omega | (simp only [ln] at *; omega)) (by first | omega | (simp only [ln] at *; omega)) fun hx23 vx24 wx25 o26 ex27 y dm => ?_
  obtain ⟨a28, c29, rfl⟩ := o26.shape
  refine LP_ev ok 12 [(13, .slice a28 (List.length (out ++ ([Int.tmod r m]))) c29)] 13 rfl rfl ?_
  refine LP_end _ rfl ?_
  refine W_region ?_
  refine LP_ev ok 0 [(18, I j), (19, I (wr (j + 1))), (14, I (wr (j + 1)))] 3 rfl rfl ?_
  refine LP_end _ rfl ?_
  have f31 := dm.fresh f (X1.stepx xc).size
  exact ⟨(out ++ ([Int.tmod r m]), wr (j + 1)), ⟨H.1, _, .slice a28 (List.length (out ++ ([Int.tmod r m]))) c29, hx23, env_eq ⟨rfl, rfl, rfl, rfl, rfl, rfl, rfl, rfl, trivial⟩, ((X1.stepx xc).step y (f.dom _)), o26, ex27, f31⟩, H.2⟩
 have H := H.2 hc
 refine W_exit ?_
 refine (if_pos rfl).mpr ?_
 refine W_seq (W_region ?_)
 refine LP_ev ok 0 [(32, sl a out c), (12, sl a out c)] 2 rfl rfl ?_
 refine LP_end _ rfl (W_ret ?_)
 exact ⟨_, Ret_of [sl a out c] ⟨⟨rfl, rfl⟩, trivial⟩, _, _, _, H, rfl, X1.ext, o, ex, f⟩

theorem spec_zeAdd_w (a : List Int) (b : List Int) (sign : Int) (m : Int) (Q : (List Int) → Prop) (H : spec_zeAdd a b sign m Q) (w : World) {vx : Value} {hx : PH} (r : RS hx vx a) (ex : Sub hx w) {vx2 : Value} {hx3 : PH} (r4 : RS hx3 vx2 b) (ex5 : Sub hx3 w) :
  CallsTo Tryz.prog 84 #[vx, vx2, I sign, I m] w fun v w' => ∃ r0 u0 g0, Q r0 ∧ v = u0 ∧ Ext w w' ∧ OS 3 g0 emp u0 r0 ∧ Sub g0 w' ∧ Fresh w.heap.size g0 := by
 obtain ⟨a1, c, rfl⟩ := r.shape
 obtain ⟨a6, c7, rfl⟩ := r4.shape
 refine enter (args := [sl a1 a c, sl a6 b c7, I sign, I m]) 37 Tryz.func84 rfl rfl rfl ?_
 refine W_forget [(0, sl a1 a c), (1, sl a6 b c7), (2, I sign), (3, I m)] ⟨rfl, rfl, rfl, rfl, trivial⟩ fun ρ => ?_
 have X := But.refl emp w
 refine W_seq (W_region ?_)
 refine LP_ev ok 0 [(8, .slice none 0 0)] 1 rfl rfl ?_
 refine LP_end _ rfl (W_seq (W_region ?_))
 refine LP_ev ok 0 [(11, sl a1 a c), (12, I (ln a))] 2 rfl rfl ?_
 obtain ⟨hn, hb, H⟩ := H
 refine LP_make (α := Int) 2 rfl rfl rfl Tryz.underlying22 ti_3 (x0 := (0 : Int)) rfl rfl hn (by first | omega | (simp only [ln] at *; omega)) (by first | omega | (simp only [ln] at *; omega)) fun hx8 vx9 wx x o ex10 f => ?_
 obtain ⟨a11, c12, rfl⟩ := o.shape
 refine LP_ev ok 3 [(9, .slice a11 (List.length (List.replicate (Int.toNat (ln a)) ((0 : Int)))) c12)] 4 rfl rfl ?_
 refine LP_end _ rfl (W_seq ?_)
 refine W_seq (W_region ?_)
 refine LP_ev ok 0 [(14, sl a1 a c), (15, I (ln a)), (16, I 0)] 3 rfl rfl ?_
 refine LP_end _ rfl ?_
 refine W_block ?_
 have f26 := f.mono X.size
 obtain ⟨J, m24, Hx, H⟩ := H
 refine W_loop (S := (List Int) × Int) (fun s ρ' w' => J s.1 s.2 ∧ ∃ (ρ : Env) (hx14 : PH), ρ' = setAll [(0, sl a1 a c), (1, sl a6 b c7), (2, I sign), (3, I m), (9, .slice a11 (List.length (List.replicate (Int.toNat (ln a)) ((0 : Int)))) c12), (15, I (ln a)), (16, I s.2)] ρ ∧ But emp w w' ∧ OS 3 hx14 emp (.slice a11 (List.length (List.replicate (Int.toNat (ln a)) ((0 : Int)))) c12) s.1 ∧ Sub hx14 w' ∧ Fresh w.heap.size hx14 ∧ Sub hx w' ∧ Sub hx3 w' ∧ Dj hx14 hx ∧ Dj hx14 hx3) (fun s => m24 s.1 s.2) (List.replicate (Int.toNat (ln a)) ((0 : Int)), 0) ⟨Hx, _, hx8, env_eq ⟨rfl, rfl, rfl, rfl, rfl, rfl, rfl, trivial⟩, (X.stepx x), o, ex10, f26, (ex.ext x), (ex5.ext x), (Dj.of_fresh ex f).symm, (Dj.of_fresh ex5 f).symm⟩ ?_
 rintro ⟨out, x18⟩ _ wx19 ⟨Hi, ρ, hx14, rfl, HF⟩
 revert HF
 refine bb8 fun X23 o15 ex16 f17 ex20 ex21 d d22 => ?_
 have H := H out x18 Hi
 refine W_seq (W_region ?_)
 refine LP_ev ok 0 [(17, .bool (decide (x18 < (ln a))))] 1 rfl rfl ?_
 refine LP_end _ rfl (W_seq ?_)
 refine W_cond (decide (x18 < (ln a))) rfl (fun hc => ?_) (fun hc => ?_)
 ·have H := H.1 hc
  refine W_skip ?_
  refine W_seq ?_
  refine W_block ?_
  refine W_seq (W_region ?_)
  refine LP_ev ok 0 [(18, I x18), (10, I x18)] 2 rfl rfl ?_
  refine LP_end _ rfl ?_
  refine W_open mix fun wx29 x30 => ?_
  refine AP_game 15 [[], [], [], [], [2, 3], [2, 3, 4], [], [], [], [7, 8], [7, 8, 9], [6, 7, 8, 9, 10], [2, 3, 4, 5, 6, 7, 8, 9, 10, 11], [], [2, 3, 4, 5, 6, 7, 8, 9, 10, 11, 12, 13], [0, 1, 2, 3, 4, 5, 6, 7, 8, 9, 10, 11, 12, 13, 14], [0, 1, 2, 3, 4, 5, 6, 7, 8, 9, 10, 11, 12, 13, 14, 15]] [[(9, none)], [(10, none)], [(0, none)], [(10, none)], [(21, some 2), (22, some 3)], [(23, some 4)], [(2, none)], [(1, none)], [(10, none)], [(26, some 7), (27, some 8)], [(28, some 9)], [(25, some 6), (29, some 10)], [(24, some 5), (30, some 11)], [(3, none)], [(31, some 12), (32, some 13)]] [(0, none), (1, none), (2, none), (3, none), (9, none), (15, none), (16, none), (19, some 0), (20, some 1), (33, some 14)] [(0, false), (1, false), (2, false), (3, false), (4, false), (5, false), (6, false), (7, false), (8, false), (9, false), (10, false), (11, false), (12, false), (13, false), (14, false)] (by kernel_rfl) (by kernel_rfl) ?_
  refine GS_ev ok [(9, .slice a11 (List.length (List.replicate (Int.toNat (ln a)) ((0 : Int)))) c12)] (.slice a11 (List.length (List.replicate (Int.toNat (ln a)) ((0 : Int)))) c12) rfl rfl (fun _ h => h) (fun _ => rfl) ?_
  refine GS_ev ok [(10, I x18)] (I x18) rfl rfl (fun _ h => h) (fun _ => rfl) ?_
  refine GS_ev ok [(0, sl a1 a c)] (sl a1 a c) rfl rfl (fun _ h => h) (fun _ => rfl) ?_
  refine GS_ev ok [(10, I x18)] (I x18) rfl rfl (fun _ h => h) (fun _ => rfl) ?_
  obtain ⟨x31, hi, hx32, H⟩ := H
  obtain ⟨a33, cs, hx36, r34, d35⟩ := run_indexAt Tryz.underlying22 ti_3 r .i64 _ x31 hi hx32
  refine GS_r0 [(21, sl a1 a c), (22, I x18)] (.pointer (some a33)) rfl rfl (fun _ h => h) (fun _ _ => ex_index rfl rfl rfl (hx36 _)) ?_
  obtain ⟨vx37, hx39, r38⟩ := run_loadAt ti_3 ag_3 r34 d35
  obtain rfl := r38.int
  have ex40 := (ex20.ext x30)
  refine GS_r1 [(23, .pointer (some a33))] (I x31) rfl rfl (fun _ h => h) (fun _ w e => ex_load rfl rfl (hx39 w e)) ex40 ?_
  refine GS_ev ok [(2, I sign)] (I sign) rfl rfl (fun _ h => h) (fun _ => rfl) ?_
  refine GS_ev ok [(1, sl a6 b c7)] (sl a6 b c7) rfl rfl (fun _ h => h) (fun _ => rfl) ?_
  refine GS_ev ok [(10, I x18)] (I x18) rfl rfl (fun _ h => h) (fun _ => rfl) ?_
  obtain ⟨x41, hi42, hx43, H⟩ := H
  obtain ⟨a44, cs45, hx48, r46, d47⟩ := run_indexAt Tryz.underlying22 ti_3 r4 .i64 _ x41 hi42 hx43
  refine GS_r0 [(26, sl a6 b c7), (27, I x18)] (.pointer (some a44)) rfl rfl (fun _ h => h) (fun _ _ => ex_index rfl rfl rfl (hx48 _)) ?_
  obtain ⟨vx49, hx51, r50⟩ := run_loadAt ti_3 ag_3 r46 d47
  obtain rfl := r50.int
  have ex52 := (ex21.ext x30)
  refine GS_r1 [(28, .pointer (some a44))] (I x41) rfl rfl (fun _ h => h) (fun _ w e => ex_load rfl rfl (hx51 w e)) ex52 ?_
  refine GS_ev ok [(25, I sign), (29, I x41)] (I (wr (sign * x41))) rfl rfl (fun _ h => h) (fun _ => rfl) ?_
  refine GS_ev ok [(24, I x31), (30, I (wr (sign * x41)))] (I (wr (x31 + (wr (sign * x41))))) rfl rfl (fun _ h => h) (fun _ => rfl) ?_
  refine GS_ev ok [(3, I m)] (I m) rfl rfl (fun _ h => h) (fun _ => rfl) ?_
  obtain ⟨r53, Hd, H⟩ := H
  refine GS_q [(31, I (wr (x31 + (wr (sign * x41))))), (32, I m)] (I r53) [] [I (wr (x31 + (wr (sign * x41)))), I m] rfl rfl (fun _ h => h) rfl cal_109 (fun _ => rfl) (fun w e => (spec_hMod_w _ _ _ Hd w ).mono (fun _ _ h => by obtain ⟨_, rfl, rfl, x⟩ := h; exact ⟨rfl, x⟩)) trivial ?_
  intro wx54 x55 ρ hn56
  refine AP_forget [(0, sl a1 a c), (1, sl a6 b c7), (2, I sign), (3, I m), (9, .slice a11 (List.length (List.replicate (Int.toNat (ln a)) ((0 : Int)))) c12), (15, I (ln a)), (16, I x18), (19, .slice a11 (List.length (List.replicate (Int.toNat (ln a)) ((0 : Int)))) c12), (20, I x18), (33, I r53)] (by exact hn56) fun ρ => ?_
  refine AP_tail 15 [[], [], [], [], [2, 3], [2, 3, 4], [], [], [], [7, 8], [7, 8, 9], [6, 7, 8, 9, 10], [2, 3, 4, 5, 6, 7, 8, 9, 10, 11], [], [2, 3, 4, 5, 6, 7, 8, 9, 10, 11, 12, 13], [0, 1, 2, 3, 4, 5, 6, 7, 8, 9, 10, 11, 12, 13, 14], [0, 1, 2, 3, 4, 5, 6, 7, 8, 9, 10, 11, 12, 13, 14, 15]] (by kernel_rfl) ?_
  obtain ⟨hi57, hl, H⟩ := H
  refine LP_indexw (v := .slice a11 (List.length (List.replicate (Int.toNat (ln a)) ((0 : Int)))) c12) 15 rfl rfl rfl Tryz.underlying22 ti_3 rfl rfl o15 hi57 hl fun a58 wa => ?_
  have xc := (x30.trans x55)
  refine LP_set 16 rfl rfl rfl rfl rfl wa (Le.refl emp) ⟨_, rfl, rfl⟩ (ex16.ext xc) fun hx59 wx60 o61 ex62 y dm => ?_
  refine LP_end _ rfl ?_
  refine W_region ?_
  refine LP_ev ok 0 [(35, I (wr (x18 + 1))), (16, I (wr (x18 + 1)))] 2 rfl rfl ?_
  refine LP_end _ rfl ?_
  have f65 := (dm _).fresh f17 (X23.stepx xc).size
  exact ⟨(List.set out (Int.toNat x18) r53, wr (x18 + 1)), ⟨H.1, _, hx59, env_eq ⟨rfl, rfl, rfl, rfl, rfl, rfl, rfl, trivial⟩, ((X23.stepx xc).step y (f17.dom _)), o61, ex62, f65, ((ex40.ext x55).but y d), ((ex52.ext x55).but y d22), (DomLe.dj (dm _) d (ex40.ext x55)), (DomLe.dj (dm _) d22 (ex52.ext x55))⟩, H.2⟩
 have H := H.2 hc
 refine W_exit ?_
 refine (if_pos rfl).mpr ?_
 refine W_seq (W_region ?_)
 refine LP_ev ok 0 [(36, .slice a11 (List.length (List.replicate (Int.toNat (ln a)) ((0 : Int)))) c12), (8, .slice a11 (List.length (List.replicate (Int.toNat (ln a)) ((0 : Int)))) c12)] 2 rfl rfl ?_
 refine LP_end _ rfl (W_ret ?_)
 exact ⟨_, Ret_of [.slice a11 (List.length (List.replicate (Int.toNat (ln a)) ((0 : Int)))) c12] ⟨⟨rfl, rfl⟩, trivial⟩, _, _, _, H, rfl, X23.ext, o15, ex16, f17⟩

theorem spec_zeMaskOf_w (seeds : List (List Int)) (i : Int) (round : Int) (n : Int) (m : Int) (Q : (List Int) → Prop) (H : spec_zeMaskOf seeds i round n m Q) (w : World) {vx : Value} {hx : PH} (r : RS hx vx seeds) (ex : Sub hx w) :
  CallsTo Tryz.prog 85 #[vx, I i, I round, I n, I m] w fun v w' => ∃ r0 u0 g0, Q r0 ∧ v = u0 ∧ Ext w w' ∧ OS 3 g0 emp u0 r0 ∧ Sub g0 w' ∧ Fresh w.heap.size g0 := by
 obtain ⟨a, c, rfl⟩ := r.shape
 refine enter (args := [sl a seeds c, I i, I round, I n, I m]) 62 Tryz.func85 rfl rfl rfl ?_
 refine W_forget [(0, sl a seeds c), (1, I i), (2, I round), (3, I n), (4, I m)] ⟨rfl, rfl, rfl, rfl, rfl, trivial⟩ fun ρ => ?_
 have X := But.refl emp w
 refine W_seq (W_region ?_)
 refine LP_ev ok 0 [(10, .slice none 0 0)] 1 rfl rfl ?_
 refine LP_end _ rfl (W_seq (W_region ?_))
 refine LP_ev ok 0 [(13, I n)] 1 rfl rfl ?_
 obtain ⟨hn, hb, H⟩ := H
 refine LP_make (α := Int) 1 rfl rfl rfl Tryz.underlying22 ti_3 (x0 := (0 : Int)) rfl rfl hn (by first | omega | (simp only [ln] at *; omega)) (by first | omega | (simp only [ln] at *; omega)) fun hx1 vx2 wx x o ex3 f => ?_
 obtain ⟨a4, c5, rfl⟩ := o.shape
 refine LP_ev ok 2 [(11, .slice a4 (List.length (List.replicate (Int.toNat n) ((0 : Int)))) c5)] 3 rfl rfl ?_
 refine LP_end _ rfl (W_seq ?_)
 refine W_seq (W_region ?_)
 refine LP_ev ok 0 [(15, sl a seeds c), (16, I (ln seeds)), (17, I 0)] 3 rfl rfl ?_
 refine LP_end _ rfl ?_
 refine W_block ?_
 have f19 := f.mono X.size
 obtain ⟨J, m17, Hx, H⟩ := H
 refine W_loop (S := (List Int) × Int) (fun s ρ' w' => J s.1 s.2 ∧ ∃ (ρ : Env) (vx6 : Value) (hx7 : PH), ρ' = setAll [(0, sl a seeds c), (1, I i), (2, I round), (3, I n), (4, I m), (11, vx6), (16, I (ln seeds)), (17, I s.2)] ρ ∧ But emp w w' ∧ OS 3 hx7 emp vx6 s.1 ∧ Sub hx7 w' ∧ Fresh w.heap.size hx7 ∧ Sub hx w' ∧ Dj hx7 hx) (fun s => m17 s.1 s.2) (List.replicate (Int.toNat n) ((0 : Int)), 0) ⟨Hx, _, .slice a4 (List.length (List.replicate (Int.toNat n) ((0 : Int)))) c5, hx1, env_eq ⟨rfl, rfl, rfl, rfl, rfl, rfl, rfl, rfl, trivial⟩, (X.stepx x), o, ex3, f19, (ex.ext x), (Dj.of_fresh ex f).symm⟩ ?_
 rintro ⟨out, x11⟩ _ wx12 ⟨Hi, ρ, vx6, hx7, rfl, HF⟩
 revert HF
 refine bb6 fun X16 o8 ex9 f10 ex13 d => ?_
 have H := H out x11 Hi
 obtain ⟨a14, c15, rfl⟩ := o8.shape
 refine W_seq (W_region ?_)
 refine LP_ev ok 0 [(18, .bool (decide (x11 < (ln seeds))))] 1 rfl rfl ?_
 refine LP_end _ rfl (W_seq ?_)
 refine W_cond (decide (x11 < (ln seeds))) rfl (fun hc => ?_) (fun hc => ?_)
 ·have H := H.1 hc
  refine W_skip ?_
  obtain ⟨k, hk, H⟩ := jn_elim H
  refine W_join2 (S := (List Int)) (fun s ρ' w' => k s ∧ ∃ (ρ : Env) (vx22 : Value) (hx23 : PH), ρ' = setAll [(0, sl a seeds c), (1, I i), (2, I round), (3, I n), (4, I m), (11, vx22), (16, I (ln seeds)), (17, I x11)] ρ ∧ But emp w w' ∧ OS 3 hx23 emp vx22 s ∧ Sub hx23 w' ∧ Fresh w.heap.size hx23 ∧ Sub hx w' ∧ Dj hx23 hx) ?_ ?_
  ·refine W_block ?_
   refine W_seq (W_region ?_)
   refine LP_ev ok 0 [(19, I x11), (12, I x11)] 2 rfl rfl ?_
   refine LP_end _ rfl ?_
   refine W_block ?_
   refine W_seq (W_region ?_)
   refine LP_ev ok 0 [(21, I x11), (22, I i), (23, .bool (decide (x11 > i))), (20, .bool (decide (x11 > i)))] 4 rfl rfl ?_
   refine LP_end _ rfl ?_
   refine W_cond (decide (x11 > i)) rfl (fun hc33 => ?_) (fun hc33 => ?_)
   ·have H := H.1 hc33
    refine W_region ?_
    refine LP_ev ok 0 [(24, sl a14 out c15), (25, sl a seeds c), (26, I i)] 3 rfl rfl ?_
    obtain ⟨x34, hi, hx35, H⟩ := H
    refine LP_index 3 rfl rfl rfl Tryz.underlying29 ti_22 rfl rfl r hi hx35 fun a36 cs r37 d38 => ?_
    refine LP_load 4 rfl rfl rfl ti_22 ag_22 rfl r37 d38 ex13 fun vx39 r40 => ?_
    have r43 := r40.slice
    obtain ⟨a41, c42, rfl⟩ := r43.shape
    refine LP_ev ok 5 [(29, I x11)] 6 rfl rfl ?_
    obtain ⟨x44, hi45, hx46, H⟩ := H
    refine LP_index 6 rfl rfl rfl Tryz.underlying22 ti_3 rfl rfl r43 hi45 hx46 fun a47 cs48 r49 d50 => ?_
    refine LP_load 7 rfl rfl rfl ti_3 ag_3 rfl r49 d50 ex13 fun vx51 r52 => ?_
    obtain rfl := r52.int
    refine LP_ev ok 8 [(32, I i), (33, I x11), (34, I round), (35, I n), (36, I m)] 13 rfl rfl ?_
    refine LP_call 13 rfl rfl rfl cal_110 rfl (spec_zeMask_w _ _ _ _ _ _ _ H wx12 ) ?_
    rintro _ wx54 ⟨r53, vx56, hx57, H, rfl, x55, o58, ex59, f60⟩
    obtain ⟨a61, c62, rfl⟩ := o58.shape
    refine LP_ev ok 14 [(38, I m)] 15 rfl rfl ?_
    refine LP_call 15 rfl rfl rfl cal_84 rfl (spec_zeAdd_w _ _ _ _ _ H wx54 o8.readf (ex9.ext x55) o58.readf ex59) ?_
    rintro _ wx65 ⟨r63, vx67, hx68, H, rfl, x66, o69, ex70, f71⟩
    obtain ⟨a72, c73, rfl⟩ := o69.shape
    refine LP_ev ok 16 [(11, sl a72 r63 c73)] 17 rfl rfl ?_
    refine LP_end _ rfl ?_
    have xc := (x55.trans x66)
    have f75 := f71.mono (X16.stepx x55).size
    exact ⟨r63, H, _, sl a72 r63 c73, hx68, env_eq ⟨rfl, rfl, rfl, rfl, rfl, rfl, rfl, rfl, trivial⟩, (X16.stepx xc), o69, ex70, f75, (ex13.ext xc), (Dj.of_fresh (ex13.ext x55) f71).symm⟩
   have H := H.2 hc33
   refine W_seq (W_region ?_)
   refine LP_ev ok 0 [(41, I x11), (42, I i), (43, .bool (decide (x11 < i))), (40, .bool (decide (x11 < i)))] 4 rfl rfl ?_
   refine LP_end _ rfl ?_
   refine W_cond (decide (x11 < i)) rfl (fun hc79 => ?_) (fun hc79 => ?_)
   ·have H := H.1 hc79
    refine W_region ?_
    refine LP_ev ok 0 [(44, sl a14 out c15), (45, sl a seeds c), (46, I i)] 3 rfl rfl ?_
    obtain ⟨x80, hi81, hx82, H⟩ := H
    refine LP_index 3 rfl rfl rfl Tryz.underlying29 ti_22 rfl rfl r hi81 hx82 fun a83 cs84 r85 d86 => ?_
    refine LP_load 4 rfl rfl rfl ti_22 ag_22 rfl r85 d86 ex13 fun vx87 r88 => ?_
    have r91 := r88.slice
    obtain ⟨a89, c90, rfl⟩ := r91.shape
    refine LP_ev ok 5 [(49, I x11)] 6 rfl rfl ?_
    obtain ⟨x92, hi93, hx94, H⟩ := H
    refine LP_index 6 rfl rfl rfl Tryz.underlying22 ti_3 rfl rfl r91 hi93 hx94 fun a95 cs96 r97 d98 => ?_
    refine LP_load 7 rfl rfl rfl ti_3 ag_3 rfl r97 d98 ex13 fun vx99 r100 => ?_
    obtain rfl := r100.int
    refine LP_ev ok 8 [(52, I x11), (53, I i), (54, I round), (55, I n), (56, I m)] 13 rfl rfl ?_
    refine LP_call 13 rfl rfl rfl cal_110 rfl (spec_zeMask_w _ _ _ _ _ _ _ H wx12 ) ?_
    rintro _ wx102 ⟨r101, vx104, hx105, H, rfl, x103, o106, ex107, f108⟩
    obtain ⟨a109, c110, rfl⟩ := o106.shape
    refine LP_ev ok 14 [(58, I m)] 15 rfl rfl ?_
    refine LP_call 15 rfl rfl rfl cal_84 rfl (spec_zeAdd_w _ _ _ _ _ H wx102 o8.readf (ex9.ext x103) o106.readf ex107) ?_
    rintro _ wx113 ⟨r111, vx115, hx116, H, rfl, x114, o117, ex118, f119⟩
    obtain ⟨a120, c121, rfl⟩ := o117.shape
    refine LP_ev ok 16 [(11, sl a120 r111 c121)] 17 rfl rfl ?_
    refine LP_end _ rfl ?_
    try refine W_forget [(0, sl a seeds c), (1, I i), (2, I round), (3, I n), (4, I m), (11, sl a120 r111 c121), (16, I (ln seeds)), (17, I x11)] ⟨rfl, rfl, rfl, rfl, rfl, rfl, rfl, rfl, trivial⟩ fun ρ => ?_
    have xc122 := (x103.trans x114)
    have f124 := f119.mono (X16.stepx x103).size
    exact ⟨r111, H, _, sl a120 r111 c121, hx116, env_eq ⟨rfl, rfl, rfl, rfl, rfl, rfl, rfl, rfl, trivial⟩, (X16.stepx xc122), o117, ex118, f124, (ex13.ext xc122), (Dj.of_fresh (ex13.ext x103) f119).symm⟩
   have H := H.2 hc79
   exact W_skip ⟨out, H, _, sl a14 out c15, hx7, env_eq ⟨rfl, rfl, rfl, rfl, rfl, rfl, rfl, rfl, trivial⟩, X16, o8, ex9, f10, ex13, d⟩
  rintro out21 _ wx27 ⟨H, ρ, vx22, hx23, rfl, HF⟩
  revert HF
  refine bb6 fun X32 o24 ex25 f26 ex28 d31 => ?_
  subst hk
  obtain ⟨a29, c30, rfl⟩ := o24.shape
  refine W_region ?_
  refine LP_ev ok 0 [(60, I (wr (x11 + 1))), (17, I (wr (x11 + 1)))] 2 rfl rfl ?_
  exact LP_end _ rfl ⟨(out21, wr (x11 + 1)), ⟨H.1, _, sl a29 out21 c30, hx23, env_eq ⟨rfl, rfl, rfl, rfl, rfl, rfl, rfl, rfl, trivial⟩, X32, o24, ex25, f26, ex28, d31⟩, H.2⟩
 have H := H.2 hc
 refine W_exit ?_
 refine (if_pos rfl).mpr ?_
 refine W_seq (W_region ?_)
 refine LP_ev ok 0 [(61, sl a14 out c15), (10, sl a14 out c15)] 2 rfl rfl ?_
 refine LP_end _ rfl (W_ret ?_)
 exact ⟨_, Ret_of [sl a14 out c15] ⟨⟨rfl, rfl⟩, trivial⟩, _, _, _, H, rfl, X16.ext, o8, ex9, f10⟩

theorem spec_zeShare_w (seeds : List (List Int)) (i : Int) (round : Int) (m : Int) (values : List Int) (Q : (List Int) → Prop) (H : spec_zeShare seeds i round m values Q) (w : World) {vx : Value} {hx : PH} (r : RS hx vx seeds) (ex : Sub hx w) {vx1 : Value} {hx2 : PH} (r3 : RS hx2 vx1 values) (ex4 : Sub hx2 w) :
  CallsTo Tryz.prog 49 #[vx, I i, I round, I m, vx1] w fun v w' => ∃ r0 u0 g0, Q r0 ∧ v = u0 ∧ Ext w w' ∧ OS 3 g0 emp u0 r0 ∧ Sub g0 w' ∧ Fresh w.heap.size g0 := by
 obtain ⟨a, c, rfl⟩ := r.shape
 obtain ⟨a5, c6, rfl⟩ := r3.shape
 refine enter (args := [sl a seeds c, I i, I round, I m, sl a5 values c6]) 21 Tryz.func49 rfl rfl rfl ?_
 refine W_forget [(0, sl a seeds c), (1, I i), (2, I round), (3, I m), (4, sl a5 values c6)] ⟨rfl, rfl, rfl, rfl, rfl, trivial⟩ fun ρ => ?_
 have X := But.refl emp w
 refine W_seq (W_region ?_)
 refine LP_ev ok 0 [(10, .slice none 0 0)] 1 rfl rfl ?_
 refine LP_end _ rfl (W_seq (W_region ?_))
 refine LP_ev ok 0 [(11, sl a5 values c6), (12, sl a seeds c), (13, I i), (14, I round), (15, sl a5 values c6), (16, I (ln values)), (17, I m)] 7 rfl rfl ?_
 refine LP_call 7 rfl rfl rfl cal_85 rfl (spec_zeMaskOf_w _ _ _ _ _ _ H w r ex) ?_
 rintro _ wx ⟨r7, vx8, hx9, H, rfl, x, o, ex10, f⟩
 obtain ⟨a11, c12, rfl⟩ := o.shape
 refine LP_ev ok 8 [(19, I m)] 9 rfl rfl ?_
 refine LP_call 9 rfl rfl rfl cal_84 rfl (spec_zeAdd_w _ _ _ _ _ H wx r3 (ex4.ext x) o.readf ex10) ?_
 rintro _ wx15 ⟨r13, vx17, hx18, H, rfl, x16, o19, ex20, f21⟩
 obtain ⟨a22, c23, rfl⟩ := o19.shape
 refine LP_ev ok 10 [(10, sl a22 r13 c23)] 11 rfl rfl ?_
 refine LP_end _ rfl (W_ret ?_)
 have X25 := (X.stepx x)
 have f24 := f21.mono X25.size
 exact ⟨_, Ret_of [sl a22 r13 c23] ⟨⟨rfl, rfl⟩, trivial⟩, _, _, _, H, rfl, (X25.stepx x16).ext, o19, ex20, f24⟩

end Go.Proofs.YtnladfcokocfnaaGreat
