/- The walks: each Go function does what its meaning says. -/
import Derived.Test.YtdnpmgofkbjigaaEDefs
import Derived.Test.YtdnpmgofkbjigaaProg
import Derived.KernelRfl
set_option linter.unusedVariables false
set_option autoImplicit false
namespace Go.Proofs.Ytdnpmgofkbjigaa
open Go Go.RowKit Go.Gv

open Go.Proofs
theorem Edit_tk {h : PH} {c : List Value} {x : Edit} (b : Deep.own h c x) : ∃ u, c = [u] ∧ OD h u x.Sets := by
  have o := b
  obtain ⟨u, rfl, q⟩ := o
  refine ⟨u, rfl, ?_⟩
  simpa only [emp_un, un_emp] using q
def ty : Ty := Ty.of [(3, .int .i64), (4, .bool), (5, .int .u8), (9, .string), (22, .slice 98), (23, .slice 100), (24, .slice 3), (29, .slice 107), (31, .slice 50), (45, .slice 5), (65, .slice 24), (150, .int .u64), (177, .map 3 4), (179, .slice 4)] [((50, 0), 0), ((98, 0), 0), ((98, 1), 1), ((100, 0), 0), ((107, 0), 0), ((107, 1), 1), ((172, 0), 0), ((172, 1), 1), ((172, 2), 2), ((172, 3), 3)] [(50, [.slice none 0 0], [(0, 1)]), (172, [.slice none 0 0, .slice none 0 0, .int .i64 0, .slice none 0 0], [(0, 1), (1, 1), (2, 1), (3, 1)])]
theorem fa50_0 : FldOk Try.prog 50 0 0 := fun _ _ => by kernel_rfl
theorem fa98_0 : FldOk Try.prog 98 0 0 := fun _ _ => by kernel_rfl
theorem fa98_1 : FldOk Try.prog 98 1 1 := fun _ _ => by kernel_rfl
theorem fa100_0 : FldOk Try.prog 100 0 0 := fun _ _ => by kernel_rfl
theorem fa107_0 : FldOk Try.prog 107 0 0 := fun _ _ => by kernel_rfl
theorem fa107_1 : FldOk Try.prog 107 1 1 := fun _ _ => by kernel_rfl
theorem fa172_0 : FldOk Try.prog 172 0 0 := fun _ _ => by kernel_rfl
theorem fa172_1 : FldOk Try.prog 172 1 1 := fun _ _ => by kernel_rfl
theorem fa172_2 : FldOk Try.prog 172 2 2 := fun _ _ => by kernel_rfl
theorem fa172_3 : FldOk Try.prog 172 3 3 := fun _ _ => by kernel_rfl
theorem so50 : StrOk Try.prog 50 [.slice none 0 0] [(0, 1)] := StrOk.of (zc := #[.slice none 0 0]) Try.underlying50 (fun _ => by kernel_rfl) rfl (fun _ => by kernel_rfl)
theorem so172 : StrOk Try.prog 172 [.slice none 0 0, .slice none 0 0, .int .i64 0, .slice none 0 0] [(0, 1), (1, 1), (2, 1), (3, 1)] := StrOk.of (zc := #[.slice none 0 0, .slice none 0 0, .int .i64 0, .slice none 0 0]) Try.underlying172 (fun _ => by kernel_rfl) rfl (fun _ => by kernel_rfl)
theorem ok : TyOk Try.prog ty := .of ⟨Try.underlying3, Try.underlying4, Try.underlying5, Try.underlying9, Try.underlying22, Try.underlying23, Try.underlying24, Try.underlying29, Try.underlying31, Try.underlying45, Try.underlying65, Try.underlying150, Try.underlying177, Try.underlying179, trivial⟩ ⟨fa50_0, fa98_0, fa98_1, fa100_0, fa107_0, fa107_1, fa172_0, fa172_1, fa172_2, fa172_3, trivial⟩ ⟨so50, so172, trivial⟩
theorem ti_3 : TyI Try.prog 3 1 8 (.int .i64 0) := .mk' (by kernel_rfl) rfl
theorem ti_4 : TyI Try.prog 4 1 1 (.bool false) := .mk' (by kernel_rfl) rfl
theorem ti_5 : TyI Try.prog 5 1 1 (.int .u8 0) := .mk' (by kernel_rfl) rfl
theorem ti_9 : TyI Try.prog 9 1 16 (.string ⟨#[]⟩) := .mk' (by kernel_rfl) rfl
theorem ti_24 : TyI Try.prog 24 1 24 (.slice none 0 0) := .mk' (by kernel_rfl) rfl
theorem ti_29 : TyI Try.prog 29 1 24 (.slice none 0 0) := .mk' (by kernel_rfl) rfl
theorem ti_31 : TyI Try.prog 31 1 24 (.slice none 0 0) := .mk' (by kernel_rfl) rfl
theorem ti_50 : TyI Try.prog 50 1 24 (.agg #[.slice none 0 0]) := .mk' (by kernel_rfl) rfl
theorem ti_65 : TyI Try.prog 65 1 24 (.slice none 0 0) := .mk' (by kernel_rfl) rfl
theorem ti_98 : TyI Try.prog 98 2 24 (.agg #[.string ⟨#[]⟩, .int .i64 0]) := .mk' (by kernel_rfl) rfl
theorem ti_100 : TyI Try.prog 100 1 24 (.agg #[.slice none 0 0]) := .mk' (by kernel_rfl) rfl
theorem ti_107 : TyI Try.prog 107 2 24 (.agg #[.string ⟨#[]⟩, .int .i64 0]) := .mk' (by kernel_rfl) rfl
theorem ti_177 : TyI Try.prog 177 1 8 (.map none) := .mk' (by kernel_rfl) rfl
theorem ag_3 : AggT Try.prog 3 false := ⟨_, Try.underlying3, by simp⟩
theorem ag_4 : AggT Try.prog 4 false := ⟨_, Try.underlying4, by simp⟩
theorem ag_9 : AggT Try.prog 9 false := ⟨_, Try.underlying9, by simp⟩
theorem ag_24 : AggT Try.prog 24 false := ⟨_, Try.underlying24, by simp⟩
theorem ag_29 : AggT Try.prog 29 false := ⟨_, Try.underlying29, by simp⟩
theorem ag_31 : AggT Try.prog 31 false := ⟨_, Try.underlying31, by simp⟩
theorem ag_50 : AggT Try.prog 50 true := ⟨_, Try.underlying50, by simp⟩
theorem ag_65 : AggT Try.prog 65 false := ⟨_, Try.underlying65, by simp⟩
theorem ag_98 : AggT Try.prog 98 true := ⟨_, Try.underlying98, by simp⟩
theorem ag_100 : AggT Try.prog 100 true := ⟨_, Try.underlying100, by simp⟩
theorem ag_107 : AggT Try.prog 107 true := ⟨_, Try.underlying107, by simp⟩
theorem ag_177 : AggT Try.prog 177 false := ⟨_, Try.underlying177, by simp⟩
theorem mix : Try.prog.follows .mixedOrders = true := by kernel_rfl
theorem cal_14 : Callable Try.prog 14 := .mk Try.func14 rfl (by decide)
theorem cal_15 : Callable Try.prog 15 := .mk Try.func15 rfl (by decide)
theorem cal_16 : Callable Try.prog 16 := .mk Try.func16 rfl (by decide)
theorem cal_17 : Callable Try.prog 17 := .mk Try.func17 rfl (by decide)
theorem cal_18 : Callable Try.prog 18 := .mk Try.func18 rfl (by decide)
theorem cal_19 : Callable Try.prog 19 := .mk Try.func19 rfl (by decide)
theorem cal_20 : Callable Try.prog 20 := .mk Try.func20 rfl (by decide)
theorem cal_21 : Callable Try.prog 21 := .mk Try.func21 rfl (by decide)
theorem cal_22 : Callable Try.prog 22 := .mk Try.func22 rfl (by decide)
theorem cal_23 : Callable Try.prog 23 := .mk Try.func23 rfl (by decide)
theorem cal_24 : Callable Try.prog 24 := .mk Try.func24 rfl (by decide)
theorem cal_25 : Callable Try.prog 25 := .mk Try.func25 rfl (by decide)
theorem cal_26 : Callable Try.prog 26 := .mk Try.func26 rfl (by decide)
theorem cal_27 : Callable Try.prog 27 := .mk Try.func27 rfl (by decide)
theorem cal_28 : Callable Try.prog 28 := .mk Try.func28 rfl (by decide)
theorem cal_29 : Callable Try.prog 29 := .mk Try.func29 rfl (by decide)
theorem cal_30 : Callable Try.prog 30 := .mk Try.func30 rfl (by decide)
theorem cal_56 : Callable Try.prog 56 := .mk Try.func56 rfl (by decide)
theorem cal_57 : Callable Try.prog 57 := .mk Try.func57 rfl (by decide)
theorem cal_58 : Callable Try.prog 58 := .mk Try.func58 rfl (by decide)
theorem cal_61 : Callable Try.prog 61 := .mk Try.func61 rfl (by decide)
theorem cal_62 : Callable Try.prog 62 := .mk Try.func62 rfl (by decide)
theorem cal_63 : Callable Try.prog 63 := .mk Try.func63 rfl (by decide)
theorem cal_75 : Callable Try.prog 75 := .mk Try.func75 rfl (by decide)
theorem cal_76 : Callable Try.prog 76 := .mk Try.func76 rfl (by decide)
theorem cal_77 : Callable Try.prog 77 := .mk Try.func77 rfl (by decide)
theorem cal_78 : Callable Try.prog 78 := .mk Try.func78 rfl (by decide)
theorem cal_79 : Callable Try.prog 79 := .mk Try.func79 rfl (by decide)
theorem cal_80 : Callable Try.prog 80 := .mk Try.func80 rfl (by decide)
theorem cal_81 : Callable Try.prog 81 := .mk Try.func81 rfl (by decide)
theorem cal_82 : Callable Try.prog 82 := .mk Try.func82 rfl (by decide)
theorem cal_83 : Callable Try.prog 83 := .mk Try.func83 rfl (by decide)
theorem cal_84 : Callable Try.prog 84 := .mk Try.func84 rfl (by decide)
theorem cal_85 : Callable Try.prog 85 := .mk Try.func85 rfl (by decide)
theorem cal_86 : Callable Try.prog 86 := .mk Try.func86 rfl (by decide)
theorem cal_87 : Callable Try.prog 87 := .mk Try.func87 rfl (by decide)
theorem cal_88 : Callable Try.prog 88 := .mk Try.func88 rfl (by decide)
theorem cal_89 : Callable Try.prog 89 := .mk Try.func89 rfl (by decide)
theorem cal_90 : Callable Try.prog 90 := .mk Try.func90 rfl (by decide)
theorem cal_91 : Callable Try.prog 91 := .mk Try.func91 rfl (by decide)
theorem cal_92 : Callable Try.prog 92 := .mk Try.func92 rfl (by decide)
theorem cal_93 : Callable Try.prog 93 := .mk Try.func93 rfl (by decide)
theorem cal_94 : Callable Try.prog 94 := .mk Try.func94 rfl (by decide)
theorem cal_95 : Callable Try.prog 95 := .mk Try.func95 rfl (by decide)
theorem cal_96 : Callable Try.prog 96 := .mk Try.func96 rfl (by decide)
theorem cal_98 : Callable Try.prog 98 := .mk Try.func98 rfl (by decide)
theorem cal_99 : Callable Try.prog 99 := .mk Try.func99 rfl (by decide)
theorem cal_100 : Callable Try.prog 100 := .mk Try.func100 rfl (by decide)
theorem cal_101 : Callable Try.prog 101 := .mk Try.func101 rfl (by decide)
theorem cal_102 : Callable Try.prog 102 := .mk Try.func102 rfl (by decide)
theorem cal_105 : Callable Try.prog 105 := .mk Try.func105 rfl (by decide)
theorem cal_107 : Callable Try.prog 107 := .mk Try.func107 rfl (by decide)
theorem cal_116 : Callable Try.prog 116 := .mk Try.func116 rfl (by decide)
theorem cal_126 : Callable Try.prog 126 := .mk Try.func126 rfl (by decide)
theorem cal_127 : Callable Try.prog 127 := .mk Try.func127 rfl (by decide)
theorem cal_128 : Callable Try.prog 128 := .mk Try.func128 rfl (by decide)
theorem cal_134 : Callable Try.prog 134 := .mk Try.func134 rfl (by decide)
theorem cal_135 : Callable Try.prog 135 := .mk Try.func135 rfl (by decide)
theorem cal_136 : Callable Try.prog 136 := .mk Try.func136 rfl (by decide)
theorem cal_137 : Callable Try.prog 137 := .mk Try.func137 rfl (by decide)
theorem cal_138 : Callable Try.prog 138 := .mk Try.func138 rfl (by decide)
theorem cal_156 : Callable Try.prog 156 := .mk Try.func156 rfl (by decide)
theorem cal_157 : Callable Try.prog 157 := .mk Try.func157 rfl (by decide)
theorem cal_158 : Callable Try.prog 158 := .mk Try.func158 rfl (by decide)
theorem cal_159 : Callable Try.prog 159 := .mk Try.func159 rfl (by decide)
theorem cal_160 : Callable Try.prog 160 := .mk Try.func160 rfl (by decide)
theorem cal_161 : Callable Try.prog 161 := .mk Try.func161 rfl (by decide)
theorem cal_162 : Callable Try.prog 162 := .mk Try.func162 rfl (by decide)
theorem cal_163 : Callable Try.prog 163 := .mk Try.func163 rfl (by decide)
theorem cal_164 : Callable Try.prog 164 := .mk Try.func164 rfl (by decide)
theorem cal_165 : Callable Try.prog 165 := .mk Try.func165 rfl (by decide)
theorem cal_166 : Callable Try.prog 166 := .mk Try.func166 rfl (by decide)
theorem cal_167 : Callable Try.prog 167 := .mk Try.func167 rfl (by decide)
theorem cal_168 : Callable Try.prog 168 := .mk Try.func168 rfl (by decide)
theorem cal_169 : Callable Try.prog 169 := .mk Try.func169 rfl (by decide)
theorem cal_172 : Callable Try.prog 172 := .mk Try.func172 rfl (by decide)
theorem cal_175 : Callable Try.prog 175 := .mk Try.func175 rfl (by decide)
theorem cal_182 : Callable Try.prog 182 := .mk Try.func182 rfl (by decide)
theorem cal_194 : Callable Try.prog 194 := .mk Try.func194 rfl (by decide)
theorem cal_202 : Callable Try.prog 202 := .mk Try.func202 rfl (by decide)
theorem cal_203 : Callable Try.prog 203 := .mk Try.func203 rfl (by decide)
theorem cal_204 : Callable Try.prog 204 := .mk Try.func204 rfl (by decide)
theorem cal_214 : Callable Try.prog 214 := .mk Try.func214 rfl (by decide)
theorem cal_217 : Callable Try.prog 217 := .mk Try.func217 rfl (by decide)
theorem cal_218 : Callable Try.prog 218 := .mk Try.func218 rfl (by decide)
theorem cal_219 : Callable Try.prog 219 := .mk Try.func219 rfl (by decide)
theorem cal_223 : Callable Try.prog 223 := .mk Try.func223 rfl (by decide)
theorem cal_224 : Callable Try.prog 224 := .mk Try.func224 rfl (by decide)

set_option maxRecDepth 8000 in
set_option maxHeartbeats 4000000 in
theorem laws_szVariable_w (a : Variable) (left : Int) (Q : Int → Prop) (H : laws_szVariable a left Q) (w : World)  :
    CallsTo Try.prog 75 #[.agg #[.string a.Name, I a.Levels], I left] w fun v w' => ∃ r0, Q r0 ∧ v = I r0 ∧ Ext w w' := by
  refine enter (args := [.agg #[.string a.Name, I a.Levels], I left]) 13 Try.func75 rfl rfl rfl ?_
  refine W_forget [(0, .agg #[.string a.Name, I a.Levels]), (1, I left)] ⟨rfl, rfl, trivial⟩ fun ρ => ?_
  have X := But.refl emp w
  refine W_seq ?_
  refine W_region ?_
  refine LP_box 0 (cs := [.string a.Name, I a.Levels]) rfl rfl rfl rfl rfl fun b wx x ex f => ?_
  refine LP_ev ok 1 [(4, I 0)] 2 rfl rfl ?_
  refine LP_end _ rfl ?_
  refine W_seq ?_
  refine W_region ?_
  refine LP_ev ok 0 [(5, I left), (6, .pointer (some ⟨b, 0, none⟩))] 2 rfl rfl ?_
  refine LP_ldbox 2 (v := .string a.Name) rfl rfl rfl ti_9 ag_9 (fun _ => rfl) rfl ex rfl rfl ?_
  refine LP_ev ok 3 [(8, I (sln a.Name)), (9, I (wr (left - (sln a.Name)))), (1, I (wr (left - (sln a.Name))))] 6 rfl rfl ?_
  refine LP_end _ rfl ?_
  refine W_seq ?_
  refine W_seq ?_
  refine W_region ?_
  refine LP_ev ok 0 [(10, I (wr (left - (sln a.Name)))), (11, .bool (decide ((wr (left - (sln a.Name))) < 0)))] 2 rfl rfl ?_
  refine LP_end _ rfl ?_
  refine W_cond (decide ((wr (left - (sln a.Name))) < 0)) rfl (fun hc => ?_) (fun hc => ?_)
  · have H := H.1 hc
    refine W_seq ?_
    refine W_region ?_
    refine LP_ev ok 0 [(4, I ((-1)))] 1 rfl rfl ?_
    refine LP_end _ rfl ?_
    refine W_ret ?_
    have X1 := (X.stepx x)
    exact ⟨_, Ret_of [I ((-1))] ⟨⟨rfl, rfl⟩, trivial⟩, _, H, rfl, X1.ext⟩
  have H := H.2 hc
  refine W_skip ?_
  refine W_seq ?_
  refine W_region ?_
  refine LP_ev ok 0 [(12, I (wr (left - (sln a.Name)))), (4, I (wr (left - (sln a.Name))))] 2 rfl rfl ?_
  refine LP_end _ rfl ?_
  refine W_ret ?_
  have X2 := (X.stepx x)
  exact ⟨_, Ret_of [I (wr (left - (sln a.Name)))] ⟨⟨rfl, rfl⟩, trivial⟩, _, H, rfl, X2.ext⟩

set_option maxRecDepth 8000 in
set_option maxHeartbeats 4000000 in
theorem laws_szVariableS_w (a : List Variable) (left : Int) (Q : Int → Prop) (H : laws_szVariableS a left Q) (w : World) {vx : Value} {hx : PH} (r : RS hx vx a) (ex : Sub hx w) :
    CallsTo Try.prog 14 #[vx, I left] w fun v w' => ∃ r0, Q r0 ∧ v = I r0 ∧ Ext w w' := by
  obtain ⟨a1, c, rfl⟩ := r.shape
  refine enter (args := [.slice a1 (List.length a) c, I left]) 27 Try.func14 rfl rfl rfl ?_
  refine W_forget [(0, .slice a1 (List.length a) c), (1, I left)] ⟨rfl, rfl, trivial⟩ fun ρ => ?_
  have X := But.refl emp w
  refine W_seq ?_
  refine W_region ?_
  refine LP_ev ok 0 [(4, I 0)] 1 rfl rfl ?_
  refine LP_end _ rfl ?_
  refine W_seq ?_
  refine W_region ?_
  refine LP_ev ok 0 [(6, I left), (7, .slice a1 (List.length a) c), (8, I (ln a)), (9, I (wr (left - (ln a)))), (1, I (wr (left - (ln a))))] 5 rfl rfl ?_
  refine LP_end _ rfl ?_
  refine W_seq ?_
  refine W_seq ?_
  refine W_region ?_
  refine LP_ev ok 0 [(10, I (wr (left - (ln a)))), (11, .bool (decide ((wr (left - (ln a))) < 0)))] 2 rfl rfl ?_
  refine LP_end _ rfl ?_
  refine W_cond (decide ((wr (left - (ln a))) < 0)) rfl (fun hc => ?_) (fun hc => ?_)
  · have H := H.1 hc
    refine W_seq ?_
    refine W_region ?_
    refine LP_ev ok 0 [(4, I ((-1)))] 1 rfl rfl ?_
    refine LP_end _ rfl ?_
    refine W_ret ?_
    exact ⟨_, Ret_of [I ((-1))] ⟨⟨rfl, rfl⟩, trivial⟩, _, H, rfl, X.ext⟩
  have H := H.2 hc
  refine W_skip ?_
  refine W_seq ?_
  refine W_seq ?_
  refine W_region ?_
  refine LP_ev ok 0 [(5, I 0)] 1 rfl rfl ?_
  refine LP_end _ rfl ?_
  refine W_block ?_
  obtain ⟨J, m, Hx, H⟩ := H
  refine W_loop (S := Int × Int) (fun s ρ' w' => J s.1 s.2 ∧ ∃ (ρ : Env), ρ' = setAll [(0, .slice a1 (List.length a) c), (1, I s.1), (5, I s.2)] ρ ∧ But emp w w' ∧ Sub hx w') (fun s => m s.1 s.2) (wr (left - (ln a)), 0) ⟨Hx, _, env_eq ⟨rfl, rfl, rfl, trivial⟩, X, ex⟩ ?_
  rintro ⟨left2, i⟩ _ wx ⟨Hi, ρ, rfl, X4, ex3⟩
  have H := H left2 i Hi
  refine W_seq ?_
  refine W_seq ?_
  refine W_region ?_
  refine LP_ev ok 0 [(12, I i), (13, .slice a1 (List.length a) c), (14, I (ln a)), (15, .bool (decide (i < (ln a))))] 4 rfl rfl ?_
  refine LP_end _ rfl ?_
  refine W_cond (decide (i < (ln a))) rfl (fun hc5 => ?_) (fun hc5 => ?_)
  · have H := H.1 hc5
    refine W_skip ?_
    refine W_seq ?_
    refine W_block ?_
    refine W_seq ?_
    refine W_region ?_
    refine LP_ev ok 0 [(18, .slice a1 (List.length a) c), (19, I i)] 2 rfl rfl ?_
    obtain ⟨x, hi, hx6, H⟩ := H
    refine LP_index 2 rfl rfl rfl Try.underlying22 ti_98 rfl rfl r hi hx6 fun a7 cs r8 d => ?_
    refine LP_load 3 rfl rfl rfl ti_98 ag_98 rfl r8 d ex3 fun vx9 r10 => ?_
    obtain rfl := Variable_rv r10
    refine LP_ev ok 4 [(22, I left2)] 5 rfl rfl ?_
    refine LP_call 5 rfl rfl rfl cal_75 rfl (laws_szVariable_w _ _ _ H wx ) ?_
    rintro _ wx12 ⟨r11, H, rfl, x13⟩
    refine LP_ev ok 6 [(1, I r11)] 7 rfl rfl ?_
    refine LP_end _ rfl ?_
    refine W_seq ?_
    refine W_region ?_
    refine LP_ev ok 0 [(24, I r11), (25, .bool (decide (r11 < 0)))] 2 rfl rfl ?_
    refine LP_end _ rfl ?_
    refine W_cond (decide (r11 < 0)) rfl (fun hc14 => ?_) (fun hc14 => ?_)
    · have H := H.1 hc14
      refine W_seq ?_
      refine W_region ?_
      refine LP_ev ok 0 [(4, I ((-1)))] 1 rfl rfl ?_
      refine LP_end _ rfl ?_
      refine W_ret ?_
      have X15 := (X4.stepx x13)
      exact ⟨_, Ret_of [I ((-1))] ⟨⟨rfl, rfl⟩, trivial⟩, _, H, rfl, X15.ext⟩
    have H := H.2 hc14
    refine W_skip ?_
    refine W_region ?_
    refine LP_ev ok 0 [(16, I i), (17, I (wr (i + 1))), (5, I (wr (i + 1)))] 3 rfl rfl ?_
    refine LP_end _ rfl ?_
    have X16 := (X4.stepx x13)
    have ex17 := (ex3.ext x13)
    exact ⟨(r11, wr (i + 1)), ⟨H.1, _, env_eq ⟨rfl, rfl, rfl, trivial⟩, X16, ex17⟩, H.2⟩
  have H := H.2 hc5
  refine W_exit ?_
  refine (if_pos rfl).mpr ?_
  refine W_seq ?_
  refine W_region ?_
  refine LP_ev ok 0 [(26, I left2), (4, I left2)] 2 rfl rfl ?_
  refine LP_end _ rfl ?_
  refine W_ret ?_
  exact ⟨_, Ret_of [I left2] ⟨⟨rfl, rfl⟩, trivial⟩, _, H, rfl, X4.ext⟩

set_option maxRecDepth 8000 in
set_option maxHeartbeats 4000000 in
theorem laws_szIntS_w (a : List Int) (left : Int) (Q : Int → Prop) (H : laws_szIntS a left Q) (w : World) {vx : Value} {hx : PH} (r : RS hx vx a) (ex : Sub hx w) :
    CallsTo Try.prog 116 #[vx, I left] w fun v w' => ∃ r0, Q r0 ∧ v = I r0 ∧ Ext w w' := by
  obtain ⟨a1, c, rfl⟩ := r.shape
  refine enter (args := [.slice a1 (List.length a) c, I left]) 12 Try.func116 rfl rfl rfl ?_
  refine W_forget [(0, .slice a1 (List.length a) c), (1, I left)] ⟨rfl, rfl, trivial⟩ fun ρ => ?_
  have X := But.refl emp w
  refine W_seq ?_
  refine W_region ?_
  refine LP_ev ok 0 [(4, I 0)] 1 rfl rfl ?_
  refine LP_end _ rfl ?_
  refine W_seq ?_
  refine W_region ?_
  refine LP_ev ok 0 [(5, I left), (6, .slice a1 (List.length a) c), (7, I (ln a)), (8, I (wr (left - (ln a)))), (1, I (wr (left - (ln a))))] 5 rfl rfl ?_
  refine LP_end _ rfl ?_
  refine W_seq ?_
  refine W_seq ?_
  refine W_region ?_
  refine LP_ev ok 0 [(9, I (wr (left - (ln a)))), (10, .bool (decide ((wr (left - (ln a))) < 0)))] 2 rfl rfl ?_
  refine LP_end _ rfl ?_
  refine W_cond (decide ((wr (left - (ln a))) < 0)) rfl (fun hc => ?_) (fun hc => ?_)
  · have H := H.1 hc
    refine W_seq ?_
    refine W_region ?_
    refine LP_ev ok 0 [(4, I ((-1)))] 1 rfl rfl ?_
    refine LP_end _ rfl ?_
    refine W_ret ?_
    exact ⟨_, Ret_of [I ((-1))] ⟨⟨rfl, rfl⟩, trivial⟩, _, H, rfl, X.ext⟩
  have H := H.2 hc
  refine W_skip ?_
  refine W_seq ?_
  refine W_region ?_
  refine LP_ev ok 0 [(11, I (wr (left - (ln a)))), (4, I (wr (left - (ln a))))] 2 rfl rfl ?_
  refine LP_end _ rfl ?_
  refine W_ret ?_
  exact ⟨_, Ret_of [I (wr (left - (ln a)))] ⟨⟨rfl, rfl⟩, trivial⟩, _, H, rfl, X.ext⟩

set_option maxRecDepth 8000 in
set_option maxHeartbeats 4000000 in
theorem laws_szEdit_w (a : Edit) (left : Int) (Q : Int → Prop) (H : laws_szEdit a left Q) (w : World) {vx : Value} {hx : PH} (r : RS hx vx a.Sets) (ex : Sub hx w) :
    CallsTo Try.prog 76 #[.agg #[vx], I left] w fun v w' => ∃ r0, Q r0 ∧ v = I r0 ∧ Ext w w' := by
  obtain ⟨a1, c, rfl⟩ := r.shape
  refine enter (args := [.agg #[.slice a1 (List.length a.Sets) c], I left]) 12 Try.func76 rfl rfl rfl ?_
  refine W_forget [(0, .agg #[.slice a1 (List.length a.Sets) c]), (1, I left)] ⟨rfl, rfl, trivial⟩ fun ρ => ?_
  have X := But.refl emp w
  refine W_seq ?_
  refine W_region ?_
  refine LP_box 0 (cs := [.slice a1 (List.length a.Sets) c]) rfl rfl rfl rfl rfl fun b wx x ex2 f => ?_
  refine LP_ev ok 1 [(4, I 0)] 2 rfl rfl ?_
  refine LP_end _ rfl ?_
  refine W_seq ?_
  refine W_region ?_
  refine LP_ev ok 0 [(5, .pointer (some ⟨b, 0, none⟩))] 1 rfl rfl ?_
  refine LP_ldbox 1 (v := .slice a1 (List.length a.Sets) c) rfl rfl rfl ti_24 ag_24 (fun _ => rfl) rfl ex2 rfl rfl ?_
  refine LP_ev ok 2 [(7, I left)] 3 rfl rfl ?_
  have ex4 := (ex.ext x)
  refine LP_call 3 rfl rfl rfl cal_116 rfl (laws_szIntS_w _ _ _ H wx r ex4) ?_
  rintro _ wx5 ⟨r3, H, rfl, x6⟩
  refine LP_ev ok 4 [(1, I r3)] 5 rfl rfl ?_
  refine LP_end _ rfl ?_
  refine W_seq ?_
  refine W_seq ?_
  refine W_region ?_
  refine LP_ev ok 0 [(9, I r3), (10, .bool (decide (r3 < 0)))] 2 rfl rfl ?_
  refine LP_end _ rfl ?_
  refine W_cond (decide (r3 < 0)) rfl (fun hc => ?_) (fun hc => ?_)
  · have H := H.1 hc
    refine W_seq ?_
    refine W_region ?_
    refine LP_ev ok 0 [(4, I ((-1)))] 1 rfl rfl ?_
    refine LP_end _ rfl ?_
    refine W_ret ?_
    have X7 := ((X.stepx x).stepx x6)
    exact ⟨_, Ret_of [I ((-1))] ⟨⟨rfl, rfl⟩, trivial⟩, _, H, rfl, X7.ext⟩
  have H := H.2 hc
  refine W_skip ?_
  refine W_seq ?_
  refine W_region ?_
  refine LP_ev ok 0 [(11, I r3), (4, I r3)] 2 rfl rfl ?_
  refine LP_end _ rfl ?_
  refine W_ret ?_
  have X8 := ((X.stepx x).stepx x6)
  exact ⟨_, Ret_of [I r3] ⟨⟨rfl, rfl⟩, trivial⟩, _, H, rfl, X8.ext⟩

set_option maxRecDepth 8000 in
set_option maxHeartbeats 4000000 in
theorem laws_szEditS_w (a : List Edit) (left : Int) (Q : Int → Prop) (H : laws_szEditS a left Q) (w : World) {vx : Value} {hx : PH} (r : RS hx vx a) (ex : Sub hx w) :
    CallsTo Try.prog 15 #[vx, I left] w fun v w' => ∃ r0, Q r0 ∧ v = I r0 ∧ Ext w w' := by
  obtain ⟨a1, c, rfl⟩ := r.shape
  refine enter (args := [.slice a1 (List.length a) c, I left]) 27 Try.func15 rfl rfl rfl ?_
  refine W_forget [(0, .slice a1 (List.length a) c), (1, I left)] ⟨rfl, rfl, trivial⟩ fun ρ => ?_
  have X := But.refl emp w
  refine W_seq ?_
  refine W_region ?_
  refine LP_ev ok 0 [(4, I 0)] 1 rfl rfl ?_
  refine LP_end _ rfl ?_
  refine W_seq ?_
  refine W_region ?_
  refine LP_ev ok 0 [(6, I left), (7, .slice a1 (List.length a) c), (8, I (ln a)), (9, I (wr (left - (ln a)))), (1, I (wr (left - (ln a))))] 5 rfl rfl ?_
  refine LP_end _ rfl ?_
  refine W_seq ?_
  refine W_seq ?_
  refine W_region ?_
  refine LP_ev ok 0 [(10, I (wr (left - (ln a)))), (11, .bool (decide ((wr (left - (ln a))) < 0)))] 2 rfl rfl ?_
  refine LP_end _ rfl ?_
  refine W_cond (decide ((wr (left - (ln a))) < 0)) rfl (fun hc => ?_) (fun hc => ?_)
  · have H := H.1 hc
    refine W_seq ?_
    refine W_region ?_
    refine LP_ev ok 0 [(4, I ((-1)))] 1 rfl rfl ?_
    refine LP_end _ rfl ?_
    refine W_ret ?_
    exact ⟨_, Ret_of [I ((-1))] ⟨⟨rfl, rfl⟩, trivial⟩, _, H, rfl, X.ext⟩
  have H := H.2 hc
  refine W_skip ?_
  refine W_seq ?_
  refine W_seq ?_
  refine W_region ?_
  refine LP_ev ok 0 [(5, I 0)] 1 rfl rfl ?_
  refine LP_end _ rfl ?_
  refine W_block ?_
  obtain ⟨J, m, Hx, H⟩ := H
  refine W_loop (S := Int × Int) (fun s ρ' w' => J s.1 s.2 ∧ ∃ (ρ : Env), ρ' = setAll [(0, .slice a1 (List.length a) c), (1, I s.1), (5, I s.2)] ρ ∧ But emp w w' ∧ Sub hx w') (fun s => m s.1 s.2) (wr (left - (ln a)), 0) ⟨Hx, _, env_eq ⟨rfl, rfl, rfl, trivial⟩, X, ex⟩ ?_
  rintro ⟨left2, i⟩ _ wx ⟨Hi, ρ, rfl, X4, ex3⟩
  have H := H left2 i Hi
  refine W_seq ?_
  refine W_seq ?_
  refine W_region ?_
  refine LP_ev ok 0 [(12, I i), (13, .slice a1 (List.length a) c), (14, I (ln a)), (15, .bool (decide (i < (ln a))))] 4 rfl rfl ?_
  refine LP_end _ rfl ?_
  refine W_cond (decide (i < (ln a))) rfl (fun hc5 => ?_) (fun hc5 => ?_)
  · have H := H.1 hc5
    refine W_skip ?_
    refine W_seq ?_
    refine W_block ?_
    refine W_seq ?_
    refine W_region ?_
    refine LP_ev ok 0 [(18, .slice a1 (List.length a) c), (19, I i)] 2 rfl rfl ?_
    obtain ⟨x, hi, hx6, H⟩ := H
    refine LP_index 2 rfl rfl rfl Try.underlying23 ti_100 rfl rfl r hi hx6 fun a7 cs r8 d => ?_
    have d9 := d
    obtain ⟨u, rfl, r10⟩ := Edit_rd d9
    obtain ⟨a11, c12, rfl⟩ := r10.shape
    refine LP_load 3 rfl rfl rfl ti_100 ag_100 rfl r8 d ex3 fun vx13 r14 => ?_
    obtain ⟨u15, rfl, r16⟩ := Edit_rv r14
    obtain ⟨a17, c18, rfl⟩ := r16.shape
    refine LP_ev ok 4 [(22, I left2)] 5 rfl rfl ?_
    refine LP_call 5 rfl rfl rfl cal_76 rfl (laws_szEdit_w _ _ _ H wx r16 ex3) ?_
    rintro _ wx20 ⟨r19, H, rfl, x21⟩
    refine LP_ev ok 6 [(1, I r19)] 7 rfl rfl ?_
    refine LP_end _ rfl ?_
    refine W_seq ?_
    refine W_region ?_
    refine LP_ev ok 0 [(24, I r19), (25, .bool (decide (r19 < 0)))] 2 rfl rfl ?_
    refine LP_end _ rfl ?_
    refine W_cond (decide (r19 < 0)) rfl (fun hc22 => ?_) (fun hc22 => ?_)
    · have H := H.1 hc22
      refine W_seq ?_
      refine W_region ?_
      refine LP_ev ok 0 [(4, I ((-1)))] 1 rfl rfl ?_
      refine LP_end _ rfl ?_
      refine W_ret ?_
      have X23 := (X4.stepx x21)
      exact ⟨_, Ret_of [I ((-1))] ⟨⟨rfl, rfl⟩, trivial⟩, _, H, rfl, X23.ext⟩
    have H := H.2 hc22
    refine W_skip ?_
    refine W_region ?_
    refine LP_ev ok 0 [(16, I i), (17, I (wr (i + 1))), (5, I (wr (i + 1)))] 3 rfl rfl ?_
    refine LP_end _ rfl ?_
    have X24 := (X4.stepx x21)
    have ex25 := (ex3.ext x21)
    exact ⟨(r19, wr (i + 1)), ⟨H.1, _, env_eq ⟨rfl, rfl, rfl, trivial⟩, X24, ex25⟩, H.2⟩
  have H := H.2 hc5
  refine W_exit ?_
  refine (if_pos rfl).mpr ?_
  refine W_seq ?_
  refine W_region ?_
  refine LP_ev ok 0 [(26, I left2), (4, I left2)] 2 rfl rfl ?_
  refine LP_end _ rfl ?_
  refine W_ret ?_
  exact ⟨_, Ret_of [I left2] ⟨⟨rfl, rfl⟩, trivial⟩, _, H, rfl, X4.ext⟩

set_option maxRecDepth 8000 in
set_option maxHeartbeats 4000000 in
theorem laws_toVariable_w (a : Variable) (Q : Variable → Prop) (H : laws_toVariable a Q) (w : World)  :
    CallsTo Try.prog 84 #[.agg #[.string a.Name, I a.Levels]] w fun v w' => ∃ r0, Q r0 ∧ v = .agg #[.string r0.Name, I r0.Levels] ∧ Ext w w' := by
  refine enter (args := [.agg #[.string a.Name, I a.Levels]]) 11 Try.func84 rfl rfl rfl ?_
  refine W_forget [(0, .agg #[.string a.Name, I a.Levels])] ⟨rfl, trivial⟩ fun ρ => ?_
  have X := But.refl emp w
  refine W_seq ?_
  refine W_region ?_
  refine LP_box 0 (cs := [.string a.Name, I a.Levels]) rfl rfl rfl rfl rfl fun b wx x ex f => ?_
  refine LP_alloc 1 rfl rfl rfl ti_107 rfl fun b1 wx2 x3 ex4 f5 => ?_
  refine LP_end _ rfl ?_
  refine W_seq ?_
  refine W_region ?_
  refine LP_alloc 0 rfl rfl rfl ti_107 rfl fun b6 wx7 x8 ex9 f10 => ?_
  refine LP_end _ rfl ?_
  refine W_seq ?_
  refine W_region ?_
  refine LP_ev ok 0 [(4, .pointer (some ⟨b, 0, none⟩))] 1 rfl rfl ?_
  have ex11 := ((ex.ext x3).ext x8)
  refine LP_ldbox 1 (v := .string a.Name) rfl rfl rfl ti_9 ag_9 (fun _ => rfl) rfl ex11 rfl rfl ?_
  refine LP_ev ok 2 [(6, .pointer (some ⟨b6, 0, none⟩))] 3 rfl rfl ?_
  refine LP_stbox 3 (vs := [.string a.Name]) (cs' := [.string a.Name, I 0]) rfl rfl rfl ti_9 rfl rfl rfl rfl rfl ex9 rfl rfl fun wx12 ex13 y => ?_
  refine LP_end _ rfl ?_
  refine W_seq ?_
  refine W_region ?_
  refine LP_ev ok 0 [(7, .pointer (some ⟨b, 1, none⟩))] 1 rfl rfl ?_
  have ex14 := (ex.ext x3)
  have ex15 := (ex11.but y (Dj.of_fresh ex14 f10).symm)
  refine LP_ldbox 1 (v := I a.Levels) rfl rfl rfl ti_3 ag_3 (fun _ => rfl) rfl ex15 rfl rfl ?_
  refine LP_ev ok 2 [(9, .pointer (some ⟨b6, 1, none⟩))] 3 rfl rfl ?_
  refine LP_stbox 3 (vs := [I a.Levels]) (cs' := [.string a.Name, I a.Levels]) rfl rfl rfl ti_3 rfl rfl rfl rfl rfl ex13 rfl rfl fun wx16 ex17 y18 => ?_
  refine LP_end _ rfl ?_
  refine W_seq ?_
  refine W_region ?_
  refine LP_ldbox 0 (v := .agg #[.string a.Name, I a.Levels]) rfl rfl rfl ti_107 ag_107 (fun h => by cases h) rfl ex17 rfl rfl ?_
  have ex22 := (((ex4.ext x8).but y (Dj.of_fresh ex4 f10).symm).but y18 (Dj.box (Dj.of_fresh ex4 f10).symm))
  refine LP_stbox 1 (vs := [.string a.Name, I a.Levels]) (cs' := [.string a.Name, I a.Levels]) rfl rfl rfl ti_107 rfl rfl rfl rfl rfl ex22 rfl rfl fun wx19 ex20 y21 => ?_
  refine LP_end _ rfl ?_
  refine W_ret ?_
  have X24 := ((X.stepx x).stepx x3)
  have f23 := f10.mono X24.size
  have X26 := (X.stepx x)
  have f25 := f5.mono X26.size
  have X27 := ((((((X.stepx x).stepx x3).stepx x8).step y (f23.dom _)).step y18 ((Fresh.box f23).dom _)).step y21 (f25.dom _))
  exact ⟨_, Ret_of [.agg #[.string a.Name, I a.Levels]] ⟨⟨_, rfl, rfl, ld_res ti_107 ag_107 (fun h => by cases h) ex20 rfl rfl⟩, trivial⟩, _, H, rfl, X27.ext⟩

set_option maxRecDepth 8000 in
set_option maxHeartbeats 4000000 in
theorem laws_toVariableS_w (a : List Variable) (Q : (List Variable) → Prop) (H : laws_toVariableS a Q) (w : World) {vx : Value} {hx : PH} (r : RS hx vx a) (ex : Sub hx w) :
    CallsTo Try.prog 17 #[vx] w fun v w' => ∃ r0 u0 g0, Q r0 ∧ v = u0 ∧ Ext w w' ∧ OS 107 g0 emp u0 r0 ∧ Sub g0 w' ∧ Fresh w.heap.size g0 := by
  obtain ⟨a1, c, rfl⟩ := r.shape
  refine enter (args := [.slice a1 (List.length a) c]) 23 Try.func17 rfl rfl rfl ?_
  refine W_forget [(0, .slice a1 (List.length a) c)] ⟨rfl, trivial⟩ fun ρ => ?_
  have X := But.refl emp w
  refine W_seq ?_
  refine W_region ?_
  refine LP_ev ok 0 [(2, .slice none 0 0)] 1 rfl rfl ?_
  refine LP_end _ rfl ?_
  refine W_seq ?_
  refine W_region ?_
  refine LP_ev ok 0 [(5, .slice a1 (List.length a) c), (6, I (ln a))] 2 rfl rfl ?_
  obtain ⟨hn, hb, H⟩ := H
  refine LP_make (α := Variable) 2 rfl rfl rfl Try.underlying29 ti_107 (x0 := (Variable.mk ((ByteArray.mk #[])) ((0 : Int)))) rfl rfl hn (by first | omega | (simp only [ln] at *; omega)) (by first | omega | (simp only [ln] at *; omega)) fun hx2 vx3 wx x o ex4 f => ?_
  obtain ⟨a5, c6, rfl⟩ := o.shape
  refine LP_ev ok 3 [(3, .slice a5 (List.length (List.replicate (Int.toNat (ln a)) ((Variable.mk ((ByteArray.mk #[])) ((0 : Int)))))) c6)] 4 rfl rfl ?_
  refine LP_end _ rfl ?_
  refine W_seq ?_
  refine W_seq ?_
  refine W_region ?_
  refine LP_ev ok 0 [(4, I 0)] 1 rfl rfl ?_
  refine LP_end _ rfl ?_
  refine W_block ?_
  have X15 := (X.stepx x)
  have f16 := f.mono X.size
  have ex17 := (ex.ext x)
  obtain ⟨J, m, Hx, H⟩ := H
  refine W_loop (S := (List Variable) × Int) (fun s ρ' w' => J s.1 s.2 ∧ ∃ (ρ : Env) (hx8 : PH), ρ' = setAll [(0, .slice a1 (List.length a) c), (3, .slice a5 (List.length (List.replicate (Int.toNat (ln a)) ((Variable.mk ((ByteArray.mk #[])) ((0 : Int)))))) c6), (4, I s.2)] ρ ∧ But emp w w' ∧ OS 107 hx8 emp (.slice a5 (List.length (List.replicate (Int.toNat (ln a)) ((Variable.mk ((ByteArray.mk #[])) ((0 : Int)))))) c6) s.1 ∧ Sub hx8 w' ∧ Fresh w.heap.size hx8 ∧ Sub hx w' ∧ Dj hx8 hx) (fun s => m s.1 s.2) (List.replicate (Int.toNat (ln a)) ((Variable.mk ((ByteArray.mk #[])) ((0 : Int)))), 0) ⟨Hx, _, hx2, env_eq ⟨rfl, rfl, rfl, trivial⟩, X15, o, ex4, f16, ex17, (Dj.of_fresh ex f).symm⟩ ?_
  rintro ⟨out, i⟩ _ wx12 ⟨Hi, ρ, hx8, rfl, X14, o9, ex10, f11, ex13, d⟩
  have H := H out i Hi
  refine W_seq ?_
  refine W_seq ?_
  refine W_region ?_
  refine LP_ev ok 0 [(8, I i), (9, .slice a1 (List.length a) c), (10, I (ln a)), (11, .bool (decide (i < (ln a))))] 4 rfl rfl ?_
  refine LP_end _ rfl ?_
  refine W_cond (decide (i < (ln a))) rfl (fun hc => ?_) (fun hc => ?_)
  · have H := H.1 hc
    refine W_skip ?_
    refine W_seq ?_
    refine W_block ?_
    refine W_region ?_
    refine LP_ev ok 0 [(14, .slice a5 (List.length (List.replicate (Int.toNat (ln a)) ((Variable.mk ((ByteArray.mk #[])) ((0 : Int)))))) c6), (15, I i), (16, .slice a1 (List.length a) c), (17, I i)] 4 rfl rfl ?_
    obtain ⟨x18, hi, hx19, H⟩ := H
    refine LP_index 4 rfl rfl rfl Try.underlying22 ti_98 rfl rfl r hi hx19 fun a20 cs r21 d22 => ?_
    refine LP_load 5 rfl rfl rfl ti_98 ag_98 rfl r21 d22 ex13 fun vx23 r24 => ?_
    obtain rfl := Variable_rv r24
    refine LP_call 6 rfl rfl rfl cal_84 rfl (laws_toVariable_w _ _ H wx12 ) ?_
    rintro _ wx26 ⟨r25, H, rfl, x27⟩
    obtain ⟨hi28, hl, H⟩ := H
    refine LP_indexw (v := .slice a5 (List.length (List.replicate (Int.toNat (ln a)) ((Variable.mk ((ByteArray.mk #[])) ((0 : Int)))))) c6) 7 rfl rfl rfl Try.underlying29 ti_107 rfl rfl o9 hi28 hl fun a29 wa => ?_
    have ex34 := (ex10.ext x27)
    refine LP_set 8 rfl rfl rfl rfl rfl wa (Le.refl emp) ⟨_, rfl, rfl⟩ ex34 fun hx30 wx31 o32 ex33 y dm => ?_
    refine LP_end _ rfl ?_
    refine W_region ?_
    refine LP_ev ok 0 [(12, I i), (13, I (wr (i + 1))), (4, I (wr (i + 1)))] 3 rfl rfl ?_
    refine LP_end _ rfl ?_
    have X35 := ((X14.stepx x27).step y (f11.dom _))
    have X37 := (X14.stepx x27)
    have f36 := (dm _).fresh f11 X37.size
    have ex38 := ((ex13.ext x27).but y d)
    have ex39 := (ex13.ext x27)
    exact ⟨(List.set out (Int.toNat i) r25, wr (i + 1)), ⟨H.1, _, hx30, env_eq ⟨rfl, rfl, rfl, trivial⟩, X35, o32, ex33, f36, ex38, (DomLe.dj (dm _) d ex39)⟩, H.2⟩
  have H := H.2 hc
  refine W_exit ?_
  refine (if_pos rfl).mpr ?_
  refine W_seq ?_
  refine W_region ?_
  refine LP_ev ok 0 [(22, .slice a5 (List.length (List.replicate (Int.toNat (ln a)) ((Variable.mk ((ByteArray.mk #[])) ((0 : Int)))))) c6), (2, .slice a5 (List.length (List.replicate (Int.toNat (ln a)) ((Variable.mk ((ByteArray.mk #[])) ((0 : Int)))))) c6)] 2 rfl rfl ?_
  refine LP_end _ rfl ?_
  refine W_ret ?_
  exact ⟨_, Ret_of [.slice a5 (List.length (List.replicate (Int.toNat (ln a)) ((Variable.mk ((ByteArray.mk #[])) ((0 : Int)))))) c6] ⟨⟨rfl, rfl⟩, trivial⟩, _, _, _, H, rfl, X14.ext, o9, ex10, f11⟩

set_option maxRecDepth 8000 in
set_option maxHeartbeats 4000000 in
theorem laws_toIntS_w (a : List Int) (Q : (List Int) → Prop) (H : laws_toIntS a Q) (w : World) {vx : Value} {hx : PH} (r : RS hx vx a) (ex : Sub hx w) :
    CallsTo Try.prog 19 #[vx] w fun v w' => ∃ r0 u0 g0, Q r0 ∧ v = u0 ∧ Ext w w' ∧ OS 3 g0 emp u0 r0 ∧ Sub g0 w' ∧ Fresh w.heap.size g0 := by
  obtain ⟨a1, c, rfl⟩ := r.shape
  refine enter (args := [.slice a1 (List.length a) c]) 22 Try.func19 rfl rfl rfl ?_
  refine W_forget [(0, .slice a1 (List.length a) c)] ⟨rfl, trivial⟩ fun ρ => ?_
  have X := But.refl emp w
  refine W_seq ?_
  refine W_region ?_
  refine LP_ev ok 0 [(2, .slice none 0 0)] 1 rfl rfl ?_
  refine LP_end _ rfl ?_
  refine W_seq ?_
  refine W_region ?_
  refine LP_ev ok 0 [(5, .slice a1 (List.length a) c), (6, I (ln a))] 2 rfl rfl ?_
  obtain ⟨hn, hb, H⟩ := H
  refine LP_make (α := Int) 2 rfl rfl rfl Try.underlying24 ti_3 (x0 := (0 : Int)) rfl rfl hn (by first | omega | (simp only [ln] at *; omega)) (by first | omega | (simp only [ln] at *; omega)) fun hx2 vx3 wx x o ex4 f => ?_
  obtain ⟨a5, c6, rfl⟩ := o.shape
  refine LP_ev ok 3 [(3, .slice a5 (List.length (List.replicate (Int.toNat (ln a)) ((0 : Int)))) c6)] 4 rfl rfl ?_
  refine LP_end _ rfl ?_
  refine W_seq ?_
  refine W_seq ?_
  refine W_region ?_
  refine LP_ev ok 0 [(4, I 0)] 1 rfl rfl ?_
  refine LP_end _ rfl ?_
  refine W_block ?_
  have X15 := (X.stepx x)
  have f16 := f.mono X.size
  have ex17 := (ex.ext x)
  obtain ⟨J, m, Hx, H⟩ := H
  refine W_loop (S := (List Int) × Int) (fun s ρ' w' => J s.1 s.2 ∧ ∃ (ρ : Env) (hx8 : PH), ρ' = setAll [(0, .slice a1 (List.length a) c), (3, .slice a5 (List.length (List.replicate (Int.toNat (ln a)) ((0 : Int)))) c6), (4, I s.2)] ρ ∧ But emp w w' ∧ OS 3 hx8 emp (.slice a5 (List.length (List.replicate (Int.toNat (ln a)) ((0 : Int)))) c6) s.1 ∧ Sub hx8 w' ∧ Fresh w.heap.size hx8 ∧ Sub hx w' ∧ Dj hx8 hx) (fun s => m s.1 s.2) (List.replicate (Int.toNat (ln a)) ((0 : Int)), 0) ⟨Hx, _, hx2, env_eq ⟨rfl, rfl, rfl, trivial⟩, X15, o, ex4, f16, ex17, (Dj.of_fresh ex f).symm⟩ ?_
  rintro ⟨out, i⟩ _ wx12 ⟨Hi, ρ, hx8, rfl, X14, o9, ex10, f11, ex13, d⟩
  have H := H out i Hi
  refine W_seq ?_
  refine W_seq ?_
  refine W_region ?_
  refine LP_ev ok 0 [(8, I i), (9, .slice a1 (List.length a) c), (10, I (ln a)), (11, .bool (decide (i < (ln a))))] 4 rfl rfl ?_
  refine LP_end _ rfl ?_
  refine W_cond (decide (i < (ln a))) rfl (fun hc => ?_) (fun hc => ?_)
  · have H := H.1 hc
    refine W_skip ?_
    refine W_seq ?_
    refine W_block ?_
    refine W_region ?_
    refine LP_ev ok 0 [(14, .slice a5 (List.length (List.replicate (Int.toNat (ln a)) ((0 : Int)))) c6), (15, I i), (16, .slice a1 (List.length a) c), (17, I i)] 4 rfl rfl ?_
    obtain ⟨x18, hi, hx19, H⟩ := H
    refine LP_index 4 rfl rfl rfl Try.underlying24 ti_3 rfl rfl r hi hx19 fun a20 cs r21 d22 => ?_
    refine LP_load 5 rfl rfl rfl ti_3 ag_3 rfl r21 d22 ex13 fun vx23 r24 => ?_
    obtain rfl := r24.int
    obtain ⟨hi25, hl, H⟩ := H
    refine LP_indexw (v := .slice a5 (List.length (List.replicate (Int.toNat (ln a)) ((0 : Int)))) c6) 6 rfl rfl rfl Try.underlying24 ti_3 rfl rfl o9 hi25 hl fun a26 wa => ?_
    refine LP_set 7 rfl rfl rfl rfl rfl wa (Le.refl emp) ⟨_, rfl, rfl⟩ ex10 fun hx27 wx28 o29 ex30 y dm => ?_
    refine LP_end _ rfl ?_
    refine W_region ?_
    refine LP_ev ok 0 [(12, I i), (13, I (wr (i + 1))), (4, I (wr (i + 1)))] 3 rfl rfl ?_
    refine LP_end _ rfl ?_
    have X31 := (X14.step y (f11.dom _))
    have f32 := (dm _).fresh f11 X14.size
    have ex33 := (ex13.but y d)
    exact ⟨(List.set out (Int.toNat i) x18, wr (i + 1)), ⟨H.1, _, hx27, env_eq ⟨rfl, rfl, rfl, trivial⟩, X31, o29, ex30, f32, ex33, (DomLe.dj (dm _) d ex13)⟩, H.2⟩
  have H := H.2 hc
  refine W_exit ?_
  refine (if_pos rfl).mpr ?_
  refine W_seq ?_
  refine W_region ?_
  refine LP_ev ok 0 [(21, .slice a5 (List.length (List.replicate (Int.toNat (ln a)) ((0 : Int)))) c6), (2, .slice a5 (List.length (List.replicate (Int.toNat (ln a)) ((0 : Int)))) c6)] 2 rfl rfl ?_
  refine LP_end _ rfl ?_
  refine W_ret ?_
  exact ⟨_, Ret_of [.slice a5 (List.length (List.replicate (Int.toNat (ln a)) ((0 : Int)))) c6] ⟨⟨rfl, rfl⟩, trivial⟩, _, _, _, H, rfl, X14.ext, o9, ex10, f11⟩

set_option maxRecDepth 8000 in
set_option maxHeartbeats 4000000 in
theorem laws_toEdit_w (a : Edit) (Q : Edit → Prop) (H : laws_toEdit a Q) (w : World) {vx : Value} {hx : PH} (r : RS hx vx a.Sets) (ex : Sub hx w) :
    CallsTo Try.prog 85 #[.agg #[vx]] w fun v w' => ∃ r0 u0_0 g0_0, Q r0 ∧ v = .agg #[u0_0] ∧ Ext w w' ∧ OS 3 g0_0 emp u0_0 r0.Sets ∧ Sub g0_0 w' ∧ Fresh w.heap.size g0_0 := by
  obtain ⟨a1, c, rfl⟩ := r.shape
  refine enter (args := [.agg #[.slice a1 (List.length a.Sets) c]]) 9 Try.func85 rfl rfl rfl ?_
  refine W_forget [(0, .agg #[.slice a1 (List.length a.Sets) c])] ⟨rfl, trivial⟩ fun ρ => ?_
  have X := But.refl emp w
  refine W_seq ?_
  refine W_region ?_
  refine LP_box 0 (cs := [.slice a1 (List.length a.Sets) c]) rfl rfl rfl rfl rfl fun b wx x ex2 f => ?_
  refine LP_alloc 1 rfl rfl rfl ti_50 rfl fun b3 wx4 x5 ex6 f7 => ?_
  refine LP_end _ rfl ?_
  refine W_seq ?_
  refine W_region ?_
  refine LP_alloc 0 rfl rfl rfl ti_50 rfl fun b8 wx9 x10 ex11 f12 => ?_
  refine LP_end _ rfl ?_
  refine W_seq ?_
  refine W_region ?_
  refine LP_ev ok 0 [(4, .pointer (some ⟨b, 0, none⟩))] 1 rfl rfl ?_
  have ex13 := ((ex2.ext x5).ext x10)
  refine LP_ldbox 1 (v := .slice a1 (List.length a.Sets) c) rfl rfl rfl ti_24 ag_24 (fun _ => rfl) rfl ex13 rfl rfl ?_
  have ex15 := (((ex.ext x).ext x5).ext x10)
  refine LP_call 2 rfl rfl rfl cal_19 rfl (laws_toIntS_w _ _ H wx9 r ex15) ?_
  rintro _ wx16 ⟨r14, vx18, hx19, H, rfl, x17, o, ex20, f21⟩
  obtain ⟨a22, c23, rfl⟩ := o.shape
  refine LP_ev ok 3 [(7, .pointer (some ⟨b8, 0, none⟩))] 4 rfl rfl ?_
  have ex26 := (ex11.ext x17)
  refine LP_stbox 4 (vs := [.slice a22 (List.length r14) c23]) (cs' := [.slice a22 (List.length r14) c23]) rfl rfl rfl ti_24 rfl rfl rfl rfl rfl ex26 rfl rfl fun wx24 ex25 y => ?_
  refine LP_end _ rfl ?_
  refine W_seq ?_
  refine W_region ?_
  refine LP_ldbox 0 (v := .agg #[.slice a22 (List.length r14) c23]) rfl rfl rfl ti_50 ag_50 (fun h => by cases h) rfl ex25 rfl rfl ?_
  have ex30 := (((ex6.ext x10).ext x17).but y (Dj.of_fresh ex6 f12).symm)
  refine LP_stbox 1 (vs := [.slice a22 (List.length r14) c23]) (cs' := [.slice a22 (List.length r14) c23]) rfl rfl rfl ti_50 rfl rfl rfl rfl rfl ex30 rfl rfl fun wx27 ex28 y29 => ?_
  refine LP_end _ rfl ?_
  refine W_ret ?_
  have ex31 := (ex6.ext x10)
  have ex32 := ((ex20.but y (Dj.of_fresh ex11 f21)).but y29 (Dj.of_fresh ex31 f21))
  have X34 := (((X.stepx x).stepx x5).stepx x10)
  have f33 := f21.mono X34.size
  have X36 := ((X.stepx x).stepx x5)
  have f35 := f12.mono X36.size
  have X38 := (X.stepx x)
  have f37 := f7.mono X38.size
  have X39 := (((X34.stepx x17).step y (f35.dom _)).step y29 (f37.dom _))
  exact ⟨_, Ret_of [.agg #[.slice a22 (List.length r14) c23]] ⟨⟨_, rfl, rfl, ld_res ti_50 ag_50 (fun h => by cases h) ex28 rfl rfl⟩, trivial⟩, _, _, _, H, rfl, X39.ext, o, ex32, f33⟩

set_option maxRecDepth 8000 in
set_option maxHeartbeats 4000000 in
theorem laws_toEditS_w (a : List Edit) (Q : (List Edit) → Prop) (H : laws_toEditS a Q) (w : World) {vx : Value} {hx : PH} (r : RS hx vx a) (ex : Sub hx w) :
    CallsTo Try.prog 18 #[vx] w fun v w' => ∃ r0 u0 g0, Q r0 ∧ v = u0 ∧ Ext w w' ∧ OD g0 u0 r0 ∧ Sub g0 w' ∧ Fresh w.heap.size g0 := by
  obtain ⟨a1, c, rfl⟩ := r.shape
  refine enter (args := [.slice a1 (List.length a) c]) 23 Try.func18 rfl rfl rfl ?_
  refine W_forget [(0, .slice a1 (List.length a) c)] ⟨rfl, trivial⟩ fun ρ => ?_
  have X := But.refl emp w
  refine W_seq ?_
  refine W_region ?_
  refine LP_ev ok 0 [(2, .slice none 0 0)] 1 rfl rfl ?_
  refine LP_end _ rfl ?_
  refine W_seq ?_
  refine W_region ?_
  refine LP_ev ok 0 [(5, .slice a1 (List.length a) c), (6, I (ln a))] 2 rfl rfl ?_
  obtain ⟨hn, hb, H⟩ := H
  refine LP_makeD (α := Edit) 2 rfl rfl rfl Try.underlying31 ti_50 (x0 := (Edit.mk (([] : List Int)))) rfl ⟨_, rfl, (OD.nil (α := Int))⟩ hn (by first | omega | (simp only [ln] at *; omega)) (by first | omega | (simp only [ln] at *; omega)) fun hx2 vx3 wx x o ex4 f => ?_
  obtain ⟨a5, c6, rfl⟩ := o.shape
  refine LP_ev ok 3 [(3, .slice a5 (List.length (List.replicate (Int.toNat (ln a)) ((Edit.mk (([] : List Int)))))) c6)] 4 rfl rfl ?_
  refine LP_end _ rfl ?_
  refine W_seq ?_
  refine W_seq ?_
  refine W_region ?_
  refine LP_ev ok 0 [(4, I 0)] 1 rfl rfl ?_
  refine LP_end _ rfl ?_
  refine W_block ?_
  have X15 := (X.stepx x)
  have f16 := f.mono X.size
  have ex17 := (ex.ext x)
  obtain ⟨J, m, Hx, H⟩ := H
  refine W_loop (S := (List Edit) × Int) (fun s ρ' w' => J s.1 s.2 ∧ ∃ (ρ : Env) (hx8 : PH), ρ' = setAll [(0, .slice a1 (List.length a) c), (3, .slice a5 (List.length (List.replicate (Int.toNat (ln a)) ((Edit.mk (([] : List Int)))))) c6), (4, I s.2)] ρ ∧ But emp w w' ∧ OD hx8 (.slice a5 (List.length (List.replicate (Int.toNat (ln a)) ((Edit.mk (([] : List Int)))))) c6) s.1 ∧ Sub hx8 w' ∧ Fresh w.heap.size hx8 ∧ Sub hx w' ∧ Dj hx8 hx) (fun s => m s.1 s.2) (List.replicate (Int.toNat (ln a)) ((Edit.mk (([] : List Int)))), 0) ⟨Hx, _, hx2, env_eq ⟨rfl, rfl, rfl, trivial⟩, X15, o, ex4, f16, ex17, (Dj.of_fresh ex f).symm⟩ ?_
  rintro ⟨out, i⟩ _ wx12 ⟨Hi, ρ, hx8, rfl, X14, o9, ex10, f11, ex13, d⟩
  have H := H out i Hi
  refine W_seq ?_
  refine W_seq ?_
  refine W_region ?_
  refine LP_ev ok 0 [(8, I i), (9, .slice a1 (List.length a) c), (10, I (ln a)), (11, .bool (decide (i < (ln a))))] 4 rfl rfl ?_
  refine LP_end _ rfl ?_
  refine W_cond (decide (i < (ln a))) rfl (fun hc => ?_) (fun hc => ?_)
  · have H := H.1 hc
    refine W_skip ?_
    refine W_seq ?_
    refine W_block ?_
    refine W_region ?_
    refine LP_ev ok 0 [(14, .slice a5 (List.length (List.replicate (Int.toNat (ln a)) ((Edit.mk (([] : List Int)))))) c6), (15, I i), (16, .slice a1 (List.length a) c), (17, I i)] 4 rfl rfl ?_
    obtain ⟨x18, hi, hx19, H⟩ := H
    refine LP_index 4 rfl rfl rfl Try.underlying23 ti_100 rfl rfl r hi hx19 fun a20 cs r21 d22 => ?_
    have d23 := d22
    obtain ⟨u, rfl, r24⟩ := Edit_rd d23
    obtain ⟨a25, c26, rfl⟩ := r24.shape
    refine LP_load 5 rfl rfl rfl ti_100 ag_100 rfl r21 d22 ex13 fun vx27 r28 => ?_
    obtain ⟨u29, rfl, r30⟩ := Edit_rv r28
    obtain ⟨a31, c32, rfl⟩ := r30.shape
    refine LP_call 6 rfl rfl rfl cal_85 rfl (laws_toEdit_w _ _ H wx12 r30 ex13) ?_
    rintro _ wx34 ⟨r33, vx36, hx37, H, rfl, x35, o38, ex39, f40⟩
    obtain ⟨a41, c42, rfl⟩ := o38.shape
    obtain ⟨hi43, hl, H⟩ := H
    refine LP_indexd (v := .slice a5 (List.length (List.replicate (Int.toNat (ln a)) ((Edit.mk (([] : List Int)))))) c6) 7 rfl rfl rfl Try.underlying31 ti_50 rfl rfl o9 hi43 hl fun a44 wa => ?_
    have rv : RVO hx37 (.agg #[.slice a41 (List.length r33.Sets) c42]) ((Edit.mk r33.Sets) : Edit) := ⟨_, ⟨_, rfl, (OS.od o38)⟩, rfl⟩
    have ex50 := (ex10.ext x35)
    refine LP_setD (y := ((Edit.mk r33.Sets) : Edit)) 8 rfl rfl rfl rfl rfl wa rv ex50 ex39 (Dj.of_fresh ex10 f40) fun hx45 hw wx46 o47 ex48 y dh dq ex49 => ?_
    refine LP_end _ rfl ?_
    refine W_region ?_
    refine LP_ev ok 0 [(12, I i), (13, I (wr (i + 1))), (4, I (wr (i + 1)))] 3 rfl rfl ?_
    refine LP_end _ rfl ?_
    have X51 := ((X14.stepx x35).step (But.dom y dh) (f11.dom _))
    have f52 := f40.mono X14.size
    have f53 := Fresh.domOf (Fresh.un f11 f52) dq
    have ex54 := ((ex13.ext x35).but (But.dom y dh) d)
    exact ⟨(List.set out (Int.toNat i) (((Edit.mk r33.Sets) : Edit)), wr (i + 1)), ⟨H.1, _, hx45, env_eq ⟨rfl, rfl, rfl, trivial⟩, X51, o47, ex48, f53, ex54, (Dom.dj dq (Dj.un_l d (Dj.of_fresh ex13 f40).symm))⟩, H.2⟩
  have H := H.2 hc
  refine W_exit ?_
  refine (if_pos rfl).mpr ?_
  refine W_seq ?_
  refine W_region ?_
  refine LP_ev ok 0 [(22, .slice a5 (List.length (List.replicate (Int.toNat (ln a)) ((Edit.mk (([] : List Int)))))) c6), (2, .slice a5 (List.length (List.replicate (Int.toNat (ln a)) ((Edit.mk (([] : List Int)))))) c6)] 2 rfl rfl ?_
  refine LP_end _ rfl ?_
  refine W_ret ?_
  exact ⟨_, Ret_of [.slice a5 (List.length (List.replicate (Int.toNat (ln a)) ((Edit.mk (([] : List Int)))))) c6] ⟨⟨rfl, rfl⟩, trivial⟩, _, _, _, H, rfl, X14.ext, o9, ex10, f11⟩

set_option maxRecDepth 8000 in
set_option maxHeartbeats 4000000 in
theorem spec_l1In_w (n : Int) (lo : Int) (hi : Int) (Q : Bool → Prop) (H : spec_l1In n lo hi Q) (w : World)  :
    CallsTo Try.prog 94 #[I n, I lo, I hi] w fun v w' => ∃ r0, Q r0 ∧ v = .bool r0 ∧ Ext w w' := by
  refine enter (args := [I n, I lo, I hi]) 15 Try.func94 rfl rfl rfl ?_
  refine W_forget [(0, I n), (1, I lo), (2, I hi)] ⟨rfl, rfl, rfl, trivial⟩ fun ρ => ?_
  have X := But.refl emp w
  refine W_seq ?_
  refine W_region ?_
  refine LP_ev ok 0 [(6, .bool false)] 1 rfl rfl ?_
  refine LP_end _ rfl ?_
  obtain ⟨k, hk, H⟩ := jn_elim H
  refine W_join2 (S := Bool) (fun s ρ' w' => k s ∧ ∃ (ρ : Env), ρ' = setAll [(6, .bool s)] ρ ∧ w = w') ?_ ?_
  · refine W_region ?_
    refine LP_ev ok 0 [(7, I n), (8, I lo), (9, .bool (decide (n ≥ lo))), (10, .bool (decide (n ≥ lo)))] 4 rfl rfl ?_
    refine LP_split 10 (decide (n ≥ lo)) rfl (fun hc => ?_) (fun hc => ?_)
    · have H := H.1 hc
      refine LP_ev ok 4 [(11, I n), (12, I hi), (13, .bool (decide (n ≤ hi))), (14, .bool (decide (n ≤ hi))), (6, .bool (decide (n ≤ hi)))] 9 rfl rfl ?_
      refine LP_end _ rfl ?_
      exact ⟨decide (n ≤ hi), H, _, env_eq ⟨rfl, trivial⟩, rfl⟩
    have H := H.2 hc
    refine LP_ev ok 4 [(11, undef), (12, undef), (13, undef), (14, .bool false), (6, .bool false)] 9 rfl rfl ?_
    refine LP_end _ rfl ?_
    exact ⟨false, H, _, env_eq ⟨rfl, trivial⟩, rfl⟩
  rintro x _ _ ⟨H, ρ, rfl, rfl⟩
  subst hk
  refine W_ret ?_
  exact ⟨_, Ret_of [.bool x] ⟨⟨rfl, rfl⟩, trivial⟩, _, H, rfl, X.ext⟩

set_option maxRecDepth 8000 in
set_option maxHeartbeats 4000000 in
theorem spec_sName_w (sx : ByteArray) (Q : Bool → Prop) (H : spec_sName sx Q) (w : World)  :
    CallsTo Try.prog 223 #[.string sx] w fun v w' => ∃ r0, Q r0 ∧ v = .bool r0 ∧ Ext w w' := by
  refine enter (args := [.string sx]) 23 Try.func223 rfl rfl rfl ?_
  refine W_forget [(0, .string sx)] ⟨rfl, trivial⟩ fun ρ => ?_
  have X := But.refl emp w
  refine W_seq ?_
  refine W_region ?_
  refine LP_ev ok 0 [(2, .bool false)] 1 rfl rfl ?_
  refine LP_end _ rfl ?_
  refine W_seq ?_
  refine W_seq ?_
  refine W_region ?_
  refine LP_ev ok 0 [(3, I 0)] 1 rfl rfl ?_
  refine LP_end _ rfl ?_
  refine W_block ?_
  obtain ⟨J, m, Hx, H⟩ := H
  refine W_loop (S := Int) (fun s ρ' w' => J s ∧ ∃ (ρ : Env), ρ' = setAll [(0, .string sx), (3, I s)] ρ ∧ w = w') (fun s => m s) 0 ⟨Hx, _, env_eq ⟨rfl, rfl, trivial⟩, rfl⟩ ?_
  rintro i _ _ ⟨Hi, ρ, rfl, rfl⟩
  have H := H i Hi
  refine W_seq ?_
  refine W_seq ?_
  refine W_region ?_
  refine LP_ev ok 0 [(4, I i), (5, .string sx), (6, I (sln sx)), (7, .bool (decide (i < (sln sx))))] 4 rfl rfl ?_
  refine LP_end _ rfl ?_
  refine W_cond (decide (i < (sln sx))) rfl (fun hc => ?_) (fun hc => ?_)
  · have H := H.1 hc
    refine W_skip ?_
    refine W_seq ?_
    refine W_block ?_
    obtain ⟨k, hk, H⟩ := jn_elim H
    refine W_join2 (S := Bool) (fun s ρ' w' => k s ∧ ∃ (ρ : Env), ρ' = setAll [(0, .string sx), (3, I i), (19, .bool s)] ρ ∧ w = w') ?_ ?_
    · refine W_region ?_
      refine LP_ev ok 0 [(10, .string sx), (11, I i)] 2 rfl rfl ?_
      obtain ⟨c, hi, hx, H⟩ := H
      refine LP_val 2 _ rfl rfl (ex_sidx rfl rfl rfl Try.underlying9 hi hx _) ?_
      refine LP_ev ok 3 [(13, .bool (decide ((((UInt8.toNat c : Nat) : Int)) < 97))), (14, .bool (decide ((((UInt8.toNat c : Nat) : Int)) < 97)))] 5 rfl rfl ?_
      refine LP_split 14 (decide ((((UInt8.toNat c : Nat) : Int)) < 97)) rfl (fun hc2 => ?_) (fun hc2 => ?_)
      · have H := H.1 hc2
        refine LP_ev ok 5 [(15, undef), (16, undef), (17, undef), (18, undef), (19, .bool true)] 10 rfl rfl ?_
        refine LP_end _ rfl ?_
        exact ⟨true, H, _, env_eq ⟨rfl, rfl, rfl, trivial⟩, rfl⟩
      have H := H.2 hc2
      refine LP_ev ok 5 [(15, .string sx), (16, I i)] 7 rfl rfl ?_
      obtain ⟨c3, hi4, hx5, H⟩ := H
      refine LP_val 7 _ rfl rfl (ex_sidx rfl rfl rfl Try.underlying9 hi4 hx5 _) ?_
      refine LP_ev ok 8 [(18, .bool (decide ((((UInt8.toNat c3 : Nat) : Int)) > 122))), (19, .bool (decide ((((UInt8.toNat c3 : Nat) : Int)) > 122)))] 10 rfl rfl ?_
      refine LP_end _ rfl ?_
      exact ⟨decide ((((UInt8.toNat c3 : Nat) : Int)) > 122), H, _, env_eq ⟨rfl, rfl, rfl, trivial⟩, rfl⟩
    rintro x _ _ ⟨H, ρ, rfl, rfl⟩
    subst hk
    refine W_cond (x) rfl (fun hc6 => ?_) (fun hc6 => ?_)
    · have H := H.1 hc6
      refine W_seq ?_
      refine W_region ?_
      refine LP_ev ok 0 [(2, .bool false)] 1 rfl rfl ?_
      refine LP_end _ rfl ?_
      refine W_ret ?_
      exact ⟨_, Ret_of [.bool false] ⟨⟨rfl, rfl⟩, trivial⟩, _, H, rfl, X.ext⟩
    have H := H.2 hc6
    refine W_skip ?_
    refine W_region ?_
    refine LP_ev ok 0 [(8, I i), (9, I (wr (i + 1))), (3, I (wr (i + 1)))] 3 rfl rfl ?_
    refine LP_end _ rfl ?_
    exact ⟨wr (i + 1), ⟨H.1, _, env_eq ⟨rfl, rfl, trivial⟩, rfl⟩, H.2⟩
  have H := H.2 hc
  refine W_exit ?_
  refine (if_pos rfl).mpr ?_
  refine W_seq ?_
  refine W_region ?_
  refine LP_ev ok 0 [(20, .string sx), (21, I (sln sx))] 2 rfl rfl ?_
  refine LP_call 2 rfl rfl rfl cal_94 rfl (spec_l1In_w _ _ _ _ H w ) ?_
  rintro _ wx7 ⟨r, H, rfl, x8⟩
  refine LP_ev ok 3 [(2, .bool r)] 4 rfl rfl ?_
  refine LP_end _ rfl ?_
  refine W_ret ?_
  have X9 := (X.stepx x8)
  exact ⟨_, Ret_of [.bool r] ⟨⟨rfl, rfl⟩, trivial⟩, _, H, rfl, X9.ext⟩

set_option maxRecDepth 8000 in
set_option maxHeartbeats 4000000 in
theorem spec_sFind_w (sx : List Variable) (name : ByteArray) (Q : Int → Prop) (H : spec_sFind sx name Q) (w : World) {vx : Value} {hx : PH} (r : RS hx vx sx) (ex : Sub hx w) :
    CallsTo Try.prog 224 #[vx, .string name] w fun v w' => ∃ r0, Q r0 ∧ v = I r0 ∧ Ext w w' := by
  obtain ⟨a, c, rfl⟩ := r.shape
  refine enter (args := [.slice a (List.length sx) c, .string name]) 20 Try.func224 rfl rfl rfl ?_
  refine W_forget [(0, .slice a (List.length sx) c), (1, .string name)] ⟨rfl, rfl, trivial⟩ fun ρ => ?_
  have X := But.refl emp w
  refine W_seq ?_
  refine W_region ?_
  refine LP_ev ok 0 [(4, I 0)] 1 rfl rfl ?_
  refine LP_end _ rfl ?_
  refine W_seq ?_
  refine W_seq ?_
  refine W_region ?_
  refine LP_ev ok 0 [(7, .slice a (List.length sx) c), (8, I (ln sx)), (9, I 0)] 3 rfl rfl ?_
  refine LP_end _ rfl ?_
  refine W_block ?_
  obtain ⟨J, m, Hx, H⟩ := H
  refine W_loop (S := Int) (fun s ρ' w' => J s ∧ ∃ (ρ : Env), ρ' = setAll [(1, .string name), (7, .slice a (List.length sx) c), (8, I (ln sx)), (9, I s)] ρ ∧ But emp w w' ∧ Sub hx w') (fun s => m s) 0 ⟨Hx, _, env_eq ⟨rfl, rfl, rfl, rfl, trivial⟩, X, ex⟩ ?_
  rintro x _ wx ⟨Hi, ρ, rfl, X2, ex1⟩
  have H := H x Hi
  refine W_seq ?_
  refine W_region ?_
  refine LP_ev ok 0 [(10, .bool (decide (x < (ln sx))))] 1 rfl rfl ?_
  refine LP_end _ rfl ?_
  refine W_seq ?_
  refine W_cond (decide (x < (ln sx))) rfl (fun hc => ?_) (fun hc => ?_)
  · have H := H.1 hc
    refine W_skip ?_
    refine W_seq ?_
    refine W_block ?_
    refine W_seq ?_
    refine W_region ?_
    refine LP_ev ok 0 [(11, I x)] 1 rfl rfl ?_
    obtain ⟨x3, hi, hx4, H⟩ := H
    refine LP_index 1 rfl rfl rfl Try.underlying29 ti_107 rfl rfl r hi hx4 fun a5 cs r6 d => ?_
    refine LP_load 2 rfl rfl rfl ti_107 ag_107 rfl r6 d ex1 fun vx7 r8 => ?_
    obtain rfl := Variable_rv r8
    refine LP_alloc 3 rfl rfl rfl ti_107 rfl fun b wx9 x10 ex11 f => ?_
    refine LP_ev ok 4 [(5, I x)] 5 rfl rfl ?_
    refine LP_stbox 5 (vs := [.string x3.Name, I x3.Levels]) (cs' := [.string x3.Name, I x3.Levels]) rfl rfl rfl ti_107 rfl rfl rfl rfl rfl ex11 rfl rfl fun wx12 ex13 y => ?_
    refine LP_end _ rfl ?_
    refine W_seq ?_
    refine W_region ?_
    refine LP_ev ok 0 [(14, .pointer (some ⟨b, 0, none⟩))] 1 rfl rfl ?_
    refine LP_ldbox 1 (v := .string x3.Name) rfl rfl rfl ti_9 ag_9 (fun _ => rfl) rfl ex13 rfl rfl ?_
    refine LP_ev ok 2 [(16, .string name), (17, .bool (streq x3.Name name))] 4 rfl rfl ?_
    refine LP_end _ rfl ?_
    refine W_cond (streq x3.Name name) rfl (fun hc14 => ?_) (fun hc14 => ?_)
    · have H := H.1 hc14
      refine W_seq ?_
      refine W_region ?_
      refine LP_ev ok 0 [(18, I x), (4, I x)] 2 rfl rfl ?_
      refine LP_end _ rfl ?_
      refine W_ret ?_
      have f15 := f.mono X2.size
      have X16 := ((X2.stepx x10).step y (f15.dom _))
      exact ⟨_, Ret_of [I x] ⟨⟨rfl, rfl⟩, trivial⟩, _, H, rfl, X16.ext⟩
    have H := H.2 hc14
    refine W_skip ?_
    refine W_region ?_
    refine LP_ev ok 0 [(19, I (wr (x + 1))), (9, I (wr (x + 1)))] 2 rfl rfl ?_
    refine LP_end _ rfl ?_
    have f17 := f.mono X2.size
    have X18 := ((X2.stepx x10).step y (f17.dom _))
    have ex19 := ((ex1.ext x10).but y (Dj.of_fresh ex1 f).symm)
    exact ⟨wr (x + 1), ⟨H.1, _, env_eq ⟨rfl, rfl, rfl, rfl, trivial⟩, X18, ex19⟩, H.2⟩
  have H := H.2 hc
  refine W_exit ?_
  refine (if_pos rfl).mpr ?_
  refine W_seq ?_
  refine W_region ?_
  refine LP_ev ok 0 [(4, I ((-1)))] 1 rfl rfl ?_
  refine LP_end _ rfl ?_
  refine W_ret ?_
  exact ⟨_, Ret_of [I ((-1))] ⟨⟨rfl, rfl⟩, trivial⟩, _, H, rfl, X2.ext⟩

set_option maxRecDepth 8000 in
set_option maxHeartbeats 4000000 in
theorem spec_sGood_w (sx : List Variable) (Q : Bool → Prop) (H : spec_sGood sx Q) (w : World) {vx : Value} {hx : PH} (r : RS hx vx sx) (ex : Sub hx w) :
    CallsTo Try.prog 175 #[vx] w fun v w' => ∃ r0, Q r0 ∧ v = .bool r0 ∧ Ext w w' := by
  obtain ⟨a, c, rfl⟩ := r.shape
  refine enter (args := [.slice a (List.length sx) c]) 36 Try.func175 rfl rfl rfl ?_
  refine W_forget [(0, .slice a (List.length sx) c)] ⟨rfl, trivial⟩ fun ρ => ?_
  have X := But.refl emp w
  refine W_seq ?_
  refine W_region ?_
  refine LP_ev ok 0 [(2, .bool false)] 1 rfl rfl ?_
  refine LP_end _ rfl ?_
  refine W_seq ?_
  refine W_seq ?_
  refine W_region ?_
  refine LP_ev ok 0 [(5, .slice a (List.length sx) c), (6, I (ln sx))] 2 rfl rfl ?_
  refine LP_call 2 rfl rfl rfl cal_94 rfl (spec_l1In_w _ _ _ _ H w ) ?_
  rintro _ wx ⟨r1, H, rfl, x⟩
  refine LP_ev ok 3 [(8, .bool (!r1))] 4 rfl rfl ?_
  refine LP_end _ rfl ?_
  refine W_cond (!r1) rfl (fun hc => ?_) (fun hc => ?_)
  · have H := H.1 hc
    refine W_seq ?_
    refine W_region ?_
    refine LP_ev ok 0 [(2, .bool false)] 1 rfl rfl ?_
    refine LP_end _ rfl ?_
    refine W_ret ?_
    have X2 := (X.stepx x)
    exact ⟨_, Ret_of [.bool false] ⟨⟨rfl, rfl⟩, trivial⟩, _, H, rfl, X2.ext⟩
  have H := H.2 hc
  refine W_skip ?_
  refine W_seq ?_
  refine W_seq ?_
  refine W_region ?_
  refine LP_ev ok 0 [(9, .slice a (List.length sx) c), (10, I (ln sx)), (11, I 0)] 3 rfl rfl ?_
  refine LP_end _ rfl ?_
  refine W_block ?_
  have X7 := (X.stepx x)
  have ex8 := (ex.ext x)
  obtain ⟨J, m, Hx, H⟩ := H
  refine W_loop (S := Int) (fun s ρ' w' => J s ∧ ∃ (ρ : Env), ρ' = setAll [(0, .slice a (List.length sx) c), (9, .slice a (List.length sx) c), (10, I (ln sx)), (11, I s)] ρ ∧ But emp w w' ∧ Sub hx w') (fun s => m s) 0 ⟨Hx, _, env_eq ⟨rfl, rfl, rfl, rfl, trivial⟩, X7, ex8⟩ ?_
  rintro x3 _ wx4 ⟨Hi, ρ, rfl, X6, ex5⟩
  have H := H x3 Hi
  refine W_seq ?_
  refine W_region ?_
  refine LP_ev ok 0 [(12, .bool (decide (x3 < (ln sx))))] 1 rfl rfl ?_
  refine LP_end _ rfl ?_
  refine W_seq ?_
  refine W_cond (decide (x3 < (ln sx))) rfl (fun hc9 => ?_) (fun hc9 => ?_)
  · have H := H.1 hc9
    refine W_skip ?_
    refine W_seq ?_
    refine W_block ?_
    refine W_seq ?_
    refine W_region ?_
    refine LP_ev ok 0 [(13, I x3)] 1 rfl rfl ?_
    obtain ⟨x10, hi, hx11, H⟩ := H
    refine LP_index 1 rfl rfl rfl Try.underlying29 ti_107 rfl rfl r hi hx11 fun a12 cs r13 d => ?_
    refine LP_load 2 rfl rfl rfl ti_107 ag_107 rfl r13 d ex5 fun vx14 r15 => ?_
    obtain rfl := Variable_rv r15
    refine LP_alloc 3 rfl rfl rfl ti_107 rfl fun b wx16 x17 ex18 f => ?_
    refine LP_ev ok 4 [(3, I x3)] 5 rfl rfl ?_
    refine LP_stbox 5 (vs := [.string x10.Name, I x10.Levels]) (cs' := [.string x10.Name, I x10.Levels]) rfl rfl rfl ti_107 rfl rfl rfl rfl rfl ex18 rfl rfl fun wx19 ex20 y => ?_
    refine LP_end _ rfl ?_
    obtain ⟨k, hk, H⟩ := jn_elim H
    refine W_join2 (S := Bool) (fun s ρ' w' => k s ∧ ∃ (ρ : Env), ρ' = setAll [(0, .slice a (List.length sx) c), (9, .slice a (List.length sx) c), (10, I (ln sx)), (11, I x3), (34, .bool s)] ρ ∧ But emp w w' ∧ Sub hx w') ?_ ?_
    · refine W_quiet mix (by kernel_rfl) ?_
      refine QP_ev ok 0 [(16, .pointer (some ⟨b, 0, none⟩))] 1 rfl rfl ?_
      refine QP_ldbox 1 (v := .string x10.Name) rfl rfl rfl ti_9 ag_9 (fun _ => rfl) rfl ex20 rfl rfl ?_
      obtain ⟨r25, Hd, H⟩ := H
      refine QP_call (.bool r25) 2 rfl rfl rfl cal_223 rfl (fun wx26 x27 => (spec_sName_w _ _ Hd wx26 ).mono ?_) ?_
      · rintro _ _ ⟨_, rfl, rfl, x⟩; exact ⟨rfl, x⟩
      refine QP_ev ok 3 [(19, .bool (!r25)), (20, .bool (!r25))] 5 rfl rfl ?_
      refine QP_split 20 (!r25) rfl (fun hc28 => ?_) (fun hc28 => ?_)
      · have H := H.1 hc28
        refine QP_ev ok 5 [(21, undef), (22, undef), (23, undef), (24, undef), (25, .bool true), (26, .bool true), (27, undef), (28, undef), (29, undef), (30, undef), (31, undef), (32, undef), (33, undef), (34, .bool true)] 19 rfl rfl ?_
        refine QP_end _ rfl fun wx29 x30 => ?_
        try refine W_forget [(0, .slice a (List.length sx) c), (9, .slice a (List.length sx) c), (10, I (ln sx)), (11, I x3), (34, .bool true)] ⟨rfl, rfl, rfl, rfl, rfl, trivial⟩ fun ρ => ?_
        have f31 := f.mono X6.size
        have X32 := (((X6.stepx x17).step y (f31.dom _)).stepx x30)
        have ex33 := (((ex5.ext x17).but y (Dj.of_fresh ex5 f).symm).ext x30)
        exact ⟨true, H, _, env_eq ⟨rfl, rfl, rfl, rfl, rfl, trivial⟩, X32, ex33⟩
      have H := H.2 hc28
      refine QP_ev ok 5 [(21, .pointer (some ⟨b, 1, none⟩))] 6 rfl rfl ?_
      refine QP_ldbox 6 (v := I x10.Levels) rfl rfl rfl ti_3 ag_3 (fun _ => rfl) rfl ex20 rfl rfl ?_
      obtain ⟨r34, Hd35, H⟩ := H
      refine QP_call (.bool r34) 7 rfl rfl rfl cal_94 rfl (fun wx36 x37 => (spec_l1In_w _ _ _ _ Hd35 wx36 ).mono ?_) ?_
      · rintro _ _ ⟨_, rfl, rfl, x⟩; exact ⟨rfl, x⟩
      refine QP_ev ok 8 [(24, .bool (!r34)), (25, .bool (!r34)), (26, .bool (!r34))] 11 rfl rfl ?_
      refine QP_split 26 (!r34) rfl (fun hc38 => ?_) (fun hc38 => ?_)
      · have H := H.1 hc38
        refine QP_ev ok 11 [(27, undef), (28, undef), (29, undef), (30, undef), (31, undef), (32, undef), (33, undef), (34, .bool true)] 19 rfl rfl ?_
        refine QP_end _ rfl fun wx39 x40 => ?_
        try refine W_forget [(0, .slice a (List.length sx) c), (9, .slice a (List.length sx) c), (10, I (ln sx)), (11, I x3), (21, .pointer (some ⟨b, 1, none⟩)), (22, I x10.Levels), (23, .bool r34), (24, .bool (!r34)), (34, .bool true)] ⟨rfl, rfl, rfl, rfl, rfl, rfl, rfl, rfl, rfl, trivial⟩ fun ρ => ?_
        have f41 := f.mono X6.size
        have X42 := (((X6.stepx x17).step y (f41.dom _)).stepx x40)
        have ex43 := (((ex5.ext x17).but y (Dj.of_fresh ex5 f).symm).ext x40)
        exact ⟨true, H, _, env_eq ⟨rfl, rfl, rfl, rfl, rfl, trivial⟩, X42, ex43⟩
      have H := H.2 hc38
      refine QP_ev ok 11 [(27, .slice a (List.length sx) c), (28, I x3)] 13 rfl rfl ?_
      obtain ⟨hl, hu, hn, H⟩ := H
      refine QP_slice 13 0 x3 rfl rfl rfl Try.underlying29 ti_107 rfl rfl rfl r (.inl ⟨rfl, rfl⟩) (.inr rfl) hl hu hn fun vx44 r45 => ?_
      obtain ⟨a46, c47, rfl⟩ := r45.shape
      refine QP_ev ok 14 [(30, .pointer (some ⟨b, 0, none⟩))] 15 rfl rfl ?_
      refine QP_ldbox 15 (v := .string x10.Name) rfl rfl rfl ti_9 ag_9 (fun _ => rfl) rfl ex20 rfl rfl ?_
      obtain ⟨r48, Hd49, H⟩ := H
      have ex52 := ((ex5.ext x17).but y (Dj.of_fresh ex5 f).symm)
      refine QP_call (I r48) 16 rfl rfl rfl cal_224 rfl (fun wx50 x51 => (spec_sFind_w _ _ _ Hd49 wx50 r45 (ex52.ext x51)).mono ?_) ?_
      · rintro _ _ ⟨_, rfl, rfl, x⟩; exact ⟨rfl, x⟩
      refine QP_ev ok 17 [(33, .bool (decide (r48 ≥ 0))), (34, .bool (decide (r48 ≥ 0)))] 19 rfl rfl ?_
      refine QP_end _ rfl fun wx53 x54 => ?_
      try refine W_forget [(0, .slice a (List.length sx) c), (9, .slice a (List.length sx) c), (10, I (ln sx)), (11, I x3), (21, .pointer (some ⟨b, 1, none⟩)), (22, I x10.Levels), (23, .bool r34), (24, .bool (!r34)), (27, .slice a (List.length sx) c), (28, I x3), (29, .slice a46 (List.length (List.take (Int.toNat x3 - Int.toNat 0) (List.drop (Int.toNat 0) sx))) c47), (30, .pointer (some ⟨b, 0, none⟩)), (31, .string x10.Name), (32, I r48), (33, .bool (decide (r48 ≥ 0))), (34, .bool (decide (r48 ≥ 0)))] ⟨rfl, rfl, rfl, rfl, rfl, rfl, rfl, rfl, rfl, rfl, rfl, rfl, rfl, rfl, rfl, rfl, trivial⟩ fun ρ => ?_
      have f55 := f.mono X6.size
      have X56 := (((X6.stepx x17).step y (f55.dom _)).stepx x54)
      have ex57 := (ex52.ext x54)
      exact ⟨decide (r48 ≥ 0), H, _, env_eq ⟨rfl, rfl, rfl, rfl, rfl, trivial⟩, X56, ex57⟩
    rintro x21 _ wx22 ⟨H, ρ, rfl, X24, ex23⟩
    subst hk
    refine W_cond (x21) rfl (fun hc58 => ?_) (fun hc58 => ?_)
    · have H := H.1 hc58
      refine W_seq ?_
      refine W_region ?_
      refine LP_ev ok 0 [(2, .bool false)] 1 rfl rfl ?_
      refine LP_end _ rfl ?_
      refine W_ret ?_
      exact ⟨_, Ret_of [.bool false] ⟨⟨rfl, rfl⟩, trivial⟩, _, H, rfl, X24.ext⟩
    have H := H.2 hc58
    refine W_skip ?_
    refine W_region ?_
    refine LP_ev ok 0 [(35, I (wr (x3 + 1))), (11, I (wr (x3 + 1)))] 2 rfl rfl ?_
    refine LP_end _ rfl ?_
    exact ⟨wr (x3 + 1), ⟨H.1, _, env_eq ⟨rfl, rfl, rfl, rfl, trivial⟩, X24, ex23⟩, H.2⟩
  have H := H.2 hc9
  refine W_exit ?_
  refine (if_pos rfl).mpr ?_
  refine W_seq ?_
  refine W_region ?_
  refine LP_ev ok 0 [(2, .bool true)] 1 rfl rfl ?_
  refine LP_end _ rfl ?_
  refine W_ret ?_
  exact ⟨_, Ret_of [.bool true] ⟨⟨rfl, rfl⟩, trivial⟩, _, H, rfl, X6.ext⟩

set_option maxRecDepth 8000 in
set_option maxHeartbeats 4000000 in
theorem spec_eFull_w (sx : List Variable) (vx1 : Int) (Q : Int → Prop) (H : spec_eFull sx vx1 Q) (w : World) {vx : Value} {hx : PH} (r : RS hx vx sx) (ex : Sub hx w) :
    CallsTo Try.prog 161 #[vx, I vx1] w fun v w' => ∃ r0, Q r0 ∧ v = I r0 ∧ Ext w w' := by
  obtain ⟨a, c, rfl⟩ := r.shape
  refine enter (args := [.slice a (List.length sx) c, I vx1]) 13 Try.func161 rfl rfl rfl ?_
  refine W_forget [(0, .slice a (List.length sx) c), (1, I vx1)] ⟨rfl, rfl, trivial⟩ fun ρ => ?_
  have X := But.refl emp w
  refine W_seq ?_
  refine W_region ?_
  refine LP_ev ok 0 [(4, I 0)] 1 rfl rfl ?_
  refine LP_end _ rfl ?_
  refine W_seq ?_
  refine W_region ?_
  refine LP_ev ok 0 [(5, .slice a (List.length sx) c), (6, I vx1)] 2 rfl rfl ?_
  obtain ⟨x, hi, hx2, H⟩ := H
  refine LP_index 2 rfl rfl rfl Try.underlying29 ti_107 rfl rfl r hi hx2 fun a3 cs r4 d => ?_
  refine LP_ev ok 3 [(8, .pointer (some (Addr.add a3 1)))] 4 rfl rfl ?_
  refine LP_ldfld (x := x) (off := 1) 4 (v := I x.Levels) rfl rfl rfl ti_3 ag_3 (fun _ => rfl) rfl r4 d ex rfl rfl ?_
  refine LP_ev ok 5 [(10, .int .u64 (IntKind.u64.wrap (x.Levels)))] 6 rfl rfl ?_
  obtain ⟨hz, H⟩ := H
  refine LP_val 6 _ rfl rfl (ex_shl rfl rfl rfl hz _) ?_
  refine LP_ev ok 7 [(12, I (wr ((shl .i64 1 (IntKind.u64.wrap (x.Levels))) - 1))), (4, I (wr ((shl .i64 1 (IntKind.u64.wrap (x.Levels))) - 1)))] 9 rfl rfl ?_
  refine LP_end _ rfl ?_
  refine W_ret ?_
  exact ⟨_, Ret_of [I (wr ((shl .i64 1 (IntKind.u64.wrap (x.Levels))) - 1))] ⟨⟨rfl, rfl⟩, trivial⟩, _, H, rfl, X.ext⟩

set_option maxRecDepth 8000 in
set_option maxHeartbeats 4000000 in
theorem spec_eGood_w (sx : List Variable) (ex1 : Edit) (Q : Bool → Prop) (H : spec_eGood sx ex1 Q) (w : World) {vx : Value} {hx : PH} (r : RS hx vx sx) (ex : Sub hx w) {vx2 : Value} {hx3 : PH} (r4 : RS hx3 vx2 ex1.Sets) (ex5 : Sub hx3 w) :
    CallsTo Try.prog 107 #[vx, .agg #[vx2]] w fun v w' => ∃ r0, Q r0 ∧ v = .bool r0 ∧ Ext w w' := by
  obtain ⟨a, c, rfl⟩ := r.shape
  obtain ⟨a6, c7, rfl⟩ := r4.shape
  refine enter (args := [.slice a (List.length sx) c, .agg #[.slice a6 (List.length ex1.Sets) c7]]) 28 Try.func107 rfl rfl rfl ?_
  refine W_forget [(0, .slice a (List.length sx) c), (1, .agg #[.slice a6 (List.length ex1.Sets) c7])] ⟨rfl, rfl, trivial⟩ fun ρ => ?_
  have X := But.refl emp w
  refine W_seq ?_
  refine W_region ?_
  refine LP_box 0 (cs := [.slice a6 (List.length ex1.Sets) c7]) rfl rfl rfl rfl rfl fun b wx x ex8 f => ?_
  refine LP_ev ok 1 [(4, .bool false)] 2 rfl rfl ?_
  refine LP_end _ rfl ?_
  refine W_seq ?_
  refine W_seq ?_
  refine W_region ?_
  refine LP_ev ok 0 [(7, .pointer (some ⟨b, 0, none⟩))] 1 rfl rfl ?_
  refine LP_ldbox 1 (v := .slice a6 (List.length ex1.Sets) c7) rfl rfl rfl ti_24 ag_24 (fun _ => rfl) rfl ex8 rfl rfl ?_
  refine LP_ev ok 2 [(9, I (ln ex1.Sets)), (10, .slice a (List.length sx) c), (11, I (ln sx)), (12, .bool ((ln ex1.Sets) != (ln sx)))] 6 rfl rfl ?_
  refine LP_end _ rfl ?_
  refine W_cond ((ln ex1.Sets) != (ln sx)) rfl (fun hc => ?_) (fun hc => ?_)
  · have H := H.1 hc
    refine W_seq ?_
    refine W_region ?_
    refine LP_ev ok 0 [(4, .bool false)] 1 rfl rfl ?_
    refine LP_end _ rfl ?_
    refine W_ret ?_
    have X9 := (X.stepx x)
    exact ⟨_, Ret_of [.bool false] ⟨⟨rfl, rfl⟩, trivial⟩, _, H, rfl, X9.ext⟩
  have H := H.2 hc
  refine W_skip ?_
  refine W_seq ?_
  refine W_seq ?_
  refine W_region ?_
  refine LP_ev ok 0 [(13, .pointer (some ⟨b, 0, none⟩))] 1 rfl rfl ?_
  refine LP_ldbox 1 (v := .slice a6 (List.length ex1.Sets) c7) rfl rfl rfl ti_24 ag_24 (fun _ => rfl) rfl ex8 rfl rfl ?_
  refine LP_ev ok 2 [(15, I (ln ex1.Sets)), (16, I 0)] 4 rfl rfl ?_
  refine LP_end _ rfl ?_
  refine W_block ?_
  have X15 := (X.stepx x)
  have ex16 := (ex.ext x)
  have ex17 := (ex5.ext x)
  obtain ⟨J, m, Hx, H⟩ := H
  refine W_loop (S := Int) (fun s ρ' w' => J s ∧ ∃ (ρ : Env), ρ' = setAll [(0, .slice a (List.length sx) c), (14, .slice a6 (List.length ex1.Sets) c7), (15, I (ln ex1.Sets)), (16, I s)] ρ ∧ But emp w w' ∧ Sub hx w' ∧ Sub hx3 w') (fun s => m s) 0 ⟨Hx, _, env_eq ⟨rfl, rfl, rfl, rfl, trivial⟩, X15, ex16, ex17⟩ ?_
  rintro x10 _ wx11 ⟨Hi, ρ, rfl, X14, ex12, ex13⟩
  have H := H x10 Hi
  refine W_seq ?_
  refine W_region ?_
  refine LP_ev ok 0 [(17, .bool (decide (x10 < (ln ex1.Sets))))] 1 rfl rfl ?_
  refine LP_end _ rfl ?_
  refine W_seq ?_
  refine W_cond (decide (x10 < (ln ex1.Sets))) rfl (fun hc18 => ?_) (fun hc18 => ?_)
  · have H := H.1 hc18
    refine W_skip ?_
    refine W_seq ?_
    refine W_block ?_
    refine W_seq ?_
    refine W_region ?_
    refine LP_ev ok 0 [(18, I x10)] 1 rfl rfl ?_
    obtain ⟨x19, hi, hx20, H⟩ := H
    refine LP_index 1 rfl rfl rfl Try.underlying24 ti_3 rfl rfl r4 hi hx20 fun a21 cs r22 d => ?_
    refine LP_load 2 rfl rfl rfl ti_3 ag_3 rfl r22 d ex13 fun vx23 r24 => ?_
    obtain rfl := r24.int
    refine LP_ev ok 3 [(5, I x10), (6, I x19)] 5 rfl rfl ?_
    refine LP_end _ rfl ?_
    refine W_seq ?_
    refine W_region ?_
    refine LP_ev ok 0 [(21, I x19), (22, .slice a (List.length sx) c), (23, I x10)] 3 rfl rfl ?_
    refine LP_call 3 rfl rfl rfl cal_161 rfl (spec_eFull_w _ _ _ H wx11 r ex12) ?_
    rintro _ wx26 ⟨r25, H, rfl, x27⟩
    refine LP_call 4 rfl rfl rfl cal_94 rfl (spec_l1In_w _ _ _ _ H wx26 ) ?_
    rintro _ wx29 ⟨r28, H, rfl, x30⟩
    refine LP_ev ok 5 [(26, .bool (!r28))] 6 rfl rfl ?_
    refine LP_end _ rfl ?_
    refine W_cond (!r28) rfl (fun hc31 => ?_) (fun hc31 => ?_)
    · have H := H.1 hc31
      refine W_seq ?_
      refine W_region ?_
      refine LP_ev ok 0 [(4, .bool false)] 1 rfl rfl ?_
      refine LP_end _ rfl ?_
      refine W_ret ?_
      have X32 := ((X14.stepx x27).stepx x30)
      exact ⟨_, Ret_of [.bool false] ⟨⟨rfl, rfl⟩, trivial⟩, _, H, rfl, X32.ext⟩
    have H := H.2 hc31
    refine W_skip ?_
    refine W_region ?_
    refine LP_ev ok 0 [(27, I (wr (x10 + 1))), (16, I (wr (x10 + 1)))] 2 rfl rfl ?_
    refine LP_end _ rfl ?_
    have X33 := ((X14.stepx x27).stepx x30)
    have ex34 := ((ex12.ext x27).ext x30)
    have ex35 := ((ex13.ext x27).ext x30)
    exact ⟨wr (x10 + 1), ⟨H.1, _, env_eq ⟨rfl, rfl, rfl, rfl, trivial⟩, X33, ex34, ex35⟩, H.2⟩
  have H := H.2 hc18
  refine W_exit ?_
  refine (if_pos rfl).mpr ?_
  refine W_seq ?_
  refine W_region ?_
  refine LP_ev ok 0 [(4, .bool true)] 1 rfl rfl ?_
  refine LP_end _ rfl ?_
  refine W_ret ?_
  exact ⟨_, Ret_of [.bool true] ⟨⟨rfl, rfl⟩, trivial⟩, _, H, rfl, X14.ext⟩

set_option maxRecDepth 8000 in
set_option maxHeartbeats 4000000 in
theorem spec_eList_w (sx : List Variable) (l : List Edit) (Q : Bool → Prop) (H : spec_eList sx l Q) (w : World) {vx : Value} {hx : PH} (r : RS hx vx sx) (ex : Sub hx w) {vx1 : Value} {hx2 : PH} (r3 : RS hx2 vx1 l) (ex4 : Sub hx2 w) :
    CallsTo Try.prog 156 #[vx, vx1] w fun v w' => ∃ r0, Q r0 ∧ v = .bool r0 ∧ Ext w w' := by
  obtain ⟨a, c, rfl⟩ := r.shape
  obtain ⟨a5, c6, rfl⟩ := r3.shape
  refine enter (args := [.slice a (List.length sx) c, .slice a5 (List.length l) c6]) 26 Try.func156 rfl rfl rfl ?_
  refine W_forget [(0, .slice a (List.length sx) c), (1, .slice a5 (List.length l) c6)] ⟨rfl, rfl, trivial⟩ fun ρ => ?_
  have X := But.refl emp w
  refine W_seq ?_
  refine W_region ?_
  refine LP_ev ok 0 [(4, .bool false)] 1 rfl rfl ?_
  refine LP_end _ rfl ?_
  refine W_seq ?_
  obtain ⟨k, hk, H⟩ := jn_elim H
  refine W_join2 (S := Bool) (fun s ρ' w' => k s ∧ ∃ (ρ : Env), ρ' = setAll [(0, .slice a (List.length sx) c), (1, .slice a5 (List.length l) c6), (14, .bool s)] ρ ∧ But emp w w' ∧ Sub hx w' ∧ Sub hx2 w') ?_ ?_
  · refine W_region ?_
    refine LP_ev ok 0 [(7, .slice a (List.length sx) c)] 1 rfl rfl ?_
    refine LP_call 1 rfl rfl rfl cal_175 rfl (spec_sGood_w _ _ H w r ex) ?_
    rintro _ wx11 ⟨r10, H, rfl, x12⟩
    refine LP_ev ok 2 [(9, .bool (!r10)), (10, .bool (!r10))] 4 rfl rfl ?_
    refine LP_split 10 (!r10) rfl (fun hc => ?_) (fun hc => ?_)
    · have H := H.1 hc
      refine LP_ev ok 4 [(11, undef), (12, undef), (13, undef), (14, .bool true)] 8 rfl rfl ?_
      refine LP_end _ rfl ?_
      have X13 := (X.stepx x12)
      have ex14 := (ex.ext x12)
      have ex15 := (ex4.ext x12)
      exact ⟨true, H, _, env_eq ⟨rfl, rfl, rfl, trivial⟩, X13, ex14, ex15⟩
    have H := H.2 hc
    refine LP_ev ok 4 [(11, .slice a5 (List.length l) c6), (12, I (ln l)), (13, .bool (decide ((ln l) > 40))), (14, .bool (decide ((ln l) > 40)))] 8 rfl rfl ?_
    refine LP_end _ rfl ?_
    have X16 := (X.stepx x12)
    have ex17 := (ex.ext x12)
    have ex18 := (ex4.ext x12)
    exact ⟨decide ((ln l) > 40), H, _, env_eq ⟨rfl, rfl, rfl, trivial⟩, X16, ex17, ex18⟩
  rintro x _ wx ⟨H, ρ, rfl, X9, ex7, ex8⟩
  subst hk
  refine W_cond (x) rfl (fun hc19 => ?_) (fun hc19 => ?_)
  · have H := H.1 hc19
    refine W_seq ?_
    refine W_region ?_
    refine LP_ev ok 0 [(4, .bool false)] 1 rfl rfl ?_
    refine LP_end _ rfl ?_
    refine W_ret ?_
    exact ⟨_, Ret_of [.bool false] ⟨⟨rfl, rfl⟩, trivial⟩, _, H, rfl, X9.ext⟩
  have H := H.2 hc19
  refine W_skip ?_
  refine W_seq ?_
  refine W_seq ?_
  refine W_region ?_
  refine LP_ev ok 0 [(15, .slice a5 (List.length l) c6), (16, I (ln l)), (17, I 0)] 3 rfl rfl ?_
  refine LP_end _ rfl ?_
  refine W_block ?_
  obtain ⟨J, m, Hx, H⟩ := H
  refine W_loop (S := Int) (fun s ρ' w' => J s ∧ ∃ (ρ : Env), ρ' = setAll [(0, .slice a (List.length sx) c), (15, .slice a5 (List.length l) c6), (16, I (ln l)), (17, I s)] ρ ∧ But emp w w' ∧ Sub hx w' ∧ Sub hx2 w') (fun s => m s) 0 ⟨Hx, _, env_eq ⟨rfl, rfl, rfl, rfl, trivial⟩, X9, ex7, ex8⟩ ?_
  rintro x20 _ wx21 ⟨Hi, ρ, rfl, X24, ex22, ex23⟩
  have H := H x20 Hi
  refine W_seq ?_
  refine W_region ?_
  refine LP_ev ok 0 [(18, .bool (decide (x20 < (ln l))))] 1 rfl rfl ?_
  refine LP_end _ rfl ?_
  refine W_seq ?_
  refine W_cond (decide (x20 < (ln l))) rfl (fun hc25 => ?_) (fun hc25 => ?_)
  · have H := H.1 hc25
    refine W_skip ?_
    refine W_seq ?_
    refine W_block ?_
    refine W_seq ?_
    refine W_region ?_
    obtain ⟨x26, hi, hx27, H⟩ := H
    refine LP_index 0 rfl rfl rfl Try.underlying31 ti_50 rfl rfl r3 hi hx27 fun a28 cs r29 d => ?_
    have d30 := d
    obtain ⟨u, rfl, r31⟩ := Edit_rd d30
    obtain ⟨a32, c33, rfl⟩ := r31.shape
    refine LP_load 1 rfl rfl rfl ti_50 ag_50 rfl r29 d ex23 fun vx34 r35 => ?_
    obtain ⟨u36, rfl, r37⟩ := Edit_rv r35
    obtain ⟨a38, c39, rfl⟩ := r37.shape
    refine LP_alloc 2 rfl rfl rfl ti_50 rfl fun b wx40 x41 ex42 f => ?_
    refine LP_stbox 3 (vs := [.slice a38 (List.length x26.Sets) c39]) (cs' := [.slice a38 (List.length x26.Sets) c39]) rfl rfl rfl ti_50 rfl rfl rfl rfl rfl ex42 rfl rfl fun wx43 ex44 y => ?_
    refine LP_end _ rfl ?_
    refine W_seq ?_
    refine W_region ?_
    refine LP_ev ok 0 [(21, .slice a (List.length sx) c)] 1 rfl rfl ?_
    refine LP_ldbox 1 (v := .agg #[.slice a38 (List.length x26.Sets) c39]) rfl rfl rfl ti_50 ag_50 (fun h => by cases h) rfl ex44 rfl rfl ?_
    have ex46 := ((ex22.ext x41).but y (Dj.of_fresh ex22 f).symm)
    have ex47 := ((ex23.ext x41).but y (Dj.of_fresh ex23 f).symm)
    refine LP_call 2 rfl rfl rfl cal_107 rfl (spec_eGood_w _ _ _ H wx43 r ex46 r37 ex47) ?_
    rintro _ wx48 ⟨r45, H, rfl, x49⟩
    refine LP_ev ok 3 [(24, .bool (!r45))] 4 rfl rfl ?_
    refine LP_end _ rfl ?_
    refine W_cond (!r45) rfl (fun hc50 => ?_) (fun hc50 => ?_)
    · have H := H.1 hc50
      refine W_seq ?_
      refine W_region ?_
      refine LP_ev ok 0 [(4, .bool false)] 1 rfl rfl ?_
      refine LP_end _ rfl ?_
      refine W_ret ?_
      have f51 := f.mono X24.size
      have X52 := (((X24.stepx x41).step y (f51.dom _)).stepx x49)
      exact ⟨_, Ret_of [.bool false] ⟨⟨rfl, rfl⟩, trivial⟩, _, H, rfl, X52.ext⟩
    have H := H.2 hc50
    refine W_skip ?_
    refine W_region ?_
    refine LP_ev ok 0 [(25, I (wr (x20 + 1))), (17, I (wr (x20 + 1)))] 2 rfl rfl ?_
    refine LP_end _ rfl ?_
    have f53 := f.mono X24.size
    have X54 := (((X24.stepx x41).step y (f53.dom _)).stepx x49)
    have ex55 := (ex46.ext x49)
    have ex56 := (ex47.ext x49)
    exact ⟨wr (x20 + 1), ⟨H.1, _, env_eq ⟨rfl, rfl, rfl, rfl, trivial⟩, X54, ex55, ex56⟩, H.2⟩
  have H := H.2 hc25
  refine W_exit ?_
  refine (if_pos rfl).mpr ?_
  refine W_seq ?_
  refine W_region ?_
  refine LP_ev ok 0 [(4, .bool true)] 1 rfl rfl ?_
  refine LP_end _ rfl ?_
  refine W_ret ?_
  exact ⟨_, Ret_of [.bool true] ⟨⟨rfl, rfl⟩, trivial⟩, _, H, rfl, X24.ext⟩

set_option maxRecDepth 8000 in
set_option maxHeartbeats 4000000 in
theorem spec_sCount_w (sx : List Variable) (Q : Int → Prop) (H : spec_sCount sx Q) (w : World) {vx : Value} {hx : PH} (r : RS hx vx sx) (ex : Sub hx w) :
    CallsTo Try.prog 157 #[vx] w fun v w' => ∃ r0, Q r0 ∧ v = I r0 ∧ Ext w w' := by
  obtain ⟨a, c, rfl⟩ := r.shape
  refine enter (args := [.slice a (List.length sx) c]) 18 Try.func157 rfl rfl rfl ?_
  refine W_forget [(0, .slice a (List.length sx) c)] ⟨rfl, trivial⟩ fun ρ => ?_
  have X := But.refl emp w
  refine W_seq ?_
  refine W_region ?_
  refine LP_ev ok 0 [(2, I 0)] 1 rfl rfl ?_
  refine LP_end _ rfl ?_
  refine W_seq ?_
  refine W_region ?_
  refine LP_ev ok 0 [(3, I 1)] 1 rfl rfl ?_
  refine LP_end _ rfl ?_
  refine W_seq ?_
  refine W_seq ?_
  refine W_region ?_
  refine LP_ev ok 0 [(6, .slice a (List.length sx) c), (7, I (ln sx)), (8, I 0)] 3 rfl rfl ?_
  refine LP_end _ rfl ?_
  refine W_block ?_
  obtain ⟨J, m, Hx, H⟩ := H
  refine W_loop (S := Int × Int) (fun s ρ' w' => J s.1 s.2 ∧ ∃ (ρ : Env), ρ' = setAll [(3, I s.1), (6, .slice a (List.length sx) c), (7, I (ln sx)), (8, I s.2)] ρ ∧ But emp w w' ∧ Sub hx w') (fun s => m s.1 s.2) (1, 0) ⟨Hx, _, env_eq ⟨rfl, rfl, rfl, rfl, trivial⟩, X, ex⟩ ?_
  rintro ⟨n, x⟩ _ wx ⟨Hi, ρ, rfl, X2, ex1⟩
  have H := H n x Hi
  refine W_seq ?_
  refine W_region ?_
  refine LP_ev ok 0 [(9, .bool (decide (x < (ln sx))))] 1 rfl rfl ?_
  refine LP_end _ rfl ?_
  refine W_seq ?_
  refine W_cond (decide (x < (ln sx))) rfl (fun hc => ?_) (fun hc => ?_)
  · have H := H.1 hc
    refine W_skip ?_
    refine W_seq ?_
    refine W_block ?_
    refine W_seq ?_
    refine W_region ?_
    obtain ⟨x3, hi, hx4, H⟩ := H
    refine LP_index 0 rfl rfl rfl Try.underlying29 ti_107 rfl rfl r hi hx4 fun a5 cs r6 d => ?_
    refine LP_load 1 rfl rfl rfl ti_107 ag_107 rfl r6 d ex1 fun vx7 r8 => ?_
    obtain rfl := Variable_rv r8
    refine LP_alloc 2 rfl rfl rfl ti_107 rfl fun b wx9 x10 ex11 f => ?_
    refine LP_stbox 3 (vs := [.string x3.Name, I x3.Levels]) (cs' := [.string x3.Name, I x3.Levels]) rfl rfl rfl ti_107 rfl rfl rfl rfl rfl ex11 rfl rfl fun wx12 ex13 y => ?_
    refine LP_end _ rfl ?_
    refine W_region ?_
    refine LP_ev ok 0 [(12, I n), (13, .pointer (some ⟨b, 1, none⟩))] 2 rfl rfl ?_
    refine LP_ldbox 2 (v := I x3.Levels) rfl rfl rfl ti_3 ag_3 (fun _ => rfl) rfl ex13 rfl rfl ?_
    refine LP_ev ok 3 [(15, I (wr (n * x3.Levels))), (3, I (wr (n * x3.Levels)))] 5 rfl rfl ?_
    refine LP_end _ rfl ?_
    refine W_region ?_
    refine LP_ev ok 0 [(16, I (wr (x + 1))), (8, I (wr (x + 1)))] 2 rfl rfl ?_
    refine LP_end _ rfl ?_
    have f14 := f.mono X2.size
    have X15 := ((X2.stepx x10).step y (f14.dom _))
    have ex16 := ((ex1.ext x10).but y (Dj.of_fresh ex1 f).symm)
    exact ⟨(wr (n * x3.Levels), wr (x + 1)), ⟨H.1, _, env_eq ⟨rfl, rfl, rfl, rfl, trivial⟩, X15, ex16⟩, H.2⟩
  have H := H.2 hc
  refine W_exit ?_
  refine (if_pos rfl).mpr ?_
  refine W_seq ?_
  refine W_region ?_
  refine LP_ev ok 0 [(17, I n), (2, I n)] 2 rfl rfl ?_
  refine LP_end _ rfl ?_
  refine W_ret ?_
  exact ⟨_, Ret_of [I n] ⟨⟨rfl, rfl⟩, trivial⟩, _, H, rfl, X2.ext⟩

set_option maxRecDepth 8000 in
set_option maxHeartbeats 4000000 in
theorem spec_eSmall_w (sx : List Variable) (l : List Edit) (Q : Bool → Prop) (H : spec_eSmall sx l Q) (w : World) {vx : Value} {hx : PH} (r : RS hx vx sx) (ex : Sub hx w) {vx1 : Value} {hx2 : PH} (r3 : RS hx2 vx1 l) (ex4 : Sub hx2 w) :
    CallsTo Try.prog 77 #[vx, vx1] w fun v w' => ∃ r0, Q r0 ∧ v = .bool r0 ∧ Ext w w' := by
  obtain ⟨a, c, rfl⟩ := r.shape
  obtain ⟨a5, c6, rfl⟩ := r3.shape
  refine enter (args := [.slice a (List.length sx) c, .slice a5 (List.length l) c6]) 13 Try.func77 rfl rfl rfl ?_
  refine W_forget [(0, .slice a (List.length sx) c), (1, .slice a5 (List.length l) c6)] ⟨rfl, rfl, trivial⟩ fun ρ => ?_
  have X := But.refl emp w
  refine W_seq ?_
  refine W_region ?_
  refine LP_ev ok 0 [(4, .bool false)] 1 rfl rfl ?_
  refine LP_end _ rfl ?_
  obtain ⟨k, hk, H⟩ := jn_elim H
  refine W_join2 (S := Bool) (fun s ρ' w' => k s ∧ ∃ (ρ : Env), ρ' = setAll [(4, .bool s)] ρ ∧ But emp w w') ?_ ?_
  · refine W_region ?_
    refine LP_ev ok 0 [(5, .slice a (List.length sx) c), (6, .slice a5 (List.length l) c6)] 2 rfl rfl ?_
    refine LP_call 2 rfl rfl rfl cal_156 rfl (spec_eList_w _ _ _ H w r ex r3 ex4) ?_
    rintro _ wx9 ⟨r8, H, rfl, x10⟩
    refine LP_ev ok 3 [(8, .bool r8)] 4 rfl rfl ?_
    refine LP_split 8 (r8) rfl (fun hc => ?_) (fun hc => ?_)
    · have H := H.1 hc
      refine LP_ev ok 4 [(9, .slice a (List.length sx) c)] 5 rfl rfl ?_
      have ex12 := (ex.ext x10)
      refine LP_call 5 rfl rfl rfl cal_157 rfl (spec_sCount_w _ _ H wx9 r ex12) ?_
      rintro _ wx13 ⟨r11, H, rfl, x14⟩
      refine LP_ev ok 6 [(11, .bool (decide (r11 ≤ 100))), (12, .bool (decide (r11 ≤ 100))), (4, .bool (decide (r11 ≤ 100)))] 9 rfl rfl ?_
      refine LP_end _ rfl ?_
      have X15 := ((X.stepx x10).stepx x14)
      exact ⟨decide (r11 ≤ 100), H, _, env_eq ⟨rfl, trivial⟩, X15⟩
    have H := H.2 hc
    refine LP_ev ok 4 [(9, undef), (10, undef), (11, undef), (12, .bool false), (4, .bool false)] 9 rfl rfl ?_
    refine LP_end _ rfl ?_
    have X16 := (X.stepx x10)
    exact ⟨false, H, _, env_eq ⟨rfl, trivial⟩, X16⟩
  rintro x _ wx ⟨H, ρ, rfl, X7⟩
  subst hk
  refine W_ret ?_
  exact ⟨_, Ret_of [.bool x] ⟨⟨rfl, rfl⟩, trivial⟩, _, H, rfl, X7.ext⟩

set_option maxRecDepth 8000 in
set_option maxHeartbeats 4000000 in
theorem spec_sFits_w (sx : List Variable) (values : List Int) (Q : Bool → Prop) (H : spec_sFits sx values Q) (w : World) {vx : Value} {hx : PH} (r : RS hx vx sx) (ex : Sub hx w) {vx1 : Value} {hx2 : PH} (r3 : RS hx2 vx1 values) (ex4 : Sub hx2 w) :
    CallsTo Try.prog 78 #[vx, vx1] w fun v w' => ∃ r0, Q r0 ∧ v = .bool r0 ∧ Ext w w' := by
  obtain ⟨a, c, rfl⟩ := r.shape
  obtain ⟨a5, c6, rfl⟩ := r3.shape
  refine enter (args := [.slice a (List.length sx) c, .slice a5 (List.length values) c6]) 29 Try.func78 rfl rfl rfl ?_
  refine W_forget [(0, .slice a (List.length sx) c), (1, .slice a5 (List.length values) c6)] ⟨rfl, rfl, trivial⟩ fun ρ => ?_
  have X := But.refl emp w
  refine W_seq ?_
  refine W_region ?_
  refine LP_ev ok 0 [(4, .bool false)] 1 rfl rfl ?_
  refine LP_end _ rfl ?_
  refine W_seq ?_
  refine W_seq ?_
  refine W_region ?_
  refine LP_ev ok 0 [(7, .slice a5 (List.length values) c6), (8, I (ln values)), (9, .slice a (List.length sx) c), (10, I (ln sx)), (11, .bool ((ln values) != (ln sx)))] 5 rfl rfl ?_
  refine LP_end _ rfl ?_
  refine W_cond ((ln values) != (ln sx)) rfl (fun hc => ?_) (fun hc => ?_)
  · have H := H.1 hc
    refine W_seq ?_
    refine W_region ?_
    refine LP_ev ok 0 [(4, .bool false)] 1 rfl rfl ?_
    refine LP_end _ rfl ?_
    refine W_ret ?_
    exact ⟨_, Ret_of [.bool false] ⟨⟨rfl, rfl⟩, trivial⟩, _, H, rfl, X.ext⟩
  have H := H.2 hc
  refine W_skip ?_
  refine W_seq ?_
  refine W_seq ?_
  refine W_region ?_
  refine LP_ev ok 0 [(12, .slice a (List.length sx) c), (13, I (ln sx)), (14, I 0)] 3 rfl rfl ?_
  refine LP_end _ rfl ?_
  refine W_block ?_
  obtain ⟨J, m, Hx, H⟩ := H
  refine W_loop (S := Int) (fun s ρ' w' => J s ∧ ∃ (ρ : Env), ρ' = setAll [(1, .slice a5 (List.length values) c6), (12, .slice a (List.length sx) c), (13, I (ln sx)), (14, I s)] ρ ∧ But emp w w' ∧ Sub hx w' ∧ Sub hx2 w') (fun s => m s) 0 ⟨Hx, _, env_eq ⟨rfl, rfl, rfl, rfl, trivial⟩, X, ex, ex4⟩ ?_
  rintro x _ wx ⟨Hi, ρ, rfl, X9, ex7, ex8⟩
  have H := H x Hi
  refine W_seq ?_
  refine W_region ?_
  refine LP_ev ok 0 [(15, .bool (decide (x < (ln sx))))] 1 rfl rfl ?_
  refine LP_end _ rfl ?_
  refine W_seq ?_
  refine W_cond (decide (x < (ln sx))) rfl (fun hc10 => ?_) (fun hc10 => ?_)
  · have H := H.1 hc10
    refine W_skip ?_
    refine W_seq ?_
    refine W_block ?_
    refine W_seq ?_
    refine W_region ?_
    refine LP_ev ok 0 [(16, I x)] 1 rfl rfl ?_
    obtain ⟨x11, hi, hx12, H⟩ := H
    refine LP_index 1 rfl rfl rfl Try.underlying29 ti_107 rfl rfl r hi hx12 fun a13 cs r14 d => ?_
    refine LP_load 2 rfl rfl rfl ti_107 ag_107 rfl r14 d ex7 fun vx15 r16 => ?_
    obtain rfl := Variable_rv r16
    refine LP_alloc 3 rfl rfl rfl ti_107 rfl fun b wx17 x18 ex19 f => ?_
    refine LP_ev ok 4 [(5, I x)] 5 rfl rfl ?_
    refine LP_stbox 5 (vs := [.string x11.Name, I x11.Levels]) (cs' := [.string x11.Name, I x11.Levels]) rfl rfl rfl ti_107 rfl rfl rfl rfl rfl ex19 rfl rfl fun wx20 ex21 y => ?_
    refine LP_end _ rfl ?_
    refine W_seq ?_
    refine W_quiet mix (by kernel_rfl) ?_
    refine QP_ev ok 0 [(19, .slice a5 (List.length values) c6), (20, I x)] 2 rfl rfl ?_
    obtain ⟨x22, hi23, hx24, H⟩ := H
    refine QP_index 2 rfl rfl rfl Try.underlying24 ti_3 rfl rfl r3 hi23 hx24 fun a25 cs26 r27 d28 => ?_
    have ex29 := ((ex8.ext x18).but y (Dj.of_fresh ex8 f).symm)
    refine QP_load 3 rfl rfl rfl ti_3 ag_3 rfl r27 d28 ex29 fun vx30 r31 => ?_
    obtain rfl := r31.int
    refine QP_ev ok 4 [(23, .pointer (some ⟨b, 1, none⟩))] 5 rfl rfl ?_
    refine QP_ldbox 5 (v := I x11.Levels) rfl rfl rfl ti_3 ag_3 (fun _ => rfl) rfl ex21 rfl rfl ?_
    refine QP_ev ok 6 [(25, I (wr (x11.Levels - 1)))] 7 rfl rfl ?_
    obtain ⟨r32, Hd, H⟩ := H
    refine QP_call (.bool r32) 7 rfl rfl rfl cal_94 rfl (fun wx33 x34 => (spec_l1In_w _ _ _ _ Hd wx33 ).mono ?_) ?_
    · rintro _ _ ⟨_, rfl, rfl, x⟩; exact ⟨rfl, x⟩
    refine QP_ev ok 8 [(27, .bool (!r32))] 9 rfl rfl ?_
    refine QP_end _ rfl fun wx35 x36 => ?_
    refine W_cond (!r32) rfl (fun hc37 => ?_) (fun hc37 => ?_)
    · have H := H.1 hc37
      refine W_seq ?_
      refine W_region ?_
      refine LP_ev ok 0 [(4, .bool false)] 1 rfl rfl ?_
      refine LP_end _ rfl ?_
      refine W_ret ?_
      have f38 := f.mono X9.size
      have X39 := (((X9.stepx x18).step y (f38.dom _)).stepx x36)
      exact ⟨_, Ret_of [.bool false] ⟨⟨rfl, rfl⟩, trivial⟩, _, H, rfl, X39.ext⟩
    have H := H.2 hc37
    refine W_skip ?_
    refine W_region ?_
    refine LP_ev ok 0 [(28, I (wr (x + 1))), (14, I (wr (x + 1)))] 2 rfl rfl ?_
    refine LP_end _ rfl ?_
    have f40 := f.mono X9.size
    have X41 := (((X9.stepx x18).step y (f40.dom _)).stepx x36)
    have ex42 := (((ex7.ext x18).but y (Dj.of_fresh ex7 f).symm).ext x36)
    have ex43 := (ex29.ext x36)
    exact ⟨wr (x + 1), ⟨H.1, _, env_eq ⟨rfl, rfl, rfl, rfl, trivial⟩, X41, ex42, ex43⟩, H.2⟩
  have H := H.2 hc10
  refine W_exit ?_
  refine (if_pos rfl).mpr ?_
  refine W_seq ?_
  refine W_region ?_
  refine LP_ev ok 0 [(4, .bool true)] 1 rfl rfl ?_
  refine LP_end _ rfl ?_
  refine W_ret ?_
  exact ⟨_, Ret_of [.bool true] ⟨⟨rfl, rfl⟩, trivial⟩, _, H, rfl, X9.ext⟩

set_option maxRecDepth 8000 in
set_option maxHeartbeats 4000000 in
theorem spec_l1Rising_w (l : List Int) (lo : Int) (hi : Int) (Q : Bool → Prop) (H : spec_l1Rising l lo hi Q) (w : World) {vx : Value} {hx : PH} (r : RS hx vx l) (ex : Sub hx w) :
    CallsTo Try.prog 79 #[vx, I lo, I hi] w fun v w' => ∃ r0, Q r0 ∧ v = .bool r0 ∧ Ext w w' := by
  obtain ⟨a, c, rfl⟩ := r.shape
  refine enter (args := [.slice a (List.length l) c, I lo, I hi]) 35 Try.func79 rfl rfl rfl ?_
  refine W_forget [(0, .slice a (List.length l) c), (1, I lo), (2, I hi)] ⟨rfl, rfl, rfl, trivial⟩ fun ρ => ?_
  have X := But.refl emp w
  refine W_seq ?_
  refine W_region ?_
  refine LP_ev ok 0 [(6, .bool false)] 1 rfl rfl ?_
  refine LP_end _ rfl ?_
  refine W_seq ?_
  refine W_seq ?_
  refine W_region ?_
  refine LP_ev ok 0 [(9, .slice a (List.length l) c), (10, I (ln l)), (11, I 0)] 3 rfl rfl ?_
  refine LP_end _ rfl ?_
  refine W_block ?_
  obtain ⟨J, m, Hx, H⟩ := H
  refine W_loop (S := Int) (fun s ρ' w' => J s ∧ ∃ (ρ : Env), ρ' = setAll [(0, .slice a (List.length l) c), (1, I lo), (2, I hi), (9, .slice a (List.length l) c), (10, I (ln l)), (11, I s)] ρ ∧ But emp w w' ∧ Sub hx w') (fun s => m s) 0 ⟨Hx, _, env_eq ⟨rfl, rfl, rfl, rfl, rfl, rfl, trivial⟩, X, ex⟩ ?_
  rintro x _ wx ⟨Hi, ρ, rfl, X2, ex1⟩
  have H := H x Hi
  refine W_seq ?_
  refine W_region ?_
  refine LP_ev ok 0 [(12, .bool (decide (x < (ln l))))] 1 rfl rfl ?_
  refine LP_end _ rfl ?_
  refine W_seq ?_
  refine W_cond (decide (x < (ln l))) rfl (fun hc => ?_) (fun hc => ?_)
  · have H := H.1 hc
    refine W_skip ?_
    refine W_seq ?_
    refine W_block ?_
    refine W_seq ?_
    refine W_region ?_
    refine LP_ev ok 0 [(13, I x)] 1 rfl rfl ?_
    obtain ⟨x3, hi4, hx5, H⟩ := H
    refine LP_index 1 rfl rfl rfl Try.underlying24 ti_3 rfl rfl r hi4 hx5 fun a6 cs r7 d => ?_
    refine LP_load 2 rfl rfl rfl ti_3 ag_3 rfl r7 d ex1 fun vx8 r9 => ?_
    obtain rfl := r9.int
    refine LP_ev ok 3 [(7, I x), (8, I x3)] 5 rfl rfl ?_
    refine LP_end _ rfl ?_
    obtain ⟨k, hk, H⟩ := jn_elim H
    refine W_join2 (S := Bool) (fun s ρ' w' => k s ∧ ∃ (ρ : Env), ρ' = setAll [(0, .slice a (List.length l) c), (1, I lo), (2, I hi), (9, .slice a (List.length l) c), (10, I (ln l)), (11, I x), (33, .bool s)] ρ ∧ But emp w w' ∧ Sub hx w') ?_ ?_
    · refine W_region ?_
      refine LP_ev ok 0 [(16, I x3), (17, I lo), (18, I hi)] 3 rfl rfl ?_
      refine LP_call 3 rfl rfl rfl cal_94 rfl (spec_l1In_w _ _ _ _ H wx ) ?_
      rintro _ wx15 ⟨r14, H, rfl, x16⟩
      refine LP_ev ok 4 [(20, .bool (!r14)), (21, .bool (!r14))] 6 rfl rfl ?_
      refine LP_split 21 (!r14) rfl (fun hc17 => ?_) (fun hc17 => ?_)
      · have H := H.1 hc17
        refine LP_ev ok 6 [(22, undef), (23, undef), (24, undef), (25, undef), (26, undef), (27, undef), (28, undef), (29, undef), (30, undef), (31, undef), (32, undef), (33, .bool true)] 18 rfl rfl ?_
        refine LP_end _ rfl ?_
        have X18 := (X2.stepx x16)
        have ex19 := (ex1.ext x16)
        exact ⟨true, H, _, env_eq ⟨rfl, rfl, rfl, rfl, rfl, rfl, rfl, trivial⟩, X18, ex19⟩
      have H := H.2 hc17
      refine LP_ev ok 6 [(22, I x), (23, .bool (decide (x > 0))), (24, .bool (decide (x > 0)))] 9 rfl rfl ?_
      refine LP_split 24 (decide (x > 0)) rfl (fun hc20 => ?_) (fun hc20 => ?_)
      · have H := H.1 hc20
        refine LP_ev ok 9 [(25, .slice a (List.length l) c), (26, I x), (27, I (wr (x - 1)))] 12 rfl rfl ?_
        obtain ⟨x21, hi22, hx23, H⟩ := H
        refine LP_index 12 rfl rfl rfl Try.underlying24 ti_3 rfl rfl r hi22 hx23 fun a24 cs25 r26 d27 => ?_
        have ex28 := (ex1.ext x16)
        refine LP_load 13 rfl rfl rfl ti_3 ag_3 rfl r26 d27 ex28 fun vx29 r30 => ?_
        obtain rfl := r30.int
        refine LP_ev ok 14 [(30, I x3), (31, .bool (decide (x21 ≥ x3))), (32, .bool (decide (x21 ≥ x3))), (33, .bool (decide (x21 ≥ x3)))] 18 rfl rfl ?_
        refine LP_end _ rfl ?_
        have X31 := (X2.stepx x16)
        exact ⟨decide (x21 ≥ x3), H, _, env_eq ⟨rfl, rfl, rfl, rfl, rfl, rfl, rfl, trivial⟩, X31, ex28⟩
      have H := H.2 hc20
      refine LP_ev ok 9 [(25, undef), (26, undef), (27, undef), (28, undef), (29, undef), (30, undef), (31, undef), (32, .bool false), (33, .bool false)] 18 rfl rfl ?_
      refine LP_end _ rfl ?_
      have X32 := (X2.stepx x16)
      have ex33 := (ex1.ext x16)
      exact ⟨false, H, _, env_eq ⟨rfl, rfl, rfl, rfl, rfl, rfl, rfl, trivial⟩, X32, ex33⟩
    rintro x10 _ wx11 ⟨H, ρ, rfl, X13, ex12⟩
    subst hk
    refine W_cond (x10) rfl (fun hc34 => ?_) (fun hc34 => ?_)
    · have H := H.1 hc34
      refine W_seq ?_
      refine W_region ?_
      refine LP_ev ok 0 [(6, .bool false)] 1 rfl rfl ?_
      refine LP_end _ rfl ?_
      refine W_ret ?_
      exact ⟨_, Ret_of [.bool false] ⟨⟨rfl, rfl⟩, trivial⟩, _, H, rfl, X13.ext⟩
    have H := H.2 hc34
    refine W_skip ?_
    refine W_region ?_
    refine LP_ev ok 0 [(34, I (wr (x + 1))), (11, I (wr (x + 1)))] 2 rfl rfl ?_
    refine LP_end _ rfl ?_
    exact ⟨wr (x + 1), ⟨H.1, _, env_eq ⟨rfl, rfl, rfl, rfl, rfl, rfl, trivial⟩, X13, ex12⟩, H.2⟩
  have H := H.2 hc
  refine W_exit ?_
  refine (if_pos rfl).mpr ?_
  refine W_seq ?_
  refine W_region ?_
  refine LP_ev ok 0 [(6, .bool true)] 1 rfl rfl ?_
  refine LP_end _ rfl ?_
  refine W_ret ?_
  exact ⟨_, Ret_of [.bool true] ⟨⟨rfl, rfl⟩, trivial⟩, _, H, rfl, X2.ext⟩

set_option maxRecDepth 8000 in
set_option maxHeartbeats 4000000 in
theorem spec_sAt_w (sx : List Variable) (i : Int) (Q : (List Int) → Prop) (H : spec_sAt sx i Q) (w : World) {vx : Value} {hx : PH} (r : RS hx vx sx) (ex : Sub hx w) :
    CallsTo Try.prog 158 #[vx, I i] w fun v w' => ∃ r0 u0 g0, Q r0 ∧ v = u0 ∧ Ext w w' ∧ OS 3 g0 emp u0 r0 ∧ Sub g0 w' ∧ Fresh w.heap.size g0 := by
  obtain ⟨a, c, rfl⟩ := r.shape
  refine enter (args := [.slice a (List.length sx) c, I i]) 35 Try.func158 rfl rfl rfl ?_
  refine W_forget [(0, .slice a (List.length sx) c), (1, I i)] ⟨rfl, rfl, trivial⟩ fun ρ => ?_
  have X := But.refl emp w
  refine W_seq ?_
  refine W_region ?_
  refine LP_ev ok 0 [(4, .slice none 0 0)] 1 rfl rfl ?_
  refine LP_end _ rfl ?_
  refine W_seq ?_
  refine W_region ?_
  refine LP_ev ok 0 [(7, .slice a (List.length sx) c), (8, I (ln sx))] 2 rfl rfl ?_
  obtain ⟨hn, hb, H⟩ := H
  refine LP_make (α := Int) 2 rfl rfl rfl Try.underlying24 ti_3 (x0 := (0 : Int)) rfl rfl hn (by first | omega | (simp only [ln] at *; omega)) (by first | omega | (simp only [ln] at *; omega)) fun hx1 vx2 wx x o ex3 f => ?_
  obtain ⟨a4, c5, rfl⟩ := o.shape
  refine LP_ev ok 3 [(5, .slice a4 (List.length (List.replicate (Int.toNat (ln sx)) ((0 : Int)))) c5)] 4 rfl rfl ?_
  refine LP_end _ rfl ?_
  refine W_seq ?_
  refine W_seq ?_
  refine W_region ?_
  refine LP_ev ok 0 [(10, .slice a (List.length sx) c), (11, I (ln sx)), (12, I (wr ((ln sx) - 1))), (6, I (wr ((ln sx) - 1)))] 4 rfl rfl ?_
  refine LP_end _ rfl ?_
  refine W_block ?_
  have X15 := (X.stepx x)
  have f16 := f.mono X.size
  have ex17 := (ex.ext x)
  obtain ⟨J, m, Hx, H⟩ := H
  refine W_loop (S := Int × (List Int) × Int) (fun s ρ' w' => J s.1 s.2.1 s.2.2 ∧ ∃ (ρ : Env) (hx8 : PH), ρ' = setAll [(0, .slice a (List.length sx) c), (1, I s.1), (5, .slice a4 (List.length (List.replicate (Int.toNat (ln sx)) ((0 : Int)))) c5), (6, I s.2.2)] ρ ∧ But emp w w' ∧ OS 3 hx8 emp (.slice a4 (List.length (List.replicate (Int.toNat (ln sx)) ((0 : Int)))) c5) s.2.1 ∧ Sub hx8 w' ∧ Fresh w.heap.size hx8 ∧ Sub hx w' ∧ Dj hx8 hx) (fun s => m s.1 s.2.1 s.2.2) (i, List.replicate (Int.toNat (ln sx)) ((0 : Int)), wr ((ln sx) - 1)) ⟨Hx, _, hx1, env_eq ⟨rfl, rfl, rfl, rfl, trivial⟩, X15, o, ex3, f16, ex17, (Dj.of_fresh ex f).symm⟩ ?_
  rintro ⟨i6, out, k⟩ _ wx12 ⟨Hi, ρ, hx8, rfl, X14, o9, ex10, f11, ex13, d⟩
  have H := H i6 out k Hi
  refine W_seq ?_
  refine W_seq ?_
  refine W_region ?_
  refine LP_ev ok 0 [(13, I k), (14, .bool (decide (k ≥ 0)))] 2 rfl rfl ?_
  refine LP_end _ rfl ?_
  refine W_cond (decide (k ≥ 0)) rfl (fun hc => ?_) (fun hc => ?_)
  · have H := H.1 hc
    refine W_skip ?_
    refine W_seq ?_
    refine W_block ?_
    refine W_seq ?_
    refine W_region ?_
    refine LP_ev ok 0 [(17, .slice a4 (List.length (List.replicate (Int.toNat (ln sx)) ((0 : Int)))) c5), (18, I k), (19, I i6), (20, .slice a (List.length sx) c), (21, I k)] 5 rfl rfl ?_
    obtain ⟨x18, hi, hx19, H⟩ := H
    refine LP_index 5 rfl rfl rfl Try.underlying29 ti_107 rfl rfl r hi hx19 fun a20 cs r21 d22 => ?_
    refine LP_ev ok 6 [(23, .pointer (some (Addr.add a20 1)))] 7 rfl rfl ?_
    refine LP_ldfld (x := x18) (off := 1) 7 (v := I x18.Levels) rfl rfl rfl ti_3 ag_3 (fun _ => rfl) rfl r21 d22 ex13 rfl rfl ?_
    obtain ⟨hz, H⟩ := H
    refine LP_val 8 _ rfl rfl (ex_rem rfl rfl rfl hz _) ?_
    obtain ⟨hi23, hl, H⟩ := H
    refine LP_indexw (v := .slice a4 (List.length (List.replicate (Int.toNat (ln sx)) ((0 : Int)))) c5) 9 rfl rfl rfl Try.underlying24 ti_3 rfl rfl o9 hi23 hl fun a24 wa => ?_
    refine LP_set 10 rfl rfl rfl rfl rfl wa (Le.refl emp) ⟨_, rfl, rfl⟩ ex10 fun hx25 wx26 o27 ex28 y dm => ?_
    refine LP_end _ rfl ?_
    refine W_region ?_
    refine LP_ev ok 0 [(27, I i6), (28, .slice a (List.length sx) c), (29, I k)] 3 rfl rfl ?_
    obtain ⟨x29, hi30, hx31, H⟩ := H
    refine LP_index 3 rfl rfl rfl Try.underlying29 ti_107 rfl rfl r hi30 hx31 fun a32 cs33 r34 d35 => ?_
    refine LP_ev ok 4 [(31, .pointer (some (Addr.add a32 1)))] 5 rfl rfl ?_
    have ex36 := (ex13.but y d)
    refine LP_ldfld (x := x29) (off := 1) 5 (v := I x29.Levels) rfl rfl rfl ti_3 ag_3 (fun _ => rfl) rfl r34 d35 ex36 rfl rfl ?_
    obtain ⟨hz37, H⟩ := H
    refine LP_val 6 _ rfl rfl (ex_quo rfl rfl rfl hz37 _) ?_
    refine LP_ev ok 7 [(1, I (wr (Int.tdiv i6 x29.Levels)))] 8 rfl rfl ?_
    refine LP_end _ rfl ?_
    refine W_region ?_
    refine LP_ev ok 0 [(15, I k), (16, I (wr (k - 1))), (6, I (wr (k - 1)))] 3 rfl rfl ?_
    refine LP_end _ rfl ?_
    have X38 := (X14.step y (f11.dom _))
    have f39 := (dm _).fresh f11 X14.size
    exact ⟨(wr (Int.tdiv i6 x29.Levels), List.set out (Int.toNat k) (Int.tmod i6 x18.Levels), wr (k - 1)), ⟨H.1, _, hx25, env_eq ⟨rfl, rfl, rfl, rfl, trivial⟩, X38, o27, ex28, f39, ex36, (DomLe.dj (dm _) d ex13)⟩, H.2⟩
  have H := H.2 hc
  refine W_exit ?_
  refine (if_pos rfl).mpr ?_
  refine W_seq ?_
  refine W_region ?_
  refine LP_ev ok 0 [(34, .slice a4 (List.length (List.replicate (Int.toNat (ln sx)) ((0 : Int)))) c5), (4, .slice a4 (List.length (List.replicate (Int.toNat (ln sx)) ((0 : Int)))) c5)] 2 rfl rfl ?_
  refine LP_end _ rfl ?_
  refine W_ret ?_
  exact ⟨_, Ret_of [.slice a4 (List.length (List.replicate (Int.toNat (ln sx)) ((0 : Int)))) c5] ⟨⟨rfl, rfl⟩, trivial⟩, _, _, _, H, rfl, X14.ext, o9, ex10, f11⟩

set_option maxRecDepth 8000 in
set_option maxHeartbeats 4000000 in
theorem spec_eFails_w (ex : Edit) (values : List Int) (Q : Bool → Prop) (H : spec_eFails ex values Q) (w : World) {vx : Value} {hx : PH} (r : RS hx vx ex.Sets) (ex1 : Sub hx w) {vx2 : Value} {hx3 : PH} (r4 : RS hx3 vx2 values) (ex5 : Sub hx3 w) :
    CallsTo Try.prog 81 #[.agg #[vx], vx2] w fun v w' => ∃ r0, Q r0 ∧ v = .bool r0 ∧ Ext w w' := by
  obtain ⟨a, c, rfl⟩ := r.shape
  obtain ⟨a6, c7, rfl⟩ := r4.shape
  refine enter (args := [.agg #[.slice a (List.length ex.Sets) c], .slice a6 (List.length values) c7]) 25 Try.func81 rfl rfl rfl ?_
  refine W_forget [(0, .agg #[.slice a (List.length ex.Sets) c]), (1, .slice a6 (List.length values) c7)] ⟨rfl, rfl, trivial⟩ fun ρ => ?_
  have X := But.refl emp w
  refine W_seq ?_
  refine W_region ?_
  refine LP_box 0 (cs := [.slice a (List.length ex.Sets) c]) rfl rfl rfl rfl rfl fun b wx x ex8 f => ?_
  refine LP_ev ok 1 [(4, .bool false)] 2 rfl rfl ?_
  refine LP_end _ rfl ?_
  refine W_seq ?_
  refine W_seq ?_
  refine W_region ?_
  refine LP_ev ok 0 [(7, .slice a6 (List.length values) c7), (8, I (ln values)), (9, I 0)] 3 rfl rfl ?_
  refine LP_end _ rfl ?_
  refine W_block ?_
  obtain ⟨J, m, Hx, H⟩ := H
  refine W_loop (S := Int) (fun s ρ' w' => J s ∧ ∃ (ρ : Env), ρ' = setAll [(2, .pointer (some ⟨b, 0, none⟩)), (7, .slice a6 (List.length values) c7), (8, I (ln values)), (9, I s)] ρ ∧ wx = w') (fun s => m s) 0 ⟨Hx, _, env_eq ⟨rfl, rfl, rfl, rfl, trivial⟩, rfl⟩ ?_
  rintro x9 _ _ ⟨Hi, ρ, rfl, rfl⟩
  have H := H x9 Hi
  refine W_seq ?_
  refine W_region ?_
  refine LP_ev ok 0 [(10, .bool (decide (x9 < (ln values))))] 1 rfl rfl ?_
  refine LP_end _ rfl ?_
  refine W_seq ?_
  refine W_cond (decide (x9 < (ln values))) rfl (fun hc => ?_) (fun hc => ?_)
  · have H := H.1 hc
    refine W_skip ?_
    refine W_seq ?_
    refine W_block ?_
    refine W_seq ?_
    refine W_region ?_
    refine LP_ev ok 0 [(11, I x9)] 1 rfl rfl ?_
    obtain ⟨x11, hi, hx12, H⟩ := H
    refine LP_index 1 rfl rfl rfl Try.underlying24 ti_3 rfl rfl r4 hi hx12 fun a13 cs r14 d => ?_
    have ex15 := (ex5.ext x)
    refine LP_load 2 rfl rfl rfl ti_3 ag_3 rfl r14 d ex15 fun vx16 r17 => ?_
    obtain rfl := r17.int
    refine LP_ev ok 3 [(5, I x9), (6, I x11)] 5 rfl rfl ?_
    refine LP_end _ rfl ?_
    refine W_seq ?_
    refine W_region ?_
    refine LP_ev ok 0 [(14, .pointer (some ⟨b, 0, none⟩))] 1 rfl rfl ?_
    refine LP_ldbox 1 (v := .slice a (List.length ex.Sets) c) rfl rfl rfl ti_24 ag_24 (fun _ => rfl) rfl ex8 rfl rfl ?_
    refine LP_ev ok 2 [(16, I x9)] 3 rfl rfl ?_
    obtain ⟨x18, hi19, hx20, H⟩ := H
    refine LP_index 3 rfl rfl rfl Try.underlying24 ti_3 rfl rfl r hi19 hx20 fun a21 cs22 r23 d24 => ?_
    have ex25 := (ex1.ext x)
    refine LP_load 4 rfl rfl rfl ti_3 ag_3 rfl r23 d24 ex25 fun vx26 r27 => ?_
    obtain rfl := r27.int
    refine LP_ev ok 5 [(19, I x11), (20, .int .u64 (IntKind.u64.wrap (x11)))] 7 rfl rfl ?_
    obtain ⟨hz, H⟩ := H
    refine LP_val 7 _ rfl rfl (ex_shr rfl rfl rfl hz _) ?_
    refine LP_ev ok 8 [(22, I (bits .and .i64 (shr .i64 x18 (IntKind.u64.wrap (x11))) 1)), (23, .bool ((bits .and .i64 (shr .i64 x18 (IntKind.u64.wrap (x11))) 1) == 0))] 10 rfl rfl ?_
    refine LP_end _ rfl ?_
    refine W_cond ((bits .and .i64 (shr .i64 x18 (IntKind.u64.wrap (x11))) 1) == 0) rfl (fun hc28 => ?_) (fun hc28 => ?_)
    · have H := H.1 hc28
      refine W_seq ?_
      refine W_region ?_
      refine LP_ev ok 0 [(4, .bool false)] 1 rfl rfl ?_
      refine LP_end _ rfl ?_
      refine W_ret ?_
      have X29 := (X.stepx x)
      exact ⟨_, Ret_of [.bool false] ⟨⟨rfl, rfl⟩, trivial⟩, _, H, rfl, X29.ext⟩
    have H := H.2 hc28
    refine W_skip ?_
    refine W_region ?_
    refine LP_ev ok 0 [(24, I (wr (x9 + 1))), (9, I (wr (x9 + 1)))] 2 rfl rfl ?_
    refine LP_end _ rfl ?_
    exact ⟨wr (x9 + 1), ⟨H.1, _, env_eq ⟨rfl, rfl, rfl, rfl, trivial⟩, rfl⟩, H.2⟩
  have H := H.2 hc
  refine W_exit ?_
  refine (if_pos rfl).mpr ?_
  refine W_seq ?_
  refine W_region ?_
  refine LP_ev ok 0 [(4, .bool true)] 1 rfl rfl ?_
  refine LP_end _ rfl ?_
  refine W_ret ?_
  have X30 := (X.stepx x)
  exact ⟨_, Ret_of [.bool true] ⟨⟨rfl, rfl⟩, trivial⟩, _, H, rfl, X30.ext⟩

set_option maxRecDepth 8000 in
set_option maxHeartbeats 4000000 in
theorem spec_eFailed_w (l : List Edit) (values : List Int) (Q : (List Int) → Prop) (H : spec_eFailed l values Q) (w : World) {vx : Value} {hx : PH} (r : RS hx vx l) (ex : Sub hx w) {vx1 : Value} {hx2 : PH} (r3 : RS hx2 vx1 values) (ex4 : Sub hx2 w) :
    CallsTo Try.prog 159 #[vx, vx1] w fun v w' => ∃ r0 u0 g0, Q r0 ∧ v = u0 ∧ Ext w w' ∧ OS 3 g0 emp u0 r0 ∧ Sub g0 w' ∧ Fresh w.heap.size g0 := by
  obtain ⟨a, c, rfl⟩ := r.shape
  obtain ⟨a5, c6, rfl⟩ := r3.shape
  refine enter (args := [.slice a (List.length l) c, .slice a5 (List.length values) c6]) 24 Try.func159 rfl rfl rfl ?_
  refine W_forget [(0, .slice a (List.length l) c), (1, .slice a5 (List.length values) c6)] ⟨rfl, rfl, trivial⟩ fun ρ => ?_
  have X := But.refl emp w
  refine W_seq ?_
  refine W_region ?_
  refine LP_ev ok 0 [(4, .slice none 0 0)] 1 rfl rfl ?_
  refine LP_end _ rfl ?_
  refine W_seq ?_
  refine W_region ?_
  refine LP_ev ok 0 [(5, .slice none 0 0)] 1 rfl rfl ?_
  refine LP_end _ rfl ?_
  refine W_seq ?_
  refine W_seq ?_
  refine W_region ?_
  refine LP_ev ok 0 [(8, .slice a (List.length l) c), (9, I (ln l)), (10, I 0)] 3 rfl rfl ?_
  refine LP_end _ rfl ?_
  refine W_block ?_
  obtain ⟨J, m, Hx, H⟩ := H
  refine W_loop (S := (List Int) × Int) (fun s ρ' w' => J s.1 s.2 ∧ ∃ (ρ : Env) (vx7 : Value) (hx8 : PH), ρ' = setAll [(1, .slice a5 (List.length values) c6), (5, vx7), (8, .slice a (List.length l) c), (9, I (ln l)), (10, I s.2)] ρ ∧ But emp w w' ∧ OS 3 hx8 emp vx7 s.1 ∧ Sub hx8 w' ∧ Fresh w.heap.size hx8 ∧ Sub hx w' ∧ Sub hx2 w' ∧ Dj hx8 hx ∧ Dj hx8 hx2) (fun s => m s.1 s.2) ([], 0) ⟨Hx, _, .slice none 0 0, emp, env_eq ⟨rfl, rfl, rfl, rfl, rfl, trivial⟩, X, OS.nil, (emp_sub _), (emp_fresh _), ex, ex4, (fun _ => .inl rfl), (fun _ => .inl rfl)⟩ ?_
  rintro ⟨out, x⟩ _ wx ⟨Hi, ρ, vx7, hx8, rfl, X15, o, ex9, f, ex10, ex11, d, d14⟩
  have H := H out x Hi
  obtain ⟨a12, c13, rfl⟩ := o.shape
  refine W_seq ?_
  refine W_region ?_
  refine LP_ev ok 0 [(11, .bool (decide (x < (ln l))))] 1 rfl rfl ?_
  refine LP_end _ rfl ?_
  refine W_seq ?_
  refine W_cond (decide (x < (ln l))) rfl (fun hc => ?_) (fun hc => ?_)
  · have H := H.1 hc
    refine W_skip ?_
    obtain ⟨k, hk, H⟩ := jn_elim H
    refine W_join2 (S := (List Int)) (fun s ρ' w' => k s ∧ ∃ (ρ : Env) (vx17 : Value) (hx18 : PH), ρ' = setAll [(1, .slice a5 (List.length values) c6), (5, vx17), (8, .slice a (List.length l) c), (9, I (ln l)), (10, I x)] ρ ∧ But emp w w' ∧ OS 3 hx18 emp vx17 s ∧ Sub hx18 w' ∧ Fresh w.heap.size hx18 ∧ Sub hx w' ∧ Sub hx2 w' ∧ Dj hx18 hx ∧ Dj hx18 hx2) ?_ ?_
    · refine W_block ?_
      refine W_seq ?_
      refine W_region ?_
      refine LP_ev ok 0 [(12, I x)] 1 rfl rfl ?_
      obtain ⟨x30, hi, hx31, H⟩ := H
      refine LP_index 1 rfl rfl rfl Try.underlying31 ti_50 rfl rfl r hi hx31 fun a32 cs r33 d34 => ?_
      have d35 := d34
      obtain ⟨u, rfl, r36⟩ := Edit_rd d35
      obtain ⟨a37, c38, rfl⟩ := r36.shape
      refine LP_load 2 rfl rfl rfl ti_50 ag_50 rfl r33 d34 ex10 fun vx39 r40 => ?_
      obtain ⟨u41, rfl, r42⟩ := Edit_rv r40
      obtain ⟨a43, c44, rfl⟩ := r42.shape
      refine LP_alloc 3 rfl rfl rfl ti_50 rfl fun b wx45 x46 ex47 f48 => ?_
      refine LP_ev ok 4 [(6, I x)] 5 rfl rfl ?_
      refine LP_stbox 5 (vs := [.slice a43 (List.length x30.Sets) c44]) (cs' := [.slice a43 (List.length x30.Sets) c44]) rfl rfl rfl ti_50 rfl rfl rfl rfl rfl ex47 rfl rfl fun wx49 ex50 y => ?_
      refine LP_end _ rfl ?_
      refine W_seq ?_
      refine W_region ?_
      refine LP_ldbox 0 (v := .agg #[.slice a43 (List.length x30.Sets) c44]) rfl rfl rfl ti_50 ag_50 (fun h => by cases h) rfl ex50 rfl rfl ?_
      refine LP_ev ok 1 [(16, .slice a5 (List.length values) c6)] 2 rfl rfl ?_
      have ex52 := ((ex10.ext x46).but y (Dj.of_fresh ex10 f48).symm)
      have ex53 := ((ex11.ext x46).but y (Dj.of_fresh ex11 f48).symm)
      refine LP_call 2 rfl rfl rfl cal_81 rfl (spec_eFails_w _ _ _ H wx49 r42 ex52 r3 ex53) ?_
      rintro _ wx54 ⟨r51, H, rfl, x55⟩
      refine LP_end _ rfl ?_
      refine W_cond (r51) rfl (fun hc56 => ?_) (fun hc56 => ?_)
      · have H := H.1 hc56
        refine W_region ?_
        refine LP_ev ok 0 [(18, .slice a12 (List.length out) c13), (19, I x)] 2 rfl rfl ?_
        refine LP_lit (α := Int) (g := emp) 2 (vs := [I x]) (xs := [x]) rfl rfl rfl Try.underlying24 ti_3 rfl rfl ⟨⟨_, rfl, rfl⟩, trivial⟩ rfl rfl fun hx57 vx58 wx59 x60 o61 ex62 f63 => ?_
        obtain ⟨a64, c65, rfl⟩ := o61.shape
        have ex66 := ((((ex9.ext x46).but y (Dj.of_fresh ex9 f48).symm).ext x55).ext x60)
        obtain ⟨hb, H⟩ := H
        refine LP_appendf (α := Int) 3 rfl rfl rfl Try.underlying24 ti_3 rfl rfl rfl o ex66 o61.readf ex62 (by first | omega | (simp only [ln] at *; omega)) (by first | omega | (simp only [ln] at *; omega)) fun hx67 vx68 wx69 o70 ex71 y72 dm => ?_
        obtain ⟨a73, c74, rfl⟩ := o70.shape
        refine LP_ev ok 4 [(5, .slice a73 (List.length (out ++ ([x]))) c74)] 5 rfl rfl ?_
        refine LP_end _ rfl ?_
        have f75 := f48.mono X15.size
        have X76 := (((((X15.stepx x46).step y (f75.dom _)).stepx x55).stepx x60).step y72 (f.dom _))
        have X78 := ((((X15.stepx x46).step y (f75.dom _)).stepx x55).stepx x60)
        have f77 := dm.fresh f X78.size
        have ex79 := (((ex52.ext x55).ext x60).but y72 d)
        have ex80 := (((ex53.ext x55).ext x60).but y72 d14)
        have ex81 := ((ex52.ext x55).ext x60)
        have ex82 := ((ex53.ext x55).ext x60)
        exact ⟨out ++ ([x]), H, _, .slice a73 (List.length (out ++ ([x]))) c74, hx67, env_eq ⟨rfl, rfl, rfl, rfl, rfl, trivial⟩, X76, o70, ex71, f77, ex79, ex80, (DomLe.dj dm d ex81), (DomLe.dj dm d14 ex82)⟩
      have H := H.2 hc56
      refine W_skip ?_
      have f83 := f48.mono X15.size
      have X84 := (((X15.stepx x46).step y (f83.dom _)).stepx x55)
      have ex85 := (((ex9.ext x46).but y (Dj.of_fresh ex9 f48).symm).ext x55)
      have ex86 := (ex52.ext x55)
      have ex87 := (ex53.ext x55)
      exact ⟨out, H, _, .slice a12 (List.length out) c13, hx8, env_eq ⟨rfl, rfl, rfl, rfl, rfl, trivial⟩, X84, o, ex85, f, ex86, ex87, d, d14⟩
    rintro out16 _ wx22 ⟨H, ρ, vx17, hx18, rfl, X29, o19, ex20, f21, ex23, ex24, d27, d28⟩
    subst hk
    obtain ⟨a25, c26, rfl⟩ := o19.shape
    refine W_region ?_
    refine LP_ev ok 0 [(22, I (wr (x + 1))), (10, I (wr (x + 1)))] 2 rfl rfl ?_
    refine LP_end _ rfl ?_
    exact ⟨(out16, wr (x + 1)), ⟨H.1, _, .slice a25 (List.length out16) c26, hx18, env_eq ⟨rfl, rfl, rfl, rfl, rfl, trivial⟩, X29, o19, ex20, f21, ex23, ex24, d27, d28⟩, H.2⟩
  have H := H.2 hc
  refine W_exit ?_
  refine (if_pos rfl).mpr ?_
  refine W_seq ?_
  refine W_region ?_
  refine LP_ev ok 0 [(23, .slice a12 (List.length out) c13), (4, .slice a12 (List.length out) c13)] 2 rfl rfl ?_
  refine LP_end _ rfl ?_
  refine W_ret ?_
  exact ⟨_, Ret_of [.slice a12 (List.length out) c13] ⟨⟨rfl, rfl⟩, trivial⟩, _, _, _, H, rfl, X15.ext, o, ex9, f⟩

set_option maxRecDepth 8000 in
set_option maxHeartbeats 4000000 in
theorem spec_eSearch_free_w (x : ESearch) (sets : List Int) (Q : Bool → Prop) (H : spec_eSearch_free x sets Q) (w : World) {vx : Value} {hx : PH} (r : RS hx vx x.S) (ex : Sub hx w) {vx1 : Value} {hx2 : PH} (r3 : RS hx2 vx1 x.Passing) (ex4 : Sub hx2 w) {vx7 : Value} {hx8 : PH} (r9 : RS hx8 vx7 x.Out) (ex10 : Sub hx8 w) {b : Nat} (ex13 : Sub (bx b 172 [vx, vx1, I x.V, vx7]) w) {vx14 : Value} {hx15 : PH} (r16 : RS hx15 vx14 sets) (ex17 : Sub hx15 w) :
    CallsTo Try.prog 217 #[.pointer (some ⟨b, 0, none⟩), vx14] w fun v w' => ∃ r0, Q r0 ∧ v = .bool r0 ∧ Ext w w' := by
  obtain ⟨a, c, rfl⟩ := r.shape
  obtain ⟨a5, c6, rfl⟩ := r3.shape
  obtain ⟨a11, c12, rfl⟩ := r9.shape
  obtain ⟨a18, c19, rfl⟩ := r16.shape
  refine enter (args := [.pointer (some ⟨b, 0, none⟩), .slice a18 (List.length sets) c19]) 21 Try.func217 rfl rfl rfl ?_
  refine W_forget [(0, .pointer (some ⟨b, 0, none⟩)), (1, .slice a18 (List.length sets) c19)] ⟨rfl, rfl, trivial⟩ fun ρ => ?_
  have X := But.refl emp w
  refine W_seq ?_
  refine W_region ?_
  refine LP_ev ok 0 [(4, .bool false)] 1 rfl rfl ?_
  refine LP_end _ rfl ?_
  refine W_seq ?_
  refine W_seq ?_
  refine W_region ?_
  refine LP_ev ok 0 [(7, .pointer (some ⟨b, 0, none⟩)), (8, .pointer (some ⟨b, 0, none⟩)), (9, .pointer (some ⟨b, 1, none⟩))] 3 rfl rfl ?_
  refine LP_ldbox 3 (v := .slice a5 (List.length x.Passing) c6) rfl rfl rfl ti_65 ag_65 (fun _ => rfl) rfl ex13 rfl rfl ?_
  refine LP_ev ok 4 [(11, I (ln x.Passing)), (12, I 0)] 6 rfl rfl ?_
  refine LP_end _ rfl ?_
  refine W_block ?_
  obtain ⟨J, m, Hx, H⟩ := H
  refine W_loop (S := Int) (fun s ρ' w' => J s ∧ ∃ (ρ : Env), ρ' = setAll [(1, .slice a18 (List.length sets) c19), (10, .slice a5 (List.length x.Passing) c6), (11, I (ln x.Passing)), (12, I s)] ρ ∧ But emp w w' ∧ Sub hx2 w' ∧ Sub hx15 w') (fun s => m s) 0 ⟨Hx, _, env_eq ⟨rfl, rfl, rfl, rfl, trivial⟩, X, ex4, ex17⟩ ?_
  rintro x20 _ wx ⟨Hi, ρ, rfl, X23, ex21, ex22⟩
  have H := H x20 Hi
  refine W_seq ?_
  refine W_region ?_
  refine LP_ev ok 0 [(13, .bool (decide (x20 < (ln x.Passing))))] 1 rfl rfl ?_
  refine LP_end _ rfl ?_
  refine W_seq ?_
  refine W_cond (decide (x20 < (ln x.Passing))) rfl (fun hc => ?_) (fun hc => ?_)
  · have H := H.1 hc
    refine W_skip ?_
    refine W_seq ?_
    refine W_block ?_
    refine W_seq ?_
    refine W_region ?_
    obtain ⟨x24, hi, hx25, H⟩ := H
    refine LP_index 0 rfl rfl rfl Try.underlying65 ti_24 rfl rfl r3 hi hx25 fun a26 cs r27 d => ?_
    refine LP_load 1 rfl rfl rfl ti_24 ag_24 rfl r27 d ex21 fun vx28 r29 => ?_
    have r32 := r29.slice
    obtain ⟨a30, c31, rfl⟩ := r32.shape
    refine LP_ev ok 2 [(6, .slice a30 (List.length x24) c31)] 3 rfl rfl ?_
    refine LP_end _ rfl ?_
    refine W_seq ?_
    refine W_region ?_
    refine LP_ev ok 0 [(16, .slice a18 (List.length sets) c19), (17, .agg #[.slice a18 (List.length sets) c19]), (18, .slice a30 (List.length x24) c31)] 3 rfl rfl ?_
    refine LP_call 3 rfl rfl rfl cal_81 rfl (spec_eFails_w _ _ _ H wx r16 ex22 r32 ex21) ?_
    rintro _ wx34 ⟨r33, H, rfl, x35⟩
    refine LP_end _ rfl ?_
    refine W_cond (r33) rfl (fun hc36 => ?_) (fun hc36 => ?_)
    · have H := H.1 hc36
      refine W_seq ?_
      refine W_region ?_
      refine LP_ev ok 0 [(4, .bool false)] 1 rfl rfl ?_
      refine LP_end _ rfl ?_
      refine W_ret ?_
      have X37 := (X23.stepx x35)
      exact ⟨_, Ret_of [.bool false] ⟨⟨rfl, rfl⟩, trivial⟩, _, H, rfl, X37.ext⟩
    have H := H.2 hc36
    refine W_skip ?_
    refine W_region ?_
    refine LP_ev ok 0 [(20, I (wr (x20 + 1))), (12, I (wr (x20 + 1)))] 2 rfl rfl ?_
    refine LP_end _ rfl ?_
    have X38 := (X23.stepx x35)
    have ex39 := (ex21.ext x35)
    have ex40 := (ex22.ext x35)
    exact ⟨wr (x20 + 1), ⟨H.1, _, env_eq ⟨rfl, rfl, rfl, rfl, trivial⟩, X38, ex39, ex40⟩, H.2⟩
  have H := H.2 hc
  refine W_exit ?_
  refine (if_pos rfl).mpr ?_
  refine W_seq ?_
  refine W_region ?_
  refine LP_ev ok 0 [(4, .bool true)] 1 rfl rfl ?_
  refine LP_end _ rfl ?_
  refine W_ret ?_
  exact ⟨_, Ret_of [.bool true] ⟨⟨rfl, rfl⟩, trivial⟩, _, H, rfl, X23.ext⟩

set_option maxRecDepth 8000 in
set_option maxHeartbeats 4000000 in
theorem spec_l1Own_w (l : List Int) (Q : (List Int) → Prop) (H : spec_l1Own l Q) (w : World) {vx : Value} {hx : PH} (r : RS hx vx l) (ex : Sub hx w) :
    CallsTo Try.prog 214 #[vx] w fun v w' => ∃ r0 u0 g0, Q r0 ∧ v = u0 ∧ Ext w w' ∧ OS 3 g0 emp u0 r0 ∧ Sub g0 w' ∧ Fresh w.heap.size g0 := by
  obtain ⟨a, c, rfl⟩ := r.shape
  refine enter (args := [.slice a (List.length l) c]) 6 Try.func214 rfl rfl rfl ?_
  refine W_forget [(0, .slice a (List.length l) c)] ⟨rfl, trivial⟩ fun ρ => ?_
  have X := But.refl emp w
  refine W_seq ?_
  refine W_region ?_
  refine LP_ev ok 0 [(2, .slice none 0 0)] 1 rfl rfl ?_
  refine LP_end _ rfl ?_
  refine W_seq ?_
  refine W_region ?_
  refine LP_lit (α := Int) (g := emp) 0 (vs := []) (xs := []) rfl rfl rfl Try.underlying24 ti_3 rfl rfl trivial rfl rfl fun hx1 vx2 wx x o ex3 f => ?_
  obtain ⟨a4, c5, rfl⟩ := o.shape
  refine LP_ev ok 1 [(4, .slice a (List.length l) c)] 2 rfl rfl ?_
  have ex6 := (ex.ext x)
  obtain ⟨hb, H⟩ := H
  refine LP_appendf (α := Int) 2 rfl rfl rfl Try.underlying24 ti_3 rfl rfl rfl o ex3 r ex6 (by first | omega | (simp only [ln] at *; omega)) (by first | omega | (simp only [ln] at *; omega)) fun hx7 vx8 wx9 o10 ex11 y dm => ?_
  obtain ⟨a12, c13, rfl⟩ := o10.shape
  refine LP_ev ok 3 [(2, .slice a12 (List.length ((([] : List Int)) ++ l)) c13)] 4 rfl rfl ?_
  refine LP_end _ rfl ?_
  refine W_ret ?_
  have f15 := f.mono X.size
  have X16 := (X.stepx x)
  have f14 := dm.fresh f15 X16.size
  have X17 := (X16.step y (f15.dom _))
  exact ⟨_, Ret_of [.slice a12 (List.length ((([] : List Int)) ++ l)) c13] ⟨⟨rfl, rfl⟩, trivial⟩, _, _, _, H, rfl, X17.ext, o10, ex11, f14⟩

set_option maxRecDepth 8000 in
set_option maxHeartbeats 4000000 in
theorem spec_eSearch_grows_w (x : ESearch) (sets : List Int) (Q : Bool → Prop) (H : spec_eSearch_grows x sets Q) (w : World) {vx : Value} {hx : PH} (r : RS hx vx x.S) (ex : Sub hx w) {vx1 : Value} {hx2 : PH} (r3 : RS hx2 vx1 x.Passing) (ex4 : Sub hx2 w) {vx7 : Value} {hx8 : PH} (r9 : RS hx8 vx7 x.Out) (ex10 : Sub hx8 w) {b : Nat} (ex13 : Sub (bx b 172 [vx, vx1, I x.V, vx7]) w) {vx14 : Value} {hx15 : PH} (r16 : RS hx15 vx14 sets) (ex17 : Sub hx15 w) :
    CallsTo Try.prog 218 #[.pointer (some ⟨b, 0, none⟩), vx14] w fun v w' => ∃ r0, Q r0 ∧ v = .bool r0 ∧ Ext w w' := by
  obtain ⟨a, c, rfl⟩ := r.shape
  obtain ⟨a5, c6, rfl⟩ := r3.shape
  obtain ⟨a11, c12, rfl⟩ := r9.shape
  obtain ⟨a18, c19, rfl⟩ := r16.shape
  refine enter (args := [.pointer (some ⟨b, 0, none⟩), .slice a18 (List.length sets) c19]) 49 Try.func218 rfl rfl rfl ?_
  refine W_forget [(0, .pointer (some ⟨b, 0, none⟩)), (1, .slice a18 (List.length sets) c19)] ⟨rfl, rfl, trivial⟩ fun ρ => ?_
  have X := But.refl emp w
  refine W_seq ?_
  refine W_region ?_
  refine LP_ev ok 0 [(4, .bool false)] 1 rfl rfl ?_
  refine LP_end _ rfl ?_
  refine W_seq ?_
  refine W_seq ?_
  refine W_region ?_
  refine LP_ev ok 0 [(8, .slice a18 (List.length sets) c19), (9, I (ln sets)), (10, I 0)] 3 rfl rfl ?_
  refine LP_end _ rfl ?_
  refine W_block ?_
  obtain ⟨J, m, Hx, H⟩ := H
  refine W_loop (S := Int) (fun s ρ' w' => J s ∧ ∃ (ρ : Env), ρ' = setAll [(0, .pointer (some ⟨b, 0, none⟩)), (1, .slice a18 (List.length sets) c19), (9, I (ln sets)), (10, I s)] ρ ∧ But emp w w' ∧ Sub hx w' ∧ Sub hx2 w' ∧ Sub hx8 w' ∧ Sub (bx b 172 [.slice a (List.length x.S) c, .slice a5 (List.length x.Passing) c6, I x.V, .slice a11 (List.length x.Out) c12]) w' ∧ Sub hx15 w') (fun s => m s) 0 ⟨Hx, _, env_eq ⟨rfl, rfl, rfl, rfl, trivial⟩, X, ex, ex4, ex10, ex13, ex17⟩ ?_
  rintro x20 _ wx ⟨Hi, ρ, rfl, X26, ex21, ex22, ex23, ex24, ex25⟩
  have H := H x20 Hi
  refine W_seq ?_
  refine W_region ?_
  refine LP_ev ok 0 [(11, .bool (decide (x20 < (ln sets))))] 1 rfl rfl ?_
  refine LP_end _ rfl ?_
  refine W_seq ?_
  refine W_cond (decide (x20 < (ln sets))) rfl (fun hc => ?_) (fun hc => ?_)
  · have H := H.1 hc
    refine W_skip ?_
    refine W_seq ?_
    refine W_block ?_
    refine W_seq ?_
    refine W_region ?_
    refine LP_ev ok 0 [(12, I x20), (5, I x20)] 2 rfl rfl ?_
    refine LP_end _ rfl ?_
    refine W_seq ?_
    refine W_region ?_
    refine LP_ev ok 0 [(6, I 0)] 1 rfl rfl ?_
    refine LP_end _ rfl ?_
    refine W_block ?_
    obtain ⟨J34, m35, Hx36, H⟩ := H
    refine W_loop (S := Int) (fun s ρ' w' => J34 s ∧ ∃ (ρ : Env), ρ' = setAll [(0, .pointer (some ⟨b, 0, none⟩)), (1, .slice a18 (List.length sets) c19), (5, I x20), (6, I s), (9, I (ln sets)), (10, I x20)] ρ ∧ But emp w w' ∧ Sub hx w' ∧ Sub hx2 w' ∧ Sub hx8 w' ∧ Sub (bx b 172 [.slice a (List.length x.S) c, .slice a5 (List.length x.Passing) c6, I x.V, .slice a11 (List.length x.Out) c12]) w' ∧ Sub hx15 w') (fun s => m35 s) 0 ⟨Hx36, _, env_eq ⟨rfl, rfl, rfl, rfl, rfl, rfl, trivial⟩, X26, ex21, ex22, ex23, ex24, ex25⟩ ?_
    rintro level _ wx27 ⟨Hi, ρ, rfl, X33, ex28, ex29, ex30, ex31, ex32⟩
    have H := H level Hi
    refine W_seq ?_
    refine W_seq ?_
    refine W_region ?_
    refine LP_ev ok 0 [(13, I level), (14, .pointer (some ⟨b, 0, none⟩)), (15, .pointer (some ⟨b, 0, none⟩)), (16, .pointer (some ⟨b, 0, none⟩))] 4 rfl rfl ?_
    refine LP_ldbox 4 (v := .slice a (List.length x.S) c) rfl rfl rfl ti_29 ag_29 (fun _ => rfl) rfl ex31 rfl rfl ?_
    refine LP_ev ok 5 [(18, I x20)] 6 rfl rfl ?_
    obtain ⟨x38, hi, hx39, H⟩ := H
    refine LP_index 6 rfl rfl rfl Try.underlying29 ti_107 rfl rfl r hi hx39 fun a40 cs r41 d => ?_
    refine LP_ev ok 7 [(20, .pointer (some (Addr.add a40 1)))] 8 rfl rfl ?_
    refine LP_ldfld (x := x38) (off := 1) 8 (v := I x38.Levels) rfl rfl rfl ti_3 ag_3 (fun _ => rfl) rfl r41 d ex28 rfl rfl ?_
    refine LP_ev ok 9 [(22, .bool (decide (level < x38.Levels)))] 10 rfl rfl ?_
    refine LP_end _ rfl ?_
    refine W_cond (decide (level < x38.Levels)) rfl (fun hc42 => ?_) (fun hc42 => ?_)
    · have H := H.1 hc42
      refine W_skip ?_
      obtain ⟨k, hk, H⟩ := jn_elim H
      refine W_join2 (S := Unit) (fun s ρ' w' => k ∧ ∃ (ρ : Env), ρ' = setAll [(0, .pointer (some ⟨b, 0, none⟩)), (1, .slice a18 (List.length sets) c19), (5, I x20), (6, I level), (9, I (ln sets)), (10, I x20)] ρ ∧ But emp w w' ∧ Sub hx w' ∧ Sub hx2 w' ∧ Sub hx8 w' ∧ Sub (bx b 172 [.slice a (List.length x.S) c, .slice a5 (List.length x.Passing) c6, I x.V, .slice a11 (List.length x.Out) c12]) w' ∧ Sub hx15 w') ?_ ?_
      · refine W_block ?_
        refine W_seq ?_
        refine W_seq ?_
        refine W_region ?_
        refine LP_ev ok 0 [(25, .slice a18 (List.length sets) c19), (26, I x20)] 2 rfl rfl ?_
        obtain ⟨x50, hi51, hx52, H⟩ := H
        refine LP_index 2 rfl rfl rfl Try.underlying24 ti_3 rfl rfl r16 hi51 hx52 fun a53 cs54 r55 d56 => ?_
        refine LP_load 3 rfl rfl rfl ti_3 ag_3 rfl r55 d56 ex32 fun vx57 r58 => ?_
        obtain rfl := r58.int
        refine LP_ev ok 4 [(29, I level), (30, .int .u64 (IntKind.u64.wrap (level)))] 6 rfl rfl ?_
        obtain ⟨hz, H⟩ := H
        refine LP_val 6 _ rfl rfl (ex_shr rfl rfl rfl hz _) ?_
        refine LP_ev ok 7 [(32, I (bits .and .i64 (shr .i64 x50 (IntKind.u64.wrap (level))) 1)), (33, .bool ((bits .and .i64 (shr .i64 x50 (IntKind.u64.wrap (level))) 1) == 1))] 9 rfl rfl ?_
        refine LP_end _ rfl ?_
        refine W_cond ((bits .and .i64 (shr .i64 x50 (IntKind.u64.wrap (level))) 1) == 1) rfl (fun hc59 => ?_) (fun hc59 => ?_)
        · have H := H.1 hc59
          refine W_exit ?_
          refine (if_pos rfl).mpr ?_
          exact ⟨(), H, _, env_eq ⟨rfl, rfl, rfl, rfl, rfl, rfl, trivial⟩, X33, ex28, ex29, ex30, ex31, ex32⟩
        have H := H.2 hc59
        refine W_skip ?_
        refine W_seq ?_
        refine W_region ?_
        refine LP_ev ok 0 [(34, .slice a18 (List.length sets) c19)] 1 rfl rfl ?_
        refine LP_call 1 rfl rfl rfl cal_214 rfl (spec_l1Own_w _ _ H wx27 r16 ex32) ?_
        rintro _ wx61 ⟨r60, vx63, hx64, H, rfl, x62, o, ex65, f⟩
        obtain ⟨a66, c67, rfl⟩ := o.shape
        refine LP_ev ok 2 [(7, .slice a66 (List.length r60) c67)] 3 rfl rfl ?_
        refine LP_end _ rfl ?_
        refine W_seq ?_
        refine W_region ?_
        refine LP_ev ok 0 [(36, .slice a66 (List.length r60) c67), (37, I x20)] 2 rfl rfl ?_
        obtain ⟨x68, hi69, hx70, H⟩ := H
        refine LP_index 2 rfl rfl rfl Try.underlying24 ti_3 rfl rfl o.readf hi69 hx70 fun a71 cs72 r73 d74 => ?_
        refine LP_load 3 rfl rfl rfl ti_3 ag_3 rfl r73 d74 ex65 fun vx75 r76 => ?_
        obtain rfl := r76.int
        refine LP_ev ok 4 [(40, I level), (41, .int .u64 (IntKind.u64.wrap (level)))] 6 rfl rfl ?_
        obtain ⟨hz77, H⟩ := H
        refine LP_val 6 _ rfl rfl (ex_shl rfl rfl rfl hz77 _) ?_
        refine LP_ev ok 7 [(43, I (bits .or .i64 x68 (shl .i64 1 (IntKind.u64.wrap (level)))))] 8 rfl rfl ?_
        obtain ⟨hi78, hl, H⟩ := H
        refine LP_indexw (v := .slice a66 (List.length r60) c67) 8 rfl rfl rfl Try.underlying24 ti_3 rfl rfl o hi78 hl fun a79 wa => ?_
        refine LP_set 9 rfl rfl rfl rfl rfl wa (Le.refl emp) ⟨_, rfl, rfl⟩ ex65 fun hx80 wx81 o82 ex83 y dm => ?_
        refine LP_end _ rfl ?_
        try refine W_forget [(0, .pointer (some ⟨b, 0, none⟩)), (1, .slice a18 (List.length sets) c19), (5, I x20), (6, I level), (7, .slice a66 (List.length r60) c67), (9, I (ln sets)), (10, I x20)] ⟨rfl, rfl, rfl, rfl, rfl, rfl, rfl, trivial⟩ fun ρ => ?_
        refine W_seq ?_
        refine W_region ?_
        refine LP_ev ok 0 [(45, .pointer (some ⟨b, 0, none⟩)), (46, .slice a66 (List.length r60) c67)] 2 rfl rfl ?_
        have ex85 := ((ex28.ext x62).but y (Dj.of_fresh ex28 f).symm)
        have ex86 := ((ex29.ext x62).but y (Dj.of_fresh ex29 f).symm)
        have ex87 := ((ex30.ext x62).but y (Dj.of_fresh ex30 f).symm)
        have ex88 := ((ex31.ext x62).but y (Dj.of_fresh ex31 f).symm)
        refine LP_call 2 rfl rfl rfl cal_217 rfl (spec_eSearch_free_w _ _ _ H wx81 r ex85 r3 ex86 r9 ex87 ex88 o82.readf ex83) ?_
        rintro _ wx89 ⟨r84, H, rfl, x90⟩
        refine LP_end _ rfl ?_
        refine W_cond (r84) rfl (fun hc91 => ?_) (fun hc91 => ?_)
        · have H := H.1 hc91
          refine W_seq ?_
          refine W_region ?_
          refine LP_ev ok 0 [(4, .bool true)] 1 rfl rfl ?_
          refine LP_end _ rfl ?_
          refine W_ret ?_
          have f92 := f.mono X33.size
          have X93 := (((X33.stepx x62).step y (f92.dom _)).stepx x90)
          exact ⟨_, Ret_of [.bool true] ⟨⟨rfl, rfl⟩, trivial⟩, _, H, rfl, X93.ext⟩
        have H := H.2 hc91
        refine W_skip ?_
        have f94 := f.mono X33.size
        have X95 := (((X33.stepx x62).step y (f94.dom _)).stepx x90)
        have ex96 := (ex85.ext x90)
        have ex97 := (ex86.ext x90)
        have ex98 := (ex87.ext x90)
        have ex99 := (ex88.ext x90)
        have ex100 := (((ex32.ext x62).but y (Dj.of_fresh ex32 f).symm).ext x90)
        exact ⟨(), H, _, env_eq ⟨rfl, rfl, rfl, rfl, rfl, rfl, trivial⟩, X95, ex96, ex97, ex98, ex99, ex100⟩
      rintro ⟨⟩ _ wx43 ⟨H, ρ, rfl, X49, ex44, ex45, ex46, ex47, ex48⟩
      subst hk
      refine W_region ?_
      refine LP_ev ok 0 [(23, I level), (24, I (wr (level + 1))), (6, I (wr (level + 1)))] 3 rfl rfl ?_
      refine LP_end _ rfl ?_
      exact ⟨wr (level + 1), ⟨H.1, _, env_eq ⟨rfl, rfl, rfl, rfl, rfl, rfl, trivial⟩, X49, ex44, ex45, ex46, ex47, ex48⟩, H.2⟩
    have H := H.2 hc42
    refine W_exit ?_
    refine (if_pos rfl).mpr ?_
    refine W_region ?_
    refine LP_ev ok 0 [(48, I (wr (x20 + 1))), (10, I (wr (x20 + 1)))] 2 rfl rfl ?_
    refine LP_end _ rfl ?_
    exact ⟨wr (x20 + 1), ⟨H.1, _, env_eq ⟨rfl, rfl, rfl, rfl, trivial⟩, X33, ex28, ex29, ex30, ex31, ex32⟩, H.2⟩
  have H := H.2 hc
  refine W_exit ?_
  refine (if_pos rfl).mpr ?_
  refine W_seq ?_
  refine W_region ?_
  refine LP_ev ok 0 [(4, .bool false)] 1 rfl rfl ?_
  refine LP_end _ rfl ?_
  refine W_ret ?_
  exact ⟨_, Ret_of [.bool false] ⟨⟨rfl, rfl⟩, trivial⟩, _, H, rfl, X26.ext⟩

set_option maxRecDepth 8000 in
set_option maxHeartbeats 4000000 in
theorem spec_eSearch_run_w (x : ESearch) (k : Int) (sets : List Int) (Q : (List Edit) → Int → Prop) (H : spec_eSearch_run x k sets Q) (w : World) {vx : Value} {hx : PH} (r : RS hx vx x.S) (ex : Sub hx w) {vx1 : Value} {hx2 : PH} (r3 : RS hx2 vx1 x.Passing) (ex4 : Sub hx2 w) {vx7 : Value} {hx8 : PH} (r9 : OD hx8 vx7 x.Out) (ex10 : Sub hx8 w) {b : Nat} (ex13 : Sub (bx b 172 [vx, vx1, I x.V, vx7]) w) {vx14 : Value} {hx15 : PH} (r16 : RS hx15 vx14 sets) (ex17 : Sub hx15 w) (d : Dj hx8 (bx b 172 [vx, vx1, I x.V, vx7])) (d20 : Dj hx8 hx) (d21 : Dj hx8 hx2) (d22 : Dj hx8 hx15) (d23 : Dj (bx b 172 [vx, vx1, I x.V, vx7]) hx) (d24 : Dj (bx b 172 [vx, vx1, I x.V, vx7]) hx2) (d25 : Dj (bx b 172 [vx, vx1, I x.V, vx7]) hx15) :
    CallsTo Try.prog 160 #[.pointer (some ⟨b, 0, none⟩), I k, vx14] w fun v w' => ∃ m1 m2_0 v1_ k1, Q m1 m2_0 ∧ v = .tuple #[] ∧ But (un hx8 (bx b 172 [vx, vx1, I x.V, vx7])) w w' ∧ OD k1 v1_ m1 ∧ Sub k1 w' ∧ DomLe (un hx8 (bx b 172 [vx, vx1, I x.V, vx7])) w.heap.size k1 ∧ Sub (bx b 172 [vx, vx1, I m2_0, v1_]) w' ∧ Dj k1 (bx b 172 [vx, vx1, I m2_0, v1_]) := by
  obtain ⟨S, mu, H0, HS⟩ := H
  have key : ∀ (m : Nat) (x : ESearch) (k : Int) (sets : List Int) (Q : (List Edit) → Int → Prop), S x k sets Q → mu x k sets < m → ∀ (w : World) {vx : Value} {hx : PH} (r : RS hx vx x.S) (ex : Sub hx w) {vx1 : Value} {hx2 : PH} (r3 : RS hx2 vx1 x.Passing) (ex4 : Sub hx2 w) {vx7 : Value} {hx8 : PH} (r9 : OD hx8 vx7 x.Out) (ex10 : Sub hx8 w) {b : Nat} (ex13 : Sub (bx b 172 [vx, vx1, I x.V, vx7]) w) {vx14 : Value} {hx15 : PH} (r16 : RS hx15 vx14 sets) (ex17 : Sub hx15 w) (d : Dj hx8 (bx b 172 [vx, vx1, I x.V, vx7])) (d20 : Dj hx8 hx) (d21 : Dj hx8 hx2) (d22 : Dj hx8 hx15) (d23 : Dj (bx b 172 [vx, vx1, I x.V, vx7]) hx) (d24 : Dj (bx b 172 [vx, vx1, I x.V, vx7]) hx2) (d25 : Dj (bx b 172 [vx, vx1, I x.V, vx7]) hx15), CallsTo Try.prog 160 #[.pointer (some ⟨b, 0, none⟩), I k, vx14] w fun v w' => ∃ m1 m2_0 v1_ k1, Q m1 m2_0 ∧ v = .tuple #[] ∧ But (un hx8 (bx b 172 [vx, vx1, I x.V, vx7])) w w' ∧ OD k1 v1_ m1 ∧ Sub k1 w' ∧ DomLe (un hx8 (bx b 172 [vx, vx1, I x.V, vx7])) w.heap.size k1 ∧ Sub (bx b 172 [vx, vx1, I m2_0, v1_]) w' ∧ Dj k1 (bx b 172 [vx, vx1, I m2_0, v1_]) := by
    intro m
    induction m with
    | zero => intro x k sets Q _ hm; exact absurd hm (Nat.not_lt_zero _)
    | succ m ih =>
      intro x k sets Q H0 hm w vx hx r ex vx1 hx2 r3 ex4 vx7 hx8 r9 ex10 b ex13 vx14 hx15 r16 ex17 d d20 d21 d22 d23 d24 d25
      have H := HS x k sets Q H0
      obtain ⟨a, c, rfl⟩ := r.shape
      obtain ⟨a5, c6, rfl⟩ := r3.shape
      obtain ⟨a11, c12, rfl⟩ := r9.shape
      obtain ⟨a18, c19, rfl⟩ := r16.shape
      refine enter (args := [.pointer (some ⟨b, 0, none⟩), I k, .slice a18 (List.length sets) c19]) 68 Try.func160 rfl rfl rfl ?_
      refine W_forget [(0, .pointer (some ⟨b, 0, none⟩)), (1, I k), (2, .slice a18 (List.length sets) c19)] ⟨rfl, rfl, rfl, trivial⟩ fun ρ => ?_
      have D : Dom (un hx8 (bx b 172 [.slice a (List.length x.S) c, .slice a5 (List.length x.Passing) c6, I x.V, .slice a11 (List.length x.Out) c12])) hx8 := (Dom.l _ _)
      have D26 : Dom (un hx8 (bx b 172 [.slice a (List.length x.S) c, .slice a5 (List.length x.Passing) c6, I x.V, .slice a11 (List.length x.Out) c12])) (bx b 172 [.slice a (List.length x.S) c, .slice a5 (List.length x.Passing) c6, I x.V, .slice a11 (List.length x.Out) c12]) := (Dom.trans (Dom.r _ _) (Dom.refl _))
      have X := But.refl (un hx8 (bx b 172 [.slice a (List.length x.S) c, .slice a5 (List.length x.Passing) c6, I x.V, .slice a11 (List.length x.Out) c12])) w
      refine W_seq ?_
      refine W_seq ?_
      refine W_region ?_
      refine LP_ev ok 0 [(8, I k), (9, .pointer (some ⟨b, 0, none⟩)), (10, .pointer (some ⟨b, 0, none⟩)), (11, .pointer (some ⟨b, 0, none⟩))] 4 rfl rfl ?_
      refine LP_ldbox 4 (v := .slice a (List.length x.S) c) rfl rfl rfl ti_29 ag_29 (fun _ => rfl) rfl ex13 rfl rfl ?_
      refine LP_ev ok 5 [(13, I (ln x.S)), (14, .bool (k == (ln x.S)))] 7 rfl rfl ?_
      refine LP_end _ rfl ?_
      refine W_cond (k == (ln x.S)) rfl (fun hc => ?_) (fun hc => ?_)
      · have H := H.1 hc
        obtain ⟨k39, hk, H⟩ := jn_elim H
        refine W_join2 (S := (List Edit)) (fun s ρ' w' => k39 s ∧ ∃ (ρ : Env) (vx27 : Value) (hx28 : PH), ρ' = setAll [] ρ ∧ But (un hx8 (bx b 172 [.slice a (List.length x.S) c, .slice a5 (List.length x.Passing) c6, I x.V, .slice a11 (List.length x.Out) c12])) w w' ∧ OD hx28 vx27 s ∧ Sub hx28 w' ∧ DomLe (un hx8 (bx b 172 [.slice a (List.length x.S) c, .slice a5 (List.length x.Passing) c6, I x.V, .slice a11 (List.length x.Out) c12])) w.heap.size hx28 ∧ Sub hx w' ∧ Sub hx2 w' ∧ Sub (bx b 172 [.slice a (List.length x.S) c, .slice a5 (List.length x.Passing) c6, I x.V, vx27]) w' ∧ Dj hx28 hx ∧ Dj hx28 hx2 ∧ Dj hx28 (bx b 172 [.slice a (List.length x.S) c, .slice a5 (List.length x.Passing) c6, I x.V, vx27])) ?_ ?_
        · obtain ⟨k48, hk49, H⟩ := jn_elim H
          refine W_join2 (S := Bool) (fun s ρ' w' => k48 s ∧ ∃ (ρ : Env), ρ' = setAll [(0, .pointer (some ⟨b, 0, none⟩)), (2, .slice a18 (List.length sets) c19), (23, .bool s)] ρ ∧ But (un hx8 (bx b 172 [.slice a (List.length x.S) c, .slice a5 (List.length x.Passing) c6, I x.V, .slice a11 (List.length x.Out) c12])) w w' ∧ Sub hx w' ∧ Sub hx2 w' ∧ Sub hx8 w' ∧ Sub (bx b 172 [.slice a (List.length x.S) c, .slice a5 (List.length x.Passing) c6, I x.V, .slice a11 (List.length x.Out) c12]) w' ∧ Sub hx15 w') ?_ ?_
          · refine W_region ?_
            refine LP_ev ok 0 [(15, .pointer (some ⟨b, 0, none⟩)), (16, .slice a18 (List.length sets) c19)] 2 rfl rfl ?_
            refine LP_call 2 rfl rfl rfl cal_217 rfl (spec_eSearch_free_w _ _ _ H w r ex r3 ex4 r9.readf ex10 ex13 r16 ex17) ?_
            rintro _ wx51 ⟨r50, H, rfl, x52⟩
            refine LP_ev ok 3 [(18, .bool r50)] 4 rfl rfl ?_
            refine LP_split 18 (r50) rfl (fun hc53 => ?_) (fun hc53 => ?_)
            · have H := H.1 hc53
              refine LP_ev ok 4 [(19, .pointer (some ⟨b, 0, none⟩)), (20, .slice a18 (List.length sets) c19)] 6 rfl rfl ?_
              have ex55 := (ex.ext x52)
              have ex56 := (ex4.ext x52)
              have ex57 := (ex10.ext x52)
              have ex58 := (ex13.ext x52)
              have ex59 := (ex17.ext x52)
              refine LP_call 6 rfl rfl rfl cal_218 rfl (spec_eSearch_grows_w _ _ _ H wx51 r ex55 r3 ex56 r9.readf ex57 ex58 r16 ex59) ?_
              rintro _ wx60 ⟨r54, H, rfl, x61⟩
              refine LP_ev ok 7 [(22, .bool (!r54)), (23, .bool (!r54))] 9 rfl rfl ?_
              refine LP_end _ rfl ?_
              have X62 := ((X.stepx x52).stepx x61)
              have ex63 := (ex55.ext x61)
              have ex64 := (ex56.ext x61)
              have ex65 := (ex57.ext x61)
              have ex66 := (ex58.ext x61)
              have ex67 := (ex59.ext x61)
              exact ⟨!r54, H, _, env_eq ⟨rfl, rfl, rfl, trivial⟩, X62, ex63, ex64, ex65, ex66, ex67⟩
            have H := H.2 hc53
            refine LP_ev ok 4 [(19, undef), (20, undef), (21, undef), (22, undef), (23, .bool false)] 9 rfl rfl ?_
            refine LP_end _ rfl ?_
            have X68 := (X.stepx x52)
            have ex69 := (ex.ext x52)
            have ex70 := (ex4.ext x52)
            have ex71 := (ex10.ext x52)
            have ex72 := (ex13.ext x52)
            have ex73 := (ex17.ext x52)
            exact ⟨false, H, _, env_eq ⟨rfl, rfl, rfl, trivial⟩, X68, ex69, ex70, ex71, ex72, ex73⟩
          rintro x40 _ wx41 ⟨H, ρ, rfl, X47, ex42, ex43, ex44, ex45, ex46⟩
          subst hk49
          refine W_cond (x40) rfl (fun hc74 => ?_) (fun hc74 => ?_)
          · have H := H.1 hc74
            refine W_open mix fun wx75 x76 => ?_
            refine AP_game 10 [[], [], [1], [1, 2], [1, 2, 3], [], [5], [5, 6], [5, 6, 7], [1, 2, 3, 4, 5, 6, 7, 8], [0, 1, 2, 3, 4, 5, 6, 7, 8, 9], [0, 1, 2, 3, 4, 5, 6, 7, 8, 9, 10], [0, 1, 2, 3, 4, 5, 6, 7, 8, 9, 10, 11]] [[(0, none)], [(0, none)], [(25, some 1)], [(26, some 2)], [(27, some 3)], [(2, none)], [(29, some 5)], [(30, some 6)], [(31, some 7)], [(28, some 4), (32, some 8)]] [(24, some 0), (33, some 9)] [(0, false), (1, false), (2, false), (3, false), (4, false), (5, false), (6, true), (7, false), (8, true), (9, true)] (by kernel_rfl) (by kernel_rfl) ?_
            refine GS_ev ok [(0, .pointer (some ⟨b, 0, none⟩))] (.pointer (some ⟨b, 0, none⟩)) rfl rfl (fun _ h => h) (fun _ => rfl) ?_
            refine GS_ev ok [(0, .pointer (some ⟨b, 0, none⟩))] (.pointer (some ⟨b, 0, none⟩)) rfl rfl (fun _ h => h) (fun _ => rfl) ?_
            refine GS_ev ok [(25, .pointer (some ⟨b, 0, none⟩))] (.pointer (some ⟨b, 0, none⟩)) rfl rfl (fun _ h => h) (fun _ => rfl) ?_
            refine GS_ev ok [(26, .pointer (some ⟨b, 0, none⟩))] (.pointer (some ⟨b, 3, none⟩)) rfl rfl (fun _ h => h) (fun _ => rfl) ?_
            have ex77 := (ex45.ext x76)
            refine GS_r1 [(27, .pointer (some ⟨b, 3, none⟩))] (.slice a11 (List.length x.Out) c12) rfl rfl (fun _ h => h) (fun _ w e => ex_ldbox rfl ti_31 ag_31 (fun _ => rfl) rfl e rfl rfl) ex77 ?_
            refine GS_ev ok [(2, .slice a18 (List.length sets) c19)] (.slice a18 (List.length sets) c19) rfl rfl (fun _ h => h) (fun _ => rfl) ?_
            refine GS_lp [(29, .slice a18 (List.length sets) c19)] rfl rfl (fun _ h => h) rfl fun ρ wx78 x79 => ?_
            have ex81 := ((ex46.ext x76).ext x79)
            refine LP_call 0 rfl rfl rfl cal_214 rfl (spec_l1Own_w _ _ H wx78 r16 ex81) ?_
            rintro _ wx82 ⟨r80, vx84, hx85, H, rfl, x83, o86, ex87, f88⟩
            obtain ⟨a89, c90, rfl⟩ := o86.shape
            have ex91 := ((ex77.ext x79).ext x83)
            refine LP_gs ⟨⟨.inr ex91, trivial⟩, ?_⟩
            refine GS_ev ok [(30, .slice a89 (List.length r80) c90)] (.agg #[.slice a89 (List.length r80) c90]) rfl rfl (fun _ h => h) (fun _ => rfl) ?_
            refine GS_lp [(31, .agg #[.slice a89 (List.length r80) c90])] rfl rfl (fun _ h => h) rfl fun ρ wx92 x93 => ?_
            have ex94 := (ex87.ext x93)
            have rv : RVO hx85 (.agg #[.slice a89 (List.length r80) c90]) ((Edit.mk r80) : Edit) := ⟨_, ⟨_, rfl, (OS.od o86)⟩, rfl⟩
            refine LP_litD (α := Edit) 0 (vs := [.agg #[.slice a89 (List.length r80) c90]]) (xs := [((Edit.mk r80) : Edit)]) rfl rfl rfl Try.underlying31 ti_50 rfl rfl (allO.one rv) ex94 rfl rfl fun hx95 vx96 wx97 x98 o99 ex100 dm => ?_
            obtain ⟨a101, c102, rfl⟩ := o99.shape
            have ex103 := ((ex91.ext x93).ext x98)
            refine LP_gs ⟨⟨.inr ex103, trivial⟩, ?_⟩
            refine GS_lp [(28, .slice a11 (List.length x.Out) c12), (32, .slice a101 (List.length ([((Edit.mk r80) : Edit)])) c102)] rfl rfl (fun _ h => h) rfl fun ρ wx104 x105 => ?_
            have ex106 := ((((((ex44.ext x76).ext x79).ext x83).ext x93).ext x98).ext x105)
            have ex107 := ((ex44.ext x76).ext x79)
            have ex108 := ((ex107.ext x83).ext x93)
            have ex109 := (ex100.ext x105)
            obtain ⟨hb, H⟩ := H
            refine LP_appendD (α := Edit) 0 rfl rfl rfl Try.underlying31 ti_50 rfl rfl rfl r9 ex106 o99 ex109 (DomLe.dj dm (Dj.of_fresh ex107 f88).symm ex108).symm (by first | omega | (simp only [ln] at *; omega)) (by first | omega | (simp only [ln] at *; omega)) fun hx110 vx111 wx112 hw o113 ex114 y dh dm115 => ?_
            obtain ⟨a116, c117, rfl⟩ := o113.shape
            refine LP_gs ⟨⟨.inl rfl, trivial⟩, ?_⟩
            intro wx118 x119 ρ hn
            refine AP_forget [(24, .pointer (some ⟨b, 0, none⟩)), (33, .slice a116 (List.length (x.Out ++ ([((Edit.mk r80) : Edit)]))) c117)] (by exact hn) fun ρ => ?_
            refine AP_tail 10 [[], [], [1], [1, 2], [1, 2, 3], [], [5], [5, 6], [5, 6, 7], [1, 2, 3, 4, 5, 6, 7, 8], [0, 1, 2, 3, 4, 5, 6, 7, 8, 9], [0, 1, 2, 3, 4, 5, 6, 7, 8, 9, 10], [0, 1, 2, 3, 4, 5, 6, 7, 8, 9, 10, 11]] (by kernel_rfl) ?_
            refine LP_ev ok 10 [(34, .pointer (some ⟨b, 0, none⟩)), (35, .pointer (some ⟨b, 3, none⟩))] 12 rfl rfl ?_
            have ex123 := (((((((ex77.ext x79).ext x83).ext x93).ext x98).ext x105).but (But.dom y dh) d).ext x119)
            refine LP_stbox 12 (vs := [.slice a116 (List.length (x.Out ++ ([((Edit.mk r80) : Edit)]))) c117]) (cs' := [.slice a (List.length x.S) c, .slice a5 (List.length x.Passing) c6, I x.V, .slice a116 (List.length (x.Out ++ ([((Edit.mk r80) : Edit)]))) c117]) rfl rfl rfl ti_31 rfl rfl rfl rfl rfl ex123 rfl rfl fun wx120 ex121 y122 => ?_
            refine LP_end _ rfl ?_
            have X124 := (((((((((X47.stepx x76).stepx x79).stepx x83).stepx x93).stepx x98).stepx x105).step (But.dom y dh) (Dom.le D _)).stepx x119).step y122 (Dom.le D26 _))
            have ex125 := (ex77.ext x79)
            have ex126 := ((ex125.ext x83).ext x93)
            have ex127 := ((ex126.ext x98).ext x105)
            have ex128 := ((ex114.ext x119).but y122 (DomLe.dj dm115 (Dj.un_l d (DomLe.dj dm (Dj.of_fresh ex125 f88).symm ex126)) ex127).symm)
            have X130 := ((X47.stepx x76).stepx x79)
            have f129 := f88.mono X130.size
            have X132 := ((X130.stepx x83).stepx x93)
            have f131 := DomLe.fresh dm f129 X132.size
            have X133 := ((X132.stepx x98).stepx x105)
            have ex134 := (((((((((ex42.ext x76).ext x79).ext x83).ext x93).ext x98).ext x105).but (But.dom y dh) d20).ext x119).but y122 d23)
            have ex135 := (((((((((ex43.ext x76).ext x79).ext x83).ext x93).ext x98).ext x105).but (But.dom y dh) d21).ext x119).but y122 d24)
            have ex136 := ((ex42.ext x76).ext x79)
            have ex137 := ((ex136.ext x83).ext x93)
            have ex138 := ((ex137.ext x98).ext x105)
            have ex139 := ((ex43.ext x76).ext x79)
            have ex140 := ((ex139.ext x83).ext x93)
            have ex141 := ((ex140.ext x98).ext x105)
            exact ⟨x.Out ++ ([((Edit.mk r80) : Edit)]), H, _, .slice a116 (List.length (x.Out ++ ([((Edit.mk r80) : Edit)]))) c117, hx110, env_eq trivial, X124, o113, ex128, (DomLe.trans (DomLe.un (Dom.le D _) (f131.dom _)) dm115 X133.size), ex134, ex135, ex121, (DomLe.dj dm115 (Dj.un_l d20 (DomLe.dj dm (Dj.of_fresh ex136 f88).symm ex137)) ex138), (DomLe.dj dm115 (Dj.un_l d21 (DomLe.dj dm (Dj.of_fresh ex139 f88).symm ex140)) ex141), (Dj.box (DomLe.dj dm115 (Dj.un_l d (DomLe.dj dm (Dj.of_fresh ex125 f88).symm ex126)) ex127).symm).symm⟩
          have H := H.2 hc74
          refine W_skip ?_
          exact ⟨x.Out, H, _, .slice a11 (List.length x.Out) c12, hx8, env_eq trivial, X47, r9, ex44, (Dom.le D _), ex42, ex43, ex45, d20, d21, d⟩
        rintro out _ wx ⟨H, ρ, vx27, hx28, rfl, X38, o, ex29, f, ex30, ex31, ex34, d35, d36, d37⟩
        subst hk
        obtain ⟨a32, c33, rfl⟩ := o.shape
        refine W_ret ?_
        exact ⟨_, Ret_of [] trivial, _, _, _, _, H, rfl, X38, o, ex29, f, ex34, d37⟩
      have H := H.2 hc
      refine W_skip ?_
      refine W_seq ?_
      refine W_region ?_
      refine LP_ev ok 0 [(6, I 1)] 1 rfl rfl ?_
      refine LP_end _ rfl ?_
      obtain ⟨k149, hk150, H⟩ := jn_elim H
      refine W_join2 (S := Int) (fun s ρ' w' => k149 s ∧ ∃ (ρ : Env), ρ' = setAll [(0, .pointer (some ⟨b, 0, none⟩)), (1, I k), (2, .slice a18 (List.length sets) c19), (6, I s)] ρ ∧ But (un hx8 (bx b 172 [.slice a (List.length x.S) c, .slice a5 (List.length x.Passing) c6, I x.V, .slice a11 (List.length x.Out) c12])) w w' ∧ Sub hx w' ∧ Sub hx2 w' ∧ Sub hx8 w' ∧ Sub (bx b 172 [.slice a (List.length x.S) c, .slice a5 (List.length x.Passing) c6, I x.V, .slice a11 (List.length x.Out) c12]) w' ∧ Sub hx15 w') ?_ ?_
      · refine W_seq ?_
        refine W_region ?_
        refine LP_ev ok 0 [(36, I k), (37, .pointer (some ⟨b, 0, none⟩)), (38, .pointer (some ⟨b, 0, none⟩)), (39, .pointer (some ⟨b, 2, none⟩))] 4 rfl rfl ?_
        refine LP_ldbox 4 (v := I x.V) rfl rfl rfl ti_3 ag_3 (fun _ => rfl) rfl ex13 rfl rfl ?_
        refine LP_ev ok 5 [(41, .bool (k == x.V))] 6 rfl rfl ?_
        refine LP_end _ rfl ?_
        refine W_cond (k == x.V) rfl (fun hc151 => ?_) (fun hc151 => ?_)
        · have H := H.1 hc151
          refine W_region ?_
          refine LP_ev ok 0 [(42, .pointer (some ⟨b, 0, none⟩)), (43, .pointer (some ⟨b, 0, none⟩)), (44, .pointer (some ⟨b, 0, none⟩))] 3 rfl rfl ?_
          refine LP_ldbox 3 (v := .slice a (List.length x.S) c) rfl rfl rfl ti_29 ag_29 (fun _ => rfl) rfl ex13 rfl rfl ?_
          refine LP_ev ok 4 [(46, I k)] 5 rfl rfl ?_
          refine LP_call 5 rfl rfl rfl cal_161 rfl (spec_eFull_w _ _ _ H w r ex) ?_
          rintro _ wx153 ⟨r152, H, rfl, x154⟩
          refine LP_ev ok 6 [(6, I r152)] 7 rfl rfl ?_
          refine LP_end _ rfl ?_
          have X155 := (X.stepx x154)
          have ex156 := (ex.ext x154)
          have ex157 := (ex4.ext x154)
          have ex158 := (ex10.ext x154)
          have ex159 := (ex13.ext x154)
          have ex160 := (ex17.ext x154)
          exact ⟨r152, H, _, env_eq ⟨rfl, rfl, rfl, rfl, trivial⟩, X155, ex156, ex157, ex158, ex159, ex160⟩
        have H := H.2 hc151
        refine W_skip ?_
        exact ⟨1, H, _, env_eq ⟨rfl, rfl, rfl, rfl, trivial⟩, X, ex, ex4, ex10, ex13, ex17⟩
      rintro first _ wx142 ⟨H, ρ, rfl, X148, ex143, ex144, ex145, ex146, ex147⟩
      subst hk150
      refine W_seq ?_
      refine W_region ?_
      refine LP_ev ok 0 [(48, I first), (7, I first)] 2 rfl rfl ?_
      refine LP_end _ rfl ?_
      refine W_block ?_
      obtain ⟨J, m180, Hx, H⟩ := H
      refine W_loop (S := Int × Int × (List Edit)) (fun s ρ' w' => J s.1 s.2.1 s.2.2 ∧ ∃ (ρ : Env) (vx163 : Value) (hx164 : PH), ρ' = setAll [(0, .pointer (some ⟨b, 0, none⟩)), (1, I k), (2, .slice a18 (List.length sets) c19), (7, I s.1)] ρ ∧ But (un hx8 (bx b 172 [.slice a (List.length x.S) c, .slice a5 (List.length x.Passing) c6, I x.V, .slice a11 (List.length x.Out) c12])) w w' ∧ OD hx164 vx163 s.2.2 ∧ Sub hx164 w' ∧ DomLe (un hx8 (bx b 172 [.slice a (List.length x.S) c, .slice a5 (List.length x.Passing) c6, I x.V, .slice a11 (List.length x.Out) c12])) w.heap.size hx164 ∧ Sub hx w' ∧ Sub hx2 w' ∧ Sub hx15 w' ∧ Sub (bx b 172 [.slice a (List.length x.S) c, .slice a5 (List.length x.Passing) c6, I s.2.1, vx163]) w' ∧ Dj hx164 hx ∧ Dj hx164 hx2 ∧ Dj hx164 hx15 ∧ Dj hx164 (bx b 172 [.slice a (List.length x.S) c, .slice a5 (List.length x.Passing) c6, I s.2.1, vx163])) (fun s => m180 s.1 s.2.1 s.2.2) (first, x.V, x.Out) ⟨Hx, _, .slice a11 (List.length x.Out) c12, hx8, env_eq ⟨rfl, rfl, rfl, rfl, trivial⟩, X148, r9, ex145, (Dom.le D _), ex143, ex144, ex147, ex146, d20, d21, d22, d⟩ ?_
      rintro ⟨setx, vx161, out162⟩ _ wx168 ⟨Hi, ρ, vx163, hx164, rfl, X179, o165, ex166, f167, ex169, ex170, ex171, ex174, d175, d176, d177, d178⟩
      have H := H setx vx161 out162 Hi
      obtain ⟨a172, c173, rfl⟩ := o165.shape
      refine W_seq ?_
      refine W_seq ?_
      refine W_region ?_
      refine LP_ev ok 0 [(49, I setx), (50, .pointer (some ⟨b, 0, none⟩)), (51, .pointer (some ⟨b, 0, none⟩)), (52, .pointer (some ⟨b, 0, none⟩))] 4 rfl rfl ?_
      refine LP_ldbox 4 (v := .slice a (List.length x.S) c) rfl rfl rfl ti_29 ag_29 (fun _ => rfl) rfl ex174 rfl rfl ?_
      refine LP_ev ok 5 [(54, I k)] 6 rfl rfl ?_
      refine LP_call 6 rfl rfl rfl cal_161 rfl (spec_eFull_w _ _ _ H wx168 r ex169) ?_
      rintro _ wx182 ⟨r181, H, rfl, x183⟩
      refine LP_ev ok 7 [(56, .bool (decide (setx ≤ r181)))] 8 rfl rfl ?_
      refine LP_end _ rfl ?_
      refine W_cond (decide (setx ≤ r181)) rfl (fun hc184 => ?_) (fun hc184 => ?_)
      · have H := H.1 hc184
        refine W_skip ?_
        refine W_seq ?_
        refine W_block ?_
        refine W_region ?_
        refine LP_ev ok 0 [(59, .pointer (some ⟨b, 0, none⟩)), (60, I k), (61, I (wr (k + 1))), (62, .slice a18 (List.length sets) c19)] 4 rfl rfl ?_
        have ex186 := (ex171.ext x183)
        refine LP_call 4 rfl rfl rfl cal_214 rfl (spec_l1Own_w _ _ H wx182 r16 ex186) ?_
        rintro _ wx187 ⟨r185, vx189, hx190, H, rfl, x188, o191, ex192, f193⟩
        obtain ⟨a194, c195, rfl⟩ := o191.shape
        refine LP_ev ok 5 [(64, I setx)] 6 rfl rfl ?_
        refine LP_lit (α := Int) (g := emp) 6 (vs := [I setx]) (xs := [setx]) rfl rfl rfl Try.underlying24 ti_3 rfl rfl ⟨⟨_, rfl, rfl⟩, trivial⟩ rfl rfl fun hx196 vx197 wx198 x199 o200 ex201 f202 => ?_
        obtain ⟨a203, c204, rfl⟩ := o200.shape
        have ex205 := (ex192.ext x199)
        obtain ⟨hb206, H⟩ := H
        refine LP_appendf (α := Int) 7 rfl rfl rfl Try.underlying24 ti_3 rfl rfl rfl o191 ex205 o200.readf ex201 (by first | omega | (simp only [ln] at *; omega)) (by first | omega | (simp only [ln] at *; omega)) fun hx207 vx208 wx209 o210 ex211 y212 dm213 => ?_
        obtain ⟨a214, c215, rfl⟩ := o210.shape
        have ex216 := (ex166.ext x183)
        have ex217 := ((ex216.ext x188).ext x199)
        have ex218 := (ex174.ext x183)
        have ex219 := ((ex218.ext x188).ext x199)
        have ex222 := (ex169.ext x183)
        have ex223 := ((((ex169.ext x183).ext x188).ext x199).but y212 (Dj.of_fresh ex222 f193).symm)
        have ex224 := (ex170.ext x183)
        have ex225 := ((((ex170.ext x183).ext x188).ext x199).but y212 (Dj.of_fresh ex224 f193).symm)
        have ex226 := (ex217.but y212 (Dj.of_fresh ex216 f193).symm)
        have ex227 := (ex219.but y212 (Dj.of_fresh ex218 f193).symm)
        refine LP_call 8 rfl rfl rfl cal_160 rfl (ih _ _ _ _ H.1 (Nat.lt_of_lt_of_le H.2 (Nat.le_of_lt_succ hm)) wx209 r ex223 r3 ex225 o165 ex226 ex227 o210.readf ex211 d178 d175 d176 (DomLe.dj dm213 (Dj.of_fresh ex216 f193).symm ex217).symm (Dj.box d23) (Dj.box d24) (DomLe.dj dm213 (Dj.of_fresh ex218 f193).symm ex219).symm) ?_
        rintro _ wx228 ⟨r220, r221, vx234, hx230, H, rfl, x229, o231, ex232, dm233, ex235, d236⟩
        obtain ⟨a237, c238, rfl⟩ := o231.shape
        refine LP_end _ rfl ?_
        refine W_region ?_
        refine LP_ev ok 0 [(57, I setx), (58, I (wr (setx + 1))), (7, I (wr (setx + 1)))] 3 rfl rfl ?_
        refine LP_end _ rfl ?_
        have X240 := (X179.stepx x183)
        have f239 := f193.mono X240.size
        have X241 := (((((X179.stepx x183).stepx x188).stepx x199).step y212 (f239.dom _)).step x229 (DomLe.un f167 (DomLe.dom D26 single_dom)))
        have X242 := (((X240.stepx x188).stepx x199).step y212 (f239.dom _))
        have ex243 := (ex223.but x229 (Dj.un_l d175 (Dj.box d23)))
        have ex244 := (ex225.but x229 (Dj.un_l d176 (Dj.box d24)))
        have ex245 := ((((ex186.ext x188).ext x199).but y212 (Dj.of_fresh ex186 f193).symm).but x229 (Dj.un_l d177 (Dj.box d25)))
        have ex246 := (((ex186.ext x188).ext x199).but y212 (Dj.of_fresh ex186 f193).symm)
        exact ⟨(wr (setx + 1), r221, r220), ⟨H.1, _, .slice a237 (List.length r220) c238, hx230, env_eq ⟨rfl, rfl, rfl, rfl, trivial⟩, X241, o231, ex232, (DomLe.trans (DomLe.un f167 (DomLe.dom D26 single_dom)) dm233 X242.size), ex243, ex244, ex245, ex235, (DomLe.dj dm233 (Dj.un_l d175 (Dj.box d23)) ex223), (DomLe.dj dm233 (Dj.un_l d176 (Dj.box d24)) ex225), (DomLe.dj dm233 (Dj.un_l d177 (Dj.box d25)) ex246), d236⟩, H.2⟩
      have H := H.2 hc184
      refine W_exit ?_
      refine (if_pos rfl).mpr ?_
      have ex247 := (ex166.ext x183)
      have ex248 := (ex174.ext x183)
      have X249 := (X179.stepx x183)
      exact ⟨_, Ret_of [] trivial, _, _, _, _, H, rfl, X249, o165, ex247, f167, ex248, d178⟩
  exact key _ x k sets Q H0 (Nat.lt_succ_self _) w r ex r3 ex4 r9 ex10 ex13 r16 ex17 d d20 d21 d22 d23 d24 d25

set_option maxRecDepth 8000 in
set_option maxHeartbeats 4000000 in
theorem spec_eMaximal_w (sx : List Variable) (l : List Edit) (vx7 : Int) (Q : (List Edit) → Prop) (H : spec_eMaximal sx l vx7 Q) (w : World) {vx : Value} {hx : PH} (r : RS hx vx sx) (ex : Sub hx w) {vx1 : Value} {hx2 : PH} (r3 : RS hx2 vx1 l) (ex4 : Sub hx2 w) :
    CallsTo Try.prog 80 #[vx, vx1, I vx7] w fun v w' => ∃ r0 u0 g0, Q r0 ∧ v = u0 ∧ Ext w w' ∧ OD g0 u0 r0 ∧ Sub g0 w' ∧ Fresh w.heap.size g0 := by
  obtain ⟨a, c, rfl⟩ := r.shape
  obtain ⟨a5, c6, rfl⟩ := r3.shape
  refine enter (args := [.slice a (List.length sx) c, .slice a5 (List.length l) c6, I vx7]) 44 Try.func80 rfl rfl rfl ?_
  refine W_forget [(0, .slice a (List.length sx) c), (1, .slice a5 (List.length l) c6), (2, I vx7)] ⟨rfl, rfl, rfl, trivial⟩ fun ρ => ?_
  have X := But.refl emp w
  refine W_seq ?_
  refine W_region ?_
  refine LP_ev ok 0 [(6, .slice none 0 0)] 1 rfl rfl ?_
  refine LP_end _ rfl ?_
  refine W_seq ?_
  refine W_region ?_
  refine LP_ev ok 0 [(10, .slice a (List.length sx) c), (11, I vx7), (12, .agg #[.slice a (List.length sx) c, .slice none 0 0, I vx7, .slice none 0 0])] 3 rfl rfl ?_
  refine LP_box 3 (cs := [.slice a (List.length sx) c, .slice none 0 0, I vx7, .slice none 0 0]) rfl rfl rfl rfl rfl fun b wx x ex8 f => ?_
  refine LP_ev ok 4 [(7, .pointer (some ⟨b, 0, none⟩))] 5 rfl rfl ?_
  refine LP_end _ rfl ?_
  refine W_seq ?_
  refine W_seq ?_
  refine W_region ?_
  refine LP_ev ok 0 [(8, I 0)] 1 rfl rfl ?_
  refine LP_end _ rfl ?_
  refine W_block ?_
  have X22 := (X.stepx x)
  have ex23 := (ex.ext x)
  have ex24 := (ex4.ext x)
  obtain ⟨J, m, Hx, H⟩ := H
  refine W_loop (S := Int × (List (List Int))) (fun s ρ' w' => J s.1 s.2 ∧ ∃ (ρ : Env) (vx9 : Value) (hx10 : PH), ρ' = setAll [(0, .slice a (List.length sx) c), (1, .slice a5 (List.length l) c6), (7, .pointer (some ⟨b, 0, none⟩)), (8, I s.1)] ρ ∧ But emp w w' ∧ OD hx10 vx9 s.2 ∧ Sub hx10 w' ∧ Fresh w.heap.size hx10 ∧ Sub hx w' ∧ Sub hx2 w' ∧ Sub (bx b 172 [.slice a (List.length sx) c, vx9, I vx7, .slice none 0 0]) w' ∧ Dj hx10 hx ∧ Dj hx10 hx2 ∧ Dj hx10 (bx b 172 [.slice a (List.length sx) c, vx9, I vx7, .slice none 0 0])) (fun s => m s.1 s.2) (0, []) ⟨Hx, _, .slice none 0 0, emp, env_eq ⟨rfl, rfl, rfl, rfl, trivial⟩, X22, OD.nil, (emp_sub _), (emp_fresh _), ex23, ex24, ex8, (fun _ => .inl rfl), (fun _ => .inl rfl), (fun _ => .inl rfl)⟩ ?_
  rintro ⟨i, passing⟩ _ wx13 ⟨Hi, ρ, vx9, hx10, rfl, X21, o, ex11, f12, ex14, ex15, ex18, d, d19, d20⟩
  have H := H i passing Hi
  obtain ⟨a16, c17, rfl⟩ := o.shape
  refine W_seq ?_
  refine W_seq ?_
  refine W_region ?_
  refine LP_ev ok 0 [(14, I i), (15, .slice a (List.length sx) c)] 2 rfl rfl ?_
  refine LP_call 2 rfl rfl rfl cal_157 rfl (spec_sCount_w _ _ H wx13 r ex14) ?_
  rintro _ wx26 ⟨r25, H, rfl, x27⟩
  refine LP_ev ok 3 [(17, .bool (decide (i < r25)))] 4 rfl rfl ?_
  refine LP_end _ rfl ?_
  refine W_cond (decide (i < r25)) rfl (fun hc => ?_) (fun hc => ?_)
  · have H := H.1 hc
    refine W_skip ?_
    obtain ⟨k, hk, H⟩ := jn_elim H
    refine W_join2 (S := (List (List Int))) (fun s ρ' w' => k s ∧ ∃ (ρ : Env) (vx29 : Value) (hx30 : PH), ρ' = setAll [(0, .slice a (List.length sx) c), (1, .slice a5 (List.length l) c6), (7, .pointer (some ⟨b, 0, none⟩)), (8, I i)] ρ ∧ But emp w w' ∧ OD hx30 vx29 s ∧ Sub hx30 w' ∧ Fresh w.heap.size hx30 ∧ Sub hx w' ∧ Sub hx2 w' ∧ Sub (bx b 172 [.slice a (List.length sx) c, vx29, I vx7, .slice none 0 0]) w' ∧ Dj hx30 hx ∧ Dj hx30 hx2 ∧ Dj hx30 (bx b 172 [.slice a (List.length sx) c, vx29, I vx7, .slice none 0 0])) ?_ ?_
    · refine W_block ?_
      refine W_seq ?_
      refine W_region ?_
      refine LP_ev ok 0 [(20, .slice a (List.length sx) c), (21, I i)] 2 rfl rfl ?_
      have ex45 := (ex14.ext x27)
      refine LP_call 2 rfl rfl rfl cal_158 rfl (spec_sAt_w _ _ _ H wx26 r ex45) ?_
      rintro _ wx46 ⟨r44, vx48, hx49, H, rfl, x47, o50, ex51, f52⟩
      obtain ⟨a53, c54, rfl⟩ := o50.shape
      refine LP_ev ok 3 [(9, .slice a53 (List.length r44) c54)] 4 rfl rfl ?_
      refine LP_end _ rfl ?_
      refine W_seq ?_
      refine W_region ?_
      refine LP_ev ok 0 [(23, .slice a5 (List.length l) c6), (24, .slice a53 (List.length r44) c54)] 2 rfl rfl ?_
      have ex56 := ((ex15.ext x27).ext x47)
      refine LP_call 2 rfl rfl rfl cal_159 rfl (spec_eFailed_w _ _ _ H wx46 r3 ex56 o50.readf ex51) ?_
      rintro _ wx57 ⟨r55, vx59, hx60, H, rfl, x58, o61, ex62, f63⟩
      obtain ⟨a64, c65, rfl⟩ := o61.shape
      refine LP_ev ok 3 [(26, I (ln r55)), (27, .bool ((ln r55) == 0))] 5 rfl rfl ?_
      refine LP_end _ rfl ?_
      refine W_cond ((ln r55) == 0) rfl (fun hc66 => ?_) (fun hc66 => ?_)
      · have H := H.1 hc66
        refine W_region ?_
        refine LP_ev ok 0 [(28, .pointer (some ⟨b, 0, none⟩)), (29, .pointer (some ⟨b, 0, none⟩)), (30, .pointer (some ⟨b, 0, none⟩)), (31, .pointer (some ⟨b, 1, none⟩))] 4 rfl rfl ?_
        have ex67 := (((ex18.ext x27).ext x47).ext x58)
        refine LP_ldbox 4 (v := .slice a16 (List.length passing) c17) rfl rfl rfl ti_65 ag_65 (fun _ => rfl) rfl ex67 rfl rfl ?_
        refine LP_ev ok 5 [(33, .slice a53 (List.length r44) c54)] 6 rfl rfl ?_
        have ex68 := (ex51.ext x58)
        refine LP_litD (α := List Int) 6 (vs := [.slice a53 (List.length r44) c54]) (xs := [r44]) rfl rfl rfl Try.underlying65 ti_24 rfl rfl (allO.one (OD.rvo (OS.od o50))) ex68 rfl rfl fun hx69 vx70 wx71 x72 o73 ex74 dm => ?_
        obtain ⟨a75, c76, rfl⟩ := o73.shape
        have ex77 := ((((ex11.ext x27).ext x47).ext x58).ext x72)
        have ex78 := (ex11.ext x27)
        have ex79 := ((ex78.ext x47).ext x58)
        obtain ⟨hb, H⟩ := H
        refine LP_appendD (α := List Int) 7 rfl rfl rfl Try.underlying65 ti_24 rfl rfl rfl o ex77 o73 ex74 (DomLe.dj dm (Dj.of_fresh ex78 f52).symm ex79).symm (by first | omega | (simp only [ln] at *; omega)) (by first | omega | (simp only [ln] at *; omega)) fun hx80 vx81 wx82 hw o83 ex84 y dh dm85 => ?_
        obtain ⟨a86, c87, rfl⟩ := o83.shape
        refine LP_ev ok 8 [(36, .pointer (some ⟨b, 0, none⟩)), (37, .pointer (some ⟨b, 1, none⟩))] 10 rfl rfl ?_
        have ex91 := ((ex67.ext x72).but (But.dom y dh) d20)
        refine LP_stbox 10 (vs := [.slice a86 (List.length (passing ++ ([r44]))) c87]) (cs' := [.slice a (List.length sx) c, .slice a86 (List.length (passing ++ ([r44]))) c87, I vx7, .slice none 0 0]) rfl rfl rfl ti_65 rfl rfl rfl rfl rfl ex91 rfl rfl fun wx88 ex89 y90 => ?_
        refine LP_end _ rfl ?_
        have f92 := f.mono X.size
        have X93 := ((((((X21.stepx x27).stepx x47).stepx x58).stepx x72).step (But.dom y dh) (f12.dom _)).step y90 ((Fresh.box f92).dom _))
        have ex94 := (ex18.ext x27)
        have ex95 := (ex67.ext x72)
        have ex96 := (ex84.but y90 (DomLe.dj dm85 (Dj.un_l d20 (DomLe.dj dm (Dj.of_fresh ex94 f52).symm ex67)) ex95).symm)
        have X98 := (X21.stepx x27)
        have f97 := f52.mono X98.size
        have X100 := ((X98.stepx x47).stepx x58)
        have f99 := DomLe.fresh dm f97 X100.size
        have X102 := (X100.stepx x72)
        have f101 := DomLe.fresh dm85 (Fresh.un f12 f99) X102.size
        have ex103 := (((((ex45.ext x47).ext x58).ext x72).but (But.dom y dh) d).but y90 (Dj.box (Dj.of_fresh ex f).symm))
        have ex104 := ((((ex56.ext x58).ext x72).but (But.dom y dh) d19).but y90 (Dj.box (Dj.of_fresh ex4 f).symm))
        have ex105 := ((ex45.ext x47).ext x58)
        have ex106 := (ex105.ext x72)
        have ex107 := (ex15.ext x27)
        have ex108 := (ex56.ext x58)
        have ex109 := (ex108.ext x72)
        exact ⟨passing ++ ([r44]), H, _, .slice a86 (List.length (passing ++ ([r44]))) c87, hx80, env_eq ⟨rfl, rfl, rfl, rfl, trivial⟩, X93, o83, ex96, f101, ex103, ex104, ex89, (DomLe.dj dm85 (Dj.un_l d (DomLe.dj dm (Dj.of_fresh ex45 f52).symm ex105)) ex106), (DomLe.dj dm85 (Dj.un_l d19 (DomLe.dj dm (Dj.of_fresh ex107 f52).symm ex108)) ex109), (Dj.box (DomLe.dj dm85 (Dj.un_l d20 (DomLe.dj dm (Dj.of_fresh ex94 f52).symm ex67)) ex95).symm).symm⟩
      have H := H.2 hc66
      refine W_skip ?_
      have X110 := (((X21.stepx x27).stepx x47).stepx x58)
      have ex111 := (((ex11.ext x27).ext x47).ext x58)
      have ex112 := ((ex45.ext x47).ext x58)
      have ex113 := (ex56.ext x58)
      have ex114 := (((ex18.ext x27).ext x47).ext x58)
      exact ⟨passing, H, _, .slice a16 (List.length passing) c17, hx10, env_eq ⟨rfl, rfl, rfl, rfl, trivial⟩, X110, o, ex111, f12, ex112, ex113, ex114, d, d19, d20⟩
    rintro passing28 _ wx34 ⟨H, ρ, vx29, hx30, rfl, X43, o31, ex32, f33, ex35, ex36, ex39, d40, d41, d42⟩
    subst hk
    obtain ⟨a37, c38, rfl⟩ := o31.shape
    refine W_region ?_
    refine LP_ev ok 0 [(18, I i), (19, I (wr (i + 1))), (8, I (wr (i + 1)))] 3 rfl rfl ?_
    refine LP_end _ rfl ?_
    exact ⟨(wr (i + 1), passing28), ⟨H.1, _, .slice a37 (List.length passing28) c38, hx30, env_eq ⟨rfl, rfl, rfl, rfl, trivial⟩, X43, o31, ex32, f33, ex35, ex36, ex39, d40, d41, d42⟩, H.2⟩
  have H := H.2 hc
  refine W_exit ?_
  refine (if_pos rfl).mpr ?_
  refine W_seq ?_
  refine W_region ?_
  refine LP_ev ok 0 [(38, .pointer (some ⟨b, 0, none⟩))] 1 rfl rfl ?_
  have ex117 := (ex14.ext x27)
  have ex118 := (ex11.ext x27)
  have ex119 := (ex18.ext x27)
  refine LP_call 1 rfl rfl rfl cal_160 rfl (spec_eSearch_run_w _ _ _ _ H wx26 r ex117 o.readf ex118 (OD.nil (α := Edit)) (emp_sub _) ex119 (.inl ⟨rfl, rfl⟩) (emp_sub _) (Dj.emp_l _) (Dj.emp_l _) (Dj.emp_l _) (Dj.emp_l _) (Dj.box (Dj.of_fresh ex f).symm) d20.symm (Dj.emp_r _)) ?_
  rintro _ wx120 ⟨r115, r116, vx126, hx122, H, rfl, x121, o123, ex124, dm125, ex127, d128⟩
  obtain ⟨a129, c130, rfl⟩ := o123.shape
  refine LP_end _ rfl ?_
  refine W_seq ?_
  refine W_region ?_
  refine LP_ev ok 0 [(40, .pointer (some ⟨b, 0, none⟩)), (41, .pointer (some ⟨b, 0, none⟩)), (42, .pointer (some ⟨b, 3, none⟩))] 3 rfl rfl ?_
  refine LP_ldbox 3 (v := .slice a129 (List.length r115) c130) rfl rfl rfl ti_31 ag_31 (fun _ => rfl) rfl ex127 rfl rfl ?_
  refine LP_ev ok 4 [(6, .slice a129 (List.length r115) c130)] 5 rfl rfl ?_
  refine LP_end _ rfl ?_
  refine W_ret ?_
  have f131 := f.mono X.size
  have X133 := (X21.stepx x27)
  have f132 := DomLe.fresh dm125 (Fresh.un (emp_fresh _) (Fresh.box f131)) X133.size
  have X134 := (X133.step x121 (DomLe.un (fun _ _ _ => rfl) ((Fresh.box f131).dom _)))
  exact ⟨_, Ret_of [.slice a129 (List.length r115) c130] ⟨⟨rfl, rfl⟩, trivial⟩, _, _, _, H, rfl, X134.ext, o123, ex124, f132⟩

set_option maxRecDepth 8000 in
set_option maxHeartbeats 4000000 in
theorem spec_eInvolved_w (sx : List Variable) (ex1 : Edit) (Q : (List Int) → Prop) (H : spec_eInvolved sx ex1 Q) (w : World) {vx : Value} {hx : PH} (r : RS hx vx sx) (ex : Sub hx w) {vx2 : Value} {hx3 : PH} (r4 : RS hx3 vx2 ex1.Sets) (ex5 : Sub hx3 w) :
    CallsTo Try.prog 83 #[vx, .agg #[vx2]] w fun v w' => ∃ r0 u0 g0, Q r0 ∧ v = u0 ∧ Ext w w' ∧ OS 3 g0 emp u0 r0 ∧ Sub g0 w' ∧ Fresh w.heap.size g0 := by
  obtain ⟨a, c, rfl⟩ := r.shape
  obtain ⟨a6, c7, rfl⟩ := r4.shape
  refine enter (args := [.slice a (List.length sx) c, .agg #[.slice a6 (List.length ex1.Sets) c7]]) 27 Try.func83 rfl rfl rfl ?_
  refine W_forget [(0, .slice a (List.length sx) c), (1, .agg #[.slice a6 (List.length ex1.Sets) c7])] ⟨rfl, rfl, trivial⟩ fun ρ => ?_
  have X := But.refl emp w
  refine W_seq ?_
  refine W_region ?_
  refine LP_box 0 (cs := [.slice a6 (List.length ex1.Sets) c7]) rfl rfl rfl rfl rfl fun b wx x ex8 f => ?_
  refine LP_ev ok 1 [(4, .slice none 0 0)] 2 rfl rfl ?_
  refine LP_end _ rfl ?_
  refine W_seq ?_
  refine W_region ?_
  refine LP_ev ok 0 [(5, .slice none 0 0)] 1 rfl rfl ?_
  refine LP_end _ rfl ?_
  refine W_seq ?_
  refine W_seq ?_
  refine W_region ?_
  refine LP_ev ok 0 [(8, .pointer (some ⟨b, 0, none⟩))] 1 rfl rfl ?_
  refine LP_ldbox 1 (v := .slice a6 (List.length ex1.Sets) c7) rfl rfl rfl ti_24 ag_24 (fun _ => rfl) rfl ex8 rfl rfl ?_
  refine LP_ev ok 2 [(10, I (ln ex1.Sets)), (11, I 0)] 4 rfl rfl ?_
  refine LP_end _ rfl ?_
  refine W_block ?_
  have X21 := (X.stepx x)
  have ex22 := (ex.ext x)
  have ex23 := (ex5.ext x)
  obtain ⟨J, m, Hx, H⟩ := H
  refine W_loop (S := (List Int) × Int) (fun s ρ' w' => J s.1 s.2 ∧ ∃ (ρ : Env) (vx9 : Value) (hx10 : PH), ρ' = setAll [(0, .slice a (List.length sx) c), (5, vx9), (9, .slice a6 (List.length ex1.Sets) c7), (10, I (ln ex1.Sets)), (11, I s.2)] ρ ∧ But emp w w' ∧ OS 3 hx10 emp vx9 s.1 ∧ Sub hx10 w' ∧ Fresh w.heap.size hx10 ∧ Sub hx w' ∧ Sub hx3 w' ∧ Dj hx10 hx ∧ Dj hx10 hx3) (fun s => m s.1 s.2) ([], 0) ⟨Hx, _, .slice none 0 0, emp, env_eq ⟨rfl, rfl, rfl, rfl, rfl, trivial⟩, X21, OS.nil, (emp_sub _), (emp_fresh _), ex22, ex23, (fun _ => .inl rfl), (fun _ => .inl rfl)⟩ ?_
  rintro ⟨out, x13⟩ _ wx14 ⟨Hi, ρ, vx9, hx10, rfl, X20, o, ex11, f12, ex15, ex16, d, d19⟩
  have H := H out x13 Hi
  obtain ⟨a17, c18, rfl⟩ := o.shape
  refine W_seq ?_
  refine W_region ?_
  refine LP_ev ok 0 [(12, .bool (decide (x13 < (ln ex1.Sets))))] 1 rfl rfl ?_
  refine LP_end _ rfl ?_
  refine W_seq ?_
  refine W_cond (decide (x13 < (ln ex1.Sets))) rfl (fun hc => ?_) (fun hc => ?_)
  · have H := H.1 hc
    refine W_skip ?_
    obtain ⟨k, hk, H⟩ := jn_elim H
    refine W_join2 (S := (List Int)) (fun s ρ' w' => k s ∧ ∃ (ρ : Env) (vx25 : Value) (hx26 : PH), ρ' = setAll [(0, .slice a (List.length sx) c), (5, vx25), (9, .slice a6 (List.length ex1.Sets) c7), (10, I (ln ex1.Sets)), (11, I x13)] ρ ∧ But emp w w' ∧ OS 3 hx26 emp vx25 s ∧ Sub hx26 w' ∧ Fresh w.heap.size hx26 ∧ Sub hx w' ∧ Sub hx3 w' ∧ Dj hx26 hx ∧ Dj hx26 hx3) ?_ ?_
    · refine W_block ?_
      refine W_seq ?_
      refine W_region ?_
      refine LP_ev ok 0 [(13, I x13)] 1 rfl rfl ?_
      obtain ⟨x38, hi, hx39, H⟩ := H
      refine LP_index 1 rfl rfl rfl Try.underlying24 ti_3 rfl rfl r4 hi hx39 fun a40 cs r41 d42 => ?_
      refine LP_load 2 rfl rfl rfl ti_3 ag_3 rfl r41 d42 ex16 fun vx43 r44 => ?_
      obtain rfl := r44.int
      refine LP_ev ok 3 [(6, I x13), (7, I x38)] 5 rfl rfl ?_
      refine LP_end _ rfl ?_
      refine W_seq ?_
      refine W_region ?_
      refine LP_ev ok 0 [(16, I x38), (17, .slice a (List.length sx) c), (18, I x13)] 3 rfl rfl ?_
      refine LP_call 3 rfl rfl rfl cal_161 rfl (spec_eFull_w _ _ _ H wx14 r ex15) ?_
      rintro _ wx46 ⟨r45, H, rfl, x47⟩
      refine LP_ev ok 4 [(20, .bool (x38 != r45))] 5 rfl rfl ?_
      refine LP_end _ rfl ?_
      refine W_cond (x38 != r45) rfl (fun hc48 => ?_) (fun hc48 => ?_)
      · have H := H.1 hc48
        refine W_region ?_
        refine LP_ev ok 0 [(21, .slice a17 (List.length out) c18), (22, I x13)] 2 rfl rfl ?_
        refine LP_lit (α := Int) (g := emp) 2 (vs := [I x13]) (xs := [x13]) rfl rfl rfl Try.underlying24 ti_3 rfl rfl ⟨⟨_, rfl, rfl⟩, trivial⟩ rfl rfl fun hx49 vx50 wx51 x52 o53 ex54 f55 => ?_
        obtain ⟨a56, c57, rfl⟩ := o53.shape
        have ex58 := ((ex11.ext x47).ext x52)
        obtain ⟨hb, H⟩ := H
        refine LP_appendf (α := Int) 3 rfl rfl rfl Try.underlying24 ti_3 rfl rfl rfl o ex58 o53.readf ex54 (by first | omega | (simp only [ln] at *; omega)) (by first | omega | (simp only [ln] at *; omega)) fun hx59 vx60 wx61 o62 ex63 y dm => ?_
        obtain ⟨a64, c65, rfl⟩ := o62.shape
        refine LP_ev ok 4 [(5, .slice a64 (List.length (out ++ ([x13]))) c65)] 5 rfl rfl ?_
        refine LP_end _ rfl ?_
        have X66 := (((X20.stepx x47).stepx x52).step y (f12.dom _))
        have X68 := ((X20.stepx x47).stepx x52)
        have f67 := dm.fresh f12 X68.size
        have ex69 := (((ex15.ext x47).ext x52).but y d)
        have ex70 := (((ex16.ext x47).ext x52).but y d19)
        have ex71 := ((ex15.ext x47).ext x52)
        have ex72 := ((ex16.ext x47).ext x52)
        exact ⟨out ++ ([x13]), H, _, .slice a64 (List.length (out ++ ([x13]))) c65, hx59, env_eq ⟨rfl, rfl, rfl, rfl, rfl, trivial⟩, X66, o62, ex63, f67, ex69, ex70, (DomLe.dj dm d ex71), (DomLe.dj dm d19 ex72)⟩
      have H := H.2 hc48
      refine W_skip ?_
      have X73 := (X20.stepx x47)
      have ex74 := (ex11.ext x47)
      have ex75 := (ex15.ext x47)
      have ex76 := (ex16.ext x47)
      exact ⟨out, H, _, .slice a17 (List.length out) c18, hx10, env_eq ⟨rfl, rfl, rfl, rfl, rfl, trivial⟩, X73, o, ex74, f12, ex75, ex76, d, d19⟩
    rintro out24 _ wx30 ⟨H, ρ, vx25, hx26, rfl, X37, o27, ex28, f29, ex31, ex32, d35, d36⟩
    subst hk
    obtain ⟨a33, c34, rfl⟩ := o27.shape
    refine W_region ?_
    refine LP_ev ok 0 [(25, I (wr (x13 + 1))), (11, I (wr (x13 + 1)))] 2 rfl rfl ?_
    refine LP_end _ rfl ?_
    exact ⟨(out24, wr (x13 + 1)), ⟨H.1, _, .slice a33 (List.length out24) c34, hx26, env_eq ⟨rfl, rfl, rfl, rfl, rfl, trivial⟩, X37, o27, ex28, f29, ex31, ex32, d35, d36⟩, H.2⟩
  have H := H.2 hc
  refine W_exit ?_
  refine (if_pos rfl).mpr ?_
  refine W_seq ?_
  refine W_region ?_
  refine LP_ev ok 0 [(26, .slice a17 (List.length out) c18), (4, .slice a17 (List.length out) c18)] 2 rfl rfl ?_
  refine LP_end _ rfl ?_
  refine W_ret ?_
  exact ⟨_, Ret_of [.slice a17 (List.length out) c18] ⟨⟨rfl, rfl⟩, trivial⟩, _, _, _, H, rfl, X20.ext, o, ex11, f12⟩

set_option maxRecDepth 8000 in
set_option maxHeartbeats 4000000 in
theorem spec_l1Has_w (l : List Int) (n : Int) (Q : Bool → Prop) (H : spec_l1Has l n Q) (w : World) {vx : Value} {hx : PH} (r : RS hx vx l) (ex : Sub hx w) :
    CallsTo Try.prog 126 #[vx, I n] w fun v w' => ∃ r0, Q r0 ∧ v = .bool r0 ∧ Ext w w' := by
  obtain ⟨a, c, rfl⟩ := r.shape
  refine enter (args := [.slice a (List.length l) c, I n]) 17 Try.func126 rfl rfl rfl ?_
  refine W_forget [(0, .slice a (List.length l) c), (1, I n)] ⟨rfl, rfl, trivial⟩ fun ρ => ?_
  have X := But.refl emp w
  refine W_seq ?_
  refine W_region ?_
  refine LP_ev ok 0 [(4, .bool false)] 1 rfl rfl ?_
  refine LP_end _ rfl ?_
  refine W_seq ?_
  refine W_seq ?_
  refine W_region ?_
  refine LP_ev ok 0 [(7, .slice a (List.length l) c), (8, I (ln l)), (9, I 0)] 3 rfl rfl ?_
  refine LP_end _ rfl ?_
  refine W_block ?_
  obtain ⟨J, m, Hx, H⟩ := H
  refine W_loop (S := Int) (fun s ρ' w' => J s ∧ ∃ (ρ : Env), ρ' = setAll [(1, I n), (7, .slice a (List.length l) c), (8, I (ln l)), (9, I s)] ρ ∧ w = w') (fun s => m s) 0 ⟨Hx, _, env_eq ⟨rfl, rfl, rfl, rfl, trivial⟩, rfl⟩ ?_
  rintro x _ _ ⟨Hi, ρ, rfl, rfl⟩
  have H := H x Hi
  refine W_seq ?_
  refine W_region ?_
  refine LP_ev ok 0 [(10, .bool (decide (x < (ln l))))] 1 rfl rfl ?_
  refine LP_end _ rfl ?_
  refine W_seq ?_
  refine W_cond (decide (x < (ln l))) rfl (fun hc => ?_) (fun hc => ?_)
  · have H := H.1 hc
    refine W_skip ?_
    refine W_seq ?_
    refine W_block ?_
    refine W_seq ?_
    refine W_region ?_
    obtain ⟨x1, hi, hx2, H⟩ := H
    refine LP_index 0 rfl rfl rfl Try.underlying24 ti_3 rfl rfl r hi hx2 fun a3 cs r4 d => ?_
    refine LP_load 1 rfl rfl rfl ti_3 ag_3 rfl r4 d ex fun vx5 r6 => ?_
    obtain rfl := r6.int
    refine LP_ev ok 2 [(6, I x1)] 3 rfl rfl ?_
    refine LP_end _ rfl ?_
    refine W_seq ?_
    refine W_region ?_
    refine LP_ev ok 0 [(13, I x1), (14, I n), (15, .bool (x1 == n))] 3 rfl rfl ?_
    refine LP_end _ rfl ?_
    refine W_cond (x1 == n) rfl (fun hc7 => ?_) (fun hc7 => ?_)
    · have H := H.1 hc7
      refine W_seq ?_
      refine W_region ?_
      refine LP_ev ok 0 [(4, .bool true)] 1 rfl rfl ?_
      refine LP_end _ rfl ?_
      refine W_ret ?_
      exact ⟨_, Ret_of [.bool true] ⟨⟨rfl, rfl⟩, trivial⟩, _, H, rfl, X.ext⟩
    have H := H.2 hc7
    refine W_skip ?_
    refine W_region ?_
    refine LP_ev ok 0 [(16, I (wr (x + 1))), (9, I (wr (x + 1)))] 2 rfl rfl ?_
    refine LP_end _ rfl ?_
    exact ⟨wr (x + 1), ⟨H.1, _, env_eq ⟨rfl, rfl, rfl, rfl, trivial⟩, rfl⟩, H.2⟩
  have H := H.2 hc
  refine W_exit ?_
  refine (if_pos rfl).mpr ?_
  refine W_seq ?_
  refine W_region ?_
  refine LP_ev ok 0 [(4, .bool false)] 1 rfl rfl ?_
  refine LP_end _ rfl ?_
  refine W_ret ?_
  exact ⟨_, Ret_of [.bool false] ⟨⟨rfl, rfl⟩, trivial⟩, _, H, rfl, X.ext⟩

set_option maxRecDepth 8000 in
set_option maxHeartbeats 4000000 in
theorem spec_iShares_w (a : List Int) (b : List Int) (Q : Bool → Prop) (H : spec_iShares a b Q) (w : World) {vx : Value} {hx : PH} (r : RS hx vx a) (ex : Sub hx w) {vx2 : Value} {hx3 : PH} (r4 : RS hx3 vx2 b) (ex5 : Sub hx3 w) :
    CallsTo Try.prog 82 #[vx, vx2] w fun v w' => ∃ r0, Q r0 ∧ v = .bool r0 ∧ Ext w w' := by
  obtain ⟨a1, c, rfl⟩ := r.shape
  obtain ⟨a6, c7, rfl⟩ := r4.shape
  refine enter (args := [.slice a1 (List.length a) c, .slice a6 (List.length b) c7]) 17 Try.func82 rfl rfl rfl ?_
  refine W_forget [(0, .slice a1 (List.length a) c), (1, .slice a6 (List.length b) c7)] ⟨rfl, rfl, trivial⟩ fun ρ => ?_
  have X := But.refl emp w
  refine W_seq ?_
  refine W_region ?_
  refine LP_ev ok 0 [(4, .bool false)] 1 rfl rfl ?_
  refine LP_end _ rfl ?_
  refine W_seq ?_
  refine W_seq ?_
  refine W_region ?_
  refine LP_ev ok 0 [(7, .slice a1 (List.length a) c), (8, I (ln a)), (9, I 0)] 3 rfl rfl ?_
  refine LP_end _ rfl ?_
  refine W_block ?_
  obtain ⟨J, m, Hx, H⟩ := H
  refine W_loop (S := Int) (fun s ρ' w' => J s ∧ ∃ (ρ : Env), ρ' = setAll [(1, .slice a6 (List.length b) c7), (7, .slice a1 (List.length a) c), (8, I (ln a)), (9, I s)] ρ ∧ But emp w w' ∧ Sub hx w' ∧ Sub hx3 w') (fun s => m s) 0 ⟨Hx, _, env_eq ⟨rfl, rfl, rfl, rfl, trivial⟩, X, ex, ex5⟩ ?_
  rintro x _ wx ⟨Hi, ρ, rfl, X10, ex8, ex9⟩
  have H := H x Hi
  refine W_seq ?_
  refine W_region ?_
  refine LP_ev ok 0 [(10, .bool (decide (x < (ln a))))] 1 rfl rfl ?_
  refine LP_end _ rfl ?_
  refine W_seq ?_
  refine W_cond (decide (x < (ln a))) rfl (fun hc => ?_) (fun hc => ?_)
  · have H := H.1 hc
    refine W_skip ?_
    refine W_seq ?_
    refine W_block ?_
    refine W_seq ?_
    refine W_region ?_
    obtain ⟨x11, hi, hx12, H⟩ := H
    refine LP_index 0 rfl rfl rfl Try.underlying24 ti_3 rfl rfl r hi hx12 fun a13 cs r14 d => ?_
    refine LP_load 1 rfl rfl rfl ti_3 ag_3 rfl r14 d ex8 fun vx15 r16 => ?_
    obtain rfl := r16.int
    refine LP_ev ok 2 [(6, I x11)] 3 rfl rfl ?_
    refine LP_end _ rfl ?_
    refine W_seq ?_
    refine W_region ?_
    refine LP_ev ok 0 [(13, .slice a6 (List.length b) c7), (14, I x11)] 2 rfl rfl ?_
    refine LP_call 2 rfl rfl rfl cal_126 rfl (spec_l1Has_w _ _ _ H wx r4 ex9) ?_
    rintro _ wx18 ⟨r17, H, rfl, x19⟩
    refine LP_end _ rfl ?_
    refine W_cond (r17) rfl (fun hc20 => ?_) (fun hc20 => ?_)
    · have H := H.1 hc20
      refine W_seq ?_
      refine W_region ?_
      refine LP_ev ok 0 [(4, .bool true)] 1 rfl rfl ?_
      refine LP_end _ rfl ?_
      refine W_ret ?_
      have X21 := (X10.stepx x19)
      exact ⟨_, Ret_of [.bool true] ⟨⟨rfl, rfl⟩, trivial⟩, _, H, rfl, X21.ext⟩
    have H := H.2 hc20
    refine W_skip ?_
    refine W_region ?_
    refine LP_ev ok 0 [(16, I (wr (x + 1))), (9, I (wr (x + 1)))] 2 rfl rfl ?_
    refine LP_end _ rfl ?_
    have X22 := (X10.stepx x19)
    have ex23 := (ex8.ext x19)
    have ex24 := (ex9.ext x19)
    exact ⟨wr (x + 1), ⟨H.1, _, env_eq ⟨rfl, rfl, rfl, rfl, trivial⟩, X22, ex23, ex24⟩, H.2⟩
  have H := H.2 hc
  refine W_exit ?_
  refine (if_pos rfl).mpr ?_
  refine W_seq ?_
  refine W_region ?_
  refine LP_ev ok 0 [(4, .bool false)] 1 rfl rfl ?_
  refine LP_end _ rfl ?_
  refine W_ret ?_
  exact ⟨_, Ret_of [.bool false] ⟨⟨rfl, rfl⟩, trivial⟩, _, H, rfl, X10.ext⟩

set_option maxRecDepth 8000 in
set_option maxHeartbeats 4000000 in
theorem spec_IsCover_w (sx : List Variable) (l : List Edit) (values : List Int) (vars : List Int) (Q : Bool → Bool → Prop) (H : spec_IsCover sx l values vars Q) (w : World) {vx : Value} {hx : PH} (r : RS hx vx sx) (ex : Sub hx w) {vx1 : Value} {hx2 : PH} (r3 : RS hx2 vx1 l) (ex4 : Sub hx2 w) {vx7 : Value} {hx8 : PH} (r9 : RS hx8 vx7 values) (ex10 : Sub hx8 w) {vx13 : Value} {hx14 : PH} (r15 : RS hx14 vx13 vars) (ex16 : Sub hx14 w) :
    CallsTo Try.prog 16 #[vx, vx1, vx7, vx13] w fun v w' => ∃ r0 r1, Q r0 r1 ∧ v = .tuple #[.bool r0, .bool r1] ∧ Ext w w' := by
  obtain ⟨a, c, rfl⟩ := r.shape
  obtain ⟨a5, c6, rfl⟩ := r3.shape
  obtain ⟨a11, c12, rfl⟩ := r9.shape
  obtain ⟨a17, c18, rfl⟩ := r15.shape
  refine enter (args := [.slice a (List.length sx) c, .slice a5 (List.length l) c6, .slice a11 (List.length values) c12, .slice a17 (List.length vars) c18]) 50 Try.func16 rfl rfl rfl ?_
  refine W_forget [(0, .slice a (List.length sx) c), (1, .slice a5 (List.length l) c6), (2, .slice a11 (List.length values) c12), (3, .slice a17 (List.length vars) c18)] ⟨rfl, rfl, rfl, rfl, trivial⟩ fun ρ => ?_
  have X := But.refl emp w
  refine W_seq ?_
  refine W_region ?_
  refine LP_ev ok 0 [(8, .bool false), (9, .bool false)] 2 rfl rfl ?_
  refine LP_end _ rfl ?_
  refine W_seq ?_
  obtain ⟨k, hk, H⟩ := jn_elim H
  refine W_join2 (S := Bool) (fun s ρ' w' => k s ∧ ∃ (ρ : Env), ρ' = setAll [(0, .slice a (List.length sx) c), (1, .slice a5 (List.length l) c6), (2, .slice a11 (List.length values) c12), (3, .slice a17 (List.length vars) c18), (29, .bool s)] ρ ∧ But emp w w' ∧ Sub hx w' ∧ Sub hx2 w' ∧ Sub hx8 w' ∧ Sub hx14 w') ?_ ?_
  · refine W_region ?_
    refine LP_ev ok 0 [(12, .slice a (List.length sx) c), (13, .slice a5 (List.length l) c6)] 2 rfl rfl ?_
    refine LP_call 2 rfl rfl rfl cal_77 rfl (spec_eSmall_w _ _ _ H w r ex r3 ex4) ?_
    rintro _ wx25 ⟨r24, H, rfl, x26⟩
    refine LP_ev ok 3 [(15, .bool (!r24)), (16, .bool (!r24))] 5 rfl rfl ?_
    refine LP_split 16 (!r24) rfl (fun hc => ?_) (fun hc => ?_)
    · have H := H.1 hc
      refine LP_ev ok 5 [(17, undef), (18, undef), (19, undef), (20, undef), (21, .bool true), (22, .bool true), (23, undef), (24, undef), (25, undef), (26, undef), (27, undef), (28, undef), (29, .bool true)] 18 rfl rfl ?_
      refine LP_end _ rfl ?_
      have X27 := (X.stepx x26)
      have ex28 := (ex.ext x26)
      have ex29 := (ex4.ext x26)
      have ex30 := (ex10.ext x26)
      have ex31 := (ex16.ext x26)
      exact ⟨true, H, _, env_eq ⟨rfl, rfl, rfl, rfl, rfl, trivial⟩, X27, ex28, ex29, ex30, ex31⟩
    have H := H.2 hc
    refine LP_ev ok 5 [(17, .slice a (List.length sx) c), (18, .slice a11 (List.length values) c12)] 7 rfl rfl ?_
    have ex33 := (ex.ext x26)
    have ex34 := (ex10.ext x26)
    refine LP_call 7 rfl rfl rfl cal_78 rfl (spec_sFits_w _ _ _ H wx25 r ex33 r9 ex34) ?_
    rintro _ wx35 ⟨r32, H, rfl, x36⟩
    refine LP_ev ok 8 [(20, .bool (!r32)), (21, .bool (!r32)), (22, .bool (!r32))] 11 rfl rfl ?_
    refine LP_split 22 (!r32) rfl (fun hc37 => ?_) (fun hc37 => ?_)
    · have H := H.1 hc37
      refine LP_ev ok 11 [(23, undef), (24, undef), (25, undef), (26, undef), (27, undef), (28, undef), (29, .bool true)] 18 rfl rfl ?_
      refine LP_end _ rfl ?_
      have X38 := ((X.stepx x26).stepx x36)
      have ex39 := (ex33.ext x36)
      have ex40 := ((ex4.ext x26).ext x36)
      have ex41 := (ex34.ext x36)
      have ex42 := ((ex16.ext x26).ext x36)
      exact ⟨true, H, _, env_eq ⟨rfl, rfl, rfl, rfl, rfl, trivial⟩, X38, ex39, ex40, ex41, ex42⟩
    have H := H.2 hc37
    refine LP_ev ok 11 [(23, .slice a17 (List.length vars) c18), (24, .slice a (List.length sx) c), (25, I (ln sx)), (26, I (wr ((ln sx) - 1)))] 15 rfl rfl ?_
    have ex44 := ((ex16.ext x26).ext x36)
    refine LP_call 15 rfl rfl rfl cal_79 rfl (spec_l1Rising_w _ _ _ _ H wx35 r15 ex44) ?_
    rintro _ wx45 ⟨r43, H, rfl, x46⟩
    refine LP_ev ok 16 [(28, .bool (!r43)), (29, .bool (!r43))] 18 rfl rfl ?_
    refine LP_end _ rfl ?_
    have X47 := (((X.stepx x26).stepx x36).stepx x46)
    have ex48 := ((ex33.ext x36).ext x46)
    have ex49 := (((ex4.ext x26).ext x36).ext x46)
    have ex50 := ((ex34.ext x36).ext x46)
    have ex51 := (ex44.ext x46)
    exact ⟨!r43, H, _, env_eq ⟨rfl, rfl, rfl, rfl, rfl, trivial⟩, X47, ex48, ex49, ex50, ex51⟩
  rintro x _ wx ⟨H, ρ, rfl, X23, ex19, ex20, ex21, ex22⟩
  subst hk
  refine W_cond (x) rfl (fun hc52 => ?_) (fun hc52 => ?_)
  · have H := H.1 hc52
    refine W_seq ?_
    refine W_region ?_
    refine LP_ev ok 0 [(8, .bool false), (9, .bool false)] 2 rfl rfl ?_
    refine LP_end _ rfl ?_
    refine W_ret ?_
    exact ⟨_, Ret_of [.bool false, .bool false] ⟨⟨rfl, rfl⟩, ⟨rfl, rfl⟩, trivial⟩, _, _, H, rfl, X23.ext⟩
  have H := H.2 hc52
  refine W_skip ?_
  refine W_seq ?_
  refine W_seq ?_
  refine W_region ?_
  refine LP_ev ok 0 [(30, .slice a (List.length sx) c), (31, .slice a5 (List.length l) c6)] 2 rfl rfl ?_
  refine LP_call 2 rfl rfl rfl cal_80 rfl (spec_eMaximal_w _ _ _ _ H wx r ex19 r3 ex20) ?_
  rintro _ wx54 ⟨r53, vx56, hx57, H, rfl, x55, o, ex58, f⟩
  obtain ⟨a59, c60, rfl⟩ := o.shape
  refine LP_ev ok 3 [(33, I (ln r53)), (34, I 0)] 5 rfl rfl ?_
  refine LP_end _ rfl ?_
  refine W_block ?_
  have X68 := (X23.stepx x55)
  have ex69 := (ex19.ext x55)
  have ex70 := (ex21.ext x55)
  have ex71 := (ex22.ext x55)
  obtain ⟨J, m, Hx, H⟩ := H
  refine W_loop (S := Int) (fun s ρ' w' => J s ∧ ∃ (ρ : Env), ρ' = setAll [(0, .slice a (List.length sx) c), (2, .slice a11 (List.length values) c12), (3, .slice a17 (List.length vars) c18), (32, .slice a59 (List.length r53) c60), (33, I (ln r53)), (34, I s)] ρ ∧ But emp w w' ∧ Sub hx w' ∧ Sub hx8 w' ∧ Sub hx14 w' ∧ Sub hx57 w') (fun s => m s) 0 ⟨Hx, _, env_eq ⟨rfl, rfl, rfl, rfl, rfl, rfl, trivial⟩, X68, ex69, ex70, ex71, ex58⟩ ?_
  rintro x61 _ wx62 ⟨Hi, ρ, rfl, X67, ex63, ex64, ex65, ex66⟩
  have H := H x61 Hi
  refine W_seq ?_
  refine W_region ?_
  refine LP_ev ok 0 [(35, .bool (decide (x61 < (ln r53))))] 1 rfl rfl ?_
  refine LP_end _ rfl ?_
  refine W_seq ?_
  refine W_cond (decide (x61 < (ln r53))) rfl (fun hc72 => ?_) (fun hc72 => ?_)
  · have H := H.1 hc72
    refine W_skip ?_
    refine W_seq ?_
    refine W_block ?_
    refine W_seq ?_
    refine W_region ?_
    obtain ⟨x73, hi, hx74, H⟩ := H
    refine LP_index 0 rfl rfl rfl Try.underlying31 ti_50 rfl rfl o.readf hi hx74 fun a75 cs r76 d => ?_
    have d77 := d
    obtain ⟨u, rfl, r78⟩ := Edit_rd d77
    obtain ⟨a79, c80, rfl⟩ := r78.shape
    refine LP_load 1 rfl rfl rfl ti_50 ag_50 rfl r76 d ex66 fun vx81 r82 => ?_
    obtain ⟨u83, rfl, r84⟩ := Edit_rv r82
    obtain ⟨a85, c86, rfl⟩ := r84.shape
    refine LP_alloc 2 rfl rfl rfl ti_50 rfl fun b wx87 x88 ex89 f90 => ?_
    refine LP_stbox 3 (vs := [.slice a85 (List.length x73.Sets) c86]) (cs' := [.slice a85 (List.length x73.Sets) c86]) rfl rfl rfl ti_50 rfl rfl rfl rfl rfl ex89 rfl rfl fun wx91 ex92 y => ?_
    refine LP_end _ rfl ?_
    obtain ⟨k100, hk101, H⟩ := jn_elim H
    refine W_join2 (S := Bool) (fun s ρ' w' => k100 s ∧ ∃ (ρ : Env), ρ' = setAll [(0, .slice a (List.length sx) c), (2, .slice a11 (List.length values) c12), (3, .slice a17 (List.length vars) c18), (32, .slice a59 (List.length r53) c60), (33, I (ln r53)), (34, I x61), (48, .bool s)] ρ ∧ But emp w w' ∧ Sub hx w' ∧ Sub hx8 w' ∧ Sub hx14 w' ∧ Sub hx57 w') ?_ ?_
    · refine W_region ?_
      refine LP_ldbox 0 (v := .agg #[.slice a85 (List.length x73.Sets) c86]) rfl rfl rfl ti_50 ag_50 (fun h => by cases h) rfl ex92 rfl rfl ?_
      refine LP_ev ok 1 [(39, .slice a11 (List.length values) c12)] 2 rfl rfl ?_
      have ex103 := ((ex66.ext x88).but y (Dj.of_fresh ex66 f90).symm)
      have ex104 := ((ex64.ext x88).but y (Dj.of_fresh ex64 f90).symm)
      refine LP_call 2 rfl rfl rfl cal_81 rfl (spec_eFails_w _ _ _ H wx91 r84 ex103 r9 ex104) ?_
      rintro _ wx105 ⟨r102, H, rfl, x106⟩
      refine LP_ev ok 3 [(41, .bool r102)] 4 rfl rfl ?_
      refine LP_split 41 (r102) rfl (fun hc107 => ?_) (fun hc107 => ?_)
      · have H := H.1 hc107
        refine LP_ev ok 4 [(42, .slice a (List.length sx) c)] 5 rfl rfl ?_
        have ex108 := (ex92.ext x106)
        refine LP_ldbox 5 (v := .agg #[.slice a85 (List.length x73.Sets) c86]) rfl rfl rfl ti_50 ag_50 (fun h => by cases h) rfl ex108 rfl rfl ?_
        have ex110 := (((ex63.ext x88).but y (Dj.of_fresh ex63 f90).symm).ext x106)
        have ex111 := (ex103.ext x106)
        refine LP_call 6 rfl rfl rfl cal_83 rfl (spec_eInvolved_w _ _ _ H wx105 r ex110 r84 ex111) ?_
        rintro _ wx112 ⟨r109, vx114, hx115, H, rfl, x113, o116, ex117, f118⟩
        obtain ⟨a119, c120, rfl⟩ := o116.shape
        refine LP_ev ok 7 [(45, .slice a17 (List.length vars) c18)] 8 rfl rfl ?_
        have ex122 := ((((ex65.ext x88).but y (Dj.of_fresh ex65 f90).symm).ext x106).ext x113)
        refine LP_call 8 rfl rfl rfl cal_82 rfl (spec_iShares_w _ _ _ H wx112 o116.readf ex117 r15 ex122) ?_
        rintro _ wx123 ⟨r121, H, rfl, x124⟩
        refine LP_ev ok 9 [(47, .bool (!r121)), (48, .bool (!r121))] 11 rfl rfl ?_
        refine LP_end _ rfl ?_
        have f125 := f90.mono X67.size
        have X126 := (((((X67.stepx x88).step y (f125.dom _)).stepx x106).stepx x113).stepx x124)
        have ex127 := ((ex110.ext x113).ext x124)
        have ex128 := (((ex104.ext x106).ext x113).ext x124)
        have ex129 := (ex122.ext x124)
        have ex130 := ((ex111.ext x113).ext x124)
        exact ⟨!r121, H, _, env_eq ⟨rfl, rfl, rfl, rfl, rfl, rfl, rfl, trivial⟩, X126, ex127, ex128, ex129, ex130⟩
      have H := H.2 hc107
      refine LP_ev ok 4 [(42, undef), (43, undef), (44, undef), (45, undef), (46, undef), (47, undef), (48, .bool false)] 11 rfl rfl ?_
      refine LP_end _ rfl ?_
      have f131 := f90.mono X67.size
      have X132 := (((X67.stepx x88).step y (f131.dom _)).stepx x106)
      have ex133 := (((ex63.ext x88).but y (Dj.of_fresh ex63 f90).symm).ext x106)
      have ex134 := (ex104.ext x106)
      have ex135 := (((ex65.ext x88).but y (Dj.of_fresh ex65 f90).symm).ext x106)
      have ex136 := (ex103.ext x106)
      exact ⟨false, H, _, env_eq ⟨rfl, rfl, rfl, rfl, rfl, rfl, rfl, trivial⟩, X132, ex133, ex134, ex135, ex136⟩
    rintro x93 _ wx94 ⟨H, ρ, rfl, X99, ex95, ex96, ex97, ex98⟩
    subst hk101
    refine W_cond (x93) rfl (fun hc137 => ?_) (fun hc137 => ?_)
    · have H := H.1 hc137
      refine W_seq ?_
      refine W_region ?_
      refine LP_ev ok 0 [(8, .bool false), (9, .bool true)] 2 rfl rfl ?_
      refine LP_end _ rfl ?_
      refine W_ret ?_
      exact ⟨_, Ret_of [.bool false, .bool true] ⟨⟨rfl, rfl⟩, ⟨rfl, rfl⟩, trivial⟩, _, _, H, rfl, X99.ext⟩
    have H := H.2 hc137
    refine W_skip ?_
    refine W_region ?_
    refine LP_ev ok 0 [(49, I (wr (x61 + 1))), (34, I (wr (x61 + 1)))] 2 rfl rfl ?_
    refine LP_end _ rfl ?_
    exact ⟨wr (x61 + 1), ⟨H.1, _, env_eq ⟨rfl, rfl, rfl, rfl, rfl, rfl, trivial⟩, X99, ex95, ex96, ex97, ex98⟩, H.2⟩
  have H := H.2 hc72
  refine W_exit ?_
  refine (if_pos rfl).mpr ?_
  refine W_seq ?_
  refine W_region ?_
  refine LP_ev ok 0 [(8, .bool true), (9, .bool true)] 2 rfl rfl ?_
  refine LP_end _ rfl ?_
  refine W_ret ?_
  exact ⟨_, Ret_of [.bool true, .bool true] ⟨⟨rfl, rfl⟩, ⟨rfl, rfl⟩, trivial⟩, _, _, H, rfl, X67.ext⟩

set_option maxRecDepth 8000 in
set_option maxHeartbeats 4000000 in
theorem impl_isWord_w (sx : ByteArray) (Q : Bool → Prop) (H : impl_isWord sx Q) (w : World)  :
    CallsTo Try.prog 219 #[.string sx] w fun v w' => ∃ r0, Q r0 ∧ v = .bool r0 ∧ Ext w w' := by
  refine enter (args := [.string sx]) 28 Try.func219 rfl rfl rfl ?_
  refine W_forget [(0, .string sx)] ⟨rfl, trivial⟩ fun ρ => ?_
  have X := But.refl emp w
  refine W_seq ?_
  refine W_region ?_
  refine LP_ev ok 0 [(2, .bool false)] 1 rfl rfl ?_
  refine LP_end _ rfl ?_
  refine W_seq ?_
  obtain ⟨k, hk, H⟩ := jn_elim H
  refine W_join2 (S := Bool) (fun s ρ' w' => k s ∧ ∃ (ρ : Env), ρ' = setAll [(0, .string sx), (11, .bool s)] ρ ∧ w = w') ?_ ?_
  · refine W_region ?_
    refine LP_ev ok 0 [(4, .string sx), (5, I (sln sx)), (6, .bool (decide ((sln sx) < 1))), (7, .bool (decide ((sln sx) < 1)))] 4 rfl rfl ?_
    refine LP_split 7 (decide ((sln sx) < 1)) rfl (fun hc => ?_) (fun hc => ?_)
    · have H := H.1 hc
      refine LP_ev ok 4 [(8, undef), (9, undef), (10, undef), (11, .bool true)] 8 rfl rfl ?_
      refine LP_end _ rfl ?_
      exact ⟨true, H, _, env_eq ⟨rfl, rfl, trivial⟩, rfl⟩
    have H := H.2 hc
    refine LP_ev ok 4 [(8, .string sx), (9, I (sln sx)), (10, .bool (decide ((sln sx) > 8))), (11, .bool (decide ((sln sx) > 8)))] 8 rfl rfl ?_
    refine LP_end _ rfl ?_
    exact ⟨decide ((sln sx) > 8), H, _, env_eq ⟨rfl, rfl, trivial⟩, rfl⟩
  rintro x _ _ ⟨H, ρ, rfl, rfl⟩
  subst hk
  refine W_cond (x) rfl (fun hc1 => ?_) (fun hc1 => ?_)
  · have H := H.1 hc1
    refine W_seq ?_
    refine W_region ?_
    refine LP_ev ok 0 [(2, .bool false)] 1 rfl rfl ?_
    refine LP_end _ rfl ?_
    refine W_ret ?_
    exact ⟨_, Ret_of [.bool false] ⟨⟨rfl, rfl⟩, trivial⟩, _, H, rfl, X.ext⟩
  have H := H.2 hc1
  refine W_skip ?_
  refine W_seq ?_
  refine W_seq ?_
  refine W_region ?_
  refine LP_ev ok 0 [(12, .string sx), (13, I (sln sx)), (14, I 0)] 3 rfl rfl ?_
  refine LP_end _ rfl ?_
  refine W_block ?_
  obtain ⟨J, m, Hx, H⟩ := H
  refine W_loop (S := Int) (fun s ρ' w' => J s ∧ ∃ (ρ : Env), ρ' = setAll [(0, .string sx), (13, I (sln sx)), (14, I s)] ρ ∧ w = w') (fun s => m s) 0 ⟨Hx, _, env_eq ⟨rfl, rfl, rfl, trivial⟩, rfl⟩ ?_
  rintro x2 _ _ ⟨Hi, ρ, rfl, rfl⟩
  have H := H x2 Hi
  refine W_seq ?_
  refine W_region ?_
  refine LP_ev ok 0 [(15, .bool (decide (x2 < (sln sx))))] 1 rfl rfl ?_
  refine LP_end _ rfl ?_
  refine W_seq ?_
  refine W_cond (decide (x2 < (sln sx))) rfl (fun hc4 => ?_) (fun hc4 => ?_)
  · have H := H.1 hc4
    refine W_skip ?_
    refine W_seq ?_
    refine W_block ?_
    refine W_seq ?_
    refine W_region ?_
    refine LP_ev ok 0 [(16, I x2), (3, I x2)] 2 rfl rfl ?_
    refine LP_end _ rfl ?_
    obtain ⟨k7, hk8, H⟩ := jn_elim H
    refine W_join2 (S := Bool) (fun s ρ' w' => k7 s ∧ ∃ (ρ : Env), ρ' = setAll [(0, .string sx), (13, I (sln sx)), (14, I x2), (26, .bool s)] ρ ∧ w = w') ?_ ?_
    · refine W_region ?_
      refine LP_ev ok 0 [(17, .string sx), (18, I x2)] 2 rfl rfl ?_
      obtain ⟨c, hi, hx, H⟩ := H
      refine LP_val 2 _ rfl rfl (ex_sidx rfl rfl rfl Try.underlying9 hi hx _) ?_
      refine LP_ev ok 3 [(20, .bool (decide ((((UInt8.toNat c : Nat) : Int)) < 97))), (21, .bool (decide ((((UInt8.toNat c : Nat) : Int)) < 97)))] 5 rfl rfl ?_
      refine LP_split 21 (decide ((((UInt8.toNat c : Nat) : Int)) < 97)) rfl (fun hc9 => ?_) (fun hc9 => ?_)
      · have H := H.1 hc9
        refine LP_ev ok 5 [(22, undef), (23, undef), (24, undef), (25, undef), (26, .bool true)] 10 rfl rfl ?_
        refine LP_end _ rfl ?_
        exact ⟨true, H, _, env_eq ⟨rfl, rfl, rfl, rfl, trivial⟩, rfl⟩
      have H := H.2 hc9
      refine LP_ev ok 5 [(22, .string sx), (23, I x2)] 7 rfl rfl ?_
      obtain ⟨c10, hi11, hx12, H⟩ := H
      refine LP_val 7 _ rfl rfl (ex_sidx rfl rfl rfl Try.underlying9 hi11 hx12 _) ?_
      refine LP_ev ok 8 [(25, .bool (decide ((((UInt8.toNat c10 : Nat) : Int)) > 122))), (26, .bool (decide ((((UInt8.toNat c10 : Nat) : Int)) > 122)))] 10 rfl rfl ?_
      refine LP_end _ rfl ?_
      exact ⟨decide ((((UInt8.toNat c10 : Nat) : Int)) > 122), H, _, env_eq ⟨rfl, rfl, rfl, rfl, trivial⟩, rfl⟩
    rintro x5 _ _ ⟨H, ρ, rfl, rfl⟩
    subst hk8
    refine W_cond (x5) rfl (fun hc13 => ?_) (fun hc13 => ?_)
    · have H := H.1 hc13
      refine W_seq ?_
      refine W_region ?_
      refine LP_ev ok 0 [(2, .bool false)] 1 rfl rfl ?_
      refine LP_end _ rfl ?_
      refine W_ret ?_
      exact ⟨_, Ret_of [.bool false] ⟨⟨rfl, rfl⟩, trivial⟩, _, H, rfl, X.ext⟩
    have H := H.2 hc13
    refine W_skip ?_
    refine W_region ?_
    refine LP_ev ok 0 [(27, I (wr (x2 + 1))), (14, I (wr (x2 + 1)))] 2 rfl rfl ?_
    refine LP_end _ rfl ?_
    exact ⟨wr (x2 + 1), ⟨H.1, _, env_eq ⟨rfl, rfl, rfl, trivial⟩, rfl⟩, H.2⟩
  have H := H.2 hc4
  refine W_exit ?_
  refine (if_pos rfl).mpr ?_
  refine W_seq ?_
  refine W_region ?_
  refine LP_ev ok 0 [(2, .bool true)] 1 rfl rfl ?_
  refine LP_end _ rfl ?_
  refine W_ret ?_
  exact ⟨_, Ret_of [.bool true] ⟨⟨rfl, rfl⟩, trivial⟩, _, H, rfl, X.ext⟩

set_option maxRecDepth 8000 in
set_option maxHeartbeats 4000000 in
theorem impl_IsSchema_w (sx : List Variable) (Q : Bool → Prop) (H : impl_IsSchema sx Q) (w : World) {vx : Value} {hx : PH} (r : RS hx vx sx) (ex : Sub hx w) :
    CallsTo Try.prog 162 #[vx] w fun v w' => ∃ r0, Q r0 ∧ v = .bool r0 ∧ Ext w w' := by
  obtain ⟨a, c, rfl⟩ := r.shape
  refine enter (args := [.slice a (List.length sx) c]) 51 Try.func162 rfl rfl rfl ?_
  refine W_forget [(0, .slice a (List.length sx) c)] ⟨rfl, trivial⟩ fun ρ => ?_
  have X := But.refl emp w
  refine W_seq ?_
  refine W_region ?_
  refine LP_ev ok 0 [(2, .bool false)] 1 rfl rfl ?_
  refine LP_end _ rfl ?_
  refine W_seq ?_
  obtain ⟨k, hk, H⟩ := jn_elim H
  refine W_join2 (S := Bool) (fun s ρ' w' => k s ∧ ∃ (ρ : Env), ρ' = setAll [(0, .slice a (List.length sx) c), (14, .bool s)] ρ ∧ w = w') ?_ ?_
  · refine W_region ?_
    refine LP_ev ok 0 [(7, .slice a (List.length sx) c), (8, I (ln sx)), (9, .bool (decide ((ln sx) < 1))), (10, .bool (decide ((ln sx) < 1)))] 4 rfl rfl ?_
    refine LP_split 10 (decide ((ln sx) < 1)) rfl (fun hc => ?_) (fun hc => ?_)
    · have H := H.1 hc
      refine LP_ev ok 4 [(11, undef), (12, undef), (13, undef), (14, .bool true)] 8 rfl rfl ?_
      refine LP_end _ rfl ?_
      exact ⟨true, H, _, env_eq ⟨rfl, rfl, trivial⟩, rfl⟩
    have H := H.2 hc
    refine LP_ev ok 4 [(11, .slice a (List.length sx) c), (12, I (ln sx)), (13, .bool (decide ((ln sx) > 6))), (14, .bool (decide ((ln sx) > 6)))] 8 rfl rfl ?_
    refine LP_end _ rfl ?_
    exact ⟨decide ((ln sx) > 6), H, _, env_eq ⟨rfl, rfl, trivial⟩, rfl⟩
  rintro x _ _ ⟨H, ρ, rfl, rfl⟩
  subst hk
  refine W_cond (x) rfl (fun hc1 => ?_) (fun hc1 => ?_)
  · have H := H.1 hc1
    refine W_seq ?_
    refine W_region ?_
    refine LP_ev ok 0 [(2, .bool false)] 1 rfl rfl ?_
    refine LP_end _ rfl ?_
    refine W_ret ?_
    exact ⟨_, Ret_of [.bool false] ⟨⟨rfl, rfl⟩, trivial⟩, _, H, rfl, X.ext⟩
  have H := H.2 hc1
  refine W_skip ?_
  refine W_seq ?_
  refine W_seq ?_
  refine W_region ?_
  refine LP_ev ok 0 [(15, .slice a (List.length sx) c), (16, I (ln sx)), (17, I 0)] 3 rfl rfl ?_
  refine LP_end _ rfl ?_
  refine W_block ?_
  obtain ⟨J, m, Hx, H⟩ := H
  refine W_loop (S := Int) (fun s ρ' w' => J s ∧ ∃ (ρ : Env), ρ' = setAll [(0, .slice a (List.length sx) c), (15, .slice a (List.length sx) c), (16, I (ln sx)), (17, I s)] ρ ∧ But emp w w' ∧ Sub hx w') (fun s => m s) 0 ⟨Hx, _, env_eq ⟨rfl, rfl, rfl, rfl, trivial⟩, X, ex⟩ ?_
  rintro x2 _ wx3 ⟨Hi, ρ, rfl, X5, ex4⟩
  have H := H x2 Hi
  refine W_seq ?_
  refine W_region ?_
  refine LP_ev ok 0 [(18, .bool (decide (x2 < (ln sx))))] 1 rfl rfl ?_
  refine LP_end _ rfl ?_
  refine W_seq ?_
  refine W_cond (decide (x2 < (ln sx))) rfl (fun hc6 => ?_) (fun hc6 => ?_)
  · have H := H.1 hc6
    refine W_skip ?_
    refine W_seq ?_
    refine W_block ?_
    refine W_seq ?_
    refine W_region ?_
    refine LP_ev ok 0 [(19, I x2)] 1 rfl rfl ?_
    obtain ⟨x7, hi, hx8, H⟩ := H
    refine LP_index 1 rfl rfl rfl Try.underlying29 ti_107 rfl rfl r hi hx8 fun a9 cs r10 d => ?_
    refine LP_load 2 rfl rfl rfl ti_107 ag_107 rfl r10 d ex4 fun vx11 r12 => ?_
    obtain rfl := Variable_rv r12
    refine LP_alloc 3 rfl rfl rfl ti_107 rfl fun b wx13 x14 ex15 f => ?_
    refine LP_ev ok 4 [(3, I x2)] 5 rfl rfl ?_
    refine LP_stbox 5 (vs := [.string x7.Name, I x7.Levels]) (cs' := [.string x7.Name, I x7.Levels]) rfl rfl rfl ti_107 rfl rfl rfl rfl rfl ex15 rfl rfl fun wx16 ex17 y => ?_
    refine LP_end _ rfl ?_
    refine W_seq ?_
    obtain ⟨k23, hk24, H⟩ := jn_elim H
    refine W_join2 (S := Bool) (fun s ρ' w' => k23 s ∧ ∃ (ρ : Env), ρ' = setAll [(0, .slice a (List.length sx) c), (3, I x2), (4, .pointer (some ⟨b, 0, none⟩)), (15, .slice a (List.length sx) c), (16, I (ln sx)), (17, I x2), (35, .bool s)] ρ ∧ But emp w w' ∧ Sub hx w' ∧ Sub (bx b 107 [.string x7.Name, I x7.Levels]) w') ?_ ?_
    · refine W_region ?_
      refine LP_ev ok 0 [(22, .pointer (some ⟨b, 0, none⟩))] 1 rfl rfl ?_
      refine LP_ldbox 1 (v := .string x7.Name) rfl rfl rfl ti_9 ag_9 (fun _ => rfl) rfl ex17 rfl rfl ?_
      refine LP_call 2 rfl rfl rfl cal_219 rfl (impl_isWord_w _ _ H wx16 ) ?_
      rintro _ wx26 ⟨r25, H, rfl, x27⟩
      refine LP_ev ok 3 [(25, .bool (!r25)), (26, .bool (!r25))] 5 rfl rfl ?_
      refine LP_split 26 (!r25) rfl (fun hc28 => ?_) (fun hc28 => ?_)
      · have H := H.1 hc28
        refine LP_ev ok 5 [(27, undef), (28, undef), (29, undef), (30, .bool true), (31, .bool true), (32, undef), (33, undef), (34, undef), (35, .bool true)] 14 rfl rfl ?_
        refine LP_end _ rfl ?_
        have f29 := f.mono X5.size
        have X30 := (((X5.stepx x14).step y (f29.dom _)).stepx x27)
        have ex31 := (((ex4.ext x14).but y (Dj.of_fresh ex4 f).symm).ext x27)
        have ex32 := (ex17.ext x27)
        exact ⟨true, H, _, env_eq ⟨rfl, rfl, rfl, rfl, rfl, rfl, rfl, trivial⟩, X30, ex31, ex32⟩
      have H := H.2 hc28
      refine LP_ev ok 5 [(27, .pointer (some ⟨b, 1, none⟩))] 6 rfl rfl ?_
      have ex33 := (ex17.ext x27)
      refine LP_ldbox 6 (v := I x7.Levels) rfl rfl rfl ti_3 ag_3 (fun _ => rfl) rfl ex33 rfl rfl ?_
      refine LP_ev ok 7 [(29, .bool (decide (x7.Levels < 2))), (30, .bool (decide (x7.Levels < 2))), (31, .bool (decide (x7.Levels < 2)))] 10 rfl rfl ?_
      refine LP_split 31 (decide (x7.Levels < 2)) rfl (fun hc34 => ?_) (fun hc34 => ?_)
      · have H := H.1 hc34
        refine LP_ev ok 10 [(32, undef), (33, undef), (34, undef), (35, .bool true)] 14 rfl rfl ?_
        refine LP_end _ rfl ?_
        have f35 := f.mono X5.size
        have X36 := (((X5.stepx x14).step y (f35.dom _)).stepx x27)
        have ex37 := (((ex4.ext x14).but y (Dj.of_fresh ex4 f).symm).ext x27)
        exact ⟨true, H, _, env_eq ⟨rfl, rfl, rfl, rfl, rfl, rfl, rfl, trivial⟩, X36, ex37, ex33⟩
      have H := H.2 hc34
      refine LP_ev ok 10 [(32, .pointer (some ⟨b, 1, none⟩))] 11 rfl rfl ?_
      refine LP_ldbox 11 (v := I x7.Levels) rfl rfl rfl ti_3 ag_3 (fun _ => rfl) rfl ex33 rfl rfl ?_
      refine LP_ev ok 12 [(34, .bool (decide (x7.Levels > 8))), (35, .bool (decide (x7.Levels > 8)))] 14 rfl rfl ?_
      refine LP_end _ rfl ?_
      have f38 := f.mono X5.size
      have X39 := (((X5.stepx x14).step y (f38.dom _)).stepx x27)
      have ex40 := (((ex4.ext x14).but y (Dj.of_fresh ex4 f).symm).ext x27)
      exact ⟨decide (x7.Levels > 8), H, _, env_eq ⟨rfl, rfl, rfl, rfl, rfl, rfl, rfl, trivial⟩, X39, ex40, ex33⟩
    rintro x18 _ wx19 ⟨H, ρ, rfl, X22, ex20, ex21⟩
    subst hk24
    refine W_cond (x18) rfl (fun hc41 => ?_) (fun hc41 => ?_)
    · have H := H.1 hc41
      refine W_seq ?_
      refine W_region ?_
      refine LP_ev ok 0 [(2, .bool false)] 1 rfl rfl ?_
      refine LP_end _ rfl ?_
      refine W_ret ?_
      exact ⟨_, Ret_of [.bool false] ⟨⟨rfl, rfl⟩, trivial⟩, _, H, rfl, X22.ext⟩
    have H := H.2 hc41
    refine W_skip ?_
    refine W_seq ?_
    refine W_region ?_
    refine LP_ev ok 0 [(36, .slice a (List.length sx) c), (37, I x2)] 2 rfl rfl ?_
    obtain ⟨hl, hu, hn, H⟩ := H
    refine LP_slice 2 0 x2 rfl rfl rfl Try.underlying29 ti_107 rfl rfl rfl r (.inl ⟨rfl, rfl⟩) (.inr rfl) hl hu hn fun vx42 r43 => ?_
    obtain ⟨a44, c45, rfl⟩ := r43.shape
    refine LP_ev ok 3 [(39, I (ln (List.take (Int.toNat x2 - Int.toNat 0) (List.drop (Int.toNat 0) sx)))), (40, I 0)] 5 rfl rfl ?_
    refine LP_end _ rfl ?_
    refine W_block ?_
    obtain ⟨J51, m52, Hx53, H⟩ := H
    refine W_loop (S := Int) (fun s ρ' w' => J51 s ∧ ∃ (ρ : Env), ρ' = setAll [(0, .slice a (List.length sx) c), (4, .pointer (some ⟨b, 0, none⟩)), (15, .slice a (List.length sx) c), (16, I (ln sx)), (17, I x2), (38, .slice a44 (List.length (List.take (Int.toNat x2 - Int.toNat 0) (List.drop (Int.toNat 0) sx))) c45), (39, I (ln (List.take (Int.toNat x2 - Int.toNat 0) (List.drop (Int.toNat 0) sx)))), (40, I s)] ρ ∧ But emp w w' ∧ Sub hx w' ∧ Sub (bx b 107 [.string x7.Name, I x7.Levels]) w') (fun s => m52 s) 0 ⟨Hx53, _, env_eq ⟨rfl, rfl, rfl, rfl, rfl, rfl, rfl, rfl, trivial⟩, X22, ex20, ex21⟩ ?_
    rintro x46 _ wx47 ⟨Hi, ρ, rfl, X50, ex48, ex49⟩
    have H := H x46 Hi
    refine W_seq ?_
    refine W_region ?_
    refine LP_ev ok 0 [(41, .bool (decide (x46 < (ln (List.take (Int.toNat x2 - Int.toNat 0) (List.drop (Int.toNat 0) sx))))))] 1 rfl rfl ?_
    refine LP_end _ rfl ?_
    refine W_seq ?_
    refine W_cond (decide (x46 < (ln (List.take (Int.toNat x2 - Int.toNat 0) (List.drop (Int.toNat 0) sx))))) rfl (fun hc55 => ?_) (fun hc55 => ?_)
    · have H := H.1 hc55
      refine W_skip ?_
      refine W_seq ?_
      refine W_block ?_
      refine W_seq ?_
      refine W_region ?_
      obtain ⟨x56, hi57, hx58, H⟩ := H
      refine LP_index 0 rfl rfl rfl Try.underlying29 ti_107 rfl rfl r43 hi57 hx58 fun a59 cs60 r61 d62 => ?_
      refine LP_load 1 rfl rfl rfl ti_107 ag_107 rfl r61 d62 ex48 fun vx63 r64 => ?_
      obtain rfl := Variable_rv r64
      refine LP_alloc 2 rfl rfl rfl ti_107 rfl fun b65 wx66 x67 ex68 f69 => ?_
      refine LP_stbox 3 (vs := [.string x56.Name, I x56.Levels]) (cs' := [.string x56.Name, I x56.Levels]) rfl rfl rfl ti_107 rfl rfl rfl rfl rfl ex68 rfl rfl fun wx70 ex71 y72 => ?_
      refine LP_end _ rfl ?_
      refine W_seq ?_
      refine W_region ?_
      refine LP_ev ok 0 [(44, .pointer (some ⟨b65, 0, none⟩))] 1 rfl rfl ?_
      refine LP_ldbox 1 (v := .string x56.Name) rfl rfl rfl ti_9 ag_9 (fun _ => rfl) rfl ex71 rfl rfl ?_
      refine LP_ev ok 2 [(46, .pointer (some ⟨b, 0, none⟩))] 3 rfl rfl ?_
      have ex73 := ((ex49.ext x67).but y72 (Dj.of_fresh ex49 f69).symm)
      refine LP_ldbox 3 (v := .string x7.Name) rfl rfl rfl ti_9 ag_9 (fun _ => rfl) rfl ex73 rfl rfl ?_
      refine LP_ev ok 4 [(48, .bool (streq x56.Name x7.Name))] 5 rfl rfl ?_
      refine LP_end _ rfl ?_
      refine W_cond (streq x56.Name x7.Name) rfl (fun hc74 => ?_) (fun hc74 => ?_)
      · have H := H.1 hc74
        refine W_seq ?_
        refine W_region ?_
        refine LP_ev ok 0 [(2, .bool false)] 1 rfl rfl ?_
        refine LP_end _ rfl ?_
        refine W_ret ?_
        have f75 := f69.mono X50.size
        have X76 := ((X50.stepx x67).step y72 (f75.dom _))
        exact ⟨_, Ret_of [.bool false] ⟨⟨rfl, rfl⟩, trivial⟩, _, H, rfl, X76.ext⟩
      have H := H.2 hc74
      refine W_skip ?_
      refine W_region ?_
      refine LP_ev ok 0 [(49, I (wr (x46 + 1))), (40, I (wr (x46 + 1)))] 2 rfl rfl ?_
      refine LP_end _ rfl ?_
      have f77 := f69.mono X50.size
      have X78 := ((X50.stepx x67).step y72 (f77.dom _))
      have ex79 := ((ex48.ext x67).but y72 (Dj.of_fresh ex48 f69).symm)
      exact ⟨wr (x46 + 1), ⟨H.1, _, env_eq ⟨rfl, rfl, rfl, rfl, rfl, rfl, rfl, rfl, trivial⟩, X78, ex79, ex73⟩, H.2⟩
    have H := H.2 hc55
    refine W_exit ?_
    refine (if_pos rfl).mpr ?_
    refine W_region ?_
    refine LP_ev ok 0 [(50, I (wr (x2 + 1))), (17, I (wr (x2 + 1)))] 2 rfl rfl ?_
    refine LP_end _ rfl ?_
    exact ⟨wr (x2 + 1), ⟨H.1, _, env_eq ⟨rfl, rfl, rfl, rfl, trivial⟩, X50, ex48⟩, H.2⟩
  have H := H.2 hc6
  refine W_exit ?_
  refine (if_pos rfl).mpr ?_
  refine W_seq ?_
  refine W_region ?_
  refine LP_ev ok 0 [(2, .bool true)] 1 rfl rfl ?_
  refine LP_end _ rfl ?_
  refine W_ret ?_
  exact ⟨_, Ret_of [.bool true] ⟨⟨rfl, rfl⟩, trivial⟩, _, H, rfl, X5.ext⟩

set_option maxRecDepth 8000 in
set_option maxHeartbeats 4000000 in
theorem impl_combinations_w (sx : List Variable) (Q : Int → Prop) (H : impl_combinations sx Q) (w : World) {vx : Value} {hx : PH} (r : RS hx vx sx) (ex : Sub hx w) :
    CallsTo Try.prog 99 #[vx] w fun v w' => ∃ r0, Q r0 ∧ v = I r0 ∧ Ext w w' := by
  obtain ⟨a, c, rfl⟩ := r.shape
  refine enter (args := [.slice a (List.length sx) c]) 18 Try.func99 rfl rfl rfl ?_
  refine W_forget [(0, .slice a (List.length sx) c)] ⟨rfl, trivial⟩ fun ρ => ?_
  have X := But.refl emp w
  refine W_seq ?_
  refine W_region ?_
  refine LP_ev ok 0 [(2, I 0)] 1 rfl rfl ?_
  refine LP_end _ rfl ?_
  refine W_seq ?_
  refine W_region ?_
  refine LP_ev ok 0 [(3, I 1)] 1 rfl rfl ?_
  refine LP_end _ rfl ?_
  refine W_seq ?_
  refine W_seq ?_
  refine W_region ?_
  refine LP_ev ok 0 [(6, .slice a (List.length sx) c), (7, I (ln sx)), (8, I 0)] 3 rfl rfl ?_
  refine LP_end _ rfl ?_
  refine W_block ?_
  obtain ⟨J, m, Hx, H⟩ := H
  refine W_loop (S := Int × Int) (fun s ρ' w' => J s.1 s.2 ∧ ∃ (ρ : Env), ρ' = setAll [(3, I s.1), (6, .slice a (List.length sx) c), (7, I (ln sx)), (8, I s.2)] ρ ∧ But emp w w' ∧ Sub hx w') (fun s => m s.1 s.2) (1, 0) ⟨Hx, _, env_eq ⟨rfl, rfl, rfl, rfl, trivial⟩, X, ex⟩ ?_
  rintro ⟨n, x⟩ _ wx ⟨Hi, ρ, rfl, X2, ex1⟩
  have H := H n x Hi
  refine W_seq ?_
  refine W_region ?_
  refine LP_ev ok 0 [(9, .bool (decide (x < (ln sx))))] 1 rfl rfl ?_
  refine LP_end _ rfl ?_
  refine W_seq ?_
  refine W_cond (decide (x < (ln sx))) rfl (fun hc => ?_) (fun hc => ?_)
  · have H := H.1 hc
    refine W_skip ?_
    refine W_seq ?_
    refine W_block ?_
    refine W_seq ?_
    refine W_region ?_
    obtain ⟨x3, hi, hx4, H⟩ := H
    refine LP_index 0 rfl rfl rfl Try.underlying29 ti_107 rfl rfl r hi hx4 fun a5 cs r6 d => ?_
    refine LP_load 1 rfl rfl rfl ti_107 ag_107 rfl r6 d ex1 fun vx7 r8 => ?_
    obtain rfl := Variable_rv r8
    refine LP_alloc 2 rfl rfl rfl ti_107 rfl fun b wx9 x10 ex11 f => ?_
    refine LP_stbox 3 (vs := [.string x3.Name, I x3.Levels]) (cs' := [.string x3.Name, I x3.Levels]) rfl rfl rfl ti_107 rfl rfl rfl rfl rfl ex11 rfl rfl fun wx12 ex13 y => ?_
    refine LP_end _ rfl ?_
    refine W_region ?_
    refine LP_ev ok 0 [(12, I n), (13, .pointer (some ⟨b, 1, none⟩))] 2 rfl rfl ?_
    refine LP_ldbox 2 (v := I x3.Levels) rfl rfl rfl ti_3 ag_3 (fun _ => rfl) rfl ex13 rfl rfl ?_
    refine LP_ev ok 3 [(15, I (wr (n * x3.Levels))), (3, I (wr (n * x3.Levels)))] 5 rfl rfl ?_
    refine LP_end _ rfl ?_
    refine W_region ?_
    refine LP_ev ok 0 [(16, I (wr (x + 1))), (8, I (wr (x + 1)))] 2 rfl rfl ?_
    refine LP_end _ rfl ?_
    have f14 := f.mono X2.size
    have X15 := ((X2.stepx x10).step y (f14.dom _))
    have ex16 := ((ex1.ext x10).but y (Dj.of_fresh ex1 f).symm)
    exact ⟨(wr (n * x3.Levels), wr (x + 1)), ⟨H.1, _, env_eq ⟨rfl, rfl, rfl, rfl, trivial⟩, X15, ex16⟩, H.2⟩
  have H := H.2 hc
  refine W_exit ?_
  refine (if_pos rfl).mpr ?_
  refine W_seq ?_
  refine W_region ?_
  refine LP_ev ok 0 [(17, I n), (2, I n)] 2 rfl rfl ?_
  refine LP_end _ rfl ?_
  refine W_ret ?_
  exact ⟨_, Ret_of [I n] ⟨⟨rfl, rfl⟩, trivial⟩, _, H, rfl, X2.ext⟩

set_option maxRecDepth 8000 in
set_option maxHeartbeats 4000000 in
theorem impl_isSmall_w (sx : List Variable) (Q : Bool → Prop) (H : impl_isSmall sx Q) (w : World) {vx : Value} {hx : PH} (r : RS hx vx sx) (ex : Sub hx w) :
    CallsTo Try.prog 86 #[vx] w fun v w' => ∃ r0, Q r0 ∧ v = .bool r0 ∧ Ext w w' := by
  obtain ⟨a, c, rfl⟩ := r.shape
  refine enter (args := [.slice a (List.length sx) c]) 10 Try.func86 rfl rfl rfl ?_
  refine W_forget [(0, .slice a (List.length sx) c)] ⟨rfl, trivial⟩ fun ρ => ?_
  have X := But.refl emp w
  refine W_seq ?_
  refine W_region ?_
  refine LP_ev ok 0 [(2, .bool false)] 1 rfl rfl ?_
  refine LP_end _ rfl ?_
  obtain ⟨k, hk, H⟩ := jn_elim H
  refine W_join2 (S := Bool) (fun s ρ' w' => k s ∧ ∃ (ρ : Env), ρ' = setAll [(2, .bool s)] ρ ∧ But emp w w') ?_ ?_
  · refine W_region ?_
    refine LP_ev ok 0 [(3, .slice a (List.length sx) c)] 1 rfl rfl ?_
    refine LP_call 1 rfl rfl rfl cal_162 rfl (impl_IsSchema_w _ _ H w r ex) ?_
    rintro _ wx3 ⟨r2, H, rfl, x4⟩
    refine LP_ev ok 2 [(5, .bool r2)] 3 rfl rfl ?_
    refine LP_split 5 (r2) rfl (fun hc => ?_) (fun hc => ?_)
    · have H := H.1 hc
      refine LP_ev ok 3 [(6, .slice a (List.length sx) c)] 4 rfl rfl ?_
      have ex6 := (ex.ext x4)
      refine LP_call 4 rfl rfl rfl cal_99 rfl (impl_combinations_w _ _ H wx3 r ex6) ?_
      rintro _ wx7 ⟨r5, H, rfl, x8⟩
      refine LP_ev ok 5 [(8, .bool (decide (r5 ≤ 100))), (9, .bool (decide (r5 ≤ 100))), (2, .bool (decide (r5 ≤ 100)))] 8 rfl rfl ?_
      refine LP_end _ rfl ?_
      have X9 := ((X.stepx x4).stepx x8)
      exact ⟨decide (r5 ≤ 100), H, _, env_eq ⟨rfl, trivial⟩, X9⟩
    have H := H.2 hc
    refine LP_ev ok 3 [(6, undef), (7, undef), (8, undef), (9, .bool false), (2, .bool false)] 8 rfl rfl ?_
    refine LP_end _ rfl ?_
    have X10 := (X.stepx x4)
    exact ⟨false, H, _, env_eq ⟨rfl, trivial⟩, X10⟩
  rintro x _ wx ⟨H, ρ, rfl, X1⟩
  subst hk
  refine W_ret ?_
  exact ⟨_, Ret_of [.bool x] ⟨⟨rfl, rfl⟩, trivial⟩, _, H, rfl, X1.ext⟩

set_option maxRecDepth 8000 in
set_option maxHeartbeats 4000000 in
theorem impl_fullSet_w (vx : Variable) (Q : Int → Prop) (H : impl_fullSet vx Q) (w : World)  :
    CallsTo Try.prog 172 #[.agg #[.string vx.Name, I vx.Levels]] w fun v w' => ∃ r0, Q r0 ∧ v = I r0 ∧ Ext w w' := by
  refine enter (args := [.agg #[.string vx.Name, I vx.Levels]]) 7 Try.func172 rfl rfl rfl ?_
  refine W_forget [(0, .agg #[.string vx.Name, I vx.Levels])] ⟨rfl, trivial⟩ fun ρ => ?_
  have X := But.refl emp w
  refine W_seq ?_
  refine W_region ?_
  refine LP_box 0 (cs := [.string vx.Name, I vx.Levels]) rfl rfl rfl rfl rfl fun b wx x ex f => ?_
  refine LP_ev ok 1 [(2, I 0)] 2 rfl rfl ?_
  refine LP_end _ rfl ?_
  refine W_seq ?_
  refine W_region ?_
  refine LP_ev ok 0 [(3, .pointer (some ⟨b, 1, none⟩))] 1 rfl rfl ?_
  refine LP_ldbox 1 (v := I vx.Levels) rfl rfl rfl ti_3 ag_3 (fun _ => rfl) rfl ex rfl rfl ?_
  obtain ⟨hz, H⟩ := H
  refine LP_val 2 _ rfl rfl (ex_shl rfl rfl rfl hz _) ?_
  refine LP_ev ok 3 [(6, I (wr ((shl .i64 1 vx.Levels) - 1))), (2, I (wr ((shl .i64 1 vx.Levels) - 1)))] 5 rfl rfl ?_
  refine LP_end _ rfl ?_
  refine W_ret ?_
  have X1 := (X.stepx x)
  exact ⟨_, Ret_of [I (wr ((shl .i64 1 vx.Levels) - 1))] ⟨⟨rfl, rfl⟩, trivial⟩, _, H, rfl, X1.ext⟩

set_option maxRecDepth 8000 in
set_option maxHeartbeats 4000000 in
theorem impl_isEdit_w (sx : List Variable) (ex1 : Edit) (Q : Bool → Prop) (H : impl_isEdit sx ex1 Q) (w : World) {vx : Value} {hx : PH} (r : RS hx vx sx) (ex : Sub hx w) {vx2 : Value} {hx3 : PH} (r4 : RS hx3 vx2 ex1.Sets) (ex5 : Sub hx3 w) :
    CallsTo Try.prog 98 #[vx, .agg #[vx2]] w fun v w' => ∃ r0, Q r0 ∧ v = .bool r0 ∧ Ext w w' := by
  obtain ⟨a, c, rfl⟩ := r.shape
  obtain ⟨a6, c7, rfl⟩ := r4.shape
  refine enter (args := [.slice a (List.length sx) c, .agg #[.slice a6 (List.length ex1.Sets) c7]]) 33 Try.func98 rfl rfl rfl ?_
  refine W_forget [(0, .slice a (List.length sx) c), (1, .agg #[.slice a6 (List.length ex1.Sets) c7])] ⟨rfl, rfl, trivial⟩ fun ρ => ?_
  have X := But.refl emp w
  refine W_seq ?_
  refine W_region ?_
  refine LP_box 0 (cs := [.slice a6 (List.length ex1.Sets) c7]) rfl rfl rfl rfl rfl fun b wx x ex8 f => ?_
  refine LP_ev ok 1 [(4, .bool false)] 2 rfl rfl ?_
  refine LP_end _ rfl ?_
  refine W_seq ?_
  refine W_seq ?_
  refine W_region ?_
  refine LP_ev ok 0 [(7, .pointer (some ⟨b, 0, none⟩))] 1 rfl rfl ?_
  refine LP_ldbox 1 (v := .slice a6 (List.length ex1.Sets) c7) rfl rfl rfl ti_24 ag_24 (fun _ => rfl) rfl ex8 rfl rfl ?_
  refine LP_ev ok 2 [(9, I (ln ex1.Sets)), (10, .slice a (List.length sx) c), (11, I (ln sx)), (12, .bool ((ln ex1.Sets) != (ln sx)))] 6 rfl rfl ?_
  refine LP_end _ rfl ?_
  refine W_cond ((ln ex1.Sets) != (ln sx)) rfl (fun hc => ?_) (fun hc => ?_)
  · have H := H.1 hc
    refine W_seq ?_
    refine W_region ?_
    refine LP_ev ok 0 [(4, .bool false)] 1 rfl rfl ?_
    refine LP_end _ rfl ?_
    refine W_ret ?_
    have X9 := (X.stepx x)
    exact ⟨_, Ret_of [.bool false] ⟨⟨rfl, rfl⟩, trivial⟩, _, H, rfl, X9.ext⟩
  have H := H.2 hc
  refine W_skip ?_
  refine W_seq ?_
  refine W_seq ?_
  refine W_region ?_
  refine LP_ev ok 0 [(13, .pointer (some ⟨b, 0, none⟩))] 1 rfl rfl ?_
  refine LP_ldbox 1 (v := .slice a6 (List.length ex1.Sets) c7) rfl rfl rfl ti_24 ag_24 (fun _ => rfl) rfl ex8 rfl rfl ?_
  refine LP_ev ok 2 [(15, I (ln ex1.Sets)), (16, I 0)] 4 rfl rfl ?_
  refine LP_end _ rfl ?_
  refine W_block ?_
  have X15 := (X.stepx x)
  have ex16 := (ex.ext x)
  have ex17 := (ex5.ext x)
  obtain ⟨J, m, Hx, H⟩ := H
  refine W_loop (S := Int) (fun s ρ' w' => J s ∧ ∃ (ρ : Env), ρ' = setAll [(0, .slice a (List.length sx) c), (14, .slice a6 (List.length ex1.Sets) c7), (15, I (ln ex1.Sets)), (16, I s)] ρ ∧ But emp w w' ∧ Sub hx w' ∧ Sub hx3 w') (fun s => m s) 0 ⟨Hx, _, env_eq ⟨rfl, rfl, rfl, rfl, trivial⟩, X15, ex16, ex17⟩ ?_
  rintro x10 _ wx11 ⟨Hi, ρ, rfl, X14, ex12, ex13⟩
  have H := H x10 Hi
  refine W_seq ?_
  refine W_region ?_
  refine LP_ev ok 0 [(17, .bool (decide (x10 < (ln ex1.Sets))))] 1 rfl rfl ?_
  refine LP_end _ rfl ?_
  refine W_seq ?_
  refine W_cond (decide (x10 < (ln ex1.Sets))) rfl (fun hc18 => ?_) (fun hc18 => ?_)
  · have H := H.1 hc18
    refine W_skip ?_
    refine W_seq ?_
    refine W_block ?_
    refine W_seq ?_
    refine W_region ?_
    refine LP_ev ok 0 [(18, I x10)] 1 rfl rfl ?_
    obtain ⟨x19, hi, hx20, H⟩ := H
    refine LP_index 1 rfl rfl rfl Try.underlying24 ti_3 rfl rfl r4 hi hx20 fun a21 cs r22 d => ?_
    refine LP_load 2 rfl rfl rfl ti_3 ag_3 rfl r22 d ex13 fun vx23 r24 => ?_
    obtain rfl := r24.int
    refine LP_ev ok 3 [(5, I x10), (6, I x19)] 5 rfl rfl ?_
    refine LP_end _ rfl ?_
    obtain ⟨k, hk, H⟩ := jn_elim H
    refine W_join2 (S := Bool) (fun s ρ' w' => k s ∧ ∃ (ρ : Env), ρ' = setAll [(0, .slice a (List.length sx) c), (14, .slice a6 (List.length ex1.Sets) c7), (15, I (ln ex1.Sets)), (16, I x10), (31, .bool s)] ρ ∧ But emp w w' ∧ Sub hx w' ∧ Sub hx3 w') ?_ ?_
    · refine W_region ?_
      refine LP_ev ok 0 [(21, I x19), (22, .bool (decide (x19 < 1))), (23, .bool (decide (x19 < 1)))] 3 rfl rfl ?_
      refine LP_split 23 (decide (x19 < 1)) rfl (fun hc30 => ?_) (fun hc30 => ?_)
      · have H := H.1 hc30
        refine LP_ev ok 3 [(24, undef), (25, undef), (26, undef), (27, undef), (28, undef), (29, undef), (30, undef), (31, .bool true)] 11 rfl rfl ?_
        refine LP_end _ rfl ?_
        exact ⟨true, H, _, env_eq ⟨rfl, rfl, rfl, rfl, rfl, trivial⟩, X14, ex12, ex13⟩
      have H := H.2 hc30
      refine LP_ev ok 3 [(24, I x19), (25, .slice a (List.length sx) c), (26, I x10)] 6 rfl rfl ?_
      obtain ⟨x31, hi32, hx33, H⟩ := H
      refine LP_index 6 rfl rfl rfl Try.underlying29 ti_107 rfl rfl r hi32 hx33 fun a34 cs35 r36 d37 => ?_
      refine LP_load 7 rfl rfl rfl ti_107 ag_107 rfl r36 d37 ex12 fun vx38 r39 => ?_
      obtain rfl := Variable_rv r39
      refine LP_call 8 rfl rfl rfl cal_172 rfl (impl_fullSet_w _ _ H wx11 ) ?_
      rintro _ wx41 ⟨r40, H, rfl, x42⟩
      refine LP_ev ok 9 [(30, .bool (decide (x19 > r40))), (31, .bool (decide (x19 > r40)))] 11 rfl rfl ?_
      refine LP_end _ rfl ?_
      have X43 := (X14.stepx x42)
      have ex44 := (ex12.ext x42)
      have ex45 := (ex13.ext x42)
      exact ⟨decide (x19 > r40), H, _, env_eq ⟨rfl, rfl, rfl, rfl, rfl, trivial⟩, X43, ex44, ex45⟩
    rintro x25 _ wx26 ⟨H, ρ, rfl, X29, ex27, ex28⟩
    subst hk
    refine W_cond (x25) rfl (fun hc46 => ?_) (fun hc46 => ?_)
    · have H := H.1 hc46
      refine W_seq ?_
      refine W_region ?_
      refine LP_ev ok 0 [(4, .bool false)] 1 rfl rfl ?_
      refine LP_end _ rfl ?_
      refine W_ret ?_
      exact ⟨_, Ret_of [.bool false] ⟨⟨rfl, rfl⟩, trivial⟩, _, H, rfl, X29.ext⟩
    have H := H.2 hc46
    refine W_skip ?_
    refine W_region ?_
    refine LP_ev ok 0 [(32, I (wr (x10 + 1))), (16, I (wr (x10 + 1)))] 2 rfl rfl ?_
    refine LP_end _ rfl ?_
    exact ⟨wr (x10 + 1), ⟨H.1, _, env_eq ⟨rfl, rfl, rfl, rfl, trivial⟩, X29, ex27, ex28⟩, H.2⟩
  have H := H.2 hc18
  refine W_exit ?_
  refine (if_pos rfl).mpr ?_
  refine W_seq ?_
  refine W_region ?_
  refine LP_ev ok 0 [(4, .bool true)] 1 rfl rfl ?_
  refine LP_end _ rfl ?_
  refine W_ret ?_
  exact ⟨_, Ret_of [.bool true] ⟨⟨rfl, rfl⟩, trivial⟩, _, H, rfl, X14.ext⟩

set_option maxRecDepth 8000 in
set_option maxHeartbeats 4000000 in
theorem impl_areEdits_w (sx : List Variable) (l : List Edit) (Q : Bool → Prop) (H : impl_areEdits sx l Q) (w : World) {vx : Value} {hx : PH} (r : RS hx vx sx) (ex : Sub hx w) {vx1 : Value} {hx2 : PH} (r3 : RS hx2 vx1 l) (ex4 : Sub hx2 w) :
    CallsTo Try.prog 87 #[vx, vx1] w fun v w' => ∃ r0, Q r0 ∧ v = .bool r0 ∧ Ext w w' := by
  obtain ⟨a, c, rfl⟩ := r.shape
  obtain ⟨a5, c6, rfl⟩ := r3.shape
  refine enter (args := [.slice a (List.length sx) c, .slice a5 (List.length l) c6]) 21 Try.func87 rfl rfl rfl ?_
  refine W_forget [(0, .slice a (List.length sx) c), (1, .slice a5 (List.length l) c6)] ⟨rfl, rfl, trivial⟩ fun ρ => ?_
  have X := But.refl emp w
  refine W_seq ?_
  refine W_region ?_
  refine LP_ev ok 0 [(4, .bool false)] 1 rfl rfl ?_
  refine LP_end _ rfl ?_
  refine W_seq ?_
  refine W_seq ?_
  refine W_region ?_
  refine LP_ev ok 0 [(7, .slice a5 (List.length l) c6), (8, I (ln l)), (9, .bool (decide ((ln l) > 40)))] 3 rfl rfl ?_
  refine LP_end _ rfl ?_
  refine W_cond (decide ((ln l) > 40)) rfl (fun hc => ?_) (fun hc => ?_)
  · have H := H.1 hc
    refine W_seq ?_
    refine W_region ?_
    refine LP_ev ok 0 [(4, .bool false)] 1 rfl rfl ?_
    refine LP_end _ rfl ?_
    refine W_ret ?_
    exact ⟨_, Ret_of [.bool false] ⟨⟨rfl, rfl⟩, trivial⟩, _, H, rfl, X.ext⟩
  have H := H.2 hc
  refine W_skip ?_
  refine W_seq ?_
  refine W_seq ?_
  refine W_region ?_
  refine LP_ev ok 0 [(10, .slice a5 (List.length l) c6), (11, I (ln l)), (12, I 0)] 3 rfl rfl ?_
  refine LP_end _ rfl ?_
  refine W_block ?_
  obtain ⟨J, m, Hx, H⟩ := H
  refine W_loop (S := Int) (fun s ρ' w' => J s ∧ ∃ (ρ : Env), ρ' = setAll [(0, .slice a (List.length sx) c), (10, .slice a5 (List.length l) c6), (11, I (ln l)), (12, I s)] ρ ∧ But emp w w' ∧ Sub hx w' ∧ Sub hx2 w') (fun s => m s) 0 ⟨Hx, _, env_eq ⟨rfl, rfl, rfl, rfl, trivial⟩, X, ex, ex4⟩ ?_
  rintro x _ wx ⟨Hi, ρ, rfl, X9, ex7, ex8⟩
  have H := H x Hi
  refine W_seq ?_
  refine W_region ?_
  refine LP_ev ok 0 [(13, .bool (decide (x < (ln l))))] 1 rfl rfl ?_
  refine LP_end _ rfl ?_
  refine W_seq ?_
  refine W_cond (decide (x < (ln l))) rfl (fun hc10 => ?_) (fun hc10 => ?_)
  · have H := H.1 hc10
    refine W_skip ?_
    refine W_seq ?_
    refine W_block ?_
    refine W_seq ?_
    refine W_region ?_
    obtain ⟨x11, hi, hx12, H⟩ := H
    refine LP_index 0 rfl rfl rfl Try.underlying31 ti_50 rfl rfl r3 hi hx12 fun a13 cs r14 d => ?_
    have d15 := d
    obtain ⟨u, rfl, r16⟩ := Edit_rd d15
    obtain ⟨a17, c18, rfl⟩ := r16.shape
    refine LP_load 1 rfl rfl rfl ti_50 ag_50 rfl r14 d ex8 fun vx19 r20 => ?_
    obtain ⟨u21, rfl, r22⟩ := Edit_rv r20
    obtain ⟨a23, c24, rfl⟩ := r22.shape
    refine LP_alloc 2 rfl rfl rfl ti_50 rfl fun b wx25 x26 ex27 f => ?_
    refine LP_stbox 3 (vs := [.slice a23 (List.length x11.Sets) c24]) (cs' := [.slice a23 (List.length x11.Sets) c24]) rfl rfl rfl ti_50 rfl rfl rfl rfl rfl ex27 rfl rfl fun wx28 ex29 y => ?_
    refine LP_end _ rfl ?_
    refine W_seq ?_
    refine W_region ?_
    refine LP_ev ok 0 [(16, .slice a (List.length sx) c)] 1 rfl rfl ?_
    refine LP_ldbox 1 (v := .agg #[.slice a23 (List.length x11.Sets) c24]) rfl rfl rfl ti_50 ag_50 (fun h => by cases h) rfl ex29 rfl rfl ?_
    have ex31 := ((ex7.ext x26).but y (Dj.of_fresh ex7 f).symm)
    have ex32 := ((ex8.ext x26).but y (Dj.of_fresh ex8 f).symm)
    refine LP_call 2 rfl rfl rfl cal_98 rfl (impl_isEdit_w _ _ _ H wx28 r ex31 r22 ex32) ?_
    rintro _ wx33 ⟨r30, H, rfl, x34⟩
    refine LP_ev ok 3 [(19, .bool (!r30))] 4 rfl rfl ?_
    refine LP_end _ rfl ?_
    refine W_cond (!r30) rfl (fun hc35 => ?_) (fun hc35 => ?_)
    · have H := H.1 hc35
      refine W_seq ?_
      refine W_region ?_
      refine LP_ev ok 0 [(4, .bool false)] 1 rfl rfl ?_
      refine LP_end _ rfl ?_
      refine W_ret ?_
      have f36 := f.mono X9.size
      have X37 := (((X9.stepx x26).step y (f36.dom _)).stepx x34)
      exact ⟨_, Ret_of [.bool false] ⟨⟨rfl, rfl⟩, trivial⟩, _, H, rfl, X37.ext⟩
    have H := H.2 hc35
    refine W_skip ?_
    refine W_region ?_
    refine LP_ev ok 0 [(20, I (wr (x + 1))), (12, I (wr (x + 1)))] 2 rfl rfl ?_
    refine LP_end _ rfl ?_
    have f38 := f.mono X9.size
    have X39 := (((X9.stepx x26).step y (f38.dom _)).stepx x34)
    have ex40 := (ex31.ext x34)
    have ex41 := (ex32.ext x34)
    exact ⟨wr (x + 1), ⟨H.1, _, env_eq ⟨rfl, rfl, rfl, rfl, trivial⟩, X39, ex40, ex41⟩, H.2⟩
  have H := H.2 hc10
  refine W_exit ?_
  refine (if_pos rfl).mpr ?_
  refine W_seq ?_
  refine W_region ?_
  refine LP_ev ok 0 [(4, .bool true)] 1 rfl rfl ?_
  refine LP_end _ rfl ?_
  refine W_ret ?_
  exact ⟨_, Ret_of [.bool true] ⟨⟨rfl, rfl⟩, trivial⟩, _, H, rfl, X9.ext⟩

set_option maxRecDepth 8000 in
set_option maxHeartbeats 4000000 in
theorem impl_areValues_w (sx : List Variable) (values : List Int) (Q : Bool → Prop) (H : impl_areValues sx values Q) (w : World) {vx : Value} {hx : PH} (r : RS hx vx sx) (ex : Sub hx w) {vx1 : Value} {hx2 : PH} (r3 : RS hx2 vx1 values) (ex4 : Sub hx2 w) :
    CallsTo Try.prog 88 #[vx, vx1] w fun v w' => ∃ r0, Q r0 ∧ v = .bool r0 ∧ Ext w w' := by
  obtain ⟨a, c, rfl⟩ := r.shape
  obtain ⟨a5, c6, rfl⟩ := r3.shape
  refine enter (args := [.slice a (List.length sx) c, .slice a5 (List.length values) c6]) 31 Try.func88 rfl rfl rfl ?_
  refine W_forget [(0, .slice a (List.length sx) c), (1, .slice a5 (List.length values) c6)] ⟨rfl, rfl, trivial⟩ fun ρ => ?_
  have X := But.refl emp w
  refine W_seq ?_
  refine W_region ?_
  refine LP_ev ok 0 [(4, .bool false)] 1 rfl rfl ?_
  refine LP_end _ rfl ?_
  refine W_seq ?_
  refine W_seq ?_
  refine W_region ?_
  refine LP_ev ok 0 [(7, .slice a5 (List.length values) c6), (8, I (ln values)), (9, .slice a (List.length sx) c), (10, I (ln sx)), (11, .bool ((ln values) != (ln sx)))] 5 rfl rfl ?_
  refine LP_end _ rfl ?_
  refine W_cond ((ln values) != (ln sx)) rfl (fun hc => ?_) (fun hc => ?_)
  · have H := H.1 hc
    refine W_seq ?_
    refine W_region ?_
    refine LP_ev ok 0 [(4, .bool false)] 1 rfl rfl ?_
    refine LP_end _ rfl ?_
    refine W_ret ?_
    exact ⟨_, Ret_of [.bool false] ⟨⟨rfl, rfl⟩, trivial⟩, _, H, rfl, X.ext⟩
  have H := H.2 hc
  refine W_skip ?_
  refine W_seq ?_
  refine W_seq ?_
  refine W_region ?_
  refine LP_ev ok 0 [(12, .slice a5 (List.length values) c6), (13, I (ln values)), (14, I 0)] 3 rfl rfl ?_
  refine LP_end _ rfl ?_
  refine W_block ?_
  obtain ⟨J, m, Hx, H⟩ := H
  refine W_loop (S := Int) (fun s ρ' w' => J s ∧ ∃ (ρ : Env), ρ' = setAll [(0, .slice a (List.length sx) c), (12, .slice a5 (List.length values) c6), (13, I (ln values)), (14, I s)] ρ ∧ w = w') (fun s => m s) 0 ⟨Hx, _, env_eq ⟨rfl, rfl, rfl, rfl, trivial⟩, rfl⟩ ?_
  rintro x _ _ ⟨Hi, ρ, rfl, rfl⟩
  have H := H x Hi
  refine W_seq ?_
  refine W_region ?_
  refine LP_ev ok 0 [(15, .bool (decide (x < (ln values))))] 1 rfl rfl ?_
  refine LP_end _ rfl ?_
  refine W_seq ?_
  refine W_cond (decide (x < (ln values))) rfl (fun hc7 => ?_) (fun hc7 => ?_)
  · have H := H.1 hc7
    refine W_skip ?_
    refine W_seq ?_
    refine W_block ?_
    refine W_seq ?_
    refine W_region ?_
    refine LP_ev ok 0 [(16, I x)] 1 rfl rfl ?_
    obtain ⟨x8, hi, hx9, H⟩ := H
    refine LP_index 1 rfl rfl rfl Try.underlying24 ti_3 rfl rfl r3 hi hx9 fun a10 cs r11 d => ?_
    refine LP_load 2 rfl rfl rfl ti_3 ag_3 rfl r11 d ex4 fun vx12 r13 => ?_
    obtain rfl := r13.int
    refine LP_ev ok 3 [(5, I x), (6, I x8)] 5 rfl rfl ?_
    refine LP_end _ rfl ?_
    obtain ⟨k, hk, H⟩ := jn_elim H
    refine W_join2 (S := Bool) (fun s ρ' w' => k s ∧ ∃ (ρ : Env), ρ' = setAll [(0, .slice a (List.length sx) c), (12, .slice a5 (List.length values) c6), (13, I (ln values)), (14, I x), (29, .bool s)] ρ ∧ w = w') ?_ ?_
    · refine W_region ?_
      refine LP_ev ok 0 [(19, I x8), (20, .bool (decide (x8 < 0))), (21, .bool (decide (x8 < 0)))] 3 rfl rfl ?_
      refine LP_split 21 (decide (x8 < 0)) rfl (fun hc16 => ?_) (fun hc16 => ?_)
      · have H := H.1 hc16
        refine LP_ev ok 3 [(22, undef), (23, undef), (24, undef), (25, undef), (26, undef), (27, undef), (28, undef), (29, .bool true)] 11 rfl rfl ?_
        refine LP_end _ rfl ?_
        exact ⟨true, H, _, env_eq ⟨rfl, rfl, rfl, rfl, rfl, trivial⟩, rfl⟩
      have H := H.2 hc16
      refine LP_ev ok 3 [(22, I x8), (23, .slice a (List.length sx) c), (24, I x)] 6 rfl rfl ?_
      obtain ⟨x17, hi18, hx19, H⟩ := H
      refine LP_index 6 rfl rfl rfl Try.underlying29 ti_107 rfl rfl r hi18 hx19 fun a20 cs21 r22 d23 => ?_
      refine LP_ev ok 7 [(26, .pointer (some (Addr.add a20 1)))] 8 rfl rfl ?_
      refine LP_ldfld (x := x17) (off := 1) 8 (v := I x17.Levels) rfl rfl rfl ti_3 ag_3 (fun _ => rfl) rfl r22 d23 ex rfl rfl ?_
      refine LP_ev ok 9 [(28, .bool (decide (x8 ≥ x17.Levels))), (29, .bool (decide (x8 ≥ x17.Levels)))] 11 rfl rfl ?_
      refine LP_end _ rfl ?_
      exact ⟨decide (x8 ≥ x17.Levels), H, _, env_eq ⟨rfl, rfl, rfl, rfl, rfl, trivial⟩, rfl⟩
    rintro x14 _ _ ⟨H, ρ, rfl, rfl⟩
    subst hk
    refine W_cond (x14) rfl (fun hc24 => ?_) (fun hc24 => ?_)
    · have H := H.1 hc24
      refine W_seq ?_
      refine W_region ?_
      refine LP_ev ok 0 [(4, .bool false)] 1 rfl rfl ?_
      refine LP_end _ rfl ?_
      refine W_ret ?_
      exact ⟨_, Ret_of [.bool false] ⟨⟨rfl, rfl⟩, trivial⟩, _, H, rfl, X.ext⟩
    have H := H.2 hc24
    refine W_skip ?_
    refine W_region ?_
    refine LP_ev ok 0 [(30, I (wr (x + 1))), (14, I (wr (x + 1)))] 2 rfl rfl ?_
    refine LP_end _ rfl ?_
    exact ⟨wr (x + 1), ⟨H.1, _, env_eq ⟨rfl, rfl, rfl, rfl, trivial⟩, rfl⟩, H.2⟩
  have H := H.2 hc7
  refine W_exit ?_
  refine (if_pos rfl).mpr ?_
  refine W_seq ?_
  refine W_region ?_
  refine LP_ev ok 0 [(4, .bool true)] 1 rfl rfl ?_
  refine LP_end _ rfl ?_
  refine W_ret ?_
  exact ⟨_, Ret_of [.bool true] ⟨⟨rfl, rfl⟩, trivial⟩, _, H, rfl, X.ext⟩

set_option maxRecDepth 8000 in
set_option maxHeartbeats 4000000 in
theorem impl_areVars_w (sx : List Variable) (vars : List Int) (Q : Bool → Prop) (H : impl_areVars sx vars Q) (w : World) {vx : Value} {hx : PH} (r : RS hx vx sx) (ex : Sub hx w) {vx1 : Value} {hx2 : PH} (r3 : RS hx2 vx1 vars) (ex4 : Sub hx2 w) :
    CallsTo Try.prog 89 #[vx, vx1] w fun v w' => ∃ r0, Q r0 ∧ v = .bool r0 ∧ Ext w w' := by
  obtain ⟨a, c, rfl⟩ := r.shape
  obtain ⟨a5, c6, rfl⟩ := r3.shape
  refine enter (args := [.slice a (List.length sx) c, .slice a5 (List.length vars) c6]) 25 Try.func89 rfl rfl rfl ?_
  refine W_forget [(0, .slice a (List.length sx) c), (1, .slice a5 (List.length vars) c6)] ⟨rfl, rfl, trivial⟩ fun ρ => ?_
  have X := But.refl emp w
  refine W_seq ?_
  refine W_region ?_
  refine LP_ev ok 0 [(4, .bool false)] 1 rfl rfl ?_
  refine LP_end _ rfl ?_
  refine W_seq ?_
  refine W_region ?_
  refine LP_ev ok 0 [(5, I ((-1)))] 1 rfl rfl ?_
  refine LP_end _ rfl ?_
  refine W_seq ?_
  refine W_seq ?_
  refine W_region ?_
  refine LP_ev ok 0 [(8, .slice a5 (List.length vars) c6), (9, I (ln vars)), (10, I 0)] 3 rfl rfl ?_
  refine LP_end _ rfl ?_
  refine W_block ?_
  obtain ⟨J, m, Hx, H⟩ := H
  refine W_loop (S := Int × Int) (fun s ρ' w' => J s.1 s.2 ∧ ∃ (ρ : Env), ρ' = setAll [(0, .slice a (List.length sx) c), (5, I s.1), (8, .slice a5 (List.length vars) c6), (9, I (ln vars)), (10, I s.2)] ρ ∧ w = w') (fun s => m s.1 s.2) ((-1), 0) ⟨Hx, _, env_eq ⟨rfl, rfl, rfl, rfl, rfl, trivial⟩, rfl⟩ ?_
  rintro ⟨last, x⟩ _ _ ⟨Hi, ρ, rfl, rfl⟩
  have H := H last x Hi
  refine W_seq ?_
  refine W_region ?_
  refine LP_ev ok 0 [(11, .bool (decide (x < (ln vars))))] 1 rfl rfl ?_
  refine LP_end _ rfl ?_
  refine W_seq ?_
  refine W_cond (decide (x < (ln vars))) rfl (fun hc => ?_) (fun hc => ?_)
  · have H := H.1 hc
    refine W_skip ?_
    refine W_seq ?_
    refine W_block ?_
    refine W_seq ?_
    refine W_region ?_
    obtain ⟨x7, hi, hx8, H⟩ := H
    refine LP_index 0 rfl rfl rfl Try.underlying24 ti_3 rfl rfl r3 hi hx8 fun a9 cs r10 d => ?_
    refine LP_load 1 rfl rfl rfl ti_3 ag_3 rfl r10 d ex4 fun vx11 r12 => ?_
    obtain rfl := r12.int
    refine LP_ev ok 2 [(7, I x7)] 3 rfl rfl ?_
    refine LP_end _ rfl ?_
    refine W_seq ?_
    obtain ⟨k, hk, H⟩ := jn_elim H
    refine W_join2 (S := Bool) (fun s ρ' w' => k s ∧ ∃ (ρ : Env), ρ' = setAll [(0, .slice a (List.length sx) c), (7, I x7), (8, .slice a5 (List.length vars) c6), (9, I (ln vars)), (10, I x), (22, .bool s)] ρ ∧ w = w') ?_ ?_
    · refine W_region ?_
      refine LP_ev ok 0 [(14, I x7), (15, I last), (16, .bool (decide (x7 ≤ last))), (17, .bool (decide (x7 ≤ last)))] 4 rfl rfl ?_
      refine LP_split 17 (decide (x7 ≤ last)) rfl (fun hc15 => ?_) (fun hc15 => ?_)
      · have H := H.1 hc15
        refine LP_ev ok 4 [(18, undef), (19, undef), (20, undef), (21, undef), (22, .bool true)] 9 rfl rfl ?_
        refine LP_end _ rfl ?_
        exact ⟨true, H, _, env_eq ⟨rfl, rfl, rfl, rfl, rfl, rfl, trivial⟩, rfl⟩
      have H := H.2 hc15
      refine LP_ev ok 4 [(18, I x7), (19, .slice a (List.length sx) c), (20, I (ln sx)), (21, .bool (decide (x7 ≥ (ln sx)))), (22, .bool (decide (x7 ≥ (ln sx))))] 9 rfl rfl ?_
      refine LP_end _ rfl ?_
      exact ⟨decide (x7 ≥ (ln sx)), H, _, env_eq ⟨rfl, rfl, rfl, rfl, rfl, rfl, trivial⟩, rfl⟩
    rintro x13 _ _ ⟨H, ρ, rfl, rfl⟩
    subst hk
    refine W_cond (x13) rfl (fun hc16 => ?_) (fun hc16 => ?_)
    · have H := H.1 hc16
      refine W_seq ?_
      refine W_region ?_
      refine LP_ev ok 0 [(4, .bool false)] 1 rfl rfl ?_
      refine LP_end _ rfl ?_
      refine W_ret ?_
      exact ⟨_, Ret_of [.bool false] ⟨⟨rfl, rfl⟩, trivial⟩, _, H, rfl, X.ext⟩
    have H := H.2 hc16
    refine W_skip ?_
    refine W_region ?_
    refine LP_ev ok 0 [(23, I x7), (5, I x7)] 2 rfl rfl ?_
    refine LP_end _ rfl ?_
    refine W_region ?_
    refine LP_ev ok 0 [(24, I (wr (x + 1))), (10, I (wr (x + 1)))] 2 rfl rfl ?_
    refine LP_end _ rfl ?_
    exact ⟨(x7, wr (x + 1)), ⟨H.1, _, env_eq ⟨rfl, rfl, rfl, rfl, rfl, trivial⟩, rfl⟩, H.2⟩
  have H := H.2 hc
  refine W_exit ?_
  refine (if_pos rfl).mpr ?_
  refine W_seq ?_
  refine W_region ?_
  refine LP_ev ok 0 [(4, .bool true)] 1 rfl rfl ?_
  refine LP_end _ rfl ?_
  refine W_ret ?_
  exact ⟨_, Ret_of [.bool true] ⟨⟨rfl, rfl⟩, trivial⟩, _, H, rfl, X.ext⟩

set_option maxRecDepth 8000 in
set_option maxHeartbeats 4000000 in
theorem slices_Index_int_int_w (sx : List Int) (vx1 : Int) (Q : Int → Prop) (H : slices_Index_int_int sx vx1 Q) (w : World) {vx : Value} {hx : PH} (r : RS hx vx sx) (ex : Sub hx w) :
    CallsTo Try.prog 194 #[vx, I vx1] w fun v w' => ∃ r0, Q r0 ∧ v = I r0 ∧ Ext w w' := by
  obtain ⟨a, c, rfl⟩ := r.shape
  refine enter (args := [.slice a (List.length sx) c, I vx1]) 19 Try.func194 rfl rfl rfl ?_
  refine W_forget [(0, .slice a (List.length sx) c), (1, I vx1)] ⟨rfl, rfl, trivial⟩ fun ρ => ?_
  have X := But.refl emp w
  refine W_seq ?_
  refine W_region ?_
  refine LP_ev ok 0 [(4, I 0)] 1 rfl rfl ?_
  refine LP_end _ rfl ?_
  refine W_seq ?_
  refine W_seq ?_
  refine W_region ?_
  refine LP_ev ok 0 [(6, .slice a (List.length sx) c), (7, I (ln sx)), (8, I 0)] 3 rfl rfl ?_
  refine LP_end _ rfl ?_
  refine W_block ?_
  obtain ⟨J, m, Hx, H⟩ := H
  refine W_loop (S := Int) (fun s ρ' w' => J s ∧ ∃ (ρ : Env), ρ' = setAll [(0, .slice a (List.length sx) c), (1, I vx1), (7, I (ln sx)), (8, I s)] ρ ∧ w = w') (fun s => m s) 0 ⟨Hx, _, env_eq ⟨rfl, rfl, rfl, rfl, trivial⟩, rfl⟩ ?_
  rintro x _ _ ⟨Hi, ρ, rfl, rfl⟩
  have H := H x Hi
  refine W_seq ?_
  refine W_region ?_
  refine LP_ev ok 0 [(9, .bool (decide (x < (ln sx))))] 1 rfl rfl ?_
  refine LP_end _ rfl ?_
  refine W_seq ?_
  refine W_cond (decide (x < (ln sx))) rfl (fun hc => ?_) (fun hc => ?_)
  · have H := H.1 hc
    refine W_skip ?_
    refine W_seq ?_
    refine W_block ?_
    refine W_seq ?_
    refine W_region ?_
    refine LP_ev ok 0 [(10, I x), (5, I x)] 2 rfl rfl ?_
    refine LP_end _ rfl ?_
    refine W_seq ?_
    refine W_region ?_
    refine LP_ev ok 0 [(11, I vx1), (12, .slice a (List.length sx) c), (13, I x)] 3 rfl rfl ?_
    obtain ⟨x2, hi, hx3, H⟩ := H
    refine LP_index 3 rfl rfl rfl Try.underlying24 ti_3 rfl rfl r hi hx3 fun a4 cs r5 d => ?_
    refine LP_load 4 rfl rfl rfl ti_3 ag_3 rfl r5 d ex fun vx6 r7 => ?_
    obtain rfl := r7.int
    refine LP_ev ok 5 [(16, .bool (vx1 == x2))] 6 rfl rfl ?_
    refine LP_end _ rfl ?_
    refine W_cond (vx1 == x2) rfl (fun hc8 => ?_) (fun hc8 => ?_)
    · have H := H.1 hc8
      refine W_seq ?_
      refine W_region ?_
      refine LP_ev ok 0 [(17, I x), (4, I x)] 2 rfl rfl ?_
      refine LP_end _ rfl ?_
      refine W_ret ?_
      exact ⟨_, Ret_of [I x] ⟨⟨rfl, rfl⟩, trivial⟩, _, H, rfl, X.ext⟩
    have H := H.2 hc8
    refine W_skip ?_
    refine W_region ?_
    refine LP_ev ok 0 [(18, I (wr (x + 1))), (8, I (wr (x + 1)))] 2 rfl rfl ?_
    refine LP_end _ rfl ?_
    exact ⟨wr (x + 1), ⟨H.1, _, env_eq ⟨rfl, rfl, rfl, rfl, trivial⟩, rfl⟩, H.2⟩
  have H := H.2 hc
  refine W_exit ?_
  refine (if_pos rfl).mpr ?_
  refine W_seq ?_
  refine W_region ?_
  refine LP_ev ok 0 [(4, I ((-1)))] 1 rfl rfl ?_
  refine LP_end _ rfl ?_
  refine W_ret ?_
  exact ⟨_, Ret_of [I ((-1))] ⟨⟨rfl, rfl⟩, trivial⟩, _, H, rfl, X.ext⟩

set_option maxRecDepth 8000 in
set_option maxHeartbeats 4000000 in
theorem slices_Contains_int_int_w (sx : List Int) (vx1 : Int) (Q : Bool → Prop) (H : slices_Contains_int_int sx vx1 Q) (w : World) {vx : Value} {hx : PH} (r : RS hx vx sx) (ex : Sub hx w) :
    CallsTo Try.prog 128 #[vx, I vx1] w fun v w' => ∃ r0, Q r0 ∧ v = .bool r0 ∧ Ext w w' := by
  obtain ⟨a, c, rfl⟩ := r.shape
  refine enter (args := [.slice a (List.length sx) c, I vx1]) 9 Try.func128 rfl rfl rfl ?_
  refine W_forget [(0, .slice a (List.length sx) c), (1, I vx1)] ⟨rfl, rfl, trivial⟩ fun ρ => ?_
  have X := But.refl emp w
  refine W_seq ?_
  refine W_region ?_
  refine LP_ev ok 0 [(4, .bool false)] 1 rfl rfl ?_
  refine LP_end _ rfl ?_
  refine W_seq ?_
  refine W_region ?_
  refine LP_ev ok 0 [(5, .slice a (List.length sx) c), (6, I vx1)] 2 rfl rfl ?_
  refine LP_call 2 rfl rfl rfl cal_194 rfl (slices_Index_int_int_w _ _ _ H w r ex) ?_
  rintro _ wx ⟨r2, H, rfl, x⟩
  refine LP_ev ok 3 [(8, .bool (decide (r2 ≥ 0))), (4, .bool (decide (r2 ≥ 0)))] 5 rfl rfl ?_
  refine LP_end _ rfl ?_
  refine W_ret ?_
  have X3 := (X.stepx x)
  exact ⟨_, Ret_of [.bool (decide (r2 ≥ 0))] ⟨⟨rfl, rfl⟩, trivial⟩, _, H, rfl, X3.ext⟩

set_option maxRecDepth 8000 in
set_option maxHeartbeats 4000000 in
theorem impl_otherVars_w (sx : List Variable) (vars : List Int) (Q : (List Int) → Prop) (H : impl_otherVars sx vars Q) (w : World) {vx : Value} {hx : PH} (r : RS hx vx sx) (ex : Sub hx w) {vx1 : Value} {hx2 : PH} (r3 : RS hx2 vx1 vars) (ex4 : Sub hx2 w) :
    CallsTo Try.prog 91 #[vx, vx1] w fun v w' => ∃ r0 u0 g0, Q r0 ∧ v = u0 ∧ Ext w w' ∧ OS 3 g0 emp u0 r0 ∧ Sub g0 w' ∧ Fresh w.heap.size g0 := by
  obtain ⟨a, c, rfl⟩ := r.shape
  obtain ⟨a5, c6, rfl⟩ := r3.shape
  refine enter (args := [.slice a (List.length sx) c, .slice a5 (List.length vars) c6]) 22 Try.func91 rfl rfl rfl ?_
  refine W_forget [(0, .slice a (List.length sx) c), (1, .slice a5 (List.length vars) c6)] ⟨rfl, rfl, trivial⟩ fun ρ => ?_
  have X := But.refl emp w
  refine W_seq ?_
  refine W_region ?_
  refine LP_ev ok 0 [(4, .slice none 0 0)] 1 rfl rfl ?_
  refine LP_end _ rfl ?_
  refine W_seq ?_
  refine W_region ?_
  refine LP_ev ok 0 [(5, .slice none 0 0)] 1 rfl rfl ?_
  refine LP_end _ rfl ?_
  refine W_seq ?_
  refine W_seq ?_
  refine W_region ?_
  refine LP_ev ok 0 [(7, .slice a (List.length sx) c), (8, I (ln sx)), (9, I 0)] 3 rfl rfl ?_
  refine LP_end _ rfl ?_
  refine W_block ?_
  obtain ⟨J, m, Hx, H⟩ := H
  refine W_loop (S := (List Int) × Int) (fun s ρ' w' => J s.1 s.2 ∧ ∃ (ρ : Env) (vx7 : Value) (hx8 : PH), ρ' = setAll [(1, .slice a5 (List.length vars) c6), (5, vx7), (8, I (ln sx)), (9, I s.2)] ρ ∧ But emp w w' ∧ OS 3 hx8 emp vx7 s.1 ∧ Sub hx8 w' ∧ Fresh w.heap.size hx8 ∧ Sub hx2 w' ∧ Dj hx8 hx2) (fun s => m s.1 s.2) ([], 0) ⟨Hx, _, .slice none 0 0, emp, env_eq ⟨rfl, rfl, rfl, rfl, trivial⟩, X, OS.nil, (emp_sub _), (emp_fresh _), ex4, (fun _ => .inl rfl)⟩ ?_
  rintro ⟨out, x⟩ _ wx ⟨Hi, ρ, vx7, hx8, rfl, X13, o, ex9, f, ex10, d⟩
  have H := H out x Hi
  obtain ⟨a11, c12, rfl⟩ := o.shape
  refine W_seq ?_
  refine W_region ?_
  refine LP_ev ok 0 [(10, .bool (decide (x < (ln sx))))] 1 rfl rfl ?_
  refine LP_end _ rfl ?_
  refine W_seq ?_
  refine W_cond (decide (x < (ln sx))) rfl (fun hc => ?_) (fun hc => ?_)
  · have H := H.1 hc
    refine W_skip ?_
    obtain ⟨k, hk, H⟩ := jn_elim H
    refine W_join2 (S := (List Int)) (fun s ρ' w' => k s ∧ ∃ (ρ : Env) (vx15 : Value) (hx16 : PH), ρ' = setAll [(1, .slice a5 (List.length vars) c6), (5, vx15), (8, I (ln sx)), (9, I x)] ρ ∧ But emp w w' ∧ OS 3 hx16 emp vx15 s ∧ Sub hx16 w' ∧ Fresh w.heap.size hx16 ∧ Sub hx2 w' ∧ Dj hx16 hx2) ?_ ?_
    · refine W_block ?_
      refine W_seq ?_
      refine W_region ?_
      refine LP_ev ok 0 [(11, I x), (6, I x)] 2 rfl rfl ?_
      refine LP_end _ rfl ?_
      refine W_seq ?_
      refine W_region ?_
      refine LP_ev ok 0 [(12, .slice a5 (List.length vars) c6), (13, I x)] 2 rfl rfl ?_
      refine LP_call 2 rfl rfl rfl cal_128 rfl (slices_Contains_int_int_w _ _ _ H wx r3 ex10) ?_
      rintro _ wx27 ⟨r26, H, rfl, x28⟩
      refine LP_ev ok 3 [(15, .bool (!r26))] 4 rfl rfl ?_
      refine LP_end _ rfl ?_
      refine W_cond (!r26) rfl (fun hc29 => ?_) (fun hc29 => ?_)
      · have H := H.1 hc29
        refine W_region ?_
        refine LP_ev ok 0 [(16, .slice a11 (List.length out) c12), (17, I x)] 2 rfl rfl ?_
        refine LP_lit (α := Int) (g := emp) 2 (vs := [I x]) (xs := [x]) rfl rfl rfl Try.underlying24 ti_3 rfl rfl ⟨⟨_, rfl, rfl⟩, trivial⟩ rfl rfl fun hx30 vx31 wx32 x33 o34 ex35 f36 => ?_
        obtain ⟨a37, c38, rfl⟩ := o34.shape
        have ex39 := ((ex9.ext x28).ext x33)
        obtain ⟨hb, H⟩ := H
        refine LP_appendf (α := Int) 3 rfl rfl rfl Try.underlying24 ti_3 rfl rfl rfl o ex39 o34.readf ex35 (by first | omega | (simp only [ln] at *; omega)) (by first | omega | (simp only [ln] at *; omega)) fun hx40 vx41 wx42 o43 ex44 y dm => ?_
        obtain ⟨a45, c46, rfl⟩ := o43.shape
        refine LP_ev ok 4 [(5, .slice a45 (List.length (out ++ ([x]))) c46)] 5 rfl rfl ?_
        refine LP_end _ rfl ?_
        have X47 := (((X13.stepx x28).stepx x33).step y (f.dom _))
        have X49 := ((X13.stepx x28).stepx x33)
        have f48 := dm.fresh f X49.size
        have ex50 := (((ex10.ext x28).ext x33).but y d)
        have ex51 := ((ex10.ext x28).ext x33)
        exact ⟨out ++ ([x]), H, _, .slice a45 (List.length (out ++ ([x]))) c46, hx40, env_eq ⟨rfl, rfl, rfl, rfl, trivial⟩, X47, o43, ex44, f48, ex50, (DomLe.dj dm d ex51)⟩
      have H := H.2 hc29
      refine W_skip ?_
      have X52 := (X13.stepx x28)
      have ex53 := (ex9.ext x28)
      have ex54 := (ex10.ext x28)
      exact ⟨out, H, _, .slice a11 (List.length out) c12, hx8, env_eq ⟨rfl, rfl, rfl, rfl, trivial⟩, X52, o, ex53, f, ex54, d⟩
    rintro out14 _ wx20 ⟨H, ρ, vx15, hx16, rfl, X25, o17, ex18, f19, ex21, d24⟩
    subst hk
    obtain ⟨a22, c23, rfl⟩ := o17.shape
    refine W_region ?_
    refine LP_ev ok 0 [(20, I (wr (x + 1))), (9, I (wr (x + 1)))] 2 rfl rfl ?_
    refine LP_end _ rfl ?_
    exact ⟨(out14, wr (x + 1)), ⟨H.1, _, .slice a22 (List.length out14) c23, hx16, env_eq ⟨rfl, rfl, rfl, rfl, trivial⟩, X25, o17, ex18, f19, ex21, d24⟩, H.2⟩
  have H := H.2 hc
  refine W_exit ?_
  refine (if_pos rfl).mpr ?_
  refine W_seq ?_
  refine W_region ?_
  refine LP_ev ok 0 [(21, .slice a11 (List.length out) c12), (4, .slice a11 (List.length out) c12)] 2 rfl rfl ?_
  refine LP_end _ rfl ?_
  refine W_ret ?_
  exact ⟨_, Ret_of [.slice a11 (List.length out) c12] ⟨⟨rfl, rfl⟩, trivial⟩, _, _, _, H, rfl, X13.ext, o, ex9, f⟩

set_option maxRecDepth 8000 in
set_option maxHeartbeats 4000000 in
theorem impl_valuesAt_w (sx : List Variable) (i : Int) (Q : (List Int) → Prop) (H : impl_valuesAt sx i Q) (w : World) {vx : Value} {hx : PH} (r : RS hx vx sx) (ex : Sub hx w) :
    CallsTo Try.prog 100 #[vx, I i] w fun v w' => ∃ r0 u0 g0, Q r0 ∧ v = u0 ∧ Ext w w' ∧ OS 3 g0 emp u0 r0 ∧ Sub g0 w' ∧ Fresh w.heap.size g0 := by
  obtain ⟨a, c, rfl⟩ := r.shape
  refine enter (args := [.slice a (List.length sx) c, I i]) 35 Try.func100 rfl rfl rfl ?_
  refine W_forget [(0, .slice a (List.length sx) c), (1, I i)] ⟨rfl, rfl, trivial⟩ fun ρ => ?_
  have X := But.refl emp w
  refine W_seq ?_
  refine W_region ?_
  refine LP_ev ok 0 [(4, .slice none 0 0)] 1 rfl rfl ?_
  refine LP_end _ rfl ?_
  refine W_seq ?_
  refine W_region ?_
  refine LP_ev ok 0 [(7, .slice a (List.length sx) c), (8, I (ln sx))] 2 rfl rfl ?_
  obtain ⟨hn, hb, H⟩ := H
  refine LP_make (α := Int) 2 rfl rfl rfl Try.underlying24 ti_3 (x0 := (0 : Int)) rfl rfl hn (by first | omega | (simp only [ln] at *; omega)) (by first | omega | (simp only [ln] at *; omega)) fun hx1 vx2 wx x o ex3 f => ?_
  obtain ⟨a4, c5, rfl⟩ := o.shape
  refine LP_ev ok 3 [(5, .slice a4 (List.length (List.replicate (Int.toNat (ln sx)) ((0 : Int)))) c5)] 4 rfl rfl ?_
  refine LP_end _ rfl ?_
  refine W_seq ?_
  refine W_seq ?_
  refine W_region ?_
  refine LP_ev ok 0 [(10, .slice a (List.length sx) c), (11, I (ln sx)), (12, I (wr ((ln sx) - 1))), (6, I (wr ((ln sx) - 1)))] 4 rfl rfl ?_
  refine LP_end _ rfl ?_
  refine W_block ?_
  have X15 := (X.stepx x)
  have f16 := f.mono X.size
  have ex17 := (ex.ext x)
  obtain ⟨J, m, Hx, H⟩ := H
  refine W_loop (S := Int × (List Int) × Int) (fun s ρ' w' => J s.1 s.2.1 s.2.2 ∧ ∃ (ρ : Env) (hx8 : PH), ρ' = setAll [(0, .slice a (List.length sx) c), (1, I s.1), (5, .slice a4 (List.length (List.replicate (Int.toNat (ln sx)) ((0 : Int)))) c5), (6, I s.2.2)] ρ ∧ But emp w w' ∧ OS 3 hx8 emp (.slice a4 (List.length (List.replicate (Int.toNat (ln sx)) ((0 : Int)))) c5) s.2.1 ∧ Sub hx8 w' ∧ Fresh w.heap.size hx8 ∧ Sub hx w' ∧ Dj hx8 hx) (fun s => m s.1 s.2.1 s.2.2) (i, List.replicate (Int.toNat (ln sx)) ((0 : Int)), wr ((ln sx) - 1)) ⟨Hx, _, hx1, env_eq ⟨rfl, rfl, rfl, rfl, trivial⟩, X15, o, ex3, f16, ex17, (Dj.of_fresh ex f).symm⟩ ?_
  rintro ⟨i6, values, k⟩ _ wx12 ⟨Hi, ρ, hx8, rfl, X14, o9, ex10, f11, ex13, d⟩
  have H := H i6 values k Hi
  refine W_seq ?_
  refine W_seq ?_
  refine W_region ?_
  refine LP_ev ok 0 [(13, I k), (14, .bool (decide (k ≥ 0)))] 2 rfl rfl ?_
  refine LP_end _ rfl ?_
  refine W_cond (decide (k ≥ 0)) rfl (fun hc => ?_) (fun hc => ?_)
  · have H := H.1 hc
    refine W_skip ?_
    refine W_seq ?_
    refine W_block ?_
    refine W_seq ?_
    refine W_region ?_
    refine LP_ev ok 0 [(17, .slice a4 (List.length (List.replicate (Int.toNat (ln sx)) ((0 : Int)))) c5), (18, I k), (19, I i6), (20, .slice a (List.length sx) c), (21, I k)] 5 rfl rfl ?_
    obtain ⟨x18, hi, hx19, H⟩ := H
    refine LP_index 5 rfl rfl rfl Try.underlying29 ti_107 rfl rfl r hi hx19 fun a20 cs r21 d22 => ?_
    refine LP_ev ok 6 [(23, .pointer (some (Addr.add a20 1)))] 7 rfl rfl ?_
    refine LP_ldfld (x := x18) (off := 1) 7 (v := I x18.Levels) rfl rfl rfl ti_3 ag_3 (fun _ => rfl) rfl r21 d22 ex13 rfl rfl ?_
    obtain ⟨hz, H⟩ := H
    refine LP_val 8 _ rfl rfl (ex_rem rfl rfl rfl hz _) ?_
    obtain ⟨hi23, hl, H⟩ := H
    refine LP_indexw (v := .slice a4 (List.length (List.replicate (Int.toNat (ln sx)) ((0 : Int)))) c5) 9 rfl rfl rfl Try.underlying24 ti_3 rfl rfl o9 hi23 hl fun a24 wa => ?_
    refine LP_set 10 rfl rfl rfl rfl rfl wa (Le.refl emp) ⟨_, rfl, rfl⟩ ex10 fun hx25 wx26 o27 ex28 y dm => ?_
    refine LP_end _ rfl ?_
    refine W_region ?_
    refine LP_ev ok 0 [(27, I i6), (28, .slice a (List.length sx) c), (29, I k)] 3 rfl rfl ?_
    obtain ⟨x29, hi30, hx31, H⟩ := H
    refine LP_index 3 rfl rfl rfl Try.underlying29 ti_107 rfl rfl r hi30 hx31 fun a32 cs33 r34 d35 => ?_
    refine LP_ev ok 4 [(31, .pointer (some (Addr.add a32 1)))] 5 rfl rfl ?_
    have ex36 := (ex13.but y d)
    refine LP_ldfld (x := x29) (off := 1) 5 (v := I x29.Levels) rfl rfl rfl ti_3 ag_3 (fun _ => rfl) rfl r34 d35 ex36 rfl rfl ?_
    obtain ⟨hz37, H⟩ := H
    refine LP_val 6 _ rfl rfl (ex_quo rfl rfl rfl hz37 _) ?_
    refine LP_ev ok 7 [(1, I (wr (Int.tdiv i6 x29.Levels)))] 8 rfl rfl ?_
    refine LP_end _ rfl ?_
    refine W_region ?_
    refine LP_ev ok 0 [(15, I k), (16, I (wr (k - 1))), (6, I (wr (k - 1)))] 3 rfl rfl ?_
    refine LP_end _ rfl ?_
    have X38 := (X14.step y (f11.dom _))
    have f39 := (dm _).fresh f11 X14.size
    exact ⟨(wr (Int.tdiv i6 x29.Levels), List.set values (Int.toNat k) (Int.tmod i6 x18.Levels), wr (k - 1)), ⟨H.1, _, hx25, env_eq ⟨rfl, rfl, rfl, rfl, trivial⟩, X38, o27, ex28, f39, ex36, (DomLe.dj (dm _) d ex13)⟩, H.2⟩
  have H := H.2 hc
  refine W_exit ?_
  refine (if_pos rfl).mpr ?_
  refine W_seq ?_
  refine W_region ?_
  refine LP_ev ok 0 [(34, .slice a4 (List.length (List.replicate (Int.toNat (ln sx)) ((0 : Int)))) c5), (4, .slice a4 (List.length (List.replicate (Int.toNat (ln sx)) ((0 : Int)))) c5)] 2 rfl rfl ?_
  refine LP_end _ rfl ?_
  refine W_ret ?_
  exact ⟨_, Ret_of [.slice a4 (List.length (List.replicate (Int.toNat (ln sx)) ((0 : Int)))) c5] ⟨⟨rfl, rfl⟩, trivial⟩, _, _, _, H, rfl, X14.ext, o9, ex10, f11⟩

set_option maxRecDepth 8000 in
set_option maxHeartbeats 4000000 in
theorem impl_fails_w (ex : Edit) (values : List Int) (Q : Bool → Prop) (H : impl_fails ex values Q) (w : World) {vx : Value} {hx : PH} (r : RS hx vx ex.Sets) (ex1 : Sub hx w) {vx2 : Value} {hx3 : PH} (r4 : RS hx3 vx2 values) (ex5 : Sub hx3 w) :
    CallsTo Try.prog 101 #[.agg #[vx], vx2] w fun v w' => ∃ r0, Q r0 ∧ v = .bool r0 ∧ Ext w w' := by
  obtain ⟨a, c, rfl⟩ := r.shape
  obtain ⟨a6, c7, rfl⟩ := r4.shape
  refine enter (args := [.agg #[.slice a (List.length ex.Sets) c], .slice a6 (List.length values) c7]) 24 Try.func101 rfl rfl rfl ?_
  refine W_forget [(0, .agg #[.slice a (List.length ex.Sets) c]), (1, .slice a6 (List.length values) c7)] ⟨rfl, rfl, trivial⟩ fun ρ => ?_
  have X := But.refl emp w
  refine W_seq ?_
  refine W_region ?_
  refine LP_box 0 (cs := [.slice a (List.length ex.Sets) c]) rfl rfl rfl rfl rfl fun b wx x ex8 f => ?_
  refine LP_ev ok 1 [(4, .bool false)] 2 rfl rfl ?_
  refine LP_end _ rfl ?_
  refine W_seq ?_
  refine W_seq ?_
  refine W_region ?_
  refine LP_ev ok 0 [(7, .slice a6 (List.length values) c7), (8, I (ln values)), (9, I 0)] 3 rfl rfl ?_
  refine LP_end _ rfl ?_
  refine W_block ?_
  obtain ⟨J, m, Hx, H⟩ := H
  refine W_loop (S := Int) (fun s ρ' w' => J s ∧ ∃ (ρ : Env), ρ' = setAll [(2, .pointer (some ⟨b, 0, none⟩)), (7, .slice a6 (List.length values) c7), (8, I (ln values)), (9, I s)] ρ ∧ wx = w') (fun s => m s) 0 ⟨Hx, _, env_eq ⟨rfl, rfl, rfl, rfl, trivial⟩, rfl⟩ ?_
  rintro x9 _ _ ⟨Hi, ρ, rfl, rfl⟩
  have H := H x9 Hi
  refine W_seq ?_
  refine W_region ?_
  refine LP_ev ok 0 [(10, .bool (decide (x9 < (ln values))))] 1 rfl rfl ?_
  refine LP_end _ rfl ?_
  refine W_seq ?_
  refine W_cond (decide (x9 < (ln values))) rfl (fun hc => ?_) (fun hc => ?_)
  · have H := H.1 hc
    refine W_skip ?_
    refine W_seq ?_
    refine W_block ?_
    refine W_seq ?_
    refine W_region ?_
    refine LP_ev ok 0 [(11, I x9)] 1 rfl rfl ?_
    obtain ⟨x11, hi, hx12, H⟩ := H
    refine LP_index 1 rfl rfl rfl Try.underlying24 ti_3 rfl rfl r4 hi hx12 fun a13 cs r14 d => ?_
    have ex15 := (ex5.ext x)
    refine LP_load 2 rfl rfl rfl ti_3 ag_3 rfl r14 d ex15 fun vx16 r17 => ?_
    obtain rfl := r17.int
    refine LP_ev ok 3 [(5, I x9), (6, I x11)] 5 rfl rfl ?_
    refine LP_end _ rfl ?_
    refine W_seq ?_
    refine W_region ?_
    refine LP_ev ok 0 [(14, .pointer (some ⟨b, 0, none⟩))] 1 rfl rfl ?_
    refine LP_ldbox 1 (v := .slice a (List.length ex.Sets) c) rfl rfl rfl ti_24 ag_24 (fun _ => rfl) rfl ex8 rfl rfl ?_
    refine LP_ev ok 2 [(16, I x9)] 3 rfl rfl ?_
    obtain ⟨x18, hi19, hx20, H⟩ := H
    refine LP_index 3 rfl rfl rfl Try.underlying24 ti_3 rfl rfl r hi19 hx20 fun a21 cs22 r23 d24 => ?_
    have ex25 := (ex1.ext x)
    refine LP_load 4 rfl rfl rfl ti_3 ag_3 rfl r23 d24 ex25 fun vx26 r27 => ?_
    obtain rfl := r27.int
    refine LP_ev ok 5 [(19, I x11)] 6 rfl rfl ?_
    obtain ⟨hz, H⟩ := H
    refine LP_val 6 _ rfl rfl (ex_shr rfl rfl rfl hz _) ?_
    refine LP_ev ok 7 [(21, I (bits .and .i64 (shr .i64 x18 x11) 1)), (22, .bool ((bits .and .i64 (shr .i64 x18 x11) 1) == 0))] 9 rfl rfl ?_
    refine LP_end _ rfl ?_
    refine W_cond ((bits .and .i64 (shr .i64 x18 x11) 1) == 0) rfl (fun hc28 => ?_) (fun hc28 => ?_)
    · have H := H.1 hc28
      refine W_seq ?_
      refine W_region ?_
      refine LP_ev ok 0 [(4, .bool false)] 1 rfl rfl ?_
      refine LP_end _ rfl ?_
      refine W_ret ?_
      have X29 := (X.stepx x)
      exact ⟨_, Ret_of [.bool false] ⟨⟨rfl, rfl⟩, trivial⟩, _, H, rfl, X29.ext⟩
    have H := H.2 hc28
    refine W_skip ?_
    refine W_region ?_
    refine LP_ev ok 0 [(23, I (wr (x9 + 1))), (9, I (wr (x9 + 1)))] 2 rfl rfl ?_
    refine LP_end _ rfl ?_
    exact ⟨wr (x9 + 1), ⟨H.1, _, env_eq ⟨rfl, rfl, rfl, rfl, trivial⟩, rfl⟩, H.2⟩
  have H := H.2 hc
  refine W_exit ?_
  refine (if_pos rfl).mpr ?_
  refine W_seq ?_
  refine W_region ?_
  refine LP_ev ok 0 [(4, .bool true)] 1 rfl rfl ?_
  refine LP_end _ rfl ?_
  refine W_ret ?_
  have X30 := (X.stepx x)
  exact ⟨_, Ret_of [.bool true] ⟨⟨rfl, rfl⟩, trivial⟩, _, H, rfl, X30.ext⟩

set_option maxRecDepth 8000 in
set_option maxHeartbeats 4000000 in
theorem impl_failsOne_w (l : List Edit) (values : List Int) (Q : Bool → Prop) (H : impl_failsOne l values Q) (w : World) {vx : Value} {hx : PH} (r : RS hx vx l) (ex : Sub hx w) {vx1 : Value} {hx2 : PH} (r3 : RS hx2 vx1 values) (ex4 : Sub hx2 w) :
    CallsTo Try.prog 102 #[vx, vx1] w fun v w' => ∃ r0, Q r0 ∧ v = .bool r0 ∧ Ext w w' := by
  obtain ⟨a, c, rfl⟩ := r.shape
  obtain ⟨a5, c6, rfl⟩ := r3.shape
  refine enter (args := [.slice a (List.length l) c, .slice a5 (List.length values) c6]) 17 Try.func102 rfl rfl rfl ?_
  refine W_forget [(0, .slice a (List.length l) c), (1, .slice a5 (List.length values) c6)] ⟨rfl, rfl, trivial⟩ fun ρ => ?_
  have X := But.refl emp w
  refine W_seq ?_
  refine W_region ?_
  refine LP_ev ok 0 [(4, .bool false)] 1 rfl rfl ?_
  refine LP_end _ rfl ?_
  refine W_seq ?_
  refine W_seq ?_
  refine W_region ?_
  refine LP_ev ok 0 [(7, .slice a (List.length l) c), (8, I (ln l)), (9, I 0)] 3 rfl rfl ?_
  refine LP_end _ rfl ?_
  refine W_block ?_
  obtain ⟨J, m, Hx, H⟩ := H
  refine W_loop (S := Int) (fun s ρ' w' => J s ∧ ∃ (ρ : Env), ρ' = setAll [(1, .slice a5 (List.length values) c6), (7, .slice a (List.length l) c), (8, I (ln l)), (9, I s)] ρ ∧ But emp w w' ∧ Sub hx w' ∧ Sub hx2 w') (fun s => m s) 0 ⟨Hx, _, env_eq ⟨rfl, rfl, rfl, rfl, trivial⟩, X, ex, ex4⟩ ?_
  rintro x _ wx ⟨Hi, ρ, rfl, X9, ex7, ex8⟩
  have H := H x Hi
  refine W_seq ?_
  refine W_region ?_
  refine LP_ev ok 0 [(10, .bool (decide (x < (ln l))))] 1 rfl rfl ?_
  refine LP_end _ rfl ?_
  refine W_seq ?_
  refine W_cond (decide (x < (ln l))) rfl (fun hc => ?_) (fun hc => ?_)
  · have H := H.1 hc
    refine W_skip ?_
    refine W_seq ?_
    refine W_block ?_
    refine W_seq ?_
    refine W_region ?_
    obtain ⟨x10, hi, hx11, H⟩ := H
    refine LP_index 0 rfl rfl rfl Try.underlying31 ti_50 rfl rfl r hi hx11 fun a12 cs r13 d => ?_
    have d14 := d
    obtain ⟨u, rfl, r15⟩ := Edit_rd d14
    obtain ⟨a16, c17, rfl⟩ := r15.shape
    refine LP_load 1 rfl rfl rfl ti_50 ag_50 rfl r13 d ex7 fun vx18 r19 => ?_
    obtain ⟨u20, rfl, r21⟩ := Edit_rv r19
    obtain ⟨a22, c23, rfl⟩ := r21.shape
    refine LP_alloc 2 rfl rfl rfl ti_50 rfl fun b wx24 x25 ex26 f => ?_
    refine LP_stbox 3 (vs := [.slice a22 (List.length x10.Sets) c23]) (cs' := [.slice a22 (List.length x10.Sets) c23]) rfl rfl rfl ti_50 rfl rfl rfl rfl rfl ex26 rfl rfl fun wx27 ex28 y => ?_
    refine LP_end _ rfl ?_
    refine W_seq ?_
    refine W_region ?_
    refine LP_ldbox 0 (v := .agg #[.slice a22 (List.length x10.Sets) c23]) rfl rfl rfl ti_50 ag_50 (fun h => by cases h) rfl ex28 rfl rfl ?_
    refine LP_ev ok 1 [(14, .slice a5 (List.length values) c6)] 2 rfl rfl ?_
    have ex30 := ((ex7.ext x25).but y (Dj.of_fresh ex7 f).symm)
    have ex31 := ((ex8.ext x25).but y (Dj.of_fresh ex8 f).symm)
    refine LP_call 2 rfl rfl rfl cal_101 rfl (impl_fails_w _ _ _ H wx27 r21 ex30 r3 ex31) ?_
    rintro _ wx32 ⟨r29, H, rfl, x33⟩
    refine LP_end _ rfl ?_
    refine W_cond (r29) rfl (fun hc34 => ?_) (fun hc34 => ?_)
    · have H := H.1 hc34
      refine W_seq ?_
      refine W_region ?_
      refine LP_ev ok 0 [(4, .bool true)] 1 rfl rfl ?_
      refine LP_end _ rfl ?_
      refine W_ret ?_
      have f35 := f.mono X9.size
      have X36 := (((X9.stepx x25).step y (f35.dom _)).stepx x33)
      exact ⟨_, Ret_of [.bool true] ⟨⟨rfl, rfl⟩, trivial⟩, _, H, rfl, X36.ext⟩
    have H := H.2 hc34
    refine W_skip ?_
    refine W_region ?_
    refine LP_ev ok 0 [(16, I (wr (x + 1))), (9, I (wr (x + 1)))] 2 rfl rfl ?_
    refine LP_end _ rfl ?_
    have f37 := f.mono X9.size
    have X38 := (((X9.stepx x25).step y (f37.dom _)).stepx x33)
    have ex39 := (ex30.ext x33)
    have ex40 := (ex31.ext x33)
    exact ⟨wr (x + 1), ⟨H.1, _, env_eq ⟨rfl, rfl, rfl, rfl, trivial⟩, X38, ex39, ex40⟩, H.2⟩
  have H := H.2 hc
  refine W_exit ?_
  refine (if_pos rfl).mpr ?_
  refine W_seq ?_
  refine W_region ?_
  refine LP_ev ok 0 [(4, .bool false)] 1 rfl rfl ?_
  refine LP_end _ rfl ?_
  refine W_ret ?_
  exact ⟨_, Ret_of [.bool false] ⟨⟨rfl, rfl⟩, trivial⟩, _, H, rfl, X9.ext⟩

set_option maxRecDepth 8000 in
set_option maxHeartbeats 4000000 in
theorem impl_completionOf_1_w (c : List Int) (c2 : List Int) (c10 : List Int) (c19 : List Int) (Q : Bool → (List Int) → Prop) (H : impl_completionOf_1 c c2 c10 c19 Q) (w : World) {vx : Value} {hx : PH} (r : OS 3 hx emp vx c) (ex : Sub hx w) {vx3 : Value} {hx4 : PH} (r5 : RS hx4 vx3 c2) (ex6 : Sub hx4 w) {b : Nat} (ex9 : Sub (bx b 24 [vx3]) w) {vx11 : Value} {hx12 : PH} (r13 : RS hx12 vx11 c10) (ex14 : Sub hx12 w) {b17 : Nat} (ex18 : Sub (bx b17 24 [vx11]) w) {vx20 : Value} {hx21 : PH} (r22 : OS 3 hx21 emp vx20 c19) (ex23 : Sub hx21 w) (cn : CanV vx20 c19) {b26 : Nat} (ex27 : Sub (bx b26 24 [vx20]) w) (d : Dj hx hx21) (d28 : Dj hx (bx b26 24 [vx20])) (d29 : Dj hx21 (bx b26 24 [vx20])) (d30 : Dj hx hx4) (d31 : Dj hx (bx b 24 [vx3])) (d32 : Dj hx hx12) (d33 : Dj hx (bx b17 24 [vx11])) (d34 : Dj hx21 hx4) (d35 : Dj hx21 (bx b 24 [vx3])) (d36 : Dj hx21 hx12) (d37 : Dj hx21 (bx b17 24 [vx11])) (d38 : Dj (bx b26 24 [vx20]) hx4) (d39 : Dj (bx b26 24 [vx20]) (bx b 24 [vx3])) (d40 : Dj (bx b26 24 [vx20]) hx12) (d41 : Dj (bx b26 24 [vx20]) (bx b17 24 [vx11])) :
    CallsTo Try.prog 164 #[vx, .pointer (some ⟨b, 0, none⟩), .pointer (some ⟨b17, 0, none⟩), .pointer (some ⟨b26, 0, none⟩)] w fun v w' => ∃ r0 m1 v1_ k1, Q r0 m1 ∧ v = .bool r0 ∧ But (un hx (un hx21 (bx b26 24 [vx20]))) w w' ∧ OS 3 k1 emp v1_ m1 ∧ Sub k1 w' ∧ DomLe (un hx (un hx21 (bx b26 24 [vx20]))) w.heap.size k1 ∧ Sub (bx b26 24 [v1_]) w' ∧ Dj k1 (bx b26 24 [v1_]) ∧ CanV v1_ m1 := by
  obtain ⟨a, c1, rfl⟩ := r.shape
  obtain ⟨a7, c8, rfl⟩ := r5.shape
  obtain ⟨a15, c16, rfl⟩ := r13.shape
  obtain ⟨a24, c25, rfl⟩ := r22.shape
  refine enter (args := [.slice a (List.length c) c1, .pointer (some ⟨b, 0, none⟩), .pointer (some ⟨b17, 0, none⟩), .pointer (some ⟨b26, 0, none⟩)]) 25 Try.func164 rfl rfl rfl ?_
  refine W_forget [(0, .slice a (List.length c) c1), (1, .pointer (some ⟨b, 0, none⟩)), (2, .pointer (some ⟨b17, 0, none⟩)), (3, .pointer (some ⟨b26, 0, none⟩))] ⟨rfl, rfl, rfl, rfl, trivial⟩ fun ρ => ?_
  have D : Dom (un hx (un hx21 (bx b26 24 [.slice a24 (List.length c19) c25]))) hx := (Dom.l _ _)
  have D42 : Dom (un hx (un hx21 (bx b26 24 [.slice a24 (List.length c19) c25]))) hx21 := (Dom.trans (Dom.r _ _) (Dom.l _ _))
  have D43 : Dom (un hx (un hx21 (bx b26 24 [.slice a24 (List.length c19) c25]))) (bx b26 24 [.slice a24 (List.length c19) c25]) := (Dom.trans (Dom.r _ _) (Dom.trans (Dom.r _ _) (Dom.refl _)))
  have X := But.refl (un hx (un hx21 (bx b26 24 [.slice a24 (List.length c19) c25]))) w
  refine W_seq ?_
  refine W_region ?_
  refine LP_ev ok 0 [(5, .bool false)] 1 rfl rfl ?_
  refine LP_end _ rfl ?_
  refine W_seq ?_
  refine W_seq ?_
  refine W_region ?_
  refine LP_ldbox 0 (v := .slice a7 (List.length c2) c8) rfl rfl rfl ti_24 ag_24 (fun _ => rfl) rfl ex9 rfl rfl ?_
  refine LP_ev ok 1 [(9, I (ln c2)), (10, I 0)] 3 rfl rfl ?_
  refine LP_end _ rfl ?_
  refine W_block ?_
  obtain ⟨J, m, Hx, H⟩ := H
  refine W_loop (S := Int) (fun s ρ' w' => J s ∧ ∃ (ρ : Env), ρ' = setAll [(0, .slice a (List.length c) c1), (2, .pointer (some ⟨b17, 0, none⟩)), (3, .pointer (some ⟨b26, 0, none⟩)), (8, .slice a7 (List.length c2) c8), (9, I (ln c2)), (10, I s)] ρ ∧ But (un hx (un hx21 (bx b26 24 [.slice a24 (List.length c19) c25]))) w w' ∧ Sub hx w' ∧ Sub hx4 w' ∧ Sub hx12 w' ∧ Sub (bx b17 24 [.slice a15 (List.length c10) c16]) w' ∧ Sub hx21 w' ∧ Sub (bx b26 24 [.slice a24 (List.length c19) c25]) w') (fun s => m s) 0 ⟨Hx, _, env_eq ⟨rfl, rfl, rfl, rfl, rfl, rfl, trivial⟩, X, ex, ex6, ex14, ex18, ex23, ex27⟩ ?_
  rintro x _ wx ⟨Hi, ρ, rfl, X50, ex44, ex45, ex46, ex47, ex48, ex49⟩
  have H := H x Hi
  refine W_seq ?_
  refine W_region ?_
  refine LP_ev ok 0 [(11, .bool (decide (x < (ln c2))))] 1 rfl rfl ?_
  refine LP_end _ rfl ?_
  refine W_seq ?_
  refine W_cond (decide (x < (ln c2))) rfl (fun hc => ?_) (fun hc => ?_)
  · have H := H.1 hc
    refine W_skip ?_
    refine W_seq ?_
    refine W_block ?_
    refine W_seq ?_
    refine W_region ?_
    obtain ⟨x51, hi, hx52, H⟩ := H
    refine LP_index 0 rfl rfl rfl Try.underlying24 ti_3 rfl rfl r5 hi hx52 fun a53 cs r54 d55 => ?_
    refine LP_load 1 rfl rfl rfl ti_3 ag_3 rfl r54 d55 ex45 fun vx56 r57 => ?_
    obtain rfl := r57.int
    refine LP_ev ok 2 [(7, I x51)] 3 rfl rfl ?_
    refine LP_end _ rfl ?_
    refine W_seq ?_
    refine W_quiet mix (by kernel_rfl) ?_
    refine QP_ev ok 0 [(14, .slice a (List.length c) c1), (15, I x51)] 2 rfl rfl ?_
    obtain ⟨x58, hi59, hx60, H⟩ := H
    refine QP_index 2 rfl rfl rfl Try.underlying24 ti_3 rfl rfl r.readf hi59 hx60 fun a61 cs62 r63 d64 => ?_
    refine QP_load 3 rfl rfl rfl ti_3 ag_3 rfl r63 d64 ex44 fun vx65 r66 => ?_
    obtain rfl := r66.int
    refine QP_ldbox 4 (v := .slice a15 (List.length c10) c16) rfl rfl rfl ti_24 ag_24 (fun _ => rfl) rfl ex47 rfl rfl ?_
    refine QP_ev ok 5 [(19, I x51)] 6 rfl rfl ?_
    obtain ⟨x67, hi68, hx69, H⟩ := H
    refine QP_index 6 rfl rfl rfl Try.underlying24 ti_3 rfl rfl r13 hi68 hx69 fun a70 cs71 r72 d73 => ?_
    refine QP_load 7 rfl rfl rfl ti_3 ag_3 rfl r72 d73 ex46 fun vx74 r75 => ?_
    obtain rfl := r75.int
    refine QP_ev ok 8 [(22, .bool (x58 != x67))] 9 rfl rfl ?_
    refine QP_end _ rfl fun wx76 x77 => ?_
    refine W_cond (x58 != x67) rfl (fun hc78 => ?_) (fun hc78 => ?_)
    · have H := H.1 hc78
      refine W_seq ?_
      refine W_region ?_
      refine LP_ev ok 0 [(5, .bool true)] 1 rfl rfl ?_
      refine LP_end _ rfl ?_
      refine W_ret ?_
      have ex79 := (ex48.ext x77)
      have ex80 := (ex49.ext x77)
      have X81 := (X50.stepx x77)
      exact ⟨_, Ret_of [.bool true] ⟨⟨rfl, rfl⟩, trivial⟩, _, _, _, _, H, rfl, X81, r22, ex79, (Dom.le D42 _), ex80, d29, cn⟩
    have H := H.2 hc78
    refine W_skip ?_
    refine W_region ?_
    refine LP_ev ok 0 [(23, I (wr (x + 1))), (10, I (wr (x + 1)))] 2 rfl rfl ?_
    refine LP_end _ rfl ?_
    have X82 := (X50.stepx x77)
    have ex83 := (ex44.ext x77)
    have ex84 := (ex45.ext x77)
    have ex85 := (ex46.ext x77)
    have ex86 := (ex47.ext x77)
    have ex87 := (ex48.ext x77)
    have ex88 := (ex49.ext x77)
    exact ⟨wr (x + 1), ⟨H.1, _, env_eq ⟨rfl, rfl, rfl, rfl, rfl, rfl, trivial⟩, X82, ex83, ex84, ex85, ex86, ex87, ex88⟩, H.2⟩
  have H := H.2 hc
  refine W_exit ?_
  refine (if_pos rfl).mpr ?_
  refine W_seq ?_
  refine W_region ?_
  refine LP_ev ok 0 [(24, .slice a (List.length c) c1)] 1 rfl rfl ?_
  refine LP_stbox 1 (vs := [.slice a (List.length c) c1]) (cs' := [.slice a (List.length c) c1]) rfl rfl rfl ti_24 rfl rfl rfl rfl rfl ex49 rfl rfl fun wx89 ex90 y => ?_
  refine LP_end _ rfl ?_
  refine W_seq ?_
  refine W_region ?_
  refine LP_ev ok 0 [(5, .bool false)] 1 rfl rfl ?_
  refine LP_end _ rfl ?_
  refine W_ret ?_
  have ex91 := (ex44.but y d28.symm)
  obtain ⟨hz, H⟩ := H
  have X92 := (X50.step y (Dom.le D43 _))
  exact ⟨_, Ret_of [.bool false] ⟨⟨rfl, rfl⟩, trivial⟩, _, _, _, _, H, rfl, X92, r, ex91, (Dom.le D _), ex90, (Dj.box d28.symm).symm, (can_of r.readf hz)⟩

set_option maxRecDepth 8000 in
set_option maxHeartbeats 4000000 in
theorem impl_passing_impl_completionOf_1_w (sx : List Variable) (l : List Edit) (c7 : List Int) (c15 : List Int) (c24 : List Int) (Q : (List Int) → Prop) (H : impl_passing_impl_completionOf_1 sx l c7 c15 c24 Q) (w : World) {vx : Value} {hx : PH} (r : RS hx vx sx) (ex : Sub hx w) {vx1 : Value} {hx2 : PH} (r3 : RS hx2 vx1 l) (ex4 : Sub hx2 w) {vx8 : Value} {hx9 : PH} (r10 : RS hx9 vx8 c7) (ex11 : Sub hx9 w) {b : Nat} (ex14 : Sub (bx b 24 [vx8]) w) {vx16 : Value} {hx17 : PH} (r18 : RS hx17 vx16 c15) (ex19 : Sub hx17 w) {b22 : Nat} (ex23 : Sub (bx b22 24 [vx16]) w) {vx25 : Value} {hx26 : PH} (r27 : OS 3 hx26 emp vx25 c24) (ex28 : Sub hx26 w) (cn : CanV vx25 c24) {b31 : Nat} (ex32 : Sub (bx b31 24 [vx25]) w) (d : Dj hx26 (bx b31 24 [vx25])) (d33 : Dj hx26 hx) (d34 : Dj hx26 hx2) (d35 : Dj hx26 hx9) (d36 : Dj hx26 (bx b 24 [vx8])) (d37 : Dj hx26 hx17) (d38 : Dj hx26 (bx b22 24 [vx16])) (d39 : Dj (bx b31 24 [vx25]) hx) (d40 : Dj (bx b31 24 [vx25]) hx2) (d41 : Dj (bx b31 24 [vx25]) hx9) (d42 : Dj (bx b31 24 [vx25]) (bx b 24 [vx8])) (d43 : Dj (bx b31 24 [vx25]) hx17) (d44 : Dj (bx b31 24 [vx25]) (bx b22 24 [vx16])) :
    CallsTo Try.prog 163 #[vx, vx1, .func (.func 164) #[] #[.pointer (some ⟨b, 0, none⟩), .pointer (some ⟨b22, 0, none⟩), .pointer (some ⟨b31, 0, none⟩)]] w fun v w' => ∃ m1 v1_ k1, Q m1 ∧ v = .tuple #[] ∧ But (un hx26 (bx b31 24 [vx25])) w w' ∧ OS 3 k1 emp v1_ m1 ∧ Sub k1 w' ∧ DomLe (un hx26 (bx b31 24 [vx25])) w.heap.size k1 ∧ Sub (bx b31 24 [v1_]) w' ∧ Dj k1 (bx b31 24 [v1_]) ∧ CanV v1_ m1 := by
  obtain ⟨a, c, rfl⟩ := r.shape
  obtain ⟨a5, c6, rfl⟩ := r3.shape
  obtain ⟨a12, c13, rfl⟩ := r10.shape
  obtain ⟨a20, c21, rfl⟩ := r18.shape
  obtain ⟨a29, c30, rfl⟩ := r27.shape
  refine enter (args := [.slice a (List.length sx) c, .slice a5 (List.length l) c6, .func (.func 164) #[] #[.pointer (some ⟨b, 0, none⟩), .pointer (some ⟨b22, 0, none⟩), .pointer (some ⟨b31, 0, none⟩)]]) 27 Try.func163 rfl rfl rfl ?_
  refine W_forget [(0, .slice a (List.length sx) c), (1, .slice a5 (List.length l) c6), (2, .func (.func 164) #[] #[.pointer (some ⟨b, 0, none⟩), .pointer (some ⟨b22, 0, none⟩), .pointer (some ⟨b31, 0, none⟩)])] ⟨rfl, rfl, rfl, trivial⟩ fun ρ => ?_
  have D : Dom (un hx26 (bx b31 24 [.slice a29 (List.length c24) c30])) hx26 := (Dom.l _ _)
  have D45 : Dom (un hx26 (bx b31 24 [.slice a29 (List.length c24) c30])) (bx b31 24 [.slice a29 (List.length c24) c30]) := (Dom.trans (Dom.r _ _) (Dom.refl _))
  have X := But.refl (un hx26 (bx b31 24 [.slice a29 (List.length c24) c30])) w
  refine W_seq ?_
  refine W_region ?_
  refine LP_ev ok 0 [(8, .slice a (List.length sx) c)] 1 rfl rfl ?_
  refine LP_call 1 rfl rfl rfl cal_99 rfl (impl_combinations_w _ _ H w r ex) ?_
  rintro _ wx ⟨r46, H, rfl, x⟩
  refine LP_ev ok 2 [(10, I 0)] 3 rfl rfl ?_
  refine LP_end _ rfl ?_
  refine W_block ?_
  have X71 := (X.stepx x)
  have ex72 := (ex28.ext x)
  have ex73 := (ex.ext x)
  have ex74 := (ex4.ext x)
  have ex75 := (ex11.ext x)
  have ex76 := (ex14.ext x)
  have ex77 := (ex19.ext x)
  have ex78 := (ex23.ext x)
  have ex79 := (ex32.ext x)
  obtain ⟨J, m, Hx, H⟩ := H
  refine W_loop (S := Int × (List Int)) (fun s ρ' w' => J s.1 s.2 ∧ ∃ (ρ : Env) (vx49 : Value) (hx50 : PH), ρ' = setAll [(0, .slice a (List.length sx) c), (1, .slice a5 (List.length l) c6), (2, .func (.func 164) #[] #[.pointer (some ⟨b, 0, none⟩), .pointer (some ⟨b22, 0, none⟩), .pointer (some ⟨b31, 0, none⟩)]), (9, I r46), (10, I s.1)] ρ ∧ But (un hx26 (bx b31 24 [.slice a29 (List.length c24) c30])) w w' ∧ OS 3 hx50 emp vx49 s.2 ∧ Sub hx50 w' ∧ DomLe (un hx26 (bx b31 24 [.slice a29 (List.length c24) c30])) w.heap.size hx50 ∧ Sub hx w' ∧ Sub hx2 w' ∧ Sub hx9 w' ∧ Sub (bx b 24 [.slice a12 (List.length c7) c13]) w' ∧ Sub hx17 w' ∧ Sub (bx b22 24 [.slice a20 (List.length c15) c21]) w' ∧ Sub (bx b31 24 [vx49]) w' ∧ Dj hx50 hx ∧ Dj hx50 hx2 ∧ Dj hx50 hx9 ∧ Dj hx50 (bx b 24 [.slice a12 (List.length c7) c13]) ∧ Dj hx50 hx17 ∧ Dj hx50 (bx b22 24 [.slice a20 (List.length c15) c21]) ∧ Dj hx50 (bx b31 24 [vx49]) ∧ CanV vx49 s.2) (fun s => m s.1 s.2) (0, c24) ⟨Hx, _, .slice a29 (List.length c24) c30, hx26, env_eq ⟨rfl, rfl, rfl, rfl, rfl, trivial⟩, X71, r27, ex72, (Dom.le D _), ex73, ex74, ex75, ex76, ex77, ex78, ex79, d33, d34, d35, d36, d37, d38, d, cn⟩ ?_
  rintro ⟨x47, x48⟩ _ wx52 ⟨Hi, ρ, vx49, hx50, rfl, X70, o, ex51, f, ex53, ex54, ex55, ex56, ex57, ex58, ex61, d62, d63, d64, d65, d66, d67, d68, cn69⟩
  have H := H x47 x48 Hi
  obtain ⟨a59, c60, rfl⟩ := o.shape
  refine W_seq ?_
  refine W_region ?_
  refine LP_ev ok 0 [(11, .bool (decide (x47 < r46)))] 1 rfl rfl ?_
  refine LP_end _ rfl ?_
  refine W_seq ?_
  refine W_cond (decide (x47 < r46)) rfl (fun hc => ?_) (fun hc => ?_)
  · have H := H.1 hc
    refine W_skip ?_
    refine W_seq ?_
    refine W_block ?_
    refine W_seq ?_
    refine W_region ?_
    refine LP_ev ok 0 [(12, I x47), (6, I x47)] 2 rfl rfl ?_
    refine LP_end _ rfl ?_
    refine W_seq ?_
    refine W_region ?_
    refine LP_ev ok 0 [(13, .slice a (List.length sx) c), (14, I x47)] 2 rfl rfl ?_
    refine LP_call 2 rfl rfl rfl cal_100 rfl (impl_valuesAt_w _ _ _ H wx52 r ex53) ?_
    rintro _ wx81 ⟨r80, vx83, hx84, H, rfl, x82, o85, ex86, f87⟩
    obtain ⟨a88, c89, rfl⟩ := o85.shape
    refine LP_ev ok 3 [(7, .slice a88 (List.length r80) c89)] 4 rfl rfl ?_
    refine LP_end _ rfl ?_
    obtain ⟨k, hk, H⟩ := jn_elim H
    refine W_join2 (S := Bool × (List Int)) (fun s ρ' w' => k s.1 s.2 ∧ ∃ (ρ : Env) (vx92 : Value) (hx93 : PH), ρ' = setAll [(0, .slice a (List.length sx) c), (1, .slice a5 (List.length l) c6), (2, .func (.func 164) #[] #[.pointer (some ⟨b, 0, none⟩), .pointer (some ⟨b22, 0, none⟩), .pointer (some ⟨b31, 0, none⟩)]), (9, I r46), (10, I x47), (25, .bool s.1)] ρ ∧ But (un hx26 (bx b31 24 [.slice a29 (List.length c24) c30])) w w' ∧ OS 3 hx93 emp vx92 s.2 ∧ Sub hx93 w' ∧ DomLe (un hx26 (bx b31 24 [.slice a29 (List.length c24) c30])) w.heap.size hx93 ∧ Sub hx w' ∧ Sub hx2 w' ∧ Sub hx9 w' ∧ Sub (bx b 24 [.slice a12 (List.length c7) c13]) w' ∧ Sub hx17 w' ∧ Sub (bx b22 24 [.slice a20 (List.length c15) c21]) w' ∧ Sub (bx b31 24 [vx92]) w' ∧ Dj hx93 hx ∧ Dj hx93 hx2 ∧ Dj hx93 hx9 ∧ Dj hx93 (bx b 24 [.slice a12 (List.length c7) c13]) ∧ Dj hx93 hx17 ∧ Dj hx93 (bx b22 24 [.slice a20 (List.length c15) c21]) ∧ Dj hx93 (bx b31 24 [vx92]) ∧ CanV vx92 s.2) ?_ ?_
    · refine W_region ?_
      refine LP_ev ok 0 [(16, .slice a5 (List.length l) c6), (17, .slice a88 (List.length r80) c89)] 2 rfl rfl ?_
      have ex117 := (ex54.ext x82)
      refine LP_call 2 rfl rfl rfl cal_102 rfl (impl_failsOne_w _ _ _ H wx81 r3 ex117 o85.readf ex86) ?_
      rintro _ wx118 ⟨r116, H, rfl, x119⟩
      refine LP_ev ok 3 [(19, .bool (!r116)), (20, .bool (!r116))] 5 rfl rfl ?_
      refine LP_split 20 (!r116) rfl (fun hc120 => ?_) (fun hc120 => ?_)
      · have H := H.1 hc120
        refine LP_ev ok 5 [(21, .func (.func 164) #[] #[.pointer (some ⟨b, 0, none⟩), .pointer (some ⟨b22, 0, none⟩), .pointer (some ⟨b31, 0, none⟩)]), (22, .slice a88 (List.length r80) c89)] 7 rfl rfl ?_
        have ex123 := (ex86.ext x119)
        have ex124 := ((ex55.ext x82).ext x119)
        have ex125 := ((ex56.ext x82).ext x119)
        have ex126 := ((ex57.ext x82).ext x119)
        have ex127 := ((ex58.ext x82).ext x119)
        have ex128 := ((ex51.ext x82).ext x119)
        have ex129 := ((ex61.ext x82).ext x119)
        refine LP_callc 7 rfl rfl rfl rfl cal_164 rfl rfl (impl_completionOf_1_w _ _ _ _ _ H wx118 o85 ex123 r10 ex124 ex125 r18 ex126 ex127 o ex128 cn69 ex129 (Dj.of_fresh ex51 f87).symm (Dj.of_fresh ex61 f87).symm d68 (Dj.of_fresh ex55 f87).symm (Dj.of_fresh ex56 f87).symm (Dj.of_fresh ex57 f87).symm (Dj.of_fresh ex58 f87).symm d64 d65 d66 d67 (Dj.box d41) (Dj.box d42) (Dj.box d43) (Dj.box d44)) ?_
        rintro _ wx130 ⟨r121, r122, vx135, hx132, H, rfl, x131, o133, ex134, dm, ex136, d137, cn138⟩
        obtain ⟨a139, c140, rfl⟩ := o133.shape
        refine LP_ev ok 8 [(24, .bool (!r121)), (25, .bool (!r121))] 10 rfl rfl ?_
        refine LP_end _ rfl ?_
        have f141 := f87.mono X70.size
        have X142 := (((X70.stepx x82).stepx x119).step x131 (DomLe.un (f141.dom _) (DomLe.un f (DomLe.dom D45 single_dom))))
        have X143 := ((X70.stepx x82).stepx x119)
        have ex144 := (((ex53.ext x82).ext x119).but x131 (Dj.un_l (Dj.of_fresh ex53 f87).symm (Dj.un_l d62 (Dj.box d39))))
        have ex145 := ((ex117.ext x119).but x131 (Dj.un_l (Dj.of_fresh ex54 f87).symm (Dj.un_l d63 (Dj.box d40))))
        have ex146 := (ex124.but x131 (Dj.un_l (Dj.of_fresh ex55 f87).symm (Dj.un_l d64 (Dj.box d41))))
        have ex147 := (ex125.but x131 (Dj.un_l (Dj.of_fresh ex56 f87).symm (Dj.un_l d65 (Dj.box d42))))
        have ex148 := (ex126.but x131 (Dj.un_l (Dj.of_fresh ex57 f87).symm (Dj.un_l d66 (Dj.box d43))))
        have ex149 := (ex127.but x131 (Dj.un_l (Dj.of_fresh ex58 f87).symm (Dj.un_l d67 (Dj.box d44))))
        have ex150 := ((ex53.ext x82).ext x119)
        have ex151 := (ex117.ext x119)
        exact ⟨(!r121, r122), H, _, .slice a139 (List.length r122) c140, hx132, env_eq ⟨rfl, rfl, rfl, rfl, rfl, rfl, trivial⟩, X142, o133, ex134, (DomLe.trans (DomLe.un (f141.dom _) (DomLe.un f (DomLe.dom D45 single_dom))) dm X143.size), ex144, ex145, ex146, ex147, ex148, ex149, ex136, (DomLe.dj dm (Dj.un_l (Dj.of_fresh ex53 f87).symm (Dj.un_l d62 (Dj.box d39))) ex150), (DomLe.dj dm (Dj.un_l (Dj.of_fresh ex54 f87).symm (Dj.un_l d63 (Dj.box d40))) ex151), (DomLe.dj dm (Dj.un_l (Dj.of_fresh ex55 f87).symm (Dj.un_l d64 (Dj.box d41))) ex124), (DomLe.dj dm (Dj.un_l (Dj.of_fresh ex56 f87).symm (Dj.un_l d65 (Dj.box d42))) ex125), (DomLe.dj dm (Dj.un_l (Dj.of_fresh ex57 f87).symm (Dj.un_l d66 (Dj.box d43))) ex126), (DomLe.dj dm (Dj.un_l (Dj.of_fresh ex58 f87).symm (Dj.un_l d67 (Dj.box d44))) ex127), d137, cn138⟩
      have H := H.2 hc120
      refine LP_ev ok 5 [(21, undef), (22, undef), (23, undef), (24, undef), (25, .bool false)] 10 rfl rfl ?_
      refine LP_end _ rfl ?_
      have X152 := ((X70.stepx x82).stepx x119)
      have ex153 := ((ex51.ext x82).ext x119)
      have ex154 := ((ex53.ext x82).ext x119)
      have ex155 := (ex117.ext x119)
      have ex156 := ((ex55.ext x82).ext x119)
      have ex157 := ((ex56.ext x82).ext x119)
      have ex158 := ((ex57.ext x82).ext x119)
      have ex159 := ((ex58.ext x82).ext x119)
      have ex160 := ((ex61.ext x82).ext x119)
      exact ⟨(false, x48), H, _, .slice a59 (List.length x48) c60, hx50, env_eq ⟨rfl, rfl, rfl, rfl, rfl, rfl, trivial⟩, X152, o, ex153, f, ex154, ex155, ex156, ex157, ex158, ex159, ex160, d62, d63, d64, d65, d66, d67, d68, cn69⟩
    rintro ⟨x90, x91⟩ _ wx97 ⟨H, ρ, vx92, hx93, rfl, X115, o94, ex95, f96, ex98, ex99, ex100, ex101, ex102, ex103, ex106, d107, d108, d109, d110, d111, d112, d113, cn114⟩
    subst hk
    obtain ⟨a104, c105, rfl⟩ := o94.shape
    refine W_cond (x90) rfl (fun hc161 => ?_) (fun hc161 => ?_)
    · have H := H.1 hc161
      refine W_ret ?_
      exact ⟨_, Ret_of [] trivial, _, _, _, H, rfl, X115, o94, ex95, f96, ex106, d113, cn114⟩
    have H := H.2 hc161
    refine W_skip ?_
    refine W_region ?_
    refine LP_ev ok 0 [(26, I (wr (x47 + 1))), (10, I (wr (x47 + 1)))] 2 rfl rfl ?_
    refine LP_end _ rfl ?_
    exact ⟨(wr (x47 + 1), x91), ⟨H.1, _, .slice a104 (List.length x91) c105, hx93, env_eq ⟨rfl, rfl, rfl, rfl, rfl, trivial⟩, X115, o94, ex95, f96, ex98, ex99, ex100, ex101, ex102, ex103, ex106, d107, d108, d109, d110, d111, d112, d113, cn114⟩, H.2⟩
  have H := H.2 hc
  refine W_exit ?_
  refine (if_pos rfl).mpr ?_
  exact ⟨_, Ret_of [] trivial, _, _, _, H, rfl, X70, o, ex51, f, ex61, d68, cn69⟩

set_option maxRecDepth 8000 in
set_option maxHeartbeats 4000000 in
theorem impl_completionOf_w (sx : List Variable) (l : List Edit) (fixed : List Int) (values : List Int) (Q : (List Int) → Prop) (H : impl_completionOf sx l fixed values Q) (w : World) {vx : Value} {hx : PH} (r : RS hx vx sx) (ex : Sub hx w) {vx1 : Value} {hx2 : PH} (r3 : RS hx2 vx1 l) (ex4 : Sub hx2 w) {vx7 : Value} {hx8 : PH} (r9 : RS hx8 vx7 fixed) (ex10 : Sub hx8 w) {vx13 : Value} {hx14 : PH} (r15 : RS hx14 vx13 values) (ex16 : Sub hx14 w) :
    CallsTo Try.prog 90 #[vx, vx1, vx7, vx13] w fun v w' => ∃ r0 u0 g0, Q r0 ∧ v = u0 ∧ Ext w w' ∧ OS 3 g0 emp u0 r0 ∧ Sub g0 w' ∧ Fresh w.heap.size g0 ∧ CanV u0 r0 := by
  obtain ⟨a, c, rfl⟩ := r.shape
  obtain ⟨a5, c6, rfl⟩ := r3.shape
  obtain ⟨a11, c12, rfl⟩ := r9.shape
  obtain ⟨a17, c18, rfl⟩ := r15.shape
  refine enter (args := [.slice a (List.length sx) c, .slice a5 (List.length l) c6, .slice a11 (List.length fixed) c12, .slice a17 (List.length values) c18]) 15 Try.func90 rfl rfl rfl ?_
  refine W_forget [(0, .slice a (List.length sx) c), (1, .slice a5 (List.length l) c6), (2, .slice a11 (List.length fixed) c12), (3, .slice a17 (List.length values) c18)] ⟨rfl, rfl, rfl, rfl, trivial⟩ fun ρ => ?_
  have X := But.refl emp w
  refine W_seq ?_
  refine W_region ?_
  refine LP_box 0 (cs := [.slice a11 (List.length fixed) c12]) rfl rfl rfl rfl rfl fun b wx x ex19 f => ?_
  refine LP_box 1 (cs := [.slice a17 (List.length values) c18]) rfl rfl rfl rfl rfl fun b20 wx21 x22 ex23 f24 => ?_
  refine LP_ev ok 2 [(8, .slice none 0 0)] 3 rfl rfl ?_
  refine LP_end _ rfl ?_
  refine W_seq ?_
  refine W_region ?_
  refine LP_alloc 0 rfl rfl rfl ti_24 rfl fun b25 wx26 x27 ex28 f29 => ?_
  refine LP_end _ rfl ?_
  refine W_seq ?_
  refine W_region ?_
  refine LP_ev ok 0 [(10, .slice a (List.length sx) c), (11, .slice a5 (List.length l) c6), (12, .func (.func 164) #[] #[.pointer (some ⟨b, 0, none⟩), .pointer (some ⟨b20, 0, none⟩), .pointer (some ⟨b25, 0, none⟩)])] 3 rfl rfl ?_
  have ex30 := ((ex.ext x).ext x22)
  have ex31 := ((ex4.ext x).ext x22)
  have ex32 := ((ex10.ext x).ext x22)
  have ex33 := (ex19.ext x22)
  have ex34 := ((ex16.ext x).ext x22)
  have ex36 := (ex30.ext x27)
  have ex37 := (ex31.ext x27)
  have ex38 := (ex32.ext x27)
  have ex39 := (ex33.ext x27)
  have ex40 := (ex34.ext x27)
  have ex41 := (ex23.ext x27)
  refine LP_call 3 rfl rfl rfl cal_163 rfl (impl_passing_impl_completionOf_1_w _ _ _ _ _ _ H wx26 r ex36 r3 ex37 r9 ex38 ex39 r15 ex40 ex41 (OS.nil (E := 3) (g := emp)) (emp_sub _) CanV.nil ex28 (Dj.emp_l _) (Dj.emp_l _) (Dj.emp_l _) (Dj.emp_l _) (Dj.emp_l _) (Dj.emp_l _) (Dj.emp_l _) (Dj.of_fresh ex30 f29).symm (Dj.of_fresh ex31 f29).symm (Dj.of_fresh ex32 f29).symm (Dj.of_fresh ex33 f29).symm (Dj.of_fresh ex34 f29).symm (Dj.of_fresh ex23 f29).symm) ?_
  rintro _ wx42 ⟨r35, vx46, hx44, H, rfl, x43, o, ex45, dm, ex47, d, cn⟩
  obtain ⟨a48, c49, rfl⟩ := o.shape
  refine LP_end _ rfl ?_
  refine W_seq ?_
  refine W_region ?_
  refine LP_ldbox 0 (v := .slice a48 (List.length r35) c49) rfl rfl rfl ti_24 ag_24 (fun _ => rfl) rfl ex47 rfl rfl ?_
  refine LP_ev ok 1 [(8, .slice a48 (List.length r35) c49)] 2 rfl rfl ?_
  refine LP_end _ rfl ?_
  refine W_ret ?_
  have X51 := ((X.stepx x).stepx x22)
  have f50 := f29.mono X51.size
  have X53 := (X51.stepx x27)
  have f52 := DomLe.fresh dm (Fresh.un (emp_fresh _) f50) X53.size
  have X54 := (X53.step x43 (DomLe.un (fun _ _ _ => rfl) (f50.dom _)))
  exact ⟨_, Ret_of [.slice a48 (List.length r35) c49] ⟨⟨rfl, rfl⟩, trivial⟩, _, _, _, H, rfl, X54.ext, o, ex45, f52, cn⟩

end Go.Proofs.Ytdnpmgofkbjigaa
