/- The walks: each Go function does what its meaning says. -/
import Derived.Test.YtdaojggigfnnpaaLDefs
import Derived.Test.YtdaojggigfnnpaaProg
import Derived.KernelRfl
set_option linter.unusedVariables false
set_option autoImplicit false
namespace Go.Proofs.Ytdaojggigfnnpaa
open Go Go.RowKit Go.Gv

open Go.Proofs
set_option maxRecDepth 8000
set_option maxHeartbeats 4000000
def ty : Ty := Ty.of [(3, .int .i64), (4, .bool), (5, .int .u8), (9, .string), (22, .slice 5), (24, .slice 167), (25, .slice 33), (31, .slice 3), (50, .slice 31), (97, .int .u64), (146, .int .u64), (153, .map 3 4), (155, .slice 4), (197, .slice 9)] [((33, 0), 0), ((99, 0), 0), ((99, 1), 1), ((99, 2), 2), ((162, 0), 0), ((162, 1), 1), ((162, 2), 2), ((162, 3), 3), ((167, 0), 0), ((167, 1), 1)] [(33, [.slice none 0 0], [(0, 1)]), (99, [.slice none 0 0, .int .i64 0, .int .u64 0], [(0, 1), (1, 1), (2, 1)]), (162, [.slice none 0 0, .slice none 0 0, .int .i64 0, .slice none 0 0], [(0, 1), (1, 1), (2, 1), (3, 1)]), (167, [.string ⟨#[]⟩, .int .i64 0], [(0, 1), (1, 1)])]
theorem fa33_0 : FldOk Try.prog 33 0 0 := fun _ _ => by kernel_rfl
theorem fa99_0 : FldOk Try.prog 99 0 0 := fun _ _ => by kernel_rfl
theorem fa99_1 : FldOk Try.prog 99 1 1 := fun _ _ => by kernel_rfl
theorem fa99_2 : FldOk Try.prog 99 2 2 := fun _ _ => by kernel_rfl
theorem fa162_0 : FldOk Try.prog 162 0 0 := fun _ _ => by kernel_rfl
theorem fa162_1 : FldOk Try.prog 162 1 1 := fun _ _ => by kernel_rfl
theorem fa162_2 : FldOk Try.prog 162 2 2 := fun _ _ => by kernel_rfl
theorem fa162_3 : FldOk Try.prog 162 3 3 := fun _ _ => by kernel_rfl
theorem fa167_0 : FldOk Try.prog 167 0 0 := fun _ _ => by kernel_rfl
theorem fa167_1 : FldOk Try.prog 167 1 1 := fun _ _ => by kernel_rfl
theorem so33 : StrOk Try.prog 33 [.slice none 0 0] [(0, 1)] := StrOk.of (zc := #[.slice none 0 0]) Try.underlying33 (fun _ => by kernel_rfl) rfl (fun _ => by kernel_rfl)
theorem so99 : StrOk Try.prog 99 [.slice none 0 0, .int .i64 0, .int .u64 0] [(0, 1), (1, 1), (2, 1)] := StrOk.of (zc := #[.slice none 0 0, .int .i64 0, .int .u64 0]) Try.underlying99 (fun _ => by kernel_rfl) rfl (fun _ => by kernel_rfl)
theorem so162 : StrOk Try.prog 162 [.slice none 0 0, .slice none 0 0, .int .i64 0, .slice none 0 0] [(0, 1), (1, 1), (2, 1), (3, 1)] := StrOk.of (zc := #[.slice none 0 0, .slice none 0 0, .int .i64 0, .slice none 0 0]) Try.underlying162 (fun _ => by kernel_rfl) rfl (fun _ => by kernel_rfl)
theorem so167 : StrOk Try.prog 167 [.string ⟨#[]⟩, .int .i64 0] [(0, 1), (1, 1)] := StrOk.of (zc := #[.string ⟨#[]⟩, .int .i64 0]) Try.underlying167 (fun _ => by kernel_rfl) rfl (fun _ => by kernel_rfl)
theorem ok : TyOk Try.prog ty := .of ⟨Try.underlying3, Try.underlying4, Try.underlying5, Try.underlying9, Try.underlying22, Try.underlying24, Try.underlying25, Try.underlying31, Try.underlying50, Try.underlying97, Try.underlying146, Try.underlying153, Try.underlying155, Try.underlying197, trivial⟩ ⟨fa33_0, fa99_0, fa99_1, fa99_2, fa162_0, fa162_1, fa162_2, fa162_3, fa167_0, fa167_1, trivial⟩ ⟨so33, so99, so162, so167, trivial⟩
theorem ti_3 : TyI Try.prog 3 1 8 (.int .i64 0) := .mk' (by kernel_rfl) rfl
theorem ti_4 : TyI Try.prog 4 1 1 (.bool false) := .mk' (by kernel_rfl) rfl
theorem ti_5 : TyI Try.prog 5 1 1 (.int .u8 0) := .mk' (by kernel_rfl) rfl
theorem ti_9 : TyI Try.prog 9 1 16 (.string ⟨#[]⟩) := .mk' (by kernel_rfl) rfl
theorem ti_22 : TyI Try.prog 22 1 24 (.slice none 0 0) := .mk' (by kernel_rfl) rfl
theorem ti_24 : TyI Try.prog 24 1 24 (.slice none 0 0) := .mk' (by kernel_rfl) rfl
theorem ti_25 : TyI Try.prog 25 1 24 (.slice none 0 0) := .mk' (by kernel_rfl) rfl
theorem ti_31 : TyI Try.prog 31 1 24 (.slice none 0 0) := .mk' (by kernel_rfl) rfl
theorem ti_33 : TyI Try.prog 33 1 24 (.agg #[.slice none 0 0]) := .mk' (by kernel_rfl) rfl
theorem ti_50 : TyI Try.prog 50 1 24 (.slice none 0 0) := .mk' (by kernel_rfl) rfl
theorem ti_97 : TyI Try.prog 97 1 8 (.int .u64 0) := .mk' (by kernel_rfl) rfl
theorem ti_153 : TyI Try.prog 153 1 8 (.map none) := .mk' (by kernel_rfl) rfl
theorem ti_167 : TyI Try.prog 167 2 24 (.agg #[.string ⟨#[]⟩, .int .i64 0]) := .mk' (by kernel_rfl) rfl
theorem ag_3 : AggT Try.prog 3 false := ⟨_, Try.underlying3, by simp⟩
theorem ag_4 : AggT Try.prog 4 false := ⟨_, Try.underlying4, by simp⟩
theorem ag_5 : AggT Try.prog 5 false := ⟨_, Try.underlying5, by simp⟩
theorem ag_9 : AggT Try.prog 9 false := ⟨_, Try.underlying9, by simp⟩
theorem ag_22 : AggT Try.prog 22 false := ⟨_, Try.underlying22, by simp⟩
theorem ag_24 : AggT Try.prog 24 false := ⟨_, Try.underlying24, by simp⟩
theorem ag_25 : AggT Try.prog 25 false := ⟨_, Try.underlying25, by simp⟩
theorem ag_31 : AggT Try.prog 31 false := ⟨_, Try.underlying31, by simp⟩
theorem ag_33 : AggT Try.prog 33 true := ⟨_, Try.underlying33, by simp⟩
theorem ag_50 : AggT Try.prog 50 false := ⟨_, Try.underlying50, by simp⟩
theorem ag_97 : AggT Try.prog 97 false := ⟨_, Try.underlying97, by simp⟩
theorem ag_153 : AggT Try.prog 153 false := ⟨_, Try.underlying153, by simp⟩
theorem ag_167 : AggT Try.prog 167 true := ⟨_, Try.underlying167, by simp⟩
theorem mix : Try.prog.follows .mixedOrders = true := by kernel_rfl
theorem cal_10 : Callable Try.prog 10 := .mk Try.func10 rfl (by decide)
theorem cal_14 : Callable Try.prog 14 := .mk Try.func14 rfl (by decide)
theorem cal_19 : Callable Try.prog 19 := .mk Try.func19 rfl (by decide)
theorem cal_50 : Callable Try.prog 50 := .mk Try.func50 rfl (by decide)
theorem cal_51 : Callable Try.prog 51 := .mk Try.func51 rfl (by decide)
theorem cal_52 : Callable Try.prog 52 := .mk Try.func52 rfl (by decide)
theorem cal_53 : Callable Try.prog 53 := .mk Try.func53 rfl (by decide)
theorem cal_54 : Callable Try.prog 54 := .mk Try.func54 rfl (by decide)
theorem cal_55 : Callable Try.prog 55 := .mk Try.func55 rfl (by decide)
theorem cal_56 : Callable Try.prog 56 := .mk Try.func56 rfl (by decide)
theorem cal_57 : Callable Try.prog 57 := .mk Try.func57 rfl (by decide)
theorem cal_58 : Callable Try.prog 58 := .mk Try.func58 rfl (by decide)
theorem cal_59 : Callable Try.prog 59 := .mk Try.func59 rfl (by decide)
theorem cal_60 : Callable Try.prog 60 := .mk Try.func60 rfl (by decide)
theorem cal_61 : Callable Try.prog 61 := .mk Try.func61 rfl (by decide)
theorem cal_62 : Callable Try.prog 62 := .mk Try.func62 rfl (by decide)
theorem cal_63 : Callable Try.prog 63 := .mk Try.func63 rfl (by decide)
theorem cal_64 : Callable Try.prog 64 := .mk Try.func64 rfl (by decide)
theorem cal_65 : Callable Try.prog 65 := .mk Try.func65 rfl (by decide)
theorem cal_66 : Callable Try.prog 66 := .mk Try.func66 rfl (by decide)
theorem cal_67 : Callable Try.prog 67 := .mk Try.func67 rfl (by decide)
theorem cal_68 : Callable Try.prog 68 := .mk Try.func68 rfl (by decide)
theorem cal_69 : Callable Try.prog 69 := .mk Try.func69 rfl (by decide)
theorem cal_70 : Callable Try.prog 70 := .mk Try.func70 rfl (by decide)
theorem cal_71 : Callable Try.prog 71 := .mk Try.func71 rfl (by decide)
theorem cal_73 : Callable Try.prog 73 := .mk Try.func73 rfl (by decide)
theorem cal_74 : Callable Try.prog 74 := .mk Try.func74 rfl (by decide)
theorem cal_75 : Callable Try.prog 75 := .mk Try.func75 rfl (by decide)
theorem cal_77 : Callable Try.prog 77 := .mk Try.func77 rfl (by decide)
theorem cal_120 : Callable Try.prog 120 := .mk Try.func120 rfl (by decide)
theorem cal_121 : Callable Try.prog 121 := .mk Try.func121 rfl (by decide)
theorem cal_122 : Callable Try.prog 122 := .mk Try.func122 rfl (by decide)
theorem cal_123 : Callable Try.prog 123 := .mk Try.func123 rfl (by decide)
theorem cal_124 : Callable Try.prog 124 := .mk Try.func124 rfl (by decide)
theorem cal_125 : Callable Try.prog 125 := .mk Try.func125 rfl (by decide)
theorem cal_126 : Callable Try.prog 126 := .mk Try.func126 rfl (by decide)
theorem cal_127 : Callable Try.prog 127 := .mk Try.func127 rfl (by decide)
theorem cal_128 : Callable Try.prog 128 := .mk Try.func128 rfl (by decide)
theorem cal_129 : Callable Try.prog 129 := .mk Try.func129 rfl (by decide)
theorem cal_130 : Callable Try.prog 130 := .mk Try.func130 rfl (by decide)
theorem cal_131 : Callable Try.prog 131 := .mk Try.func131 rfl (by decide)
theorem cal_132 : Callable Try.prog 132 := .mk Try.func132 rfl (by decide)
theorem cal_133 : Callable Try.prog 133 := .mk Try.func133 rfl (by decide)
theorem cal_134 : Callable Try.prog 134 := .mk Try.func134 rfl (by decide)
theorem cal_135 : Callable Try.prog 135 := .mk Try.func135 rfl (by decide)
theorem cal_136 : Callable Try.prog 136 := .mk Try.func136 rfl (by decide)
theorem cal_137 : Callable Try.prog 137 := .mk Try.func137 rfl (by decide)
theorem cal_138 : Callable Try.prog 138 := .mk Try.func138 rfl (by decide)
theorem cal_139 : Callable Try.prog 139 := .mk Try.func139 rfl (by decide)
theorem cal_140 : Callable Try.prog 140 := .mk Try.func140 rfl (by decide)
theorem cal_141 : Callable Try.prog 141 := .mk Try.func141 rfl (by decide)
theorem cal_142 : Callable Try.prog 142 := .mk Try.func142 rfl (by decide)
theorem cal_143 : Callable Try.prog 143 := .mk Try.func143 rfl (by decide)
theorem cal_144 : Callable Try.prog 144 := .mk Try.func144 rfl (by decide)
theorem cal_145 : Callable Try.prog 145 := .mk Try.func145 rfl (by decide)
theorem cal_146 : Callable Try.prog 146 := .mk Try.func146 rfl (by decide)
theorem cal_147 : Callable Try.prog 147 := .mk Try.func147 rfl (by decide)
theorem cal_148 : Callable Try.prog 148 := .mk Try.func148 rfl (by decide)
theorem cal_149 : Callable Try.prog 149 := .mk Try.func149 rfl (by decide)
theorem cal_180 : Callable Try.prog 180 := .mk Try.func180 rfl (by decide)
theorem cal_183 : Callable Try.prog 183 := .mk Try.func183 rfl (by decide)
theorem cal_186 : Callable Try.prog 186 := .mk Try.func186 rfl (by decide)
theorem cal_187 : Callable Try.prog 187 := .mk Try.func187 rfl (by decide)
theorem cal_188 : Callable Try.prog 188 := .mk Try.func188 rfl (by decide)
theorem cal_189 : Callable Try.prog 189 := .mk Try.func189 rfl (by decide)
theorem cal_190 : Callable Try.prog 190 := .mk Try.func190 rfl (by decide)
theorem cal_191 : Callable Try.prog 191 := .mk Try.func191 rfl (by decide)
theorem cal_192 : Callable Try.prog 192 := .mk Try.func192 rfl (by decide)
theorem cal_193 : Callable Try.prog 193 := .mk Try.func193 rfl (by decide)
theorem cal_194 : Callable Try.prog 194 := .mk Try.func194 rfl (by decide)
theorem cal_195 : Callable Try.prog 195 := .mk Try.func195 rfl (by decide)
theorem cal_196 : Callable Try.prog 196 := .mk Try.func196 rfl (by decide)
theorem cal_197 : Callable Try.prog 197 := .mk Try.func197 rfl (by decide)
theorem cal_198 : Callable Try.prog 198 := .mk Try.func198 rfl (by decide)
theorem cal_199 : Callable Try.prog 199 := .mk Try.func199 rfl (by decide)
theorem cal_200 : Callable Try.prog 200 := .mk Try.func200 rfl (by decide)
theorem cal_201 : Callable Try.prog 201 := .mk Try.func201 rfl (by decide)
theorem cal_202 : Callable Try.prog 202 := .mk Try.func202 rfl (by decide)
theorem cal_203 : Callable Try.prog 203 := .mk Try.func203 rfl (by decide)
theorem cal_204 : Callable Try.prog 204 := .mk Try.func204 rfl (by decide)
theorem cal_205 : Callable Try.prog 205 := .mk Try.func205 rfl (by decide)
theorem cal_223 : Callable Try.prog 223 := .mk Try.func223 rfl (by decide)
theorem cal_224 : Callable Try.prog 224 := .mk Try.func224 rfl (by decide)
theorem cal_225 : Callable Try.prog 225 := .mk Try.func225 rfl (by decide)
theorem cal_233 : Callable Try.prog 233 := .mk Try.func233 rfl (by decide)

theorem laws_big_w (code : List B8) (more : List B8) (Q : Bool → Prop) (H : laws_big code more Q) (w : World) {vx : Value} {hx : PH} (r : RS hx vx code) (ex : Sub hx w) {vx1 : Value} {hx2 : PH} (r3 : RS hx2 vx1 more) (ex4 : Sub hx2 w) :
  CallsTo Try.prog 10 #[vx, vx1] w fun v w' => ∃ r0, Q r0 ∧ v = .bool r0 ∧ Ext w w' := by
 obtain ⟨a, c, rfl⟩ := r.shape
 obtain ⟨a5, c6, rfl⟩ := r3.shape
 refine enter (args := [sl a code c, sl a5 more c6]) 16 Try.func10 rfl rfl rfl ?_
 refine W_forget [(0, sl a code c), (1, sl a5 more c6)] ⟨rfl, rfl, trivial⟩ fun ρ => ?_
 have X := But.refl emp w
 refine W_seq (W_region ?_)
 refine LP_ev ok 0 [(4, .bool false)] 1 rfl rfl ?_
 refine LP_end _ rfl ?_
 obtain ⟨k, hk, H⟩ := jn_elim H
 refine W_join2 (S := Bool) (fun s ρ' w' => k s ∧ ∃ (ρ : Env), ρ' = setAll [(4, .bool s)] ρ ∧ w = w') ?_ ?_
 ·refine W_region ?_
  refine LP_ev ok 0 [(5, sl a code c), (6, I (ln code)), (7, .bool (decide ((ln code) > 1048576))), (8, .bool (decide ((ln code) > 1048576)))] 4 rfl rfl ?_
  refine LP_split 8 (decide ((ln code) > 1048576)) rfl (fun hc => ?_) (fun hc => ?_)
  ·have H := H.1 hc
   refine LP_ev ok 4 [(9, undef), (10, undef), (11, undef), (12, undef), (13, undef), (14, undef), (15, .bool true), (4, .bool true)] 12 rfl rfl ?_
   exact LP_end _ rfl ⟨true, H, _, env_eq ⟨rfl, trivial⟩, rfl⟩
  have H := H.2 hc
  refine LP_ev ok 4 [(9, sl a5 more c6), (10, I (ln more)), (11, sl a code c), (12, I (ln code)), (13, I (wr (1048576 - (ln code)))), (14, .bool (decide ((ln more) > (wr (1048576 - (ln code)))))), (15, .bool (decide ((ln more) > (wr (1048576 - (ln code)))))), (4, .bool (decide ((ln more) > (wr (1048576 - (ln code))))))] 12 rfl rfl ?_
  exact LP_end _ rfl ⟨decide ((ln more) > (wr (1048576 - (ln code)))), H, _, env_eq ⟨rfl, trivial⟩, rfl⟩
 rintro x _ _ ⟨H, ρ, rfl, rfl⟩
 subst hk
 refine W_ret ?_
 exact ⟨_, Ret_of [.bool x] ⟨⟨rfl, rfl⟩, trivial⟩, _, H, rfl, X.ext⟩

theorem spec_l1Cur_next_w (c : L1Cur) (Q : Int → Int → Int → Prop) (H : spec_l1Cur_next c Q) (w : World) {vx : Value} {hx : PH} (r : RS hx vx c.Code) (ex : Sub hx w) {b : Nat} (ex2 : Sub (bx b 99 [vx, I c.At, .int .u64 c.Seed]) w) (d : Dj (bx b 99 [vx, I c.At, .int .u64 c.Seed]) hx) :
  CallsTo Try.prog 148 #[pb b] w fun v w' => ∃ r0 m1_0 m1_1, Q r0 m1_0 m1_1 ∧ v = I r0 ∧ But (bx b 99 [vx, I c.At, .int .u64 c.Seed]) w w' ∧ Sub (bx b 99 [vx, I m1_0, .int .u64 m1_1]) w' := by
 obtain ⟨a, c1, rfl⟩ := r.shape
 refine enter (args := [pb b]) 62 Try.func148 rfl rfl rfl ?_
 refine W_forget [(0, pb b)] ⟨rfl, trivial⟩ fun ρ => ?_
 have D : Dom (bx b 99 [sl a c.Code c1, I c.At, .int .u64 c.Seed]) (bx b 99 [sl a c.Code c1, I c.At, .int .u64 c.Seed]) := (Dom.refl _)
 have X := But.refl (bx b 99 [sl a c.Code c1, I c.At, .int .u64 c.Seed]) w
 refine W_seq (W_region ?_)
 refine LP_ev ok 0 [(2, I 0)] 1 rfl rfl ?_
 refine LP_end _ rfl (W_seq (W_region ?_))
 refine LP_ev ok 0 [(3, I 0)] 1 rfl rfl ?_
 refine LP_end _ rfl ?_
 obtain ⟨k, hk, H⟩ := jn_elim H
 refine W_join2 (S := Int) (fun s ρ' w' => k s ∧ ∃ (ρ : Env), ρ' = setAll [(0, pb b), (3, I s)] ρ ∧ But (bx b 99 [sl a c.Code c1, I c.At, .int .u64 c.Seed]) w w' ∧ Sub hx w' ∧ Sub (bx b 99 [sl a c.Code c1, I c.At, .int .u64 c.Seed]) w') ?_ ?_
 ·refine W_seq ?_
  refine W_quiet mix (by kernel_rfl) ?_
  refine QP_ev ok 0 [(4, pb b), (5, pb b), (6, .pointer (some ⟨b, 1, none⟩))] 3 rfl rfl ?_
  refine QP_ldbox 3 (v := I c.At) rfl rfl rfl ti_3 ag_3 (fun _ => rfl) rfl ex2 rfl rfl ?_
  refine QP_ev ok 4 [(8, pb b), (9, pb b), (10, pb b)] 7 rfl rfl ?_
  refine QP_ldbox 7 (v := sl a c.Code c1) rfl rfl rfl ti_22 ag_22 (fun _ => rfl) rfl ex2 rfl rfl ?_
  refine QP_ev ok 8 [(12, I (ln c.Code)), (13, .bool (decide (c.At < (ln c.Code))))] 10 rfl rfl ?_
  refine QP_end _ rfl fun wx7 x => ?_
  refine W_cond (decide (c.At < (ln c.Code))) rfl (fun hc => ?_) (fun hc => ?_)
  ·have H := H.1 hc
   refine W_quiet mix (by kernel_rfl) ?_
   refine QP_ev ok 0 [(14, pb b), (15, pb b), (16, pb b)] 3 rfl rfl ?_
   have ex8 := (ex2.ext x)
   refine QP_ldbox 3 (v := sl a c.Code c1) rfl rfl rfl ti_22 ag_22 (fun _ => rfl) rfl ex8 rfl rfl ?_
   refine QP_ev ok 4 [(18, pb b), (19, pb b), (20, .pointer (some ⟨b, 1, none⟩))] 7 rfl rfl ?_
   refine QP_ldbox 7 (v := I c.At) rfl rfl rfl ti_3 ag_3 (fun _ => rfl) rfl ex8 rfl rfl ?_
   obtain ⟨x9, hi, hx10, H⟩ := H
   refine QP_index 8 rfl rfl rfl Try.underlying22 ti_5 rfl rfl r hi hx10 fun a11 cs r12 d13 => ?_
   have ex14 := (ex.ext x)
   refine QP_load 9 rfl rfl rfl ti_5 ag_5 rfl r12 d13 ex14 fun vx15 r16 => ?_
   obtain rfl := r16.b8
   refine QP_ev ok 10 [(24, I (wr (x9.v))), (3, I (wr (x9.v)))] 12 rfl rfl ?_
   refine QP_end _ rfl fun wx17 x18 => ?_
   exact ⟨wr (x9.v), H, _, env_eq ⟨rfl, rfl, trivial⟩, (X.stepx (x.trans x18)), (ex14.ext x18), (ex8.ext x18)⟩
  have H := H.2 hc
  exact W_skip ⟨0, H, _, env_eq ⟨rfl, rfl, trivial⟩, (X.stepx x), (ex.ext x), (ex2.ext x)⟩
 rintro b3 _ wx ⟨H, ρ, rfl, X6, ex4, ex5⟩
 subst hk
 refine W_seq (W_region ?_)
 refine LP_ev ok 0 [(25, pb b), (26, pb b), (27, .pointer (some ⟨b, 1, none⟩))] 3 rfl rfl ?_
 refine LP_ldbox 3 (v := I c.At) rfl rfl rfl ti_3 ag_3 (fun _ => rfl) rfl ex5 rfl rfl ?_
 refine LP_ev ok 4 [(29, I (wr (c.At + 1))), (30, pb b), (31, .pointer (some ⟨b, 1, none⟩))] 7 rfl rfl ?_
 refine LP_stbox 7 (vs := [I (wr (c.At + 1))]) (cs' := [sl a c.Code c1, I (wr (c.At + 1)), .int .u64 c.Seed]) rfl rfl rfl ti_3 rfl rfl rfl rfl rfl ex5 rfl rfl fun wx25 ex26 y => ?_
 refine LP_end _ rfl (W_seq (W_region ?_))
 refine LP_ev ok 0 [(32, pb b), (33, pb b), (34, pb b), (35, .pointer (some ⟨b, 2, none⟩))] 4 rfl rfl ?_
 refine LP_ldbox 4 (v := .int .u64 c.Seed) rfl rfl rfl ti_97 ag_97 (fun _ => rfl) rfl ex26 rfl rfl ?_
 refine LP_ev ok 5 [(37, .int .u64 (IntKind.u64.wrap (c.Seed * 6364136223846793005))), (38, I b3), (39, .int .u64 (IntKind.u64.wrap (b3))), (40, .int .u64 (IntKind.u64.wrap ((IntKind.u64.wrap (c.Seed * 6364136223846793005)) + (IntKind.u64.wrap (b3))))), (41, .int .u64 (IntKind.u64.wrap ((IntKind.u64.wrap ((IntKind.u64.wrap (c.Seed * 6364136223846793005)) + (IntKind.u64.wrap (b3)))) + 1442695040888963407))), (42, pb b), (43, .pointer (some ⟨b, 2, none⟩))] 12 rfl rfl ?_
 refine LP_stbox 12 (vs := [.int .u64 (IntKind.u64.wrap ((IntKind.u64.wrap ((IntKind.u64.wrap (c.Seed * 6364136223846793005)) + (IntKind.u64.wrap (b3)))) + 1442695040888963407))]) (cs' := [sl a c.Code c1, I (wr (c.At + 1)), .int .u64 (IntKind.u64.wrap ((IntKind.u64.wrap ((IntKind.u64.wrap (c.Seed * 6364136223846793005)) + (IntKind.u64.wrap (b3)))) + 1442695040888963407))]) rfl rfl rfl ti_97 rfl rfl rfl rfl rfl ex26 rfl rfl fun wx27 ex28 y29 => ?_
 refine LP_end _ rfl (W_seq ?_)
 refine W_seq ?_
 refine W_quiet mix (by kernel_rfl) ?_
 refine QP_ev ok 0 [(44, pb b), (45, pb b), (46, .pointer (some ⟨b, 1, none⟩))] 3 rfl rfl ?_
 refine QP_ldbox 3 (v := I (wr (c.At + 1))) rfl rfl rfl ti_3 ag_3 (fun _ => rfl) rfl ex28 rfl rfl ?_
 refine QP_ev ok 4 [(48, pb b), (49, pb b), (50, pb b)] 7 rfl rfl ?_
 refine QP_ldbox 7 (v := sl a c.Code c1) rfl rfl rfl ti_22 ag_22 (fun _ => rfl) rfl ex28 rfl rfl ?_
 refine QP_ev ok 8 [(52, I (ln c.Code)), (53, .bool (decide ((wr (c.At + 1)) ≤ (ln c.Code))))] 10 rfl rfl ?_
 refine QP_end _ rfl fun wx30 x31 => ?_
 try refine W_forget [(0, pb b), (3, I b3), (53, .bool (decide ((wr (c.At + 1)) ≤ (ln c.Code))))] ⟨rfl, rfl, rfl, trivial⟩ fun ρ => ?_
 refine W_cond (decide ((wr (c.At + 1)) ≤ (ln c.Code))) rfl (fun hc32 => ?_) (fun hc32 => ?_)
 ·have H := H.1 hc32
  refine W_seq (W_region ?_)
  refine LP_ev ok 0 [(54, I b3), (2, I b3)] 2 rfl rfl ?_
  refine LP_end _ rfl (W_ret ?_)
  exact ⟨_, Ret_of [I b3] ⟨⟨rfl, rfl⟩, trivial⟩, _, _, _, H, rfl, (((X6.step y (Dom.le D _)).step y29 (DomLe.dom D single_dom)).stepx x31), (ex28.ext x31)⟩
 have H := H.2 hc32
 refine W_skip ?_
 refine W_seq (W_region ?_)
 refine LP_ev ok 0 [(55, pb b), (56, pb b), (57, .pointer (some ⟨b, 2, none⟩))] 3 rfl rfl ?_
 have ex35 := (ex28.ext x31)
 refine LP_ldbox 3 (v := .int .u64 (IntKind.u64.wrap ((IntKind.u64.wrap ((IntKind.u64.wrap (c.Seed * 6364136223846793005)) + (IntKind.u64.wrap (b3)))) + 1442695040888963407))) rfl rfl rfl ti_97 ag_97 (fun _ => rfl) rfl ex35 rfl rfl ?_
 refine LP_ev ok 4 [(59, .int .u64 (Int.fdiv (IntKind.u64.wrap ((IntKind.u64.wrap ((IntKind.u64.wrap (c.Seed * 6364136223846793005)) + (IntKind.u64.wrap (b3)))) + 1442695040888963407)) (2 ^ 40))), (60, .int .u64 (bits .and .u64 (Int.fdiv (IntKind.u64.wrap ((IntKind.u64.wrap ((IntKind.u64.wrap (c.Seed * 6364136223846793005)) + (IntKind.u64.wrap (b3)))) + 1442695040888963407)) (2 ^ 40)) 255)), (61, I (wr (bits .and .u64 (Int.fdiv (IntKind.u64.wrap ((IntKind.u64.wrap ((IntKind.u64.wrap (c.Seed * 6364136223846793005)) + (IntKind.u64.wrap (b3)))) + 1442695040888963407)) (2 ^ 40)) 255))), (2, I (wr (bits .and .u64 (Int.fdiv (IntKind.u64.wrap ((IntKind.u64.wrap ((IntKind.u64.wrap (c.Seed * 6364136223846793005)) + (IntKind.u64.wrap (b3)))) + 1442695040888963407)) (2 ^ 40)) 255)))] 8 rfl rfl ?_
 refine LP_end _ rfl (W_ret ?_)
 exact ⟨_, Ret_of [I (wr (bits .and .u64 (Int.fdiv (IntKind.u64.wrap ((IntKind.u64.wrap ((IntKind.u64.wrap (c.Seed * 6364136223846793005)) + (IntKind.u64.wrap (b3)))) + 1442695040888963407)) (2 ^ 40)) 255))] ⟨⟨rfl, rfl⟩, trivial⟩, _, _, _, H, rfl, (((X6.step y (Dom.le D _)).step y29 (DomLe.dom D single_dom)).stepx x31), ex35⟩

theorem spec_l1Cur_pick_w (c : L1Cur) (n : Int) (Q : Int → Int → Int → Prop) (H : spec_l1Cur_pick c n Q) (w : World) {vx : Value} {hx : PH} (r : RS hx vx c.Code) (ex : Sub hx w) {b : Nat} (ex2 : Sub (bx b 99 [vx, I c.At, .int .u64 c.Seed]) w) (d : Dj (bx b 99 [vx, I c.At, .int .u64 c.Seed]) hx) :
  CallsTo Try.prog 73 #[pb b, I n] w fun v w' => ∃ r0 m1_0 m1_1, Q r0 m1_0 m1_1 ∧ v = I r0 ∧ But (bx b 99 [vx, I c.At, .int .u64 c.Seed]) w w' ∧ Sub (bx b 99 [vx, I m1_0, .int .u64 m1_1]) w' := by
 obtain ⟨a, c1, rfl⟩ := r.shape
 refine enter (args := [pb b, I n]) 20 Try.func73 rfl rfl rfl ?_
 refine W_forget [(0, pb b), (1, I n)] ⟨rfl, rfl, trivial⟩ fun ρ => ?_
 have D : Dom (bx b 99 [sl a c.Code c1, I c.At, .int .u64 c.Seed]) (bx b 99 [sl a c.Code c1, I c.At, .int .u64 c.Seed]) := (Dom.refl _)
 have X := But.refl (bx b 99 [sl a c.Code c1, I c.At, .int .u64 c.Seed]) w
 refine W_seq (W_region ?_)
 refine LP_ev ok 0 [(4, I 0)] 1 rfl rfl ?_
 refine LP_end _ rfl (W_seq ?_)
 refine W_seq (W_region ?_)
 refine LP_ev ok 0 [(6, I n), (7, .bool (decide (n ≤ 1)))] 2 rfl rfl ?_
 refine LP_end _ rfl ?_
 refine W_cond (decide (n ≤ 1)) rfl (fun hc => ?_) (fun hc => ?_)
 ·have H := H.1 hc
  refine W_seq (W_region ?_)
  refine LP_ev ok 0 [(4, I 0)] 1 rfl rfl ?_
  refine LP_end _ rfl (W_ret ?_)
  exact ⟨_, Ret_of [I 0] ⟨⟨rfl, rfl⟩, trivial⟩, _, _, _, H, rfl, X, ex2⟩
 have H := H.2 hc
 refine W_skip ?_
 refine W_seq (W_region ?_)
 refine LP_ev ok 0 [(8, pb b)] 1 rfl rfl ?_
 refine LP_call 1 rfl rfl rfl cal_148 rfl (spec_l1Cur_next_w _ _ H w r ex ex2 d) ?_
 rintro _ wx ⟨r3, r4, r5, H, rfl, x, ex6⟩
 refine LP_ev ok 2 [(5, I r3)] 3 rfl rfl ?_
 refine LP_end _ rfl ?_
 have X7 := (X.step x (Dom.le D _))
 have ex8 := (ex.but x d)
 obtain ⟨k, hk, H⟩ := jn_elim H
 refine W_join2 (S := Int × Int × Int) (fun s ρ' w' => k s.1 s.2.1 s.2.2 ∧ ∃ (ρ : Env), ρ' = setAll [(1, I n), (5, I s.1)] ρ ∧ But (bx b 99 [sl a c.Code c1, I c.At, .int .u64 c.Seed]) w w' ∧ Sub hx w' ∧ Sub (bx b 99 [sl a c.Code c1, I s.2.1, .int .u64 s.2.2]) w') ?_ ?_
 ·refine W_seq (W_region ?_)
  refine LP_ev ok 0 [(10, I n), (11, .bool (decide (n > 200)))] 2 rfl rfl ?_
  refine LP_end _ rfl ?_
  refine W_cond (decide (n > 200)) rfl (fun hc14 => ?_) (fun hc14 => ?_)
  ·have H := H.1 hc14
   refine W_region ?_
   refine LP_ev ok 0 [(12, I r3), (13, I (wr (r3 * 256))), (14, pb b)] 3 rfl rfl ?_
   refine LP_call 3 rfl rfl rfl cal_148 rfl (spec_l1Cur_next_w _ _ H wx r ex8 ex6 (Dj.box d)) ?_
   rintro _ wx18 ⟨r15, r16, r17, H, rfl, x19, ex20⟩
   refine LP_ev ok 4 [(16, I (wr ((wr (r3 * 256)) + r15))), (5, I (wr ((wr (r3 * 256)) + r15)))] 6 rfl rfl ?_
   exact LP_end _ rfl ⟨(wr ((wr (r3 * 256)) + r15), r16, r17), H, _, env_eq ⟨rfl, rfl, trivial⟩, (X7.step x19 (DomLe.dom D single_dom)), (ex8.but x19 (Dj.box d)), ex20⟩
  have H := H.2 hc14
  exact W_skip ⟨(r3, r4, r5), H, _, env_eq ⟨rfl, rfl, trivial⟩, X7, ex8, ex6⟩
 rintro ⟨x9, atx, seed⟩ _ wx10 ⟨H, ρ, rfl, X13, ex11, ex12⟩
 subst hk
 refine W_seq (W_region ?_)
 refine LP_ev ok 0 [(17, I x9), (18, I n)] 2 rfl rfl ?_
 obtain ⟨hz, H⟩ := H
 refine LP_val 2 _ rfl rfl (ex_rem rfl rfl rfl hz _) ?_
 refine LP_ev ok 3 [(4, I (Int.tmod x9 n))] 4 rfl rfl ?_
 refine LP_end _ rfl (W_ret ?_)
 exact ⟨_, Ret_of [I (Int.tmod x9 n)] ⟨⟨rfl, rfl⟩, trivial⟩, _, _, _, H, rfl, X13, ex12⟩

theorem spec_l1Cur_schema_w (c : L1Cur) (Q : (List Variable) → Int → Int → Prop) (H : spec_l1Cur_schema c Q) (w : World) {vx : Value} {hx : PH} (r : RS hx vx c.Code) (ex : Sub hx w) {b : Nat} (ex2 : Sub (bx b 99 [vx, I c.At, .int .u64 c.Seed]) w) (d : Dj (bx b 99 [vx, I c.At, .int .u64 c.Seed]) hx) :
  CallsTo Try.prog 200 #[pb b] w fun v w' => ∃ r0 m1_0 m1_1 u0 g0, Q r0 m1_0 m1_1 ∧ v = u0 ∧ But (bx b 99 [vx, I c.At, .int .u64 c.Seed]) w w' ∧ OS 167 g0 emp u0 r0 ∧ Sub g0 w' ∧ Fresh w.heap.size g0 ∧ Sub (bx b 99 [vx, I m1_0, .int .u64 m1_1]) w' ∧ Dj g0 (bx b 99 [vx, I m1_0, .int .u64 m1_1]) := by
 obtain ⟨a, c1, rfl⟩ := r.shape
 refine enter (args := [pb b]) 26 Try.func200 rfl rfl rfl ?_
 refine W_forget [(0, pb b)] ⟨rfl, trivial⟩ fun ρ => ?_
 have D : Dom (bx b 99 [sl a c.Code c1, I c.At, .int .u64 c.Seed]) (bx b 99 [sl a c.Code c1, I c.At, .int .u64 c.Seed]) := (Dom.refl _)
 have X := But.refl (bx b 99 [sl a c.Code c1, I c.At, .int .u64 c.Seed]) w
 refine W_seq (W_region ?_)
 refine LP_ev ok 0 [(2, .slice none 0 0)] 1 rfl rfl ?_
 refine LP_end _ rfl (W_seq (W_region ?_))
 refine LP_lit (α := ByteArray) (g := emp) 0 (vs := [.string ((ByteArray.mk #[115, 101, 120])), .string ((ByteArray.mk #[97, 103, 101])), .string ((ByteArray.mk #[106, 111, 98])), .string ((ByteArray.mk #[104, 111, 109, 101])), .string ((ByteArray.mk #[115, 105, 122, 101])), .string ((ByteArray.mk #[108, 97, 110, 103]))]) (xs := [(ByteArray.mk #[115, 101, 120]), (ByteArray.mk #[97, 103, 101]), (ByteArray.mk #[106, 111, 98]), (ByteArray.mk #[104, 111, 109, 101]), (ByteArray.mk #[115, 105, 122, 101]), (ByteArray.mk #[108, 97, 110, 103])]) rfl rfl rfl Try.underlying197 ti_9 rfl rfl ⟨⟨_, rfl, rfl⟩, ⟨_, rfl, rfl⟩, ⟨_, rfl, rfl⟩, ⟨_, rfl, rfl⟩, ⟨_, rfl, rfl⟩, ⟨_, rfl, rfl⟩, trivial⟩ rfl rfl fun hx3 vx4 wx x o ex5 f => ?_
 obtain ⟨a6, c7, rfl⟩ := o.shape
 refine LP_ev ok 1 [(3, .slice a6 (List.length ([(ByteArray.mk #[115, 101, 120]), (ByteArray.mk #[97, 103, 101]), (ByteArray.mk #[106, 111, 98]), (ByteArray.mk #[104, 111, 109, 101]), (ByteArray.mk #[115, 105, 122, 101]), (ByteArray.mk #[108, 97, 110, 103])])) c7)] 2 rfl rfl ?_
 refine LP_end _ rfl (W_seq (W_region ?_))
 refine LP_ev ok 0 [(4, .slice none 0 0)] 1 rfl rfl ?_
 refine LP_end _ rfl (W_seq ?_)
 refine W_seq (W_region ?_)
 refine LP_ev ok 0 [(5, I 0)] 1 rfl rfl ?_
 refine LP_end _ rfl ?_
 refine W_block ?_
 obtain ⟨J, m, Hx, H⟩ := H
 refine W_loop (S := (List Variable) × Int × Int × Int) (fun s ρ' w' => J s.1 s.2.1 s.2.2.1 s.2.2.2 ∧ ∃ (ρ : Env) (vx8 : Value) (hx9 : PH), ρ' = setAll [(0, pb b), (3, .slice a6 (List.length ([(ByteArray.mk #[115, 101, 120]), (ByteArray.mk #[97, 103, 101]), (ByteArray.mk #[106, 111, 98]), (ByteArray.mk #[104, 111, 109, 101]), (ByteArray.mk #[115, 105, 122, 101]), (ByteArray.mk #[108, 97, 110, 103])])) c7), (4, vx8), (5, I s.2.1)] ρ ∧ But (bx b 99 [sl a c.Code c1, I c.At, .int .u64 c.Seed]) w w' ∧ OS 167 hx9 emp vx8 s.1 ∧ Sub hx9 w' ∧ Fresh w.heap.size hx9 ∧ Sub hx w' ∧ Sub hx3 w' ∧ Sub (bx b 99 [sl a c.Code c1, I s.2.2.1, .int .u64 s.2.2.2]) w' ∧ Dj hx9 hx ∧ Dj hx9 hx3 ∧ Dj hx9 (bx b 99 [sl a c.Code c1, I s.2.2.1, .int .u64 s.2.2.2])) (fun s => m s.1 s.2.1 s.2.2.1 s.2.2.2) ([], 0, c.At, c.Seed) ⟨Hx, _, .slice none 0 0, emp, env_eq ⟨rfl, rfl, rfl, rfl, trivial⟩, (X.stepx x), OS.nil, (emp_sub _), (emp_fresh _), (ex.ext x), ex5, (ex2.ext x), (fun _ => .inl rfl), (fun _ => .inl rfl), (fun _ => .inl rfl)⟩ ?_
 rintro ⟨out, k, atx, seed⟩ _ wx13 ⟨Hi, ρ, vx8, hx9, rfl, HF⟩
 revert HF
 refine bb9 fun X22 o10 ex11 f12 ex14 ex15 ex18 d19 => ?_
 refine bb2 fun d20 d21 => ?_
 have H := H out k atx seed Hi
 obtain ⟨a16, c17, rfl⟩ := o10.shape
 refine W_seq ?_
 refine W_seq (W_region ?_)
 refine LP_ev ok 0 [(7, I k), (8, pb b)] 2 rfl rfl ?_
 refine LP_call 2 rfl rfl rfl cal_73 rfl (spec_l1Cur_pick_w _ _ _ H wx13 r ex14 ex18 (Dj.box d)) ?_
 rintro _ wx29 ⟨r26, r27, r28, H, rfl, x30, ex31⟩
 refine LP_ev ok 3 [(10, I (wr (1 + r26))), (11, .bool (decide (k < (wr (1 + r26)))))] 5 rfl rfl ?_
 refine LP_end _ rfl ?_
 refine W_cond (decide (k < (wr (1 + r26)))) rfl (fun hc => ?_) (fun hc => ?_)
 ·have H := H.1 hc
  refine W_skip ?_
  refine W_seq ?_
  refine W_block ?_
  refine W_open mix fun wx32 x33 => ?_
  refine AP_game 10 [[], [], [], [1, 2], [1, 2, 3], [], [5], [5, 6], [1, 2, 3, 4, 5, 6, 7], [1, 2, 3, 4, 5, 6, 7, 8], [0, 1, 2, 3, 4, 5, 6, 7, 8, 9], [0, 1, 2, 3, 4, 5, 6, 7, 8, 9, 10]] [[(4, none)], [(3, none)], [(5, none)], [(15, some 1), (16, some 2)], [(17, some 3)], [(0, none)], [(19, some 5)], [(20, some 6)], [(18, some 4), (21, some 7)], [(22, some 8)]] [(0, none), (3, none), (4, none), (5, none), (14, some 0), (23, some 9)] [(0, false), (1, false), (2, false), (3, false), (4, false), (5, false), (6, true), (7, false), (8, false), (9, true)] (by kernel_rfl) (by kernel_rfl) ?_
  refine GS_ev ok [(4, sl a16 out c17)] (sl a16 out c17) rfl rfl (fun _ h => h) (fun _ => rfl) ?_
  refine GS_ev ok [(3, .slice a6 (List.length ([(ByteArray.mk #[115, 101, 120]), (ByteArray.mk #[97, 103, 101]), (ByteArray.mk #[106, 111, 98]), (ByteArray.mk #[104, 111, 109, 101]), (ByteArray.mk #[115, 105, 122, 101]), (ByteArray.mk #[108, 97, 110, 103])])) c7)] (.slice a6 (List.length ([(ByteArray.mk #[115, 101, 120]), (ByteArray.mk #[97, 103, 101]), (ByteArray.mk #[106, 111, 98]), (ByteArray.mk #[104, 111, 109, 101]), (ByteArray.mk #[115, 105, 122, 101]), (ByteArray.mk #[108, 97, 110, 103])])) c7) rfl rfl (fun _ h => h) (fun _ => rfl) ?_
  refine GS_ev ok [(5, I k)] (I k) rfl rfl (fun _ h => h) (fun _ => rfl) ?_
  obtain ⟨x34, hi, hx35, H⟩ := H
  obtain ⟨a36, cs, hx39, r37, d38⟩ := run_indexAt Try.underlying197 ti_9 o.readf .i64 _ x34 hi hx35
  refine GS_r0 [(15, .slice a6 (List.length ([(ByteArray.mk #[115, 101, 120]), (ByteArray.mk #[97, 103, 101]), (ByteArray.mk #[106, 111, 98]), (ByteArray.mk #[104, 111, 109, 101]), (ByteArray.mk #[115, 105, 122, 101]), (ByteArray.mk #[108, 97, 110, 103])])) c7), (16, I k)] (.pointer (some a36)) rfl rfl (fun _ h => h) (fun _ _ => ex_index rfl rfl rfl (hx39 _)) ?_
  obtain ⟨vx40, hx42, r41⟩ := run_loadAt ti_9 ag_9 r37 d38
  obtain rfl := r41.str
  have ex43 := ((ex15.but x30 (Dj.box (Dj.of_fresh ex2 f))).ext x33)
  refine GS_r1 [(17, .pointer (some a36))] (.string x34) rfl rfl (fun _ h => h) (fun _ w e => ex_load rfl rfl (hx42 w e)) ex43 ?_
  refine GS_ev ok [(0, pb b)] (pb b) rfl rfl (fun _ h => h) (fun _ => rfl) ?_
  refine GS_lp [(19, pb b)] rfl rfl (fun _ h => h) rfl fun ρ wx44 x45 => ?_
  have xc := (x33.trans x45)
  have ex49 := ((ex14.but x30 (Dj.box d)).ext xc)
  refine LP_call 0 rfl rfl rfl cal_73 rfl (spec_l1Cur_pick_w _ _ _ H wx44 r ex49 (ex31.ext xc) (Dj.box d)) ?_
  rintro _ wx51 ⟨r46, r47, r48, H, rfl, x52, ex53⟩
  refine LP_gs ⟨⟨.inr ((ex43.ext x45).but x52 (Dj.box (Dj.of_fresh ex2 f))), trivial⟩, ?_⟩
  refine GS_ev ok [(20, I r46)] (I (wr (2 + r46))) rfl rfl (fun _ h => h) (fun _ => rfl) ?_
  refine GS_ev ok [(18, .string x34), (21, I (wr (2 + r46)))] (.agg #[.string x34, I (wr (2 + r46))]) rfl rfl (fun _ h => h) (fun _ => rfl) ?_
  refine GS_lp [(22, .agg #[.string x34, I (wr (2 + r46))])] rfl rfl (fun _ h => h) rfl fun ρ wx55 x56 => ?_
  refine LP_lit (α := Variable) (g := emp) 0 (vs := [.agg #[.string x34, I (wr (2 + r46))]]) (xs := [(Variable.mk x34 (wr (2 + r46)))]) rfl rfl rfl Try.underlying24 ti_167 rfl rfl ⟨⟨_, rfl, rfl⟩, trivial⟩ rfl rfl fun hx57 vx58 wx59 x60 o61 ex62 f63 => ?_
  obtain ⟨a64, c65, rfl⟩ := o61.shape
  refine LP_gs ⟨⟨.inl rfl, trivial⟩, ?_⟩
  intro wx66 x67 ρ hn
  refine AP_forget [(0, pb b), (3, .slice a6 (List.length ([(ByteArray.mk #[115, 101, 120]), (ByteArray.mk #[97, 103, 101]), (ByteArray.mk #[106, 111, 98]), (ByteArray.mk #[104, 111, 109, 101]), (ByteArray.mk #[115, 105, 122, 101]), (ByteArray.mk #[108, 97, 110, 103])])) c7), (4, sl a16 out c17), (5, I k), (14, sl a16 out c17), (23, .slice a64 (List.length ([(Variable.mk x34 (wr (2 + r46)))])) c65)] (by exact hn) fun ρ => ?_
  refine AP_tail 10 [[], [], [], [1, 2], [1, 2, 3], [], [5], [5, 6], [1, 2, 3, 4, 5, 6, 7], [1, 2, 3, 4, 5, 6, 7, 8], [0, 1, 2, 3, 4, 5, 6, 7, 8, 9], [0, 1, 2, 3, 4, 5, 6, 7, 8, 9, 10]] (by kernel_rfl) ?_
  have xc68 := ((x56.trans x60).trans x67)
  obtain ⟨hb, H⟩ := H
  refine LP_appendf (α := Variable) 10 rfl rfl rfl Try.underlying24 ti_167 rfl rfl rfl o10 ((((ex11.but x30 d21.symm).ext xc).but x52 (Dj.box d21.symm)).ext xc68) o61.readf (ex62.ext x67) (by first | omega | (simp only [ln] at *; omega)) (by first | omega | (simp only [ln] at *; omega)) fun hx71 vx72 wx73 o74 ex75 y dm => ?_
  obtain ⟨a76, c77, rfl⟩ := o74.shape
  refine LP_ev ok 11 [(4, .slice a76 (List.length (out ++ ([(Variable.mk x34 (wr (2 + r46)))]))) c77)] 12 rfl rfl ?_
  refine LP_end _ rfl ?_
  refine W_region ?_
  refine LP_ev ok 0 [(12, I k), (13, I (wr (k + 1))), (5, I (wr (k + 1)))] 3 rfl rfl ?_
  refine LP_end _ rfl ?_
  have f79 := dm.fresh f12 ((((X22.step x30 (DomLe.dom D single_dom)).stepx xc).step x52 (DomLe.dom D single_dom)).stepx xc68).size
  exact ⟨(out ++ ([(Variable.mk x34 (wr (2 + r46)))]), wr (k + 1), r47, r48), ⟨H.1, _, .slice a76 (List.length (out ++ ([(Variable.mk x34 (wr (2 + r46)))]))) c77, hx71, env_eq ⟨rfl, rfl, rfl, rfl, trivial⟩, (((((X22.step x30 (DomLe.dom D single_dom)).stepx xc).step x52 (DomLe.dom D single_dom)).stepx xc68).step y (f12.dom _)), o74, ex75, f79, (((ex49.but x52 (Dj.box d)).ext xc68).but y d19), ((((ex43.ext x45).but x52 (Dj.box (Dj.of_fresh ex2 f))).ext xc68).but y d20), ((ex53.ext xc68).but y (Dj.box d21.symm).symm), (DomLe.dj dm d19 ((ex49.but x52 (Dj.box d)).ext xc68)), (DomLe.dj dm d20 (((ex43.ext x45).but x52 (Dj.box (Dj.of_fresh ex2 f))).ext xc68)), (DomLe.dj dm (Dj.box d21.symm).symm (ex53.ext xc68))⟩, H.2⟩
 have H := H.2 hc
 refine W_exit ?_
 refine (if_pos rfl).mpr ?_
 refine W_seq (W_region ?_)
 refine LP_ev ok 0 [(25, sl a16 out c17), (2, sl a16 out c17)] 2 rfl rfl ?_
 refine LP_end _ rfl (W_ret ?_)
 exact ⟨_, Ret_of [sl a16 out c17] ⟨⟨rfl, rfl⟩, trivial⟩, _, _, _, _, _, H, rfl, (X22.step x30 (DomLe.dom D single_dom)), o10, (ex11.but x30 d21.symm), f12, ex31, (Dj.box d21.symm).symm⟩

theorem spec_l1Cur_among_w (c : L1Cur) (list : List Int) (Q : Int → Int → Int → Prop) (H : spec_l1Cur_among c list Q) (w : World) {vx : Value} {hx : PH} (r : RS hx vx c.Code) (ex : Sub hx w) {b : Nat} (ex2 : Sub (bx b 99 [vx, I c.At, .int .u64 c.Seed]) w) {vx3 : Value} {hx4 : PH} (r5 : RS hx4 vx3 list) (ex6 : Sub hx4 w) (d : Dj (bx b 99 [vx, I c.At, .int .u64 c.Seed]) hx) (d9 : Dj (bx b 99 [vx, I c.At, .int .u64 c.Seed]) hx4) :
  CallsTo Try.prog 180 #[pb b, vx3] w fun v w' => ∃ r0 m1_0 m1_1, Q r0 m1_0 m1_1 ∧ v = I r0 ∧ But (bx b 99 [vx, I c.At, .int .u64 c.Seed]) w w' ∧ Sub (bx b 99 [vx, I m1_0, .int .u64 m1_1]) w' := by
 obtain ⟨a, c1, rfl⟩ := r.shape
 obtain ⟨a7, c8, rfl⟩ := r5.shape
 refine enter (args := [pb b, sl a7 list c8]) 12 Try.func180 rfl rfl rfl ?_
 refine W_forget [(0, pb b), (1, sl a7 list c8)] ⟨rfl, rfl, trivial⟩ fun ρ => ?_
 have D : Dom (bx b 99 [sl a c.Code c1, I c.At, .int .u64 c.Seed]) (bx b 99 [sl a c.Code c1, I c.At, .int .u64 c.Seed]) := (Dom.refl _)
 have X := But.refl (bx b 99 [sl a c.Code c1, I c.At, .int .u64 c.Seed]) w
 refine W_seq (W_region ?_)
 refine LP_ev ok 0 [(4, I 0)] 1 rfl rfl ?_
 refine LP_end _ rfl (W_seq (W_region ?_))
 refine LP_ev ok 0 [(5, sl a7 list c8), (6, pb b), (7, sl a7 list c8), (8, I (ln list))] 4 rfl rfl ?_
 refine LP_call 4 rfl rfl rfl cal_73 rfl (spec_l1Cur_pick_w _ _ _ H w r ex ex2 d) ?_
 rintro _ wx ⟨r10, r11, r12, H, rfl, x, ex13⟩
 obtain ⟨x14, hi, hx15, H⟩ := H
 refine LP_index 5 rfl rfl rfl Try.underlying31 ti_3 rfl rfl r5 hi hx15 fun a16 cs r17 d18 => ?_
 refine LP_load 6 rfl rfl rfl ti_3 ag_3 rfl r17 d18 (ex6.but x d9) fun vx20 r21 => ?_
 obtain rfl := r21.int
 refine LP_ev ok 7 [(4, I x14)] 8 rfl rfl ?_
 refine LP_end _ rfl (W_ret ?_)
 exact ⟨_, Ret_of [I x14] ⟨⟨rfl, rfl⟩, trivial⟩, _, _, _, H, rfl, (X.step x (Dom.le D _)), ex13⟩

theorem spec_l1Cur_of_w (c : L1Cur) (list : List ByteArray) (Q : ByteArray → Int → Int → Prop) (H : spec_l1Cur_of c list Q) (w : World) {vx : Value} {hx : PH} (r : RS hx vx c.Code) (ex : Sub hx w) {b : Nat} (ex2 : Sub (bx b 99 [vx, I c.At, .int .u64 c.Seed]) w) {vx3 : Value} {hx4 : PH} (r5 : RS hx4 vx3 list) (ex6 : Sub hx4 w) (d : Dj (bx b 99 [vx, I c.At, .int .u64 c.Seed]) hx) (d9 : Dj (bx b 99 [vx, I c.At, .int .u64 c.Seed]) hx4) :
  CallsTo Try.prog 201 #[pb b, vx3] w fun v w' => ∃ r0 m1_0 m1_1, Q r0 m1_0 m1_1 ∧ v = .string r0 ∧ But (bx b 99 [vx, I c.At, .int .u64 c.Seed]) w w' ∧ Sub (bx b 99 [vx, I m1_0, .int .u64 m1_1]) w' := by
 obtain ⟨a, c1, rfl⟩ := r.shape
 obtain ⟨a7, c8, rfl⟩ := r5.shape
 refine enter (args := [pb b, sl a7 list c8]) 12 Try.func201 rfl rfl rfl ?_
 refine W_forget [(0, pb b), (1, sl a7 list c8)] ⟨rfl, rfl, trivial⟩ fun ρ => ?_
 have D : Dom (bx b 99 [sl a c.Code c1, I c.At, .int .u64 c.Seed]) (bx b 99 [sl a c.Code c1, I c.At, .int .u64 c.Seed]) := (Dom.refl _)
 have X := But.refl (bx b 99 [sl a c.Code c1, I c.At, .int .u64 c.Seed]) w
 refine W_seq (W_region ?_)
 refine LP_ev ok 0 [(4, .string ((ByteArray.mk #[])))] 1 rfl rfl ?_
 refine LP_end _ rfl (W_seq (W_region ?_))
 refine LP_ev ok 0 [(5, sl a7 list c8), (6, pb b), (7, sl a7 list c8), (8, I (ln list))] 4 rfl rfl ?_
 refine LP_call 4 rfl rfl rfl cal_73 rfl (spec_l1Cur_pick_w _ _ _ H w r ex ex2 d) ?_
 rintro _ wx ⟨r10, r11, r12, H, rfl, x, ex13⟩
 obtain ⟨x14, hi, hx15, H⟩ := H
 refine LP_index 5 rfl rfl rfl Try.underlying197 ti_9 rfl rfl r5 hi hx15 fun a16 cs r17 d18 => ?_
 refine LP_load 6 rfl rfl rfl ti_9 ag_9 rfl r17 d18 (ex6.but x d9) fun vx20 r21 => ?_
 obtain rfl := r21.str
 refine LP_ev ok 7 [(4, .string x14)] 8 rfl rfl ?_
 refine LP_end _ rfl (W_ret ?_)
 exact ⟨_, Ret_of [.string x14] ⟨⟨rfl, rfl⟩, trivial⟩, _, _, _, H, rfl, (X.step x (Dom.le D _)), ex13⟩

theorem spec_l1Cur_anySchema_w (c : L1Cur) (Q : (List Variable) → Int → Int → Prop) (H : spec_l1Cur_anySchema c Q) (w : World) {vx : Value} {hx : PH} (r : RS hx vx c.Code) (ex : Sub hx w) {b : Nat} (ex2 : Sub (bx b 99 [vx, I c.At, .int .u64 c.Seed]) w) (d : Dj (bx b 99 [vx, I c.At, .int .u64 c.Seed]) hx) :
  CallsTo Try.prog 135 #[pb b] w fun v w' => ∃ r0 m1_0 m1_1 u0 g0, Q r0 m1_0 m1_1 ∧ v = u0 ∧ But (bx b 99 [vx, I c.At, .int .u64 c.Seed]) w w' ∧ OS 167 g0 emp u0 r0 ∧ Sub g0 w' ∧ Fresh w.heap.size g0 ∧ Sub (bx b 99 [vx, I m1_0, .int .u64 m1_1]) w' ∧ Dj g0 (bx b 99 [vx, I m1_0, .int .u64 m1_1]) := by
 obtain ⟨a, c1, rfl⟩ := r.shape
 refine enter (args := [pb b]) 46 Try.func135 rfl rfl rfl ?_
 refine W_forget [(0, pb b)] ⟨rfl, trivial⟩ fun ρ => ?_
 have D : Dom (bx b 99 [sl a c.Code c1, I c.At, .int .u64 c.Seed]) (bx b 99 [sl a c.Code c1, I c.At, .int .u64 c.Seed]) := (Dom.refl _)
 have X := But.refl (bx b 99 [sl a c.Code c1, I c.At, .int .u64 c.Seed]) w
 refine W_seq (W_region ?_)
 refine LP_ev ok 0 [(2, .slice none 0 0)] 1 rfl rfl ?_
 refine LP_end _ rfl (W_seq (W_region ?_))
 refine LP_ev ok 0 [(4, pb b)] 1 rfl rfl ?_
 refine LP_call 1 rfl rfl rfl cal_200 rfl (spec_l1Cur_schema_w _ _ H w r ex ex2 d) ?_
 rintro _ wx ⟨r3, r4, r5, vx6, hx7, H, rfl, x, HF⟩
 revert HF
 refine bb5 fun o ex8 f ex9 d10 => ?_
 obtain ⟨a11, c12, rfl⟩ := o.shape
 refine LP_ev ok 2 [(3, sl a11 r3 c12)] 3 rfl rfl ?_
 refine LP_end _ rfl ?_
 have X13 := (X.step x (Dom.le D _))
 have ex14 := (ex.but x d)
 have f15 := f.mono X.size
 obtain ⟨k, hk, H⟩ := jn_elim H
 refine W_join2 (S := (List Variable) × Int × Int) (fun s ρ' w' => k s.1 s.2.1 s.2.2 ∧ ∃ (ρ : Env) (vx16 : Value) (hx17 : PH), ρ' = setAll [(3, vx16)] ρ ∧ But (bx b 99 [sl a c.Code c1, I c.At, .int .u64 c.Seed]) w w' ∧ OS 167 hx17 emp vx16 s.1 ∧ Sub hx17 w' ∧ Fresh w.heap.size hx17 ∧ Sub hx w' ∧ Sub (bx b 99 [sl a c.Code c1, I s.2.1, .int .u64 s.2.2]) w' ∧ Dj hx17 hx ∧ Dj hx17 (bx b 99 [sl a c.Code c1, I s.2.1, .int .u64 s.2.2])) ?_ ?_
 ·refine W_seq (W_region ?_)
  refine LP_ev ok 0 [(6, pb b)] 1 rfl rfl ?_
  refine LP_call 1 rfl rfl rfl cal_73 rfl (spec_l1Cur_pick_w _ _ _ H wx r ex14 ex9 (Dj.box d)) ?_
  rintro _ wx32 ⟨r29, r30, r31, H, rfl, x33, ex34⟩
  refine LP_end _ rfl ?_
  refine W_block ?_
  refine W_seq (W_region ?_)
  refine LP_ev ok 0 [(9, .bool (r29 == 0)), (8, .bool (r29 == 0))] 2 rfl rfl ?_
  refine LP_end _ rfl ?_
  refine W_cond (r29 == 0) rfl (fun hc => ?_) (fun hc => ?_)
  ·have H := H.1 hc
   refine W_region ?_
   refine LP_ev ok 0 [(10, sl a11 r3 c12), (11, pb b)] 2 rfl rfl ?_
   refine LP_lit (α := Int) (g := emp) 2 (vs := [I 1, I 8, I 9]) (xs := [1, 8, 9]) rfl rfl rfl Try.underlying31 ti_3 rfl rfl ⟨⟨_, rfl, rfl⟩, ⟨_, rfl, rfl⟩, ⟨_, rfl, rfl⟩, trivial⟩ rfl rfl fun hx35 vx36 wx37 x38 o39 ex40 f41 => ?_
   obtain ⟨a42, c43, rfl⟩ := o39.shape
   have ex47 := ((ex14.but x33 (Dj.box d)).ext x38)
   refine LP_call 3 rfl rfl rfl cal_180 rfl (spec_l1Cur_among_w _ _ _ H wx37 r ex47 (ex34.ext x38) o39.readf ex40 (Dj.box d) (Dj.of_fresh ex34 f41)) ?_
   rintro _ wx49 ⟨r44, r45, r46, H, rfl, x50, ex51⟩
   obtain ⟨x52, hi, hx53, H⟩ := H
   refine LP_indexf (v := sl a11 r3 c12) 4 rfl rfl rfl Try.underlying24 ti_167 rfl rfl o hi hx53 fun a54 wa => ?_
   refine LP_ev ok 5 [(15, .pointer (some (Addr.add a54 1)))] 6 rfl rfl ?_
   refine LP_setf 6 (x := x52) (vs := [I r44]) (y := ({x52 with Levels := r44} : Variable)) rfl rfl rfl ti_3 rfl rfl rfl rfl rfl rfl wa (((ex8.but x33 d10.symm).ext x38).but x50 (Dj.box d10.symm)) rfl fun hx55 wx56 o57 ex58 y dm => ?_
   refine LP_end _ rfl ?_
   have f61 := (dm _).fresh f15 (((X13.step x33 (DomLe.dom D single_dom)).stepx x38).step x50 (DomLe.dom D single_dom)).size
   exact ⟨(List.set r3 (Int.toNat 0) ({x52 with Levels := r44} : Variable), r45, r46), H, _, sl a11 r3 c12, hx55, env_eq ⟨rfl, trivial⟩, ((((X13.step x33 (DomLe.dom D single_dom)).stepx x38).step x50 (DomLe.dom D single_dom)).step y (f15.dom _)), o57, ex58, f61, ((ex47.but x50 (Dj.box d)).but y (Dj.of_fresh ex f).symm), (ex51.but y (Dj.box d10.symm).symm), (DomLe.dj (dm _) (Dj.of_fresh ex f).symm (ex47.but x50 (Dj.box d))), (DomLe.dj (dm _) (Dj.box d10.symm).symm ex51)⟩
  have H := H.2 hc
  refine W_seq (W_region ?_)
  refine LP_ev ok 0 [(17, .bool (r29 == 1)), (16, .bool (r29 == 1))] 2 rfl rfl ?_
  refine LP_end _ rfl ?_
  refine W_cond (r29 == 1) rfl (fun hc66 => ?_) (fun hc66 => ?_)
  ·have H := H.1 hc66
   refine W_region ?_
   refine LP_ev ok 0 [(18, sl a11 r3 c12), (19, pb b)] 2 rfl rfl ?_
   refine LP_lit (α := ByteArray) (g := emp) 2 (vs := [.string ((ByteArray.mk #[])), .string ((ByteArray.mk #[65, 103, 101])), .string ((ByteArray.mk #[97, 98, 99, 100, 101, 102, 103, 104, 105])), .string ((ByteArray.mk #[97, 103, 101])), .string ((ByteArray.mk #[97, 98, 32, 99, 100]))]) (xs := [(ByteArray.mk #[]), (ByteArray.mk #[65, 103, 101]), (ByteArray.mk #[97, 98, 99, 100, 101, 102, 103, 104, 105]), (ByteArray.mk #[97, 103, 101]), (ByteArray.mk #[97, 98, 32, 99, 100])]) rfl rfl rfl Try.underlying197 ti_9 rfl rfl ⟨⟨_, rfl, rfl⟩, ⟨_, rfl, rfl⟩, ⟨_, rfl, rfl⟩, ⟨_, rfl, rfl⟩, ⟨_, rfl, rfl⟩, trivial⟩ rfl rfl fun hx67 vx68 wx69 x70 o71 ex72 f73 => ?_
   obtain ⟨a74, c75, rfl⟩ := o71.shape
   have ex79 := ((ex14.but x33 (Dj.box d)).ext x70)
   refine LP_call 3 rfl rfl rfl cal_201 rfl (spec_l1Cur_of_w _ _ _ H wx69 r ex79 (ex34.ext x70) o71.readf ex72 (Dj.box d) (Dj.of_fresh ex34 f73)) ?_
   rintro _ wx81 ⟨r76, r77, r78, H, rfl, x82, ex83⟩
   obtain ⟨x84, hi85, hx86, H⟩ := H
   refine LP_indexf (v := sl a11 r3 c12) 4 rfl rfl rfl Try.underlying24 ti_167 rfl rfl o hi85 hx86 fun a87 wa88 => ?_
   refine LP_ev ok 5 [(23, .pointer (some (Addr.add a87 0)))] 6 rfl rfl ?_
   refine LP_setf 6 (x := x84) (vs := [.string r76]) (y := ({x84 with Name := r76} : Variable)) rfl rfl rfl ti_9 rfl rfl rfl rfl rfl rfl wa88 (((ex8.but x33 d10.symm).ext x70).but x82 (Dj.box d10.symm)) rfl fun hx89 wx90 o91 ex92 y93 dm94 => ?_
   refine LP_end _ rfl ?_
   have f97 := (dm94 _).fresh f15 (((X13.step x33 (DomLe.dom D single_dom)).stepx x70).step x82 (DomLe.dom D single_dom)).size
   exact ⟨(List.set r3 (Int.toNat 0) ({x84 with Name := r76} : Variable), r77, r78), H, _, sl a11 r3 c12, hx89, env_eq ⟨rfl, trivial⟩, ((((X13.step x33 (DomLe.dom D single_dom)).stepx x70).step x82 (DomLe.dom D single_dom)).step y93 (f15.dom _)), o91, ex92, f97, ((ex79.but x82 (Dj.box d)).but y93 (Dj.of_fresh ex f).symm), (ex83.but y93 (Dj.box d10.symm).symm), (DomLe.dj (dm94 _) (Dj.of_fresh ex f).symm (ex79.but x82 (Dj.box d))), (DomLe.dj (dm94 _) (Dj.box d10.symm).symm ex83)⟩
  have H := H.2 hc66
  refine W_seq (W_region ?_)
  refine LP_ev ok 0 [(25, .bool (r29 == 2)), (24, .bool (r29 == 2))] 2 rfl rfl ?_
  refine LP_end _ rfl ?_
  refine W_cond (r29 == 2) rfl (fun hc102 => ?_) (fun hc102 => ?_)
  ·have H := H.1 hc102
   refine W_seq (W_region ?_)
   refine LP_ev ok 0 [(2, .slice none 0 0)] 1 rfl rfl ?_
   refine LP_end _ rfl (W_ret ?_)
   exact ⟨_, Ret_of [.slice none 0 0] ⟨⟨rfl, rfl⟩, trivial⟩, _, _, _, _, emp, H, rfl, (X13.step x33 (DomLe.dom D single_dom)), OS.nil, (emp_sub _), (emp_fresh _), ex34, (Dj.emp_l _)⟩
  have H := H.2 hc102
  refine W_seq (W_region ?_)
  refine LP_ev ok 0 [(27, .bool (r29 == 3)), (26, .bool (r29 == 3))] 2 rfl rfl ?_
  refine LP_end _ rfl ?_
  refine W_cond (r29 == 3) rfl (fun hc104 => ?_) (fun hc104 => ?_)
  ·have H := H.1 hc104
   refine W_block ?_
   obtain ⟨J, m, Hx, H⟩ := H
   refine W_loop (S := (List Variable) × Int × Int) (fun s ρ' w' => J s.1 s.2.1 s.2.2 ∧ ∃ (ρ : Env) (vx106 : Value) (hx107 : PH), ρ' = setAll [(0, pb b), (3, vx106)] ρ ∧ But (bx b 99 [sl a c.Code c1, I c.At, .int .u64 c.Seed]) w w' ∧ OS 167 hx107 emp vx106 s.1 ∧ Sub hx107 w' ∧ Fresh w.heap.size hx107 ∧ Sub hx w' ∧ Sub (bx b 99 [sl a c.Code c1, I s.2.1, .int .u64 s.2.2]) w' ∧ Dj hx107 hx ∧ Dj hx107 (bx b 99 [sl a c.Code c1, I s.2.1, .int .u64 s.2.2])) (fun s => m s.1 s.2.1 s.2.2) (r3, r30, r31) ⟨Hx, _, sl a11 r3 c12, hx7, env_eq ⟨rfl, rfl, trivial⟩, (X13.step x33 (DomLe.dom D single_dom)), o, (ex8.but x33 d10.symm), f15, (ex14.but x33 (Dj.box d)), ex34, (Dj.of_fresh ex f).symm, (Dj.box d10.symm).symm⟩ ?_
   rintro ⟨sx105, atx111, seed112⟩ _ wx113 ⟨Hi, ρ, vx106, hx107, rfl, HF⟩
   revert HF
   refine bb8 fun X120 o108 ex109 f110 ex114 ex117 d118 d119 => ?_
   have H := H sx105 atx111 seed112 Hi
   obtain ⟨a115, c116, rfl⟩ := o108.shape
   refine W_seq ?_
   refine W_seq (W_region ?_)
   refine LP_ev ok 0 [(28, sl a115 sx105 c116), (29, I (ln sx105)), (30, pb b)] 3 rfl rfl ?_
   refine LP_call 3 rfl rfl rfl cal_73 rfl (spec_l1Cur_pick_w _ _ _ H wx113 r ex114 ex117 (Dj.box d)) ?_
   rintro _ wx127 ⟨r124, r125, r126, H, rfl, x128, ex129⟩
   refine LP_ev ok 4 [(32, I (wr (6 + r124))), (33, .bool (decide ((ln sx105) < (wr (6 + r124)))))] 6 rfl rfl ?_
   refine LP_end _ rfl ?_
   refine W_cond (decide ((ln sx105) < (wr (6 + r124)))) rfl (fun hc130 => ?_) (fun hc130 => ?_)
   ·have H := H.1 hc130
    refine W_skip ?_
    refine W_block ?_
    refine W_region ?_
    refine LP_ev ok 0 [(34, sl a115 sx105 c116), (35, sl a115 sx105 c116), (36, I (ln sx105)), (37, I (wr (97 + (ln sx105)))), (38, .int .u8 (IntKind.u8.wrap (wr (97 + (ln sx105)))))] 5 rfl rfl ?_
    refine LP_lit (α := B8) (g := emp) 5 (vs := [.int .u8 (IntKind.u8.wrap (wr (97 + (ln sx105))))]) (xs := [(B8.mk (IntKind.u8.wrap (wr (97 + (ln sx105)))))]) rfl rfl rfl Try.underlying22 ti_5 rfl rfl ⟨⟨_, rfl, rfl⟩, trivial⟩ rfl rfl fun hx131 vx132 wx133 x134 o135 ex136 f137 => ?_
    obtain ⟨a138, c139, rfl⟩ := o135.shape
    refine LP_val 6 _ rfl rfl (ex_b2s rfl Try.underlying22 Try.underlying5 Try.underlying9 rfl o135.readf _ ex136) ?_
    obtain ⟨hz, H⟩ := H
    refine LP_val 7 _ rfl rfl (ex_sadd rfl rfl rfl hz _) ?_
    refine LP_ev ok 8 [(42, .agg #[.string (((ByteArray.mk #[120])) ++ (b2s ([(B8.mk (IntKind.u8.wrap (wr (97 + (ln sx105)))))]))), I 2])] 9 rfl rfl ?_
    refine LP_lit (α := Variable) (g := emp) 9 (vs := [.agg #[.string (((ByteArray.mk #[120])) ++ (b2s ([(B8.mk (IntKind.u8.wrap (wr (97 + (ln sx105)))))]))), I 2]]) (xs := [(Variable.mk (((ByteArray.mk #[120])) ++ (b2s ([(B8.mk (IntKind.u8.wrap (wr (97 + (ln sx105)))))]))) 2)]) rfl rfl rfl Try.underlying24 ti_167 rfl rfl ⟨⟨_, rfl, rfl⟩, trivial⟩ rfl rfl fun hx140 vx141 wx142 x143 o144 ex145 f146 => ?_
    obtain ⟨a147, c148, rfl⟩ := o144.shape
    have xc := (x134.trans x143)
    obtain ⟨hb, H⟩ := H
    refine LP_appendf (α := Variable) 10 rfl rfl rfl Try.underlying24 ti_167 rfl rfl rfl o108 ((ex109.but x128 d119.symm).ext xc) o144.readf ex145 (by first | omega | (simp only [ln] at *; omega)) (by first | omega | (simp only [ln] at *; omega)) fun hx150 vx151 wx152 o153 ex154 y155 dm156 => ?_
    obtain ⟨a157, c158, rfl⟩ := o153.shape
    refine LP_ev ok 11 [(3, .slice a157 (List.length (sx105 ++ ([(Variable.mk (((ByteArray.mk #[120])) ++ (b2s ([(B8.mk (IntKind.u8.wrap (wr (97 + (ln sx105)))))]))) 2)]))) c158)] 12 rfl rfl ?_
    refine LP_end _ rfl ?_
    have f160 := dm156.fresh f110 ((X120.step x128 (DomLe.dom D single_dom)).stepx xc).size
    exact ⟨(sx105 ++ ([(Variable.mk (((ByteArray.mk #[120])) ++ (b2s ([(B8.mk (IntKind.u8.wrap (wr (97 + (ln sx105)))))]))) 2)]), r125, r126), ⟨H.1, _, .slice a157 (List.length (sx105 ++ ([(Variable.mk (((ByteArray.mk #[120])) ++ (b2s ([(B8.mk (IntKind.u8.wrap (wr (97 + (ln sx105)))))]))) 2)]))) c158, hx150, env_eq ⟨rfl, rfl, trivial⟩, (((X120.step x128 (DomLe.dom D single_dom)).stepx xc).step y155 (f110.dom _)), o153, ex154, f160, (((ex114.but x128 (Dj.box d)).ext xc).but y155 d118), ((ex129.ext xc).but y155 (Dj.box d119.symm).symm), (DomLe.dj dm156 d118 ((ex114.but x128 (Dj.box d)).ext xc)), (DomLe.dj dm156 (Dj.box d119.symm).symm (ex129.ext xc))⟩, H.2⟩
   have H := H.2 hc130
   refine W_exit ?_
   refine (if_pos rfl).mpr ?_
   exact ⟨(sx105, r125, r126), H, _, sl a115 sx105 c116, hx107, env_eq ⟨rfl, trivial⟩, (X120.step x128 (DomLe.dom D single_dom)), o108, (ex109.but x128 d119.symm), f110, (ex114.but x128 (Dj.box d)), ex129, d118, (Dj.box d119.symm).symm⟩
  have H := H.2 hc104
  exact W_skip ⟨(r3, r30, r31), H, _, sl a11 r3 c12, hx7, env_eq ⟨rfl, trivial⟩, (X13.step x33 (DomLe.dom D single_dom)), o, (ex8.but x33 d10.symm), f15, (ex14.but x33 (Dj.box d)), ex34, (Dj.of_fresh ex f).symm, (Dj.box d10.symm).symm⟩
 rintro ⟨sx, atx, seed⟩ _ wx21 ⟨H, ρ, vx16, hx17, rfl, HF⟩
 revert HF
 refine bb8 fun X28 o18 ex19 f20 ex22 ex25 d26 d27 => ?_
 subst hk
 obtain ⟨a23, c24, rfl⟩ := o18.shape
 refine W_seq (W_region ?_)
 refine LP_ev ok 0 [(45, sl a23 sx c24), (2, sl a23 sx c24)] 2 rfl rfl ?_
 refine LP_end _ rfl (W_ret ?_)
 exact ⟨_, Ret_of [sl a23 sx c24] ⟨⟨rfl, rfl⟩, trivial⟩, _, _, _, _, _, H, rfl, X28, o18, ex19, f20, ex25, d27⟩

theorem spec_l1In_w (n : Int) (lo : Int) (hi : Int) (Q : Bool → Prop) (H : spec_l1In n lo hi Q) (w : World)  :
  CallsTo Try.prog 75 #[I n, I lo, I hi] w fun v w' => ∃ r0, Q r0 ∧ v = .bool r0 ∧ Ext w w' := by
 refine enter (args := [I n, I lo, I hi]) 15 Try.func75 rfl rfl rfl ?_
 refine W_forget [(0, I n), (1, I lo), (2, I hi)] ⟨rfl, rfl, rfl, trivial⟩ fun ρ => ?_
 have X := But.refl emp w
 refine W_seq (W_region ?_)
 refine LP_ev ok 0 [(6, .bool false)] 1 rfl rfl ?_
 refine LP_end _ rfl ?_
 obtain ⟨k, hk, H⟩ := jn_elim H
 refine W_join2 (S := Bool) (fun s ρ' w' => k s ∧ ∃ (ρ : Env), ρ' = setAll [(6, .bool s)] ρ ∧ w = w') ?_ ?_
 ·refine W_region ?_
  refine LP_ev ok 0 [(7, I n), (8, I lo), (9, .bool (decide (n ≥ lo))), (10, .bool (decide (n ≥ lo)))] 4 rfl rfl ?_
  refine LP_split 10 (decide (n ≥ lo)) rfl (fun hc => ?_) (fun hc => ?_)
  ·have H := H.1 hc
   refine LP_ev ok 4 [(11, I n), (12, I hi), (13, .bool (decide (n ≤ hi))), (14, .bool (decide (n ≤ hi))), (6, .bool (decide (n ≤ hi)))] 9 rfl rfl ?_
   exact LP_end _ rfl ⟨decide (n ≤ hi), H, _, env_eq ⟨rfl, trivial⟩, rfl⟩
  have H := H.2 hc
  refine LP_ev ok 4 [(11, undef), (12, undef), (13, undef), (14, .bool false), (6, .bool false)] 9 rfl rfl ?_
  exact LP_end _ rfl ⟨false, H, _, env_eq ⟨rfl, trivial⟩, rfl⟩
 rintro x _ _ ⟨H, ρ, rfl, rfl⟩
 subst hk
 refine W_ret ?_
 exact ⟨_, Ret_of [.bool x] ⟨⟨rfl, rfl⟩, trivial⟩, _, H, rfl, X.ext⟩

theorem spec_sName_w (sx : ByteArray) (Q : Bool → Prop) (H : spec_sName sx Q) (w : World)  :
  CallsTo Try.prog 186 #[.string sx] w fun v w' => ∃ r0, Q r0 ∧ v = .bool r0 ∧ Ext w w' := by
 refine enter (args := [.string sx]) 23 Try.func186 rfl rfl rfl ?_
 refine W_forget [(0, .string sx)] ⟨rfl, trivial⟩ fun ρ => ?_
 have X := But.refl emp w
 refine W_seq (W_region ?_)
 refine LP_ev ok 0 [(2, .bool false)] 1 rfl rfl ?_
 refine LP_end _ rfl (W_seq ?_)
 refine W_seq (W_region ?_)
 refine LP_ev ok 0 [(3, I 0)] 1 rfl rfl ?_
 refine LP_end _ rfl ?_
 refine W_block ?_
 obtain ⟨J, m, Hx, H⟩ := H
 refine W_loop (S := Int) (fun s ρ' w' => J s ∧ ∃ (ρ : Env), ρ' = setAll [(0, .string sx), (3, I s)] ρ ∧ w = w') (fun s => m s) 0 ⟨Hx, _, env_eq ⟨rfl, rfl, trivial⟩, rfl⟩ ?_
 rintro i _ _ ⟨Hi, ρ, rfl, rfl⟩
 have H := H i Hi
 refine W_seq ?_
 refine W_seq (W_region ?_)
 refine LP_ev ok 0 [(4, I i), (5, .string sx), (6, I (sln sx)), (7, .bool (decide (i < (sln sx))))] 4 rfl rfl ?_
 refine LP_end _ rfl ?_
 refine W_cond (decide (i < (sln sx))) rfl (fun hc => ?_) (fun hc => ?_)
 ·have H := H.1 hc
  refine W_skip ?_
  refine W_seq ?_
  refine W_block ?_
  obtain ⟨k, hk, H⟩ := jn_elim H
  refine W_join2 (S := Bool) (fun s ρ' w' => k s ∧ ∃ (ρ : Env), ρ' = setAll [(0, .string sx), (3, I i), (19, .bool s)] ρ ∧ w = w') ?_ ?_
  ·refine W_region ?_
   refine LP_ev ok 0 [(10, .string sx), (11, I i)] 2 rfl rfl ?_
   obtain ⟨c, hi, hx, H⟩ := H
   refine LP_val 2 _ rfl rfl (ex_sidx rfl rfl rfl Try.underlying9 hi hx _) ?_
   refine LP_ev ok 3 [(13, .bool (decide ((((UInt8.toNat c : Nat) : Int)) < 97))), (14, .bool (decide ((((UInt8.toNat c : Nat) : Int)) < 97)))] 5 rfl rfl ?_
   refine LP_split 14 (decide ((((UInt8.toNat c : Nat) : Int)) < 97)) rfl (fun hc2 => ?_) (fun hc2 => ?_)
   ·have H := H.1 hc2
    refine LP_ev ok 5 [(15, undef), (16, undef), (17, undef), (18, undef), (19, .bool true)] 10 rfl rfl ?_
    exact LP_end _ rfl ⟨true, H, _, env_eq ⟨rfl, rfl, rfl, trivial⟩, rfl⟩
   have H := H.2 hc2
   refine LP_ev ok 5 [(15, .string sx), (16, I i)] 7 rfl rfl ?_
   obtain ⟨c3, hi4, hx5, H⟩ := H
   refine LP_val 7 _ rfl rfl (ex_sidx rfl rfl rfl Try.underlying9 hi4 hx5 _) ?_
   refine LP_ev ok 8 [(18, .bool (decide ((((UInt8.toNat c3 : Nat) : Int)) > 122))), (19, .bool (decide ((((UInt8.toNat c3 : Nat) : Int)) > 122)))] 10 rfl rfl ?_
   exact LP_end _ rfl ⟨decide ((((UInt8.toNat c3 : Nat) : Int)) > 122), H, _, env_eq ⟨rfl, rfl, rfl, trivial⟩, rfl⟩
  rintro x _ _ ⟨H, ρ, rfl, rfl⟩
  subst hk
  refine W_cond (x) rfl (fun hc6 => ?_) (fun hc6 => ?_)
  ·have H := H.1 hc6
   refine W_seq (W_region ?_)
   refine LP_ev ok 0 [(2, .bool false)] 1 rfl rfl ?_
   refine LP_end _ rfl (W_ret ?_)
   exact ⟨_, Ret_of [.bool false] ⟨⟨rfl, rfl⟩, trivial⟩, _, H, rfl, X.ext⟩
  have H := H.2 hc6
  refine W_skip ?_
  refine W_region ?_
  refine LP_ev ok 0 [(8, I i), (9, I (wr (i + 1))), (3, I (wr (i + 1)))] 3 rfl rfl ?_
  exact LP_end _ rfl ⟨wr (i + 1), ⟨H.1, _, env_eq ⟨rfl, rfl, trivial⟩, rfl⟩, H.2⟩
 have H := H.2 hc
 refine W_exit ?_
 refine (if_pos rfl).mpr ?_
 refine W_seq (W_region ?_)
 refine LP_ev ok 0 [(20, .string sx), (21, I (sln sx))] 2 rfl rfl ?_
 refine LP_call 2 rfl rfl rfl cal_75 rfl (spec_l1In_w _ _ _ _ H w ) ?_
 rintro _ wx7 ⟨r, H, rfl, x8⟩
 refine LP_ev ok 3 [(2, .bool r)] 4 rfl rfl ?_
 refine LP_end _ rfl (W_ret ?_)
 exact ⟨_, Ret_of [.bool r] ⟨⟨rfl, rfl⟩, trivial⟩, _, H, rfl, (X.stepx x8).ext⟩

theorem spec_sFind_w (sx : List Variable) (name : ByteArray) (Q : Int → Prop) (H : spec_sFind sx name Q) (w : World) {vx : Value} {hx : PH} (r : RS hx vx sx) (ex : Sub hx w) :
  CallsTo Try.prog 187 #[vx, .string name] w fun v w' => ∃ r0, Q r0 ∧ v = I r0 ∧ Ext w w' := by
 obtain ⟨a, c, rfl⟩ := r.shape
 refine enter (args := [sl a sx c, .string name]) 20 Try.func187 rfl rfl rfl ?_
 refine W_forget [(0, sl a sx c), (1, .string name)] ⟨rfl, rfl, trivial⟩ fun ρ => ?_
 have X := But.refl emp w
 refine W_seq (W_region ?_)
 refine LP_ev ok 0 [(4, I 0)] 1 rfl rfl ?_
 refine LP_end _ rfl (W_seq ?_)
 refine W_seq (W_region ?_)
 refine LP_ev ok 0 [(7, sl a sx c), (8, I (ln sx)), (9, I 0)] 3 rfl rfl ?_
 refine LP_end _ rfl ?_
 refine W_block ?_
 obtain ⟨J, m, Hx, H⟩ := H
 refine W_loop (S := Int) (fun s ρ' w' => J s ∧ ∃ (ρ : Env), ρ' = setAll [(1, .string name), (7, sl a sx c), (8, I (ln sx)), (9, I s)] ρ ∧ But emp w w' ∧ Sub hx w') (fun s => m s) 0 ⟨Hx, _, env_eq ⟨rfl, rfl, rfl, rfl, trivial⟩, X, ex⟩ ?_
 rintro x _ wx ⟨Hi, ρ, rfl, X2, ex1⟩
 have H := H x Hi
 refine W_seq (W_region ?_)
 refine LP_ev ok 0 [(10, .bool (decide (x < (ln sx))))] 1 rfl rfl ?_
 refine LP_end _ rfl (W_seq ?_)
 refine W_cond (decide (x < (ln sx))) rfl (fun hc => ?_) (fun hc => ?_)
 ·have H := H.1 hc
  refine W_skip ?_
  refine W_seq ?_
  refine W_block ?_
  refine W_seq (W_region ?_)
  refine LP_ev ok 0 [(11, I x)] 1 rfl rfl ?_
  obtain ⟨x3, hi, hx4, H⟩ := H
  refine LP_index 1 rfl rfl rfl Try.underlying24 ti_167 rfl rfl r hi hx4 fun a5 cs r6 d => ?_
  refine LP_load 2 rfl rfl rfl ti_167 ag_167 rfl r6 d ex1 fun vx7 r8 => ?_
  obtain rfl := Variable_rv r8
  refine LP_alloc 3 rfl rfl rfl ti_167 rfl fun b wx9 x10 ex11 f => ?_
  refine LP_ev ok 4 [(5, I x)] 5 rfl rfl ?_
  refine LP_stbox 5 (vs := [.string x3.Name, I x3.Levels]) (cs' := [.string x3.Name, I x3.Levels]) rfl rfl rfl ti_167 rfl rfl rfl rfl rfl ex11 rfl rfl fun wx12 ex13 y => ?_
  refine LP_end _ rfl (W_seq (W_region ?_))
  refine LP_ev ok 0 [(14, pb b)] 1 rfl rfl ?_
  refine LP_ldbox 1 (v := .string x3.Name) rfl rfl rfl ti_9 ag_9 (fun _ => rfl) rfl ex13 rfl rfl ?_
  refine LP_ev ok 2 [(16, .string name), (17, .bool (streq x3.Name name))] 4 rfl rfl ?_
  refine LP_end _ rfl ?_
  refine W_cond (streq x3.Name name) rfl (fun hc14 => ?_) (fun hc14 => ?_)
  ·have H := H.1 hc14
   refine W_seq (W_region ?_)
   refine LP_ev ok 0 [(18, I x), (4, I x)] 2 rfl rfl ?_
   refine LP_end _ rfl (W_ret ?_)
   have f15 := f.mono X2.size
   exact ⟨_, Ret_of [I x] ⟨⟨rfl, rfl⟩, trivial⟩, _, H, rfl, ((X2.stepx x10).step y (f15.dom _)).ext⟩
  have H := H.2 hc14
  refine W_skip ?_
  refine W_region ?_
  refine LP_ev ok 0 [(19, I (wr (x + 1))), (9, I (wr (x + 1)))] 2 rfl rfl ?_
  refine LP_end _ rfl ?_
  have f17 := f.mono X2.size
  exact ⟨wr (x + 1), ⟨H.1, _, env_eq ⟨rfl, rfl, rfl, rfl, trivial⟩, ((X2.stepx x10).step y (f17.dom _)), ((ex1.ext x10).but y (Dj.of_fresh ex1 f).symm)⟩, H.2⟩
 have H := H.2 hc
 refine W_exit ?_
 refine (if_pos rfl).mpr ?_
 refine W_seq (W_region ?_)
 refine LP_ev ok 0 [(4, I ((-1)))] 1 rfl rfl ?_
 refine LP_end _ rfl (W_ret ?_)
 exact ⟨_, Ret_of [I ((-1))] ⟨⟨rfl, rfl⟩, trivial⟩, _, H, rfl, X2.ext⟩

theorem spec_sGood_w (sx : List Variable) (Q : Bool → Prop) (H : spec_sGood sx Q) (w : World) {vx : Value} {hx : PH} (r : RS hx vx sx) (ex : Sub hx w) :
  CallsTo Try.prog 120 #[vx] w fun v w' => ∃ r0, Q r0 ∧ v = .bool r0 ∧ Ext w w' := by
 obtain ⟨a, c, rfl⟩ := r.shape
 refine enter (args := [sl a sx c]) 36 Try.func120 rfl rfl rfl ?_
 refine W_forget [(0, sl a sx c)] ⟨rfl, trivial⟩ fun ρ => ?_
 have X := But.refl emp w
 refine W_seq (W_region ?_)
 refine LP_ev ok 0 [(2, .bool false)] 1 rfl rfl ?_
 refine LP_end _ rfl (W_seq ?_)
 refine W_seq (W_region ?_)
 refine LP_ev ok 0 [(5, sl a sx c), (6, I (ln sx))] 2 rfl rfl ?_
 refine LP_call 2 rfl rfl rfl cal_75 rfl (spec_l1In_w _ _ _ _ H w ) ?_
 rintro _ wx ⟨r1, H, rfl, x⟩
 refine LP_ev ok 3 [(8, .bool (!r1))] 4 rfl rfl ?_
 refine LP_end _ rfl ?_
 refine W_cond (!r1) rfl (fun hc => ?_) (fun hc => ?_)
 ·have H := H.1 hc
  refine W_seq (W_region ?_)
  refine LP_ev ok 0 [(2, .bool false)] 1 rfl rfl ?_
  refine LP_end _ rfl (W_ret ?_)
  exact ⟨_, Ret_of [.bool false] ⟨⟨rfl, rfl⟩, trivial⟩, _, H, rfl, (X.stepx x).ext⟩
 have H := H.2 hc
 refine W_skip ?_
 refine W_seq ?_
 refine W_seq (W_region ?_)
 refine LP_ev ok 0 [(9, sl a sx c), (10, I (ln sx)), (11, I 0)] 3 rfl rfl ?_
 refine LP_end _ rfl ?_
 refine W_block ?_
 obtain ⟨J, m, Hx, H⟩ := H
 refine W_loop (S := Int) (fun s ρ' w' => J s ∧ ∃ (ρ : Env), ρ' = setAll [(0, sl a sx c), (9, sl a sx c), (10, I (ln sx)), (11, I s)] ρ ∧ But emp w w' ∧ Sub hx w') (fun s => m s) 0 ⟨Hx, _, env_eq ⟨rfl, rfl, rfl, rfl, trivial⟩, (X.stepx x), (ex.ext x)⟩ ?_
 rintro x3 _ wx4 ⟨Hi, ρ, rfl, X6, ex5⟩
 have H := H x3 Hi
 refine W_seq (W_region ?_)
 refine LP_ev ok 0 [(12, .bool (decide (x3 < (ln sx))))] 1 rfl rfl ?_
 refine LP_end _ rfl (W_seq ?_)
 refine W_cond (decide (x3 < (ln sx))) rfl (fun hc9 => ?_) (fun hc9 => ?_)
 ·have H := H.1 hc9
  refine W_skip ?_
  refine W_seq ?_
  refine W_block ?_
  refine W_seq (W_region ?_)
  refine LP_ev ok 0 [(13, I x3)] 1 rfl rfl ?_
  obtain ⟨x10, hi, hx11, H⟩ := H
  refine LP_index 1 rfl rfl rfl Try.underlying24 ti_167 rfl rfl r hi hx11 fun a12 cs r13 d => ?_
  refine LP_load 2 rfl rfl rfl ti_167 ag_167 rfl r13 d ex5 fun vx14 r15 => ?_
  obtain rfl := Variable_rv r15
  refine LP_alloc 3 rfl rfl rfl ti_167 rfl fun b wx16 x17 ex18 f => ?_
  refine LP_ev ok 4 [(3, I x3)] 5 rfl rfl ?_
  refine LP_stbox 5 (vs := [.string x10.Name, I x10.Levels]) (cs' := [.string x10.Name, I x10.Levels]) rfl rfl rfl ti_167 rfl rfl rfl rfl rfl ex18 rfl rfl fun wx19 ex20 y => ?_
  refine LP_end _ rfl ?_
  have f21 := f.mono X6.size
  have X22 := ((X6.stepx x17).step y (f21.dom _))
  have ex23 := ((ex5.ext x17).but y (Dj.of_fresh ex5 f).symm)
  obtain ⟨k, hk, H⟩ := jn_elim H
  refine W_join2 (S := Bool) (fun s ρ' w' => k s ∧ ∃ (ρ : Env), ρ' = setAll [(0, sl a sx c), (9, sl a sx c), (10, I (ln sx)), (11, I x3), (34, .bool s)] ρ ∧ But emp w w' ∧ Sub hx w') ?_ ?_
  ·refine W_quiet mix (by kernel_rfl) ?_
   refine QP_ev ok 0 [(16, pb b)] 1 rfl rfl ?_
   refine QP_ldbox 1 (v := .string x10.Name) rfl rfl rfl ti_9 ag_9 (fun _ => rfl) rfl ex20 rfl rfl ?_
   obtain ⟨r28, Hd, H⟩ := H
   refine QP_call (.bool r28) 2 rfl rfl rfl cal_186 rfl (fun wx29 x30 => (spec_sName_w _ _ Hd wx29 ).mono ?_) ?_
   ·rintro _ _ ⟨_, rfl, rfl, x⟩; exact ⟨rfl, x⟩
   refine QP_ev ok 3 [(19, .bool (!r28)), (20, .bool (!r28))] 5 rfl rfl ?_
   refine QP_split 20 (!r28) rfl (fun hc31 => ?_) (fun hc31 => ?_)
   ·have H := H.1 hc31
    refine QP_ev ok 5 [(21, undef), (22, undef), (23, undef), (24, undef), (25, .bool true), (26, .bool true), (27, undef), (28, undef), (29, undef), (30, undef), (31, undef), (32, undef), (33, undef), (34, .bool true)] 19 rfl rfl ?_
    refine QP_end _ rfl fun wx32 x33 => ?_
    try refine W_forget [(0, sl a sx c), (9, sl a sx c), (10, I (ln sx)), (11, I x3), (34, .bool true)] ⟨rfl, rfl, rfl, rfl, rfl, trivial⟩ fun ρ => ?_
    exact ⟨true, H, _, env_eq ⟨rfl, rfl, rfl, rfl, rfl, trivial⟩, (X22.stepx x33), (ex23.ext x33)⟩
   have H := H.2 hc31
   refine QP_ev ok 5 [(21, .pointer (some ⟨b, 1, none⟩))] 6 rfl rfl ?_
   refine QP_ldbox 6 (v := I x10.Levels) rfl rfl rfl ti_3 ag_3 (fun _ => rfl) rfl ex20 rfl rfl ?_
   obtain ⟨r36, Hd37, H⟩ := H
   refine QP_call (.bool r36) 7 rfl rfl rfl cal_75 rfl (fun wx38 x39 => (spec_l1In_w _ _ _ _ Hd37 wx38 ).mono ?_) ?_
   ·rintro _ _ ⟨_, rfl, rfl, x⟩; exact ⟨rfl, x⟩
   refine QP_ev ok 8 [(24, .bool (!r36)), (25, .bool (!r36)), (26, .bool (!r36))] 11 rfl rfl ?_
   refine QP_split 26 (!r36) rfl (fun hc40 => ?_) (fun hc40 => ?_)
   ·have H := H.1 hc40
    refine QP_ev ok 11 [(27, undef), (28, undef), (29, undef), (30, undef), (31, undef), (32, undef), (33, undef), (34, .bool true)] 19 rfl rfl ?_
    refine QP_end _ rfl fun wx41 x42 => ?_
    try refine W_forget [(0, sl a sx c), (9, sl a sx c), (10, I (ln sx)), (11, I x3), (21, .pointer (some ⟨b, 1, none⟩)), (22, I x10.Levels), (23, .bool r36), (24, .bool (!r36)), (34, .bool true)] ⟨rfl, rfl, rfl, rfl, rfl, rfl, rfl, rfl, rfl, trivial⟩ fun ρ => ?_
    exact ⟨true, H, _, env_eq ⟨rfl, rfl, rfl, rfl, rfl, trivial⟩, (X22.stepx x42), (ex23.ext x42)⟩
   have H := H.2 hc40
   refine QP_ev ok 11 [(27, sl a sx c), (28, I x3)] 13 rfl rfl ?_
   obtain ⟨hl, hu, hn, H⟩ := H
   refine QP_slice 13 0 x3 rfl rfl rfl Try.underlying24 ti_167 rfl rfl rfl r (.inl ⟨rfl, rfl⟩) (.inr rfl) hl hu hn fun vx45 r46 => ?_
   obtain ⟨a47, c48, rfl⟩ := r46.shape
   refine QP_ev ok 14 [(30, pb b)] 15 rfl rfl ?_
   refine QP_ldbox 15 (v := .string x10.Name) rfl rfl rfl ti_9 ag_9 (fun _ => rfl) rfl ex20 rfl rfl ?_
   obtain ⟨r49, Hd50, H⟩ := H
   refine QP_call (I r49) 16 rfl rfl rfl cal_187 rfl (fun wx51 x52 => (spec_sFind_w _ _ _ Hd50 wx51 r46 (ex23.ext x52)).mono ?_) ?_
   ·rintro _ _ ⟨_, rfl, rfl, x⟩; exact ⟨rfl, x⟩
   refine QP_ev ok 17 [(33, .bool (decide (r49 ≥ 0))), (34, .bool (decide (r49 ≥ 0)))] 19 rfl rfl ?_
   refine QP_end _ rfl fun wx53 x54 => ?_
   try refine W_forget [(0, sl a sx c), (9, sl a sx c), (10, I (ln sx)), (11, I x3), (21, .pointer (some ⟨b, 1, none⟩)), (22, I x10.Levels), (23, .bool r36), (24, .bool (!r36)), (27, sl a sx c), (28, I x3), (29, .slice a47 (List.length (List.take (Int.toNat x3 - Int.toNat 0) (List.drop (Int.toNat 0) sx))) c48), (30, pb b), (31, .string x10.Name), (32, I r49), (33, .bool (decide (r49 ≥ 0))), (34, .bool (decide (r49 ≥ 0)))] ⟨rfl, rfl, rfl, rfl, rfl, rfl, rfl, rfl, rfl, rfl, rfl, rfl, rfl, rfl, rfl, rfl, trivial⟩ fun ρ => ?_
   exact ⟨decide (r49 ≥ 0), H, _, env_eq ⟨rfl, rfl, rfl, rfl, rfl, trivial⟩, (X22.stepx x54), (ex23.ext x54)⟩
  rintro x24 _ wx25 ⟨H, ρ, rfl, X27, ex26⟩
  subst hk
  refine W_cond (x24) rfl (fun hc57 => ?_) (fun hc57 => ?_)
  ·have H := H.1 hc57
   refine W_seq (W_region ?_)
   refine LP_ev ok 0 [(2, .bool false)] 1 rfl rfl ?_
   refine LP_end _ rfl (W_ret ?_)
   exact ⟨_, Ret_of [.bool false] ⟨⟨rfl, rfl⟩, trivial⟩, _, H, rfl, X27.ext⟩
  have H := H.2 hc57
  refine W_skip ?_
  refine W_region ?_
  refine LP_ev ok 0 [(35, I (wr (x3 + 1))), (11, I (wr (x3 + 1)))] 2 rfl rfl ?_
  exact LP_end _ rfl ⟨wr (x3 + 1), ⟨H.1, _, env_eq ⟨rfl, rfl, rfl, rfl, trivial⟩, X27, ex26⟩, H.2⟩
 have H := H.2 hc9
 refine W_exit ?_
 refine (if_pos rfl).mpr ?_
 refine W_seq (W_region ?_)
 refine LP_ev ok 0 [(2, .bool true)] 1 rfl rfl ?_
 refine LP_end _ rfl (W_ret ?_)
 exact ⟨_, Ret_of [.bool true] ⟨⟨rfl, rfl⟩, trivial⟩, _, H, rfl, X6.ext⟩

theorem spec_eFull_w (sx : List Variable) (vx1 : Int) (Q : Int → Prop) (H : spec_eFull sx vx1 Q) (w : World) {vx : Value} {hx : PH} (r : RS hx vx sx) (ex : Sub hx w) :
  CallsTo Try.prog 149 #[vx, I vx1] w fun v w' => ∃ r0, Q r0 ∧ v = I r0 ∧ Ext w w' := by
 obtain ⟨a, c, rfl⟩ := r.shape
 refine enter (args := [sl a sx c, I vx1]) 13 Try.func149 rfl rfl rfl ?_
 refine W_forget [(0, sl a sx c), (1, I vx1)] ⟨rfl, rfl, trivial⟩ fun ρ => ?_
 have X := But.refl emp w
 refine W_seq (W_region ?_)
 refine LP_ev ok 0 [(4, I 0)] 1 rfl rfl ?_
 refine LP_end _ rfl (W_seq (W_region ?_))
 refine LP_ev ok 0 [(5, sl a sx c), (6, I vx1)] 2 rfl rfl ?_
 obtain ⟨x, hi, hx2, H⟩ := H
 refine LP_index 2 rfl rfl rfl Try.underlying24 ti_167 rfl rfl r hi hx2 fun a3 cs r4 d => ?_
 refine LP_ev ok 3 [(8, .pointer (some (Addr.add a3 1)))] 4 rfl rfl ?_
 refine LP_ldfld (x := x) (off := 1) 4 (v := I x.Levels) rfl rfl rfl ti_3 ag_3 (fun _ => rfl) rfl r4 d ex rfl rfl ?_
 refine LP_ev ok 5 [(10, .int .u64 (IntKind.u64.wrap (x.Levels)))] 6 rfl rfl ?_
 obtain ⟨hz, H⟩ := H
 refine LP_val 6 _ rfl rfl (ex_shl rfl rfl rfl hz _) ?_
 refine LP_ev ok 7 [(12, I (wr ((shl .i64 1 (IntKind.u64.wrap (x.Levels))) - 1))), (4, I (wr ((shl .i64 1 (IntKind.u64.wrap (x.Levels))) - 1)))] 9 rfl rfl ?_
 refine LP_end _ rfl (W_ret ?_)
 exact ⟨_, Ret_of [I (wr ((shl .i64 1 (IntKind.u64.wrap (x.Levels))) - 1))] ⟨⟨rfl, rfl⟩, trivial⟩, _, H, rfl, X.ext⟩

theorem spec_l1Cur_one_w (c : L1Cur) (n : Int) (Q : Bool → Int → Int → Prop) (H : spec_l1Cur_one c n Q) (w : World) {vx : Value} {hx : PH} (r : RS hx vx c.Code) (ex : Sub hx w) {b : Nat} (ex2 : Sub (bx b 99 [vx, I c.At, .int .u64 c.Seed]) w) (d : Dj (bx b 99 [vx, I c.At, .int .u64 c.Seed]) hx) :
  CallsTo Try.prog 147 #[pb b, I n] w fun v w' => ∃ r0 m1_0 m1_1, Q r0 m1_0 m1_1 ∧ v = .bool r0 ∧ But (bx b 99 [vx, I c.At, .int .u64 c.Seed]) w w' ∧ Sub (bx b 99 [vx, I m1_0, .int .u64 m1_1]) w' := by
 obtain ⟨a, c1, rfl⟩ := r.shape
 refine enter (args := [pb b, I n]) 9 Try.func147 rfl rfl rfl ?_
 refine W_forget [(0, pb b), (1, I n)] ⟨rfl, rfl, trivial⟩ fun ρ => ?_
 have D : Dom (bx b 99 [sl a c.Code c1, I c.At, .int .u64 c.Seed]) (bx b 99 [sl a c.Code c1, I c.At, .int .u64 c.Seed]) := (Dom.refl _)
 have X := But.refl (bx b 99 [sl a c.Code c1, I c.At, .int .u64 c.Seed]) w
 refine W_seq (W_region ?_)
 refine LP_ev ok 0 [(4, .bool false)] 1 rfl rfl ?_
 refine LP_end _ rfl (W_seq (W_region ?_))
 refine LP_ev ok 0 [(5, pb b), (6, I n)] 2 rfl rfl ?_
 refine LP_call 2 rfl rfl rfl cal_73 rfl (spec_l1Cur_pick_w _ _ _ H w r ex ex2 d) ?_
 rintro _ wx ⟨r3, r4, r5, H, rfl, x, ex6⟩
 refine LP_ev ok 3 [(8, .bool (r3 == 0)), (4, .bool (r3 == 0))] 5 rfl rfl ?_
 refine LP_end _ rfl (W_ret ?_)
 exact ⟨_, Ret_of [.bool (r3 == 0)] ⟨⟨rfl, rfl⟩, trivial⟩, _, _, _, H, rfl, (X.step x (Dom.le D _)), ex6⟩

theorem spec_l1Cur_edit_w (c : L1Cur) (sx : List Variable) (Q : Edit → Int → Int → Prop) (H : spec_l1Cur_edit c sx Q) (w : World) {vx : Value} {hx : PH} (r : RS hx vx c.Code) (ex : Sub hx w) {b : Nat} (ex2 : Sub (bx b 99 [vx, I c.At, .int .u64 c.Seed]) w) {vx3 : Value} {hx4 : PH} (r5 : RS hx4 vx3 sx) (ex6 : Sub hx4 w) (d : Dj (bx b 99 [vx, I c.At, .int .u64 c.Seed]) hx) (d9 : Dj (bx b 99 [vx, I c.At, .int .u64 c.Seed]) hx4) :
  CallsTo Try.prog 205 #[pb b, vx3] w fun v w' => ∃ r0 m1_0 m1_1 u0_0 g0_0, Q r0 m1_0 m1_1 ∧ v = .agg #[u0_0] ∧ But (bx b 99 [vx, I c.At, .int .u64 c.Seed]) w w' ∧ OS 3 g0_0 emp u0_0 r0.Sets ∧ Sub g0_0 w' ∧ Fresh w.heap.size g0_0 ∧ Sub (bx b 99 [vx, I m1_0, .int .u64 m1_1]) w' ∧ Dj g0_0 (bx b 99 [vx, I m1_0, .int .u64 m1_1]) := by
 obtain ⟨a, c1, rfl⟩ := r.shape
 obtain ⟨a7, c8, rfl⟩ := r5.shape
 refine enter (args := [pb b, sl a7 sx c8]) 34 Try.func205 rfl rfl rfl ?_
 refine W_forget [(0, pb b), (1, sl a7 sx c8)] ⟨rfl, rfl, trivial⟩ fun ρ => ?_
 have D : Dom (bx b 99 [sl a c.Code c1, I c.At, .int .u64 c.Seed]) (bx b 99 [sl a c.Code c1, I c.At, .int .u64 c.Seed]) := (Dom.refl _)
 have X := But.refl (bx b 99 [sl a c.Code c1, I c.At, .int .u64 c.Seed]) w
 refine W_seq (W_region ?_)
 refine LP_alloc 0 rfl rfl rfl ti_33 rfl fun b10 wx x ex11 f => ?_
 refine LP_end _ rfl (W_seq (W_region ?_))
 refine LP_ev ok 0 [(9, .agg #[.slice none 0 0])] 1 rfl rfl ?_
 refine LP_alloc 1 rfl rfl rfl ti_33 rfl fun b12 wx13 x14 ex15 f16 => ?_
 refine LP_stbox 2 (vs := [.slice none 0 0]) (cs' := [.slice none 0 0]) rfl rfl rfl ti_33 rfl rfl rfl rfl rfl ex15 rfl rfl fun wx17 ex18 y => ?_
 refine LP_end _ rfl (W_seq ?_)
 refine W_seq (W_region ?_)
 refine LP_ev ok 0 [(10, sl a7 sx c8), (11, I (ln sx)), (12, I 0)] 3 rfl rfl ?_
 refine LP_end _ rfl ?_
 refine W_block ?_
 have xc := (x.trans x14)
 have f38 := f16.mono (X.stepx x).size
 have ex46 := (ex2.ext x)
 obtain ⟨J, m, Hx, H⟩ := H
 refine W_loop (S := Int × Int × Int × (List Int)) (fun s ρ' w' => J s.1 s.2.1 s.2.2.1 s.2.2.2 ∧ ∃ (ρ : Env) (vx20 : Value) (hx21 : PH), ρ' = setAll [(0, pb b), (1, sl a7 sx c8), (4, pb b10), (5, pb b12), (11, I (ln sx)), (12, I s.1)] ρ ∧ But (bx b 99 [sl a c.Code c1, I c.At, .int .u64 c.Seed]) w w' ∧ OS 3 hx21 emp vx20 s.2.2.2 ∧ Sub hx21 w' ∧ Fresh w.heap.size hx21 ∧ Sub hx w' ∧ Sub hx4 w' ∧ Sub (bx b10 33 [.slice none 0 0]) w' ∧ Sub (bx b 99 [sl a c.Code c1, I s.2.1, .int .u64 s.2.2.1]) w' ∧ Sub (bx b12 33 [vx20]) w' ∧ Dj hx21 hx ∧ Dj hx21 hx4 ∧ Dj hx21 (bx b10 33 [.slice none 0 0]) ∧ Dj hx21 (bx b 99 [sl a c.Code c1, I s.2.1, .int .u64 s.2.2.1]) ∧ Dj hx21 (bx b12 33 [vx20])) (fun s => m s.1 s.2.1 s.2.2.1 s.2.2.2) (0, c.At, c.Seed, []) ⟨Hx, _, .slice none 0 0, emp, env_eq ⟨rfl, rfl, rfl, rfl, rfl, rfl, trivial⟩, ((X.stepx xc).step y (f38.dom _)), OS.nil, (emp_sub _), (emp_fresh _), ((ex.ext xc).but y (Dj.of_fresh (ex.ext x) f16).symm), ((ex6.ext xc).but y (Dj.of_fresh (ex6.ext x) f16).symm), ((ex11.ext x14).but y (Dj.of_fresh ex11 f16).symm), ((ex2.ext xc).but y (Dj.of_fresh ex46 f16).symm), ex18, (fun _ => .inl rfl), (fun _ => .inl rfl), (fun _ => .inl rfl), (fun _ => .inl rfl), (fun _ => .inl rfl)⟩ ?_
 rintro ⟨x19, atx, seed, sets⟩ _ wx24 ⟨Hi, ρ, vx20, hx21, rfl, HF⟩
 revert HF
 refine bb9 fun X37 o ex22 f23 ex25 ex26 ex27 ex30 => ?_
 refine bb6 fun ex31 d32 d33 d34 d35 d36 => ?_
 have H := H x19 atx seed sets Hi
 obtain ⟨a28, c29, rfl⟩ := o.shape
 refine W_seq (W_region ?_)
 refine LP_ev ok 0 [(13, .bool (decide (x19 < (ln sx))))] 1 rfl rfl ?_
 refine LP_end _ rfl (W_seq ?_)
 refine W_cond (decide (x19 < (ln sx))) rfl (fun hc => ?_) (fun hc => ?_)
 ·have H := H.1 hc
  refine W_skip ?_
  refine W_seq ?_
  refine W_block ?_
  refine W_seq (W_region ?_)
  refine LP_ev ok 0 [(14, I x19), (6, I x19)] 2 rfl rfl ?_
  refine LP_end _ rfl (W_seq (W_region ?_))
  refine LP_ev ok 0 [(15, sl a7 sx c8), (16, I x19)] 2 rfl rfl ?_
  refine LP_call 2 rfl rfl rfl cal_149 rfl (spec_eFull_w _ _ _ H wx24 r5 ex26) ?_
  rintro _ wx49 ⟨r48, H, rfl, x50⟩
  refine LP_ev ok 3 [(7, I r48)] 4 rfl rfl ?_
  refine LP_end _ rfl (W_seq (W_region ?_))
  refine LP_ev ok 0 [(18, I r48), (8, I r48)] 2 rfl rfl ?_
  refine LP_end _ rfl ?_
  have X51 := (X37.stepx x50)
  have ex52 := (ex25.ext x50)
  have ex54 := (ex26.ext x50)
  have ex55 := (ex27.ext x50)
  have ex57 := (ex31.ext x50)
  have ex58 := (ex22.ext x50)
  obtain ⟨k, hk, H⟩ := jn_elim H
  refine W_join2 (S := Int × Int × Int) (fun s ρ' w' => k s.1 s.2.1 s.2.2 ∧ ∃ (ρ : Env), ρ' = setAll [(0, pb b), (1, sl a7 sx c8), (4, pb b10), (5, pb b12), (8, I s.1), (11, I (ln sx)), (12, I x19)] ρ ∧ But (bx b 99 [sl a c.Code c1, I c.At, .int .u64 c.Seed]) w w' ∧ Sub hx w' ∧ Sub hx4 w' ∧ Sub (bx b10 33 [.slice none 0 0]) w' ∧ Sub (bx b12 33 [sl a28 sets c29]) w' ∧ Sub hx21 w' ∧ Sub (bx b 99 [sl a c.Code c1, I s.2.1, .int .u64 s.2.2]) w') ?_ ?_
  ·refine W_seq (W_region ?_)
   refine LP_ev ok 0 [(19, pb b)] 1 rfl rfl ?_
   refine LP_call 1 rfl rfl rfl cal_147 rfl (spec_l1Cur_one_w _ _ _ H wx49 r ex52 (ex30.ext x50) (Dj.box d)) ?_
   rintro _ wx73 ⟨r70, r71, r72, H, rfl, x74, ex75⟩
   refine LP_ev ok 2 [(21, .bool (!r70))] 3 rfl rfl ?_
   refine LP_end _ rfl ?_
   refine W_cond (!r70) rfl (fun hc76 => ?_) (fun hc76 => ?_)
   ·have H := H.1 hc76
    refine W_region ?_
    refine LP_ev ok 0 [(22, pb b), (23, I r48)] 2 rfl rfl ?_
    have ex80 := (ex52.but x74 (Dj.box d))
    refine LP_call 2 rfl rfl rfl cal_73 rfl (spec_l1Cur_pick_w _ _ _ H wx73 r ex80 ex75 (Dj.box d)) ?_
    rintro _ wx81 ⟨r77, r78, r79, H, rfl, x82, ex83⟩
    refine LP_ev ok 3 [(25, I (wr (1 + r77))), (8, I (wr (1 + r77)))] 5 rfl rfl ?_
    exact LP_end _ rfl ⟨(wr (1 + r77), r78, r79), H, _, env_eq ⟨rfl, rfl, rfl, rfl, rfl, rfl, rfl, trivial⟩, ((X51.step x74 (DomLe.dom D single_dom)).step x82 (DomLe.dom D single_dom)), (ex80.but x82 (Dj.box d)), ((ex54.but x74 (Dj.box d9)).but x82 (Dj.box d9)), ((ex55.but x74 (Dj.box (Dj.of_fresh ex2 f))).but x82 (Dj.box (Dj.of_fresh ex2 f))), ((ex57.but x74 (Dj.box (Dj.box (Dj.of_fresh ex46 f16)).symm).symm).but x82 (Dj.box (Dj.box (Dj.of_fresh ex46 f16)).symm).symm), ((ex58.but x74 d35.symm).but x82 (Dj.box d35.symm)), ex83⟩
   have H := H.2 hc76
   exact W_skip ⟨(r48, r71, r72), H, _, env_eq ⟨rfl, rfl, rfl, rfl, rfl, rfl, rfl, trivial⟩, (X51.step x74 (DomLe.dom D single_dom)), (ex52.but x74 (Dj.box d)), (ex54.but x74 (Dj.box d9)), (ex55.but x74 (Dj.box (Dj.of_fresh ex2 f))), (ex57.but x74 (Dj.box (Dj.box (Dj.of_fresh ex46 f16)).symm).symm), (ex58.but x74 d35.symm), ex75⟩
  rintro ⟨x59, atx60, seed61⟩ _ wx62 ⟨H, ρ, rfl, HF⟩
  revert HF
  refine bb7 fun X69 ex63 ex64 ex65 ex66 ex67 ex68 => ?_
  subst hk
  refine W_region ?_
  refine LP_ev ok 0 [(26, pb b12)] 1 rfl rfl ?_
  refine LP_ldbox 1 (v := sl a28 sets c29) rfl rfl rfl ti_31 ag_31 (fun _ => rfl) rfl ex66 rfl rfl ?_
  refine LP_ev ok 2 [(28, I x59)] 3 rfl rfl ?_
  refine LP_lit (α := Int) (g := emp) 3 (vs := [I x59]) (xs := [x59]) rfl rfl rfl Try.underlying31 ti_3 rfl rfl ⟨⟨_, rfl, rfl⟩, trivial⟩ rfl rfl fun hx96 vx97 wx98 x99 o100 ex101 f102 => ?_
  obtain ⟨a103, c104, rfl⟩ := o100.shape
  obtain ⟨hb, H⟩ := H
  refine LP_appendf (α := Int) 4 rfl rfl rfl Try.underlying31 ti_3 rfl rfl rfl o (ex67.ext x99) o100.readf ex101 (by first | omega | (simp only [ln] at *; omega)) (by first | omega | (simp only [ln] at *; omega)) fun hx106 vx107 wx108 o109 ex110 y111 dm => ?_
  obtain ⟨a112, c113, rfl⟩ := o109.shape
  refine LP_ev ok 5 [(31, pb b12)] 6 rfl rfl ?_
  refine LP_stbox 6 (vs := [.slice a112 (List.length (sets ++ ([x59]))) c113]) (cs' := [.slice a112 (List.length (sets ++ ([x59]))) c113]) rfl rfl rfl ti_31 rfl rfl rfl rfl rfl ((ex66.ext x99).but y111 d36) rfl rfl fun wx114 ex115 y116 => ?_
  refine LP_end _ rfl ?_
  refine W_region ?_
  refine LP_ev ok 0 [(32, I (wr (x19 + 1))), (12, I (wr (x19 + 1)))] 2 rfl rfl ?_
  refine LP_end _ rfl ?_
  have ex119 := (ex66.ext x99)
  have f121 := dm.fresh f23 (X69.stepx x99).size
  exact ⟨(wr (x19 + 1), atx60, seed61, sets ++ ([x59])), ⟨H.1, _, .slice a112 (List.length (sets ++ ([x59]))) c113, hx106, env_eq ⟨rfl, rfl, rfl, rfl, rfl, rfl, trivial⟩, (((X69.stepx x99).step y111 (f23.dom _)).step y116 ((Fresh.box f38).dom _)), o109, (ex110.but y116 (DomLe.dj dm d36 ex119).symm), f121, (((ex63.ext x99).but y111 d32).but y116 (Dj.box (Dj.of_fresh (ex.ext x) f16).symm)), (((ex64.ext x99).but y111 d33).but y116 (Dj.box (Dj.of_fresh (ex6.ext x) f16).symm)), (((ex65.ext x99).but y111 d34).but y116 (Dj.box (Dj.of_fresh ex11 f16).symm)), (((ex68.ext x99).but y111 (Dj.box d35.symm).symm).but y116 (Dj.box (Dj.box (Dj.of_fresh ex46 f16).symm).symm).symm), ex115, (DomLe.dj dm d32 (ex63.ext x99)), (DomLe.dj dm d33 (ex64.ext x99)), (DomLe.dj dm d34 (ex65.ext x99)), (DomLe.dj dm (Dj.box d35.symm).symm (ex68.ext x99)), (Dj.box (DomLe.dj dm d36 ex119).symm).symm⟩, H.2⟩
 have H := H.2 hc
 refine W_exit ?_
 refine (if_pos rfl).mpr ?_
 refine W_seq (W_region ?_)
 refine LP_ldbox 0 (v := .agg #[sl a28 sets c29]) rfl rfl rfl ti_33 ag_33 (fun h => by cases h) rfl ex31 rfl rfl ?_
 refine LP_stbox 1 (vs := [sl a28 sets c29]) (cs' := [sl a28 sets c29]) rfl rfl rfl ti_33 rfl rfl rfl rfl rfl ex27 rfl rfl fun wx133 ex134 y135 => ?_
 refine LP_end _ rfl (W_ret ?_)
 have f138 := f.mono X.size
 exact ⟨_, Ret_of [.agg #[sl a28 sets c29]] ⟨⟨_, rfl, rfl, ld_res ti_33 ag_33 (fun h => by cases h) ex134 rfl rfl⟩, trivial⟩, _, _, _, _, _, H, rfl, (X37.step y135 (f138.dom _)), o, (ex22.but y135 d34.symm), f23, (ex30.but y135 (Dj.box (Dj.of_fresh ex2 f).symm.symm).symm), d35⟩

theorem spec_l1Cur_anyEdit_w (c : L1Cur) (sx : List Variable) (Q : Edit → Int → Int → Prop) (H : spec_l1Cur_anyEdit c sx Q) (w : World) {vx : Value} {hx : PH} (r : RS hx vx c.Code) (ex : Sub hx w) {b : Nat} (ex2 : Sub (bx b 99 [vx, I c.At, .int .u64 c.Seed]) w) {vx3 : Value} {hx4 : PH} (r5 : RS hx4 vx3 sx) (ex6 : Sub hx4 w) (d : Dj (bx b 99 [vx, I c.At, .int .u64 c.Seed]) hx) (d9 : Dj (bx b 99 [vx, I c.At, .int .u64 c.Seed]) hx4) :
  CallsTo Try.prog 146 #[pb b, vx3] w fun v w' => ∃ r0 m1_0 m1_1 u0_0 g0_0, Q r0 m1_0 m1_1 ∧ v = .agg #[u0_0] ∧ But (bx b 99 [vx, I c.At, .int .u64 c.Seed]) w w' ∧ OS 3 g0_0 emp u0_0 r0.Sets ∧ Sub g0_0 w' ∧ Fresh w.heap.size g0_0 ∧ Sub (bx b 99 [vx, I m1_0, .int .u64 m1_1]) w' ∧ Dj g0_0 (bx b 99 [vx, I m1_0, .int .u64 m1_1]) := by
 obtain ⟨a, c1, rfl⟩ := r.shape
 obtain ⟨a7, c8, rfl⟩ := r5.shape
 refine enter (args := [pb b, sl a7 sx c8]) 37 Try.func146 rfl rfl rfl ?_
 refine W_forget [(0, pb b), (1, sl a7 sx c8)] ⟨rfl, rfl, trivial⟩ fun ρ => ?_
 have D : Dom (bx b 99 [sl a c.Code c1, I c.At, .int .u64 c.Seed]) (bx b 99 [sl a c.Code c1, I c.At, .int .u64 c.Seed]) := (Dom.refl _)
 have X := But.refl (bx b 99 [sl a c.Code c1, I c.At, .int .u64 c.Seed]) w
 refine W_seq (W_region ?_)
 refine LP_alloc 0 rfl rfl rfl ti_33 rfl fun b10 wx x ex11 f => ?_
 refine LP_end _ rfl (W_seq ?_)
 refine W_seq (W_region ?_)
 refine LP_ev ok 0 [(6, sl a7 sx c8)] 1 rfl rfl ?_
 have ex13 := (ex6.ext x)
 refine LP_call 1 rfl rfl rfl cal_120 rfl (spec_sGood_w _ _ H wx r5 ex13) ?_
 rintro _ wx14 ⟨r12, H, rfl, x15⟩
 refine LP_ev ok 2 [(8, .bool (!r12))] 3 rfl rfl ?_
 refine LP_end _ rfl ?_
 refine W_cond (!r12) rfl (fun hc => ?_) (fun hc => ?_)
 ·have H := H.1 hc
  refine W_seq (W_region ?_)
  refine LP_lit (α := Int) (g := emp) 0 (vs := [I 1]) (xs := [1]) rfl rfl rfl Try.underlying31 ti_3 rfl rfl ⟨⟨_, rfl, rfl⟩, trivial⟩ rfl rfl fun hx16 vx17 wx18 x19 o ex20 f21 => ?_
  obtain ⟨a22, c23, rfl⟩ := o.shape
  refine LP_ev ok 1 [(10, .agg #[.slice a22 (List.length ([1])) c23])] 2 rfl rfl ?_
  refine LP_stbox 2 (vs := [.slice a22 (List.length ([1])) c23]) (cs' := [.slice a22 (List.length ([1])) c23]) rfl rfl rfl ti_33 rfl rfl rfl rfl rfl (ex11.ext (x15.trans x19)) rfl rfl fun wx24 ex25 y => ?_
  refine LP_end _ rfl (W_ret ?_)
  have xc30 := (x.trans x15)
  have X31 := (X.stepx xc30)
  have f29 := f21.mono X31.size
  have f35 := f.mono X.size
  exact ⟨_, Ret_of [.agg #[.slice a22 (List.length ([1])) c23]] ⟨⟨_, rfl, rfl, ld_res ti_33 ag_33 (fun h => by cases h) ex25 rfl rfl⟩, trivial⟩, _, _, _, _, _, H, rfl, ((X31.stepx x19).step y (f35.dom _)), o, (ex20.but y (Dj.of_fresh (ex11.ext x15) f21)), f29, ((ex2.ext (xc30.trans x19)).but y (Dj.of_fresh ex2 f).symm), (Dj.of_fresh (ex2.ext xc30) f21).symm⟩
 have H := H.2 hc
 refine W_skip ?_
 refine W_seq (W_region ?_)
 refine LP_ev ok 0 [(11, pb b), (12, sl a7 sx c8)] 2 rfl rfl ?_
 have xc40 := (x.trans x15)
 have ex41 := (ex.ext xc40)
 refine LP_call 2 rfl rfl rfl cal_205 rfl (spec_l1Cur_edit_w _ _ _ H wx14 r ex41 (ex2.ext xc40) r5 (ex13.ext x15) d d9) ?_
 rintro _ wx44 ⟨r37, r38, r39, vx46, hx47, H, rfl, x45, HF⟩
 revert HF
 refine bb5 fun o48 ex49 f50 ex51 d52 => ?_
 obtain ⟨a53, c54, rfl⟩ := o48.shape
 refine LP_alloc 3 rfl rfl rfl ti_33 rfl fun b55 wx56 x57 ex58 f59 => ?_
 refine LP_stbox 4 (vs := [sl a53 r37.Sets c54]) (cs' := [sl a53 r37.Sets c54]) rfl rfl rfl ti_33 rfl rfl rfl rfl rfl ex58 rfl rfl fun wx60 ex61 y62 => ?_
 refine LP_end _ rfl ?_
 have f63 := f59.mono ((X.stepx xc40).step x45 (Dom.le D _)).size
 have X65 := ((((X.stepx xc40).step x45 (Dom.le D _)).stepx x57).step y62 (f63.dom _))
 have ex66 := (ex41.but x45 d)
 have ex67 := (((ex41.but x45 d).ext x57).but y62 (Dj.of_fresh ex66 f59).symm)
 have ex69 := ((ex11.ext x15).but x45 (Dj.of_fresh ex2 f))
 have ex70 := ((((ex11.ext x15).but x45 (Dj.of_fresh ex2 f)).ext x57).but y62 (Dj.of_fresh ex69 f59).symm)
 have f71 := f.mono X.size
 have ex72 := ((ex49.ext x57).but y62 (Dj.of_fresh ex49 f59).symm)
 have f73 := f50.mono (X.stepx xc40).size
 obtain ⟨k, hk, H⟩ := jn_elim H
 refine W_join2 (S := Int × Int × (List Int)) (fun s ρ' w' => k s.1 s.2.1 s.2.2 ∧ ∃ (ρ : Env) (vx75 : Value) (hx76 : PH), ρ' = setAll [(4, pb b10), (5, pb b55)] ρ ∧ But (bx b 99 [sl a c.Code c1, I c.At, .int .u64 c.Seed]) w w' ∧ OS 3 hx76 emp vx75 s.2.2 ∧ Sub hx76 w' ∧ Fresh w.heap.size hx76 ∧ Sub hx w' ∧ Sub (bx b10 33 [.slice none 0 0]) w' ∧ Sub (bx b 99 [sl a c.Code c1, I s.1, .int .u64 s.2.1]) w' ∧ Sub (bx b55 33 [vx75]) w' ∧ Dj hx76 hx ∧ Dj hx76 (bx b10 33 [.slice none 0 0]) ∧ Dj hx76 (bx b 99 [sl a c.Code c1, I s.1, .int .u64 s.2.1]) ∧ Dj hx76 (bx b55 33 [vx75])) ?_ ?_
 ·refine W_seq (W_region ?_)
  refine LP_ev ok 0 [(14, pb b)] 1 rfl rfl ?_
  refine LP_call 1 rfl rfl rfl cal_73 rfl (spec_l1Cur_pick_w _ _ _ H wx60 r ex67 ((ex51.ext x57).but y62 (Dj.of_fresh ex51 f59).symm) (Dj.box d)) ?_
  rintro _ wx95 ⟨r92, r93, r94, H, rfl, x96, ex97⟩
  refine LP_end _ rfl ?_
  refine W_block ?_
  refine W_seq (W_region ?_)
  refine LP_ev ok 0 [(17, .bool (r92 == 0)), (16, .bool (r92 == 0))] 2 rfl rfl ?_
  refine LP_end _ rfl ?_
  refine W_cond (r92 == 0) rfl (fun hc98 => ?_) (fun hc98 => ?_)
  ·have H := H.1 hc98
   refine W_open mix fun wx99 x100 => ?_
   have X101 := ((X65.step x96 (DomLe.dom D single_dom)).stepx x100)
   have ex102 := ((ex67.but x96 (Dj.box d)).ext x100)
   have ex103 := (ex97.ext x100)
   have ex104 := ((ex70.but x96 (Dj.box (Dj.of_fresh ex2 f))).ext x100)
   have ex105 := ((ex72.but x96 d52.symm).ext x100)
   have ex106 := ((ex61.but x96 (Dj.box (Dj.of_fresh ex51 f59).symm).symm).ext x100)
   refine AP_gameT 10 [[], [0], [], [], [3], [3, 4], [2, 3, 4, 5], [], [], [2, 3, 4, 5, 6, 7, 8], [0, 1, 2, 3, 4, 5, 6, 7, 8, 9], [0, 1, 2, 3, 4, 5, 6, 7, 8, 9, 10]] [[(5, none)], [(18, some 0)], [(0, none)], [(5, none)], [(21, some 3)], [(22, some 4)], [(20, some 2), (23, some 5)], [(0, none)], [], [(25, some 7), (26, some 8)]] [(4, none), (5, none), (19, some 1), (24, some 6), (27, some 9)] [0, 1, 2, 3, 4, 5, 6, 7, 8, 9] (by kernel_rfl) (by kernel_rfl) 10 ?_
   refine GT_ev 0 ok [(5, pb b55)] (pb b55) rfl (by kernel_rfl) rfl (fun _ h => h) (fun _ => rfl) ?_
   refine GT_r1 1 [(18, pb b55)] (sl a53 r37.Sets c54) rfl (by kernel_rfl) rfl (fun _ h => h) (fun _ w e => ex_ldbox rfl ti_31 ag_31 (fun _ => rfl) rfl e rfl rfl) ex106 ?_
   refine GT_ev 2 ok [(0, pb b)] (pb b) rfl (by kernel_rfl) rfl (fun _ h => h) (fun _ => rfl) ?_
   refine GT_ev 3 ok [(5, pb b55)] (pb b55) rfl (by kernel_rfl) rfl (fun _ h => h) (fun _ => rfl) ?_
   refine GT_r1 4 [(21, pb b55)] (sl a53 r37.Sets c54) rfl (by kernel_rfl) rfl (fun _ h => h) (fun _ w e => ex_ldbox rfl ti_31 ag_31 (fun _ => rfl) rfl e rfl rfl) ex106 ?_
   refine GT_ev 5 ok [(22, sl a53 r37.Sets c54)] (I (ln r37.Sets)) rfl (by kernel_rfl) rfl (fun _ h => h) (fun _ => rfl) ?_
   refine GT_ev 7 ok [(0, pb b)] (pb b) rfl (by kernel_rfl) rfl (fun _ h => h) (fun _ => rfl) ?_
   refine GT_hd [6, 8] (by kernel_rfl) ⟨?_, ?_, trivial⟩
   ·have H := H.1
    refine GT_lp [(20, pb b), (23, I (ln r37.Sets))] rfl (by kernel_rfl) rfl (fun _ h => h) rfl fun ρ wx107 x108 => ?_
    have ex112 := (ex102.ext x108)
    refine LP_call 0 rfl rfl rfl cal_73 rfl (spec_l1Cur_pick_w _ _ _ H wx107 r ex112 (ex103.ext x108) (Dj.box d)) ?_
    rintro _ wx114 ⟨r109, r110, r111, H, rfl, x115, ex116⟩
    have ex117 := ((ex106.ext x108).but x115 (Dj.box (Dj.box (Dj.of_fresh ex51 f59)).symm).symm)
    refine LP_gs ⟨⟨.inl rfl, .inr ex117, trivial⟩, ?_⟩
    refine GT_hd [8] (by kernel_rfl) ⟨GT_lp [] rfl (by kernel_rfl) rfl (fun _ h => h) rfl fun ρ wx118 x119 => ?_, trivial⟩
    refine LP_lit (α := Int) (g := emp) 0 (vs := [I 0, I ((-1)), I 256, I 4]) (xs := [0, (-1), 256, 4]) rfl rfl rfl Try.underlying31 ti_3 rfl rfl ⟨⟨_, rfl, rfl⟩, ⟨_, rfl, rfl⟩, ⟨_, rfl, rfl⟩, ⟨_, rfl, rfl⟩, trivial⟩ rfl rfl fun hx120 vx121 wx122 x123 o124 ex125 f126 => ?_
    obtain ⟨a127, c128, rfl⟩ := o124.shape
    have xc129 := (x119.trans x123)
    have ex131 := (ex117.ext xc129)
    refine LP_gs ⟨⟨.inr (((ex106.ext x108).but x115 (Dj.box (Dj.box (Dj.of_fresh ex51 f59)).symm).symm).ext xc129), .inr ex131, trivial⟩, ?_⟩
    refine GT_hd [9] (by kernel_rfl) ⟨GT_lp [(25, pb b), (26, .slice a127 (List.length ([0, (-1), 256, 4])) c128)] rfl (by kernel_rfl) rfl (fun _ h => h) rfl fun ρ wx132 x133 => ?_, trivial⟩
    have ex134 := (ex116.ext x119)
    have xc138 := (xc129.trans x133)
    have ex139 := ((ex112.but x115 (Dj.box d)).ext xc138)
    refine LP_call 0 rfl rfl rfl cal_180 rfl (spec_l1Cur_among_w _ _ _ H wx132 r ex139 (ex134.ext (x123.trans x133)) o124.readf (ex125.ext x133) (Dj.box d) (Dj.of_fresh ex134 f126)) ?_
    rintro _ wx143 ⟨r135, r136, r137, H, rfl, x144, ex145⟩
    refine LP_gs ⟨⟨.inl rfl, .inr ((ex131.ext x133).but x144 (Dj.box (Dj.box (Dj.of_fresh ex51 f59)).symm).symm), trivial⟩, ?_⟩
    refine GT_end (by kernel_rfl) ?_
    intro wx147 x148 ρ hn
    refine AP_forget [(4, pb b10), (5, pb b55), (19, sl a53 r37.Sets c54), (24, I r109), (27, I r135)] (by exact hn) fun ρ => ?_
    refine AP_tail 10 [[], [0], [], [], [3], [3, 4], [2, 3, 4, 5], [], [], [2, 3, 4, 5, 6, 7, 8], [0, 1, 2, 3, 4, 5, 6, 7, 8, 9], [0, 1, 2, 3, 4, 5, 6, 7, 8, 9, 10]] (by kernel_rfl) ?_
    obtain ⟨hi, hl, H⟩ := H
    refine LP_indexw (v := sl a53 r37.Sets c54) 10 rfl rfl rfl Try.underlying31 ti_3 rfl rfl o48 hi hl fun a149 wa => ?_
    refine LP_set 11 rfl rfl rfl rfl rfl wa (Le.refl emp) ⟨_, rfl, rfl⟩ (((((ex105.ext x108).but x115 (Dj.box d52.symm)).ext xc138).but x144 (Dj.box d52.symm)).ext x148) fun hx150 wx151 o152 ex153 y154 dm => ?_
    refine LP_end _ rfl ?_
    have f157 := (dm _).fresh f73 (((((X101.stepx x108).step x115 (DomLe.dom D single_dom)).stepx xc138).step x144 (DomLe.dom D single_dom)).stepx x148).size
    have ex160 := (ex11.ext x15)
    exact ⟨(r136, r137, List.set r37.Sets (Int.toNat r109) r135), H, _, sl a53 r37.Sets c54, hx150, env_eq ⟨rfl, rfl, trivial⟩, ((((((X101.stepx x108).step x115 (DomLe.dom D single_dom)).stepx xc138).step x144 (DomLe.dom D single_dom)).stepx x148).step y154 (f73.dom _)), o152, ex153, f157, (((ex139.but x144 (Dj.box d)).ext x148).but y154 (Dj.of_fresh ex41 f50).symm), ((((((ex104.ext x108).but x115 (Dj.box (Dj.of_fresh ex2 f))).ext xc138).but x144 (Dj.box (Dj.of_fresh ex2 f))).ext x148).but y154 (Dj.of_fresh ex160 f50).symm), ((ex145.ext x148).but y154 (Dj.box d52.symm).symm), ((((((ex106.ext x108).but x115 (Dj.box (Dj.box (Dj.of_fresh ex51 f59)).symm).symm).ext xc138).but x144 (Dj.box (Dj.box (Dj.of_fresh ex51 f59)).symm).symm).ext x148).but y154 (Dj.box (Dj.of_fresh ex49 f59).symm).symm), (DomLe.dj (dm _) (Dj.of_fresh ex41 f50).symm ((ex139.but x144 (Dj.box d)).ext x148)), (DomLe.dj (dm _) (Dj.of_fresh ex160 f50).symm (((((ex104.ext x108).but x115 (Dj.box (Dj.of_fresh ex2 f))).ext xc138).but x144 (Dj.box (Dj.of_fresh ex2 f))).ext x148)), (DomLe.dj (dm _) (Dj.box d52.symm).symm (ex145.ext x148)), (DomLe.dj (dm _) (Dj.box (Dj.of_fresh ex49 f59).symm).symm (((((ex106.ext x108).but x115 (Dj.box (Dj.box (Dj.of_fresh ex51 f59)).symm).symm).ext xc138).but x144 (Dj.box (Dj.box (Dj.of_fresh ex51 f59)).symm).symm).ext x148))⟩
   ·have H := H.2
    refine GT_lp [] rfl (by kernel_rfl) rfl (fun _ h => h) rfl fun ρ wx168 x169 => ?_
    refine LP_lit (α := Int) (g := emp) 0 (vs := [I 0, I ((-1)), I 256, I 4]) (xs := [0, (-1), 256, 4]) rfl rfl rfl Try.underlying31 ti_3 rfl rfl ⟨⟨_, rfl, rfl⟩, ⟨_, rfl, rfl⟩, ⟨_, rfl, rfl⟩, ⟨_, rfl, rfl⟩, trivial⟩ rfl rfl fun hx170 vx171 wx172 x173 o174 ex175 f176 => ?_
    obtain ⟨a177, c178, rfl⟩ := o174.shape
    have xc179 := (x169.trans x173)
    have ex181 := (ex106.ext xc179)
    refine LP_gs ⟨⟨.inr (ex106.ext xc179), .inr ex181, trivial⟩, ?_⟩
    refine GT_hd [6] (by kernel_rfl) ⟨GT_lp [(20, pb b), (23, I (ln r37.Sets))] rfl (by kernel_rfl) rfl (fun _ h => h) rfl fun ρ wx182 x183 => ?_, trivial⟩
    have xc187 := (xc179.trans x183)
    have ex188 := (ex102.ext xc187)
    refine LP_call 0 rfl rfl rfl cal_73 rfl (spec_l1Cur_pick_w _ _ _ H wx182 r ex188 (ex103.ext xc187) (Dj.box d)) ?_
    rintro _ wx190 ⟨r184, r185, r186, H, rfl, x191, ex192⟩
    have ex193 := ((ex181.ext x183).but x191 (Dj.box (Dj.box (Dj.of_fresh ex51 f59)).symm).symm)
    refine LP_gs ⟨⟨.inl rfl, .inr ex193, trivial⟩, ?_⟩
    refine GT_hd [9] (by kernel_rfl) ⟨GT_lp [(25, pb b), (26, .slice a177 (List.length ([0, (-1), 256, 4])) c178)] rfl (by kernel_rfl) rfl (fun _ h => h) rfl fun ρ wx194 x195 => ?_, trivial⟩
    have ex196 := (ex103.ext x169)
    have ex200 := ((ex188.but x191 (Dj.box d)).ext x195)
    refine LP_call 0 rfl rfl rfl cal_180 rfl (spec_l1Cur_among_w _ _ _ H wx194 r ex200 (ex192.ext x195) o174.readf (((ex175.ext x183).but x191 (Dj.of_fresh ex196 f176)).ext x195) (Dj.box d) (Dj.box (Dj.of_fresh ex196 f176))) ?_
    rintro _ wx203 ⟨r197, r198, r199, H, rfl, x204, ex205⟩
    refine LP_gs ⟨⟨.inl rfl, .inr ((ex193.ext x195).but x204 (Dj.box (Dj.box (Dj.of_fresh ex51 f59)).symm).symm), trivial⟩, ?_⟩
    refine GT_end (by kernel_rfl) ?_
    intro wx207 x208 ρ hn209
    refine AP_forget [(4, pb b10), (5, pb b55), (19, sl a53 r37.Sets c54), (24, I r184), (27, I r197)] (by exact hn209) fun ρ => ?_
    refine AP_tail 10 [[], [0], [], [], [3], [3, 4], [2, 3, 4, 5], [], [], [2, 3, 4, 5, 6, 7, 8], [0, 1, 2, 3, 4, 5, 6, 7, 8, 9], [0, 1, 2, 3, 4, 5, 6, 7, 8, 9, 10]] (by kernel_rfl) ?_
    obtain ⟨hi210, hl211, H⟩ := H
    refine LP_indexw (v := sl a53 r37.Sets c54) 10 rfl rfl rfl Try.underlying31 ti_3 rfl rfl o48 hi210 hl211 fun a212 wa213 => ?_
    refine LP_set 11 rfl rfl rfl rfl rfl wa213 (Le.refl emp) ⟨_, rfl, rfl⟩ (((((ex105.ext xc187).but x191 (Dj.box d52.symm)).ext x195).but x204 (Dj.box d52.symm)).ext x208) fun hx214 wx215 o216 ex217 y218 dm219 => ?_
    refine LP_end _ rfl ?_
    have f222 := (dm219 _).fresh f73 (((((X101.stepx xc187).step x191 (DomLe.dom D single_dom)).stepx x195).step x204 (DomLe.dom D single_dom)).stepx x208).size
    have ex225 := (ex11.ext x15)
    exact ⟨(r198, r199, List.set r37.Sets (Int.toNat r184) r197), H, _, sl a53 r37.Sets c54, hx214, env_eq ⟨rfl, rfl, trivial⟩, ((((((X101.stepx xc187).step x191 (DomLe.dom D single_dom)).stepx x195).step x204 (DomLe.dom D single_dom)).stepx x208).step y218 (f73.dom _)), o216, ex217, f222, (((ex200.but x204 (Dj.box d)).ext x208).but y218 (Dj.of_fresh ex41 f50).symm), ((((((ex104.ext xc187).but x191 (Dj.box (Dj.of_fresh ex2 f))).ext x195).but x204 (Dj.box (Dj.of_fresh ex2 f))).ext x208).but y218 (Dj.of_fresh ex225 f50).symm), ((ex205.ext x208).but y218 (Dj.box d52.symm).symm), ((((((ex106.ext xc187).but x191 (Dj.box (Dj.box (Dj.of_fresh ex51 f59)).symm).symm).ext x195).but x204 (Dj.box (Dj.box (Dj.of_fresh ex51 f59)).symm).symm).ext x208).but y218 (Dj.box (Dj.of_fresh ex49 f59).symm).symm), (DomLe.dj (dm219 _) (Dj.of_fresh ex41 f50).symm ((ex200.but x204 (Dj.box d)).ext x208)), (DomLe.dj (dm219 _) (Dj.of_fresh ex225 f50).symm (((((ex104.ext xc187).but x191 (Dj.box (Dj.of_fresh ex2 f))).ext x195).but x204 (Dj.box (Dj.of_fresh ex2 f))).ext x208)), (DomLe.dj (dm219 _) (Dj.box d52.symm).symm (ex205.ext x208)), (DomLe.dj (dm219 _) (Dj.box (Dj.of_fresh ex49 f59).symm).symm (((((ex106.ext xc187).but x191 (Dj.box (Dj.box (Dj.of_fresh ex51 f59)).symm).symm).ext x195).but x204 (Dj.box (Dj.box (Dj.of_fresh ex51 f59)).symm).symm).ext x208))⟩
  have H := H.2 hc98
  refine W_seq (W_region ?_)
  refine LP_ev ok 0 [(30, .bool (r92 == 1)), (29, .bool (r92 == 1))] 2 rfl rfl ?_
  refine LP_end _ rfl ?_
  refine W_cond (r92 == 1) rfl (fun hc233 => ?_) (fun hc233 => ?_)
  ·have H := H.1 hc233
   refine W_region ?_
   refine LP_ev ok 0 [(31, pb b55)] 1 rfl rfl ?_
   have ex234 := (ex61.but x96 (Dj.box (Dj.of_fresh ex51 f59).symm).symm)
   refine LP_ldbox 1 (v := sl a53 r37.Sets c54) rfl rfl rfl ti_31 ag_31 (fun _ => rfl) rfl ex234 rfl rfl ?_
   refine LP_lit (α := Int) (g := emp) 2 (vs := [I 1]) (xs := [1]) rfl rfl rfl Try.underlying31 ti_3 rfl rfl ⟨⟨_, rfl, rfl⟩, trivial⟩ rfl rfl fun hx235 vx236 wx237 x238 o239 ex240 f241 => ?_
   obtain ⟨a242, c243, rfl⟩ := o239.shape
   obtain ⟨hb, H⟩ := H
   refine LP_appendf (α := Int) 3 rfl rfl rfl Try.underlying31 ti_3 rfl rfl rfl o48 ((ex72.but x96 d52.symm).ext x238) o239.readf ex240 (by first | omega | (simp only [ln] at *; omega)) (by first | omega | (simp only [ln] at *; omega)) fun hx245 vx246 wx247 o248 ex249 y250 dm251 => ?_
   obtain ⟨a252, c253, rfl⟩ := o248.shape
   refine LP_ev ok 4 [(35, pb b55)] 5 rfl rfl ?_
   refine LP_stbox 5 (vs := [.slice a252 (List.length (r37.Sets ++ ([1]))) c253]) (cs' := [.slice a252 (List.length (r37.Sets ++ ([1]))) c253]) rfl rfl rfl ti_31 rfl rfl rfl rfl rfl ((ex234.ext x238).but y250 (Dj.box (Dj.of_fresh ex49 f59).symm).symm) rfl rfl fun wx254 ex255 y256 => ?_
   refine LP_end _ rfl ?_
   have ex259 := (ex234.ext x238)
   have f261 := dm251.fresh f73 ((X65.step x96 (DomLe.dom D single_dom)).stepx x238).size
   have ex264 := (ex11.ext x15)
   exact ⟨(r93, r94, r37.Sets ++ ([1])), H, _, .slice a252 (List.length (r37.Sets ++ ([1]))) c253, hx245, env_eq ⟨rfl, rfl, trivial⟩, ((((X65.step x96 (DomLe.dom D single_dom)).stepx x238).step y250 (f73.dom _)).step y256 ((Fresh.box f63).dom _)), o248, (ex249.but y256 (DomLe.dj dm251 (Dj.box (Dj.of_fresh ex49 f59).symm).symm ex259).symm), f261, ((((ex67.but x96 (Dj.box d)).ext x238).but y250 (Dj.of_fresh ex41 f50).symm).but y256 (Dj.box (Dj.of_fresh ex66 f59).symm)), ((((ex70.but x96 (Dj.box (Dj.of_fresh ex2 f))).ext x238).but y250 (Dj.of_fresh ex264 f50).symm).but y256 (Dj.box (Dj.of_fresh ex69 f59).symm)), (((ex97.ext x238).but y250 (Dj.box d52.symm).symm).but y256 (Dj.box (Dj.box (Dj.of_fresh ex51 f59).symm).symm).symm), ex255, (DomLe.dj dm251 (Dj.of_fresh ex41 f50).symm ((ex67.but x96 (Dj.box d)).ext x238)), (DomLe.dj dm251 (Dj.of_fresh ex264 f50).symm ((ex70.but x96 (Dj.box (Dj.of_fresh ex2 f))).ext x238)), (DomLe.dj dm251 (Dj.box d52.symm).symm (ex97.ext x238)), (Dj.box (DomLe.dj dm251 (Dj.box (Dj.of_fresh ex49 f59).symm).symm ex259).symm).symm⟩
  have H := H.2 hc233
  exact W_skip ⟨(r93, r94, r37.Sets), H, _, sl a53 r37.Sets c54, hx47, env_eq ⟨rfl, rfl, trivial⟩, (X65.step x96 (DomLe.dom D single_dom)), o48, (ex72.but x96 d52.symm), f73, (ex67.but x96 (Dj.box d)), (ex70.but x96 (Dj.box (Dj.of_fresh ex2 f))), ex97, (ex61.but x96 (Dj.box (Dj.of_fresh ex51 f59).symm).symm), (Dj.of_fresh ex41 f50).symm, (Dj.of_fresh (ex11.ext x15) f50).symm, (Dj.box d52.symm).symm, (Dj.box (Dj.of_fresh ex49 f59).symm).symm⟩
 rintro ⟨atx, seed, sets⟩ _ wx80 ⟨H, ρ, vx75, hx76, rfl, HF⟩
 revert HF
 refine bb9 fun X91 o77 ex78 f79 ex81 ex82 ex85 ex86 => ?_
 refine bb4 fun d87 d88 d89 d90 => ?_
 subst hk
 obtain ⟨a83, c84, rfl⟩ := o77.shape
 refine W_seq (W_region ?_)
 refine LP_ldbox 0 (v := .agg #[sl a83 sets c84]) rfl rfl rfl ti_33 ag_33 (fun h => by cases h) rfl ex86 rfl rfl ?_
 refine LP_stbox 1 (vs := [sl a83 sets c84]) (cs' := [sl a83 sets c84]) rfl rfl rfl ti_33 rfl rfl rfl rfl rfl ex82 rfl rfl fun wx276 ex277 y278 => ?_
 refine LP_end _ rfl (W_ret ?_)
 exact ⟨_, Ret_of [.agg #[sl a83 sets c84]] ⟨⟨_, rfl, rfl, ld_res ti_33 ag_33 (fun h => by cases h) ex277 rfl rfl⟩, trivial⟩, _, _, _, _, _, H, rfl, (X91.step y278 (f71.dom _)), o77, (ex78.but y278 d88.symm), f79, (ex85.but y278 (Dj.box (Dj.of_fresh ex2 f).symm.symm).symm), d89⟩

theorem spec_l1Own_w (l : List Int) (Q : (List Int) → Prop) (H : spec_l1Own l Q) (w : World) {vx : Value} {hx : PH} (r : RS hx vx l) (ex : Sub hx w) :
  CallsTo Try.prog 183 #[vx] w fun v w' => ∃ r0 u0 g0, Q r0 ∧ v = u0 ∧ Ext w w' ∧ OS 3 g0 emp u0 r0 ∧ Sub g0 w' ∧ Fresh w.heap.size g0 := by
 obtain ⟨a, c, rfl⟩ := r.shape
 refine enter (args := [sl a l c]) 6 Try.func183 rfl rfl rfl ?_
 refine W_forget [(0, sl a l c)] ⟨rfl, trivial⟩ fun ρ => ?_
 have X := But.refl emp w
 refine W_seq (W_region ?_)
 refine LP_ev ok 0 [(2, .slice none 0 0)] 1 rfl rfl ?_
 refine LP_end _ rfl (W_seq (W_region ?_))
 refine LP_lit (α := Int) (g := emp) 0 (vs := []) (xs := []) rfl rfl rfl Try.underlying31 ti_3 rfl rfl trivial rfl rfl fun hx1 vx2 wx x o ex3 f => ?_
 obtain ⟨a4, c5, rfl⟩ := o.shape
 refine LP_ev ok 1 [(4, sl a l c)] 2 rfl rfl ?_
 obtain ⟨hb, H⟩ := H
 refine LP_appendf (α := Int) 2 rfl rfl rfl Try.underlying31 ti_3 rfl rfl rfl o ex3 r (ex.ext x) (by first | omega | (simp only [ln] at *; omega)) (by first | omega | (simp only [ln] at *; omega)) fun hx7 vx8 wx9 o10 ex11 y dm => ?_
 obtain ⟨a12, c13, rfl⟩ := o10.shape
 refine LP_ev ok 3 [(2, .slice a12 (List.length ((([] : List Int)) ++ l)) c13)] 4 rfl rfl ?_
 refine LP_end _ rfl (W_ret ?_)
 have f15 := f.mono X.size
 have X16 := (X.stepx x)
 have f14 := dm.fresh f15 X16.size
 exact ⟨_, Ret_of [.slice a12 (List.length ((([] : List Int)) ++ l)) c13] ⟨⟨rfl, rfl⟩, trivial⟩, _, _, _, H, rfl, (X16.step y (f15.dom _)).ext, o10, ex11, f14⟩

theorem spec_l1Cur_edits_w (c : L1Cur) (sx : List Variable) (Q : (List Edit) → Int → Int → Prop) (H : spec_l1Cur_edits c sx Q) (w : World) {vx : Value} {hx : PH} (r : RS hx vx c.Code) (ex : Sub hx w) {b : Nat} (ex2 : Sub (bx b 99 [vx, I c.At, .int .u64 c.Seed]) w) {vx3 : Value} {hx4 : PH} (r5 : RS hx4 vx3 sx) (ex6 : Sub hx4 w) (d : Dj (bx b 99 [vx, I c.At, .int .u64 c.Seed]) hx) (d9 : Dj (bx b 99 [vx, I c.At, .int .u64 c.Seed]) hx4) :
  CallsTo Try.prog 136 #[pb b, vx3] w fun v w' => ∃ r0 m1_0 m1_1 u0 g0, Q r0 m1_0 m1_1 ∧ v = u0 ∧ But (bx b 99 [vx, I c.At, .int .u64 c.Seed]) w w' ∧ OD g0 u0 r0 ∧ Sub g0 w' ∧ Fresh w.heap.size g0 ∧ Sub (bx b 99 [vx, I m1_0, .int .u64 m1_1]) w' ∧ Dj g0 (bx b 99 [vx, I m1_0, .int .u64 m1_1]) := by
 obtain ⟨a, c1, rfl⟩ := r.shape
 obtain ⟨a7, c8, rfl⟩ := r5.shape
 refine enter (args := [pb b, sl a7 sx c8]) 41 Try.func136 rfl rfl rfl ?_
 refine W_forget [(0, pb b), (1, sl a7 sx c8)] ⟨rfl, rfl, trivial⟩ fun ρ => ?_
 have D : Dom (bx b 99 [sl a c.Code c1, I c.At, .int .u64 c.Seed]) (bx b 99 [sl a c.Code c1, I c.At, .int .u64 c.Seed]) := (Dom.refl _)
 have X := But.refl (bx b 99 [sl a c.Code c1, I c.At, .int .u64 c.Seed]) w
 refine W_seq (W_region ?_)
 refine LP_ev ok 0 [(4, .slice none 0 0)] 1 rfl rfl ?_
 refine LP_end _ rfl (W_seq (W_region ?_))
 refine LP_ev ok 0 [(5, .slice none 0 0)] 1 rfl rfl ?_
 refine LP_end _ rfl (W_seq ?_)
 refine W_seq (W_region ?_)
 refine LP_ev ok 0 [(9, pb b)] 1 rfl rfl ?_
 refine LP_call 1 rfl rfl rfl cal_73 rfl (spec_l1Cur_pick_w _ _ _ H w r ex ex2 d) ?_
 rintro _ wx ⟨r10, r11, r12, H, rfl, x, ex13⟩
 refine LP_ev ok 2 [(6, I r10)] 3 rfl rfl ?_
 refine LP_end _ rfl ?_
 refine W_block ?_
 obtain ⟨J, m, Hx, H⟩ := H
 refine W_loop (S := (List Edit) × Int × Int × Int) (fun s ρ' w' => J s.1 s.2.1 s.2.2.1 s.2.2.2 ∧ ∃ (ρ : Env) (vx14 : Value) (hx15 : PH), ρ' = setAll [(0, pb b), (1, sl a7 sx c8), (5, vx14), (6, I s.2.1)] ρ ∧ But (bx b 99 [sl a c.Code c1, I c.At, .int .u64 c.Seed]) w w' ∧ OD hx15 vx14 s.1 ∧ Sub hx15 w' ∧ Fresh w.heap.size hx15 ∧ Sub hx w' ∧ Sub hx4 w' ∧ Sub (bx b 99 [sl a c.Code c1, I s.2.2.1, .int .u64 s.2.2.2]) w' ∧ Dj hx15 hx ∧ Dj hx15 hx4 ∧ Dj hx15 (bx b 99 [sl a c.Code c1, I s.2.2.1, .int .u64 s.2.2.2])) (fun s => m s.1 s.2.1 s.2.2.1 s.2.2.2) ([], r10, r11, r12) ⟨Hx, _, .slice none 0 0, emp, env_eq ⟨rfl, rfl, rfl, rfl, trivial⟩, (X.step x (Dom.le D _)), OD.nil, (emp_sub _), (emp_fresh _), (ex.but x d), (ex6.but x d9), ex13, (fun _ => .inl rfl), (fun _ => .inl rfl), (fun _ => .inl rfl)⟩ ?_
 rintro ⟨l, k, atx, seed⟩ _ wx17 ⟨Hi, ρ, vx14, hx15, rfl, HF⟩
 revert HF
 refine bb9 fun X26 o ex16 f ex18 ex19 ex22 d23 => ?_
 refine bb2 fun d24 d25 => ?_
 have H := H l k atx seed Hi
 obtain ⟨a20, c21, rfl⟩ := o.shape
 refine W_seq ?_
 refine W_seq (W_region ?_)
 refine LP_ev ok 0 [(11, I k), (12, .bool (decide (k > 0)))] 2 rfl rfl ?_
 refine LP_end _ rfl ?_
 refine W_cond (decide (k > 0)) rfl (fun hc => ?_) (fun hc => ?_)
 ·have H := H.1 hc
  refine W_skip ?_
  refine W_seq ?_
  refine W_block ?_
  refine W_region ?_
  refine LP_ev ok 0 [(15, sl a20 l c21), (16, pb b), (17, sl a7 sx c8)] 3 rfl rfl ?_
  refine LP_call 3 rfl rfl rfl cal_146 rfl (spec_l1Cur_anyEdit_w _ _ _ H wx17 r ex18 ex22 r5 ex19 (Dj.box d) (Dj.box d9)) ?_
  rintro _ wx33 ⟨r30, r31, r32, vx35, hx36, H, rfl, x34, HF⟩
  revert HF
  refine bb5 fun o37 ex38 f39 ex40 d41 => ?_
  obtain ⟨a42, c43, rfl⟩ := o37.shape
  have rv : RVO hx36 (.agg #[sl a42 r30.Sets c43]) ((Edit.mk r30.Sets) : Edit) := ⟨_, ⟨_, rfl, (OS.od o37)⟩, rfl⟩
  refine LP_litD (α := Edit) 4 (vs := [.agg #[sl a42 r30.Sets c43]]) (xs := [((Edit.mk r30.Sets) : Edit)]) rfl rfl rfl Try.underlying25 ti_33 rfl rfl (allO.one rv) ex38 rfl rfl fun hx44 vx45 wx46 x47 o48 ex49 dm => ?_
  obtain ⟨a50, c51, rfl⟩ := o48.shape
  obtain ⟨hb, H⟩ := H
  refine LP_appendD (α := Edit) 5 rfl rfl rfl Try.underlying25 ti_33 rfl rfl rfl o ((ex16.but x34 d25.symm).ext x47) o48 ex49 (DomLe.dj dm (Dj.of_fresh ex16 f39).symm (ex16.but x34 d25.symm)).symm (by first | omega | (simp only [ln] at *; omega)) (by first | omega | (simp only [ln] at *; omega)) fun hx54 vx55 wx56 hw o57 ex58 y dh dm59 => ?_
  obtain ⟨a60, c61, rfl⟩ := o57.shape
  refine LP_ev ok 6 [(5, .slice a60 (List.length (l ++ ([((Edit.mk r30.Sets) : Edit)]))) c61)] 7 rfl rfl ?_
  refine LP_end _ rfl ?_
  refine W_region ?_
  refine LP_ev ok 0 [(13, I k), (14, I (wr (k - 1))), (6, I (wr (k - 1)))] 3 rfl rfl ?_
  refine LP_end _ rfl ?_
  have f63 := f39.mono X26.size
  have X65 := (X26.step x34 (DomLe.dom D single_dom))
  have f64 := DomLe.fresh dm f63 X65.size
  have f66 := DomLe.fresh dm59 (Fresh.un f f64) (X65.stepx x47).size
  have ex71 := (ex18.but x34 (Dj.box d))
  have ex73 := (ex19.but x34 (Dj.box d9))
  exact ⟨(l ++ ([((Edit.mk r30.Sets) : Edit)]), wr (k - 1), r31, r32), ⟨H.1, _, .slice a60 (List.length (l ++ ([((Edit.mk r30.Sets) : Edit)]))) c61, hx54, env_eq ⟨rfl, rfl, rfl, rfl, trivial⟩, (((X26.step x34 (DomLe.dom D single_dom)).stepx x47).step (But.dom y dh) (f.dom _)), o57, ex58, f66, (((ex18.but x34 (Dj.box d)).ext x47).but (But.dom y dh) d23), (((ex19.but x34 (Dj.box d9)).ext x47).but (But.dom y dh) d24), ((ex40.ext x47).but (But.dom y dh) (Dj.box d25.symm).symm), (DomLe.dj dm59 (Dj.un_l d23 (DomLe.dj dm (Dj.of_fresh ex18 f39).symm ex71)) (ex71.ext x47)), (DomLe.dj dm59 (Dj.un_l d24 (DomLe.dj dm (Dj.of_fresh ex19 f39).symm ex73)) (ex73.ext x47)), (DomLe.dj dm59 (Dj.un_l (Dj.box d25.symm).symm (DomLe.dj dm d41 ex40)) (ex40.ext x47))⟩, H.2⟩
 have H := H.2 hc
 refine W_exit ?_
 refine (if_pos rfl).mpr ?_
 obtain ⟨k92, hk, H⟩ := jn_elim H
 refine W_join2 (S := (List Edit) × Int × Int) (fun s ρ' w' => k92 s.1 s.2.1 s.2.2 ∧ ∃ (ρ : Env) (vx77 : Value) (hx78 : PH), ρ' = setAll [(5, vx77)] ρ ∧ But (bx b 99 [sl a c.Code c1, I c.At, .int .u64 c.Seed]) w w' ∧ OD hx78 vx77 s.1 ∧ Sub hx78 w' ∧ Fresh w.heap.size hx78 ∧ Sub hx w' ∧ Sub (bx b 99 [sl a c.Code c1, I s.2.1, .int .u64 s.2.2]) w' ∧ Dj hx78 hx ∧ Dj hx78 (bx b 99 [sl a c.Code c1, I s.2.1, .int .u64 s.2.2])) ?_ ?_
 ·refine W_seq (W_region ?_)
  refine LP_ev ok 0 [(21, pb b)] 1 rfl rfl ?_
  refine LP_call 1 rfl rfl rfl cal_147 rfl (spec_l1Cur_one_w _ _ _ H wx17 r ex18 ex22 (Dj.box d)) ?_
  rintro _ wx96 ⟨r93, r94, r95, H, rfl, x97, ex98⟩
  refine LP_end _ rfl ?_
  refine W_cond (r93) rfl (fun hc99 => ?_) (fun hc99 => ?_)
  ·have H := H.1 hc99
   refine W_seq (W_region ?_)
   refine LP_ev ok 0 [(23, pb b), (24, sl a7 sx c8)] 2 rfl rfl ?_
   have ex103 := (ex18.but x97 (Dj.box d))
   refine LP_call 2 rfl rfl rfl cal_146 rfl (spec_l1Cur_anyEdit_w _ _ _ H wx96 r ex103 ex98 r5 (ex19.but x97 (Dj.box d9)) (Dj.box d) (Dj.box d9)) ?_
   rintro _ wx105 ⟨r100, r101, r102, vx107, hx108, H, rfl, x106, HF⟩
   revert HF
   refine bb5 fun o109 ex110 f111 ex112 d113 => ?_
   obtain ⟨a114, c115, rfl⟩ := o109.shape
   refine LP_alloc 3 rfl rfl rfl ti_33 rfl fun b116 wx117 x118 ex119 f120 => ?_
   refine LP_stbox 4 (vs := [sl a114 r100.Sets c115]) (cs' := [sl a114 r100.Sets c115]) rfl rfl rfl ti_33 rfl rfl rfl rfl rfl ex119 rfl rfl fun wx121 ex122 y123 => ?_
   refine LP_end _ rfl (W_seq (W_region ?_))
   refine LP_ev ok 0 [(26, pb b)] 1 rfl rfl ?_
   have ex128 := (((ex103.but x106 (Dj.box d)).ext x118).but y123 (Dj.of_fresh (ex103.but x106 (Dj.box d)) f120).symm)
   refine LP_call 1 rfl rfl rfl cal_73 rfl (spec_l1Cur_pick_w _ _ _ H wx121 r ex128 ((ex112.ext x118).but y123 (Dj.of_fresh ex112 f120).symm) (Dj.box d)) ?_
   rintro _ wx130 ⟨r124, r125, r126, H, rfl, x131, ex132⟩
   refine LP_ev ok 2 [(28, I (wr (40 + r124))), (8, I (wr (40 + r124)))] 4 rfl rfl ?_
   refine LP_end _ rfl ?_
   refine W_block ?_
   have f154 := f120.mono ((X26.step x97 (DomLe.dom D single_dom)).step x106 (DomLe.dom D single_dom)).size
   have ex157 := ((ex16.but x97 d25.symm).but x106 (Dj.box d25.symm))
   obtain ⟨J151, m152, Hx153, H⟩ := H
   refine W_loop (S := (List Edit)) (fun s ρ' w' => J151 s ∧ ∃ (ρ : Env) (vx134 : Value) (hx135 : PH), ρ' = setAll [(5, vx134), (7, pb b116), (8, I (wr (40 + r124)))] ρ ∧ But (bx b 99 [sl a c.Code c1, I c.At, .int .u64 c.Seed]) w w' ∧ OD hx135 vx134 s ∧ Sub hx135 w' ∧ Fresh w.heap.size hx135 ∧ Sub hx w' ∧ Sub (bx b 99 [sl a c.Code c1, I r125, .int .u64 r126]) w' ∧ Sub hx108 w' ∧ Sub (bx b116 33 [sl a114 r100.Sets c115]) w' ∧ Dj hx135 hx ∧ Dj hx135 (bx b 99 [sl a c.Code c1, I r125, .int .u64 r126]) ∧ Dj hx135 hx108 ∧ Dj hx135 (bx b116 33 [sl a114 r100.Sets c115])) (fun s => m152 s) l ⟨Hx153, _, sl a20 l c21, hx15, env_eq ⟨rfl, rfl, rfl, trivial⟩, (((((X26.step x97 (DomLe.dom D single_dom)).step x106 (DomLe.dom D single_dom)).stepx x118).step y123 (f154.dom _)).step x131 (DomLe.dom D single_dom)), o, (((((ex16.but x97 d25.symm).but x106 (Dj.box d25.symm)).ext x118).but y123 (Dj.of_fresh ex157 f120).symm).but x131 (Dj.box d25.symm)), f, (ex128.but x131 (Dj.box d)), ex132, (((ex110.ext x118).but y123 (Dj.of_fresh ex110 f120).symm).but x131 d113.symm), (ex122.but x131 (Dj.box (Dj.of_fresh ex112 f120).symm).symm), d23, (Dj.box d25.symm).symm, (Dj.of_fresh (ex16.but x97 d25.symm) f111), (Dj.box (Dj.of_fresh ex157 f120).symm).symm⟩ ?_
   rintro l133 _ wx139 ⟨Hi, ρ, vx134, hx135, rfl, HF⟩
   revert HF
   refine bb9 fun X150 o136 ex137 f138 ex140 ex141 ex142 ex143 => ?_
   refine bb4 fun d146 d147 d148 d149 => ?_
   have H := H l133 Hi
   obtain ⟨a144, c145, rfl⟩ := o136.shape
   refine W_seq ?_
   refine W_seq (W_region ?_)
   refine LP_ev ok 0 [(29, sl a144 l133 c145), (30, I (ln l133)), (31, I (wr (40 + r124))), (32, .bool (decide ((ln l133) < (wr (40 + r124)))))] 4 rfl rfl ?_
   refine LP_end _ rfl ?_
   refine W_cond (decide ((ln l133) < (wr (40 + r124)))) rfl (fun hc164 => ?_) (fun hc164 => ?_)
   ·have H := H.1 hc164
    refine W_skip ?_
    refine W_block ?_
    refine W_region ?_
    refine LP_ev ok 0 [(33, sl a144 l133 c145), (34, pb b116)] 2 rfl rfl ?_
    refine LP_ldbox 2 (v := sl a114 r100.Sets c115) rfl rfl rfl ti_31 ag_31 (fun _ => rfl) rfl ex143 rfl rfl ?_
    refine LP_call 3 rfl rfl rfl cal_183 rfl (spec_l1Own_w _ _ H wx139 o109.readf ex142) ?_
    rintro _ wx166 ⟨r165, vx168, hx169, H, rfl, x167, o170, ex171, f172⟩
    obtain ⟨a173, c174, rfl⟩ := o170.shape
    refine LP_ev ok 4 [(37, .agg #[sl a173 r165 c174])] 5 rfl rfl ?_
    have rv175 : RVO hx169 (.agg #[sl a173 r165 c174]) ((Edit.mk r165) : Edit) := ⟨_, ⟨_, rfl, (OS.od o170)⟩, rfl⟩
    refine LP_litD (α := Edit) 5 (vs := [.agg #[sl a173 r165 c174]]) (xs := [((Edit.mk r165) : Edit)]) rfl rfl rfl Try.underlying25 ti_33 rfl rfl (allO.one rv175) ex171 rfl rfl fun hx176 vx177 wx178 x179 o180 ex181 dm182 => ?_
    obtain ⟨a183, c184, rfl⟩ := o180.shape
    have xc := (x167.trans x179)
    obtain ⟨hb187, H⟩ := H
    refine LP_appendD (α := Edit) 6 rfl rfl rfl Try.underlying25 ti_33 rfl rfl rfl o136 (ex137.ext xc) o180 ex181 (DomLe.dj dm182 (Dj.of_fresh ex137 f172).symm (ex137.ext x167)).symm (by first | omega | (simp only [ln] at *; omega)) (by first | omega | (simp only [ln] at *; omega)) fun hx188 vx189 wx190 hw191 o192 ex193 y194 dh195 dm196 => ?_
    obtain ⟨a197, c198, rfl⟩ := o192.shape
    refine LP_ev ok 7 [(5, .slice a197 (List.length (l133 ++ ([((Edit.mk r165) : Edit)]))) c198)] 8 rfl rfl ?_
    refine LP_end _ rfl ?_
    have f200 := f172.mono X150.size
    have X202 := (X150.stepx x167)
    have f201 := DomLe.fresh dm182 f200 X202.size
    have f203 := DomLe.fresh dm196 (Fresh.un f138 f201) (X202.stepx x179).size
    have ex209 := (ex140.ext x167)
    have ex211 := (ex141.ext x167)
    have ex213 := (ex142.ext x167)
    have ex215 := (ex143.ext x167)
    exact ⟨l133 ++ ([((Edit.mk r165) : Edit)]), ⟨H.1, _, .slice a197 (List.length (l133 ++ ([((Edit.mk r165) : Edit)]))) c198, hx188, env_eq ⟨rfl, rfl, rfl, trivial⟩, ((X150.stepx xc).step (But.dom y194 dh195) (f138.dom _)), o192, ex193, f203, ((ex140.ext xc).but (But.dom y194 dh195) d146), ((ex141.ext xc).but (But.dom y194 dh195) d147), ((ex142.ext xc).but (But.dom y194 dh195) d148), ((ex143.ext xc).but (But.dom y194 dh195) d149), (DomLe.dj dm196 (Dj.un_l d146 (DomLe.dj dm182 (Dj.of_fresh ex140 f172).symm ex209)) (ex209.ext x179)), (DomLe.dj dm196 (Dj.un_l d147 (DomLe.dj dm182 (Dj.of_fresh ex141 f172).symm ex211)) (ex211.ext x179)), (DomLe.dj dm196 (Dj.un_l d148 (DomLe.dj dm182 (Dj.of_fresh ex142 f172).symm ex213)) (ex213.ext x179)), (DomLe.dj dm196 (Dj.un_l d149 (DomLe.dj dm182 (Dj.of_fresh ex143 f172).symm ex215)) (ex215.ext x179))⟩, H.2⟩
   have H := H.2 hc164
   refine W_exit ?_
   refine (if_pos rfl).mpr ?_
   exact ⟨(l133, r125, r126), H, _, sl a144 l133 c145, hx135, env_eq ⟨rfl, trivial⟩, X150, o136, ex137, f138, ex140, ex141, d146, d147⟩
  have H := H.2 hc99
  exact W_skip ⟨(l, r94, r95), H, _, sl a20 l c21, hx15, env_eq ⟨rfl, trivial⟩, (X26.step x97 (DomLe.dom D single_dom)), o, (ex16.but x97 d25.symm), f, (ex18.but x97 (Dj.box d)), ex98, d23, (Dj.box d25.symm).symm⟩
 rintro ⟨l76, atx82, seed83⟩ _ wx84 ⟨H, ρ, vx77, hx78, rfl, HF⟩
 revert HF
 refine bb8 fun X91 o79 ex80 f81 ex85 ex88 d89 d90 => ?_
 subst hk
 obtain ⟨a86, c87, rfl⟩ := o79.shape
 refine W_seq (W_region ?_)
 refine LP_ev ok 0 [(40, sl a86 l76 c87), (4, sl a86 l76 c87)] 2 rfl rfl ?_
 refine LP_end _ rfl (W_ret ?_)
 exact ⟨_, Ret_of [sl a86 l76 c87] ⟨⟨rfl, rfl⟩, trivial⟩, _, _, _, _, _, H, rfl, X91, o79, ex80, f81, ex88, d90⟩

theorem spec_DrawCountPassing_w (code : List B8) (Q : (List Variable) → (List Edit) → Prop) (H : spec_DrawCountPassing code Q) (w : World) {vx : Value} {hx : PH} (r : RS hx vx code) (ex : Sub hx w) :
  CallsTo Try.prog 61 #[vx] w fun v w' => ∃ r0 r1 u0 g0 u1 g1, Q r0 r1 ∧ v = .tuple #[u0, u1] ∧ Ext w w' ∧ OS 167 g0 emp u0 r0 ∧ Sub g0 w' ∧ Fresh w.heap.size g0 ∧ OD g1 u1 r1 ∧ Sub g1 w' ∧ Fresh w.heap.size g1 ∧ Dj g0 g1 := by
 obtain ⟨a, c, rfl⟩ := r.shape
 refine enter (args := [sl a code c]) 15 Try.func61 rfl rfl rfl ?_
 refine W_forget [(0, sl a code c)] ⟨rfl, trivial⟩ fun ρ => ?_
 have X := But.refl emp w
 refine W_seq (W_region ?_)
 refine LP_ev ok 0 [(2, .slice none 0 0), (3, .slice none 0 0)] 2 rfl rfl ?_
 refine LP_end _ rfl (W_seq (W_region ?_))
 refine LP_ev ok 0 [(6, sl a code c), (7, .agg #[sl a code c, I 0, .int .u64 0])] 2 rfl rfl ?_
 refine LP_box 2 (cs := [sl a code c, I 0, .int .u64 0]) rfl rfl rfl rfl rfl fun b wx x ex1 f => ?_
 refine LP_ev ok 3 [(4, pb b)] 4 rfl rfl ?_
 refine LP_end _ rfl (W_seq (W_region ?_))
 refine LP_ev ok 0 [(9, pb b)] 1 rfl rfl ?_
 have ex5 := (ex.ext x)
 refine LP_call 1 rfl rfl rfl cal_135 rfl (spec_l1Cur_anySchema_w _ _ H wx r ex5 ex1 (Dj.of_fresh ex f).symm) ?_
 rintro _ wx6 ⟨r2, r3, r4, vx8, hx9, H, rfl, x7, HF⟩
 revert HF
 refine bb5 fun o ex10 f11 ex12 d => ?_
 obtain ⟨a13, c14, rfl⟩ := o.shape
 refine LP_ev ok 2 [(5, sl a13 r2 c14)] 3 rfl rfl ?_
 refine LP_end _ rfl (W_seq (W_region ?_))
 refine LP_ev ok 0 [(11, sl a13 r2 c14), (12, pb b), (13, sl a13 r2 c14)] 3 rfl rfl ?_
 refine LP_call 3 rfl rfl rfl cal_136 rfl (spec_l1Cur_edits_w _ _ _ H wx6 r (ex5.but x7 (Dj.of_fresh ex f).symm) ex12 o.readf ex10 (Dj.box (Dj.of_fresh ex f).symm) d.symm) ?_
 rintro _ wx19 ⟨r15, r16, r17, vx21, hx22, H, rfl, x20, HF⟩
 revert HF
 refine bb5 fun o23 ex24 f25 ex26 d27 => ?_
 obtain ⟨a28, c29, rfl⟩ := o23.shape
 refine LP_ev ok 4 [(2, sl a13 r2 c14), (3, sl a28 r15 c29)] 6 rfl rfl ?_
 refine LP_end _ rfl (W_ret ?_)
 have X32 := (X.stepx x)
 have f31 := f11.mono X32.size
 have f34 := f.mono X.size
 have X35 := (X32.step x7 (f34.dom _))
 have f33 := f25.mono X35.size
 exact ⟨_, Ret_of [sl a13 r2 c14, sl a28 r15 c29] ⟨⟨rfl, rfl⟩, ⟨rfl, rfl⟩, trivial⟩, _, _, _, _, _, _, H, rfl, (X35.step x20 ((Fresh.box f34).dom _)).ext, o, (ex10.but x20 d.symm), f31, o23, ex24, f33, (Dj.of_fresh ex10 f25)⟩

theorem spec_DrawEliminateVariable_w (code : List B8) (Q : (List Variable) → (List Edit) → Int → Prop) (H : spec_DrawEliminateVariable code Q) (w : World) {vx : Value} {hx : PH} (r : RS hx vx code) (ex : Sub hx w) :
  CallsTo Try.prog 50 #[vx] w fun v w' => ∃ r0 r1 r2 u0 g0 u1 g1, Q r0 r1 r2 ∧ v = .tuple #[u0, u1, I r2] ∧ Ext w w' ∧ OS 167 g0 emp u0 r0 ∧ Sub g0 w' ∧ Fresh w.heap.size g0 ∧ OD g1 u1 r1 ∧ Sub g1 w' ∧ Fresh w.heap.size g1 ∧ Dj g0 g1 := by
 obtain ⟨a, c, rfl⟩ := r.shape
 refine enter (args := [sl a code c]) 24 Try.func50 rfl rfl rfl ?_
 refine W_forget [(0, sl a code c)] ⟨rfl, trivial⟩ fun ρ => ?_
 have X := But.refl emp w
 refine W_seq (W_region ?_)
 refine LP_ev ok 0 [(2, .slice none 0 0), (3, .slice none 0 0), (4, I 0)] 3 rfl rfl ?_
 refine LP_end _ rfl (W_seq (W_region ?_))
 refine LP_ev ok 0 [(8, sl a code c), (9, .agg #[sl a code c, I 0, .int .u64 0])] 2 rfl rfl ?_
 refine LP_box 2 (cs := [sl a code c, I 0, .int .u64 0]) rfl rfl rfl rfl rfl fun b wx x ex1 f => ?_
 refine LP_ev ok 3 [(5, pb b)] 4 rfl rfl ?_
 refine LP_end _ rfl (W_seq (W_region ?_))
 refine LP_ev ok 0 [(12, sl a code c)] 1 rfl rfl ?_
 have ex4 := (ex.ext x)
 refine LP_call 1 rfl rfl rfl cal_61 rfl (spec_DrawCountPassing_w _ _ H wx r ex4) ?_
 rintro _ wx5 ⟨r2, r3, vx7, hx8, vx11, hx12, H, rfl, x6, HF⟩
 revert HF
 refine bb7 fun o ex9 f10 o13 ex14 f15 d => ?_
 obtain ⟨a16, c17, rfl⟩ := o.shape
 obtain ⟨a18, c19, rfl⟩ := o13.shape
 refine LP_ev ok 2 [(11, .tuple #[sl a16 r2 c17, sl a18 r3 c19]), (14, sl a16 r2 c17), (15, sl a18 r3 c19), (6, sl a16 r2 c17), (7, sl a18 r3 c19)] 7 rfl rfl ?_
 refine LP_end _ rfl (W_seq (W_region ?_))
 refine LP_ev ok 0 [(16, sl a16 r2 c17), (17, sl a18 r3 c19), (18, pb b)] 3 rfl rfl ?_
 have ex23 := (ex4.ext x6)
 refine LP_call 3 rfl rfl rfl cal_73 rfl (spec_l1Cur_pick_w _ _ _ H wx5 r ex23 (ex1.ext x6) (Dj.of_fresh ex f).symm) ?_
 rintro _ wx25 ⟨r20, r21, r22, H, rfl, x26, ex27⟩
 refine LP_ev ok 4 [(20, pb b)] 5 rfl rfl ?_
 refine LP_call 5 rfl rfl rfl cal_73 rfl (spec_l1Cur_pick_w _ _ _ H wx25 r (ex23.but x26 (Dj.of_fresh ex f).symm) ex27 (Dj.box (Dj.of_fresh ex f).symm)) ?_
 rintro _ wx32 ⟨r28, r29, r30, H, rfl, x33, ex34⟩
 refine LP_val 6 _ rfl rfl (ex_quo rfl rfl rfl (by decide) _) ?_
 refine LP_ev ok 7 [(23, I (wr (r20 - (wr (Int.tdiv r28 19))))), (2, sl a16 r2 c17), (3, sl a18 r3 c19), (4, I (wr (r20 - (wr (Int.tdiv r28 19)))))] 11 rfl rfl ?_
 refine LP_end _ rfl ?_
 try refine W_forget [(2, sl a16 r2 c17), (3, sl a18 r3 c19), (4, I (wr (r20 - (wr (Int.tdiv r28 19)))))] ⟨rfl, rfl, rfl, trivial⟩ fun ρ => ?_
 refine W_ret ?_
 have X37 := (X.stepx x)
 have f36 := f10.mono X37.size
 have f39 := f15.mono X37.size
 have f40 := f.mono X.size
 exact ⟨_, Ret_of [sl a16 r2 c17, sl a18 r3 c19, I (wr (r20 - (wr (Int.tdiv r28 19))))] ⟨⟨rfl, rfl⟩, ⟨rfl, rfl⟩, ⟨rfl, rfl⟩, trivial⟩, _, _, _, _, _, _, _, H, rfl, (((X37.stepx x6).step x26 (f40.dom _)).step x33 ((Fresh.box f40).dom _)).ext, o, ((ex9.but x26 (Dj.of_fresh ex1 f10)).but x33 (Dj.box (Dj.of_fresh ex1 f10))), f36, o13, ((ex14.but x26 (Dj.of_fresh ex1 f15)).but x33 (Dj.box (Dj.of_fresh ex1 f15))), f39, d⟩

theorem impl_isWord_w (sx : ByteArray) (Q : Bool → Prop) (H : impl_isWord sx Q) (w : World)  :
  CallsTo Try.prog 188 #[.string sx] w fun v w' => ∃ r0, Q r0 ∧ v = .bool r0 ∧ Ext w w' := by
 refine enter (args := [.string sx]) 28 Try.func188 rfl rfl rfl ?_
 refine W_forget [(0, .string sx)] ⟨rfl, trivial⟩ fun ρ => ?_
 have X := But.refl emp w
 refine W_seq (W_region ?_)
 refine LP_ev ok 0 [(2, .bool false)] 1 rfl rfl ?_
 refine LP_end _ rfl (W_seq ?_)
 obtain ⟨k, hk, H⟩ := jn_elim H
 refine W_join2 (S := Bool) (fun s ρ' w' => k s ∧ ∃ (ρ : Env), ρ' = setAll [(0, .string sx), (11, .bool s)] ρ ∧ w = w') ?_ ?_
 ·refine W_region ?_
  refine LP_ev ok 0 [(4, .string sx), (5, I (sln sx)), (6, .bool (decide ((sln sx) < 1))), (7, .bool (decide ((sln sx) < 1)))] 4 rfl rfl ?_
  refine LP_split 7 (decide ((sln sx) < 1)) rfl (fun hc => ?_) (fun hc => ?_)
  ·have H := H.1 hc
   refine LP_ev ok 4 [(8, undef), (9, undef), (10, undef), (11, .bool true)] 8 rfl rfl ?_
   exact LP_end _ rfl ⟨true, H, _, env_eq ⟨rfl, rfl, trivial⟩, rfl⟩
  have H := H.2 hc
  refine LP_ev ok 4 [(8, .string sx), (9, I (sln sx)), (10, .bool (decide ((sln sx) > 8))), (11, .bool (decide ((sln sx) > 8)))] 8 rfl rfl ?_
  exact LP_end _ rfl ⟨decide ((sln sx) > 8), H, _, env_eq ⟨rfl, rfl, trivial⟩, rfl⟩
 rintro x _ _ ⟨H, ρ, rfl, rfl⟩
 subst hk
 refine W_cond (x) rfl (fun hc1 => ?_) (fun hc1 => ?_)
 ·have H := H.1 hc1
  refine W_seq (W_region ?_)
  refine LP_ev ok 0 [(2, .bool false)] 1 rfl rfl ?_
  refine LP_end _ rfl (W_ret ?_)
  exact ⟨_, Ret_of [.bool false] ⟨⟨rfl, rfl⟩, trivial⟩, _, H, rfl, X.ext⟩
 have H := H.2 hc1
 refine W_skip ?_
 refine W_seq ?_
 refine W_seq (W_region ?_)
 refine LP_ev ok 0 [(12, .string sx), (13, I (sln sx)), (14, I 0)] 3 rfl rfl ?_
 refine LP_end _ rfl ?_
 refine W_block ?_
 obtain ⟨J, m, Hx, H⟩ := H
 refine W_loop (S := Int) (fun s ρ' w' => J s ∧ ∃ (ρ : Env), ρ' = setAll [(0, .string sx), (13, I (sln sx)), (14, I s)] ρ ∧ w = w') (fun s => m s) 0 ⟨Hx, _, env_eq ⟨rfl, rfl, rfl, trivial⟩, rfl⟩ ?_
 rintro x2 _ _ ⟨Hi, ρ, rfl, rfl⟩
 have H := H x2 Hi
 refine W_seq (W_region ?_)
 refine LP_ev ok 0 [(15, .bool (decide (x2 < (sln sx))))] 1 rfl rfl ?_
 refine LP_end _ rfl (W_seq ?_)
 refine W_cond (decide (x2 < (sln sx))) rfl (fun hc4 => ?_) (fun hc4 => ?_)
 ·have H := H.1 hc4
  refine W_skip ?_
  refine W_seq ?_
  refine W_block ?_
  refine W_seq (W_region ?_)
  refine LP_ev ok 0 [(16, I x2), (3, I x2)] 2 rfl rfl ?_
  refine LP_end _ rfl ?_
  obtain ⟨k7, hk8, H⟩ := jn_elim H
  refine W_join2 (S := Bool) (fun s ρ' w' => k7 s ∧ ∃ (ρ : Env), ρ' = setAll [(0, .string sx), (13, I (sln sx)), (14, I x2), (26, .bool s)] ρ ∧ w = w') ?_ ?_
  ·refine W_region ?_
   refine LP_ev ok 0 [(17, .string sx), (18, I x2)] 2 rfl rfl ?_
   obtain ⟨c, hi, hx, H⟩ := H
   refine LP_val 2 _ rfl rfl (ex_sidx rfl rfl rfl Try.underlying9 hi hx _) ?_
   refine LP_ev ok 3 [(20, .bool (decide ((((UInt8.toNat c : Nat) : Int)) < 97))), (21, .bool (decide ((((UInt8.toNat c : Nat) : Int)) < 97)))] 5 rfl rfl ?_
   refine LP_split 21 (decide ((((UInt8.toNat c : Nat) : Int)) < 97)) rfl (fun hc9 => ?_) (fun hc9 => ?_)
   ·have H := H.1 hc9
    refine LP_ev ok 5 [(22, undef), (23, undef), (24, undef), (25, undef), (26, .bool true)] 10 rfl rfl ?_
    exact LP_end _ rfl ⟨true, H, _, env_eq ⟨rfl, rfl, rfl, rfl, trivial⟩, rfl⟩
   have H := H.2 hc9
   refine LP_ev ok 5 [(22, .string sx), (23, I x2)] 7 rfl rfl ?_
   obtain ⟨c10, hi11, hx12, H⟩ := H
   refine LP_val 7 _ rfl rfl (ex_sidx rfl rfl rfl Try.underlying9 hi11 hx12 _) ?_
   refine LP_ev ok 8 [(25, .bool (decide ((((UInt8.toNat c10 : Nat) : Int)) > 122))), (26, .bool (decide ((((UInt8.toNat c10 : Nat) : Int)) > 122)))] 10 rfl rfl ?_
   exact LP_end _ rfl ⟨decide ((((UInt8.toNat c10 : Nat) : Int)) > 122), H, _, env_eq ⟨rfl, rfl, rfl, rfl, trivial⟩, rfl⟩
  rintro x5 _ _ ⟨H, ρ, rfl, rfl⟩
  subst hk8
  refine W_cond (x5) rfl (fun hc13 => ?_) (fun hc13 => ?_)
  ·have H := H.1 hc13
   refine W_seq (W_region ?_)
   refine LP_ev ok 0 [(2, .bool false)] 1 rfl rfl ?_
   refine LP_end _ rfl (W_ret ?_)
   exact ⟨_, Ret_of [.bool false] ⟨⟨rfl, rfl⟩, trivial⟩, _, H, rfl, X.ext⟩
  have H := H.2 hc13
  refine W_skip ?_
  refine W_region ?_
  refine LP_ev ok 0 [(27, I (wr (x2 + 1))), (14, I (wr (x2 + 1)))] 2 rfl rfl ?_
  exact LP_end _ rfl ⟨wr (x2 + 1), ⟨H.1, _, env_eq ⟨rfl, rfl, rfl, trivial⟩, rfl⟩, H.2⟩
 have H := H.2 hc4
 refine W_exit ?_
 refine (if_pos rfl).mpr ?_
 refine W_seq (W_region ?_)
 refine LP_ev ok 0 [(2, .bool true)] 1 rfl rfl ?_
 refine LP_end _ rfl (W_ret ?_)
 exact ⟨_, Ret_of [.bool true] ⟨⟨rfl, rfl⟩, trivial⟩, _, H, rfl, X.ext⟩

theorem impl_IsSchema_w (sx : List Variable) (Q : Bool → Prop) (H : impl_IsSchema sx Q) (w : World) {vx : Value} {hx : PH} (r : RS hx vx sx) (ex : Sub hx w) :
  CallsTo Try.prog 123 #[vx] w fun v w' => ∃ r0, Q r0 ∧ v = .bool r0 ∧ Ext w w' := by
 obtain ⟨a, c, rfl⟩ := r.shape
 refine enter (args := [sl a sx c]) 51 Try.func123 rfl rfl rfl ?_
 refine W_forget [(0, sl a sx c)] ⟨rfl, trivial⟩ fun ρ => ?_
 have X := But.refl emp w
 refine W_seq (W_region ?_)
 refine LP_ev ok 0 [(2, .bool false)] 1 rfl rfl ?_
 refine LP_end _ rfl (W_seq ?_)
 obtain ⟨k, hk, H⟩ := jn_elim H
 refine W_join2 (S := Bool) (fun s ρ' w' => k s ∧ ∃ (ρ : Env), ρ' = setAll [(0, sl a sx c), (14, .bool s)] ρ ∧ w = w') ?_ ?_
 ·refine W_region ?_
  refine LP_ev ok 0 [(7, sl a sx c), (8, I (ln sx)), (9, .bool (decide ((ln sx) < 1))), (10, .bool (decide ((ln sx) < 1)))] 4 rfl rfl ?_
  refine LP_split 10 (decide ((ln sx) < 1)) rfl (fun hc => ?_) (fun hc => ?_)
  ·have H := H.1 hc
   refine LP_ev ok 4 [(11, undef), (12, undef), (13, undef), (14, .bool true)] 8 rfl rfl ?_
   exact LP_end _ rfl ⟨true, H, _, env_eq ⟨rfl, rfl, trivial⟩, rfl⟩
  have H := H.2 hc
  refine LP_ev ok 4 [(11, sl a sx c), (12, I (ln sx)), (13, .bool (decide ((ln sx) > 6))), (14, .bool (decide ((ln sx) > 6)))] 8 rfl rfl ?_
  exact LP_end _ rfl ⟨decide ((ln sx) > 6), H, _, env_eq ⟨rfl, rfl, trivial⟩, rfl⟩
 rintro x _ _ ⟨H, ρ, rfl, rfl⟩
 subst hk
 refine W_cond (x) rfl (fun hc1 => ?_) (fun hc1 => ?_)
 ·have H := H.1 hc1
  refine W_seq (W_region ?_)
  refine LP_ev ok 0 [(2, .bool false)] 1 rfl rfl ?_
  refine LP_end _ rfl (W_ret ?_)
  exact ⟨_, Ret_of [.bool false] ⟨⟨rfl, rfl⟩, trivial⟩, _, H, rfl, X.ext⟩
 have H := H.2 hc1
 refine W_skip ?_
 refine W_seq ?_
 refine W_seq (W_region ?_)
 refine LP_ev ok 0 [(15, sl a sx c), (16, I (ln sx)), (17, I 0)] 3 rfl rfl ?_
 refine LP_end _ rfl ?_
 refine W_block ?_
 obtain ⟨J, m, Hx, H⟩ := H
 refine W_loop (S := Int) (fun s ρ' w' => J s ∧ ∃ (ρ : Env), ρ' = setAll [(0, sl a sx c), (15, sl a sx c), (16, I (ln sx)), (17, I s)] ρ ∧ But emp w w' ∧ Sub hx w') (fun s => m s) 0 ⟨Hx, _, env_eq ⟨rfl, rfl, rfl, rfl, trivial⟩, X, ex⟩ ?_
 rintro x2 _ wx3 ⟨Hi, ρ, rfl, X5, ex4⟩
 have H := H x2 Hi
 refine W_seq (W_region ?_)
 refine LP_ev ok 0 [(18, .bool (decide (x2 < (ln sx))))] 1 rfl rfl ?_
 refine LP_end _ rfl (W_seq ?_)
 refine W_cond (decide (x2 < (ln sx))) rfl (fun hc6 => ?_) (fun hc6 => ?_)
 ·have H := H.1 hc6
  refine W_skip ?_
  refine W_seq ?_
  refine W_block ?_
  refine W_seq (W_region ?_)
  refine LP_ev ok 0 [(19, I x2)] 1 rfl rfl ?_
  obtain ⟨x7, hi, hx8, H⟩ := H
  refine LP_index 1 rfl rfl rfl Try.underlying24 ti_167 rfl rfl r hi hx8 fun a9 cs r10 d => ?_
  refine LP_load 2 rfl rfl rfl ti_167 ag_167 rfl r10 d ex4 fun vx11 r12 => ?_
  obtain rfl := Variable_rv r12
  refine LP_alloc 3 rfl rfl rfl ti_167 rfl fun b wx13 x14 ex15 f => ?_
  refine LP_ev ok 4 [(3, I x2)] 5 rfl rfl ?_
  refine LP_stbox 5 (vs := [.string x7.Name, I x7.Levels]) (cs' := [.string x7.Name, I x7.Levels]) rfl rfl rfl ti_167 rfl rfl rfl rfl rfl ex15 rfl rfl fun wx16 ex17 y => ?_
  refine LP_end _ rfl (W_seq ?_)
  have f18 := f.mono X5.size
  have X19 := ((X5.stepx x14).step y (f18.dom _))
  have ex20 := ((ex4.ext x14).but y (Dj.of_fresh ex4 f).symm)
  obtain ⟨k26, hk27, H⟩ := jn_elim H
  refine W_join2 (S := Bool) (fun s ρ' w' => k26 s ∧ ∃ (ρ : Env), ρ' = setAll [(0, sl a sx c), (3, I x2), (4, pb b), (15, sl a sx c), (16, I (ln sx)), (17, I x2), (35, .bool s)] ρ ∧ But emp w w' ∧ Sub hx w' ∧ Sub (bx b 167 [.string x7.Name, I x7.Levels]) w') ?_ ?_
  ·refine W_region ?_
   refine LP_ev ok 0 [(22, pb b)] 1 rfl rfl ?_
   refine LP_ldbox 1 (v := .string x7.Name) rfl rfl rfl ti_9 ag_9 (fun _ => rfl) rfl ex17 rfl rfl ?_
   refine LP_call 2 rfl rfl rfl cal_188 rfl (impl_isWord_w _ _ H wx16 ) ?_
   rintro _ wx29 ⟨r28, H, rfl, x30⟩
   refine LP_ev ok 3 [(25, .bool (!r28)), (26, .bool (!r28))] 5 rfl rfl ?_
   refine LP_split 26 (!r28) rfl (fun hc31 => ?_) (fun hc31 => ?_)
   ·have H := H.1 hc31
    refine LP_ev ok 5 [(27, undef), (28, undef), (29, undef), (30, .bool true), (31, .bool true), (32, undef), (33, undef), (34, undef), (35, .bool true)] 14 rfl rfl ?_
    exact LP_end _ rfl ⟨true, H, _, env_eq ⟨rfl, rfl, rfl, rfl, rfl, rfl, rfl, trivial⟩, (X19.stepx x30), (ex20.ext x30), (ex17.ext x30)⟩
   have H := H.2 hc31
   refine LP_ev ok 5 [(27, .pointer (some ⟨b, 1, none⟩))] 6 rfl rfl ?_
   have ex35 := (ex17.ext x30)
   refine LP_ldbox 6 (v := I x7.Levels) rfl rfl rfl ti_3 ag_3 (fun _ => rfl) rfl ex35 rfl rfl ?_
   refine LP_ev ok 7 [(29, .bool (decide (x7.Levels < 2))), (30, .bool (decide (x7.Levels < 2))), (31, .bool (decide (x7.Levels < 2)))] 10 rfl rfl ?_
   refine LP_split 31 (decide (x7.Levels < 2)) rfl (fun hc36 => ?_) (fun hc36 => ?_)
   ·have H := H.1 hc36
    refine LP_ev ok 10 [(32, undef), (33, undef), (34, undef), (35, .bool true)] 14 rfl rfl ?_
    exact LP_end _ rfl ⟨true, H, _, env_eq ⟨rfl, rfl, rfl, rfl, rfl, rfl, rfl, trivial⟩, (X19.stepx x30), (ex20.ext x30), ex35⟩
   have H := H.2 hc36
   refine LP_ev ok 10 [(32, .pointer (some ⟨b, 1, none⟩))] 11 rfl rfl ?_
   refine LP_ldbox 11 (v := I x7.Levels) rfl rfl rfl ti_3 ag_3 (fun _ => rfl) rfl ex35 rfl rfl ?_
   refine LP_ev ok 12 [(34, .bool (decide (x7.Levels > 8))), (35, .bool (decide (x7.Levels > 8)))] 14 rfl rfl ?_
   exact LP_end _ rfl ⟨decide (x7.Levels > 8), H, _, env_eq ⟨rfl, rfl, rfl, rfl, rfl, rfl, rfl, trivial⟩, (X19.stepx x30), (ex20.ext x30), ex35⟩
  rintro x21 _ wx22 ⟨H, ρ, rfl, X25, ex23, ex24⟩
  subst hk27
  refine W_cond (x21) rfl (fun hc41 => ?_) (fun hc41 => ?_)
  ·have H := H.1 hc41
   refine W_seq (W_region ?_)
   refine LP_ev ok 0 [(2, .bool false)] 1 rfl rfl ?_
   refine LP_end _ rfl (W_ret ?_)
   exact ⟨_, Ret_of [.bool false] ⟨⟨rfl, rfl⟩, trivial⟩, _, H, rfl, X25.ext⟩
  have H := H.2 hc41
  refine W_skip ?_
  refine W_seq (W_region ?_)
  refine LP_ev ok 0 [(36, sl a sx c), (37, I x2)] 2 rfl rfl ?_
  obtain ⟨hl, hu, hn, H⟩ := H
  refine LP_slice 2 0 x2 rfl rfl rfl Try.underlying24 ti_167 rfl rfl rfl r (.inl ⟨rfl, rfl⟩) (.inr rfl) hl hu hn fun vx42 r43 => ?_
  obtain ⟨a44, c45, rfl⟩ := r43.shape
  refine LP_ev ok 3 [(39, I (ln (List.take (Int.toNat x2 - Int.toNat 0) (List.drop (Int.toNat 0) sx)))), (40, I 0)] 5 rfl rfl ?_
  refine LP_end _ rfl ?_
  refine W_block ?_
  obtain ⟨J51, m52, Hx53, H⟩ := H
  refine W_loop (S := Int) (fun s ρ' w' => J51 s ∧ ∃ (ρ : Env), ρ' = setAll [(0, sl a sx c), (4, pb b), (15, sl a sx c), (16, I (ln sx)), (17, I x2), (38, .slice a44 (List.length (List.take (Int.toNat x2 - Int.toNat 0) (List.drop (Int.toNat 0) sx))) c45), (39, I (ln (List.take (Int.toNat x2 - Int.toNat 0) (List.drop (Int.toNat 0) sx)))), (40, I s)] ρ ∧ But emp w w' ∧ Sub hx w' ∧ Sub (bx b 167 [.string x7.Name, I x7.Levels]) w') (fun s => m52 s) 0 ⟨Hx53, _, env_eq ⟨rfl, rfl, rfl, rfl, rfl, rfl, rfl, rfl, trivial⟩, X25, ex23, ex24⟩ ?_
  rintro x46 _ wx47 ⟨Hi, ρ, rfl, X50, ex48, ex49⟩
  have H := H x46 Hi
  refine W_seq (W_region ?_)
  refine LP_ev ok 0 [(41, .bool (decide (x46 < (ln (List.take (Int.toNat x2 - Int.toNat 0) (List.drop (Int.toNat 0) sx))))))] 1 rfl rfl ?_
  refine LP_end _ rfl (W_seq ?_)
  refine W_cond (decide (x46 < (ln (List.take (Int.toNat x2 - Int.toNat 0) (List.drop (Int.toNat 0) sx))))) rfl (fun hc55 => ?_) (fun hc55 => ?_)
  ·have H := H.1 hc55
   refine W_skip ?_
   refine W_seq ?_
   refine W_block ?_
   refine W_seq (W_region ?_)
   obtain ⟨x56, hi57, hx58, H⟩ := H
   refine LP_index 0 rfl rfl rfl Try.underlying24 ti_167 rfl rfl r43 hi57 hx58 fun a59 cs60 r61 d62 => ?_
   refine LP_load 1 rfl rfl rfl ti_167 ag_167 rfl r61 d62 ex48 fun vx63 r64 => ?_
   obtain rfl := Variable_rv r64
   refine LP_alloc 2 rfl rfl rfl ti_167 rfl fun b65 wx66 x67 ex68 f69 => ?_
   refine LP_stbox 3 (vs := [.string x56.Name, I x56.Levels]) (cs' := [.string x56.Name, I x56.Levels]) rfl rfl rfl ti_167 rfl rfl rfl rfl rfl ex68 rfl rfl fun wx70 ex71 y72 => ?_
   refine LP_end _ rfl (W_seq (W_region ?_))
   refine LP_ev ok 0 [(44, pb b65)] 1 rfl rfl ?_
   refine LP_ldbox 1 (v := .string x56.Name) rfl rfl rfl ti_9 ag_9 (fun _ => rfl) rfl ex71 rfl rfl ?_
   refine LP_ev ok 2 [(46, pb b)] 3 rfl rfl ?_
   have ex73 := ((ex49.ext x67).but y72 (Dj.of_fresh ex49 f69).symm)
   refine LP_ldbox 3 (v := .string x7.Name) rfl rfl rfl ti_9 ag_9 (fun _ => rfl) rfl ex73 rfl rfl ?_
   refine LP_ev ok 4 [(48, .bool (streq x56.Name x7.Name))] 5 rfl rfl ?_
   refine LP_end _ rfl ?_
   refine W_cond (streq x56.Name x7.Name) rfl (fun hc74 => ?_) (fun hc74 => ?_)
   ·have H := H.1 hc74
    refine W_seq (W_region ?_)
    refine LP_ev ok 0 [(2, .bool false)] 1 rfl rfl ?_
    refine LP_end _ rfl (W_ret ?_)
    have f75 := f69.mono X50.size
    exact ⟨_, Ret_of [.bool false] ⟨⟨rfl, rfl⟩, trivial⟩, _, H, rfl, ((X50.stepx x67).step y72 (f75.dom _)).ext⟩
   have H := H.2 hc74
   refine W_skip ?_
   refine W_region ?_
   refine LP_ev ok 0 [(49, I (wr (x46 + 1))), (40, I (wr (x46 + 1)))] 2 rfl rfl ?_
   refine LP_end _ rfl ?_
   have f77 := f69.mono X50.size
   exact ⟨wr (x46 + 1), ⟨H.1, _, env_eq ⟨rfl, rfl, rfl, rfl, rfl, rfl, rfl, rfl, trivial⟩, ((X50.stepx x67).step y72 (f77.dom _)), ((ex48.ext x67).but y72 (Dj.of_fresh ex48 f69).symm), ex73⟩, H.2⟩
  have H := H.2 hc55
  refine W_exit ?_
  refine (if_pos rfl).mpr ?_
  refine W_region ?_
  refine LP_ev ok 0 [(50, I (wr (x2 + 1))), (17, I (wr (x2 + 1)))] 2 rfl rfl ?_
  exact LP_end _ rfl ⟨wr (x2 + 1), ⟨H.1, _, env_eq ⟨rfl, rfl, rfl, rfl, trivial⟩, X50, ex48⟩, H.2⟩
 have H := H.2 hc6
 refine W_exit ?_
 refine (if_pos rfl).mpr ?_
 refine W_seq (W_region ?_)
 refine LP_ev ok 0 [(2, .bool true)] 1 rfl rfl ?_
 refine LP_end _ rfl (W_ret ?_)
 exact ⟨_, Ret_of [.bool true] ⟨⟨rfl, rfl⟩, trivial⟩, _, H, rfl, X5.ext⟩

theorem impl_combinations_w (sx : List Variable) (Q : Int → Prop) (H : impl_combinations sx Q) (w : World) {vx : Value} {hx : PH} (r : RS hx vx sx) (ex : Sub hx w) :
  CallsTo Try.prog 68 #[vx] w fun v w' => ∃ r0, Q r0 ∧ v = I r0 ∧ Ext w w' := by
 obtain ⟨a, c, rfl⟩ := r.shape
 refine enter (args := [sl a sx c]) 18 Try.func68 rfl rfl rfl ?_
 refine W_forget [(0, sl a sx c)] ⟨rfl, trivial⟩ fun ρ => ?_
 have X := But.refl emp w
 refine W_seq (W_region ?_)
 refine LP_ev ok 0 [(2, I 0)] 1 rfl rfl ?_
 refine LP_end _ rfl (W_seq (W_region ?_))
 refine LP_ev ok 0 [(3, I 1)] 1 rfl rfl ?_
 refine LP_end _ rfl (W_seq ?_)
 refine W_seq (W_region ?_)
 refine LP_ev ok 0 [(6, sl a sx c), (7, I (ln sx)), (8, I 0)] 3 rfl rfl ?_
 refine LP_end _ rfl ?_
 refine W_block ?_
 obtain ⟨J, m, Hx, H⟩ := H
 refine W_loop (S := Int × Int) (fun s ρ' w' => J s.1 s.2 ∧ ∃ (ρ : Env), ρ' = setAll [(3, I s.1), (6, sl a sx c), (7, I (ln sx)), (8, I s.2)] ρ ∧ But emp w w' ∧ Sub hx w') (fun s => m s.1 s.2) (1, 0) ⟨Hx, _, env_eq ⟨rfl, rfl, rfl, rfl, trivial⟩, X, ex⟩ ?_
 rintro ⟨n, x⟩ _ wx ⟨Hi, ρ, rfl, X2, ex1⟩
 have H := H n x Hi
 refine W_seq (W_region ?_)
 refine LP_ev ok 0 [(9, .bool (decide (x < (ln sx))))] 1 rfl rfl ?_
 refine LP_end _ rfl (W_seq ?_)
 refine W_cond (decide (x < (ln sx))) rfl (fun hc => ?_) (fun hc => ?_)
 ·have H := H.1 hc
  refine W_skip ?_
  refine W_seq ?_
  refine W_block ?_
  refine W_seq (W_region ?_)
  obtain ⟨x3, hi, hx4, H⟩ := H
  refine LP_index 0 rfl rfl rfl Try.underlying24 ti_167 rfl rfl r hi hx4 fun a5 cs r6 d => ?_
  refine LP_load 1 rfl rfl rfl ti_167 ag_167 rfl r6 d ex1 fun vx7 r8 => ?_
  obtain rfl := Variable_rv r8
  refine LP_alloc 2 rfl rfl rfl ti_167 rfl fun b wx9 x10 ex11 f => ?_
  refine LP_stbox 3 (vs := [.string x3.Name, I x3.Levels]) (cs' := [.string x3.Name, I x3.Levels]) rfl rfl rfl ti_167 rfl rfl rfl rfl rfl ex11 rfl rfl fun wx12 ex13 y => ?_
  refine LP_end _ rfl ?_
  refine W_region ?_
  refine LP_ev ok 0 [(12, I n), (13, .pointer (some ⟨b, 1, none⟩))] 2 rfl rfl ?_
  refine LP_ldbox 2 (v := I x3.Levels) rfl rfl rfl ti_3 ag_3 (fun _ => rfl) rfl ex13 rfl rfl ?_
  refine LP_ev ok 3 [(15, I (wr (n * x3.Levels))), (3, I (wr (n * x3.Levels)))] 5 rfl rfl ?_
  refine LP_end _ rfl ?_
  refine W_region ?_
  refine LP_ev ok 0 [(16, I (wr (x + 1))), (8, I (wr (x + 1)))] 2 rfl rfl ?_
  refine LP_end _ rfl ?_
  have f14 := f.mono X2.size
  exact ⟨(wr (n * x3.Levels), wr (x + 1)), ⟨H.1, _, env_eq ⟨rfl, rfl, rfl, rfl, trivial⟩, ((X2.stepx x10).step y (f14.dom _)), ((ex1.ext x10).but y (Dj.of_fresh ex1 f).symm)⟩, H.2⟩
 have H := H.2 hc
 refine W_exit ?_
 refine (if_pos rfl).mpr ?_
 refine W_seq (W_region ?_)
 refine LP_ev ok 0 [(17, I n), (2, I n)] 2 rfl rfl ?_
 refine LP_end _ rfl (W_ret ?_)
 exact ⟨_, Ret_of [I n] ⟨⟨rfl, rfl⟩, trivial⟩, _, H, rfl, X2.ext⟩

theorem impl_isSmall_w (sx : List Variable) (Q : Bool → Prop) (H : impl_isSmall sx Q) (w : World) {vx : Value} {hx : PH} (r : RS hx vx sx) (ex : Sub hx w) :
  CallsTo Try.prog 62 #[vx] w fun v w' => ∃ r0, Q r0 ∧ v = .bool r0 ∧ Ext w w' := by
 obtain ⟨a, c, rfl⟩ := r.shape
 refine enter (args := [sl a sx c]) 10 Try.func62 rfl rfl rfl ?_
 refine W_forget [(0, sl a sx c)] ⟨rfl, trivial⟩ fun ρ => ?_
 have X := But.refl emp w
 refine W_seq (W_region ?_)
 refine LP_ev ok 0 [(2, .bool false)] 1 rfl rfl ?_
 refine LP_end _ rfl ?_
 obtain ⟨k, hk, H⟩ := jn_elim H
 refine W_join2 (S := Bool) (fun s ρ' w' => k s ∧ ∃ (ρ : Env), ρ' = setAll [(2, .bool s)] ρ ∧ But emp w w') ?_ ?_
 ·refine W_region ?_
  refine LP_ev ok 0 [(3, sl a sx c)] 1 rfl rfl ?_
  refine LP_call 1 rfl rfl rfl cal_123 rfl (impl_IsSchema_w _ _ H w r ex) ?_
  rintro _ wx3 ⟨r2, H, rfl, x4⟩
  refine LP_ev ok 2 [(5, .bool r2)] 3 rfl rfl ?_
  refine LP_split 5 (r2) rfl (fun hc => ?_) (fun hc => ?_)
  ·have H := H.1 hc
   refine LP_ev ok 3 [(6, sl a sx c)] 4 rfl rfl ?_
   refine LP_call 4 rfl rfl rfl cal_68 rfl (impl_combinations_w _ _ H wx3 r (ex.ext x4)) ?_
   rintro _ wx7 ⟨r5, H, rfl, x8⟩
   refine LP_ev ok 5 [(8, .bool (decide (r5 ≤ 100))), (9, .bool (decide (r5 ≤ 100))), (2, .bool (decide (r5 ≤ 100)))] 8 rfl rfl ?_
   exact LP_end _ rfl ⟨decide (r5 ≤ 100), H, _, env_eq ⟨rfl, trivial⟩, (X.stepx (x4.trans x8))⟩
  have H := H.2 hc
  refine LP_ev ok 3 [(6, undef), (7, undef), (8, undef), (9, .bool false), (2, .bool false)] 8 rfl rfl ?_
  exact LP_end _ rfl ⟨false, H, _, env_eq ⟨rfl, trivial⟩, (X.stepx x4)⟩
 rintro x _ wx ⟨H, ρ, rfl, X1⟩
 subst hk
 refine W_ret ?_
 exact ⟨_, Ret_of [.bool x] ⟨⟨rfl, rfl⟩, trivial⟩, _, H, rfl, X1.ext⟩

theorem impl_fullSet_w (vx : Variable) (Q : Int → Prop) (H : impl_fullSet vx Q) (w : World)  :
  CallsTo Try.prog 145 #[.agg #[.string vx.Name, I vx.Levels]] w fun v w' => ∃ r0, Q r0 ∧ v = I r0 ∧ Ext w w' := by
 refine enter (args := [.agg #[.string vx.Name, I vx.Levels]]) 7 Try.func145 rfl rfl rfl ?_
 refine W_forget [(0, .agg #[.string vx.Name, I vx.Levels])] ⟨rfl, trivial⟩ fun ρ => ?_
 have X := But.refl emp w
 refine W_seq (W_region ?_)
 refine LP_box 0 (cs := [.string vx.Name, I vx.Levels]) rfl rfl rfl rfl rfl fun b wx x ex f => ?_
 refine LP_ev ok 1 [(2, I 0)] 2 rfl rfl ?_
 refine LP_end _ rfl (W_seq (W_region ?_))
 refine LP_ev ok 0 [(3, .pointer (some ⟨b, 1, none⟩))] 1 rfl rfl ?_
 refine LP_ldbox 1 (v := I vx.Levels) rfl rfl rfl ti_3 ag_3 (fun _ => rfl) rfl ex rfl rfl ?_
 obtain ⟨hz, H⟩ := H
 refine LP_val 2 _ rfl rfl (ex_shl rfl rfl rfl hz _) ?_
 refine LP_ev ok 3 [(6, I (wr ((shl .i64 1 vx.Levels) - 1))), (2, I (wr ((shl .i64 1 vx.Levels) - 1)))] 5 rfl rfl ?_
 refine LP_end _ rfl (W_ret ?_)
 exact ⟨_, Ret_of [I (wr ((shl .i64 1 vx.Levels) - 1))] ⟨⟨rfl, rfl⟩, trivial⟩, _, H, rfl, (X.stepx x).ext⟩

theorem impl_isEdit_w (sx : List Variable) (ex1 : Edit) (Q : Bool → Prop) (H : impl_isEdit sx ex1 Q) (w : World) {vx : Value} {hx : PH} (r : RS hx vx sx) (ex : Sub hx w) {vx2 : Value} {hx3 : PH} (r4 : RS hx3 vx2 ex1.Sets) (ex5 : Sub hx3 w) :
  CallsTo Try.prog 67 #[vx, .agg #[vx2]] w fun v w' => ∃ r0, Q r0 ∧ v = .bool r0 ∧ Ext w w' := by
 obtain ⟨a, c, rfl⟩ := r.shape
 obtain ⟨a6, c7, rfl⟩ := r4.shape
 refine enter (args := [sl a sx c, .agg #[sl a6 ex1.Sets c7]]) 33 Try.func67 rfl rfl rfl ?_
 refine W_forget [(0, sl a sx c), (1, .agg #[sl a6 ex1.Sets c7])] ⟨rfl, rfl, trivial⟩ fun ρ => ?_
 have X := But.refl emp w
 refine W_seq (W_region ?_)
 refine LP_box 0 (cs := [sl a6 ex1.Sets c7]) rfl rfl rfl rfl rfl fun b wx x ex8 f => ?_
 refine LP_ev ok 1 [(4, .bool false)] 2 rfl rfl ?_
 refine LP_end _ rfl (W_seq ?_)
 refine W_seq (W_region ?_)
 refine LP_ev ok 0 [(7, pb b)] 1 rfl rfl ?_
 refine LP_ldbox 1 (v := sl a6 ex1.Sets c7) rfl rfl rfl ti_31 ag_31 (fun _ => rfl) rfl ex8 rfl rfl ?_
 refine LP_ev ok 2 [(9, I (ln ex1.Sets)), (10, sl a sx c), (11, I (ln sx)), (12, .bool ((ln ex1.Sets) != (ln sx)))] 6 rfl rfl ?_
 refine LP_end _ rfl ?_
 refine W_cond ((ln ex1.Sets) != (ln sx)) rfl (fun hc => ?_) (fun hc => ?_)
 ·have H := H.1 hc
  refine W_seq (W_region ?_)
  refine LP_ev ok 0 [(4, .bool false)] 1 rfl rfl ?_
  refine LP_end _ rfl (W_ret ?_)
  exact ⟨_, Ret_of [.bool false] ⟨⟨rfl, rfl⟩, trivial⟩, _, H, rfl, (X.stepx x).ext⟩
 have H := H.2 hc
 refine W_skip ?_
 refine W_seq ?_
 refine W_seq (W_region ?_)
 refine LP_ev ok 0 [(13, pb b)] 1 rfl rfl ?_
 refine LP_ldbox 1 (v := sl a6 ex1.Sets c7) rfl rfl rfl ti_31 ag_31 (fun _ => rfl) rfl ex8 rfl rfl ?_
 refine LP_ev ok 2 [(15, I (ln ex1.Sets)), (16, I 0)] 4 rfl rfl ?_
 refine LP_end _ rfl ?_
 refine W_block ?_
 obtain ⟨J, m, Hx, H⟩ := H
 refine W_loop (S := Int) (fun s ρ' w' => J s ∧ ∃ (ρ : Env), ρ' = setAll [(0, sl a sx c), (14, sl a6 ex1.Sets c7), (15, I (ln ex1.Sets)), (16, I s)] ρ ∧ But emp w w' ∧ Sub hx w' ∧ Sub hx3 w') (fun s => m s) 0 ⟨Hx, _, env_eq ⟨rfl, rfl, rfl, rfl, trivial⟩, (X.stepx x), (ex.ext x), (ex5.ext x)⟩ ?_
 rintro x10 _ wx11 ⟨Hi, ρ, rfl, X14, ex12, ex13⟩
 have H := H x10 Hi
 refine W_seq (W_region ?_)
 refine LP_ev ok 0 [(17, .bool (decide (x10 < (ln ex1.Sets))))] 1 rfl rfl ?_
 refine LP_end _ rfl (W_seq ?_)
 refine W_cond (decide (x10 < (ln ex1.Sets))) rfl (fun hc18 => ?_) (fun hc18 => ?_)
 ·have H := H.1 hc18
  refine W_skip ?_
  refine W_seq ?_
  refine W_block ?_
  refine W_seq (W_region ?_)
  refine LP_ev ok 0 [(18, I x10)] 1 rfl rfl ?_
  obtain ⟨x19, hi, hx20, H⟩ := H
  refine LP_index 1 rfl rfl rfl Try.underlying31 ti_3 rfl rfl r4 hi hx20 fun a21 cs r22 d => ?_
  refine LP_load 2 rfl rfl rfl ti_3 ag_3 rfl r22 d ex13 fun vx23 r24 => ?_
  obtain rfl := r24.int
  refine LP_ev ok 3 [(5, I x10), (6, I x19)] 5 rfl rfl ?_
  refine LP_end _ rfl ?_
  obtain ⟨k, hk, H⟩ := jn_elim H
  refine W_join2 (S := Bool) (fun s ρ' w' => k s ∧ ∃ (ρ : Env), ρ' = setAll [(0, sl a sx c), (14, sl a6 ex1.Sets c7), (15, I (ln ex1.Sets)), (16, I x10), (31, .bool s)] ρ ∧ But emp w w' ∧ Sub hx w' ∧ Sub hx3 w') ?_ ?_
  ·refine W_region ?_
   refine LP_ev ok 0 [(21, I x19), (22, .bool (decide (x19 < 1))), (23, .bool (decide (x19 < 1)))] 3 rfl rfl ?_
   refine LP_split 23 (decide (x19 < 1)) rfl (fun hc30 => ?_) (fun hc30 => ?_)
   ·have H := H.1 hc30
    refine LP_ev ok 3 [(24, undef), (25, undef), (26, undef), (27, undef), (28, undef), (29, undef), (30, undef), (31, .bool true)] 11 rfl rfl ?_
    exact LP_end _ rfl ⟨true, H, _, env_eq ⟨rfl, rfl, rfl, rfl, rfl, trivial⟩, X14, ex12, ex13⟩
   have H := H.2 hc30
   refine LP_ev ok 3 [(24, I x19), (25, sl a sx c), (26, I x10)] 6 rfl rfl ?_
   obtain ⟨x31, hi32, hx33, H⟩ := H
   refine LP_index 6 rfl rfl rfl Try.underlying24 ti_167 rfl rfl r hi32 hx33 fun a34 cs35 r36 d37 => ?_
   refine LP_load 7 rfl rfl rfl ti_167 ag_167 rfl r36 d37 ex12 fun vx38 r39 => ?_
   obtain rfl := Variable_rv r39
   refine LP_call 8 rfl rfl rfl cal_145 rfl (impl_fullSet_w _ _ H wx11 ) ?_
   rintro _ wx41 ⟨r40, H, rfl, x42⟩
   refine LP_ev ok 9 [(30, .bool (decide (x19 > r40))), (31, .bool (decide (x19 > r40)))] 11 rfl rfl ?_
   exact LP_end _ rfl ⟨decide (x19 > r40), H, _, env_eq ⟨rfl, rfl, rfl, rfl, rfl, trivial⟩, (X14.stepx x42), (ex12.ext x42), (ex13.ext x42)⟩
  rintro x25 _ wx26 ⟨H, ρ, rfl, X29, ex27, ex28⟩
  subst hk
  refine W_cond (x25) rfl (fun hc46 => ?_) (fun hc46 => ?_)
  ·have H := H.1 hc46
   refine W_seq (W_region ?_)
   refine LP_ev ok 0 [(4, .bool false)] 1 rfl rfl ?_
   refine LP_end _ rfl (W_ret ?_)
   exact ⟨_, Ret_of [.bool false] ⟨⟨rfl, rfl⟩, trivial⟩, _, H, rfl, X29.ext⟩
  have H := H.2 hc46
  refine W_skip ?_
  refine W_region ?_
  refine LP_ev ok 0 [(32, I (wr (x10 + 1))), (16, I (wr (x10 + 1)))] 2 rfl rfl ?_
  exact LP_end _ rfl ⟨wr (x10 + 1), ⟨H.1, _, env_eq ⟨rfl, rfl, rfl, rfl, trivial⟩, X29, ex27, ex28⟩, H.2⟩
 have H := H.2 hc18
 refine W_exit ?_
 refine (if_pos rfl).mpr ?_
 refine W_seq (W_region ?_)
 refine LP_ev ok 0 [(4, .bool true)] 1 rfl rfl ?_
 refine LP_end _ rfl (W_ret ?_)
 exact ⟨_, Ret_of [.bool true] ⟨⟨rfl, rfl⟩, trivial⟩, _, H, rfl, X14.ext⟩

theorem impl_areEdits_w (sx : List Variable) (l : List Edit) (Q : Bool → Prop) (H : impl_areEdits sx l Q) (w : World) {vx : Value} {hx : PH} (r : RS hx vx sx) (ex : Sub hx w) {vx1 : Value} {hx2 : PH} (r3 : RS hx2 vx1 l) (ex4 : Sub hx2 w) :
  CallsTo Try.prog 63 #[vx, vx1] w fun v w' => ∃ r0, Q r0 ∧ v = .bool r0 ∧ Ext w w' := by
 obtain ⟨a, c, rfl⟩ := r.shape
 obtain ⟨a5, c6, rfl⟩ := r3.shape
 refine enter (args := [sl a sx c, sl a5 l c6]) 21 Try.func63 rfl rfl rfl ?_
 refine W_forget [(0, sl a sx c), (1, sl a5 l c6)] ⟨rfl, rfl, trivial⟩ fun ρ => ?_
 have X := But.refl emp w
 refine W_seq (W_region ?_)
 refine LP_ev ok 0 [(4, .bool false)] 1 rfl rfl ?_
 refine LP_end _ rfl (W_seq ?_)
 refine W_seq (W_region ?_)
 refine LP_ev ok 0 [(7, sl a5 l c6), (8, I (ln l)), (9, .bool (decide ((ln l) > 40)))] 3 rfl rfl ?_
 refine LP_end _ rfl ?_
 refine W_cond (decide ((ln l) > 40)) rfl (fun hc => ?_) (fun hc => ?_)
 ·have H := H.1 hc
  refine W_seq (W_region ?_)
  refine LP_ev ok 0 [(4, .bool false)] 1 rfl rfl ?_
  refine LP_end _ rfl (W_ret ?_)
  exact ⟨_, Ret_of [.bool false] ⟨⟨rfl, rfl⟩, trivial⟩, _, H, rfl, X.ext⟩
 have H := H.2 hc
 refine W_skip ?_
 refine W_seq ?_
 refine W_seq (W_region ?_)
 refine LP_ev ok 0 [(10, sl a5 l c6), (11, I (ln l)), (12, I 0)] 3 rfl rfl ?_
 refine LP_end _ rfl ?_
 refine W_block ?_
 obtain ⟨J, m, Hx, H⟩ := H
 refine W_loop (S := Int) (fun s ρ' w' => J s ∧ ∃ (ρ : Env), ρ' = setAll [(0, sl a sx c), (10, sl a5 l c6), (11, I (ln l)), (12, I s)] ρ ∧ But emp w w' ∧ Sub hx w' ∧ Sub hx2 w') (fun s => m s) 0 ⟨Hx, _, env_eq ⟨rfl, rfl, rfl, rfl, trivial⟩, X, ex, ex4⟩ ?_
 rintro x _ wx ⟨Hi, ρ, rfl, X9, ex7, ex8⟩
 have H := H x Hi
 refine W_seq (W_region ?_)
 refine LP_ev ok 0 [(13, .bool (decide (x < (ln l))))] 1 rfl rfl ?_
 refine LP_end _ rfl (W_seq ?_)
 refine W_cond (decide (x < (ln l))) rfl (fun hc10 => ?_) (fun hc10 => ?_)
 ·have H := H.1 hc10
  refine W_skip ?_
  refine W_seq ?_
  refine W_block ?_
  refine W_seq (W_region ?_)
  obtain ⟨x11, hi, hx12, H⟩ := H
  refine LP_index 0 rfl rfl rfl Try.underlying25 ti_33 rfl rfl r3 hi hx12 fun a13 cs r14 d => ?_
  have d15 := d
  obtain ⟨u, rfl, r16⟩ := Edit_rd d15
  obtain ⟨a17, c18, rfl⟩ := r16.shape
  refine LP_load 1 rfl rfl rfl ti_33 ag_33 rfl r14 d ex8 fun vx19 r20 => ?_
  obtain ⟨u21, rfl, r22⟩ := Edit_rv r20
  obtain ⟨a23, c24, rfl⟩ := r22.shape
  refine LP_alloc 2 rfl rfl rfl ti_33 rfl fun b wx25 x26 ex27 f => ?_
  refine LP_stbox 3 (vs := [sl a23 x11.Sets c24]) (cs' := [sl a23 x11.Sets c24]) rfl rfl rfl ti_33 rfl rfl rfl rfl rfl ex27 rfl rfl fun wx28 ex29 y => ?_
  refine LP_end _ rfl (W_seq (W_region ?_))
  refine LP_ev ok 0 [(16, sl a sx c)] 1 rfl rfl ?_
  refine LP_ldbox 1 (v := .agg #[sl a23 x11.Sets c24]) rfl rfl rfl ti_33 ag_33 (fun h => by cases h) rfl ex29 rfl rfl ?_
  have ex31 := ((ex7.ext x26).but y (Dj.of_fresh ex7 f).symm)
  have ex32 := ((ex8.ext x26).but y (Dj.of_fresh ex8 f).symm)
  refine LP_call 2 rfl rfl rfl cal_67 rfl (impl_isEdit_w _ _ _ H wx28 r ex31 r22 ex32) ?_
  rintro _ wx33 ⟨r30, H, rfl, x34⟩
  refine LP_ev ok 3 [(19, .bool (!r30))] 4 rfl rfl ?_
  refine LP_end _ rfl ?_
  refine W_cond (!r30) rfl (fun hc35 => ?_) (fun hc35 => ?_)
  ·have H := H.1 hc35
   refine W_seq (W_region ?_)
   refine LP_ev ok 0 [(4, .bool false)] 1 rfl rfl ?_
   refine LP_end _ rfl (W_ret ?_)
   have f36 := f.mono X9.size
   exact ⟨_, Ret_of [.bool false] ⟨⟨rfl, rfl⟩, trivial⟩, _, H, rfl, (((X9.stepx x26).step y (f36.dom _)).stepx x34).ext⟩
  have H := H.2 hc35
  refine W_skip ?_
  refine W_region ?_
  refine LP_ev ok 0 [(20, I (wr (x + 1))), (12, I (wr (x + 1)))] 2 rfl rfl ?_
  refine LP_end _ rfl ?_
  have f38 := f.mono X9.size
  exact ⟨wr (x + 1), ⟨H.1, _, env_eq ⟨rfl, rfl, rfl, rfl, trivial⟩, (((X9.stepx x26).step y (f38.dom _)).stepx x34), (ex31.ext x34), (ex32.ext x34)⟩, H.2⟩
 have H := H.2 hc10
 refine W_exit ?_
 refine (if_pos rfl).mpr ?_
 refine W_seq (W_region ?_)
 refine LP_ev ok 0 [(4, .bool true)] 1 rfl rfl ?_
 refine LP_end _ rfl (W_ret ?_)
 exact ⟨_, Ret_of [.bool true] ⟨⟨rfl, rfl⟩, trivial⟩, _, H, rfl, X9.ext⟩

theorem impl_valuesAt_w (sx : List Variable) (i : Int) (Q : (List Int) → Prop) (H : impl_valuesAt sx i Q) (w : World) {vx : Value} {hx : PH} (r : RS hx vx sx) (ex : Sub hx w) :
  CallsTo Try.prog 69 #[vx, I i] w fun v w' => ∃ r0 u0 g0, Q r0 ∧ v = u0 ∧ Ext w w' ∧ OS 3 g0 emp u0 r0 ∧ Sub g0 w' ∧ Fresh w.heap.size g0 := by
 obtain ⟨a, c, rfl⟩ := r.shape
 refine enter (args := [sl a sx c, I i]) 35 Try.func69 rfl rfl rfl ?_
 refine W_forget [(0, sl a sx c), (1, I i)] ⟨rfl, rfl, trivial⟩ fun ρ => ?_
 have X := But.refl emp w
 refine W_seq (W_region ?_)
 refine LP_ev ok 0 [(4, .slice none 0 0)] 1 rfl rfl ?_
 refine LP_end _ rfl (W_seq (W_region ?_))
 refine LP_ev ok 0 [(7, sl a sx c), (8, I (ln sx))] 2 rfl rfl ?_
 obtain ⟨hn, hb, H⟩ := H
 refine LP_make (α := Int) 2 rfl rfl rfl Try.underlying31 ti_3 (x0 := (0 : Int)) rfl rfl hn (by first | omega | (simp only [ln] at *; omega)) (by first | omega | (simp only [ln] at *; omega)) fun hx1 vx2 wx x o ex3 f => ?_
 obtain ⟨a4, c5, rfl⟩ := o.shape
 refine LP_ev ok 3 [(5, .slice a4 (List.length (List.replicate (Int.toNat (ln sx)) ((0 : Int)))) c5)] 4 rfl rfl ?_
 refine LP_end _ rfl (W_seq ?_)
 refine W_seq (W_region ?_)
 refine LP_ev ok 0 [(10, sl a sx c), (11, I (ln sx)), (12, I (wr ((ln sx) - 1))), (6, I (wr ((ln sx) - 1)))] 4 rfl rfl ?_
 refine LP_end _ rfl ?_
 refine W_block ?_
 have f16 := f.mono X.size
 obtain ⟨J, m, Hx, H⟩ := H
 refine W_loop (S := Int × (List Int) × Int) (fun s ρ' w' => J s.1 s.2.1 s.2.2 ∧ ∃ (ρ : Env) (hx8 : PH), ρ' = setAll [(0, sl a sx c), (1, I s.1), (5, .slice a4 (List.length (List.replicate (Int.toNat (ln sx)) ((0 : Int)))) c5), (6, I s.2.2)] ρ ∧ But emp w w' ∧ OS 3 hx8 emp (.slice a4 (List.length (List.replicate (Int.toNat (ln sx)) ((0 : Int)))) c5) s.2.1 ∧ Sub hx8 w' ∧ Fresh w.heap.size hx8 ∧ Sub hx w' ∧ Dj hx8 hx) (fun s => m s.1 s.2.1 s.2.2) (i, List.replicate (Int.toNat (ln sx)) ((0 : Int)), wr ((ln sx) - 1)) ⟨Hx, _, hx1, env_eq ⟨rfl, rfl, rfl, rfl, trivial⟩, (X.stepx x), o, ex3, f16, (ex.ext x), (Dj.of_fresh ex f).symm⟩ ?_
 rintro ⟨i6, values, k⟩ _ wx12 ⟨Hi, ρ, hx8, rfl, HF⟩
 revert HF
 refine bb6 fun X14 o9 ex10 f11 ex13 d => ?_
 have H := H i6 values k Hi
 refine W_seq ?_
 refine W_seq (W_region ?_)
 refine LP_ev ok 0 [(13, I k), (14, .bool (decide (k ≥ 0)))] 2 rfl rfl ?_
 refine LP_end _ rfl ?_
 refine W_cond (decide (k ≥ 0)) rfl (fun hc => ?_) (fun hc => ?_)
 ·have H := H.1 hc
  refine W_skip ?_
  refine W_seq ?_
  refine W_block ?_
  refine W_seq (W_region ?_)
  refine LP_ev ok 0 [(17, .slice a4 (List.length (List.replicate (Int.toNat (ln sx)) ((0 : Int)))) c5), (18, I k), (19, I i6), (20, sl a sx c), (21, I k)] 5 rfl rfl ?_
  obtain ⟨x18, hi, hx19, H⟩ := H
  refine LP_index 5 rfl rfl rfl Try.underlying24 ti_167 rfl rfl r hi hx19 fun a20 cs r21 d22 => ?_
  refine LP_ev ok 6 [(23, .pointer (some (Addr.add a20 1)))] 7 rfl rfl ?_
  refine LP_ldfld (x := x18) (off := 1) 7 (v := I x18.Levels) rfl rfl rfl ti_3 ag_3 (fun _ => rfl) rfl r21 d22 ex13 rfl rfl ?_
  obtain ⟨hz, H⟩ := H
  refine LP_val 8 _ rfl rfl (ex_rem rfl rfl rfl hz _) ?_
  obtain ⟨hi23, hl, H⟩ := H
  refine LP_indexw (v := .slice a4 (List.length (List.replicate (Int.toNat (ln sx)) ((0 : Int)))) c5) 9 rfl rfl rfl Try.underlying31 ti_3 rfl rfl o9 hi23 hl fun a24 wa => ?_
  refine LP_set 10 rfl rfl rfl rfl rfl wa (Le.refl emp) ⟨_, rfl, rfl⟩ ex10 fun hx25 wx26 o27 ex28 y dm => ?_
  refine LP_end _ rfl ?_
  refine W_region ?_
  refine LP_ev ok 0 [(27, I i6), (28, sl a sx c), (29, I k)] 3 rfl rfl ?_
  obtain ⟨x29, hi30, hx31, H⟩ := H
  refine LP_index 3 rfl rfl rfl Try.underlying24 ti_167 rfl rfl r hi30 hx31 fun a32 cs33 r34 d35 => ?_
  refine LP_ev ok 4 [(31, .pointer (some (Addr.add a32 1)))] 5 rfl rfl ?_
  have ex36 := (ex13.but y d)
  refine LP_ldfld (x := x29) (off := 1) 5 (v := I x29.Levels) rfl rfl rfl ti_3 ag_3 (fun _ => rfl) rfl r34 d35 ex36 rfl rfl ?_
  obtain ⟨hz37, H⟩ := H
  refine LP_val 6 _ rfl rfl (ex_quo rfl rfl rfl hz37 _) ?_
  refine LP_ev ok 7 [(1, I (wr (Int.tdiv i6 x29.Levels)))] 8 rfl rfl ?_
  refine LP_end _ rfl ?_
  refine W_region ?_
  refine LP_ev ok 0 [(15, I k), (16, I (wr (k - 1))), (6, I (wr (k - 1)))] 3 rfl rfl ?_
  refine LP_end _ rfl ?_
  have f39 := (dm _).fresh f11 X14.size
  exact ⟨(wr (Int.tdiv i6 x29.Levels), List.set values (Int.toNat k) (Int.tmod i6 x18.Levels), wr (k - 1)), ⟨H.1, _, hx25, env_eq ⟨rfl, rfl, rfl, rfl, trivial⟩, (X14.step y (f11.dom _)), o27, ex28, f39, ex36, (DomLe.dj (dm _) d ex13)⟩, H.2⟩
 have H := H.2 hc
 refine W_exit ?_
 refine (if_pos rfl).mpr ?_
 refine W_seq (W_region ?_)
 refine LP_ev ok 0 [(34, .slice a4 (List.length (List.replicate (Int.toNat (ln sx)) ((0 : Int)))) c5), (4, .slice a4 (List.length (List.replicate (Int.toNat (ln sx)) ((0 : Int)))) c5)] 2 rfl rfl ?_
 refine LP_end _ rfl (W_ret ?_)
 exact ⟨_, Ret_of [.slice a4 (List.length (List.replicate (Int.toNat (ln sx)) ((0 : Int)))) c5] ⟨⟨rfl, rfl⟩, trivial⟩, _, _, _, H, rfl, X14.ext, o9, ex10, f11⟩

theorem impl_fails_w (ex : Edit) (values : List Int) (Q : Bool → Prop) (H : impl_fails ex values Q) (w : World) {vx : Value} {hx : PH} (r : RS hx vx ex.Sets) (ex1 : Sub hx w) {vx2 : Value} {hx3 : PH} (r4 : RS hx3 vx2 values) (ex5 : Sub hx3 w) :
  CallsTo Try.prog 70 #[.agg #[vx], vx2] w fun v w' => ∃ r0, Q r0 ∧ v = .bool r0 ∧ Ext w w' := by
 obtain ⟨a, c, rfl⟩ := r.shape
 obtain ⟨a6, c7, rfl⟩ := r4.shape
 refine enter (args := [.agg #[sl a ex.Sets c], sl a6 values c7]) 24 Try.func70 rfl rfl rfl ?_
 refine W_forget [(0, .agg #[sl a ex.Sets c]), (1, sl a6 values c7)] ⟨rfl, rfl, trivial⟩ fun ρ => ?_
 have X := But.refl emp w
 refine W_seq (W_region ?_)
 refine LP_box 0 (cs := [sl a ex.Sets c]) rfl rfl rfl rfl rfl fun b wx x ex8 f => ?_
 refine LP_ev ok 1 [(4, .bool false)] 2 rfl rfl ?_
 refine LP_end _ rfl (W_seq ?_)
 refine W_seq (W_region ?_)
 refine LP_ev ok 0 [(7, sl a6 values c7), (8, I (ln values)), (9, I 0)] 3 rfl rfl ?_
 refine LP_end _ rfl ?_
 refine W_block ?_
 obtain ⟨J, m, Hx, H⟩ := H
 refine W_loop (S := Int) (fun s ρ' w' => J s ∧ ∃ (ρ : Env), ρ' = setAll [(2, pb b), (7, sl a6 values c7), (8, I (ln values)), (9, I s)] ρ ∧ wx = w') (fun s => m s) 0 ⟨Hx, _, env_eq ⟨rfl, rfl, rfl, rfl, trivial⟩, rfl⟩ ?_
 rintro x9 _ _ ⟨Hi, ρ, rfl, rfl⟩
 have H := H x9 Hi
 refine W_seq (W_region ?_)
 refine LP_ev ok 0 [(10, .bool (decide (x9 < (ln values))))] 1 rfl rfl ?_
 refine LP_end _ rfl (W_seq ?_)
 refine W_cond (decide (x9 < (ln values))) rfl (fun hc => ?_) (fun hc => ?_)
 ·have H := H.1 hc
  refine W_skip ?_
  refine W_seq ?_
  refine W_block ?_
  refine W_seq (W_region ?_)
  refine LP_ev ok 0 [(11, I x9)] 1 rfl rfl ?_
  obtain ⟨x11, hi, hx12, H⟩ := H
  refine LP_index 1 rfl rfl rfl Try.underlying31 ti_3 rfl rfl r4 hi hx12 fun a13 cs r14 d => ?_
  refine LP_load 2 rfl rfl rfl ti_3 ag_3 rfl r14 d (ex5.ext x) fun vx16 r17 => ?_
  obtain rfl := r17.int
  refine LP_ev ok 3 [(5, I x9), (6, I x11)] 5 rfl rfl ?_
  refine LP_end _ rfl (W_seq (W_region ?_))
  refine LP_ev ok 0 [(14, pb b)] 1 rfl rfl ?_
  refine LP_ldbox 1 (v := sl a ex.Sets c) rfl rfl rfl ti_31 ag_31 (fun _ => rfl) rfl ex8 rfl rfl ?_
  refine LP_ev ok 2 [(16, I x9)] 3 rfl rfl ?_
  obtain ⟨x18, hi19, hx20, H⟩ := H
  refine LP_index 3 rfl rfl rfl Try.underlying31 ti_3 rfl rfl r hi19 hx20 fun a21 cs22 r23 d24 => ?_
  refine LP_load 4 rfl rfl rfl ti_3 ag_3 rfl r23 d24 (ex1.ext x) fun vx26 r27 => ?_
  obtain rfl := r27.int
  refine LP_ev ok 5 [(19, I x11)] 6 rfl rfl ?_
  obtain ⟨hz, H⟩ := H
  refine LP_val 6 _ rfl rfl (ex_shr rfl rfl rfl hz _) ?_
  refine LP_ev ok 7 [(21, I (bits .and .i64 (shr .i64 x18 x11) 1)), (22, .bool ((bits .and .i64 (shr .i64 x18 x11) 1) == 0))] 9 rfl rfl ?_
  refine LP_end _ rfl ?_
  refine W_cond ((bits .and .i64 (shr .i64 x18 x11) 1) == 0) rfl (fun hc28 => ?_) (fun hc28 => ?_)
  ·have H := H.1 hc28
   refine W_seq (W_region ?_)
   refine LP_ev ok 0 [(4, .bool false)] 1 rfl rfl ?_
   refine LP_end _ rfl (W_ret ?_)
   exact ⟨_, Ret_of [.bool false] ⟨⟨rfl, rfl⟩, trivial⟩, _, H, rfl, (X.stepx x).ext⟩
  have H := H.2 hc28
  refine W_skip ?_
  refine W_region ?_
  refine LP_ev ok 0 [(23, I (wr (x9 + 1))), (9, I (wr (x9 + 1)))] 2 rfl rfl ?_
  exact LP_end _ rfl ⟨wr (x9 + 1), ⟨H.1, _, env_eq ⟨rfl, rfl, rfl, rfl, trivial⟩, rfl⟩, H.2⟩
 have H := H.2 hc
 refine W_exit ?_
 refine (if_pos rfl).mpr ?_
 refine W_seq (W_region ?_)
 refine LP_ev ok 0 [(4, .bool true)] 1 rfl rfl ?_
 refine LP_end _ rfl (W_ret ?_)
 exact ⟨_, Ret_of [.bool true] ⟨⟨rfl, rfl⟩, trivial⟩, _, H, rfl, (X.stepx x).ext⟩

theorem impl_failsOne_w (l : List Edit) (values : List Int) (Q : Bool → Prop) (H : impl_failsOne l values Q) (w : World) {vx : Value} {hx : PH} (r : RS hx vx l) (ex : Sub hx w) {vx1 : Value} {hx2 : PH} (r3 : RS hx2 vx1 values) (ex4 : Sub hx2 w) :
  CallsTo Try.prog 71 #[vx, vx1] w fun v w' => ∃ r0, Q r0 ∧ v = .bool r0 ∧ Ext w w' := by
 obtain ⟨a, c, rfl⟩ := r.shape
 obtain ⟨a5, c6, rfl⟩ := r3.shape
 refine enter (args := [sl a l c, sl a5 values c6]) 17 Try.func71 rfl rfl rfl ?_
 refine W_forget [(0, sl a l c), (1, sl a5 values c6)] ⟨rfl, rfl, trivial⟩ fun ρ => ?_
 have X := But.refl emp w
 refine W_seq (W_region ?_)
 refine LP_ev ok 0 [(4, .bool false)] 1 rfl rfl ?_
 refine LP_end _ rfl (W_seq ?_)
 refine W_seq (W_region ?_)
 refine LP_ev ok 0 [(7, sl a l c), (8, I (ln l)), (9, I 0)] 3 rfl rfl ?_
 refine LP_end _ rfl ?_
 refine W_block ?_
 obtain ⟨J, m, Hx, H⟩ := H
 refine W_loop (S := Int) (fun s ρ' w' => J s ∧ ∃ (ρ : Env), ρ' = setAll [(1, sl a5 values c6), (7, sl a l c), (8, I (ln l)), (9, I s)] ρ ∧ But emp w w' ∧ Sub hx w' ∧ Sub hx2 w') (fun s => m s) 0 ⟨Hx, _, env_eq ⟨rfl, rfl, rfl, rfl, trivial⟩, X, ex, ex4⟩ ?_
 rintro x _ wx ⟨Hi, ρ, rfl, X9, ex7, ex8⟩
 have H := H x Hi
 refine W_seq (W_region ?_)
 refine LP_ev ok 0 [(10, .bool (decide (x < (ln l))))] 1 rfl rfl ?_
 refine LP_end _ rfl (W_seq ?_)
 refine W_cond (decide (x < (ln l))) rfl (fun hc => ?_) (fun hc => ?_)
 ·have H := H.1 hc
  refine W_skip ?_
  refine W_seq ?_
  refine W_block ?_
  refine W_seq (W_region ?_)
  obtain ⟨x10, hi, hx11, H⟩ := H
  refine LP_index 0 rfl rfl rfl Try.underlying25 ti_33 rfl rfl r hi hx11 fun a12 cs r13 d => ?_
  have d14 := d
  obtain ⟨u, rfl, r15⟩ := Edit_rd d14
  obtain ⟨a16, c17, rfl⟩ := r15.shape
  refine LP_load 1 rfl rfl rfl ti_33 ag_33 rfl r13 d ex7 fun vx18 r19 => ?_
  obtain ⟨u20, rfl, r21⟩ := Edit_rv r19
  obtain ⟨a22, c23, rfl⟩ := r21.shape
  refine LP_alloc 2 rfl rfl rfl ti_33 rfl fun b wx24 x25 ex26 f => ?_
  refine LP_stbox 3 (vs := [sl a22 x10.Sets c23]) (cs' := [sl a22 x10.Sets c23]) rfl rfl rfl ti_33 rfl rfl rfl rfl rfl ex26 rfl rfl fun wx27 ex28 y => ?_
  refine LP_end _ rfl (W_seq (W_region ?_))
  refine LP_ldbox 0 (v := .agg #[sl a22 x10.Sets c23]) rfl rfl rfl ti_33 ag_33 (fun h => by cases h) rfl ex28 rfl rfl ?_
  refine LP_ev ok 1 [(14, sl a5 values c6)] 2 rfl rfl ?_
  have ex30 := ((ex7.ext x25).but y (Dj.of_fresh ex7 f).symm)
  have ex31 := ((ex8.ext x25).but y (Dj.of_fresh ex8 f).symm)
  refine LP_call 2 rfl rfl rfl cal_70 rfl (impl_fails_w _ _ _ H wx27 r21 ex30 r3 ex31) ?_
  rintro _ wx32 ⟨r29, H, rfl, x33⟩
  refine LP_end _ rfl ?_
  refine W_cond (r29) rfl (fun hc34 => ?_) (fun hc34 => ?_)
  ·have H := H.1 hc34
   refine W_seq (W_region ?_)
   refine LP_ev ok 0 [(4, .bool true)] 1 rfl rfl ?_
   refine LP_end _ rfl (W_ret ?_)
   have f35 := f.mono X9.size
   exact ⟨_, Ret_of [.bool true] ⟨⟨rfl, rfl⟩, trivial⟩, _, H, rfl, (((X9.stepx x25).step y (f35.dom _)).stepx x33).ext⟩
  have H := H.2 hc34
  refine W_skip ?_
  refine W_region ?_
  refine LP_ev ok 0 [(16, I (wr (x + 1))), (9, I (wr (x + 1)))] 2 rfl rfl ?_
  refine LP_end _ rfl ?_
  have f37 := f.mono X9.size
  exact ⟨wr (x + 1), ⟨H.1, _, env_eq ⟨rfl, rfl, rfl, rfl, trivial⟩, (((X9.stepx x25).step y (f37.dom _)).stepx x33), (ex30.ext x33), (ex31.ext x33)⟩, H.2⟩
 have H := H.2 hc
 refine W_exit ?_
 refine (if_pos rfl).mpr ?_
 refine W_seq (W_region ?_)
 refine LP_ev ok 0 [(4, .bool false)] 1 rfl rfl ?_
 refine LP_end _ rfl (W_ret ?_)
 exact ⟨_, Ret_of [.bool false] ⟨⟨rfl, rfl⟩, trivial⟩, _, H, rfl, X9.ext⟩

theorem impl_failing_w (sx : List Variable) (l : List Edit) (Q : (List Bool) → Prop) (H : impl_failing sx l Q) (w : World) {vx : Value} {hx : PH} (r : RS hx vx sx) (ex : Sub hx w) {vx1 : Value} {hx2 : PH} (r3 : RS hx2 vx1 l) (ex4 : Sub hx2 w) :
  CallsTo Try.prog 138 #[vx, vx1] w fun v w' => ∃ r0 u0 g0, Q r0 ∧ v = u0 ∧ Ext w w' ∧ OS 4 g0 emp u0 r0 ∧ Sub g0 w' ∧ Fresh w.heap.size g0 := by
 obtain ⟨a, c, rfl⟩ := r.shape
 obtain ⟨a5, c6, rfl⟩ := r3.shape
 refine enter (args := [sl a sx c, sl a5 l c6]) 25 Try.func138 rfl rfl rfl ?_
 refine W_forget [(0, sl a sx c), (1, sl a5 l c6)] ⟨rfl, rfl, trivial⟩ fun ρ => ?_
 have X := But.refl emp w
 refine W_seq (W_region ?_)
 refine LP_ev ok 0 [(4, .slice none 0 0)] 1 rfl rfl ?_
 refine LP_end _ rfl (W_seq (W_region ?_))
 refine LP_ev ok 0 [(7, sl a sx c)] 1 rfl rfl ?_
 refine LP_call 1 rfl rfl rfl cal_68 rfl (impl_combinations_w _ _ H w r ex) ?_
 rintro _ wx ⟨r7, H, rfl, x⟩
 obtain ⟨hn, hb, H⟩ := H
 refine LP_make (α := Bool) 2 rfl rfl rfl Try.underlying155 ti_4 (x0 := false) rfl rfl hn (by first | omega | (simp only [ln] at *; omega)) (by first | omega | (simp only [ln] at *; omega)) fun hx8 vx9 wx10 x11 o ex12 f => ?_
 obtain ⟨a13, c14, rfl⟩ := o.shape
 refine LP_ev ok 3 [(5, .slice a13 (List.length (List.replicate (Int.toNat r7) false)) c14)] 4 rfl rfl ?_
 refine LP_end _ rfl (W_seq ?_)
 refine W_seq (W_region ?_)
 refine LP_ev ok 0 [(10, .slice a13 (List.length (List.replicate (Int.toNat r7) false)) c14), (11, I (ln (List.replicate (Int.toNat r7) false))), (12, I 0)] 3 rfl rfl ?_
 refine LP_end _ rfl ?_
 refine W_block ?_
 have xc := (x.trans x11)
 have f27 := f.mono (X.stepx x).size
 obtain ⟨J, m, Hx, H⟩ := H
 refine W_loop (S := (List Bool) × Int) (fun s ρ' w' => J s.1 s.2 ∧ ∃ (ρ : Env) (hx16 : PH), ρ' = setAll [(0, sl a sx c), (1, sl a5 l c6), (5, .slice a13 (List.length (List.replicate (Int.toNat r7) false)) c14), (11, I (ln (List.replicate (Int.toNat r7) false))), (12, I s.2)] ρ ∧ But emp w w' ∧ OS 4 hx16 emp (.slice a13 (List.length (List.replicate (Int.toNat r7) false)) c14) s.1 ∧ Sub hx16 w' ∧ Fresh w.heap.size hx16 ∧ Sub hx w' ∧ Sub hx2 w' ∧ Dj hx16 hx ∧ Dj hx16 hx2) (fun s => m s.1 s.2) (List.replicate (Int.toNat r7) false, 0) ⟨Hx, _, hx8, env_eq ⟨rfl, rfl, rfl, rfl, rfl, trivial⟩, (X.stepx xc), o, ex12, f27, (ex.ext xc), (ex4.ext xc), (Dj.of_fresh (ex.ext x) f).symm, (Dj.of_fresh (ex4.ext x) f).symm⟩ ?_
 rintro ⟨out, x20⟩ _ wx21 ⟨Hi, ρ, hx16, rfl, HF⟩
 revert HF
 refine bb8 fun X25 o17 ex18 f19 ex22 ex23 d d24 => ?_
 have H := H out x20 Hi
 refine W_seq (W_region ?_)
 refine LP_ev ok 0 [(13, .bool (decide (x20 < (ln (List.replicate (Int.toNat r7) false)))))] 1 rfl rfl ?_
 refine LP_end _ rfl (W_seq ?_)
 refine W_cond (decide (x20 < (ln (List.replicate (Int.toNat r7) false)))) rfl (fun hc => ?_) (fun hc => ?_)
 ·have H := H.1 hc
  refine W_skip ?_
  refine W_seq ?_
  refine W_block ?_
  refine W_seq (W_region ?_)
  refine LP_ev ok 0 [(14, I x20), (6, I x20)] 2 rfl rfl ?_
  refine LP_end _ rfl ?_
  refine W_region ?_
  refine LP_ev ok 0 [(15, .slice a13 (List.length (List.replicate (Int.toNat r7) false)) c14), (16, I x20), (17, sl a5 l c6), (18, sl a sx c), (19, I x20)] 5 rfl rfl ?_
  refine LP_call 5 rfl rfl rfl cal_69 rfl (impl_valuesAt_w _ _ _ H wx21 r ex22) ?_
  rintro _ wx34 ⟨r33, vx36, hx37, H, rfl, x35, o38, ex39, f40⟩
  obtain ⟨a41, c42, rfl⟩ := o38.shape
  have ex44 := (ex23.ext x35)
  refine LP_call 6 rfl rfl rfl cal_71 rfl (impl_failsOne_w _ _ _ H wx34 r3 ex44 o38.readf ex39) ?_
  rintro _ wx45 ⟨r43, H, rfl, x46⟩
  obtain ⟨hi, hl, H⟩ := H
  refine LP_indexw (v := .slice a13 (List.length (List.replicate (Int.toNat r7) false)) c14) 7 rfl rfl rfl Try.underlying155 ti_4 rfl rfl o17 hi hl fun a47 wa => ?_
  have xc52 := (x35.trans x46)
  refine LP_set 8 rfl rfl rfl rfl rfl wa (Le.refl emp) ⟨_, rfl, rfl⟩ (ex18.ext xc52) fun hx48 wx49 o50 ex51 y dm => ?_
  refine LP_end _ rfl ?_
  refine W_region ?_
  refine LP_ev ok 0 [(23, I (wr (x20 + 1))), (12, I (wr (x20 + 1)))] 2 rfl rfl ?_
  refine LP_end _ rfl ?_
  have f55 := (dm _).fresh f19 (X25.stepx xc52).size
  exact ⟨(List.set out (Int.toNat x20) r43, wr (x20 + 1)), ⟨H.1, _, hx48, env_eq ⟨rfl, rfl, rfl, rfl, rfl, trivial⟩, ((X25.stepx xc52).step y (f19.dom _)), o50, ex51, f55, ((ex22.ext xc52).but y d), ((ex44.ext x46).but y d24), (DomLe.dj (dm _) d (ex22.ext xc52)), (DomLe.dj (dm _) d24 (ex44.ext x46))⟩, H.2⟩
 have H := H.2 hc
 refine W_exit ?_
 refine (if_pos rfl).mpr ?_
 refine W_seq (W_region ?_)
 refine LP_ev ok 0 [(24, .slice a13 (List.length (List.replicate (Int.toNat r7) false)) c14), (4, .slice a13 (List.length (List.replicate (Int.toNat r7) false)) c14)] 2 rfl rfl ?_
 refine LP_end _ rfl (W_ret ?_)
 exact ⟨_, Ret_of [.slice a13 (List.length (List.replicate (Int.toNat r7) false)) c14] ⟨⟨rfl, rfl⟩, trivial⟩, _, _, _, H, rfl, X25.ext, o17, ex18, f19⟩

theorem impl_editKey_w (sx : List Variable) (sets : List Int) (Q : Int → Prop) (H : impl_editKey sx sets Q) (w : World) {vx : Value} {hx : PH} (r : RS hx vx sx) (ex : Sub hx w) {vx1 : Value} {hx2 : PH} (r3 : RS hx2 vx1 sets) (ex4 : Sub hx2 w) :
  CallsTo Try.prog 140 #[vx, vx1] w fun v w' => ∃ r0, Q r0 ∧ v = I r0 ∧ Ext w w' := by
 obtain ⟨a, c, rfl⟩ := r.shape
 obtain ⟨a5, c6, rfl⟩ := r3.shape
 refine enter (args := [sl a sx c, sl a5 sets c6]) 26 Try.func140 rfl rfl rfl ?_
 refine W_forget [(0, sl a sx c), (1, sl a5 sets c6)] ⟨rfl, rfl, trivial⟩ fun ρ => ?_
 have X := But.refl emp w
 refine W_seq (W_region ?_)
 refine LP_ev ok 0 [(4, I 0)] 1 rfl rfl ?_
 refine LP_end _ rfl (W_seq (W_region ?_))
 refine LP_ev ok 0 [(5, I 0)] 1 rfl rfl ?_
 refine LP_end _ rfl (W_seq ?_)
 refine W_seq (W_region ?_)
 refine LP_ev ok 0 [(8, sl a5 sets c6), (9, I (ln sets)), (10, I 0)] 3 rfl rfl ?_
 refine LP_end _ rfl ?_
 refine W_block ?_
 obtain ⟨J, m, Hx, H⟩ := H
 refine W_loop (S := Int × Int) (fun s ρ' w' => J s.1 s.2 ∧ ∃ (ρ : Env), ρ' = setAll [(0, sl a sx c), (5, I s.1), (8, sl a5 sets c6), (9, I (ln sets)), (10, I s.2)] ρ ∧ w = w') (fun s => m s.1 s.2) (0, 0) ⟨Hx, _, env_eq ⟨rfl, rfl, rfl, rfl, rfl, trivial⟩, rfl⟩ ?_
 rintro ⟨key, x⟩ _ _ ⟨Hi, ρ, rfl, rfl⟩
 have H := H key x Hi
 refine W_seq (W_region ?_)
 refine LP_ev ok 0 [(11, .bool (decide (x < (ln sets))))] 1 rfl rfl ?_
 refine LP_end _ rfl (W_seq ?_)
 refine W_cond (decide (x < (ln sets))) rfl (fun hc => ?_) (fun hc => ?_)
 ·have H := H.1 hc
  refine W_skip ?_
  refine W_seq ?_
  refine W_block ?_
  refine W_seq (W_region ?_)
  refine LP_ev ok 0 [(12, I x)] 1 rfl rfl ?_
  obtain ⟨x7, hi, hx8, H⟩ := H
  refine LP_index 1 rfl rfl rfl Try.underlying31 ti_3 rfl rfl r3 hi hx8 fun a9 cs r10 d => ?_
  refine LP_load 2 rfl rfl rfl ti_3 ag_3 rfl r10 d ex4 fun vx11 r12 => ?_
  obtain rfl := r12.int
  refine LP_ev ok 3 [(6, I x), (7, I x7)] 5 rfl rfl ?_
  refine LP_end _ rfl ?_
  refine W_region ?_
  refine LP_ev ok 0 [(15, I key), (16, sl a sx c), (17, I x)] 3 rfl rfl ?_
  obtain ⟨x13, hi14, hx15, H⟩ := H
  refine LP_index 3 rfl rfl rfl Try.underlying24 ti_167 rfl rfl r hi14 hx15 fun a16 cs17 r18 d19 => ?_
  refine LP_ev ok 4 [(19, .pointer (some (Addr.add a16 1)))] 5 rfl rfl ?_
  refine LP_ldfld (x := x13) (off := 1) 5 (v := I x13.Levels) rfl rfl rfl ti_3 ag_3 (fun _ => rfl) rfl r18 d19 ex rfl rfl ?_
  obtain ⟨hz, H⟩ := H
  refine LP_val 6 _ rfl rfl (ex_shl rfl rfl rfl hz _) ?_
  refine LP_ev ok 7 [(22, I x7), (23, I (bits .or .i64 (shl .i64 key x13.Levels) x7)), (5, I (bits .or .i64 (shl .i64 key x13.Levels) x7))] 10 rfl rfl ?_
  refine LP_end _ rfl ?_
  refine W_region ?_
  refine LP_ev ok 0 [(24, I (wr (x + 1))), (10, I (wr (x + 1)))] 2 rfl rfl ?_
  exact LP_end _ rfl ⟨(bits .or .i64 (shl .i64 key x13.Levels) x7, wr (x + 1)), ⟨H.1, _, env_eq ⟨rfl, rfl, rfl, rfl, rfl, trivial⟩, rfl⟩, H.2⟩
 have H := H.2 hc
 refine W_exit ?_
 refine (if_pos rfl).mpr ?_
 refine W_seq (W_region ?_)
 refine LP_ev ok 0 [(25, I key), (4, I key)] 2 rfl rfl ?_
 refine LP_end _ rfl (W_ret ?_)
 exact ⟨_, Ret_of [I key] ⟨⟨rfl, rfl⟩, trivial⟩, _, H, rfl, X.ext⟩

theorem slices_Clone_int_int_w (sx : List Int) (Q : (List Int) → Prop) (H : slices_Clone_int_int sx Q) (w : World) {vx : Value} {hx : PH} (r : RS hx vx sx) (ex : Sub hx w) :
  CallsTo Try.prog 74 #[vx] w fun v w' => ∃ r0 u0 g0, Q r0 ∧ v = u0 ∧ Ext w w' ∧ OS 3 g0 emp u0 r0 ∧ Sub g0 w' ∧ Fresh w.heap.size g0 := by
 obtain ⟨a, c, rfl⟩ := r.shape
 refine enter (args := [sl a sx c]) 8 Try.func74 rfl rfl rfl ?_
 refine W_forget [(0, sl a sx c)] ⟨rfl, trivial⟩ fun ρ => ?_
 have X := But.refl emp w
 refine W_seq (W_region ?_)
 refine LP_ev ok 0 [(2, .slice none 0 0)] 1 rfl rfl ?_
 refine LP_end _ rfl (W_seq ?_)
 refine W_seq (W_region ?_)
 refine LP_ev ok 0 [(3, sl a sx c)] 1 rfl rfl ?_
 refine LP_val 1 _ rfl rfl (ex_eqnil rfl Try.underlying31 rfl rfl _) ?_
 have H := H _ (nil_of r)
 refine LP_end _ rfl ?_
 refine W_cond (Option.isNone a) rfl (fun hc => ?_) (fun hc => ?_)
 ·have H := H.1 hc
  refine W_seq (W_region ?_)
  refine LP_ev ok 0 [(2, .slice none 0 0)] 1 rfl rfl ?_
  refine LP_end _ rfl (W_ret ?_)
  exact ⟨_, Ret_of [.slice none 0 0] ⟨⟨rfl, rfl⟩, trivial⟩, _, _, emp, H, rfl, X.ext, OS.nil, (emp_sub _), (emp_fresh _)⟩
 have H := H.2 hc
 refine W_skip ?_
 refine W_seq (W_region ?_)
 refine LP_lit (α := Int) (g := emp) 0 (vs := []) (xs := []) rfl rfl rfl Try.underlying31 ti_3 rfl rfl trivial rfl rfl fun hx1 vx2 wx x o ex3 f => ?_
 obtain ⟨a4, c5, rfl⟩ := o.shape
 refine LP_ev ok 1 [(6, sl a sx c)] 2 rfl rfl ?_
 obtain ⟨hb, H⟩ := H
 refine LP_appendf (α := Int) 2 rfl rfl rfl Try.underlying31 ti_3 rfl rfl rfl o ex3 r (ex.ext x) (by first | omega | (simp only [ln] at *; omega)) (by first | omega | (simp only [ln] at *; omega)) fun hx7 vx8 wx9 o10 ex11 y dm => ?_
 obtain ⟨a12, c13, rfl⟩ := o10.shape
 refine LP_ev ok 3 [(2, .slice a12 (List.length ((([] : List Int)) ++ sx)) c13)] 4 rfl rfl ?_
 refine LP_end _ rfl (W_ret ?_)
 have f15 := f.mono X.size
 have X16 := (X.stepx x)
 have f14 := dm.fresh f15 X16.size
 exact ⟨_, Ret_of [.slice a12 (List.length ((([] : List Int)) ++ sx)) c13] ⟨⟨rfl, rfl⟩, trivial⟩, _, _, _, H, rfl, (X16.step y (f15.dom _)).ext, o10, ex11, f14⟩

theorem impl_maximalEdits_1_w (sets : List Int) (c1 : List (Int × Bool)) (c8 : List Variable) (c17 : List Edit) (Q : (List (Int × Bool)) → (List Edit) → Prop) (H : impl_maximalEdits_1 sets c1 c8 c17 Q) (w : World) {vx : Value} {hx : PH} (r : RS hx vx sets) (ex : Sub hx w) {vx2 : Value} {hx3 : PH} (r4 : MO hx3 vx2 c1) (ex5 : Sub hx3 w) {b6 : Nat} (ex7 : Sub (bx b6 153 [vx2]) w) {vx9 : Value} {hx10 : PH} (r11 : RS hx10 vx9 c8) (ex12 : Sub hx10 w) {b15 : Nat} (ex16 : Sub (bx b15 24 [vx9]) w) {vx18 : Value} {hx19 : PH} (r20 : OD hx19 vx18 c17) (ex21 : Sub hx19 w) {b24 : Nat} (ex25 : Sub (bx b24 25 [vx18]) w) (d : Dj hx3 hx19) (d26 : Dj hx3 (bx b24 25 [vx18])) (d27 : Dj hx19 (bx b24 25 [vx18])) (d28 : Dj hx3 hx) (d29 : Dj hx3 (bx b6 153 [vx2])) (d30 : Dj hx3 hx10) (d31 : Dj hx3 (bx b15 24 [vx9])) (d32 : Dj hx19 hx) (d33 : Dj hx19 (bx b6 153 [vx2])) (d34 : Dj hx19 hx10) (d35 : Dj hx19 (bx b15 24 [vx9])) (d36 : Dj (bx b24 25 [vx18]) hx) (d37 : Dj (bx b24 25 [vx18]) (bx b6 153 [vx2])) (d38 : Dj (bx b24 25 [vx18]) hx10) (d39 : Dj (bx b24 25 [vx18]) (bx b15 24 [vx9])) :
  CallsTo Try.prog 139 #[vx, pb b6, pb b15, pb b24] w fun v w' => ∃ m1 m2 k1 v2_ k2, Q m1 m2 ∧ v = .tuple #[] ∧ But (un hx3 (un hx19 (bx b24 25 [vx18]))) w w' ∧ MO k1 vx2 m1 ∧ Sub k1 w' ∧ (∀ n, DomLe hx3 n k1) ∧ OD k2 v2_ m2 ∧ Sub k2 w' ∧ DomLe (un hx3 (un hx19 (bx b24 25 [vx18]))) w.heap.size k2 ∧ Sub (bx b24 25 [v2_]) w' ∧ Dj k1 k2 ∧ Dj k1 (bx b24 25 [v2_]) ∧ Dj k2 (bx b24 25 [v2_]) := by
 obtain ⟨a, c, rfl⟩ := r.shape
 obtain ⟨b, rfl⟩ := r4.shape
 obtain ⟨a13, c14, rfl⟩ := r11.shape
 obtain ⟨a22, c23, rfl⟩ := r20.shape
 refine enter (args := [sl a sets c, pb b6, pb b15, pb b24]) 15 Try.func139 rfl rfl rfl ?_
 refine W_forget [(0, sl a sets c), (1, pb b6), (2, pb b15), (3, pb b24)] ⟨rfl, rfl, rfl, rfl, trivial⟩ fun ρ => ?_
 obtain ⟨M, hM⟩ : ∃ M : PH, M = (un hx3 (un hx19 (bx b24 25 [sl a22 c17 c23]))) := ⟨_, rfl⟩
 have D : Dom M hx3 := by subst hM; exact (Dom.l _ _)
 have D40 : Dom M hx19 := by subst hM; exact (Dom.trans (Dom.r _ _) (Dom.l _ _))
 have D41 : Dom M (bx b24 25 [sl a22 c17 c23]) := by subst hM; exact (Dom.trans (Dom.r _ _) (Dom.trans (Dom.r _ _) (Dom.refl _)))
 have X := But.refl M w
 refine W_seq ?_
 refine W_open mix fun wx x => ?_
 refine AP_game 4 [[], [], [], [1, 2], [0, 1, 2, 3]] [[(1, none)], [(2, none)], [(0, none)], [(6, some 1), (7, some 2)]] [(0, none), (3, none), (5, some 0), (8, some 3)] [(0, false), (1, false), (2, false), (3, false)] (by kernel_rfl) (by kernel_rfl) ?_
 refine GS_r1 [(1, pb b6)] (.map (some b)) rfl rfl (fun _ h => h) (fun _ w e => ex_ldbox rfl ti_153 ag_153 (fun _ => rfl) rfl e rfl rfl) (ex7.ext x) ?_
 refine GS_r1 [(2, pb b15)] (sl a13 c8 c14) rfl rfl (fun _ h => h) (fun _ w e => ex_ldbox rfl ti_24 ag_24 (fun _ => rfl) rfl e rfl rfl) (ex16.ext x) ?_
 refine GS_ev ok [(0, sl a sets c)] (sl a sets c) rfl rfl (fun _ h => h) (fun _ => rfl) ?_
 obtain ⟨r44, Hd, H⟩ := H
 have ex46 := (ex.ext x)
 refine GS_q [(6, sl a13 c8 c14), (7, sl a sets c)] (I r44) [hx10, hx] [sl a13 c8 c14, sl a sets c] rfl rfl (fun _ h => h) rfl cal_140 (fun _ => rfl) (fun w e => (impl_editKey_w _ _ _ Hd w r11 e.1 r e.2.1).mono (fun _ _ h => by obtain ⟨_, rfl, rfl, x⟩ := h; exact ⟨rfl, x⟩)) ⟨(ex12.ext x), ex46, trivial⟩ ?_
 intro wx47 x48 ρ hn
 refine AP_forget [(0, sl a sets c), (3, pb b24), (5, .map (some b)), (8, I r44)] (by exact hn) fun ρ => ?_
 refine AP_tail 4 [[], [], [], [1, 2], [0, 1, 2, 3]] (by kernel_rfl) ?_
 have xc := (x.trans x48)
 refine LP_mapset (el := true) 4 rfl rfl rfl Try.underlying153 Try.underlying3 rfl rfl rfl r4 (ex5.ext xc) fun hx49 wx50 o ex51 y dm => ?_
 refine LP_end _ rfl ?_
 refine W_open mix fun wx53 x54 => ?_
 refine AP_game 5 [[], [], [1], [1, 2], [1, 2, 3], [0, 1, 2, 3, 4], [0, 1, 2, 3, 4, 5]] [[(3, none)], [(0, none)], [(10, some 1)], [(11, some 2)], [(12, some 3)]] [(3, none), (9, some 0), (13, some 4)] [(0, false), (1, false), (2, true), (3, false), (4, true)] (by kernel_rfl) (by kernel_rfl) ?_
 have ex55 := (((ex25.ext xc).but y d26).ext x54)
 refine GS_r1 [(3, pb b24)] (sl a22 c17 c23) rfl rfl (fun _ h => h) (fun _ w e => ex_ldbox rfl ti_25 ag_25 (fun _ => rfl) rfl e rfl rfl) ex55 ?_
 refine GS_ev ok [(0, sl a sets c)] (sl a sets c) rfl rfl (fun _ h => h) (fun _ => rfl) ?_
 refine GS_lp [(10, sl a sets c)] rfl rfl (fun _ h => h) rfl fun ρ wx56 x57 => ?_
 have xc59 := (x54.trans x57)
 refine LP_call 0 rfl rfl rfl cal_74 rfl (slices_Clone_int_int_w _ _ H wx56 r (((ex46.ext x48).but y d28).ext xc59)) ?_
 rintro _ wx61 ⟨r58, vx63, hx64, H, rfl, x62, o65, ex66, f⟩
 obtain ⟨a67, c68, rfl⟩ := o65.shape
 have ex70 := (ex55.ext (x57.trans x62))
 refine LP_gs ⟨⟨.inr ex70, trivial⟩, ?_⟩
 refine GS_ev ok [(11, sl a67 r58 c68)] (.agg #[sl a67 r58 c68]) rfl rfl (fun _ h => h) (fun _ => rfl) ?_
 refine GS_lp [(12, .agg #[sl a67 r58 c68])] rfl rfl (fun _ h => h) rfl fun ρ wx71 x72 => ?_
 have rv : RVO hx64 (.agg #[sl a67 r58 c68]) ((Edit.mk r58) : Edit) := ⟨_, ⟨_, rfl, (OS.od o65)⟩, rfl⟩
 refine LP_litD (α := Edit) 0 (vs := [.agg #[sl a67 r58 c68]]) (xs := [((Edit.mk r58) : Edit)]) rfl rfl rfl Try.underlying25 ti_33 rfl rfl (allO.one rv) (ex66.ext x72) rfl rfl fun hx74 vx75 wx76 x77 o78 ex79 dm80 => ?_
 obtain ⟨a81, c82, rfl⟩ := o78.shape
 refine LP_gs ⟨⟨.inr (ex70.ext (x72.trans x77)), trivial⟩, ?_⟩
 intro wx85 x86 ρ hn87
 refine AP_forget [(3, pb b24), (9, sl a22 c17 c23), (13, .slice a81 (List.length ([((Edit.mk r58) : Edit)])) c82)] (by exact hn87) fun ρ => ?_
 refine AP_tail 5 [[], [], [1], [1, 2], [1, 2, 3], [0, 1, 2, 3, 4], [0, 1, 2, 3, 4, 5]] (by kernel_rfl) ?_
 have xc88 := (((((x54.trans x57).trans x62).trans x72).trans x77).trans x86)
 have ex90 := (((ex21.ext xc).but y d).ext xc59)
 have xc91 := (x62.trans x72)
 obtain ⟨hb, H⟩ := H
 refine LP_appendD (α := Edit) 5 rfl rfl rfl Try.underlying25 ti_33 rfl rfl rfl r20 (((ex21.ext xc).but y d).ext xc88) o78 (ex79.ext x86) (DomLe.dj dm80 (Dj.of_fresh ex90 f).symm (ex90.ext xc91)).symm (by first | omega | (simp only [ln] at *; omega)) (by first | omega | (simp only [ln] at *; omega)) fun hx94 vx95 wx96 hw o97 ex98 y99 dh dm100 => ?_
 obtain ⟨a101, c102, rfl⟩ := o97.shape
 refine LP_stbox 6 (vs := [.slice a101 (List.length (c17 ++ ([((Edit.mk r58) : Edit)]))) c102]) (cs' := [.slice a101 (List.length (c17 ++ ([((Edit.mk r58) : Edit)]))) c102]) rfl rfl rfl ti_25 rfl rfl rfl rfl rfl ((ex55.ext ((((x57.trans x62).trans x72).trans x77).trans x86)).but (But.dom y99 dh) d27) rfl rfl fun wx103 ex104 y105 => ?_
 refine LP_end _ rfl ?_
 have ex109 := (ex25.ext xc)
 have ex111 := (ex55.ext x57)
 have ex112 := (ex111.ext xc91)
 have xc113 := (x77.trans x86)
 have ex114 := (ex112.ext xc113)
 have X117 := (((X.stepx xc).step y (Dom.le D _)).stepx xc59)
 have f116 := f.mono X117.size
 have X119 := (X117.stepx xc91)
 have f118 := DomLe.fresh dm80 f116 X119.size
 have X120 := (X119.stepx xc113)
 have ex122 := (ex51.ext xc59)
 have ex123 := (ex122.ext xc91)
 subst hM
 exact ⟨_, Ret_of [] trivial, _, _, _, _, _, H, rfl, ((X120.step (But.dom y99 dh) (Dom.le D40 _)).step y105 (Dom.le D41 _)), o, (((ex51.ext xc88).but (But.dom y99 dh) (DomLe.dj (dm _) d (ex21.ext xc)).symm).but y105 (DomLe.dj (dm _) d26 ex109).symm), (fun _ => DomLe.trans (DomLe.refl _ _) ((dm _)) (Nat.le_refl _)), o97, (ex98.but y105 (DomLe.dj dm100 (Dj.un_l d27 (DomLe.dj dm80 (Dj.of_fresh ex111 f).symm ex112)) ex114).symm), (DomLe.trans (DomLe.un (Dom.le D40 _) (f118.dom _)) dm100 X120.size), ex104, (DomLe.dj dm100 (Dj.un_l (DomLe.dj (dm _) d (ex21.ext xc)).symm (DomLe.dj dm80 (Dj.of_fresh ex122 f).symm ex123)) (ex123.ext xc113)).symm, (Dj.box (DomLe.dj (dm _) d26 ex109).symm).symm, (Dj.box (DomLe.dj dm100 (Dj.un_l d27 (DomLe.dj dm80 (Dj.of_fresh ex111 f).symm ex112)) ex114).symm).symm⟩

theorem impl_impliedIn_impl_maximalEdits_1_w (sx : List Variable) (inx : List Bool) (vx7 : Int) (sets : List Int) (c14 : List (Int × Bool)) (c21 : List Variable) (c30 : List Edit) (Q : (List (Int × Bool)) → (List Edit) → Prop) (H : impl_impliedIn_impl_maximalEdits_1 sx inx vx7 sets c14 c21 c30 Q) (w : World) {vx : Value} {hx : PH} (r : RS hx vx sx) (ex : Sub hx w) {vx1 : Value} {hx2 : PH} (r3 : RS hx2 vx1 inx) (ex4 : Sub hx2 w) {vx8 : Value} {hx9 : PH} (r10 : OS 3 hx9 emp vx8 sets) (ex11 : Sub hx9 w) {vx15 : Value} {hx16 : PH} (r17 : MO hx16 vx15 c14) (ex18 : Sub hx16 w) {b19 : Nat} (ex20 : Sub (bx b19 153 [vx15]) w) {vx22 : Value} {hx23 : PH} (r24 : RS hx23 vx22 c21) (ex25 : Sub hx23 w) {b28 : Nat} (ex29 : Sub (bx b28 24 [vx22]) w) {vx31 : Value} {hx32 : PH} (r33 : OD hx32 vx31 c30) (ex34 : Sub hx32 w) {b37 : Nat} (ex38 : Sub (bx b37 25 [vx31]) w) (d : Dj hx9 hx16) (d39 : Dj hx9 hx32) (d40 : Dj hx9 (bx b37 25 [vx31])) (d41 : Dj hx16 hx32) (d42 : Dj hx16 (bx b37 25 [vx31])) (d43 : Dj hx32 (bx b37 25 [vx31])) (d44 : Dj hx9 hx) (d45 : Dj hx9 hx2) (d46 : Dj hx9 (bx b19 153 [vx15])) (d47 : Dj hx9 hx23) (d48 : Dj hx9 (bx b28 24 [vx22])) (d49 : Dj hx16 hx) (d50 : Dj hx16 hx2) (d51 : Dj hx16 (bx b19 153 [vx15])) (d52 : Dj hx16 hx23) (d53 : Dj hx16 (bx b28 24 [vx22])) (d54 : Dj hx32 hx) (d55 : Dj hx32 hx2) (d56 : Dj hx32 (bx b19 153 [vx15])) (d57 : Dj hx32 hx23) (d58 : Dj hx32 (bx b28 24 [vx22])) (d59 : Dj (bx b37 25 [vx31]) hx) (d60 : Dj (bx b37 25 [vx31]) hx2) (d61 : Dj (bx b37 25 [vx31]) (bx b19 153 [vx15])) (d62 : Dj (bx b37 25 [vx31]) hx23) (d63 : Dj (bx b37 25 [vx31]) (bx b28 24 [vx22])) :
  CallsTo Try.prog 137 #[vx, vx1, I vx7, vx8, .func (.func 139) #[] #[pb b19, pb b28, pb b37]] w fun v w' => ∃ m2 m3 k1 k2 v3_ k3, Q m2 m3 ∧ v = .tuple #[] ∧ But (un hx9 (un hx16 (un hx32 (bx b37 25 [vx31])))) w w' ∧ OS 3 k1 emp vx8 sets ∧ Sub k1 w' ∧ (∀ n, DomLe hx9 n k1) ∧ MO k2 vx15 m2 ∧ Sub k2 w' ∧ (∀ n, DomLe hx16 n k2) ∧ OD k3 v3_ m3 ∧ Sub k3 w' ∧ DomLe (un hx9 (un hx16 (un hx32 (bx b37 25 [vx31])))) w.heap.size k3 ∧ Sub (bx b37 25 [v3_]) w' ∧ Dj k1 k2 ∧ Dj k1 k3 ∧ Dj k1 (bx b37 25 [v3_]) ∧ Dj k2 k3 ∧ Dj k2 (bx b37 25 [v3_]) ∧ Dj k3 (bx b37 25 [v3_]) := by
 obtain ⟨S, mu, H0, HS⟩ := H
 have key : ∀ (m : Nat) (sx : List Variable) (inx : List Bool) (vx7 : Int) (sets : List Int) (c14 : List (Int × Bool)) (c21 : List Variable) (c30 : List Edit) (Q : (List (Int × Bool)) → (List Edit) → Prop), S sx inx vx7 sets c14 c21 c30 Q → mu sx inx vx7 sets c14 c21 c30 < m → ∀ (w : World) {vx : Value} {hx : PH} (r : RS hx vx sx) (ex : Sub hx w) {vx1 : Value} {hx2 : PH} (r3 : RS hx2 vx1 inx) (ex4 : Sub hx2 w) {vx8 : Value} {hx9 : PH} (r10 : OS 3 hx9 emp vx8 sets) (ex11 : Sub hx9 w) {vx15 : Value} {hx16 : PH} (r17 : MO hx16 vx15 c14) (ex18 : Sub hx16 w) {b19 : Nat} (ex20 : Sub (bx b19 153 [vx15]) w) {vx22 : Value} {hx23 : PH} (r24 : RS hx23 vx22 c21) (ex25 : Sub hx23 w) {b28 : Nat} (ex29 : Sub (bx b28 24 [vx22]) w) {vx31 : Value} {hx32 : PH} (r33 : OD hx32 vx31 c30) (ex34 : Sub hx32 w) {b37 : Nat} (ex38 : Sub (bx b37 25 [vx31]) w) (d : Dj hx9 hx16) (d39 : Dj hx9 hx32) (d40 : Dj hx9 (bx b37 25 [vx31])) (d41 : Dj hx16 hx32) (d42 : Dj hx16 (bx b37 25 [vx31])) (d43 : Dj hx32 (bx b37 25 [vx31])) (d44 : Dj hx9 hx) (d45 : Dj hx9 hx2) (d46 : Dj hx9 (bx b19 153 [vx15])) (d47 : Dj hx9 hx23) (d48 : Dj hx9 (bx b28 24 [vx22])) (d49 : Dj hx16 hx) (d50 : Dj hx16 hx2) (d51 : Dj hx16 (bx b19 153 [vx15])) (d52 : Dj hx16 hx23) (d53 : Dj hx16 (bx b28 24 [vx22])) (d54 : Dj hx32 hx) (d55 : Dj hx32 hx2) (d56 : Dj hx32 (bx b19 153 [vx15])) (d57 : Dj hx32 hx23) (d58 : Dj hx32 (bx b28 24 [vx22])) (d59 : Dj (bx b37 25 [vx31]) hx) (d60 : Dj (bx b37 25 [vx31]) hx2) (d61 : Dj (bx b37 25 [vx31]) (bx b19 153 [vx15])) (d62 : Dj (bx b37 25 [vx31]) hx23) (d63 : Dj (bx b37 25 [vx31]) (bx b28 24 [vx22])), CallsTo Try.prog 137 #[vx, vx1, I vx7, vx8, .func (.func 139) #[] #[pb b19, pb b28, pb b37]] w fun v w' => ∃ m2 m3 k1 k2 v3_ k3, Q m2 m3 ∧ v = .tuple #[] ∧ But (un hx9 (un hx16 (un hx32 (bx b37 25 [vx31])))) w w' ∧ OS 3 k1 emp vx8 sets ∧ Sub k1 w' ∧ (∀ n, DomLe hx9 n k1) ∧ MO k2 vx15 m2 ∧ Sub k2 w' ∧ (∀ n, DomLe hx16 n k2) ∧ OD k3 v3_ m3 ∧ Sub k3 w' ∧ DomLe (un hx9 (un hx16 (un hx32 (bx b37 25 [vx31])))) w.heap.size k3 ∧ Sub (bx b37 25 [v3_]) w' ∧ Dj k1 k2 ∧ Dj k1 k3 ∧ Dj k1 (bx b37 25 [v3_]) ∧ Dj k2 k3 ∧ Dj k2 (bx b37 25 [v3_]) ∧ Dj k3 (bx b37 25 [v3_]) := by
  intro m
  induction m with
  | zero => intro sx inx vx7 sets c14 c21 c30 Q _ hm; exact absurd hm (Nat.not_lt_zero _)
  | succ m ih =>
   intro sx inx vx7 sets c14 c21 c30 Q H0 hm w vx hx r ex vx1 hx2 r3 ex4 vx8 hx9 r10 ex11 vx15 hx16 r17 ex18 b19 ex20 vx22 hx23 r24 ex25 b28 ex29 vx31 hx32 r33 ex34 b37 ex38 d d39 d40 d41 d42 d43 d44 d45 d46 d47 d48 d49 d50 d51 d52 d53 d54 d55 d56 d57 d58 d59 d60 d61 d62 d63
   have H := HS sx inx vx7 sets c14 c21 c30 Q H0
   obtain ⟨a, c, rfl⟩ := r.shape
   obtain ⟨a5, c6, rfl⟩ := r3.shape
   obtain ⟨a12, c13, rfl⟩ := r10.shape
   obtain ⟨b, rfl⟩ := r17.shape
   obtain ⟨a26, c27, rfl⟩ := r24.shape
   obtain ⟨a35, c36, rfl⟩ := r33.shape
   refine enter (args := [sl a sx c, sl a5 inx c6, I vx7, sl a12 sets c13, .func (.func 139) #[] #[pb b19, pb b28, pb b37]]) 117 Try.func137 rfl rfl rfl ?_
   refine W_forget [(0, sl a sx c), (1, sl a5 inx c6), (2, I vx7), (3, sl a12 sets c13), (4, .func (.func 139) #[] #[pb b19, pb b28, pb b37])] ⟨rfl, rfl, rfl, rfl, rfl, trivial⟩ fun ρ => ?_
   obtain ⟨M, hM⟩ : ∃ M : PH, M = (un hx9 (un hx16 (un hx32 (bx b37 25 [sl a35 c30 c36])))) := ⟨_, rfl⟩
   have D : Dom M hx9 := by subst hM; exact (Dom.l _ _)
   have D64 : Dom M hx16 := by subst hM; exact (Dom.trans (Dom.r _ _) (Dom.l _ _))
   have D65 : Dom M hx32 := by subst hM; exact (Dom.trans (Dom.r _ _) (Dom.trans (Dom.r _ _) (Dom.l _ _)))
   have D66 : Dom M (bx b37 25 [sl a35 c30 c36]) := by subst hM; exact (Dom.trans (Dom.r _ _) (Dom.trans (Dom.r _ _) (Dom.trans (Dom.r _ _) (Dom.refl _))))
   have X := But.refl M w
   refine W_seq (W_region ?_)
   refine LP_ev ok 0 [(18, sl a12 sets c13), (19, I (ln sets)), (10, I (ln sets))] 3 rfl rfl ?_
   refine LP_end _ rfl (W_seq ?_)
   refine W_seq (W_region ?_)
   refine LP_ev ok 0 [(20, I (ln sets)), (21, sl a sx c), (22, I (ln sx)), (23, .bool ((ln sets) == (ln sx)))] 4 rfl rfl ?_
   refine LP_end _ rfl ?_
   refine W_cond ((ln sets) == (ln sx)) rfl (fun hc => ?_) (fun hc => ?_)
   ·have H := H.1 hc
    obtain ⟨k, hk, H⟩ := jn_elim H
    refine W_join2 (S := (List (Int × Bool)) × (List Edit)) (fun s ρ' w' => k s.1 s.2 ∧ ∃ (ρ : Env) (hx67 : PH) (vx69 : Value) (hx70 : PH), ρ' = setAll [] ρ ∧ But M w w' ∧ MO hx67 (.map (some b)) s.1 ∧ Sub hx67 w' ∧ (∀ n, DomLe hx16 n hx67) ∧ OD hx70 vx69 s.2 ∧ Sub hx70 w' ∧ DomLe M w.heap.size hx70 ∧ Sub hx9 w' ∧ Sub (bx b37 25 [vx69]) w' ∧ Dj hx67 hx9 ∧ Dj hx67 (bx b37 25 [vx69]) ∧ Dj hx70 hx9 ∧ Dj hx70 (bx b37 25 [vx69]) ∧ Dj hx70 hx67) ?_ ?_
    ·refine W_seq (W_region ?_)
     refine LP_ev ok 0 [(24, sl a5 inx c6)] 1 rfl rfl ?_
     obtain ⟨x84, hi, hx85, H⟩ := H
     refine LP_index 1 rfl rfl rfl Try.underlying155 ti_4 rfl rfl r3 hi hx85 fun a86 cs r87 d88 => ?_
     refine LP_load 2 rfl rfl rfl ti_4 ag_4 rfl r87 d88 ex4 fun vx89 r90 => ?_
     obtain rfl := r90.bool
     refine LP_end _ rfl ?_
     refine W_cond (x84) rfl (fun hc91 => ?_) (fun hc91 => ?_)
     ·have H := H.1 hc91
      refine W_region ?_
      refine LP_ev ok 0 [(27, .func (.func 139) #[] #[pb b19, pb b28, pb b37]), (28, sl a12 sets c13)] 2 rfl rfl ?_
      refine LP_callc 2 rfl rfl rfl rfl cal_139 rfl rfl (impl_maximalEdits_1_w _ _ _ _ _ H w r10.readf ex11 r17 ex18 ex20 r24 ex25 ex29 r33 ex34 ex38 d41 d42 d43 d.symm d51 d52 d53 d39.symm d56 d57 d58 d40.symm d61 d62 d63) ?_
      rintro _ wx94 ⟨r92, r93, hx96, vx103, hx99, H, rfl, x95, HF⟩
      revert HF
      refine bb9 fun o97 ex98 dm o100 ex101 dm102 ex104 d105 => ?_
      refine bb2 fun d106 d107 => ?_
      obtain ⟨a108, c109, rfl⟩ := o100.shape
      exact LP_end _ rfl ⟨(r92, r93), H, _, hx96, sl a108 r93 c109, hx99, env_eq trivial, (X.step x95 (DomLe.un (Dom.le D64 _) (DomLe.un (Dom.le D65 _) (Dom.le D66 _)))), o97, ex98, (fun _ => DomLe.trans (DomLe.refl _ _) ((dm _)) (Nat.le_refl _)), o100, ex101, (DomLe.trans (DomLe.un (Dom.le D64 _) (DomLe.un (Dom.le D65 _) (Dom.le D66 _))) dm102 X.size), (ex11.but x95 (Dj.un_l d.symm (Dj.un_l d39.symm d40.symm))), ex104, (DomLe.dj (dm _) d.symm ex11), d106, (DomLe.dj dm102 (Dj.un_l d.symm (Dj.un_l d39.symm d40.symm)) ex11), d107, d105.symm⟩
     have H := H.2 hc91
     exact W_skip ⟨(c14, c30), H, _, hx16, sl a35 c30 c36, hx32, env_eq trivial, X, r17, ex18, (fun _ => DomLe.refl _ _), r33, ex34, (Dom.le D65 _), ex11, ex38, d.symm, d42, d39.symm, d43, d41.symm⟩
    rintro ⟨mp, x⟩ _ wx ⟨H, ρ, hx67, vx69, hx70, rfl, HF⟩
    revert HF
    refine bb9 fun X83 o ex68 f o71 ex72 f73 ex74 => ?_
    refine bb6 fun ex77 d78 d79 d80 d81 d82 => ?_
    subst hk
    obtain ⟨a75, c76, rfl⟩ := o71.shape
    refine W_ret ?_
    subst hM
    exact ⟨_, Ret_of [] trivial, _, _, _, _, _, _, H, rfl, X83, r10, ex74, (fun _ => DomLe.refl _ _), o, ex68, (fun _ => f _), o71, ex72, f73, ex77, d78.symm, d80.symm, (Dj.box d40.symm).symm, d82.symm, d79, d81⟩
   have H := H.2 hc
   refine W_skip ?_
   refine W_seq (W_region ?_)
   refine LP_ev ok 0 [(30, sl a5 inx c6), (31, I (ln inx)), (32, sl a sx c), (33, I (ln sets))] 4 rfl rfl ?_
   obtain ⟨x112, hi113, hx114, H⟩ := H
   refine LP_index 4 rfl rfl rfl Try.underlying24 ti_167 rfl rfl r hi113 hx114 fun a115 cs116 r117 d118 => ?_
   refine LP_ev ok 5 [(35, .pointer (some (Addr.add a115 1)))] 6 rfl rfl ?_
   refine LP_ldfld (x := x112) (off := 1) 6 (v := I x112.Levels) rfl rfl rfl ti_3 ag_3 (fun _ => rfl) rfl r117 d118 ex rfl rfl ?_
   obtain ⟨hz, H⟩ := H
   refine LP_val 7 _ rfl rfl (ex_quo rfl rfl rfl hz _) ?_
   refine LP_ev ok 8 [(11, I (wr (Int.tdiv (ln inx) x112.Levels)))] 9 rfl rfl ?_
   refine LP_end _ rfl (W_seq (W_region ?_))
   refine LP_ev ok 0 [(12, I 1)] 1 rfl rfl ?_
   refine LP_end _ rfl ?_
   obtain ⟨k130, hk131, H⟩ := jn_elim H
   refine W_join2 (S := Int) (fun s ρ' w' => k130 s ∧ ∃ (ρ : Env), ρ' = setAll [(0, sl a sx c), (1, sl a5 inx c6), (2, I vx7), (3, sl a12 sets c13), (4, .func (.func 139) #[] #[pb b19, pb b28, pb b37]), (10, I (ln sets)), (11, I (wr (Int.tdiv (ln inx) x112.Levels))), (12, I s)] ρ ∧ But M w w' ∧ Sub hx w' ∧ Sub hx2 w' ∧ Sub hx9 w' ∧ Sub hx16 w' ∧ Sub (bx b19 153 [.map (some b)]) w' ∧ Sub hx23 w' ∧ Sub (bx b28 24 [sl a26 c21 c27]) w' ∧ Sub hx32 w' ∧ Sub (bx b37 25 [sl a35 c30 c36]) w') ?_ ?_
   ·refine W_seq (W_region ?_)
    refine LP_ev ok 0 [(38, I (ln sets)), (39, I vx7), (40, .bool ((ln sets) == vx7))] 3 rfl rfl ?_
    refine LP_end _ rfl ?_
    refine W_cond ((ln sets) == vx7) rfl (fun hc132 => ?_) (fun hc132 => ?_)
    ·have H := H.1 hc132
     refine W_region ?_
     refine LP_ev ok 0 [(41, sl a sx c), (42, I (ln sets))] 2 rfl rfl ?_
     obtain ⟨x133, hi134, hx135, H⟩ := H
     refine LP_index 2 rfl rfl rfl Try.underlying24 ti_167 rfl rfl r hi134 hx135 fun a136 cs137 r138 d139 => ?_
     refine LP_load 3 rfl rfl rfl ti_167 ag_167 rfl r138 d139 ex fun vx140 r141 => ?_
     obtain rfl := Variable_rv r141
     refine LP_call 4 rfl rfl rfl cal_145 rfl (impl_fullSet_w _ _ H w ) ?_
     rintro _ wx143 ⟨r142, H, rfl, x144⟩
     refine LP_ev ok 5 [(12, I r142)] 6 rfl rfl ?_
     refine LP_end _ rfl ?_
     try refine W_forget [(0, sl a sx c), (1, sl a5 inx c6), (2, I vx7), (3, sl a12 sets c13), (4, .func (.func 139) #[] #[pb b19, pb b28, pb b37]), (10, I (ln sets)), (11, I (wr (Int.tdiv (ln inx) x112.Levels))), (12, I r142)] ⟨rfl, rfl, rfl, rfl, rfl, rfl, rfl, rfl, trivial⟩ fun ρ => ?_
     exact ⟨r142, H, _, env_eq ⟨rfl, rfl, rfl, rfl, rfl, rfl, rfl, rfl, trivial⟩, (X.stepx x144), (ex.ext x144), (ex4.ext x144), (ex11.ext x144), (ex18.ext x144), (ex20.ext x144), (ex25.ext x144), (ex29.ext x144), (ex34.ext x144), (ex38.ext x144)⟩
    have H := H.2 hc132
    exact W_skip ⟨1, H, _, env_eq ⟨rfl, rfl, rfl, rfl, rfl, rfl, rfl, rfl, trivial⟩, X, ex, ex4, ex11, ex18, ex20, ex25, ex29, ex34, ex38⟩
   rintro least _ wx119 ⟨H, ρ, rfl, HF⟩
   revert HF
   refine bb9 fun X129 ex120 ex121 ex122 ex123 ex124 ex125 ex126 => ?_
   refine bb2 fun ex127 ex128 => ?_
   subst hk131
   refine W_seq (W_region ?_)
   refine LP_ev ok 0 [(46, I least), (13, I least)] 2 rfl rfl ?_
   refine LP_end _ rfl ?_
   refine W_block ?_
   obtain ⟨J, m202, Hx, H⟩ := H
   refine W_loop (S := Int × (List (Int × Bool)) × (List Edit)) (fun s ρ' w' => J s.1 s.2.1 s.2.2 ∧ ∃ (ρ : Env) (hx156 : PH) (hx161 : PH) (vx166 : Value) (hx167 : PH), ρ' = setAll [(0, sl a sx c), (1, sl a5 inx c6), (2, I vx7), (3, sl a12 sets c13), (4, .func (.func 139) #[] #[pb b19, pb b28, pb b37]), (10, I (ln sets)), (11, I (wr (Int.tdiv (ln inx) x112.Levels))), (13, I s.1)] ρ ∧ But M w w' ∧ OS 3 hx156 emp (sl a12 sets c13) sets ∧ Sub hx156 w' ∧ (∀ n, DomLe hx9 n hx156) ∧ MO hx161 (.map (some b)) s.2.1 ∧ Sub hx161 w' ∧ (∀ n, DomLe hx16 n hx161) ∧ OD hx167 vx166 s.2.2 ∧ Sub hx167 w' ∧ DomLe M w.heap.size hx167 ∧ Sub hx w' ∧ Sub hx2 w' ∧ Sub (bx b19 153 [.map (some b)]) w' ∧ Sub hx23 w' ∧ Sub (bx b28 24 [sl a26 c21 c27]) w' ∧ Sub (bx b37 25 [vx166]) w' ∧ Dj hx156 hx ∧ Dj hx156 hx2 ∧ Dj hx156 (bx b19 153 [.map (some b)]) ∧ Dj hx156 hx23 ∧ Dj hx156 (bx b28 24 [sl a26 c21 c27]) ∧ Dj hx156 (bx b37 25 [vx166]) ∧ Dj hx161 hx ∧ Dj hx161 hx2 ∧ Dj hx161 (bx b19 153 [.map (some b)]) ∧ Dj hx161 hx23 ∧ Dj hx161 (bx b28 24 [sl a26 c21 c27]) ∧ Dj hx161 (bx b37 25 [vx166]) ∧ Dj hx161 hx156 ∧ Dj hx167 hx ∧ Dj hx167 hx2 ∧ Dj hx167 (bx b19 153 [.map (some b)]) ∧ Dj hx167 hx23 ∧ Dj hx167 (bx b28 24 [sl a26 c21 c27]) ∧ Dj hx167 (bx b37 25 [vx166]) ∧ Dj hx167 hx156 ∧ Dj hx167 hx161) (fun s => m202 s.1 s.2.1 s.2.2) (least, c14, c30) ⟨Hx, _, hx9, hx16, sl a35 c30 c36, hx32, env_eq ⟨rfl, rfl, rfl, rfl, rfl, rfl, rfl, rfl, trivial⟩, X129, r10, ex122, (fun _ => DomLe.refl _ _), r17, ex123, (fun _ => DomLe.refl _ _), r33, ex127, (Dom.le D65 _), ex120, ex121, ex124, ex125, ex126, ex128, d44, d45, d46, d47, d48, d40, d49, d50, d51, d52, d53, d42, d.symm, d54, d55, d56, d57, d58, d43, d39.symm, d41.symm⟩ ?_
   rintro ⟨setx, mp160, x165⟩ _ wx171 ⟨Hi, ρ, hx156, hx161, vx166, hx167, rfl, HF⟩
   revert HF
   refine bb9 fun X201 o157 ex158 f159 o162 ex163 f164 o168 => ?_
   refine bb9 fun ex169 f170 ex172 ex173 ex174 ex175 ex176 ex179 => ?_
   refine bb9 fun d180 d181 d182 d183 d184 d185 d186 d187 => ?_
   refine bb9 fun d188 d189 d190 d191 d192 d193 d194 d195 => ?_
   refine bb5 fun d196 d197 d198 d199 d200 => ?_
   have H := H setx mp160 x165 Hi
   obtain ⟨a177, c178, rfl⟩ := o168.shape
   refine W_seq ?_
   refine W_seq (W_region ?_)
   refine LP_ev ok 0 [(47, I setx), (48, sl a sx c), (49, I (ln sets))] 3 rfl rfl ?_
   obtain ⟨x203, hi204, hx205, H⟩ := H
   refine LP_index 3 rfl rfl rfl Try.underlying24 ti_167 rfl rfl r hi204 hx205 fun a206 cs207 r208 d209 => ?_
   refine LP_load 4 rfl rfl rfl ti_167 ag_167 rfl r208 d209 ex172 fun vx210 r211 => ?_
   obtain rfl := Variable_rv r211
   refine LP_call 5 rfl rfl rfl cal_145 rfl (impl_fullSet_w _ _ H wx171 ) ?_
   rintro _ wx213 ⟨r212, H, rfl, x214⟩
   refine LP_ev ok 6 [(53, .bool (decide (setx ≤ r212)))] 7 rfl rfl ?_
   refine LP_end _ rfl ?_
   refine W_cond (decide (setx ≤ r212)) rfl (fun hc215 => ?_) (fun hc215 => ?_)
   ·have H := H.1 hc215
    refine W_skip ?_
    have X216 := (X201.stepx x214)
    have ex217 := (ex172.ext x214)
    have ex218 := (ex173.ext x214)
    have ex219 := (ex158.ext x214)
    have ex220 := (ex163.ext x214)
    have ex221 := (ex174.ext x214)
    have ex222 := (ex175.ext x214)
    have ex223 := (ex176.ext x214)
    have ex224 := (ex179.ext x214)
    have ex225 := (ex169.ext x214)
    obtain ⟨k273, hk274, H⟩ := jn_elim H
    refine W_join2 (S := (List (Int × Bool)) × (List Edit)) (fun s ρ' w' => k273 s.1 s.2 ∧ ∃ (ρ : Env) (hx227 : PH) (hx232 : PH) (vx237 : Value) (hx238 : PH), ρ' = setAll [(0, sl a sx c), (1, sl a5 inx c6), (2, I vx7), (3, sl a12 sets c13), (4, .func (.func 139) #[] #[pb b19, pb b28, pb b37]), (10, I (ln sets)), (11, I (wr (Int.tdiv (ln inx) x112.Levels))), (13, I setx)] ρ ∧ But M w w' ∧ OS 3 hx227 emp (sl a12 sets c13) sets ∧ Sub hx227 w' ∧ (∀ n, DomLe hx9 n hx227) ∧ MO hx232 (.map (some b)) s.1 ∧ Sub hx232 w' ∧ (∀ n, DomLe hx16 n hx232) ∧ OD hx238 vx237 s.2 ∧ Sub hx238 w' ∧ DomLe M w.heap.size hx238 ∧ Sub hx w' ∧ Sub hx2 w' ∧ Sub (bx b19 153 [.map (some b)]) w' ∧ Sub hx23 w' ∧ Sub (bx b28 24 [sl a26 c21 c27]) w' ∧ Sub (bx b37 25 [vx237]) w' ∧ Dj hx227 hx ∧ Dj hx227 hx2 ∧ Dj hx227 (bx b19 153 [.map (some b)]) ∧ Dj hx227 hx23 ∧ Dj hx227 (bx b28 24 [sl a26 c21 c27]) ∧ Dj hx227 (bx b37 25 [vx237]) ∧ Dj hx232 hx ∧ Dj hx232 hx2 ∧ Dj hx232 (bx b19 153 [.map (some b)]) ∧ Dj hx232 hx23 ∧ Dj hx232 (bx b28 24 [sl a26 c21 c27]) ∧ Dj hx232 (bx b37 25 [vx237]) ∧ Dj hx232 hx227 ∧ Dj hx238 hx ∧ Dj hx238 hx2 ∧ Dj hx238 (bx b19 153 [.map (some b)]) ∧ Dj hx238 hx23 ∧ Dj hx238 (bx b28 24 [sl a26 c21 c27]) ∧ Dj hx238 (bx b37 25 [vx237]) ∧ Dj hx238 hx227 ∧ Dj hx238 hx232) ?_ ?_
    ·refine W_block ?_
     refine W_seq (W_region ?_)
     refine LP_ev ok 0 [(56, I (wr (Int.tdiv (ln inx) x112.Levels)))] 1 rfl rfl ?_
     obtain ⟨hn, hb, H⟩ := H
     refine LP_make (α := Bool) 1 rfl rfl rfl Try.underlying155 ti_4 (x0 := false) rfl rfl hn (by first | omega | (simp only [ln] at *; omega)) (by first | omega | (simp only [ln] at *; omega)) fun hx275 vx276 wx277 x278 o279 ex280 f281 => ?_
     obtain ⟨a282, c283, rfl⟩ := o279.shape
     refine LP_ev ok 2 [(14, .slice a282 (List.length (List.replicate (Int.toNat (wr (Int.tdiv (ln inx) x112.Levels))) false)) c283)] 3 rfl rfl ?_
     refine LP_end _ rfl (W_seq (W_region ?_))
     refine LP_ev ok 0 [(15, .bool false)] 1 rfl rfl ?_
     refine LP_end _ rfl (W_seq ?_)
     refine W_seq (W_region ?_)
     refine LP_ev ok 0 [(58, .slice a282 (List.length (List.replicate (Int.toNat (wr (Int.tdiv (ln inx) x112.Levels))) false)) c283), (59, I (ln (List.replicate (Int.toNat (wr (Int.tdiv (ln inx) x112.Levels))) false))), (60, I 0)] 3 rfl rfl ?_
     refine LP_end _ rfl ?_
     refine W_block ?_
     have f314 := f281.mono X216.size
     obtain ⟨J310, m311, Hx312, H⟩ := H
     refine W_loop (S := (List Bool) × Bool × Int) (fun s ρ' w' => J310 s.1 s.2.1 s.2.2 ∧ ∃ (ρ : Env) (hx285 : PH), ρ' = setAll [(0, sl a sx c), (1, sl a5 inx c6), (2, I vx7), (3, sl a12 sets c13), (4, .func (.func 139) #[] #[pb b19, pb b28, pb b37]), (10, I (ln sets)), (11, I (wr (Int.tdiv (ln inx) x112.Levels))), (13, I setx), (14, .slice a282 (List.length (List.replicate (Int.toNat (wr (Int.tdiv (ln inx) x112.Levels))) false)) c283), (15, .bool s.2.1), (59, I (ln (List.replicate (Int.toNat (wr (Int.tdiv (ln inx) x112.Levels))) false))), (60, I s.2.2)] ρ ∧ But M w w' ∧ OS 4 hx285 emp (.slice a282 (List.length (List.replicate (Int.toNat (wr (Int.tdiv (ln inx) x112.Levels))) false)) c283) s.1 ∧ Sub hx285 w' ∧ Fresh w.heap.size hx285 ∧ Sub hx w' ∧ Sub hx2 w' ∧ Sub hx156 w' ∧ Sub hx161 w' ∧ Sub (bx b19 153 [.map (some b)]) w' ∧ Sub hx23 w' ∧ Sub (bx b28 24 [sl a26 c21 c27]) w' ∧ Sub (bx b37 25 [sl a177 x165 c178]) w' ∧ Sub hx167 w' ∧ Dj hx285 hx ∧ Dj hx285 hx2 ∧ Dj hx285 hx156 ∧ Dj hx285 hx161 ∧ Dj hx285 (bx b19 153 [.map (some b)]) ∧ Dj hx285 hx23 ∧ Dj hx285 (bx b28 24 [sl a26 c21 c27]) ∧ Dj hx285 (bx b37 25 [sl a177 x165 c178]) ∧ Dj hx285 hx167) (fun s => m311 s.1 s.2.1 s.2.2) (List.replicate (Int.toNat (wr (Int.tdiv (ln inx) x112.Levels))) false, false, 0) ⟨Hx312, _, hx275, env_eq ⟨rfl, rfl, rfl, rfl, rfl, rfl, rfl, rfl, rfl, rfl, rfl, rfl, trivial⟩, (X216.stepx x278), o279, ex280, f314, (ex217.ext x278), (ex218.ext x278), (ex219.ext x278), (ex220.ext x278), (ex221.ext x278), (ex222.ext x278), (ex223.ext x278), (ex224.ext x278), (ex225.ext x278), (Dj.of_fresh ex217 f281).symm, (Dj.of_fresh ex218 f281).symm, (Dj.of_fresh ex219 f281).symm, (Dj.of_fresh ex220 f281).symm, (Dj.of_fresh ex221 f281).symm, (Dj.of_fresh ex222 f281).symm, (Dj.of_fresh ex223 f281).symm, (Dj.of_fresh ex224 f281).symm, (Dj.of_fresh ex225 f281).symm⟩ ?_
     rintro ⟨rest, any, x289⟩ _ wx290 ⟨Hi, ρ, hx285, rfl, HF⟩
     revert HF
     refine bb9 fun X309 o286 ex287 f288 ex291 ex292 ex293 ex294 => ?_
     refine bb9 fun ex295 ex296 ex297 ex298 ex299 d300 d301 d302 => ?_
     refine bb6 fun d303 d304 d305 d306 d307 d308 => ?_
     have H := H rest any x289 Hi
     refine W_seq (W_region ?_)
     refine LP_ev ok 0 [(61, .bool (decide (x289 < (ln (List.replicate (Int.toNat (wr (Int.tdiv (ln inx) x112.Levels))) false)))))] 1 rfl rfl ?_
     refine LP_end _ rfl (W_seq ?_)
     refine W_cond (decide (x289 < (ln (List.replicate (Int.toNat (wr (Int.tdiv (ln inx) x112.Levels))) false)))) rfl (fun hc325 => ?_) (fun hc325 => ?_)
     ·have H := H.1 hc325
      refine W_skip ?_
      obtain ⟨k353, hk354, H⟩ := jn_elim H
      refine W_join2 (S := (List Bool) × Bool) (fun s ρ' w' => k353 s.1 s.2 ∧ ∃ (ρ : Env) (hx328 : PH), ρ' = setAll [(0, sl a sx c), (1, sl a5 inx c6), (2, I vx7), (3, sl a12 sets c13), (4, .func (.func 139) #[] #[pb b19, pb b28, pb b37]), (10, I (ln sets)), (11, I (wr (Int.tdiv (ln inx) x112.Levels))), (13, I setx), (14, .slice a282 (List.length (List.replicate (Int.toNat (wr (Int.tdiv (ln inx) x112.Levels))) false)) c283), (15, .bool s.2), (59, I (ln (List.replicate (Int.toNat (wr (Int.tdiv (ln inx) x112.Levels))) false))), (60, I x289)] ρ ∧ But M w w' ∧ OS 4 hx328 emp (.slice a282 (List.length (List.replicate (Int.toNat (wr (Int.tdiv (ln inx) x112.Levels))) false)) c283) s.1 ∧ Sub hx328 w' ∧ Fresh w.heap.size hx328 ∧ Sub hx w' ∧ Sub hx2 w' ∧ Sub hx156 w' ∧ Sub hx161 w' ∧ Sub (bx b19 153 [.map (some b)]) w' ∧ Sub hx23 w' ∧ Sub (bx b28 24 [sl a26 c21 c27]) w' ∧ Sub (bx b37 25 [sl a177 x165 c178]) w' ∧ Sub hx167 w' ∧ Dj hx328 hx ∧ Dj hx328 hx2 ∧ Dj hx328 hx156 ∧ Dj hx328 hx161 ∧ Dj hx328 (bx b19 153 [.map (some b)]) ∧ Dj hx328 hx23 ∧ Dj hx328 (bx b28 24 [sl a26 c21 c27]) ∧ Dj hx328 (bx b37 25 [sl a177 x165 c178]) ∧ Dj hx328 hx167) ?_ ?_
      ·refine W_block ?_
       refine W_seq (W_region ?_)
       refine LP_ev ok 0 [(62, I x289), (16, I x289)] 2 rfl rfl ?_
       refine LP_end _ rfl (W_seq (W_region ?_))
       refine LP_ev ok 0 [(63, .slice a282 (List.length (List.replicate (Int.toNat (wr (Int.tdiv (ln inx) x112.Levels))) false)) c283), (64, I x289)] 2 rfl rfl ?_
       obtain ⟨hi355, hl, H⟩ := H
       refine LP_indexw (v := .slice a282 (List.length (List.replicate (Int.toNat (wr (Int.tdiv (ln inx) x112.Levels))) false)) c283) 2 rfl rfl rfl Try.underlying155 ti_4 rfl rfl o286 hi355 hl fun a356 wa => ?_
       refine LP_set 3 rfl rfl rfl rfl rfl wa (Le.refl emp) ⟨_, rfl, rfl⟩ ex287 fun hx357 wx358 o359 ex360 y dm361 => ?_
       refine LP_end _ rfl (W_seq ?_)
       refine W_seq (W_region ?_)
       refine LP_ev ok 0 [(66, sl a sx c), (67, I (ln sets))] 2 rfl rfl ?_
       obtain ⟨x362, hi363, hx364, H⟩ := H
       refine LP_index 2 rfl rfl rfl Try.underlying24 ti_167 rfl rfl r hi363 hx364 fun a365 cs366 r367 d368 => ?_
       refine LP_ev ok 3 [(69, .pointer (some (Addr.add a365 1)))] 4 rfl rfl ?_
       have ex369 := (ex291.but y d300)
       refine LP_ldfld (x := x362) (off := 1) 4 (v := I x362.Levels) rfl rfl rfl ti_3 ag_3 (fun _ => rfl) rfl r367 d368 ex369 rfl rfl ?_
       refine LP_ev ok 5 [(71, I 0)] 6 rfl rfl ?_
       refine LP_end _ rfl ?_
       refine W_block ?_
       have f401 := (dm361 _).fresh f288 X309.size
       obtain ⟨J397, m398, Hx399, H⟩ := H
       refine W_loop (S := (List Bool) × Int) (fun s ρ' w' => J397 s.1 s.2 ∧ ∃ (ρ : Env) (hx372 : PH), ρ' = setAll [(0, sl a sx c), (1, sl a5 inx c6), (2, I vx7), (3, sl a12 sets c13), (4, .func (.func 139) #[] #[pb b19, pb b28, pb b37]), (10, I (ln sets)), (11, I (wr (Int.tdiv (ln inx) x112.Levels))), (13, I setx), (14, .slice a282 (List.length (List.replicate (Int.toNat (wr (Int.tdiv (ln inx) x112.Levels))) false)) c283), (15, .bool any), (16, I x289), (59, I (ln (List.replicate (Int.toNat (wr (Int.tdiv (ln inx) x112.Levels))) false))), (60, I x289), (70, I x362.Levels), (71, I s.2)] ρ ∧ But M w w' ∧ OS 4 hx372 emp (.slice a282 (List.length (List.replicate (Int.toNat (wr (Int.tdiv (ln inx) x112.Levels))) false)) c283) s.1 ∧ Sub hx372 w' ∧ Fresh w.heap.size hx372 ∧ Sub hx w' ∧ Sub hx2 w' ∧ Sub hx156 w' ∧ Sub hx161 w' ∧ Sub (bx b19 153 [.map (some b)]) w' ∧ Sub hx23 w' ∧ Sub (bx b28 24 [sl a26 c21 c27]) w' ∧ Sub (bx b37 25 [sl a177 x165 c178]) w' ∧ Sub hx167 w' ∧ Dj hx372 hx ∧ Dj hx372 hx2 ∧ Dj hx372 hx156 ∧ Dj hx372 hx161 ∧ Dj hx372 (bx b19 153 [.map (some b)]) ∧ Dj hx372 hx23 ∧ Dj hx372 (bx b28 24 [sl a26 c21 c27]) ∧ Dj hx372 (bx b37 25 [sl a177 x165 c178]) ∧ Dj hx372 hx167) (fun s => m398 s.1 s.2) (List.set rest (Int.toNat x289) true, 0) ⟨Hx399, _, hx357, env_eq ⟨rfl, rfl, rfl, rfl, rfl, rfl, rfl, rfl, rfl, rfl, rfl, rfl, rfl, rfl, rfl, trivial⟩, (X309.step y (f288.dom _)), o359, ex360, f401, ex369, (ex292.but y d301), (ex293.but y d302), (ex294.but y d303), (ex295.but y d304), (ex296.but y d305), (ex297.but y d306), (ex298.but y d307), (ex299.but y d308), (DomLe.dj (dm361 _) d300 ex291), (DomLe.dj (dm361 _) d301 ex292), (DomLe.dj (dm361 _) d302 ex293), (DomLe.dj (dm361 _) d303 ex294), (DomLe.dj (dm361 _) d304 ex295), (DomLe.dj (dm361 _) d305 ex296), (DomLe.dj (dm361 _) d306 ex297), (DomLe.dj (dm361 _) d307 ex298), (DomLe.dj (dm361 _) d308 ex299)⟩ ?_
       rintro ⟨rest370, x376⟩ _ wx377 ⟨Hi, ρ, hx372, rfl, HF⟩
       revert HF
       refine bb9 fun X396 o373 ex374 f375 ex378 ex379 ex380 ex381 => ?_
       refine bb9 fun ex382 ex383 ex384 ex385 ex386 d387 d388 d389 => ?_
       refine bb6 fun d390 d391 d392 d393 d394 d395 => ?_
       have H := H rest370 x376 Hi
       refine W_seq (W_region ?_)
       refine LP_ev ok 0 [(72, .bool (decide (x376 < x362.Levels)))] 1 rfl rfl ?_
       refine LP_end _ rfl (W_seq ?_)
       refine W_cond (decide (x376 < x362.Levels)) rfl (fun hc411 => ?_) (fun hc411 => ?_)
       ·have H := H.1 hc411
        refine W_skip ?_
        obtain ⟨k438, hk439, H⟩ := jn_elim H
        refine W_join2 (S := (List Bool)) (fun s ρ' w' => k438 s ∧ ∃ (ρ : Env) (hx414 : PH), ρ' = setAll [(0, sl a sx c), (1, sl a5 inx c6), (2, I vx7), (3, sl a12 sets c13), (4, .func (.func 139) #[] #[pb b19, pb b28, pb b37]), (10, I (ln sets)), (11, I (wr (Int.tdiv (ln inx) x112.Levels))), (13, I setx), (14, .slice a282 (List.length (List.replicate (Int.toNat (wr (Int.tdiv (ln inx) x112.Levels))) false)) c283), (15, .bool any), (16, I x289), (59, I (ln (List.replicate (Int.toNat (wr (Int.tdiv (ln inx) x112.Levels))) false))), (60, I x289), (70, I x362.Levels), (71, I x376)] ρ ∧ But M w w' ∧ OS 4 hx414 emp (.slice a282 (List.length (List.replicate (Int.toNat (wr (Int.tdiv (ln inx) x112.Levels))) false)) c283) s ∧ Sub hx414 w' ∧ Fresh w.heap.size hx414 ∧ Sub hx w' ∧ Sub hx2 w' ∧ Sub hx156 w' ∧ Sub hx161 w' ∧ Sub (bx b19 153 [.map (some b)]) w' ∧ Sub hx23 w' ∧ Sub (bx b28 24 [sl a26 c21 c27]) w' ∧ Sub (bx b37 25 [sl a177 x165 c178]) w' ∧ Sub hx167 w' ∧ Dj hx414 hx ∧ Dj hx414 hx2 ∧ Dj hx414 hx156 ∧ Dj hx414 hx161 ∧ Dj hx414 (bx b19 153 [.map (some b)]) ∧ Dj hx414 hx23 ∧ Dj hx414 (bx b28 24 [sl a26 c21 c27]) ∧ Dj hx414 (bx b37 25 [sl a177 x165 c178]) ∧ Dj hx414 hx167) ?_ ?_
        ·refine W_block ?_
         refine W_seq (W_region ?_)
         refine LP_ev ok 0 [(73, I x376), (17, I x376)] 2 rfl rfl ?_
         refine LP_end _ rfl ?_
         refine W_region ?_
         refine LP_ev ok 0 [(74, .slice a282 (List.length (List.replicate (Int.toNat (wr (Int.tdiv (ln inx) x112.Levels))) false)) c283), (75, I x289), (76, .slice a282 (List.length (List.replicate (Int.toNat (wr (Int.tdiv (ln inx) x112.Levels))) false)) c283), (77, I x289)] 4 rfl rfl ?_
         obtain ⟨x440, hi441, hx442, H⟩ := H
         refine LP_index 4 rfl rfl rfl Try.underlying155 ti_4 rfl rfl o373.readf hi441 hx442 fun a443 cs444 r445 d446 => ?_
         refine LP_load 5 rfl rfl rfl ti_4 ag_4 rfl r445 d446 ex374 fun vx447 r448 => ?_
         obtain rfl := r448.bool
         refine LP_ev ok 6 [(80, .bool x440)] 7 rfl rfl ?_
         refine LP_split 80 (x440) rfl (fun hc449 => ?_) (fun hc449 => ?_)
         ·have H := H.1 hc449
          refine LP_ev ok 7 [(81, I setx), (82, I x376)] 9 rfl rfl ?_
          obtain ⟨hz450, H⟩ := H
          refine LP_val 9 _ rfl rfl (ex_shr rfl rfl rfl hz450 _) ?_
          refine LP_ev ok 10 [(84, I (bits .and .i64 (shr .i64 setx x376) 1)), (85, .bool ((bits .and .i64 (shr .i64 setx x376) 1) == 0)), (86, .bool ((bits .and .i64 (shr .i64 setx x376) 1) == 0))] 13 rfl rfl ?_
          refine LP_split 86 ((bits .and .i64 (shr .i64 setx x376) 1) == 0) rfl (fun hc451 => ?_) (fun hc451 => ?_)
          ·have H := H.1 hc451
           refine LP_ev ok 13 [(87, undef), (88, undef), (89, undef), (90, undef), (91, undef), (92, undef), (93, undef), (94, undef), (95, .bool true), (96, .bool true)] 23 rfl rfl ?_
           obtain ⟨hi452, hl453, H⟩ := H
           refine LP_indexw (v := .slice a282 (List.length (List.replicate (Int.toNat (wr (Int.tdiv (ln inx) x112.Levels))) false)) c283) 23 rfl rfl rfl Try.underlying155 ti_4 rfl rfl o373 hi452 hl453 fun a454 wa455 => ?_
           refine LP_set 24 rfl rfl rfl rfl rfl wa455 (Le.refl emp) ⟨_, rfl, rfl⟩ ex374 fun hx456 wx457 o458 ex459 y460 dm461 => ?_
           refine LP_end _ rfl ?_
           try refine W_forget [(0, sl a sx c), (1, sl a5 inx c6), (2, I vx7), (3, sl a12 sets c13), (4, .func (.func 139) #[] #[pb b19, pb b28, pb b37]), (10, I (ln sets)), (11, I (wr (Int.tdiv (ln inx) x112.Levels))), (13, I setx), (14, .slice a282 (List.length (List.replicate (Int.toNat (wr (Int.tdiv (ln inx) x112.Levels))) false)) c283), (15, .bool any), (16, I x289), (59, I (ln (List.replicate (Int.toNat (wr (Int.tdiv (ln inx) x112.Levels))) false))), (60, I x289), (70, I x362.Levels), (71, I x376), (81, I setx), (82, I x376), (83, I (shr .i64 setx x376)), (84, I (bits .and .i64 (shr .i64 setx x376) 1)), (85, .bool ((bits .and .i64 (shr .i64 setx x376) 1) == 0)), (86, .bool true), (95, .bool true)] ⟨rfl, rfl, rfl, rfl, rfl, rfl, rfl, rfl, rfl, rfl, rfl, rfl, rfl, rfl, rfl, rfl, rfl, rfl, rfl, rfl, rfl, rfl, trivial⟩ fun ρ => ?_
           have f463 := (dm461 _).fresh f375 X396.size
           exact ⟨List.set rest370 (Int.toNat x289) true, H, _, hx456, env_eq ⟨rfl, rfl, rfl, rfl, rfl, rfl, rfl, rfl, rfl, rfl, rfl, rfl, rfl, rfl, rfl, trivial⟩, (X396.step y460 (f375.dom _)), o458, ex459, f463, (ex378.but y460 d387), (ex379.but y460 d388), (ex380.but y460 d389), (ex381.but y460 d390), (ex382.but y460 d391), (ex383.but y460 d392), (ex384.but y460 d393), (ex385.but y460 d394), (ex386.but y460 d395), (DomLe.dj (dm461 _) d387 ex378), (DomLe.dj (dm461 _) d388 ex379), (DomLe.dj (dm461 _) d389 ex380), (DomLe.dj (dm461 _) d390 ex381), (DomLe.dj (dm461 _) d391 ex382), (DomLe.dj (dm461 _) d392 ex383), (DomLe.dj (dm461 _) d393 ex384), (DomLe.dj (dm461 _) d394 ex385), (DomLe.dj (dm461 _) d395 ex386)⟩
          have H := H.2 hc451
          refine LP_ev ok 13 [(87, sl a5 inx c6), (88, I x376), (89, I (wr (Int.tdiv (ln inx) x112.Levels))), (90, I (wr (x376 * (wr (Int.tdiv (ln inx) x112.Levels))))), (91, I x289), (92, I (wr ((wr (x376 * (wr (Int.tdiv (ln inx) x112.Levels)))) + x289)))] 19 rfl rfl ?_
          obtain ⟨x473, hi474, hx475, H⟩ := H
          refine LP_index 19 rfl rfl rfl Try.underlying155 ti_4 rfl rfl r3 hi474 hx475 fun a476 cs477 r478 d479 => ?_
          refine LP_load 20 rfl rfl rfl ti_4 ag_4 rfl r478 d479 ex379 fun vx480 r481 => ?_
          obtain rfl := r481.bool
          refine LP_ev ok 21 [(95, .bool x473), (96, .bool x473)] 23 rfl rfl ?_
          obtain ⟨hi482, hl483, H⟩ := H
          refine LP_indexw (v := .slice a282 (List.length (List.replicate (Int.toNat (wr (Int.tdiv (ln inx) x112.Levels))) false)) c283) 23 rfl rfl rfl Try.underlying155 ti_4 rfl rfl o373 hi482 hl483 fun a484 wa485 => ?_
          refine LP_set 24 rfl rfl rfl rfl rfl wa485 (Le.refl emp) ⟨_, rfl, rfl⟩ ex374 fun hx486 wx487 o488 ex489 y490 dm491 => ?_
          refine LP_end _ rfl ?_
          try refine W_forget [(0, sl a sx c), (1, sl a5 inx c6), (2, I vx7), (3, sl a12 sets c13), (4, .func (.func 139) #[] #[pb b19, pb b28, pb b37]), (10, I (ln sets)), (11, I (wr (Int.tdiv (ln inx) x112.Levels))), (13, I setx), (14, .slice a282 (List.length (List.replicate (Int.toNat (wr (Int.tdiv (ln inx) x112.Levels))) false)) c283), (15, .bool any), (16, I x289), (59, I (ln (List.replicate (Int.toNat (wr (Int.tdiv (ln inx) x112.Levels))) false))), (60, I x289), (70, I x362.Levels), (71, I x376), (81, I setx), (82, I x376), (83, I (shr .i64 setx x376)), (84, I (bits .and .i64 (shr .i64 setx x376) 1)), (85, .bool ((bits .and .i64 (shr .i64 setx x376) 1) == 0)), (86, .bool false), (87, sl a5 inx c6), (88, I x376), (89, I (wr (Int.tdiv (ln inx) x112.Levels))), (90, I (wr (x376 * (wr (Int.tdiv (ln inx) x112.Levels))))), (91, I x289), (92, I (wr ((wr (x376 * (wr (Int.tdiv (ln inx) x112.Levels)))) + x289))), (93, .pointer (some a476)), (94, .bool x473), (95, .bool x473)] ⟨rfl, rfl, rfl, rfl, rfl, rfl, rfl, rfl, rfl, rfl, rfl, rfl, rfl, rfl, rfl, rfl, rfl, rfl, rfl, rfl, rfl, rfl, rfl, rfl, rfl, rfl, rfl, rfl, rfl, rfl, trivial⟩ fun ρ => ?_
          have f493 := (dm491 _).fresh f375 X396.size
          exact ⟨List.set rest370 (Int.toNat x289) x473, H, _, hx486, env_eq ⟨rfl, rfl, rfl, rfl, rfl, rfl, rfl, rfl, rfl, rfl, rfl, rfl, rfl, rfl, rfl, trivial⟩, (X396.step y490 (f375.dom _)), o488, ex489, f493, (ex378.but y490 d387), (ex379.but y490 d388), (ex380.but y490 d389), (ex381.but y490 d390), (ex382.but y490 d391), (ex383.but y490 d392), (ex384.but y490 d393), (ex385.but y490 d394), (ex386.but y490 d395), (DomLe.dj (dm491 _) d387 ex378), (DomLe.dj (dm491 _) d388 ex379), (DomLe.dj (dm491 _) d389 ex380), (DomLe.dj (dm491 _) d390 ex381), (DomLe.dj (dm491 _) d391 ex382), (DomLe.dj (dm491 _) d392 ex383), (DomLe.dj (dm491 _) d393 ex384), (DomLe.dj (dm491 _) d394 ex385), (DomLe.dj (dm491 _) d395 ex386)⟩
         have H := H.2 hc449
         refine LP_ev ok 7 [(81, undef), (82, undef), (83, undef), (84, undef), (85, undef), (86, undef), (87, undef), (88, undef), (89, undef), (90, undef), (91, undef), (92, undef), (93, undef), (94, undef), (95, undef), (96, .bool false)] 23 rfl rfl ?_
         obtain ⟨hi503, hl504, H⟩ := H
         refine LP_indexw (v := .slice a282 (List.length (List.replicate (Int.toNat (wr (Int.tdiv (ln inx) x112.Levels))) false)) c283) 23 rfl rfl rfl Try.underlying155 ti_4 rfl rfl o373 hi503 hl504 fun a505 wa506 => ?_
         refine LP_set 24 rfl rfl rfl rfl rfl wa506 (Le.refl emp) ⟨_, rfl, rfl⟩ ex374 fun hx507 wx508 o509 ex510 y511 dm512 => ?_
         refine LP_end _ rfl ?_
         try refine W_forget [(0, sl a sx c), (1, sl a5 inx c6), (2, I vx7), (3, sl a12 sets c13), (4, .func (.func 139) #[] #[pb b19, pb b28, pb b37]), (10, I (ln sets)), (11, I (wr (Int.tdiv (ln inx) x112.Levels))), (13, I setx), (14, .slice a282 (List.length (List.replicate (Int.toNat (wr (Int.tdiv (ln inx) x112.Levels))) false)) c283), (15, .bool any), (16, I x289), (59, I (ln (List.replicate (Int.toNat (wr (Int.tdiv (ln inx) x112.Levels))) false))), (60, I x289), (70, I x362.Levels), (71, I x376)] ⟨rfl, rfl, rfl, rfl, rfl, rfl, rfl, rfl, rfl, rfl, rfl, rfl, rfl, rfl, rfl, trivial⟩ fun ρ => ?_
         have f514 := (dm512 _).fresh f375 X396.size
         exact ⟨List.set rest370 (Int.toNat x289) false, H, _, hx507, env_eq ⟨rfl, rfl, rfl, rfl, rfl, rfl, rfl, rfl, rfl, rfl, rfl, rfl, rfl, rfl, rfl, trivial⟩, (X396.step y511 (f375.dom _)), o509, ex510, f514, (ex378.but y511 d387), (ex379.but y511 d388), (ex380.but y511 d389), (ex381.but y511 d390), (ex382.but y511 d391), (ex383.but y511 d392), (ex384.but y511 d393), (ex385.but y511 d394), (ex386.but y511 d395), (DomLe.dj (dm512 _) d387 ex378), (DomLe.dj (dm512 _) d388 ex379), (DomLe.dj (dm512 _) d389 ex380), (DomLe.dj (dm512 _) d390 ex381), (DomLe.dj (dm512 _) d391 ex382), (DomLe.dj (dm512 _) d392 ex383), (DomLe.dj (dm512 _) d393 ex384), (DomLe.dj (dm512 _) d394 ex385), (DomLe.dj (dm512 _) d395 ex386)⟩
        rintro rest412 _ wx418 ⟨H, ρ, hx414, rfl, HF⟩
        revert HF
        refine bb9 fun X437 o415 ex416 f417 ex419 ex420 ex421 ex422 => ?_
        refine bb9 fun ex423 ex424 ex425 ex426 ex427 d428 d429 d430 => ?_
        refine bb6 fun d431 d432 d433 d434 d435 d436 => ?_
        subst hk439
        refine W_region ?_
        refine LP_ev ok 0 [(98, I (wr (x376 + 1))), (71, I (wr (x376 + 1)))] 2 rfl rfl ?_
        exact LP_end _ rfl ⟨(rest412, wr (x376 + 1)), ⟨H.1, _, hx414, env_eq ⟨rfl, rfl, rfl, rfl, rfl, rfl, rfl, rfl, rfl, rfl, rfl, rfl, rfl, rfl, rfl, trivial⟩, X437, o415, ex416, f417, ex419, ex420, ex421, ex422, ex423, ex424, ex425, ex426, ex427, d428, d429, d430, d431, d432, d433, d434, d435, d436⟩, H.2⟩
       have H := H.2 hc411
       refine W_exit ?_
       refine (if_pos rfl).mpr ?_
       refine W_region ?_
       refine LP_ev ok 0 [(99, .bool any), (100, .bool any)] 2 rfl rfl ?_
       refine LP_split 100 (any) rfl (fun hc524 => ?_) (fun hc524 => ?_)
       ·have H := H.1 hc524
        refine LP_ev ok 2 [(101, undef), (102, undef), (103, undef), (104, undef), (105, .bool true), (15, .bool true)] 8 rfl rfl ?_
        exact LP_end _ rfl ⟨(rest370, true), H, _, hx372, env_eq ⟨rfl, rfl, rfl, rfl, rfl, rfl, rfl, rfl, rfl, rfl, rfl, rfl, trivial⟩, X396, o373, ex374, f375, ex378, ex379, ex380, ex381, ex382, ex383, ex384, ex385, ex386, d387, d388, d389, d390, d391, d392, d393, d394, d395⟩
       have H := H.2 hc524
       refine LP_ev ok 2 [(101, .slice a282 (List.length (List.replicate (Int.toNat (wr (Int.tdiv (ln inx) x112.Levels))) false)) c283), (102, I x289)] 4 rfl rfl ?_
       obtain ⟨x525, hi526, hx527, H⟩ := H
       refine LP_index 4 rfl rfl rfl Try.underlying155 ti_4 rfl rfl o373.readf hi526 hx527 fun a528 cs529 r530 d531 => ?_
       refine LP_load 5 rfl rfl rfl ti_4 ag_4 rfl r530 d531 ex374 fun vx532 r533 => ?_
       obtain rfl := r533.bool
       refine LP_ev ok 6 [(105, .bool x525), (15, .bool x525)] 8 rfl rfl ?_
       exact LP_end _ rfl ⟨(rest370, x525), H, _, hx372, env_eq ⟨rfl, rfl, rfl, rfl, rfl, rfl, rfl, rfl, rfl, rfl, rfl, rfl, trivial⟩, X396, o373, ex374, f375, ex378, ex379, ex380, ex381, ex382, ex383, ex384, ex385, ex386, d387, d388, d389, d390, d391, d392, d393, d394, d395⟩
      rintro ⟨rest326, any332⟩ _ wx333 ⟨H, ρ, hx328, rfl, HF⟩
      revert HF
      refine bb9 fun X352 o329 ex330 f331 ex334 ex335 ex336 ex337 => ?_
      refine bb9 fun ex338 ex339 ex340 ex341 ex342 d343 d344 d345 => ?_
      refine bb6 fun d346 d347 d348 d349 d350 d351 => ?_
      subst hk354
      refine W_region ?_
      refine LP_ev ok 0 [(106, I (wr (x289 + 1))), (60, I (wr (x289 + 1)))] 2 rfl rfl ?_
      exact LP_end _ rfl ⟨(rest326, any332, wr (x289 + 1)), ⟨H.1, _, hx328, env_eq ⟨rfl, rfl, rfl, rfl, rfl, rfl, rfl, rfl, rfl, rfl, rfl, rfl, trivial⟩, X352, o329, ex330, f331, ex334, ex335, ex336, ex337, ex338, ex339, ex340, ex341, ex342, d343, d344, d345, d346, d347, d348, d349, d350, d351⟩, H.2⟩
     have H := H.2 hc325
     refine W_exit ?_
     refine (if_pos rfl).mpr ?_
     refine W_seq (W_region ?_)
     refine LP_ev ok 0 [(107, .bool any)] 1 rfl rfl ?_
     refine LP_end _ rfl ?_
     refine W_cond (any) rfl (fun hc534 => ?_) (fun hc534 => ?_)
     ·have H := H.1 hc534
      refine W_region ?_
      refine LP_ev ok 0 [(108, sl a sx c), (109, .slice a282 (List.length (List.replicate (Int.toNat (wr (Int.tdiv (ln inx) x112.Levels))) false)) c283), (110, I vx7), (111, sl a12 sets c13), (112, I setx)] 5 rfl rfl ?_
      refine LP_lit (α := Int) (g := emp) 5 (vs := [I setx]) (xs := [setx]) rfl rfl rfl Try.underlying31 ti_3 rfl rfl ⟨⟨_, rfl, rfl⟩, trivial⟩ rfl rfl fun hx535 vx536 wx537 x538 o539 ex540 f541 => ?_
      obtain ⟨a542, c543, rfl⟩ := o539.shape
      obtain ⟨hb545, H⟩ := H
      refine LP_appendS (α := Int) 6 rfl rfl rfl Try.underlying31 ti_3 rfl rfl rfl o157 (ex293.ext x538) o539.readf ex540 (by first | omega | (simp only [ln] at *; omega)) (by first | omega | (simp only [ln] at *; omega)) fun hx546 vx547 wx548 r553 o549 ex550 y551 dm552 d554 dr ex555 wd => ?_
      obtain ⟨a556, c557, rfl⟩ := o549.shape
      refine LP_ev ok 7 [(115, .func (.func 139) #[] #[pb b19, pb b28, pb b37])] 8 rfl rfl ?_
      have ex558 := (ex294.ext x538)
      have ex559 := (ex299.ext x538)
      have ex560 := (ex298.ext x538)
      have ex561 := (ex291.ext x538)
      have ex562 := (ex287.ext x538)
      have ex563 := (ex295.ext x538)
      have ex564 := (ex296.ext x538)
      have ex565 := (ex297.ext x538)
      have ex568 := (ex561.but y551 d180)
      have ex571 := (ex563.but y551 d182)
      have ex572 := (ex564.but y551 d183)
      have ex573 := (ex565.but y551 d184)
      refine LP_call 8 rfl rfl rfl cal_137 rfl (ih _ _ _ _ _ _ _ _ H.1 (Nat.lt_of_lt_of_le H.2 (Nat.le_of_lt_succ hm)) wx548 r ex568 o286.readf (ex562.but y551 d302.symm) o549 ex550 o162 (ex558.but y551 d192.symm) ex571 r24 ex572 ex573 o168 (ex559.but y551 d199.symm) (ex560.but y551 d185) (DomLe.dj dm552 d192.symm ex558) (DomLe.dj dm552 d199.symm ex559) (DomLe.dj dm552 d185 ex560) d200.symm d191 d198 (DomLe.dj dm552 d180 ex561) (DomLe.dj dm552 d302.symm ex562) (DomLe.dj dm552 d182 ex563) (DomLe.dj dm552 d183 ex564) (DomLe.dj dm552 d184 ex565) d186 d303.symm d188 d189 d190 d193 d308.symm d195 d196 d197 (Dj.box d59) d307.symm (Dj.box d61) (Dj.box d62) (Dj.box d63)) ?_
      rintro _ wx576 ⟨r566, r567, hx578, hx582, vx590, hx586, H, rfl, x577, HF⟩
      revert HF
      refine bb9 fun o579 ex580 dm581 o583 ex584 dm585 o587 ex588 => ?_
      refine bb8 fun dm589 ex591 d592 d593 d594 d595 d596 d597 => ?_
      obtain ⟨a598, c599, rfl⟩ := o587.shape
      obtain ⟨hx600, o601, l, d602⟩ := wd _ o579 (Dom.of dm581)
      have ex603 := Sub.le (Sub.un (ex555.but x577 (Dj.un_l d554.symm (Dj.un_l (Dom.dj dr d192.symm).symm (Dj.un_l (Dom.dj dr d199.symm).symm (Dom.dj dr d185).symm)))) ex580) l
      refine LP_end _ rfl ?_
      have X605 := (X309.stepx x538)
      have ex609 := (ex292.ext x538)
      have ex614 := (ex609.but y551 d181)
      exact ⟨(r566, r567), H, _, hx600, hx582, sl a598 r567 c599, hx586, env_eq ⟨rfl, rfl, rfl, rfl, rfl, rfl, rfl, rfl, trivial⟩, (((X309.stepx x538).step y551 (DomLe.dom D (f159 _))).step x577 (DomLe.un (DomLe.trans (DomLe.dom D (f159 _)) dm552 X605.size) (DomLe.un (DomLe.dom D64 (f164 _)) (DomLe.un f170 (DomLe.dom D66 single_dom))))), o601, ex603, (fun _ => DomLe.trans (f159 _) ((Dom.le d602 _)) (Nat.le_refl _)), o583, ex584, (fun _ => DomLe.trans (f164 _) ((dm585 _)) (Nat.le_refl _)), o587, ex588, (DomLe.trans (DomLe.un (DomLe.trans (DomLe.dom D (f159 _)) dm552 X605.size) (DomLe.un (DomLe.dom D64 (f164 _)) (DomLe.un f170 (DomLe.dom D66 single_dom)))) dm589 (X605.step y551 (DomLe.dom D (f159 _))).size), (ex568.but x577 (Dj.un_l (DomLe.dj dm552 d180 ex561) (Dj.un_l d186 (Dj.un_l d193 (Dj.box d59))))), (((ex292.ext x538).but y551 d181).but x577 (Dj.un_l (DomLe.dj dm552 d181 ex609) (Dj.un_l d187 (Dj.un_l d194 (Dj.box d60))))), (ex571.but x577 (Dj.un_l (DomLe.dj dm552 d182 ex563) (Dj.un_l d188 (Dj.un_l d195 (Dj.box d61))))), (ex572.but x577 (Dj.un_l (DomLe.dj dm552 d183 ex564) (Dj.un_l d189 (Dj.un_l d196 (Dj.box d62))))), (ex573.but x577 (Dj.un_l (DomLe.dj dm552 d184 ex565) (Dj.un_l d190 (Dj.un_l d197 (Dj.box d63))))), ex591, (Dom.dj (Dom.of_le l) (Dj.un_l (Dom.dj dr d180) (DomLe.dj (dm581 _) (DomLe.dj dm552 d180 ex561) ex568))), (Dom.dj (Dom.of_le l) (Dj.un_l (Dom.dj dr d181) (DomLe.dj (dm581 _) (DomLe.dj dm552 d181 ex609) ex614))), (Dom.dj (Dom.of_le l) (Dj.un_l (Dom.dj dr d182) (DomLe.dj (dm581 _) (DomLe.dj dm552 d182 ex563) ex571))), (Dom.dj (Dom.of_le l) (Dj.un_l (Dom.dj dr d183) (DomLe.dj (dm581 _) (DomLe.dj dm552 d183 ex564) ex572))), (Dom.dj (Dom.of_le l) (Dj.un_l (Dom.dj dr d184) (DomLe.dj (dm581 _) (DomLe.dj dm552 d184 ex565) ex573))), (Dom.dj (Dom.of_le l) (Dj.un_l (Dom.dj dr (Dj.box d185.symm).symm) d594)), (DomLe.dj (dm585 _) d186 ex568), (DomLe.dj (dm585 _) d187 ex614), (DomLe.dj (dm585 _) d188 ex571), (DomLe.dj (dm585 _) d189 ex572), (DomLe.dj (dm585 _) d190 ex573), d596, (Dom.dj (Dom.of_le l) (Dj.un_l (DomLe.dj (dm585 _) (Dom.dj dr d192.symm).symm ex555).symm d592)).symm, (DomLe.dj dm589 (Dj.un_l (DomLe.dj dm552 d180 ex561) (Dj.un_l d186 (Dj.un_l d193 (Dj.box d59)))) ex568), (DomLe.dj dm589 (Dj.un_l (DomLe.dj dm552 d181 ex609) (Dj.un_l d187 (Dj.un_l d194 (Dj.box d60)))) ex614), (DomLe.dj dm589 (Dj.un_l (DomLe.dj dm552 d182 ex563) (Dj.un_l d188 (Dj.un_l d195 (Dj.box d61)))) ex571), (DomLe.dj dm589 (Dj.un_l (DomLe.dj dm552 d183 ex564) (Dj.un_l d189 (Dj.un_l d196 (Dj.box d62)))) ex572), (DomLe.dj dm589 (Dj.un_l (DomLe.dj dm552 d184 ex565) (Dj.un_l d190 (Dj.un_l d197 (Dj.box d63)))) ex573), d597, (Dom.dj (Dom.of_le l) (Dj.un_l (DomLe.dj dm589 (Dj.un_l d554.symm (Dj.un_l (Dom.dj dr d192.symm).symm (Dj.un_l (Dom.dj dr d199.symm).symm (Dom.dj dr d185).symm))) ex555).symm d593)).symm, d595.symm⟩
     have H := H.2 hc534
     exact W_skip ⟨(mp160, x165), H, _, hx156, hx161, sl a177 x165 c178, hx167, env_eq ⟨rfl, rfl, rfl, rfl, rfl, rfl, rfl, rfl, trivial⟩, X309, o157, ex293, (fun _ => f159 _), o162, ex294, (fun _ => f164 _), o168, ex299, f170, ex291, ex292, ex295, ex296, ex297, ex298, d180, d181, d182, d183, d184, d185, d186, d187, d188, d189, d190, d191, d192, d193, d194, d195, d196, d197, d198, d199, d200⟩
    rintro ⟨mp231, x236⟩ _ wx242 ⟨H, ρ, hx227, hx232, vx237, hx238, rfl, HF⟩
    revert HF
    refine bb9 fun X272 o228 ex229 f230 o233 ex234 f235 o239 => ?_
    refine bb9 fun ex240 f241 ex243 ex244 ex245 ex246 ex247 ex250 => ?_
    refine bb9 fun d251 d252 d253 d254 d255 d256 d257 d258 => ?_
    refine bb9 fun d259 d260 d261 d262 d263 d264 d265 d266 => ?_
    refine bb5 fun d267 d268 d269 d270 d271 => ?_
    subst hk274
    obtain ⟨a248, c249, rfl⟩ := o239.shape
    refine W_region ?_
    refine LP_ev ok 0 [(54, I setx), (55, I (wr (setx + 1))), (13, I (wr (setx + 1)))] 3 rfl rfl ?_
    exact LP_end _ rfl ⟨(wr (setx + 1), mp231, x236), ⟨H.1, _, hx227, hx232, sl a248 x236 c249, hx238, env_eq ⟨rfl, rfl, rfl, rfl, rfl, rfl, rfl, rfl, trivial⟩, X272, o228, ex229, (fun _ => f230 _), o233, ex234, (fun _ => f235 _), o239, ex240, f241, ex243, ex244, ex245, ex246, ex247, ex250, d251, d252, d253, d254, d255, d256, d257, d258, d259, d260, d261, d262, d263, d264, d265, d266, d267, d268, d269, d270, d271⟩, H.2⟩
   have H := H.2 hc215
   refine W_exit ?_
   refine (if_pos rfl).mpr ?_
   subst hM
   exact ⟨_, Ret_of [] trivial, _, _, _, _, _, _, H, rfl, (X201.stepx x214), o157, (ex158.ext x214), (fun _ => f159 _), o162, (ex163.ext x214), (fun _ => f164 _), o168, (ex169.ext x214), f170, (ex179.ext x214), d192.symm, d199.symm, d185, d200.symm, d191, d198⟩
 exact key _ sx inx vx7 sets c14 c21 c30 Q H0 (Nat.lt_succ_self _) w r ex r3 ex4 r10 ex11 r17 ex18 ex20 r24 ex25 ex29 r33 ex34 ex38 d d39 d40 d41 d42 d43 d44 d45 d46 d47 d48 d49 d50 d51 d52 d53 d54 d55 d56 d57 d58 d59 d60 d61 d62 d63

theorem impl_canGrow_w (sx : List Variable) (implied : List (Int × Bool)) (ex5 : Edit) (Q : Bool → Prop) (H : impl_canGrow sx implied ex5 Q) (w : World) {vx : Value} {hx : PH} (r : RS hx vx sx) (ex : Sub hx w) {vx1 : Value} {hx2 : PH} (r3 : MO hx2 vx1 implied) (ex4 : Sub hx2 w) {vx6 : Value} {hx7 : PH} (r8 : RS hx7 vx6 ex5.Sets) (ex9 : Sub hx7 w) :
  CallsTo Try.prog 141 #[vx, vx1, .agg #[vx6]] w fun v w' => ∃ r0, Q r0 ∧ v = .bool r0 ∧ Ext w w' := by
 obtain ⟨a, c, rfl⟩ := r.shape
 obtain ⟨b, rfl⟩ := r3.shape
 obtain ⟨a10, c11, rfl⟩ := r8.shape
 refine enter (args := [sl a sx c, .map (some b), .agg #[sl a10 ex5.Sets c11]]) 59 Try.func141 rfl rfl rfl ?_
 refine W_forget [(0, sl a sx c), (1, .map (some b)), (2, .agg #[sl a10 ex5.Sets c11])] ⟨rfl, rfl, rfl, trivial⟩ fun ρ => ?_
 have X := But.refl emp w
 refine W_seq (W_region ?_)
 refine LP_box 0 (cs := [sl a10 ex5.Sets c11]) rfl rfl rfl rfl rfl fun b12 wx x ex13 f => ?_
 refine LP_ev ok 1 [(6, .bool false)] 2 rfl rfl ?_
 refine LP_end _ rfl (W_seq (W_region ?_))
 refine LP_ev ok 0 [(11, pb b12)] 1 rfl rfl ?_
 refine LP_ldbox 1 (v := sl a10 ex5.Sets c11) rfl rfl rfl ti_31 ag_31 (fun _ => rfl) rfl ex13 rfl rfl ?_
 refine LP_call 2 rfl rfl rfl cal_74 rfl (slices_Clone_int_int_w _ _ H wx r8 (ex9.ext x)) ?_
 rintro _ wx16 ⟨r14, vx18, hx19, H, rfl, x17, o, ex20, f21⟩
 obtain ⟨a22, c23, rfl⟩ := o.shape
 refine LP_ev ok 3 [(7, sl a22 r14 c23)] 4 rfl rfl ?_
 refine LP_end _ rfl (W_seq ?_)
 refine W_seq (W_region ?_)
 refine LP_ev ok 0 [(14, sl a22 r14 c23), (15, I (ln r14)), (16, I 0)] 3 rfl rfl ?_
 refine LP_end _ rfl ?_
 refine W_block ?_
 have xc := (x.trans x17)
 have f36 := f21.mono (X.stepx x).size
 obtain ⟨J, m, Hx, H⟩ := H
 refine W_loop (S := (List Int) × Int) (fun s ρ' w' => J s.1 s.2 ∧ ∃ (ρ : Env) (hx25 : PH), ρ' = setAll [(0, sl a sx c), (1, .map (some b)), (7, sl a22 r14 c23), (15, I (ln r14)), (16, I s.2)] ρ ∧ But emp w w' ∧ OS 3 hx25 emp (sl a22 r14 c23) s.1 ∧ Sub hx25 w' ∧ Fresh w.heap.size hx25 ∧ Sub hx w' ∧ Sub hx2 w' ∧ Dj hx25 hx ∧ Dj hx25 hx2) (fun s => m s.1 s.2) (r14, 0) ⟨Hx, _, hx19, env_eq ⟨rfl, rfl, rfl, rfl, rfl, trivial⟩, (X.stepx xc), o, ex20, f36, (ex.ext xc), (ex4.ext xc), (Dj.of_fresh (ex.ext x) f21).symm, (Dj.of_fresh (ex4.ext x) f21).symm⟩ ?_
 rintro ⟨sets, x29⟩ _ wx30 ⟨Hi, ρ, hx25, rfl, HF⟩
 revert HF
 refine bb8 fun X34 o26 ex27 f28 ex31 ex32 d d33 => ?_
 have H := H sets x29 Hi
 refine W_seq (W_region ?_)
 refine LP_ev ok 0 [(17, .bool (decide (x29 < (ln r14))))] 1 rfl rfl ?_
 refine LP_end _ rfl (W_seq ?_)
 refine W_cond (decide (x29 < (ln r14))) rfl (fun hc => ?_) (fun hc => ?_)
 ·have H := H.1 hc
  refine W_skip ?_
  refine W_seq ?_
  refine W_block ?_
  refine W_seq (W_region ?_)
  refine LP_ev ok 0 [(18, I x29), (8, I x29)] 2 rfl rfl ?_
  refine LP_end _ rfl (W_seq (W_region ?_))
  refine LP_ev ok 0 [(19, sl a sx c), (20, I x29)] 2 rfl rfl ?_
  obtain ⟨x42, hi, hx43, H⟩ := H
  refine LP_index 2 rfl rfl rfl Try.underlying24 ti_167 rfl rfl r hi hx43 fun a44 cs r45 d46 => ?_
  refine LP_ev ok 3 [(22, .pointer (some (Addr.add a44 1)))] 4 rfl rfl ?_
  refine LP_ldfld (x := x42) (off := 1) 4 (v := I x42.Levels) rfl rfl rfl ti_3 ag_3 (fun _ => rfl) rfl r45 d46 ex31 rfl rfl ?_
  refine LP_ev ok 5 [(24, I 0)] 6 rfl rfl ?_
  refine LP_end _ rfl ?_
  refine W_block ?_
  obtain ⟨J60, m61, Hx62, H⟩ := H
  refine W_loop (S := (List Int) × Int) (fun s ρ' w' => J60 s.1 s.2 ∧ ∃ (ρ : Env) (hx49 : PH), ρ' = setAll [(0, sl a sx c), (1, .map (some b)), (7, sl a22 r14 c23), (8, I x29), (15, I (ln r14)), (16, I x29), (23, I x42.Levels), (24, I s.2)] ρ ∧ But emp w w' ∧ OS 3 hx49 emp (sl a22 r14 c23) s.1 ∧ Sub hx49 w' ∧ Fresh w.heap.size hx49 ∧ Sub hx w' ∧ Sub hx2 w' ∧ Dj hx49 hx ∧ Dj hx49 hx2) (fun s => m61 s.1 s.2) (sets, 0) ⟨Hx62, _, hx25, env_eq ⟨rfl, rfl, rfl, rfl, rfl, rfl, rfl, rfl, trivial⟩, X34, o26, ex27, f28, ex31, ex32, d, d33⟩ ?_
  rintro ⟨sets47, x53⟩ _ wx54 ⟨Hi, ρ, hx49, rfl, HF⟩
  revert HF
  refine bb8 fun X59 o50 ex51 f52 ex55 ex56 d57 d58 => ?_
  have H := H sets47 x53 Hi
  refine W_seq (W_region ?_)
  refine LP_ev ok 0 [(25, .bool (decide (x53 < x42.Levels)))] 1 rfl rfl ?_
  refine LP_end _ rfl (W_seq ?_)
  refine W_cond (decide (x53 < x42.Levels)) rfl (fun hc64 => ?_) (fun hc64 => ?_)
  ·have H := H.1 hc64
   refine W_skip ?_
   obtain ⟨k, hk, H⟩ := jn_elim H
   refine W_join2 (S := (List Int)) (fun s ρ' w' => k s ∧ ∃ (ρ : Env) (hx67 : PH), ρ' = setAll [(0, sl a sx c), (1, .map (some b)), (7, sl a22 r14 c23), (8, I x29), (15, I (ln r14)), (16, I x29), (23, I x42.Levels), (24, I x53)] ρ ∧ But emp w w' ∧ OS 3 hx67 emp (sl a22 r14 c23) s ∧ Sub hx67 w' ∧ Fresh w.heap.size hx67 ∧ Sub hx w' ∧ Sub hx2 w' ∧ Dj hx67 hx ∧ Dj hx67 hx2) ?_ ?_
   ·refine W_block ?_
    refine W_seq (W_region ?_)
    refine LP_ev ok 0 [(26, I x53), (9, I x53)] 2 rfl rfl ?_
    refine LP_end _ rfl (W_seq ?_)
    refine W_seq (W_region ?_)
    refine LP_ev ok 0 [(27, sl a22 r14 c23), (28, I x29)] 2 rfl rfl ?_
    obtain ⟨x77, hi78, hx79, H⟩ := H
    refine LP_index 2 rfl rfl rfl Try.underlying31 ti_3 rfl rfl o50.readf hi78 hx79 fun a80 cs81 r82 d83 => ?_
    refine LP_load 3 rfl rfl rfl ti_3 ag_3 rfl r82 d83 ex51 fun vx84 r85 => ?_
    obtain rfl := r85.int
    refine LP_ev ok 4 [(31, I x53)] 5 rfl rfl ?_
    obtain ⟨hz, H⟩ := H
    refine LP_val 5 _ rfl rfl (ex_shr rfl rfl rfl hz _) ?_
    refine LP_ev ok 6 [(33, I (bits .and .i64 (shr .i64 x77 x53) 1)), (34, .bool ((bits .and .i64 (shr .i64 x77 x53) 1) == 1))] 8 rfl rfl ?_
    refine LP_end _ rfl ?_
    refine W_cond ((bits .and .i64 (shr .i64 x77 x53) 1) == 1) rfl (fun hc86 => ?_) (fun hc86 => ?_)
    ·have H := H.1 hc86
     refine W_exit ?_
     refine (if_pos rfl).mpr ?_
     exact ⟨sets47, H, _, hx49, env_eq ⟨rfl, rfl, rfl, rfl, rfl, rfl, rfl, rfl, trivial⟩, X59, o50, ex51, f52, ex55, ex56, d57, d58⟩
    have H := H.2 hc86
    refine W_skip ?_
    refine W_seq ?_
    refine W_open mix fun wx87 x88 => ?_
    refine AP_game 6 [[], [], [0, 1], [0, 1, 2], [], [4], [0, 1, 2, 3, 4, 5], [0, 1, 2, 3, 4, 5, 6], [0, 1, 2, 3, 4, 5, 6, 7]] [[(7, none)], [(8, none)], [(35, some 0), (36, some 1)], [(37, some 2)], [(9, none)], [(39, some 4)]] [(0, none), (1, none), (7, none), (8, none), (9, none), (15, none), (16, none), (23, none), (24, none), (35, some 0), (36, some 1), (38, some 3), (40, some 5)] [(0, false), (1, false), (2, false), (3, false), (4, false), (5, false)] (by kernel_rfl) (by kernel_rfl) ?_
    refine GS_ev ok [(7, sl a22 r14 c23)] (sl a22 r14 c23) rfl rfl (fun _ h => h) (fun _ => rfl) ?_
    refine GS_ev ok [(8, I x29)] (I x29) rfl rfl (fun _ h => h) (fun _ => rfl) ?_
    obtain ⟨x89, hi90, hx91, H⟩ := H
    obtain ⟨a92, cs93, hx96, r94, d95⟩ := run_indexAt Try.underlying31 ti_3 o50.readf .i64 _ x89 hi90 hx91
    refine GS_r0 [(35, sl a22 r14 c23), (36, I x29)] (.pointer (some a92)) rfl rfl (fun _ h => h) (fun _ _ => ex_index rfl rfl rfl (hx96 _)) ?_
    obtain ⟨vx97, hx99, r98⟩ := run_loadAt ti_3 ag_3 r94 d95
    obtain rfl := r98.int
    have ex100 := (ex51.ext x88)
    refine GS_r1 [(37, .pointer (some a92))] (I x89) rfl rfl (fun _ h => h) (fun _ w e => ex_load rfl rfl (hx99 w e)) ex100 ?_
    refine GS_ev ok [(9, I x53)] (I x53) rfl rfl (fun _ h => h) (fun _ => rfl) ?_
    obtain ⟨hz101, H⟩ := H
    refine GS_r0 [(39, I x53)] (I (shl .i64 1 x53)) rfl rfl (fun _ h => h) (fun _ _ => ex_shl rfl rfl rfl hz101 _) ?_
    intro wx102 x103 ρ hn
    refine AP_forget [(0, sl a sx c), (1, .map (some b)), (7, sl a22 r14 c23), (8, I x29), (9, I x53), (15, I (ln r14)), (16, I x29), (23, I x42.Levels), (24, I x53), (35, sl a22 r14 c23), (36, I x29), (38, I x89), (40, I (shl .i64 1 x53))] (by exact hn) fun ρ => ?_
    refine AP_tail 6 [[], [], [0, 1], [0, 1, 2], [], [4], [0, 1, 2, 3, 4, 5], [0, 1, 2, 3, 4, 5, 6], [0, 1, 2, 3, 4, 5, 6, 7]] (by kernel_rfl) ?_
    refine LP_ev ok 6 [(41, I (bits .or .i64 x89 (shl .i64 1 x53)))] 7 rfl rfl ?_
    obtain ⟨hi104, hl, H⟩ := H
    refine LP_indexw (v := sl a22 r14 c23) 7 rfl rfl rfl Try.underlying31 ti_3 rfl rfl o50 hi104 hl fun a105 wa => ?_
    refine LP_set 8 rfl rfl rfl rfl rfl wa (Le.refl emp) ⟨_, rfl, rfl⟩ (ex100.ext x103) fun hx106 wx107 o108 ex109 y dm => ?_
    refine LP_end _ rfl (W_seq (W_region ?_))
    refine LP_ev ok 0 [(43, .map (some b)), (44, sl a sx c), (45, sl a22 r14 c23)] 3 rfl rfl ?_
    have xc112 := (x88.trans x103)
    have ex113 := ((ex55.ext xc112).but y d57)
    refine LP_call 3 rfl rfl rfl cal_140 rfl (impl_editKey_w _ _ _ H wx107 r ex113 o108.readf ex109) ?_
    rintro _ wx114 ⟨r111, H, rfl, x115⟩
    have ex116 := (((ex56.ext xc112).but y d58).ext x115)
    refine LP_val 4 _ (v := .bool (mget implied r111 false)) rfl rfl (ex_mget (d := false) rfl Try.underlying153 Try.underlying3 ti_4 rfl rfl rfl r3 _ ex116) ?_
    refine LP_ev ok 5 [(10, .bool (mget implied r111 false))] 6 rfl rfl ?_
    refine LP_end _ rfl (W_seq ?_)
    refine W_open mix fun wx117 x118 => ?_
    refine AP_game 6 [[], [], [0, 1], [0, 1, 2], [], [4], [0, 1, 2, 3, 4, 5], [0, 1, 2, 3, 4, 5, 6], [0, 1, 2, 3, 4, 5, 6, 7]] [[(7, none)], [(8, none)], [(48, some 0), (49, some 1)], [(50, some 2)], [(9, none)], [(52, some 4)]] [(0, none), (1, none), (7, none), (8, none), (10, none), (15, none), (16, none), (23, none), (24, none), (48, some 0), (49, some 1), (51, some 3), (53, some 5)] [(0, false), (1, false), (2, false), (3, false), (4, false), (5, false)] (by kernel_rfl) (by kernel_rfl) ?_
    refine GS_ev ok [(7, sl a22 r14 c23)] (sl a22 r14 c23) rfl rfl (fun _ h => h) (fun _ => rfl) ?_
    refine GS_ev ok [(8, I x29)] (I x29) rfl rfl (fun _ h => h) (fun _ => rfl) ?_
    obtain ⟨x119, hi120, hx121, H⟩ := H
    obtain ⟨a122, cs123, hx126, r124, d125⟩ := run_indexAt Try.underlying31 ti_3 o108.readf .i64 _ x119 hi120 hx121
    refine GS_r0 [(48, sl a22 r14 c23), (49, I x29)] (.pointer (some a122)) rfl rfl (fun _ h => h) (fun _ _ => ex_index rfl rfl rfl (hx126 _)) ?_
    obtain ⟨vx127, hx129, r128⟩ := run_loadAt ti_3 ag_3 r124 d125
    obtain rfl := r128.int
    have xc130 := (x115.trans x118)
    have ex131 := (ex109.ext xc130)
    refine GS_r1 [(50, .pointer (some a122))] (I x119) rfl rfl (fun _ h => h) (fun _ w e => ex_load rfl rfl (hx129 w e)) ex131 ?_
    refine GS_ev ok [(9, I x53)] (I x53) rfl rfl (fun _ h => h) (fun _ => rfl) ?_
    obtain ⟨hz132, H⟩ := H
    refine GS_r0 [(52, I x53)] (I (shl .i64 1 x53)) rfl rfl (fun _ h => h) (fun _ _ => ex_shl rfl rfl rfl hz132 _) ?_
    intro wx133 x134 ρ hn135
    refine AP_forget [(0, sl a sx c), (1, .map (some b)), (7, sl a22 r14 c23), (8, I x29), (10, .bool (mget implied r111 false)), (15, I (ln r14)), (16, I x29), (23, I x42.Levels), (24, I x53), (48, sl a22 r14 c23), (49, I x29), (51, I x119), (53, I (shl .i64 1 x53))] (by exact hn135) fun ρ => ?_
    refine AP_tail 6 [[], [], [0, 1], [0, 1, 2], [], [4], [0, 1, 2, 3, 4, 5], [0, 1, 2, 3, 4, 5, 6], [0, 1, 2, 3, 4, 5, 6, 7]] (by kernel_rfl) ?_
    refine LP_ev ok 6 [(54, I (bits .andNot .i64 x119 (shl .i64 1 x53)))] 7 rfl rfl ?_
    obtain ⟨hi136, hl137, H⟩ := H
    refine LP_indexw (v := sl a22 r14 c23) 7 rfl rfl rfl Try.underlying31 ti_3 rfl rfl o108 hi136 hl137 fun a138 wa139 => ?_
    refine LP_set 8 rfl rfl rfl rfl rfl wa139 (Le.refl emp) ⟨_, rfl, rfl⟩ (ex131.ext x134) fun hx140 wx141 o142 ex143 y144 dm145 => ?_
    refine LP_end _ rfl (W_seq (W_region ?_))
    refine LP_ev ok 0 [(56, .bool (mget implied r111 false))] 1 rfl rfl ?_
    refine LP_end _ rfl ?_
    refine W_cond (mget implied r111 false) rfl (fun hc147 => ?_) (fun hc147 => ?_)
    ·have H := H.1 hc147
     refine W_seq (W_region ?_)
     refine LP_ev ok 0 [(6, .bool true)] 1 rfl rfl ?_
     refine LP_end _ rfl (W_ret ?_)
     have f149 := (dm _).fresh f52 (X59.stepx xc112).size
     exact ⟨_, Ret_of [.bool true] ⟨⟨rfl, rfl⟩, trivial⟩, _, H, rfl, ((((X59.stepx xc112).step y (f52.dom _)).stepx (xc130.trans x134)).step y144 (f149.dom _)).ext⟩
    have H := H.2 hc147
    refine W_skip ?_
    have xc152 := (xc130.trans x134)
    have X154 := (X59.stepx xc112)
    have f153 := (dm _).fresh f52 X154.size
    have f156 := (dm145 _).fresh f153 ((X154.step y (f52.dom _)).stepx xc152).size
    have ex158 := (ex55.ext xc112)
    have xc160 := (x118.trans x134)
    have ex161 := (ex56.ext xc112)
    exact ⟨List.set (List.set sets47 (Int.toNat x29) (bits .or .i64 x89 (shl .i64 1 x53))) (Int.toNat x29) (bits .andNot .i64 x119 (shl .i64 1 x53)), H, _, hx140, env_eq ⟨rfl, rfl, rfl, rfl, rfl, rfl, rfl, rfl, trivial⟩, ((((X59.stepx xc112).step y (f52.dom _)).stepx xc152).step y144 (f153.dom _)), o142, ex143, f156, ((ex113.ext xc152).but y144 (DomLe.dj (dm _) d57 ex158)), ((ex116.ext xc160).but y144 (DomLe.dj (dm _) d58 ex161)), (DomLe.dj (dm145 _) (DomLe.dj (dm _) d57 ex158) (ex113.ext xc152)), (DomLe.dj (dm145 _) (DomLe.dj (dm _) d58 ex161) (ex116.ext xc160))⟩
   rintro sets65 _ wx71 ⟨H, ρ, hx67, rfl, HF⟩
   revert HF
   refine bb8 fun X76 o68 ex69 f70 ex72 ex73 d74 d75 => ?_
   subst hk
   refine W_region ?_
   refine LP_ev ok 0 [(57, I (wr (x53 + 1))), (24, I (wr (x53 + 1)))] 2 rfl rfl ?_
   exact LP_end _ rfl ⟨(sets65, wr (x53 + 1)), ⟨H.1, _, hx67, env_eq ⟨rfl, rfl, rfl, rfl, rfl, rfl, rfl, rfl, trivial⟩, X76, o68, ex69, f70, ex72, ex73, d74, d75⟩, H.2⟩
  have H := H.2 hc64
  refine W_exit ?_
  refine (if_pos rfl).mpr ?_
  refine W_region ?_
  refine LP_ev ok 0 [(58, I (wr (x29 + 1))), (16, I (wr (x29 + 1)))] 2 rfl rfl ?_
  exact LP_end _ rfl ⟨(sets47, wr (x29 + 1)), ⟨H.1, _, hx49, env_eq ⟨rfl, rfl, rfl, rfl, rfl, trivial⟩, X59, o50, ex51, f52, ex55, ex56, d57, d58⟩, H.2⟩
 have H := H.2 hc
 refine W_exit ?_
 refine (if_pos rfl).mpr ?_
 refine W_seq (W_region ?_)
 refine LP_ev ok 0 [(6, .bool false)] 1 rfl rfl ?_
 refine LP_end _ rfl (W_ret ?_)
 exact ⟨_, Ret_of [.bool false] ⟨⟨rfl, rfl⟩, trivial⟩, _, H, rfl, X34.ext⟩

theorem impl_maximalEdits_w (sx : List Variable) (l : List Edit) (vx7 : Int) (Q : (List Edit) → Prop) (H : impl_maximalEdits sx l vx7 Q) (w : World) {vx : Value} {hx : PH} (r : RS hx vx sx) (ex : Sub hx w) {vx1 : Value} {hx2 : PH} (r3 : RS hx2 vx1 l) (ex4 : Sub hx2 w) :
  CallsTo Try.prog 64 #[vx, vx1, I vx7] w fun v w' => ∃ r0 u0 g0, Q r0 ∧ v = u0 ∧ Ext w w' ∧ OD g0 u0 r0 ∧ Sub g0 w' ∧ Fresh w.heap.size g0 := by
 obtain ⟨a, c, rfl⟩ := r.shape
 obtain ⟨a5, c6, rfl⟩ := r3.shape
 refine enter (args := [sl a sx c, sl a5 l c6, I vx7]) 37 Try.func64 rfl rfl rfl ?_
 refine W_forget [(0, sl a sx c), (1, sl a5 l c6), (2, I vx7)] ⟨rfl, rfl, rfl, trivial⟩ fun ρ => ?_
 have X := But.refl emp w
 refine W_seq (W_region ?_)
 refine LP_box 0 (cs := [sl a sx c]) rfl rfl rfl rfl rfl fun b wx x ex8 f => ?_
 refine LP_ev ok 1 [(6, .slice none 0 0)] 2 rfl rfl ?_
 refine LP_end _ rfl (W_seq (W_region ?_))
 refine LP_mkmap (α := Bool) 0 rfl rfl rfl fun b9 hx10 wx11 x12 o ex13 f14 => ?_
 refine LP_alloc 1 rfl rfl rfl ti_153 rfl fun b15 wx16 x17 ex18 f19 => ?_
 refine LP_stbox 2 (vs := [.map (some b9)]) (cs' := [.map (some b9)]) rfl rfl rfl ti_153 rfl rfl rfl rfl rfl ex18 rfl rfl fun wx20 ex21 y => ?_
 refine LP_end _ rfl (W_seq (W_region ?_))
 refine LP_alloc 0 rfl rfl rfl ti_25 rfl fun b22 wx23 x24 ex25 f26 => ?_
 refine LP_end _ rfl (W_seq ?_)
 refine W_open mix fun wx27 x28 => ?_
 refine AP_game 6 [[], [], [], [1, 2], [], [], [0, 1, 2, 3, 4, 5]] [[(3, none)], [(3, none)], [(1, none)], [(14, some 1), (15, some 2)], [(2, none)], [(3, none), (7, none), (8, none)]] [(3, none), (7, none), (8, none), (13, some 0), (16, some 3), (17, some 4), (18, some 5)] [(0, false), (1, false), (2, false), (4, false), (5, false), (3, true)] (by kernel_rfl) (by kernel_rfl) ?_
 have ex29 := (ex8.ext x12)
 have xc30 := (x24.trans x28)
 have ex31 := (((ex8.ext (x12.trans x17)).but y (Dj.of_fresh ex29 f19).symm).ext xc30)
 refine GS_r1 [(3, pb b)] (sl a sx c) rfl rfl (fun _ h => h) (fun _ w e => ex_ldbox rfl ti_24 ag_24 (fun _ => rfl) rfl e rfl rfl) ex31 ?_
 refine GS_r1 [(3, pb b)] (sl a sx c) rfl rfl (fun _ h => h) (fun _ w e => ex_ldbox rfl ti_24 ag_24 (fun _ => rfl) rfl e rfl rfl) ex31 ?_
 refine GS_ev ok [(1, sl a5 l c6)] (sl a5 l c6) rfl rfl (fun _ h => h) (fun _ => rfl) ?_
 refine GS_ev ok [(2, I vx7)] (I vx7) rfl rfl (fun _ h => h) (fun _ => rfl) ?_
 refine GS_ev ok [(3, pb b), (7, pb b15), (8, pb b22)] (.func (.func 139) #[] #[pb b15, pb b, pb b22]) rfl rfl (fun _ h => h) (fun _ => rfl) ?_
 refine GS_lp [(14, sl a sx c), (15, sl a5 l c6)] rfl rfl (fun _ h => h) rfl fun ρ wx32 x33 => ?_
 have xc35 := ((x.trans x12).trans x17)
 have xc36 := (x.trans x12)
 have ex37 := (ex.ext xc36)
 have xc38 := (xc30.trans x33)
 have ex39 := (((ex.ext xc35).but y (Dj.of_fresh ex37 f19).symm).ext xc38)
 refine LP_call 0 rfl rfl rfl cal_138 rfl (impl_failing_w _ _ _ H wx32 r ex39 r3 (((ex4.ext xc35).but y (Dj.of_fresh (ex4.ext xc36) f19).symm).ext xc38)) ?_
 rintro _ wx42 ⟨r34, vx44, hx45, H, rfl, x43, o46, ex47, f48⟩
 obtain ⟨a49, c50, rfl⟩ := o46.shape
 have xc51 := (x33.trans x43)
 refine LP_gs ⟨⟨.inl rfl, .inr (ex31.ext xc51), trivial⟩, ?_⟩
 intro wx53 x54 ρ hn
 refine AP_forget [(3, pb b), (7, pb b15), (8, pb b22), (13, sl a sx c), (16, sl a49 r34 c50), (17, I vx7), (18, .func (.func 139) #[] #[pb b15, pb b, pb b22])] (by exact hn) fun ρ => ?_
 refine AP_tail 6 [[], [], [], [1, 2], [], [], [0, 1, 2, 3, 4, 5]] (by kernel_rfl) ?_
 have ex55 := ((ex13.ext x17).but y (Dj.of_fresh ex13 f19).symm)
 have ex56 := (ex.ext x)
 have ex57 := (ex55.ext xc38)
 have ex58 := ((ex37.ext x17).but y (Dj.of_fresh ex37 f19).symm)
 have ex60 := (ex25.ext (x28.trans x33))
 have ex61 := ((ex29.ext x17).but y (Dj.of_fresh ex29 f19).symm)
 have xc64 := (x43.trans x54)
 have ex65 := (ex39.ext xc64)
 have xc68 := ((((x24.trans x28).trans x33).trans x43).trans x54)
 have ex69 := (ex21.ext xc68)
 have ex71 := (ex31.ext (xc51.trans x54))
 refine LP_call 6 rfl rfl rfl cal_137 rfl (impl_impliedIn_impl_maximalEdits_1_w _ _ _ _ _ _ _ _ H wx53 r ex65 o46.readf (ex47.ext x54) (OS.nil (E := 3) (g := emp)) (emp_sub _) o (ex57.ext xc64) ex69 r ex65 ex71 (OD.nil (α := Edit)) (emp_sub _) (ex60.ext xc64) (Dj.emp_l _) (Dj.emp_l _) (Dj.emp_l _) (Dj.emp_r _) (Dj.of_fresh ex55 f26) (Dj.emp_l _) (Dj.emp_l _) (Dj.emp_l _) (Dj.emp_l _) (Dj.emp_l _) (Dj.emp_l _) (Dj.of_fresh ex56 f14).symm (Dj.of_fresh ex57 f48) (Dj.box (Dj.of_fresh ex13 f19).symm).symm (Dj.of_fresh ex56 f14).symm (Dj.of_fresh ex8 f14).symm (Dj.emp_l _) (Dj.emp_l _) (Dj.emp_l _) (Dj.emp_l _) (Dj.emp_l _) (Dj.of_fresh ex58 f26).symm (Dj.of_fresh ex60 f48) (Dj.of_fresh ex21 f26).symm (Dj.of_fresh ex58 f26).symm (Dj.of_fresh ex61 f26).symm) ?_
 rintro _ wx73 ⟨r62, r63, hx75, hx78, vx86, hx82, H, rfl, x74, HF⟩
 revert HF
 refine bb9 fun o76 ex77 dm o79 ex80 dm81 o83 ex84 => ?_
 refine bb8 fun dm85 ex87 d d88 d89 d90 d91 d92 => ?_
 obtain ⟨a93, c94, rfl⟩ := o83.shape
 refine LP_end _ rfl (W_seq (W_region ?_))
 refine LP_ev ok 0 [(9, .slice none 0 0)] 1 rfl rfl ?_
 refine LP_end _ rfl (W_seq ?_)
 refine W_seq (W_region ?_)
 refine LP_ldbox 0 (v := sl a93 r63 c94) rfl rfl rfl ti_25 ag_25 (fun _ => rfl) rfl ex87 rfl rfl ?_
 refine LP_ev ok 1 [(21, I (ln r63)), (22, I 0)] 3 rfl rfl ?_
 refine LP_end _ rfl ?_
 refine W_block ?_
 have X123 := (X.stepx xc36)
 have f122 := f19.mono X123.size
 have f124 := f14.mono (X.stepx x).size
 have X127 := ((X123.stepx x17).step y (f122.dom _))
 have f126 := f26.mono X127.size
 have f129 := DomLe.fresh dm85 (Fresh.un (emp_fresh _) (Fresh.un f124 (Fresh.un (emp_fresh _) f126))) (X127.stepx xc68).size
 obtain ⟨J, m, Hx, H⟩ := H
 refine W_loop (S := (List Edit) × Int) (fun s ρ' w' => J s.1 s.2 ∧ ∃ (ρ : Env) (vx95 : Value) (hx96 : PH) (hx100 : PH), ρ' = setAll [(3, pb b), (7, pb b15), (9, vx95), (20, sl a93 r63 c94), (21, I (ln r63)), (22, I s.2)] ρ ∧ But emp w w' ∧ OD hx96 vx95 s.1 ∧ Sub hx96 w' ∧ Fresh w.heap.size hx96 ∧ DR hx100 (sl a93 r63 c94) r63 (Int.toNat s.2) ∧ Sub hx100 w' ∧ Fresh w.heap.size hx100 ∧ Sub hx w' ∧ Sub (bx b 24 [sl a sx c]) w' ∧ Sub hx78 w' ∧ Sub (bx b15 153 [.map (some b9)]) w' ∧ Dj hx96 hx ∧ Dj hx96 (bx b 24 [sl a sx c]) ∧ Dj hx96 hx78 ∧ Dj hx96 (bx b15 153 [.map (some b9)]) ∧ Dj hx100 hx ∧ Dj hx100 (bx b 24 [sl a sx c]) ∧ Dj hx100 hx78 ∧ Dj hx100 (bx b15 153 [.map (some b9)]) ∧ Dj hx100 hx96) (fun s => m s.1 s.2) ([], 0) ⟨Hx, _, .slice none 0 0, emp, hx82, env_eq ⟨rfl, rfl, rfl, rfl, rfl, rfl, trivial⟩, ((((X.stepx xc35).step y (f122.dom _)).stepx xc68).step x74 (DomLe.un (fun _ _ _ => rfl) (DomLe.un (f124.dom _) (DomLe.un (fun _ _ _ => rfl) (f126.dom _))))), OD.nil, (emp_sub _), (emp_fresh _), (OD.drain o83), ex84, f129, (ex65.but x74 (Dj.un_l (Dj.emp_l _) (Dj.un_l (Dj.of_fresh ex56 f14).symm (Dj.un_l (Dj.emp_l _) (Dj.of_fresh ex58 f26).symm)))), (ex71.but x74 (Dj.un_l (Dj.emp_l _) (Dj.un_l (Dj.of_fresh ex8 f14).symm (Dj.un_l (Dj.emp_l _) (Dj.of_fresh ex61 f26).symm)))), ex80, (ex69.but x74 (Dj.un_l (Dj.emp_l _) (Dj.un_l (Dj.box (Dj.of_fresh ex13 f19).symm).symm (Dj.un_l (Dj.emp_l _) (Dj.of_fresh ex21 f26).symm)))), (fun _ => .inl rfl), (fun _ => .inl rfl), (fun _ => .inl rfl), (fun _ => .inl rfl), (DomLe.dj dm85 (Dj.un_l (Dj.emp_l _) (Dj.un_l (Dj.of_fresh ex56 f14).symm (Dj.un_l (Dj.emp_l _) (Dj.of_fresh ex58 f26).symm))) ex65), (DomLe.dj dm85 (Dj.un_l (Dj.emp_l _) (Dj.un_l (Dj.of_fresh ex8 f14).symm (Dj.un_l (Dj.emp_l _) (Dj.of_fresh ex61 f26).symm))) ex71), d90.symm, (DomLe.dj dm85 (Dj.un_l (Dj.emp_l _) (Dj.un_l (Dj.box (Dj.of_fresh ex13 f19).symm).symm (Dj.un_l (Dj.emp_l _) (Dj.of_fresh ex21 f26).symm))) ex69), (fun _ => .inr rfl)⟩ ?_
 rintro ⟨out, x104⟩ _ wx105 ⟨Hi, ρ, vx95, hx96, hx100, rfl, HF⟩
 revert HF
 refine bb9 fun X121 o97 ex98 f99 o101 ex102 f103 ex106 => ?_
 refine bb9 fun ex107 ex108 ex109 d112 d113 d114 d115 d116 => ?_
 refine bb4 fun d117 d118 d119 d120 => ?_
 have H := H out x104 Hi
 obtain ⟨a110, c111, rfl⟩ := o97.shape
 refine W_seq (W_region ?_)
 refine LP_ev ok 0 [(23, .bool (decide (x104 < (ln r63))))] 1 rfl rfl ?_
 refine LP_end _ rfl (W_seq ?_)
 refine W_cond (decide (x104 < (ln r63))) rfl (fun hc => ?_) (fun hc => ?_)
 ·have H := H.1 hc
  refine W_skip ?_
  obtain ⟨k, hk, H⟩ := jn_elim H
  refine W_join2 (S := (List Edit)) (fun s ρ' w' => k s ∧ ∃ (ρ : Env) (vx142 : Value) (hx143 : PH) (hx147 : PH), ρ' = setAll [(3, pb b), (7, pb b15), (9, vx142), (20, sl a93 r63 c94), (21, I (ln r63)), (22, I x104)] ρ ∧ But emp w w' ∧ OD hx143 vx142 s ∧ Sub hx143 w' ∧ Fresh w.heap.size hx143 ∧ DR hx147 (sl a93 r63 c94) r63 (Int.toNat (wr (x104 + 1))) ∧ Sub hx147 w' ∧ Fresh w.heap.size hx147 ∧ Sub hx w' ∧ Sub (bx b 24 [sl a sx c]) w' ∧ Sub hx78 w' ∧ Sub (bx b15 153 [.map (some b9)]) w' ∧ Dj hx143 hx ∧ Dj hx143 (bx b 24 [sl a sx c]) ∧ Dj hx143 hx78 ∧ Dj hx143 (bx b15 153 [.map (some b9)]) ∧ Dj hx147 hx ∧ Dj hx147 (bx b 24 [sl a sx c]) ∧ Dj hx147 hx78 ∧ Dj hx147 (bx b15 153 [.map (some b9)]) ∧ Dj hx147 hx143) ?_ ?_
  ·refine W_block ?_
   refine W_seq (W_region ?_)
   obtain ⟨x168, hi, hx169, H⟩ := H
   refine LP_indexT (v := sl a93 r63 c94) 0 rfl rfl rfl Try.underlying25 ti_33 rfl rfl o101 hi hx169 fun a170 c171 hx172 hx173 r174 ow o175 d176 l177 l178 => ?_
   have ex179 := Sub.le ex102 l177
   have ex180 := Sub.le ex102 l178
   obtain ⟨u, rfl, o181⟩ := Edit_tk ow
   obtain ⟨a182, c183, rfl⟩ := o181.shape
   have o184 : OS 3 hx172 emp (sl a182 x168.Sets c183) x168.Sets := OD.flat o181
   refine LP_ldpart (off := 0) 1 (v := .agg #[sl a182 x168.Sets c183]) rfl rfl rfl ti_33 ag_33 (fun h => by cases h) rfl r174 ex180 rfl rfl ?_
   refine LP_alloc 2 rfl rfl rfl ti_33 rfl fun b185 wx186 x187 ex188 f189 => ?_
   refine LP_stbox 3 (vs := [sl a182 x168.Sets c183]) (cs' := [sl a182 x168.Sets c183]) rfl rfl rfl ti_33 rfl rfl rfl rfl rfl ex188 rfl rfl fun wx190 ex191 y192 => ?_
   refine LP_end _ rfl (W_seq (W_region ?_))
   have ex193 := ((ex107.ext x187).but y192 (Dj.of_fresh ex107 f189).symm)
   refine LP_ldbox 0 (v := sl a sx c) rfl rfl rfl ti_24 ag_24 (fun _ => rfl) rfl ex193 rfl rfl ?_
   have ex194 := ((ex109.ext x187).but y192 (Dj.of_fresh ex109 f189).symm)
   refine LP_ldbox 1 (v := .map (some b9)) rfl rfl rfl ti_153 ag_153 (fun _ => rfl) rfl ex194 rfl rfl ?_
   refine LP_ldbox 2 (v := .agg #[sl a182 x168.Sets c183]) rfl rfl rfl ti_33 ag_33 (fun h => by cases h) rfl ex191 rfl rfl ?_
   have ex196 := ((ex106.ext x187).but y192 (Dj.of_fresh ex106 f189).symm)
   have ex197 := ((ex108.ext x187).but y192 (Dj.of_fresh ex108 f189).symm)
   have ex198 := ((ex179.ext x187).but y192 (Dom.dj (Dom.of_le l177) (Dj.of_fresh ex102 f189)).symm)
   refine LP_call 3 rfl rfl rfl cal_141 rfl (impl_canGrow_w _ _ _ _ H wx190 r ex196 o79 ex197 o184.readf ex198) ?_
   rintro _ wx199 ⟨r195, H, rfl, x200⟩
   refine LP_ev ok 4 [(30, .bool (!r195))] 5 rfl rfl ?_
   refine LP_end _ rfl ?_
   refine W_cond (!r195) rfl (fun hc201 => ?_) (fun hc201 => ?_)
   ·have H := H.1 hc201
    refine W_region ?_
    refine LP_ev ok 0 [(31, sl a110 out c111)] 1 rfl rfl ?_
    refine LP_ldbox 1 (v := .agg #[sl a182 x168.Sets c183]) rfl rfl rfl ti_33 ag_33 (fun h => by cases h) rfl (ex191.ext x200) rfl rfl ?_
    have rv : RVO hx172 (.agg #[sl a182 x168.Sets c183]) ((Edit.mk x168.Sets) : Edit) := ⟨_, ⟨_, rfl, (OS.od o184)⟩, rfl⟩
    refine LP_litD (α := Edit) 2 (vs := [.agg #[sl a182 x168.Sets c183]]) (xs := [((Edit.mk x168.Sets) : Edit)]) rfl rfl rfl Try.underlying25 ti_33 rfl rfl (allO.one rv) (ex198.ext x200) rfl rfl fun hx204 vx205 wx206 x207 o208 ex209 dm210 => ?_
    obtain ⟨a211, c212, rfl⟩ := o208.shape
    have xc213 := (x200.trans x207)
    obtain ⟨hb, H⟩ := H
    refine LP_appendD (α := Edit) 3 rfl rfl rfl Try.underlying25 ti_33 rfl rfl rfl o97 (((ex98.ext x187).but y192 (Dj.of_fresh ex98 f189).symm).ext xc213) o208 ex209 (DomLe.dj dm210 (Dom.dj (Dom.of_le l177) d120) (((ex98.ext x187).but y192 (Dj.of_fresh ex98 f189).symm).ext x200)).symm (by first | omega | (simp only [ln] at *; omega)) (by first | omega | (simp only [ln] at *; omega)) fun hx216 vx217 wx218 hw o219 ex220 y221 dh dm222 => ?_
    obtain ⟨a223, c224, rfl⟩ := o219.shape
    refine LP_ev ok 4 [(9, .slice a223 (List.length (out ++ ([((Edit.mk x168.Sets) : Edit)]))) c224)] 5 rfl rfl ?_
    refine LP_end _ rfl ?_
    have f225 := f189.mono X121.size
    have f227 := Fresh.domOf f103 (Dom.of_le l177)
    have X229 := (((X121.stepx x187).step y192 (f225.dom _)).stepx x200)
    have f228 := DomLe.fresh dm210 f227 X229.size
    have f230 := DomLe.fresh dm222 (Fresh.un f99 f228) (X229.stepx x207).size
    have f233 := Fresh.domOf f103 (Dom.of_le l178)
    have ex238 := (ex196.ext x200)
    have ex240 := (ex193.ext x200)
    have ex242 := (ex197.ext x200)
    have ex244 := (ex194.ext x200)
    have ex246 := (((ex180.ext x187).but y192 (Dom.dj (Dom.of_le l178) (Dj.of_fresh ex102 f189)).symm).ext x200)
    exact ⟨out ++ ([((Edit.mk x168.Sets) : Edit)]), H, _, .slice a223 (List.length (out ++ ([((Edit.mk x168.Sets) : Edit)]))) c224, hx216, hx173, env_eq ⟨rfl, rfl, rfl, rfl, rfl, rfl, trivial⟩, ((((X121.stepx x187).step y192 (f225.dom _)).stepx xc213).step (But.dom y221 dh) (f99.dom _)), o219, ex220, f230, o175, ((((ex180.ext x187).but y192 (Dom.dj (Dom.of_le l178) (Dj.of_fresh ex102 f189)).symm).ext xc213).but (But.dom y221 dh) (Dom.dj (Dom.of_le l178) d120).symm), f233, ((ex196.ext xc213).but (But.dom y221 dh) d112), ((ex193.ext xc213).but (But.dom y221 dh) d113), ((ex197.ext xc213).but (But.dom y221 dh) d114), ((ex194.ext xc213).but (But.dom y221 dh) d115), (DomLe.dj dm222 (Dj.un_l d112 (DomLe.dj dm210 (Dom.dj (Dom.of_le l177) d116) ex238)) (ex238.ext x207)), (DomLe.dj dm222 (Dj.un_l d113 (DomLe.dj dm210 (Dom.dj (Dom.of_le l177) d117) ex240)) (ex240.ext x207)), (DomLe.dj dm222 (Dj.un_l d114 (DomLe.dj dm210 (Dom.dj (Dom.of_le l177) d118) ex242)) (ex242.ext x207)), (DomLe.dj dm222 (Dj.un_l d115 (DomLe.dj dm210 (Dom.dj (Dom.of_le l177) d119) ex244)) (ex244.ext x207)), (Dom.dj (Dom.of_le l178) d116), (Dom.dj (Dom.of_le l178) d117), (Dom.dj (Dom.of_le l178) d118), (Dom.dj (Dom.of_le l178) d119), (DomLe.dj dm222 (Dj.un_l (Dom.dj (Dom.of_le l178) d120).symm (DomLe.dj dm210 d176 ex246)) (ex246.ext x207)).symm⟩
   have H := H.2 hc201
   refine W_skip ?_
   have f248 := f189.mono X121.size
   have f252 := Fresh.domOf f103 (Dom.of_le l178)
   exact ⟨out, H, _, sl a110 out c111, hx96, hx173, env_eq ⟨rfl, rfl, rfl, rfl, rfl, rfl, trivial⟩, (((X121.stepx x187).step y192 (f248.dom _)).stepx x200), o97, (((ex98.ext x187).but y192 (Dj.of_fresh ex98 f189).symm).ext x200), f99, o175, (((ex180.ext x187).but y192 (Dom.dj (Dom.of_le l178) (Dj.of_fresh ex102 f189)).symm).ext x200), f252, (ex196.ext x200), (ex193.ext x200), (ex197.ext x200), (ex194.ext x200), d112, d113, d114, d115, (Dom.dj (Dom.of_le l178) d116), (Dom.dj (Dom.of_le l178) d117), (Dom.dj (Dom.of_le l178) d118), (Dom.dj (Dom.of_le l178) d119), (Dom.dj (Dom.of_le l178) d120)⟩
  rintro out141 _ wx151 ⟨H, ρ, vx142, hx143, hx147, rfl, HF⟩
  revert HF
  refine bb9 fun X167 o144 ex145 f146 o148 ex149 f150 ex152 => ?_
  refine bb9 fun ex153 ex154 ex155 d158 d159 d160 d161 d162 => ?_
  refine bb4 fun d163 d164 d165 d166 => ?_
  subst hk
  obtain ⟨a156, c157, rfl⟩ := o144.shape
  refine W_region ?_
  refine LP_ev ok 0 [(35, I (wr (x104 + 1))), (22, I (wr (x104 + 1)))] 2 rfl rfl ?_
  exact LP_end _ rfl ⟨(out141, wr (x104 + 1)), ⟨H.1, _, sl a156 out141 c157, hx143, hx147, env_eq ⟨rfl, rfl, rfl, rfl, rfl, rfl, trivial⟩, X167, o144, ex145, f146, o148, ex149, f150, ex152, ex153, ex154, ex155, d158, d159, d160, d161, d162, d163, d164, d165, d166⟩, H.2⟩
 have H := H.2 hc
 refine W_exit ?_
 refine (if_pos rfl).mpr ?_
 refine W_seq (W_region ?_)
 refine LP_ev ok 0 [(36, sl a110 out c111), (6, sl a110 out c111)] 2 rfl rfl ?_
 refine LP_end _ rfl (W_ret ?_)
 exact ⟨_, Ret_of [sl a110 out c111] ⟨⟨rfl, rfl⟩, trivial⟩, _, _, _, H, rfl, X121.ext, o97, ex98, f99⟩

theorem impl_EliminateVariable_w (sx : List Variable) (l : List Edit) (vx7 : Int) (Q : (List Edit) → Bool → Prop) (H : impl_EliminateVariable sx l vx7 Q) (w : World) {vx : Value} {hx : PH} (r : RS hx vx sx) (ex : Sub hx w) {vx1 : Value} {hx2 : PH} (r3 : RS hx2 vx1 l) (ex4 : Sub hx2 w) :
  CallsTo Try.prog 51 #[vx, vx1, I vx7] w fun v w' => ∃ r0 r1 u0 g0, Q r0 r1 ∧ v = .tuple #[u0, .bool r1] ∧ Ext w w' ∧ OD g0 u0 r0 ∧ Sub g0 w' ∧ Fresh w.heap.size g0 := by
 obtain ⟨a, c, rfl⟩ := r.shape
 obtain ⟨a5, c6, rfl⟩ := r3.shape
 refine enter (args := [sl a sx c, sl a5 l c6, I vx7]) 31 Try.func51 rfl rfl rfl ?_
 refine W_forget [(0, sl a sx c), (1, sl a5 l c6), (2, I vx7)] ⟨rfl, rfl, rfl, trivial⟩ fun ρ => ?_
 have X := But.refl emp w
 refine W_seq (W_region ?_)
 refine LP_ev ok 0 [(6, .slice none 0 0), (7, .bool false)] 2 rfl rfl ?_
 refine LP_end _ rfl (W_seq ?_)
 obtain ⟨k, hk, H⟩ := jn_elim H
 refine W_join2 (S := Bool) (fun s ρ' w' => k s ∧ ∃ (ρ : Env), ρ' = setAll [(0, sl a sx c), (1, sl a5 l c6), (2, I vx7), (26, .bool s)] ρ ∧ But emp w w' ∧ Sub hx w' ∧ Sub hx2 w') ?_ ?_
 ·refine W_region ?_
  refine LP_ev ok 0 [(8, sl a sx c)] 1 rfl rfl ?_
  refine LP_call 1 rfl rfl rfl cal_62 rfl (impl_isSmall_w _ _ H w r ex) ?_
  rintro _ wx12 ⟨r11, H, rfl, x13⟩
  refine LP_ev ok 2 [(10, .bool (!r11)), (11, .bool (!r11))] 4 rfl rfl ?_
  refine LP_split 11 (!r11) rfl (fun hc => ?_) (fun hc => ?_)
  ·have H := H.1 hc
   refine LP_ev ok 4 [(12, undef), (13, undef), (14, undef), (15, undef), (16, .bool true), (17, .bool true), (18, undef), (19, undef), (20, .bool true), (21, .bool true), (22, undef), (23, undef), (24, undef), (25, undef), (26, .bool true)] 19 rfl rfl ?_
   exact LP_end _ rfl ⟨true, H, _, env_eq ⟨rfl, rfl, rfl, rfl, trivial⟩, (X.stepx x13), (ex.ext x13), (ex4.ext x13)⟩
  have H := H.2 hc
  refine LP_ev ok 4 [(12, sl a sx c), (13, sl a5 l c6)] 6 rfl rfl ?_
  have ex18 := (ex.ext x13)
  have ex19 := (ex4.ext x13)
  refine LP_call 6 rfl rfl rfl cal_63 rfl (impl_areEdits_w _ _ _ H wx12 r ex18 r3 ex19) ?_
  rintro _ wx20 ⟨r17, H, rfl, x21⟩
  refine LP_ev ok 7 [(15, .bool (!r17)), (16, .bool (!r17)), (17, .bool (!r17))] 10 rfl rfl ?_
  refine LP_split 17 (!r17) rfl (fun hc22 => ?_) (fun hc22 => ?_)
  ·have H := H.1 hc22
   refine LP_ev ok 10 [(18, undef), (19, undef), (20, .bool true), (21, .bool true), (22, undef), (23, undef), (24, undef), (25, undef), (26, .bool true)] 19 rfl rfl ?_
   exact LP_end _ rfl ⟨true, H, _, env_eq ⟨rfl, rfl, rfl, rfl, trivial⟩, (X.stepx (x13.trans x21)), (ex18.ext x21), (ex19.ext x21)⟩
  have H := H.2 hc22
  refine LP_ev ok 10 [(18, I vx7), (19, .bool (decide (vx7 < 0))), (20, .bool (decide (vx7 < 0))), (21, .bool (decide (vx7 < 0)))] 14 rfl rfl ?_
  refine LP_split 21 (decide (vx7 < 0)) rfl (fun hc26 => ?_) (fun hc26 => ?_)
  ·have H := H.1 hc26
   refine LP_ev ok 14 [(22, undef), (23, undef), (24, undef), (25, undef), (26, .bool true)] 19 rfl rfl ?_
   exact LP_end _ rfl ⟨true, H, _, env_eq ⟨rfl, rfl, rfl, rfl, trivial⟩, (X.stepx (x13.trans x21)), (ex18.ext x21), (ex19.ext x21)⟩
  have H := H.2 hc26
  refine LP_ev ok 14 [(22, I vx7), (23, sl a sx c), (24, I (ln sx)), (25, .bool (decide (vx7 ≥ (ln sx)))), (26, .bool (decide (vx7 ≥ (ln sx))))] 19 rfl rfl ?_
  exact LP_end _ rfl ⟨decide (vx7 ≥ (ln sx)), H, _, env_eq ⟨rfl, rfl, rfl, rfl, trivial⟩, (X.stepx (x13.trans x21)), (ex18.ext x21), (ex19.ext x21)⟩
 rintro x _ wx ⟨H, ρ, rfl, X10, ex8, ex9⟩
 subst hk
 refine W_cond (x) rfl (fun hc35 => ?_) (fun hc35 => ?_)
 ·have H := H.1 hc35
  refine W_seq (W_region ?_)
  refine LP_ev ok 0 [(6, .slice none 0 0), (7, .bool false)] 2 rfl rfl ?_
  refine LP_end _ rfl (W_ret ?_)
  exact ⟨_, Ret_of [.slice none 0 0, .bool false] ⟨⟨rfl, rfl⟩, ⟨rfl, rfl⟩, trivial⟩, _, _, _, emp, H, rfl, X10.ext, OD.nil, (emp_sub _), (emp_fresh _)⟩
 have H := H.2 hc35
 refine W_skip ?_
 refine W_seq (W_region ?_)
 refine LP_ev ok 0 [(27, sl a sx c), (28, sl a5 l c6), (29, I vx7)] 3 rfl rfl ?_
 refine LP_call 3 rfl rfl rfl cal_64 rfl (impl_maximalEdits_w _ _ _ _ H wx r ex8 r3 ex9) ?_
 rintro _ wx37 ⟨r36, vx39, hx40, H, rfl, x38, o, ex41, f⟩
 obtain ⟨a42, c43, rfl⟩ := o.shape
 refine LP_ev ok 4 [(6, sl a42 r36 c43), (7, .bool true)] 6 rfl rfl ?_
 refine LP_end _ rfl (W_ret ?_)
 have f44 := f.mono X10.size
 exact ⟨_, Ret_of [sl a42 r36 c43, .bool true] ⟨⟨rfl, rfl⟩, ⟨rfl, rfl⟩, trivial⟩, _, _, _, _, H, rfl, (X10.stepx x38).ext, o, ex41, f44⟩

theorem spec_eGood_w (sx : List Variable) (ex1 : Edit) (Q : Bool → Prop) (H : spec_eGood sx ex1 Q) (w : World) {vx : Value} {hx : PH} (r : RS hx vx sx) (ex : Sub hx w) {vx2 : Value} {hx3 : PH} (r4 : RS hx3 vx2 ex1.Sets) (ex5 : Sub hx3 w) :
  CallsTo Try.prog 77 #[vx, .agg #[vx2]] w fun v w' => ∃ r0, Q r0 ∧ v = .bool r0 ∧ Ext w w' := by
 obtain ⟨a, c, rfl⟩ := r.shape
 obtain ⟨a6, c7, rfl⟩ := r4.shape
 refine enter (args := [sl a sx c, .agg #[sl a6 ex1.Sets c7]]) 28 Try.func77 rfl rfl rfl ?_
 refine W_forget [(0, sl a sx c), (1, .agg #[sl a6 ex1.Sets c7])] ⟨rfl, rfl, trivial⟩ fun ρ => ?_
 have X := But.refl emp w
 refine W_seq (W_region ?_)
 refine LP_box 0 (cs := [sl a6 ex1.Sets c7]) rfl rfl rfl rfl rfl fun b wx x ex8 f => ?_
 refine LP_ev ok 1 [(4, .bool false)] 2 rfl rfl ?_
 refine LP_end _ rfl (W_seq ?_)
 refine W_seq (W_region ?_)
 refine LP_ev ok 0 [(7, pb b)] 1 rfl rfl ?_
 refine LP_ldbox 1 (v := sl a6 ex1.Sets c7) rfl rfl rfl ti_31 ag_31 (fun _ => rfl) rfl ex8 rfl rfl ?_
 refine LP_ev ok 2 [(9, I (ln ex1.Sets)), (10, sl a sx c), (11, I (ln sx)), (12, .bool ((ln ex1.Sets) != (ln sx)))] 6 rfl rfl ?_
 refine LP_end _ rfl ?_
 refine W_cond ((ln ex1.Sets) != (ln sx)) rfl (fun hc => ?_) (fun hc => ?_)
 ·have H := H.1 hc
  refine W_seq (W_region ?_)
  refine LP_ev ok 0 [(4, .bool false)] 1 rfl rfl ?_
  refine LP_end _ rfl (W_ret ?_)
  exact ⟨_, Ret_of [.bool false] ⟨⟨rfl, rfl⟩, trivial⟩, _, H, rfl, (X.stepx x).ext⟩
 have H := H.2 hc
 refine W_skip ?_
 refine W_seq ?_
 refine W_seq (W_region ?_)
 refine LP_ev ok 0 [(13, pb b)] 1 rfl rfl ?_
 refine LP_ldbox 1 (v := sl a6 ex1.Sets c7) rfl rfl rfl ti_31 ag_31 (fun _ => rfl) rfl ex8 rfl rfl ?_
 refine LP_ev ok 2 [(15, I (ln ex1.Sets)), (16, I 0)] 4 rfl rfl ?_
 refine LP_end _ rfl ?_
 refine W_block ?_
 obtain ⟨J, m, Hx, H⟩ := H
 refine W_loop (S := Int) (fun s ρ' w' => J s ∧ ∃ (ρ : Env), ρ' = setAll [(0, sl a sx c), (14, sl a6 ex1.Sets c7), (15, I (ln ex1.Sets)), (16, I s)] ρ ∧ But emp w w' ∧ Sub hx w' ∧ Sub hx3 w') (fun s => m s) 0 ⟨Hx, _, env_eq ⟨rfl, rfl, rfl, rfl, trivial⟩, (X.stepx x), (ex.ext x), (ex5.ext x)⟩ ?_
 rintro x10 _ wx11 ⟨Hi, ρ, rfl, X14, ex12, ex13⟩
 have H := H x10 Hi
 refine W_seq (W_region ?_)
 refine LP_ev ok 0 [(17, .bool (decide (x10 < (ln ex1.Sets))))] 1 rfl rfl ?_
 refine LP_end _ rfl (W_seq ?_)
 refine W_cond (decide (x10 < (ln ex1.Sets))) rfl (fun hc18 => ?_) (fun hc18 => ?_)
 ·have H := H.1 hc18
  refine W_skip ?_
  refine W_seq ?_
  refine W_block ?_
  refine W_seq (W_region ?_)
  refine LP_ev ok 0 [(18, I x10)] 1 rfl rfl ?_
  obtain ⟨x19, hi, hx20, H⟩ := H
  refine LP_index 1 rfl rfl rfl Try.underlying31 ti_3 rfl rfl r4 hi hx20 fun a21 cs r22 d => ?_
  refine LP_load 2 rfl rfl rfl ti_3 ag_3 rfl r22 d ex13 fun vx23 r24 => ?_
  obtain rfl := r24.int
  refine LP_ev ok 3 [(5, I x10), (6, I x19)] 5 rfl rfl ?_
  refine LP_end _ rfl (W_seq (W_region ?_))
  refine LP_ev ok 0 [(21, I x19), (22, sl a sx c), (23, I x10)] 3 rfl rfl ?_
  refine LP_call 3 rfl rfl rfl cal_149 rfl (spec_eFull_w _ _ _ H wx11 r ex12) ?_
  rintro _ wx26 ⟨r25, H, rfl, x27⟩
  refine LP_call 4 rfl rfl rfl cal_75 rfl (spec_l1In_w _ _ _ _ H wx26 ) ?_
  rintro _ wx29 ⟨r28, H, rfl, x30⟩
  refine LP_ev ok 5 [(26, .bool (!r28))] 6 rfl rfl ?_
  refine LP_end _ rfl ?_
  refine W_cond (!r28) rfl (fun hc31 => ?_) (fun hc31 => ?_)
  ·have H := H.1 hc31
   refine W_seq (W_region ?_)
   refine LP_ev ok 0 [(4, .bool false)] 1 rfl rfl ?_
   refine LP_end _ rfl (W_ret ?_)
   exact ⟨_, Ret_of [.bool false] ⟨⟨rfl, rfl⟩, trivial⟩, _, H, rfl, (X14.stepx (x27.trans x30)).ext⟩
  have H := H.2 hc31
  refine W_skip ?_
  refine W_region ?_
  refine LP_ev ok 0 [(27, I (wr (x10 + 1))), (16, I (wr (x10 + 1)))] 2 rfl rfl ?_
  refine LP_end _ rfl ?_
  have xc33 := (x27.trans x30)
  exact ⟨wr (x10 + 1), ⟨H.1, _, env_eq ⟨rfl, rfl, rfl, rfl, trivial⟩, (X14.stepx xc33), (ex12.ext xc33), (ex13.ext xc33)⟩, H.2⟩
 have H := H.2 hc18
 refine W_exit ?_
 refine (if_pos rfl).mpr ?_
 refine W_seq (W_region ?_)
 refine LP_ev ok 0 [(4, .bool true)] 1 rfl rfl ?_
 refine LP_end _ rfl (W_ret ?_)
 exact ⟨_, Ret_of [.bool true] ⟨⟨rfl, rfl⟩, trivial⟩, _, H, rfl, X14.ext⟩

theorem spec_eList_w (sx : List Variable) (l : List Edit) (Q : Bool → Prop) (H : spec_eList sx l Q) (w : World) {vx : Value} {hx : PH} (r : RS hx vx sx) (ex : Sub hx w) {vx1 : Value} {hx2 : PH} (r3 : RS hx2 vx1 l) (ex4 : Sub hx2 w) :
  CallsTo Try.prog 142 #[vx, vx1] w fun v w' => ∃ r0, Q r0 ∧ v = .bool r0 ∧ Ext w w' := by
 obtain ⟨a, c, rfl⟩ := r.shape
 obtain ⟨a5, c6, rfl⟩ := r3.shape
 refine enter (args := [sl a sx c, sl a5 l c6]) 26 Try.func142 rfl rfl rfl ?_
 refine W_forget [(0, sl a sx c), (1, sl a5 l c6)] ⟨rfl, rfl, trivial⟩ fun ρ => ?_
 have X := But.refl emp w
 refine W_seq (W_region ?_)
 refine LP_ev ok 0 [(4, .bool false)] 1 rfl rfl ?_
 refine LP_end _ rfl (W_seq ?_)
 obtain ⟨k, hk, H⟩ := jn_elim H
 refine W_join2 (S := Bool) (fun s ρ' w' => k s ∧ ∃ (ρ : Env), ρ' = setAll [(0, sl a sx c), (1, sl a5 l c6), (14, .bool s)] ρ ∧ But emp w w' ∧ Sub hx w' ∧ Sub hx2 w') ?_ ?_
 ·refine W_region ?_
  refine LP_ev ok 0 [(7, sl a sx c)] 1 rfl rfl ?_
  refine LP_call 1 rfl rfl rfl cal_120 rfl (spec_sGood_w _ _ H w r ex) ?_
  rintro _ wx11 ⟨r10, H, rfl, x12⟩
  refine LP_ev ok 2 [(9, .bool (!r10)), (10, .bool (!r10))] 4 rfl rfl ?_
  refine LP_split 10 (!r10) rfl (fun hc => ?_) (fun hc => ?_)
  ·have H := H.1 hc
   refine LP_ev ok 4 [(11, undef), (12, undef), (13, undef), (14, .bool true)] 8 rfl rfl ?_
   exact LP_end _ rfl ⟨true, H, _, env_eq ⟨rfl, rfl, rfl, trivial⟩, (X.stepx x12), (ex.ext x12), (ex4.ext x12)⟩
  have H := H.2 hc
  refine LP_ev ok 4 [(11, sl a5 l c6), (12, I (ln l)), (13, .bool (decide ((ln l) > 40))), (14, .bool (decide ((ln l) > 40)))] 8 rfl rfl ?_
  exact LP_end _ rfl ⟨decide ((ln l) > 40), H, _, env_eq ⟨rfl, rfl, rfl, trivial⟩, (X.stepx x12), (ex.ext x12), (ex4.ext x12)⟩
 rintro x _ wx ⟨H, ρ, rfl, X9, ex7, ex8⟩
 subst hk
 refine W_cond (x) rfl (fun hc19 => ?_) (fun hc19 => ?_)
 ·have H := H.1 hc19
  refine W_seq (W_region ?_)
  refine LP_ev ok 0 [(4, .bool false)] 1 rfl rfl ?_
  refine LP_end _ rfl (W_ret ?_)
  exact ⟨_, Ret_of [.bool false] ⟨⟨rfl, rfl⟩, trivial⟩, _, H, rfl, X9.ext⟩
 have H := H.2 hc19
 refine W_skip ?_
 refine W_seq ?_
 refine W_seq (W_region ?_)
 refine LP_ev ok 0 [(15, sl a5 l c6), (16, I (ln l)), (17, I 0)] 3 rfl rfl ?_
 refine LP_end _ rfl ?_
 refine W_block ?_
 obtain ⟨J, m, Hx, H⟩ := H
 refine W_loop (S := Int) (fun s ρ' w' => J s ∧ ∃ (ρ : Env), ρ' = setAll [(0, sl a sx c), (15, sl a5 l c6), (16, I (ln l)), (17, I s)] ρ ∧ But emp w w' ∧ Sub hx w' ∧ Sub hx2 w') (fun s => m s) 0 ⟨Hx, _, env_eq ⟨rfl, rfl, rfl, rfl, trivial⟩, X9, ex7, ex8⟩ ?_
 rintro x20 _ wx21 ⟨Hi, ρ, rfl, X24, ex22, ex23⟩
 have H := H x20 Hi
 refine W_seq (W_region ?_)
 refine LP_ev ok 0 [(18, .bool (decide (x20 < (ln l))))] 1 rfl rfl ?_
 refine LP_end _ rfl (W_seq ?_)
 refine W_cond (decide (x20 < (ln l))) rfl (fun hc25 => ?_) (fun hc25 => ?_)
 ·have H := H.1 hc25
  refine W_skip ?_
  refine W_seq ?_
  refine W_block ?_
  refine W_seq (W_region ?_)
  obtain ⟨x26, hi, hx27, H⟩ := H
  refine LP_index 0 rfl rfl rfl Try.underlying25 ti_33 rfl rfl r3 hi hx27 fun a28 cs r29 d => ?_
  have d30 := d
  obtain ⟨u, rfl, r31⟩ := Edit_rd d30
  obtain ⟨a32, c33, rfl⟩ := r31.shape
  refine LP_load 1 rfl rfl rfl ti_33 ag_33 rfl r29 d ex23 fun vx34 r35 => ?_
  obtain ⟨u36, rfl, r37⟩ := Edit_rv r35
  obtain ⟨a38, c39, rfl⟩ := r37.shape
  refine LP_alloc 2 rfl rfl rfl ti_33 rfl fun b wx40 x41 ex42 f => ?_
  refine LP_stbox 3 (vs := [sl a38 x26.Sets c39]) (cs' := [sl a38 x26.Sets c39]) rfl rfl rfl ti_33 rfl rfl rfl rfl rfl ex42 rfl rfl fun wx43 ex44 y => ?_
  refine LP_end _ rfl (W_seq (W_region ?_))
  refine LP_ev ok 0 [(21, sl a sx c)] 1 rfl rfl ?_
  refine LP_ldbox 1 (v := .agg #[sl a38 x26.Sets c39]) rfl rfl rfl ti_33 ag_33 (fun h => by cases h) rfl ex44 rfl rfl ?_
  have ex46 := ((ex22.ext x41).but y (Dj.of_fresh ex22 f).symm)
  have ex47 := ((ex23.ext x41).but y (Dj.of_fresh ex23 f).symm)
  refine LP_call 2 rfl rfl rfl cal_77 rfl (spec_eGood_w _ _ _ H wx43 r ex46 r37 ex47) ?_
  rintro _ wx48 ⟨r45, H, rfl, x49⟩
  refine LP_ev ok 3 [(24, .bool (!r45))] 4 rfl rfl ?_
  refine LP_end _ rfl ?_
  refine W_cond (!r45) rfl (fun hc50 => ?_) (fun hc50 => ?_)
  ·have H := H.1 hc50
   refine W_seq (W_region ?_)
   refine LP_ev ok 0 [(4, .bool false)] 1 rfl rfl ?_
   refine LP_end _ rfl (W_ret ?_)
   have f51 := f.mono X24.size
   exact ⟨_, Ret_of [.bool false] ⟨⟨rfl, rfl⟩, trivial⟩, _, H, rfl, (((X24.stepx x41).step y (f51.dom _)).stepx x49).ext⟩
  have H := H.2 hc50
  refine W_skip ?_
  refine W_region ?_
  refine LP_ev ok 0 [(25, I (wr (x20 + 1))), (17, I (wr (x20 + 1)))] 2 rfl rfl ?_
  refine LP_end _ rfl ?_
  have f53 := f.mono X24.size
  exact ⟨wr (x20 + 1), ⟨H.1, _, env_eq ⟨rfl, rfl, rfl, rfl, trivial⟩, (((X24.stepx x41).step y (f53.dom _)).stepx x49), (ex46.ext x49), (ex47.ext x49)⟩, H.2⟩
 have H := H.2 hc25
 refine W_exit ?_
 refine (if_pos rfl).mpr ?_
 refine W_seq (W_region ?_)
 refine LP_ev ok 0 [(4, .bool true)] 1 rfl rfl ?_
 refine LP_end _ rfl (W_ret ?_)
 exact ⟨_, Ret_of [.bool true] ⟨⟨rfl, rfl⟩, trivial⟩, _, H, rfl, X24.ext⟩

theorem spec_sCount_w (sx : List Variable) (Q : Int → Prop) (H : spec_sCount sx Q) (w : World) {vx : Value} {hx : PH} (r : RS hx vx sx) (ex : Sub hx w) :
  CallsTo Try.prog 121 #[vx] w fun v w' => ∃ r0, Q r0 ∧ v = I r0 ∧ Ext w w' := by
 obtain ⟨a, c, rfl⟩ := r.shape
 refine enter (args := [sl a sx c]) 18 Try.func121 rfl rfl rfl ?_
 refine W_forget [(0, sl a sx c)] ⟨rfl, trivial⟩ fun ρ => ?_
 have X := But.refl emp w
 refine W_seq (W_region ?_)
 refine LP_ev ok 0 [(2, I 0)] 1 rfl rfl ?_
 refine LP_end _ rfl (W_seq (W_region ?_))
 refine LP_ev ok 0 [(3, I 1)] 1 rfl rfl ?_
 refine LP_end _ rfl (W_seq ?_)
 refine W_seq (W_region ?_)
 refine LP_ev ok 0 [(6, sl a sx c), (7, I (ln sx)), (8, I 0)] 3 rfl rfl ?_
 refine LP_end _ rfl ?_
 refine W_block ?_
 obtain ⟨J, m, Hx, H⟩ := H
 refine W_loop (S := Int × Int) (fun s ρ' w' => J s.1 s.2 ∧ ∃ (ρ : Env), ρ' = setAll [(3, I s.1), (6, sl a sx c), (7, I (ln sx)), (8, I s.2)] ρ ∧ But emp w w' ∧ Sub hx w') (fun s => m s.1 s.2) (1, 0) ⟨Hx, _, env_eq ⟨rfl, rfl, rfl, rfl, trivial⟩, X, ex⟩ ?_
 rintro ⟨n, x⟩ _ wx ⟨Hi, ρ, rfl, X2, ex1⟩
 have H := H n x Hi
 refine W_seq (W_region ?_)
 refine LP_ev ok 0 [(9, .bool (decide (x < (ln sx))))] 1 rfl rfl ?_
 refine LP_end _ rfl (W_seq ?_)
 refine W_cond (decide (x < (ln sx))) rfl (fun hc => ?_) (fun hc => ?_)
 ·have H := H.1 hc
  refine W_skip ?_
  refine W_seq ?_
  refine W_block ?_
  refine W_seq (W_region ?_)
  obtain ⟨x3, hi, hx4, H⟩ := H
  refine LP_index 0 rfl rfl rfl Try.underlying24 ti_167 rfl rfl r hi hx4 fun a5 cs r6 d => ?_
  refine LP_load 1 rfl rfl rfl ti_167 ag_167 rfl r6 d ex1 fun vx7 r8 => ?_
  obtain rfl := Variable_rv r8
  refine LP_alloc 2 rfl rfl rfl ti_167 rfl fun b wx9 x10 ex11 f => ?_
  refine LP_stbox 3 (vs := [.string x3.Name, I x3.Levels]) (cs' := [.string x3.Name, I x3.Levels]) rfl rfl rfl ti_167 rfl rfl rfl rfl rfl ex11 rfl rfl fun wx12 ex13 y => ?_
  refine LP_end _ rfl ?_
  refine W_region ?_
  refine LP_ev ok 0 [(12, I n), (13, .pointer (some ⟨b, 1, none⟩))] 2 rfl rfl ?_
  refine LP_ldbox 2 (v := I x3.Levels) rfl rfl rfl ti_3 ag_3 (fun _ => rfl) rfl ex13 rfl rfl ?_
  refine LP_ev ok 3 [(15, I (wr (n * x3.Levels))), (3, I (wr (n * x3.Levels)))] 5 rfl rfl ?_
  refine LP_end _ rfl ?_
  refine W_region ?_
  refine LP_ev ok 0 [(16, I (wr (x + 1))), (8, I (wr (x + 1)))] 2 rfl rfl ?_
  refine LP_end _ rfl ?_
  have f14 := f.mono X2.size
  exact ⟨(wr (n * x3.Levels), wr (x + 1)), ⟨H.1, _, env_eq ⟨rfl, rfl, rfl, rfl, trivial⟩, ((X2.stepx x10).step y (f14.dom _)), ((ex1.ext x10).but y (Dj.of_fresh ex1 f).symm)⟩, H.2⟩
 have H := H.2 hc
 refine W_exit ?_
 refine (if_pos rfl).mpr ?_
 refine W_seq (W_region ?_)
 refine LP_ev ok 0 [(17, I n), (2, I n)] 2 rfl rfl ?_
 refine LP_end _ rfl (W_ret ?_)
 exact ⟨_, Ret_of [I n] ⟨⟨rfl, rfl⟩, trivial⟩, _, H, rfl, X2.ext⟩

theorem spec_eSmall_w (sx : List Variable) (l : List Edit) (Q : Bool → Prop) (H : spec_eSmall sx l Q) (w : World) {vx : Value} {hx : PH} (r : RS hx vx sx) (ex : Sub hx w) {vx1 : Value} {hx2 : PH} (r3 : RS hx2 vx1 l) (ex4 : Sub hx2 w) :
  CallsTo Try.prog 65 #[vx, vx1] w fun v w' => ∃ r0, Q r0 ∧ v = .bool r0 ∧ Ext w w' := by
 obtain ⟨a, c, rfl⟩ := r.shape
 obtain ⟨a5, c6, rfl⟩ := r3.shape
 refine enter (args := [sl a sx c, sl a5 l c6]) 13 Try.func65 rfl rfl rfl ?_
 refine W_forget [(0, sl a sx c), (1, sl a5 l c6)] ⟨rfl, rfl, trivial⟩ fun ρ => ?_
 have X := But.refl emp w
 refine W_seq (W_region ?_)
 refine LP_ev ok 0 [(4, .bool false)] 1 rfl rfl ?_
 refine LP_end _ rfl ?_
 obtain ⟨k, hk, H⟩ := jn_elim H
 refine W_join2 (S := Bool) (fun s ρ' w' => k s ∧ ∃ (ρ : Env), ρ' = setAll [(4, .bool s)] ρ ∧ But emp w w') ?_ ?_
 ·refine W_region ?_
  refine LP_ev ok 0 [(5, sl a sx c), (6, sl a5 l c6)] 2 rfl rfl ?_
  refine LP_call 2 rfl rfl rfl cal_142 rfl (spec_eList_w _ _ _ H w r ex r3 ex4) ?_
  rintro _ wx9 ⟨r8, H, rfl, x10⟩
  refine LP_ev ok 3 [(8, .bool r8)] 4 rfl rfl ?_
  refine LP_split 8 (r8) rfl (fun hc => ?_) (fun hc => ?_)
  ·have H := H.1 hc
   refine LP_ev ok 4 [(9, sl a sx c)] 5 rfl rfl ?_
   refine LP_call 5 rfl rfl rfl cal_121 rfl (spec_sCount_w _ _ H wx9 r (ex.ext x10)) ?_
   rintro _ wx13 ⟨r11, H, rfl, x14⟩
   refine LP_ev ok 6 [(11, .bool (decide (r11 ≤ 100))), (12, .bool (decide (r11 ≤ 100))), (4, .bool (decide (r11 ≤ 100)))] 9 rfl rfl ?_
   exact LP_end _ rfl ⟨decide (r11 ≤ 100), H, _, env_eq ⟨rfl, trivial⟩, (X.stepx (x10.trans x14))⟩
  have H := H.2 hc
  refine LP_ev ok 4 [(9, undef), (10, undef), (11, undef), (12, .bool false), (4, .bool false)] 9 rfl rfl ?_
  exact LP_end _ rfl ⟨false, H, _, env_eq ⟨rfl, trivial⟩, (X.stepx x10)⟩
 rintro x _ wx ⟨H, ρ, rfl, X7⟩
 subst hk
 refine W_ret ?_
 exact ⟨_, Ret_of [.bool x] ⟨⟨rfl, rfl⟩, trivial⟩, _, H, rfl, X7.ext⟩

end Go.Proofs.Ytdaojggigfnnpaa
