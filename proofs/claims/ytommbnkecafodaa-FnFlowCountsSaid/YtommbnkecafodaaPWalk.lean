/- The walks: each Go function does what its meaning says. -/
import Derived.Test.YtommbnkecafodaaPDefs
import Derived.Test.YtommbnkecafodaaProg
import Derived.KernelRfl
set_option linter.unusedVariables false
set_option autoImplicit false
namespace Go.Proofs.Ytommbnkecafodaa
open Go Go.RowKit Go.Gv

open Go.Proofs
set_option maxRecDepth 8000
set_option maxHeartbeats 4000000
def ty : Ty := Ty.of [(3, .int .i64), (4, .bool), (5, .int .u8), (22, .slice 3), (23, .slice 22), (39, .slice 5), (68, .int .u64)] [((29, 0), 0), ((29, 1), 1), ((29, 2), 2), ((29, 3), 3), ((55, 0), 0), ((55, 1), 1), ((70, 0), 0), ((70, 1), 1), ((70, 2), 2), ((85, 0), 0), ((85, 1), 4), ((85, 2), 5), ((85, 3), 6)] [(29, [.slice none 0 0, .slice none 0 0, .slice none 0 0, .slice none 0 0], [(0, 1), (1, 1), (2, 1), (3, 1)]), (55, [.int .i64 0, .int .i64 0], [(0, 1), (1, 1)]), (70, [.slice none 0 0, .int .i64 0, .int .u64 0], [(0, 1), (1, 1), (2, 1)]), (85, [.slice none 0 0, .slice none 0 0, .slice none 0 0, .slice none 0 0, .slice none 0 0, .slice none 0 0, .slice none 0 0], [(0, 4), (4, 1), (5, 1), (6, 1)])]
theorem fa29_0 : FldOk Try.prog 29 0 0 := fun _ _ => by kernel_rfl
theorem fa29_1 : FldOk Try.prog 29 1 1 := fun _ _ => by kernel_rfl
theorem fa29_2 : FldOk Try.prog 29 2 2 := fun _ _ => by kernel_rfl
theorem fa29_3 : FldOk Try.prog 29 3 3 := fun _ _ => by kernel_rfl
theorem fa55_0 : FldOk Try.prog 55 0 0 := fun _ _ => by kernel_rfl
theorem fa55_1 : FldOk Try.prog 55 1 1 := fun _ _ => by kernel_rfl
theorem fa70_0 : FldOk Try.prog 70 0 0 := fun _ _ => by kernel_rfl
theorem fa70_1 : FldOk Try.prog 70 1 1 := fun _ _ => by kernel_rfl
theorem fa70_2 : FldOk Try.prog 70 2 2 := fun _ _ => by kernel_rfl
theorem fa85_0 : FldOk Try.prog 85 0 0 := fun _ _ => by kernel_rfl
theorem fa85_1 : FldOk Try.prog 85 1 4 := fun _ _ => by kernel_rfl
theorem fa85_2 : FldOk Try.prog 85 2 5 := fun _ _ => by kernel_rfl
theorem fa85_3 : FldOk Try.prog 85 3 6 := fun _ _ => by kernel_rfl
theorem so29 : StrOk Try.prog 29 [.slice none 0 0, .slice none 0 0, .slice none 0 0, .slice none 0 0] [(0, 1), (1, 1), (2, 1), (3, 1)] := StrOk.of (zc := #[.slice none 0 0, .slice none 0 0, .slice none 0 0, .slice none 0 0]) Try.underlying29 (fun _ => by kernel_rfl) rfl (fun _ => by kernel_rfl)
theorem so55 : StrOk Try.prog 55 [.int .i64 0, .int .i64 0] [(0, 1), (1, 1)] := StrOk.of (zc := #[.int .i64 0, .int .i64 0]) Try.underlying55 (fun _ => by kernel_rfl) rfl (fun _ => by kernel_rfl)
theorem so70 : StrOk Try.prog 70 [.slice none 0 0, .int .i64 0, .int .u64 0] [(0, 1), (1, 1), (2, 1)] := StrOk.of (zc := #[.slice none 0 0, .int .i64 0, .int .u64 0]) Try.underlying70 (fun _ => by kernel_rfl) rfl (fun _ => by kernel_rfl)
theorem so85 : StrOk Try.prog 85 [.slice none 0 0, .slice none 0 0, .slice none 0 0, .slice none 0 0, .slice none 0 0, .slice none 0 0, .slice none 0 0] [(0, 4), (4, 1), (5, 1), (6, 1)] := StrOk.of (zc := #[.slice none 0 0, .slice none 0 0, .slice none 0 0, .slice none 0 0, .slice none 0 0, .slice none 0 0, .slice none 0 0]) Try.underlying85 (fun _ => by kernel_rfl) rfl (fun _ => by kernel_rfl)
theorem ok : TyOk Try.prog ty := .of ⟨Try.underlying3, Try.underlying4, Try.underlying5, Try.underlying22, Try.underlying23, Try.underlying39, Try.underlying68, trivial⟩ ⟨fa29_0, fa29_1, fa29_2, fa29_3, fa55_0, fa55_1, fa70_0, fa70_1, fa70_2, fa85_0, fa85_1, fa85_2, fa85_3, trivial⟩ ⟨so29, so55, so70, so85, trivial⟩
theorem ti_3 : TyI Try.prog 3 1 8 (.int .i64 0) := .mk' (by kernel_rfl) rfl
theorem ti_5 : TyI Try.prog 5 1 1 (.int .u8 0) := .mk' (by kernel_rfl) rfl
theorem ti_22 : TyI Try.prog 22 1 24 (.slice none 0 0) := .mk' (by kernel_rfl) rfl
theorem ti_23 : TyI Try.prog 23 1 24 (.slice none 0 0) := .mk' (by kernel_rfl) rfl
theorem ti_29 : TyI Try.prog 29 4 96 (.agg #[.slice none 0 0, .slice none 0 0, .slice none 0 0, .slice none 0 0]) := .mk' (by kernel_rfl) rfl
theorem ti_39 : TyI Try.prog 39 1 24 (.slice none 0 0) := .mk' (by kernel_rfl) rfl
theorem ti_68 : TyI Try.prog 68 1 8 (.int .u64 0) := .mk' (by kernel_rfl) rfl
theorem ag_3 : AggT Try.prog 3 false := ⟨_, Try.underlying3, by simp⟩
theorem ag_5 : AggT Try.prog 5 false := ⟨_, Try.underlying5, by simp⟩
theorem ag_22 : AggT Try.prog 22 false := ⟨_, Try.underlying22, by simp⟩
theorem ag_23 : AggT Try.prog 23 false := ⟨_, Try.underlying23, by simp⟩
theorem ag_29 : AggT Try.prog 29 true := ⟨_, Try.underlying29, by simp⟩
theorem ag_39 : AggT Try.prog 39 false := ⟨_, Try.underlying39, by simp⟩
theorem ag_68 : AggT Try.prog 68 false := ⟨_, Try.underlying68, by simp⟩
theorem mix : Try.prog.follows .mixedOrders = true := by kernel_rfl
theorem cal_8 : Callable Try.prog 8 := .mk Try.func8 rfl (by decide)
theorem cal_10 : Callable Try.prog 10 := .mk Try.func10 rfl (by decide)
theorem cal_19 : Callable Try.prog 19 := .mk Try.func19 rfl (by decide)
theorem cal_20 : Callable Try.prog 20 := .mk Try.func20 rfl (by decide)
theorem cal_21 : Callable Try.prog 21 := .mk Try.func21 rfl (by decide)
theorem cal_22 : Callable Try.prog 22 := .mk Try.func22 rfl (by decide)
theorem cal_23 : Callable Try.prog 23 := .mk Try.func23 rfl (by decide)
theorem cal_24 : Callable Try.prog 24 := .mk Try.func24 rfl (by decide)
theorem cal_25 : Callable Try.prog 25 := .mk Try.func25 rfl (by decide)
theorem cal_26 : Callable Try.prog 26 := .mk Try.func26 rfl (by decide)
theorem cal_27 : Callable Try.prog 27 := .mk Try.func27 rfl (by decide)
theorem cal_28 : Callable Try.prog 28 := .mk Try.func28 rfl (by decide)
theorem cal_29 : Callable Try.prog 29 := .mk Try.func29 rfl (by decide)
theorem cal_30 : Callable Try.prog 30 := .mk Try.func30 rfl (by decide)
theorem cal_32 : Callable Try.prog 32 := .mk Try.func32 rfl (by decide)
theorem cal_33 : Callable Try.prog 33 := .mk Try.func33 rfl (by decide)
theorem cal_34 : Callable Try.prog 34 := .mk Try.func34 rfl (by decide)
theorem cal_36 : Callable Try.prog 36 := .mk Try.func36 rfl (by decide)
theorem cal_37 : Callable Try.prog 37 := .mk Try.func37 rfl (by decide)
theorem cal_48 : Callable Try.prog 48 := .mk Try.func48 rfl (by decide)
theorem cal_49 : Callable Try.prog 49 := .mk Try.func49 rfl (by decide)
theorem cal_50 : Callable Try.prog 50 := .mk Try.func50 rfl (by decide)
theorem cal_51 : Callable Try.prog 51 := .mk Try.func51 rfl (by decide)
theorem cal_52 : Callable Try.prog 52 := .mk Try.func52 rfl (by decide)
theorem cal_53 : Callable Try.prog 53 := .mk Try.func53 rfl (by decide)
theorem cal_54 : Callable Try.prog 54 := .mk Try.func54 rfl (by decide)
theorem cal_55 : Callable Try.prog 55 := .mk Try.func55 rfl (by decide)
theorem cal_56 : Callable Try.prog 56 := .mk Try.func56 rfl (by decide)
theorem cal_57 : Callable Try.prog 57 := .mk Try.func57 rfl (by decide)
theorem cal_58 : Callable Try.prog 58 := .mk Try.func58 rfl (by decide)
theorem cal_59 : Callable Try.prog 59 := .mk Try.func59 rfl (by decide)
theorem cal_60 : Callable Try.prog 60 := .mk Try.func60 rfl (by decide)
theorem cal_61 : Callable Try.prog 61 := .mk Try.func61 rfl (by decide)
theorem cal_62 : Callable Try.prog 62 := .mk Try.func62 rfl (by decide)
theorem cal_63 : Callable Try.prog 63 := .mk Try.func63 rfl (by decide)
theorem cal_64 : Callable Try.prog 64 := .mk Try.func64 rfl (by decide)
theorem cal_65 : Callable Try.prog 65 := .mk Try.func65 rfl (by decide)
theorem cal_66 : Callable Try.prog 66 := .mk Try.func66 rfl (by decide)
theorem cal_67 : Callable Try.prog 67 := .mk Try.func67 rfl (by decide)
theorem cal_68 : Callable Try.prog 68 := .mk Try.func68 rfl (by decide)
theorem cal_69 : Callable Try.prog 69 := .mk Try.func69 rfl (by decide)
theorem cal_70 : Callable Try.prog 70 := .mk Try.func70 rfl (by decide)
theorem cal_71 : Callable Try.prog 71 := .mk Try.func71 rfl (by decide)
theorem cal_72 : Callable Try.prog 72 := .mk Try.func72 rfl (by decide)
theorem cal_75 : Callable Try.prog 75 := .mk Try.func75 rfl (by decide)
theorem cal_78 : Callable Try.prog 78 := .mk Try.func78 rfl (by decide)
theorem cal_79 : Callable Try.prog 79 := .mk Try.func79 rfl (by decide)
theorem cal_87 : Callable Try.prog 87 := .mk Try.func87 rfl (by decide)
theorem cal_88 : Callable Try.prog 88 := .mk Try.func88 rfl (by decide)
theorem cal_89 : Callable Try.prog 89 := .mk Try.func89 rfl (by decide)
theorem cal_90 : Callable Try.prog 90 := .mk Try.func90 rfl (by decide)
theorem cal_91 : Callable Try.prog 91 := .mk Try.func91 rfl (by decide)
theorem cal_92 : Callable Try.prog 92 := .mk Try.func92 rfl (by decide)
theorem cal_93 : Callable Try.prog 93 := .mk Try.func93 rfl (by decide)
theorem cal_94 : Callable Try.prog 94 := .mk Try.func94 rfl (by decide)
theorem cal_95 : Callable Try.prog 95 := .mk Try.func95 rfl (by decide)
theorem cal_96 : Callable Try.prog 96 := .mk Try.func96 rfl (by decide)
theorem cal_97 : Callable Try.prog 97 := .mk Try.func97 rfl (by decide)
theorem cal_98 : Callable Try.prog 98 := .mk Try.func98 rfl (by decide)
theorem cal_99 : Callable Try.prog 99 := .mk Try.func99 rfl (by decide)
theorem cal_101 : Callable Try.prog 101 := .mk Try.func101 rfl (by decide)
theorem cal_102 : Callable Try.prog 102 := .mk Try.func102 rfl (by decide)
theorem cal_103 : Callable Try.prog 103 := .mk Try.func103 rfl (by decide)
theorem cal_104 : Callable Try.prog 104 := .mk Try.func104 rfl (by decide)
theorem cal_105 : Callable Try.prog 105 := .mk Try.func105 rfl (by decide)
theorem cal_106 : Callable Try.prog 106 := .mk Try.func106 rfl (by decide)

theorem laws_big_w (code : List B8) (more : List B8) (Q : Bool → Prop) (H : laws_big code more Q) (w : World) {vx : Value} {hx : PH} (r : RS hx vx code) (ex : Sub hx w) {aC : Value} {aD : PH} (aF : RS aD aC more) (aG : Sub aD w) :
  CallsTo Try.prog 19 #[vx, aC] w fun v w' => ∃ aE, Q aE ∧ v = .bool aE ∧ Ext w w' := by
 obtain ⟨a, c, rfl⟩ := r.shape
 obtain ⟨aA, aB, rfl⟩ := aF.shape
 refine enter (args := [sl a code c, sl aA more aB]) 16 Try.func19 rfl rfl rfl ?_
 refine Wo [(0, sl a code c), (1, sl aA more aB)] ⟨rfl, rfl, trivial⟩ fun ρ => ?_
 have X := Br emp w
 refine Wq (Wg (Lv ok 0 [(4, .bool false)] 1 rfl rfl (Ln _ rfl ?_)))
 obtain ⟨k, hk, H⟩ := jn_elim H
 refine W_join2 (S := Bool) (fun s ρ' w' => k s ∧ ∃ (ρ : Env), ρ' = setAll [(4, .bool s)] ρ ∧ w = w') ?_ ?_
 ·refine Wg (Lv ok 0 [(5, sl a code c), (6, I (ln code)), (7, .bool (decide ((ln code) > 1048576))), (8, .bool (decide ((ln code) > 1048576)))] 4 rfl rfl ?_)
  refine LP_split 8 (decide ((ln code) > 1048576)) rfl (fun hc => ?_) (fun hc => ?_)
  ·have H := H.1 hc
   refine Lv ok 4 [(9, undef), (10, undef), (11, undef), (12, undef), (13, undef), (14, undef), (15, .bool true), (4, .bool true)] 12 rfl rfl ?_
   exact Ln _ rfl ⟨true, H, _, Ee ⟨rfl, trivial⟩, rfl⟩
  have H := H.2 hc
  refine Lv ok 4 [(9, sl aA more aB), (10, I (ln more)), (11, sl a code c), (12, I (ln code)), (13, I (wr (1048576 - (ln code)))), (14, .bool (decide ((ln more) > (wr (1048576 - (ln code)))))), (15, .bool (decide ((ln more) > (wr (1048576 - (ln code)))))), (4, .bool (decide ((ln more) > (wr (1048576 - (ln code))))))] 12 rfl rfl ?_
  exact Ln _ rfl ⟨decide ((ln more) > (wr (1048576 - (ln code)))), H, _, Ee ⟨rfl, trivial⟩, rfl⟩
 rintro x _ _ ⟨H, ρ, rfl, rfl⟩
 subst hk
 refine W_ret ?_
 exact ⟨_, Ret_of [.bool x] ⟨⟨rfl, rfl⟩, trivial⟩, _, H, rfl, X.ext⟩

theorem spec_l1Cur_next_w (c : L1Cur) (Q : Int → Int → Int → Prop) (H : spec_l1Cur_next c Q) (w : World) {vx : Value} {hx : PH} (r : RS hx vx c.Code) (ex : Sub hx w) {b : Nat} (aC : Sub (bx b 70 [vx, I c.At, .int .u64 c.Seed]) w) (d : Dj (bx b 70 [vx, I c.At, .int .u64 c.Seed]) hx) :
  CallsTo Try.prog 95 #[pb b] w fun v w' => ∃ aH m1_0 m1_1, Q aH m1_0 m1_1 ∧ v = I aH ∧ But (bx b 70 [vx, I c.At, .int .u64 c.Seed]) w w' ∧ Sub (bx b 70 [vx, I m1_0, .int .u64 m1_1]) w' := by
 obtain ⟨a, aB, rfl⟩ := r.shape
 refine enter (args := [pb b]) 62 Try.func95 rfl rfl rfl ?_
 refine Wo [(0, pb b)] ⟨rfl, trivial⟩ fun ρ => ?_
 have D : Dom (bx b 70 [sl a c.Code aB, I c.At, .int .u64 c.Seed]) (bx b 70 [sl a c.Code aB, I c.At, .int .u64 c.Seed]) := (Or _)
 have X := Br (bx b 70 [sl a c.Code aB, I c.At, .int .u64 c.Seed]) w
 refine Wq (Wg (Lv ok 0 [(2, I 0)] 1 rfl rfl (Ln _ rfl (Wq (Wg (Lv ok 0 [(3, I 0)] 1 rfl rfl (Ln _ rfl ?_)))))))
 obtain ⟨k, hk, H⟩ := jn_elim H
 refine W_join2 (S := Int) (fun s ρ' w' => k s ∧ ∃ (ρ : Env), ρ' = setAll [(0, pb b), (3, I s)] ρ ∧ Ext w w') ?_ ?_
 ·refine Wq ?_
  refine W_quiet mix (by kernel_rfl) ?_
  refine QP_ev ok 0 [(4, pb b), (5, pb b), (6, .pointer (some ⟨b, 1, none⟩))] 3 rfl rfl ?_
  refine QP_ldbox 3 (v := I c.At) rfl rfl rfl ti_3 ag_3 (fun _ => rfl) rfl aC rfl rfl ?_
  refine QP_ev ok 4 [(8, pb b), (9, pb b), (10, pb b)] 7 rfl rfl ?_
  refine QP_ldbox 7 (v := sl a c.Code aB) rfl rfl rfl ti_39 ag_39 (fun _ => rfl) rfl aC rfl rfl ?_
  refine QP_ev ok 8 [(12, I (ln c.Code)), (13, .bool (decide (c.At < (ln c.Code))))] 10 rfl rfl ?_
  refine QP_end _ rfl fun aS x => ?_
  refine Wc (decide (c.At < (ln c.Code))) rfl (fun hc => ?_) (fun hc => ?_)
  ·have H := H.1 hc
   refine W_quiet mix (by kernel_rfl) ?_
   refine QP_ev ok 0 [(14, pb b), (15, pb b), (16, pb b)] 3 rfl rfl ?_
   have aI := (aC.ext x)
   refine QP_ldbox 3 (v := sl a c.Code aB) rfl rfl rfl ti_39 ag_39 (fun _ => rfl) rfl aI rfl rfl ?_
   refine QP_ev ok 4 [(18, pb b), (19, pb b), (20, .pointer (some ⟨b, 1, none⟩))] 7 rfl rfl ?_
   refine QP_ldbox 7 (v := I c.At) rfl rfl rfl ti_3 ag_3 (fun _ => rfl) rfl aI rfl rfl ?_
   obtain ⟨aF, hi, aN, H⟩ := H
   refine QP_index 8 rfl rfl rfl Try.underlying39 ti_5 rfl rfl r hi aN fun aT cs aO aP => ?_
   refine QP_load 9 rfl rfl rfl ti_5 ag_5 rfl aO aP (ex.ext x) fun aU aQ => ?_
   obtain rfl := aQ.b8
   refine QP_ev ok 10 [(24, I (wr (aF.v))), (3, I (wr (aF.v)))] 12 rfl rfl ?_
   refine QP_end _ rfl fun aV aR => ?_
   exact ⟨wr (aF.v), H, _, Ee ⟨rfl, rfl, trivial⟩, (x.trans aR)⟩
  have H := H.2 hc
  exact Wk ⟨0, H, _, Ee ⟨rfl, rfl, trivial⟩, x⟩
 rintro aA _ wx ⟨H, ρ, rfl, X4⟩
 subst hk
 refine Wq (Wg (Lv ok 0 [(25, pb b), (26, pb b), (27, .pointer (some ⟨b, 1, none⟩))] 3 rfl rfl ?_))
 have aJ := (aC.ext X4)
 refine Lb 3 (v := I c.At) rfl rfl rfl ti_3 ag_3 (fun _ => rfl) rfl aJ rfl rfl (Lv ok 4 [(29, I (wr (c.At + 1))), (30, pb b), (31, .pointer (some ⟨b, 1, none⟩))] 7 rfl rfl (Lx 7 (vs := [I (wr (c.At + 1))]) (cs' := [sl a c.Code aB, I (wr (c.At + 1)), .int .u64 c.Seed]) rfl rfl rfl ti_3 rfl rfl rfl rfl rfl aJ rfl rfl fun aW aK y => (Ln _ rfl (Wq (Wg (Lv ok 0 [(32, pb b), (33, pb b), (34, pb b), (35, .pointer (some ⟨b, 2, none⟩))] 4 rfl rfl ?_))))))
 refine Lb 4 (v := .int .u64 c.Seed) rfl rfl rfl ti_68 ag_68 (fun _ => rfl) rfl aK rfl rfl (Lv ok 5 [(37, .int .u64 (IntKind.u64.wrap (c.Seed * 6364136223846793005))), (38, I aA), (39, .int .u64 (IntKind.u64.wrap (aA))), (40, .int .u64 (IntKind.u64.wrap ((IntKind.u64.wrap (c.Seed * 6364136223846793005)) + (IntKind.u64.wrap (aA))))), (41, .int .u64 (IntKind.u64.wrap ((IntKind.u64.wrap ((IntKind.u64.wrap (c.Seed * 6364136223846793005)) + (IntKind.u64.wrap (aA)))) + 1442695040888963407))), (42, pb b), (43, .pointer (some ⟨b, 2, none⟩))] 12 rfl rfl ?_)
 refine Lx 12 (vs := [.int .u64 (IntKind.u64.wrap ((IntKind.u64.wrap ((IntKind.u64.wrap (c.Seed * 6364136223846793005)) + (IntKind.u64.wrap (aA)))) + 1442695040888963407))]) (cs' := [sl a c.Code aB, I (wr (c.At + 1)), .int .u64 (IntKind.u64.wrap ((IntKind.u64.wrap ((IntKind.u64.wrap (c.Seed * 6364136223846793005)) + (IntKind.u64.wrap (aA)))) + 1442695040888963407))]) rfl rfl rfl ti_68 rfl rfl rfl rfl rfl aK rfl rfl fun aX aD aL => ?_
 refine Ln _ rfl (Wq (Wq ?_))
 refine W_quiet mix (by kernel_rfl) ?_
 refine QP_ev ok 0 [(44, pb b), (45, pb b), (46, .pointer (some ⟨b, 1, none⟩))] 3 rfl rfl ?_
 refine QP_ldbox 3 (v := I (wr (c.At + 1))) rfl rfl rfl ti_3 ag_3 (fun _ => rfl) rfl aD rfl rfl ?_
 refine QP_ev ok 4 [(48, pb b), (49, pb b), (50, pb b)] 7 rfl rfl ?_
 refine QP_ldbox 7 (v := sl a c.Code aB) rfl rfl rfl ti_39 ag_39 (fun _ => rfl) rfl aD rfl rfl ?_
 refine QP_ev ok 8 [(52, I (ln c.Code)), (53, .bool (decide ((wr (c.At + 1)) ≤ (ln c.Code))))] 10 rfl rfl ?_
 refine QP_end _ rfl fun aY aE => ?_
 try refine Wo [(0, pb b), (3, I aA), (53, .bool (decide ((wr (c.At + 1)) ≤ (ln c.Code))))] ⟨rfl, rfl, rfl, trivial⟩ fun ρ => ?_
 refine Wc (decide ((wr (c.At + 1)) ≤ (ln c.Code))) rfl (fun aG => ?_) (fun aG => ?_)
 ·have H := H.1 aG
  refine Wq (Wg (Lv ok 0 [(54, I aA), (2, I aA)] 2 rfl rfl (Ln _ rfl (W_ret ?_))))
  exact ⟨_, Ret_of [I aA] ⟨⟨rfl, rfl⟩, trivial⟩, _, _, _, H, rfl, ((((X.stepx X4).step y (Oe D _)).step aL (Md D Sd)).stepx aE), (aD.ext aE)⟩
 have H := H.2 aG
 refine Wk (Wq (Wg (Lv ok 0 [(55, pb b), (56, pb b), (57, .pointer (some ⟨b, 2, none⟩))] 3 rfl rfl ?_)))
 have aM := (aD.ext aE)
 refine Lb 3 (v := .int .u64 (IntKind.u64.wrap ((IntKind.u64.wrap ((IntKind.u64.wrap (c.Seed * 6364136223846793005)) + (IntKind.u64.wrap (aA)))) + 1442695040888963407))) rfl rfl rfl ti_68 ag_68 (fun _ => rfl) rfl aM rfl rfl (Lv ok 4 [(59, .int .u64 (Int.fdiv (IntKind.u64.wrap ((IntKind.u64.wrap ((IntKind.u64.wrap (c.Seed * 6364136223846793005)) + (IntKind.u64.wrap (aA)))) + 1442695040888963407)) (2 ^ 40))), (60, .int .u64 (bits .and .u64 (Int.fdiv (IntKind.u64.wrap ((IntKind.u64.wrap ((IntKind.u64.wrap (c.Seed * 6364136223846793005)) + (IntKind.u64.wrap (aA)))) + 1442695040888963407)) (2 ^ 40)) 255)), (61, I (wr (bits .and .u64 (Int.fdiv (IntKind.u64.wrap ((IntKind.u64.wrap ((IntKind.u64.wrap (c.Seed * 6364136223846793005)) + (IntKind.u64.wrap (aA)))) + 1442695040888963407)) (2 ^ 40)) 255))), (2, I (wr (bits .and .u64 (Int.fdiv (IntKind.u64.wrap ((IntKind.u64.wrap ((IntKind.u64.wrap (c.Seed * 6364136223846793005)) + (IntKind.u64.wrap (aA)))) + 1442695040888963407)) (2 ^ 40)) 255)))] 8 rfl rfl ?_)
 refine Ln _ rfl (W_ret ?_)
 exact ⟨_, Ret_of [I (wr (bits .and .u64 (Int.fdiv (IntKind.u64.wrap ((IntKind.u64.wrap ((IntKind.u64.wrap (c.Seed * 6364136223846793005)) + (IntKind.u64.wrap (aA)))) + 1442695040888963407)) (2 ^ 40)) 255))] ⟨⟨rfl, rfl⟩, trivial⟩, _, _, _, H, rfl, ((((X.stepx X4).step y (Oe D _)).step aL (Md D Sd)).stepx aE), aM⟩

theorem spec_l1Cur_pick_w (c : L1Cur) (n : Int) (Q : Int → Int → Int → Prop) (H : spec_l1Cur_pick c n Q) (w : World) {vx : Value} {hx : PH} (r : RS hx vx c.Code) (ex : Sub hx w) {b : Nat} (aH : Sub (bx b 70 [vx, I c.At, .int .u64 c.Seed]) w) (d : Dj (bx b 70 [vx, I c.At, .int .u64 c.Seed]) hx) :
  CallsTo Try.prog 53 #[pb b, I n] w fun v w' => ∃ aI m1_0 m1_1, Q aI m1_0 m1_1 ∧ v = I aI ∧ But (bx b 70 [vx, I c.At, .int .u64 c.Seed]) w w' ∧ Sub (bx b 70 [vx, I m1_0, .int .u64 m1_1]) w' := by
 obtain ⟨a, aB, rfl⟩ := r.shape
 refine enter (args := [pb b, I n]) 20 Try.func53 rfl rfl rfl ?_
 refine Wo [(0, pb b), (1, I n)] ⟨rfl, rfl, trivial⟩ fun ρ => ?_
 have D : Dom (bx b 70 [sl a c.Code aB, I c.At, .int .u64 c.Seed]) (bx b 70 [sl a c.Code aB, I c.At, .int .u64 c.Seed]) := (Or _)
 have X := Br (bx b 70 [sl a c.Code aB, I c.At, .int .u64 c.Seed]) w
 refine Wq (Wg (Lv ok 0 [(4, I 0)] 1 rfl rfl (Ln _ rfl (Wq (Wq (Wg (Lv ok 0 [(6, I n), (7, .bool (decide (n ≤ 1)))] 2 rfl rfl (Ln _ rfl ?_))))))))
 refine Wc (decide (n ≤ 1)) rfl (fun hc => ?_) (fun hc => ?_)
 ·have H := H.1 hc
  refine Wq (Wg (Lv ok 0 [(4, I 0)] 1 rfl rfl (Ln _ rfl (W_ret ?_))))
  exact ⟨_, Ret_of [I 0] ⟨⟨rfl, rfl⟩, trivial⟩, _, _, _, H, rfl, X, aH⟩
 have H := H.2 hc
 refine Wk (Wq (Wg (Lv ok 0 [(8, pb b)] 1 rfl rfl (Lc 1 rfl rfl rfl cal_95 rfl (spec_l1Cur_next_w _ _ H w r ex aH d) ?_))))
 rintro _ wx ⟨aA, aC, aD, H, rfl, x, aJ⟩
 refine Lv ok 2 [(5, I aA)] 3 rfl rfl (Ln _ rfl ?_)
 obtain ⟨k, hk, H⟩ := jn_elim H
 refine W_join2 (S := Int × Int × Int) (fun s ρ' w' => k s.1 s.2.1 s.2.2 ∧ ∃ (ρ : Env), ρ' = setAll [(1, I n), (5, I s.1)] ρ ∧ But (bx b 70 [sl a c.Code aB, I aC, .int .u64 aD]) wx w' ∧ Sub (bx b 70 [sl a c.Code aB, I s.2.1, .int .u64 s.2.2]) w') ?_ ?_
 ·refine Wq (Wg (Lv ok 0 [(10, I n), (11, .bool (decide (n > 200)))] 2 rfl rfl (Ln _ rfl ?_)))
  refine Wc (decide (n > 200)) rfl (fun aE => ?_) (fun aE => ?_)
  ·have H := H.1 aE
   refine Wg (Lv ok 0 [(12, I aA), (13, I (wr (aA * 256))), (14, pb b)] 3 rfl rfl (Lc 3 rfl rfl rfl cal_95 rfl (spec_l1Cur_next_w _ _ H wx r (ex.but x d) aJ (Db d)) ?_))
   rintro _ aP ⟨aF, aK, aL, H, rfl, aM, aN⟩
   refine Lv ok 4 [(16, I (wr ((wr (aA * 256)) + aF))), (5, I (wr ((wr (aA * 256)) + aF)))] 6 rfl rfl ?_
   exact Ln _ rfl ⟨(wr ((wr (aA * 256)) + aF), aK, aL), H, _, Ee ⟨rfl, rfl, trivial⟩, ((Br (bx b 70 [sl a c.Code aB, I aC, .int .u64 aD]) _).step aM (Oe (Or _) _)), aN⟩
  have H := H.2 aE
  exact Wk ⟨(aA, aC, aD), H, _, Ee ⟨rfl, rfl, trivial⟩, (Br _ _), aJ⟩
 rintro ⟨aG, atx, seed⟩ _ aQ ⟨H, ρ, rfl, X12, aO⟩
 subst hk
 refine Wq (Wg (Lv ok 0 [(17, I aG), (18, I n)] 2 rfl rfl ?_))
 obtain ⟨hz, H⟩ := H
 refine LP_val 2 _ rfl rfl (ex_rem rfl rfl rfl hz _) (Lv ok 3 [(4, I (Int.tmod aG n))] 4 rfl rfl (Ln _ rfl (W_ret ?_)))
 exact ⟨_, Ret_of [I (Int.tmod aG n)] ⟨⟨rfl, rfl⟩, trivial⟩, _, _, _, H, rfl, ((X.step x (Oe D _)).step X12 (Md D Sd)), aO⟩

theorem spec_l1Most_w (a : Int) (b : Int) (Q : Int → Prop) (H : spec_l1Most a b Q) (w : World)  :
  CallsTo Try.prog 103 #[I a, I b] w fun v w' => ∃ aA, Q aA ∧ v = I aA ∧ Ext w w' := by
 refine enter (args := [I a, I b]) 10 Try.func103 rfl rfl rfl ?_
 refine Wo [(0, I a), (1, I b)] ⟨rfl, rfl, trivial⟩ fun ρ => ?_
 have X := Br emp w
 refine Wq (Wg (Lv ok 0 [(4, I 0)] 1 rfl rfl (Ln _ rfl (Wq (Wq (Wg (Lv ok 0 [(5, I a), (6, I b), (7, .bool (decide (a > b)))] 3 rfl rfl (Ln _ rfl ?_))))))))
 refine Wc (decide (a > b)) rfl (fun hc => ?_) (fun hc => ?_)
 ·have H := H.1 hc
  refine Wq (Wg (Lv ok 0 [(8, I a), (4, I a)] 2 rfl rfl (Ln _ rfl (W_ret ?_))))
  exact ⟨_, Ret_of [I a] ⟨⟨rfl, rfl⟩, trivial⟩, _, H, rfl, X.ext⟩
 have H := H.2 hc
 refine Wk (Wq (Wg (Lv ok 0 [(9, I b), (4, I b)] 2 rfl rfl (Ln _ rfl (W_ret ?_)))))
 exact ⟨_, Ret_of [I b] ⟨⟨rfl, rfl⟩, trivial⟩, _, H, rfl, X.ext⟩

theorem spec_l1Cur_transport_w (c : L1Cur) (Q : Transport → Int → Int → Prop) (H : spec_l1Cur_transport c Q) (w : World) {vx : Value} {hx : PH} (r : RS hx vx c.Code) (ex : Sub hx w) {b : Nat} (cQ : Sub (bx b 70 [vx, I c.At, .int .u64 c.Seed]) w) (d : Dj (bx b 70 [vx, I c.At, .int .u64 c.Seed]) hx) :
  CallsTo Try.prog 92 #[pb b] w fun v w' => ∃ c8 m1_0 m1_1 u0_0 g0_0 u0_1 g0_1 u0_2 g0_2 u0_3 g0_3, Q c8 m1_0 m1_1 ∧ v = .agg #[u0_0, u0_1, u0_2, u0_3] ∧ But (bx b 70 [vx, I c.At, .int .u64 c.Seed]) w w' ∧ OS 3 g0_0 emp u0_0 c8.Rows ∧ Sub g0_0 w' ∧ Fresh w.heap.size g0_0 ∧ OS 3 g0_1 emp u0_1 c8.Cols ∧ Sub g0_1 w' ∧ Fresh w.heap.size g0_1 ∧ OD g0_2 u0_2 c8.Lo ∧ Sub g0_2 w' ∧ Fresh w.heap.size g0_2 ∧ OD g0_3 u0_3 c8.Hi ∧ Sub g0_3 w' ∧ Fresh w.heap.size g0_3 ∧ Sub (bx b 70 [vx, I m1_0, .int .u64 m1_1]) w' ∧ Dj g0_0 g0_1 ∧ Dj g0_0 g0_2 ∧ Dj g0_0 g0_3 ∧ Dj g0_0 (bx b 70 [vx, I m1_0, .int .u64 m1_1]) ∧ Dj g0_1 g0_2 ∧ Dj g0_1 g0_3 ∧ Dj g0_1 (bx b 70 [vx, I m1_0, .int .u64 m1_1]) ∧ Dj g0_2 g0_3 ∧ Dj g0_2 (bx b 70 [vx, I m1_0, .int .u64 m1_1]) ∧ Dj g0_3 (bx b 70 [vx, I m1_0, .int .u64 m1_1]) := by
 obtain ⟨a, aH, rfl⟩ := r.shape
 refine enter (args := [pb b]) 120 Try.func92 rfl rfl rfl ?_
 refine Wo [(0, pb b)] ⟨rfl, trivial⟩ fun ρ => ?_
 have D : Dom (bx b 70 [sl a c.Code aH, I c.At, .int .u64 c.Seed]) (bx b 70 [sl a c.Code aH, I c.At, .int .u64 c.Seed]) := (Or _)
 have X := Br (bx b 70 [sl a c.Code aH, I c.At, .int .u64 c.Seed]) w
 refine Wq (Wg (La 0 rfl rfl rfl ti_29 rfl fun a3 wx x jA f => (Ln _ rfl (Wq (Wg (Lv ok 0 [(14, pb b)] 1 rfl rfl ?_))))))
 have gB := (ex.ext x)
 refine Lc 1 rfl rfl rfl cal_53 rfl (spec_l1Cur_pick_w _ _ _ H wx r gB (cQ.ext x) d) ?_
 rintro _ jB ⟨aA, jC, jD, H, rfl, eM, jE⟩
 refine Lv ok 2 [(16, I (wr (1 + aA))), (17, pb b)] 4 rfl rfl ?_
 have gC := (gB.but eM d)
 refine Lc 4 rfl rfl rfl cal_53 rfl (spec_l1Cur_pick_w _ _ _ H jB r gC jE (Db d)) ?_
 rintro _ oE ⟨aB, dR, dS, H, rfl, eN, jF⟩
 refine Lv ok 5 [(19, I (wr (1 + aB))), (3, I (wr (1 + aA))), (4, I (wr (1 + aB)))] 8 rfl rfl (Ln _ rfl (Wq ?_))
 refine W_open mix fun oF dT => ?_
 have X22 := ((((X.stepx x).step eM (Oe D _)).step eN (Md D Sd)).stepx dT)
 have a7 := ((gC.but eN (Db d)).ext dT)
 have aV := (jF.ext dT)
 have dj : Dj (bx b 70 [sl a c.Code aH, I jC, .int .u64 jD]) (bx a3 29 [.slice none 0 0, .slice none 0 0, .slice none 0 0, .slice none 0 0]) := (Db (Df cQ f))
 have cC := (((jA.but eM (Df cQ f)).but eN dj).ext dT)
 have jG := f.mono X.size
 refine AP_gameT 6 [[], [0], [], [2], [0, 1, 2, 3], [], [0, 1, 2, 3, 4, 5]] [[(3, none)], [(20, some 0)], [(4, none)], [(22, some 2)], [(21, some 1), (23, some 3)], []] [(0, none), (2, none), (3, none), (4, none), (5, some 5), (24, some 4)] [0, 1, 2, 3, 4, 5] (by kernel_rfl) (by kernel_rfl) 6 ?_
 refine GT_ev 0 ok [(3, I (wr (1 + aA)))] (I (wr (1 + aA))) rfl (by kernel_rfl) rfl (fun _ h => h) (fun _ => rfl) ?_
 refine GT_ev 2 ok [(4, I (wr (1 + aB)))] (I (wr (1 + aB))) rfl (by kernel_rfl) rfl (fun _ h => h) (fun _ => rfl) ?_
 obtain ⟨hn, hb, H⟩ := H
 obtain ⟨jH, oG, H⟩ := H
 refine GT_makes 0 [⟨1, [(20, I (wr (1 + aA)))], fun v h => OS 3 h emp v (List.replicate (Int.toNat (wr (1 + aA))) ((0 : Int)))⟩, ⟨3, [(22, I (wr (1 + aB)))], fun v h => OS 3 h emp v (List.replicate (Int.toNat (wr (1 + aB))) ((0 : Int)))⟩, ⟨5, [], fun v h => ∃ b, v = pb b ∧ h = bx b 29 [.slice none 0 0, .slice none 0 0, .slice none 0 0, .slice none 0 0]⟩] [⟨4, [1, 3], fun d => [(21, (d.getD 0 undef)), (23, (d.getD 1 undef))], fun d => .agg #[(d.getD 0 undef), (d.getD 1 undef), .slice none 0 0, .slice none 0 0]⟩] rfl (by kernel_rfl) ⟨Mkr.lp rfl rfl (fun _ h => h) rfl fun _ _ => LP_make (α := Int) 0 rfl rfl rfl Try.underlying22 ti_3 (x0 := (0 : Int)) rfl rfl hn (by first | omega | (simp only [ln] at *; omega)) (by first | omega | (simp only [ln] at *; omega)) fun h v w x o e f => LP_gs ⟨x, h, o, e, f⟩, Mkr.lp rfl rfl (fun _ h => h) rfl fun _ _ => LP_make (α := Int) 0 rfl rfl rfl Try.underlying22 ti_3 (x0 := (0 : Int)) rfl rfl jH (by first | omega | (simp only [ln] at *; omega)) (by first | omega | (simp only [ln] at *; omega)) fun h v w x o e f => LP_gs ⟨x, h, o, e, f⟩, Mkr.lp rfl rfl (fun _ h => h) rfl fun _ _ => La 0 rfl rfl rfl ti_29 rfl fun b w x e f => LP_gs ⟨x, _, ⟨b, rfl, rfl⟩, e, f⟩, trivial⟩ ⟨Qt.ev ok rfl rfl (fun _ _ h => h) (fun u ρ S => by obtain ⟨t, jI, -, -⟩ := S; obtain ⟨_, o⟩ := t (by show (1 : Nat) ∈ [1, 3]; decide); obtain ⟨_, _, jJ⟩ := o.shape; obtain ⟨_, o⟩ := jI (by show (3 : Nat) ∈ [1, 3]; decide); obtain ⟨_, _, jK⟩ := o.shape; show evOp _ _ (setAll [(21, u 1), (23, u 3)] ρ) _ = some (.agg #[u 1, u 3, .slice none 0 0, .slice none 0 0]); rw [show u 1 = _ from jJ, show u 3 = _ from jK]; rfl), trivial⟩ ⟨trivial, trivial, trivial, trivial⟩ (fun _ _ _ h e ρ hn => e ρ (by rw [h]; exact hn)) fun oH dU oI dV o jL b1 _ oJ dW gD jM b2 jN oK oL jO jP aK jQ => ?_
 obtain ⟨aD, aE, rfl⟩ := o.shape
 obtain ⟨aF, aG, rfl⟩ := gD.shape
 obtain ⟨jR, -⟩ := jN
 obtain ⟨aC, rfl, rfl⟩ := jO
 obtain ⟨gE, gF, -⟩ := jQ
 show GT _ _ _ _ _ _ _ _ _ ((1, .slice aD (List.length (List.replicate (Int.toNat (wr (1 + aA))) ((0 : Int)))) aE) :: (3, .slice aF (List.length (List.replicate (Int.toNat (wr (1 + aB))) ((0 : Int)))) aG) :: (5, pb aC) :: (4, .agg #[.slice aD (List.length (List.replicate (Int.toNat (wr (1 + aA))) ((0 : Int)))) aE, .slice aF (List.length (List.replicate (Int.toNat (wr (1 + aB))) ((0 : Int)))) aG, .slice none 0 0, .slice none 0 0]) :: _) _ _
 refine GT_end (by kernel_rfl) ?_
 intro oM cD ρ jS
 refine AP_forget [(0, pb b), (2, pb a3), (3, I (wr (1 + aA))), (4, I (wr (1 + aB))), (5, pb aC), (24, .agg #[.slice aD (List.length (List.replicate (Int.toNat (wr (1 + aA))) ((0 : Int)))) aE, .slice aF (List.length (List.replicate (Int.toNat (wr (1 + aB))) ((0 : Int)))) aG, .slice none 0 0, .slice none 0 0])] (by exact jS) fun ρ => ?_
 refine AP_tail 6 [[], [0], [], [2], [0, 1, 2, 3], [], [0, 1, 2, 3, 4, 5]] (by kernel_rfl) ?_
 refine Lx 6 (vs := [.slice aD (List.length (List.replicate (Int.toNat (wr (1 + aA))) ((0 : Int)))) aE, .slice aF (List.length (List.replicate (Int.toNat (wr (1 + aB))) ((0 : Int)))) aG, .slice none 0 0, .slice none 0 0]) (cs' := [.slice aD (List.length (List.replicate (Int.toNat (wr (1 + aA))) ((0 : Int)))) aE, .slice aF (List.length (List.replicate (Int.toNat (wr (1 + aB))) ((0 : Int)))) aG, .slice none 0 0, .slice none 0 0]) rfl rfl rfl ti_29 rfl rfl rfl rfl rfl (jP.ext cD) rfl rfl fun b3 jT y => ?_
 refine Ln _ rfl (Wq (Wq (Wg (Lv ok 0 [(6, I 0)] 1 rfl rfl (Ln _ rfl (W_block ?_))))))
 obtain ⟨U, hU⟩ : ∃ U : PH, U = (un (bx b 70 [sl a c.Code aH, I dR, .int .u64 dS]) (un dV (un dW (bx aC 29 [.slice aD (List.length (List.replicate (Int.toNat (wr (1 + aA))) ((0 : Int)))) aE, .slice aF (List.length (List.replicate (Int.toNat (wr (1 + aB))) ((0 : Int)))) aG, .slice none 0 0, .slice none 0 0])))) := ⟨_, rfl⟩
 have D87 : Dom U (bx b 70 [sl a c.Code aH, I dR, .int .u64 dS]) := Dom.eqv hU (Dom.l _ _)
 have D88 : Dom U dV := Dom.eqv hU (Ot (Dom.r _ _) (Dom.l _ _))
 have D89 : Dom U dW := Dom.eqv hU (Ot (Dom.r _ _) (Ot (Dom.r _ _) (Dom.l _ _)))
 have D90 : Dom U (bx aC 29 [.slice aD (List.length (List.replicate (Int.toNat (wr (1 + aA))) ((0 : Int)))) aE, .slice aF (List.length (List.replicate (Int.toNat (wr (1 + aB))) ((0 : Int)))) aG, .slice none 0 0, .slice none 0 0]) := Dom.eqv hU (Ot (Dom.r _ _) (Ot (Dom.r _ _) (Ot (Dom.r _ _) (Or _))))
 have jU := b1.mono X22.size
 have jV := b2.mono X22.size
 have jW := (Df aV aK).symm
 have jX := (Df aV b1).symm
 have jY : Dj dV (bx aC 29 [.slice aD (List.length (List.replicate (Int.toNat (wr (1 + aA))) ((0 : Int)))) aE, .slice aF (List.length (List.replicate (Int.toNat (wr (1 + aB))) ((0 : Int)))) aG, .slice none 0 0, .slice none 0 0]) := (Db gF.symm.symm).symm
 have jZ := (Df aV b2).symm
 have j0 : Dj dW (bx aC 29 [.slice aD (List.length (List.replicate (Int.toNat (wr (1 + aA))) ((0 : Int)))) aE, .slice aF (List.length (List.replicate (Int.toNat (wr (1 + aB))) ((0 : Int)))) aG, .slice none 0 0, .slice none 0 0]) := (Db gE.symm.symm).symm
 obtain ⟨J, m, Hx, H⟩ := H
 refine W_loop (S := Int × Int × Int × (List Int) × (List Int) × (List (List Int)) × (List (List Int))) (fun s ρ' w' => J s.1 s.2.1 s.2.2.1 s.2.2.2.1 s.2.2.2.2.1 s.2.2.2.2.2.1 s.2.2.2.2.2.2 ∧ ∃ (ρ : Env) (aW : PH) (aR : PH) (cE : Value) (bF : PH) (cF : Value) (bG : PH), ρ' = setAll [(0, pb b), (2, pb a3), (3, I (wr (1 + aA))), (4, I (wr (1 + aB))), (5, pb aC), (6, I s.1)] ρ ∧ But U b3 w' ∧ OS 3 aW emp (.slice aD (List.length (List.replicate (Int.toNat (wr (1 + aA))) ((0 : Int)))) aE) s.2.2.2.1 ∧ Sub aW w' ∧ DomLe U b3.heap.size aW ∧ Fresh w.heap.size aW ∧ OS 3 aR emp (.slice aF (List.length (List.replicate (Int.toNat (wr (1 + aB))) ((0 : Int)))) aG) s.2.2.2.2.1 ∧ Sub aR w' ∧ DomLe U b3.heap.size aR ∧ Fresh w.heap.size aR ∧ OD bF cE s.2.2.2.2.2.1 ∧ Sub bF w' ∧ DomLe U b3.heap.size bF ∧ Fresh w.heap.size bF ∧ OD bG cF s.2.2.2.2.2.2 ∧ Sub bG w' ∧ DomLe U b3.heap.size bG ∧ Fresh w.heap.size bG ∧ Sub (bx b 70 [sl a c.Code aH, I s.2.1, .int .u64 s.2.2.1]) w' ∧ Sub (bx aC 29 [.slice aD (List.length (List.replicate (Int.toNat (wr (1 + aA))) ((0 : Int)))) aE, .slice aF (List.length (List.replicate (Int.toNat (wr (1 + aB))) ((0 : Int)))) aG, cE, cF]) w' ∧ Dj aW (bx b 70 [sl a c.Code aH, I s.2.1, .int .u64 s.2.2.1]) ∧ Dj aW (bx aC 29 [.slice aD (List.length (List.replicate (Int.toNat (wr (1 + aA))) ((0 : Int)))) aE, .slice aF (List.length (List.replicate (Int.toNat (wr (1 + aB))) ((0 : Int)))) aG, cE, cF]) ∧ Dj aR (bx b 70 [sl a c.Code aH, I s.2.1, .int .u64 s.2.2.1]) ∧ Dj aR (bx aC 29 [.slice aD (List.length (List.replicate (Int.toNat (wr (1 + aA))) ((0 : Int)))) aE, .slice aF (List.length (List.replicate (Int.toNat (wr (1 + aB))) ((0 : Int)))) aG, cE, cF]) ∧ Dj aR aW ∧ Dj bF (bx b 70 [sl a c.Code aH, I s.2.1, .int .u64 s.2.2.1]) ∧ Dj bF (bx aC 29 [.slice aD (List.length (List.replicate (Int.toNat (wr (1 + aA))) ((0 : Int)))) aE, .slice aF (List.length (List.replicate (Int.toNat (wr (1 + aB))) ((0 : Int)))) aG, cE, cF]) ∧ Dj bF aW ∧ Dj bF aR ∧ Dj bG (bx b 70 [sl a c.Code aH, I s.2.1, .int .u64 s.2.2.1]) ∧ Dj bG (bx aC 29 [.slice aD (List.length (List.replicate (Int.toNat (wr (1 + aA))) ((0 : Int)))) aE, .slice aF (List.length (List.replicate (Int.toNat (wr (1 + aB))) ((0 : Int)))) aG, cE, cF]) ∧ Dj bG aW ∧ Dj bG aR ∧ Dj bG bF) (fun s => m s.1 s.2.1 s.2.2.1 s.2.2.2.1 s.2.2.2.2.1 s.2.2.2.2.2.1 s.2.2.2.2.2.2) (0, dR, dS, List.replicate (Int.toNat (wr (1 + aA))) ((0 : Int)), List.replicate (Int.toNat (wr (1 + aB))) ((0 : Int)), [], []) ⟨Hx, _, dV, dW, .slice none 0 0, emp, .slice none 0 0, emp, Ee ⟨rfl, rfl, rfl, rfl, rfl, rfl, trivial⟩, (Br _ _), o, ((jL.ext cD).but y gF), (Oe D88 _), jU, gD, ((jM.ext cD).but y gE), (Oe D89 _), jV, OD.nil, (emp_sub _), (fun _ _ _ => rfl), (emp_fresh _), OD.nil, (emp_sub _), (fun _ _ _ => rfl), (emp_fresh _), ((aV.ext (dU.trans cD)).but y jW), jT, jX, jY, jZ, j0, jR, (fun _ => .inl rfl), (fun _ => .inl rfl), (fun _ => .inl rfl), (fun _ => .inl rfl), (fun _ => .inl rfl), (fun _ => .inl rfl), (fun _ => .inl rfl), (fun _ => .inl rfl), (fun _ => .inl rfl)⟩ ?_
 rintro ⟨i, atx, seed, rows, cols, lo, hi⟩ _ a8 ⟨Hi, ρ, aW, aR, cE, bF, cF, bG, rfl, HF⟩
 revert HF
 refine bb9 fun X115 cR dX dY b4 c9 cS eO => ?_
 refine bb9 fun cG eP bT gG eQ eR bL gH => ?_
 refine bb9 fun gI gJ dZ a9 cT aS dA cU => ?_
 refine bb9 fun cV cW gK gL dB cH gM gN d0 => ?_
 have H := H i atx seed rows cols lo hi Hi
 obtain ⟨aL, aM, rfl⟩ := eP.shape
 obtain ⟨aI, aJ, rfl⟩ := eR.shape
 refine Wq (Wq (Wg (Lv ok 0 [(25, I i), (26, I (wr (1 + aA))), (27, .bool (decide (i < (wr (1 + aA)))))] 3 rfl rfl (Ln _ rfl ?_))))
 refine Wc (decide (i < (wr (1 + aA)))) rfl (fun hc => ?_) (fun hc => ?_)
 ·have H := H.1 hc
  refine Wk (Wq (W_block (Wq (Wg (Lv ok 0 [(7, .slice none 0 0), (8, .slice none 0 0)] 2 rfl rfl (Ln _ rfl (Wq (Wq (Wg ?_)))))))))
  refine Lv ok 0 [(9, I 0)] 1 rfl rfl (Ln _ rfl (W_block ?_))
  obtain ⟨U153, hU154⟩ : ∃ U : PH, U = (un (bx b 70 [sl a c.Code aH, I atx, .int .u64 seed]) (un aW (un aR (bx aC 29 [.slice aD (List.length (List.replicate (Int.toNat (wr (1 + aA))) ((0 : Int)))) aE, .slice aF (List.length (List.replicate (Int.toNat (wr (1 + aB))) ((0 : Int)))) aG, sl aL lo aM, sl aI hi aJ])))) := ⟨_, rfl⟩
  have D155 : Dom U153 (bx b 70 [sl a c.Code aH, I atx, .int .u64 seed]) := Dom.eqv hU154 (Dom.l _ _)
  have D156 : Dom U153 aW := Dom.eqv hU154 (Ot (Dom.r _ _) (Dom.l _ _))
  have D157 : Dom U153 aR := Dom.eqv hU154 (Ot (Dom.r _ _) (Ot (Dom.r _ _) (Dom.l _ _)))
  obtain ⟨J184, j1, Hx186, H⟩ := H
  refine W_loop (S := (List Int) × (List Int) × Int × Int × Int × (List Int) × (List Int)) (fun s ρ' w' => J184 s.1 s.2.1 s.2.2.1 s.2.2.2.1 s.2.2.2.2.1 s.2.2.2.2.2.1 s.2.2.2.2.2.2 ∧ ∃ (ρ : Env) (eS : Value) (bH : PH) (eT : Value) (bI : PH) (bA : PH) (bB : PH), ρ' = setAll [(0, pb b), (2, pb a3), (3, I (wr (1 + aA))), (4, I (wr (1 + aB))), (5, pb aC), (6, I i), (7, eS), (8, eT), (9, I s.2.2.1)] ρ ∧ But U153 a8 w' ∧ OS 3 bH emp eS s.1 ∧ Sub bH w' ∧ DomLe U153 a8.heap.size bH ∧ Fresh w.heap.size bH ∧ OS 3 bI emp eT s.2.1 ∧ Sub bI w' ∧ DomLe U153 a8.heap.size bI ∧ Fresh w.heap.size bI ∧ OS 3 bA emp (.slice aD (List.length (List.replicate (Int.toNat (wr (1 + aA))) ((0 : Int)))) aE) s.2.2.2.2.2.1 ∧ Sub bA w' ∧ DomLe U153 a8.heap.size bA ∧ Fresh w.heap.size bA ∧ OS 3 bB emp (.slice aF (List.length (List.replicate (Int.toNat (wr (1 + aB))) ((0 : Int)))) aG) s.2.2.2.2.2.2 ∧ Sub bB w' ∧ DomLe U153 a8.heap.size bB ∧ Fresh w.heap.size bB ∧ Sub (bx b 70 [sl a c.Code aH, I s.2.2.2.1, .int .u64 s.2.2.2.2.1]) w' ∧ Sub (bx aC 29 [.slice aD (List.length (List.replicate (Int.toNat (wr (1 + aA))) ((0 : Int)))) aE, .slice aF (List.length (List.replicate (Int.toNat (wr (1 + aB))) ((0 : Int)))) aG, sl aL lo aM, sl aI hi aJ]) w' ∧ Dj bH (bx b 70 [sl a c.Code aH, I s.2.2.2.1, .int .u64 s.2.2.2.2.1]) ∧ Dj bH (bx aC 29 [.slice aD (List.length (List.replicate (Int.toNat (wr (1 + aA))) ((0 : Int)))) aE, .slice aF (List.length (List.replicate (Int.toNat (wr (1 + aB))) ((0 : Int)))) aG, sl aL lo aM, sl aI hi aJ]) ∧ Dj bI (bx b 70 [sl a c.Code aH, I s.2.2.2.1, .int .u64 s.2.2.2.2.1]) ∧ Dj bI (bx aC 29 [.slice aD (List.length (List.replicate (Int.toNat (wr (1 + aA))) ((0 : Int)))) aE, .slice aF (List.length (List.replicate (Int.toNat (wr (1 + aB))) ((0 : Int)))) aG, sl aL lo aM, sl aI hi aJ]) ∧ Dj bI bH ∧ Dj bA (bx b 70 [sl a c.Code aH, I s.2.2.2.1, .int .u64 s.2.2.2.2.1]) ∧ Dj bA (bx aC 29 [.slice aD (List.length (List.replicate (Int.toNat (wr (1 + aA))) ((0 : Int)))) aE, .slice aF (List.length (List.replicate (Int.toNat (wr (1 + aB))) ((0 : Int)))) aG, sl aL lo aM, sl aI hi aJ]) ∧ Dj bA bH ∧ Dj bA bI ∧ Dj bB (bx b 70 [sl a c.Code aH, I s.2.2.2.1, .int .u64 s.2.2.2.2.1]) ∧ Dj bB (bx aC 29 [.slice aD (List.length (List.replicate (Int.toNat (wr (1 + aA))) ((0 : Int)))) aE, .slice aF (List.length (List.replicate (Int.toNat (wr (1 + aB))) ((0 : Int)))) aG, sl aL lo aM, sl aI hi aJ]) ∧ Dj bB bH ∧ Dj bB bI ∧ Dj bB bA) (fun s => j1 s.1 s.2.1 s.2.2.1 s.2.2.2.1 s.2.2.2.2.1 s.2.2.2.2.2.1 s.2.2.2.2.2.2) ([], [], 0, atx, seed, rows, cols) ⟨Hx186, _, .slice none 0 0, emp, .slice none 0 0, emp, aW, aR, Ee ⟨rfl, rfl, rfl, rfl, rfl, rfl, rfl, rfl, rfl, trivial⟩, (Br _ _), OS.nil, (emp_sub _), (fun _ _ _ => rfl), (emp_fresh _), OS.nil, (emp_sub _), (fun _ _ _ => rfl), (emp_fresh _), cR, dX, (Oe D156 _), b4, c9, cS, (Oe D157 _), cG, gJ, dZ, (fun _ => .inl rfl), (fun _ => .inl rfl), (fun _ => .inl rfl), (fun _ => .inl rfl), (fun _ => .inl rfl), a9, cT, (fun _ => .inr rfl), (fun _ => .inr rfl), aS, dA, (fun _ => .inr rfl), (fun _ => .inr rfl), cU⟩ ?_
  rintro ⟨aO, a0, j, cI, cJ, eU, eV⟩ _ j2 ⟨Hi, ρ, eS, bH, eT, bI, bA, bB, rfl, HF⟩
  revert HF
  refine bb9 fun X183 eW gO d1 eX eY dC d2 => ?_
  refine bb9 fun eZ e0 dD d3 e1 e2 dE d4 => ?_
  refine bb9 fun gP d5 cX cK d6 bM d7 e3 => ?_
  refine bb9 fun bN cY d8 e4 bU cZ d9 eA e5 => ?_
  have H := H aO a0 j cI cJ eU eV Hi
  obtain ⟨e6, e7, rfl⟩ := eW.shape
  obtain ⟨e8, e9, rfl⟩ := eY.shape
  refine Wq (Wq (Wg (Lv ok 0 [(30, I j), (31, I (wr (1 + aB))), (32, .bool (decide (j < (wr (1 + aB)))))] 3 rfl rfl (Ln _ rfl ?_))))
  refine Wc (decide (j < (wr (1 + aB)))) rfl (fun fA => ?_) (fun fA => ?_)
  ·have H := H.1 fA
   refine Wk (Wq (W_block (Wq (Wg (Lv ok 0 [(35, pb b)] 1 rfl rfl ?_)))))
   have fB := (dU.trans cD)
   have gQ := (Df a7 aK).symm
   have j3 := (Df a7 b1).symm
   have j4 := (Df a7 b2).symm
   have j5 : Dj (bx aC 29 [.slice aD (List.length (List.replicate (Int.toNat (wr (1 + aA))) ((0 : Int)))) aE, .slice aF (List.length (List.replicate (Int.toNat (wr (1 + aB))) ((0 : Int)))) aG, .slice none 0 0, .slice none 0 0]) hx := (Db (Df a7 aK).symm)
   have fC : Dj U hx := (Dj.eqv hU (Dl (Db d) (Dl j3 (Dl j4 j5))))
   have gR := ((a7.ext fB).but y gQ)
   have j6 : Dj (bx aC 29 [.slice aD (List.length (List.replicate (Int.toNat (wr (1 + aA))) ((0 : Int)))) aE, .slice aF (List.length (List.replicate (Int.toNat (wr (1 + aB))) ((0 : Int)))) aG, sl aL lo aM, sl aI hi aJ]) hx := (Db (Df a7 aK).symm)
   have j7 : Dj U153 hx := (Dj.eqv hU154 (Dl (Db d) (Dl (Mj dY fC gR) (Dl (Mj eO fC gR) j6))))
   have gS := ((((a7.ext fB).but y gQ).but X115 fC).but X183 j7)
   refine Lc 1 rfl rfl rfl cal_53 rfl (spec_l1Cur_pick_w _ _ _ H j2 r gS d5 (Db d)) ?_
   rintro _ j8 ⟨aP, j9, kA, H, rfl, aX, kB⟩
   refine Lv ok 2 [(10, I aP)] 3 rfl rfl (Ln _ rfl (Wq (Wg (Lv ok 0 [(37, I aP), (38, pb b)] 2 rfl rfl ?_))))
   have gT := (gS.but aX (Db d))
   refine Lc 2 rfl rfl rfl cal_53 rfl (spec_l1Cur_pick_w _ _ _ H j8 r gT kB (Db d)) ?_
   rintro _ kC ⟨kD, kE, kF, H, rfl, aY, kG⟩
   refine Lv ok 3 [(40, I (wr (aP - kD)))] 4 rfl rfl (Lc 4 rfl rfl rfl cal_103 rfl (spec_l1Most_w _ _ _ H kC ) ?_)
   rintro _ kH ⟨b5, H, rfl, aT⟩
   refine Lv ok 5 [(42, I aP), (43, pb b)] 7 rfl rfl (Lc 7 rfl rfl rfl cal_53 rfl (spec_l1Cur_pick_w _ _ _ H kH r ((gT.but aY (Db d)).ext aT) (kG.ext aT) (Db d)) ?_)
   rintro _ oN ⟨bV, dF, dG, H, rfl, a1, gU⟩
   refine Lv ok 8 [(45, I (wr (aP + bV))), (11, I b5), (12, I (wr (aP + bV)))] 11 rfl rfl (Ln _ rfl (Wq (Wg (Lv ok 0 [(46, sl e6 aO e7), (47, I b5)] 2 rfl rfl (LP_lit (α := Int) (g := emp) 2 (vs := [I b5]) (xs := [b5]) rfl rfl rfl Try.underlying22 ti_3 rfl rfl ⟨⟨_, rfl, rfl⟩, trivial⟩ rfl rfl fun oO oP oQ aU gV kI oR => ?_)))))
   obtain ⟨oS, oT, rfl⟩ := gV.shape
   obtain ⟨oU, H⟩ := H
   refine LP_appendf (α := Int) 3 rfl rfl rfl Try.underlying22 ti_3 rfl rfl rfl eW (((((gO.but aX cK.symm).but aY (Db cK.symm)).ext aT).but a1 (Db cK.symm)).ext aU) gV.readf kI (by first | omega | (simp only [ln] at *; omega)) (by first | omega | (simp only [ln] at *; omega)) fun gW oV oW gX gY a4 dm => ?_
   obtain ⟨fD, fE, rfl⟩ := gX.shape
   refine Lv ok 4 [(7, .slice fD (List.length (aO ++ ([b5]))) fE)] 5 rfl rfl (Ln _ rfl (Wq (Wg (Lv ok 0 [(50, sl e8 a0 e9), (51, I (wr (aP + bV)))] 2 rfl rfl (LP_lit (α := Int) (g := emp) 2 (vs := [I (wr (aP + bV))]) (xs := [wr (aP + bV)]) rfl rfl rfl Try.underlying22 ti_3 rfl rfl ⟨⟨_, rfl, rfl⟩, trivial⟩ rfl rfl fun oX oY oZ aZ gZ kJ o0 => ?_)))))
   obtain ⟨o1, o2, rfl⟩ := gZ.shape
   obtain ⟨o3, H⟩ := H
   refine LP_appendf (α := Int) 3 rfl rfl rfl Try.underlying22 ti_3 rfl rfl rfl eY (((((((dC.but aX bM.symm).but aY (Db bM.symm)).ext aT).but a1 (Db bM.symm)).ext aU).but a4 e3.symm).ext aZ) gZ.readf kJ (by first | omega | (simp only [ln] at *; omega)) (by first | omega | (simp only [ln] at *; omega)) fun g0 o4 o5 g1 fF bC cL => ?_
   obtain ⟨fG, fH, rfl⟩ := g1.shape
   refine Lv ok 4 [(8, .slice fG (List.length (a0 ++ ([wr (aP + bV)]))) fH)] 5 rfl rfl (Ln _ rfl ?_)
   try refine Wo [(0, pb b), (2, pb a3), (3, I (wr (1 + aA))), (4, I (wr (1 + aB))), (5, pb aC), (6, I i), (7, .slice fD (List.length (aO ++ ([b5]))) fE), (8, .slice fG (List.length (a0 ++ ([wr (aP + bV)]))) fH), (9, I j), (10, I aP)] ⟨rfl, rfl, rfl, rfl, rfl, rfl, rfl, rfl, rfl, rfl, trivial⟩ fun ρ => ?_
   refine Wq (Wg (Lv ok 0 [(54, pb aC)] 1 rfl rfl ?_))
   have g2 : Dj (bx b 70 [sl a c.Code aH, I cI, .int .u64 cJ]) (bx aC 29 [.slice aD (List.length (List.replicate (Int.toNat (wr (1 + aA))) ((0 : Int)))) aE, .slice aF (List.length (List.replicate (Int.toNat (wr (1 + aB))) ((0 : Int)))) aG, sl aL lo aM, sl aI hi aJ]) := (Db (Db (Df aV aK)).symm).symm
   have g3 : Dj (bx b 70 [sl a c.Code aH, I j9, .int .u64 kA]) (bx aC 29 [.slice aD (List.length (List.replicate (Int.toNat (wr (1 + aA))) ((0 : Int)))) aE, .slice aF (List.length (List.replicate (Int.toNat (wr (1 + aB))) ((0 : Int)))) aG, sl aL lo aM, sl aI hi aJ]) := (Db (Db (Df aV aK)).symm).symm
   have g4 : Dj (bx b 70 [sl a c.Code aH, I kE, .int .u64 kF]) (bx aC 29 [.slice aD (List.length (List.replicate (Int.toNat (wr (1 + aA))) ((0 : Int)))) aE, .slice aF (List.length (List.replicate (Int.toNat (wr (1 + aB))) ((0 : Int)))) aG, sl aL lo aM, sl aI hi aJ]) := (Db (Db (Df aV aK)).symm).symm
   have fI := ((((((((cX.but aX g2).but aY g3).ext aT).but a1 g4).ext aU).but a4 d6).ext aZ).but bC d7)
   refine Lb 1 (v := .slice aD (List.length (List.replicate (Int.toNat (wr (1 + aA))) ((0 : Int)))) aE) rfl rfl rfl ti_22 ag_22 (fun _ => rfl) rfl fI rfl rfl (Lv ok 2 [(56, I i)] 3 rfl rfl ?_)
   obtain ⟨g5, kK, kL, H⟩ := H
   refine Li 3 rfl rfl rfl Try.underlying22 ti_3 rfl rfl e0.readf kK kL fun o6 cs kM kN => ?_
   have g6 := ((((((((dD.but aX bN.symm).but aY (Db bN.symm)).ext aT).but a1 (Db bN.symm)).ext aU).but a4 d8.symm).ext aZ).but bC e4.symm)
   refine Lo 4 rfl rfl rfl ti_3 ag_3 rfl kM kN g6 fun o7 kO => ?_
   obtain rfl := kO.int
   refine Lv ok 5 [(59, I aP), (60, I (wr (g5 + aP)))] 7 rfl rfl ?_
   obtain ⟨kP, hl, H⟩ := H
   refine LP_indexw (v := .slice aD (List.length (List.replicate (Int.toNat (wr (1 + aA))) ((0 : Int)))) aE) 7 rfl rfl rfl Try.underlying22 ti_3 rfl rfl e0 kP hl fun o8 wa => (LP_set 8 rfl rfl rfl rfl rfl wa (Le.refl emp) ⟨_, rfl, rfl⟩ g6 fun g7 o9 kQ g8 bJ cM => (Ln _ rfl (Wg (Lv ok 0 [(62, .pointer (some ⟨aC, 1, none⟩))] 1 rfl rfl ?_))))
   have fJ := (fI.but bJ cY)
   refine Lb 1 (v := .slice aF (List.length (List.replicate (Int.toNat (wr (1 + aB))) ((0 : Int)))) aG) rfl rfl rfl ti_22 ag_22 (fun _ => rfl) rfl fJ rfl rfl (Lv ok 2 [(64, I j)] 3 rfl rfl ?_)
   obtain ⟨g9, kR, kS, H⟩ := H
   refine Li 3 rfl rfl rfl Try.underlying22 ti_3 rfl rfl e2.readf kR kS fun pA pB kT kU => ?_
   have hA := (((((((((dE.but aX bU.symm).but aY (Db bU.symm)).ext aT).but a1 (Db bU.symm)).ext aU).but a4 d9.symm).ext aZ).but bC eA.symm).but bJ e5.symm)
   refine Lo 4 rfl rfl rfl ti_3 ag_3 rfl kT kU hA fun pC kV => ?_
   obtain rfl := kV.int
   refine Lv ok 5 [(67, I aP), (68, I (wr (g9 + aP)))] 7 rfl rfl ?_
   obtain ⟨kW, kX, H⟩ := H
   refine LP_indexw (v := .slice aF (List.length (List.replicate (Int.toNat (wr (1 + aB))) ((0 : Int)))) aG) 7 rfl rfl rfl Try.underlying22 ti_3 rfl rfl e2 kW kX fun pD kY => (LP_set 8 rfl rfl rfl rfl rfl kY (Le.refl emp) ⟨_, rfl, rfl⟩ hA fun hB pE kZ k0 c0 cN => (Ln _ rfl (Wg (Lv ok 0 [(33, I j), (34, I (wr (j + 1))), (9, I (wr (j + 1)))] 3 rfl rfl ?_))))
   refine Ln _ rfl ?_
   have dl : DomLe U153 a8.heap.size bH := (Mt (Oe (Or _) _) d1 (Nat.le_refl _))
   have hC : DomLe U153 a8.heap.size bI := (Mt (Oe (Or _) _) d2 (Nat.le_refl _))
   have hD : DomLe U153 a8.heap.size bA := (Mt (Oe (Or _) _) d3 (Nat.le_refl _))
   have hE : DomLe U153 a8.heap.size bB := (Mt (Oe (Or _) _) d4 (Nat.le_refl _))
   have fK := (Mj dm e3.symm (((((dC.but aX bM.symm).but aY (Db bM.symm)).ext aT).but a1 (Db bM.symm)).ext aU)).symm
   have hF := (((((dD.but aX bN.symm).but aY (Db bN.symm)).ext aT).but a1 (Db bN.symm)).ext aU)
   have fL := (Mj dm d8.symm hF).symm
   have hG := (((((dE.but aX bU.symm).but aY (Db bU.symm)).ext aT).but a1 (Db bU.symm)).ext aU)
   have hH := (Mj dm d9.symm hG).symm
   have k1 := aK.mono X22.size
   have k2 := b1.mono X22.size
   have k3 := b2.mono X22.size
   have k4 := aK.mono X22.size
   have k5 := aK.mono X22.size
   have X329 := (((((((((X22.stepx fB).step y (k1.dom _)).step X115 (DomLe.eqv hU (Mu (Md D Sd) (Mu (k2.dom _) (Mu (k3.dom _) ((Fresh.box k4).dom _)))))).step X183 (DomLe.eqv hU154 (Mu (Md D Sd) (Mu (b4.dom _) (Mu (cG.dom _) ((Fresh.box k5).dom _)))))).step aX (Md D Sd)).step aY (Md D Sd)).stepx aT).step a1 (Md D Sd)).stepx aU)
   have k6 := dm.fresh eX X329.size
   have fM := (Mj cL e4.symm ((hF.but a4 d8.symm).ext aZ)).symm
   have hI := ((hG.but a4 d9.symm).ext aZ)
   have hJ := (Mj cL eA.symm hI).symm
   have X337 := ((X329.step a4 (eX.dom _)).stepx aZ)
   have k7 := cL.fresh eZ X337.size
   have hK := (Mj (cM _) e5.symm (hI.but bC eA.symm)).symm
   have X344 := (X337.step bC (eZ.dom _))
   have k8 := (cM _).fresh e1 X344.size
   have k9 := (cN _).fresh gP (X344.step bJ (e1.dom _)).size
   have hL := (gU.ext aU)
   have lA : Dj gW (bx b 70 [sl a c.Code aH, I dF, .int .u64 dG]) := (Mj dm (Db cK.symm).symm hL)
   have hM := (((((cX.but aX g2).but aY g3).ext aT).but a1 g4).ext aU)
   have hN := ((hL.but a4 (Db cK.symm).symm).ext aZ)
   have lB : Dj g0 (bx b 70 [sl a c.Code aH, I dF, .int .u64 dG]) := (Mj cL (Db bM.symm).symm hN)
   have hO := (gY.ext aZ)
   have hP := (hN.but bC (Db bM.symm).symm)
   have lC : Dj g7 (bx b 70 [sl a c.Code aH, I dF, .int .u64 dG]) := (Mj (cM _) (Db bN.symm).symm hP)
   have hQ := (hO.but bC fK)
   have lD : Dj hB (bx b 70 [sl a c.Code aH, I dF, .int .u64 dG]) := (Mj (cN _) (Db bU.symm).symm (hP.but bJ (Db bN.symm).symm))
   exact ⟨(aO ++ ([b5]), a0 ++ ([wr (aP + bV)]), wr (j + 1), dF, dG, List.set eU (Int.toNat i) (wr (g5 + aP)), List.set eV (Int.toNat j) (wr (g9 + aP))), ⟨H.1, _, .slice fD (List.length (aO ++ ([b5]))) fE, gW, .slice fG (List.length (a0 ++ ([wr (aP + bV)]))) fH, g0, g7, hB, Ee ⟨rfl, rfl, rfl, rfl, rfl, rfl, rfl, rfl, rfl, trivial⟩, ((((((((((((Br U153 _).step X183 (Oe (Or _) _)).step aX (Md D155 Sd)).step aY (Md D155 Sd)).stepx aT).step a1 (Md D155 Sd)).stepx aU).step a4 dl).stepx aZ).step bC hC).step bJ hD).step c0 hE), gX, ((((gY.ext aZ).but bC fK).but bJ fL).but c0 hH), (Mt dl dm (Nat.le_trans (Nat.le_trans (Nat.le_trans (Nat.le_trans (Nat.le_trans X183.size aX.size) aY.size) aT.size) a1.size) aU.size)), k6, g1, ((fF.but bJ fM).but c0 hJ), (Mt hC cL (Nat.le_trans (Nat.le_trans (Nat.le_trans (Nat.le_trans (Nat.le_trans (Nat.le_trans (Nat.le_trans X183.size aX.size) aY.size) aT.size) a1.size) aU.size) a4.size) aZ.size)), k7, kQ, (g8.but c0 hK), (Mt hD (cM _) (Nat.le_trans (Nat.le_trans (Nat.le_trans (Nat.le_trans (Nat.le_trans (Nat.le_trans (Nat.le_trans (Nat.le_trans X183.size aX.size) aY.size) aT.size) a1.size) aU.size) a4.size) aZ.size) bC.size)), k8, kZ, k0, (Mt hE (cN _) (Nat.le_trans (Nat.le_trans (Nat.le_trans (Nat.le_trans (Nat.le_trans (Nat.le_trans (Nat.le_trans (Nat.le_trans (Nat.le_trans X183.size aX.size) aY.size) aT.size) a1.size) aU.size) a4.size) aZ.size) bC.size) bJ.size)), k9, ((((((gU.ext aU).but a4 (Db cK.symm).symm).ext aZ).but bC (Db bM.symm).symm).but bJ (Db bN.symm).symm).but c0 (Db bU.symm).symm), (fJ.but c0 cZ), lA, (Mj dm d6 hM), lB, (Mj cL d7 ((hM.but a4 d6).ext aZ)), (Mj cL fK hO), lC, (Mj (cM _) cY fI), (Mj (cM _) fL hQ), (Mj (cM _) fM fF), lD, (Mj (cN _) cZ fJ), (Mj (cN _) hH (hQ.but bJ fL)), (Mj (cN _) hJ (fF.but bJ fM)), (Mj (cN _) hK g8)⟩, H.2⟩
  have H := H.2 fA
  refine W_exit ?_
  refine (if_pos rfl).mpr ?_
  refine Wq (Wg (Lv ok 0 [(70, .pointer (some ⟨aC, 2, none⟩))] 1 rfl rfl (Lb 1 (v := sl aL lo aM) rfl rfl rfl ti_23 ag_23 (fun _ => rfl) rfl cX rfl rfl (Lv ok 2 [(72, sl e6 aO e7)] 3 rfl rfl (LP_litD (α := List Int) 3 (vs := [sl e6 aO e7]) (xs := [aO]) rfl rfl rfl Try.underlying23 ti_22 rfl rfl (allO.one (OD.rvo (OS.od eW))) gO rfl rfl fun pF pG pH aQ hR lE bW => ?_)))))
  obtain ⟨pI, pJ, rfl⟩ := hR.shape
  have c1 := (Dl cV.symm (Dl gK.symm (Dl gL.symm cW.symm)))
  have lF := (Mj bW (Mj d1 (Dj.eqv hU154 c1) bT) (bT.but X183 (Dj.eqv hU154 c1))).symm
  obtain ⟨pK, H⟩ := H
  refine LP_appendD (α := List Int) 4 rfl rfl rfl Try.underlying23 ti_22 rfl rfl rfl eP ((bT.but X183 (Dj.eqv hU154 c1)).ext aQ) hR lE lF (by first | omega | (simp only [ln] at *; omega)) (by first | omega | (simp only [ln] at *; omega)) fun dH pL pM hw hS hT a5 dh bO => ?_
  obtain ⟨bP, bQ, rfl⟩ := hS.shape
  refine Lv ok 5 [(75, .pointer (some ⟨aC, 2, none⟩))] 6 rfl rfl (Lx 6 (vs := [.slice bP (List.length (lo ++ ([aO]))) bQ]) (cs' := [.slice aD (List.length (List.replicate (Int.toNat (wr (1 + aA))) ((0 : Int)))) aE, .slice aF (List.length (List.replicate (Int.toNat (wr (1 + aB))) ((0 : Int)))) aG, .slice bP (List.length (lo ++ ([aO]))) bQ, sl aI hi aJ]) rfl rfl rfl ti_23 rfl rfl rfl rfl rfl ((cX.ext aQ).but (But.dom a5 dh) (Db cW.symm).symm) rfl rfl fun pN eB a2 => ?_)
  refine Ln _ rfl (Wg (Lv ok 0 [(76, .pointer (some ⟨aC, 3, none⟩))] 1 rfl rfl (Lb 1 (v := sl aI hi aJ) rfl rfl rfl ti_23 ag_23 (fun _ => rfl) rfl eB rfl rfl (Lv ok 2 [(78, sl e8 a0 e9)] 3 rfl rfl ?_))))
  have hV := (Mj d2 (Dj.eqv hU154 c1) bT).symm
  refine LP_litD (α := List Int) 3 (vs := [sl e8 a0 e9]) (xs := [a0]) rfl rfl rfl Try.underlying23 ti_22 rfl rfl (allO.one (OD.rvo (OS.od eY))) (((dC.ext aQ).but (But.dom a5 dh) hV).but a2 d7.symm) rfl rfl fun lG pO pP a6 hW lH b6 => ?_
  obtain ⟨pQ, pR, rfl⟩ := hW.shape
  have cO := (Dl dB.symm (Dl gM.symm (Dl gN.symm cH.symm)))
  have lI := (Mj b6 (Mj d2 (Dj.eqv hU154 cO) bL) ((((bL.but X183 (Dj.eqv hU154 cO)).ext aQ).but (But.dom a5 dh) d0.symm).but a2 (Db cH.symm))).symm
  obtain ⟨pS, H⟩ := H
  refine LP_appendD (α := List Int) 4 rfl rfl rfl Try.underlying23 ti_22 rfl rfl rfl eR (((((bL.but X183 (Dj.eqv hU154 cO)).ext aQ).but (But.dom a5 dh) d0.symm).but a2 (Db cH.symm)).ext a6) hW lH lI (by first | omega | (simp only [ln] at *; omega)) (by first | omega | (simp only [ln] at *; omega)) fun eC pT pU pV hX lJ c2 c3 b7 => ?_
  obtain ⟨dI, dJ, rfl⟩ := hX.shape
  refine Lv ok 5 [(81, .pointer (some ⟨aC, 3, none⟩))] 6 rfl rfl (Lx 6 (vs := [.slice dI (List.length (hi ++ ([a0]))) dJ]) (cs' := [.slice aD (List.length (List.replicate (Int.toNat (wr (1 + aA))) ((0 : Int)))) aE, .slice aF (List.length (List.replicate (Int.toNat (wr (1 + aB))) ((0 : Int)))) aG, .slice bP (List.length (lo ++ ([aO]))) bQ, .slice dI (List.length (hi ++ ([a0]))) dJ]) rfl rfl rfl ti_23 rfl rfl rfl rfl rfl ((eB.ext a6).but (But.dom c2 c3) (Db cH.symm).symm) rfl rfl fun pW lK c4 => ?_)
  refine Ln _ rfl (Wg (Lv ok 0 [(28, I i), (29, I (wr (i + 1))), (6, I (wr (i + 1)))] 3 rfl rfl (Ln _ rfl ?_)))
  have dK : DomLe U b3.heap.size U153 := (DomLe.eqv hU154 (Mu (Md D87 Sd) (Mu (Mt (Oe (Or _) _) dY (Nat.le_refl _)) (Mu (Mt (Oe (Or _) _) eO (Nat.le_refl _)) (Md D90 Sd)))))
  have hY : DomLe U b3.heap.size bF := (Mt (Oe (Or _) _) gG (Nat.le_refl _))
  have hZ : DomLe U b3.heap.size bG := (Mt (Oe (Or _) _) gH (Nat.le_refl _))
  have fN := (Mj d3 (Dj.eqv hU154 c1) bT).symm
  have h0 := (Mj d3 (Dj.eqv hU154 cO) bL).symm
  have fO := (Mj d4 (Dj.eqv hU154 c1) bT).symm
  have h1 := (Mj d4 (Dj.eqv hU154 cO) bL).symm
  have fP := (Mj bW d6 cX)
  have fQ := (cX.ext aQ)
  have h2 : Dj (bx aC 29 [.slice aD (List.length (List.replicate (Int.toNat (wr (1 + aA))) ((0 : Int)))) aE, .slice aF (List.length (List.replicate (Int.toNat (wr (1 + aB))) ((0 : Int)))) aG, sl aL lo aM, sl aI hi aJ]) dH := (Mj bO (Dl (Db cW.symm).symm fP) fQ).symm
  have h3 := (bL.but X183 (Dj.eqv hU154 cO))
  have h4 := (Mj bO (Dl d0.symm (Mj bW (Mj d1 (Dj.eqv hU154 cO) bL) h3)) (h3.ext aQ)).symm
  have lL : Dj (bx aC 29 [.slice aD (List.length (List.replicate (Int.toNat (wr (1 + aA))) ((0 : Int)))) aE, .slice aF (List.length (List.replicate (Int.toNat (wr (1 + aB))) ((0 : Int)))) aG, .slice bP (List.length (lo ++ ([aO]))) bQ, sl aI hi aJ]) dH := (Db (Mj bO (Dl (Db cW.symm).symm fP) fQ).symm)
  have lM := aK.mono X22.size
  have lN := b1.mono X22.size
  have lO := b2.mono X22.size
  have lP := aK.mono X22.size
  have h5 := aK.mono X22.size
  have X477 := ((((X22.stepx (dU.trans cD)).step y (lM.dom _)).step X115 (DomLe.eqv hU (Mu (Md D Sd) (Mu (lN.dom _) (Mu (lO.dom _) ((Fresh.box lP).dom _)))))).step X183 (DomLe.eqv hU154 (Mu (Md D Sd) (Mu (b4.dom _) (Mu (cG.dom _) ((Fresh.box h5).dom _))))))
  have lQ := DomLe.fresh bW eX X477.size
  have X479 := (X477.stepx aQ)
  have lR := DomLe.fresh bO (Fresh.un eQ lQ) X479.size
  have h6 : Dj lG (bx aC 29 [.slice aD (List.length (List.replicate (Int.toNat (wr (1 + aA))) ((0 : Int)))) aE, .slice aF (List.length (List.replicate (Int.toNat (wr (1 + aB))) ((0 : Int)))) aG, .slice bP (List.length (lo ++ ([aO]))) bQ, sl aI hi aJ]) := (Mj b6 (Db d7.symm).symm eB)
  have h7 := (eB.ext a6)
  have lS : Dj (bx aC 29 [.slice aD (List.length (List.replicate (Int.toNat (wr (1 + aA))) ((0 : Int)))) aE, .slice aF (List.length (List.replicate (Int.toNat (wr (1 + aB))) ((0 : Int)))) aG, .slice bP (List.length (lo ++ ([aO]))) bQ, sl aI hi aJ]) eC := (Mj b7 (Dl (Db cH.symm).symm h6) h7).symm
  have X489 := ((X479.step (But.dom a5 dh) (eQ.dom _)).step a2 ((Fresh.box h5).dom _))
  have lT := DomLe.fresh b6 eZ X489.size
  have lU := DomLe.fresh b7 (Fresh.un gI lT) (X489.stepx a6).size
  have h8 : Dj (bx aC 29 [.slice aD (List.length (List.replicate (Int.toNat (wr (1 + aA))) ((0 : Int)))) aE, .slice aF (List.length (List.replicate (Int.toNat (wr (1 + aB))) ((0 : Int)))) aG, sl aL lo aM, sl aI hi aJ]) (bx b 70 [sl a c.Code aH, I cI, .int .u64 cJ]) := (Db (Db (Df aV aK).symm).symm).symm
  have lV : Dj (bx aC 29 [.slice aD (List.length (List.replicate (Int.toNat (wr (1 + aA))) ((0 : Int)))) aE, .slice aF (List.length (List.replicate (Int.toNat (wr (1 + aB))) ((0 : Int)))) aG, .slice bP (List.length (lo ++ ([aO]))) bQ, sl aI hi aJ]) (bx b 70 [sl a c.Code aH, I cI, .int .u64 cJ]) := (Db (Db (Df aV aK).symm).symm).symm
  have h9 := (d5.ext aQ)
  have lW : Dj dH (bx b 70 [sl a c.Code aH, I cI, .int .u64 cJ]) := (Mj bO (Dl (Db cV.symm).symm (Mj bW cK d5)) h9)
  have lX : Dj dH (bx aC 29 [.slice aD (List.length (List.replicate (Int.toNat (wr (1 + aA))) ((0 : Int)))) aE, .slice aF (List.length (List.replicate (Int.toNat (wr (1 + aB))) ((0 : Int)))) aG, .slice bP (List.length (lo ++ ([aO]))) bQ, .slice dI (List.length (hi ++ ([a0]))) dJ]) := (Db (Mj bO (Dl (Db cW.symm).symm fP) fQ).symm).symm
  have iA := (dD.ext aQ)
  have iB := (dE.ext aQ)
  have iC := ((h9.but (But.dom a5 dh) (Db cV.symm).symm).but a2 h8)
  have lY : Dj eC (bx b 70 [sl a c.Code aH, I cI, .int .u64 cJ]) := (Mj b7 (Dl (Db dB.symm).symm (Mj b6 bM iC)) (iC.ext a6))
  have lZ : Dj eC (bx aC 29 [.slice aD (List.length (List.replicate (Int.toNat (wr (1 + aA))) ((0 : Int)))) aE, .slice aF (List.length (List.replicate (Int.toNat (wr (1 + aB))) ((0 : Int)))) aG, .slice bP (List.length (lo ++ ([aO]))) bQ, .slice dI (List.length (hi ++ ([a0]))) dJ]) := (Db (Mj b7 (Dl (Db cH.symm).symm h6) h7).symm).symm
  have iD := ((iA.but (But.dom a5 dh) fN).but a2 cY.symm)
  have iE := ((iB.but (But.dom a5 dh) fO).but a2 cZ.symm)
  have l0 := (Mj bO (Dl hV (Mj bW e3.symm dC)) (dC.ext aQ)).symm
  have iF := (hT.but a2 h2)
  exact ⟨(wr (i + 1), cI, cJ, eU, eV, lo ++ ([aO]), hi ++ ([a0])), ⟨H.1, _, bA, bB, .slice bP (List.length (lo ++ ([aO]))) bQ, dH, .slice dI (List.length (hi ++ ([a0]))) dJ, eC, Ee ⟨rfl, rfl, rfl, rfl, rfl, rfl, trivial⟩, (((((((((Br U _).step X115 (Oe (Or _) _)).step X183 dK).stepx aQ).step (But.dom a5 dh) hY).step a2 (Md D90 Sd)).stepx a6).step (But.dom c2 c3) hZ).step c4 (Md D90 Sd)), e0, ((((((dD.ext aQ).but (But.dom a5 dh) fN).but a2 cY.symm).ext a6).but (But.dom c2 c3) h0).but c4 (Db cY.symm)), (Mt dK d3 X115.size), e1, e2, ((((((dE.ext aQ).but (But.dom a5 dh) fO).but a2 cZ.symm).ext a6).but (But.dom c2 c3) h1).but c4 (Db cZ.symm)), (Mt dK d4 X115.size), gP, hS, ((((hT.but a2 h2).ext a6).but (But.dom c2 c3) h4).but c4 lL), (Mt (Mu hY (Mt (Mt dK d1 X115.size) bW (Nat.le_trans X115.size X183.size))) bO (Nat.le_trans (Nat.le_trans X115.size X183.size) aQ.size)), lR, hX, (lJ.but c4 lS), (Mt (Mu hZ (Mt (Mt dK d2 X115.size) b6 (Nat.le_trans (Nat.le_trans (Nat.le_trans (Nat.le_trans X115.size X183.size) aQ.size) (But.dom a5 dh).size) a2.size))) b7 (Nat.le_trans (Nat.le_trans (Nat.le_trans (Nat.le_trans (Nat.le_trans X115.size X183.size) aQ.size) (But.dom a5 dh).size) a2.size) a6.size)), lU, ((((((d5.ext aQ).but (But.dom a5 dh) (Db cV.symm).symm).but a2 h8).ext a6).but (But.dom c2 c3) (Db dB.symm).symm).but c4 lV), lK, bN, (Db cY.symm).symm, bU, (Db cZ.symm).symm, e5, lW, lX, (Mj bO (Dl fN (Mj bW d8.symm dD)) iA), (Mj bO (Dl fO (Mj bW d9.symm dE)) iB), lY, lZ, (Mj b7 (Dl h0 (Mj b6 e4.symm iD)) (iD.ext a6)), (Mj b7 (Dl h1 (Mj b6 eA.symm iE)) (iE.ext a6)), (Mj b7 (Dl h4 (Mj b6 l0 iF)) (iF.ext a6))⟩, H.2⟩
 have H := H.2 hc
 refine W_exit ?_
 refine (if_pos rfl).mpr ?_
 have dL := (dU.trans cD)
 have l1 := aK.mono X22.size
 have l2 := b1.mono X22.size
 have l3 := b2.mono X22.size
 have iG := aK.mono X22.size
 have X537 := (((X22.stepx dL).step y (l1.dom _)).step X115 (DomLe.eqv hU (Mu (Md D Sd) (Mu (l2.dom _) (Mu (l3.dom _) ((Fresh.box iG).dom _))))))
 have iH := (Df a7 aK).symm
 have l4 := (Df a7 b1).symm
 have l5 := (Df a7 b2).symm
 have l6 : Dj (bx aC 29 [.slice aD (List.length (List.replicate (Int.toNat (wr (1 + aA))) ((0 : Int)))) aE, .slice aF (List.length (List.replicate (Int.toNat (wr (1 + aB))) ((0 : Int)))) aG, .slice none 0 0, .slice none 0 0]) hx := (Db (Df a7 aK).symm)
 have iI : Dj U hx := (Dj.eqv hU (Dl (Db d) (Dl l4 (Dl l5 l6))))
 have fR := (((a7.ext dL).but y iH).but X115 iI)
 have iJ := (Df cC aK).symm
 have l7 : Dj (bx b 70 [sl a c.Code aH, I dR, .int .u64 dS]) (bx a3 29 [.slice none 0 0, .slice none 0 0, .slice none 0 0, .slice none 0 0]) := (Db (Df cQ f))
 have l8 := (Df cC b1).symm
 have l9 := (Df cC b2).symm
 have mA : Dj (bx aC 29 [.slice aD (List.length (List.replicate (Int.toNat (wr (1 + aA))) ((0 : Int)))) aE, .slice aF (List.length (List.replicate (Int.toNat (wr (1 + aB))) ((0 : Int)))) aG, .slice none 0 0, .slice none 0 0]) (bx a3 29 [.slice none 0 0, .slice none 0 0, .slice none 0 0, .slice none 0 0]) := (Db (Df cC aK).symm)
 have dM := (Dl l7 (Dl l8 (Dl l9 mA)))
 have fS := (((cC.ext dL).but y iJ).but X115 (Dj.eqv hU dM))
 obtain ⟨U570, hU571⟩ : ∃ U : PH, U = (un (bx b 70 [sl a c.Code aH, I atx, .int .u64 seed]) (un aW (un aR (bx aC 29 [.slice aD (List.length (List.replicate (Int.toNat (wr (1 + aA))) ((0 : Int)))) aE, .slice aF (List.length (List.replicate (Int.toNat (wr (1 + aB))) ((0 : Int)))) aG, sl aL lo aM, sl aI hi aJ])))) := ⟨_, rfl⟩
 have D572 : Dom U570 (bx b 70 [sl a c.Code aH, I atx, .int .u64 seed]) := Dom.eqv hU571 (Dom.l _ _)
 have D573 : Dom U570 aW := Dom.eqv hU571 (Ot (Dom.r _ _) (Dom.l _ _))
 have D574 : Dom U570 aR := Dom.eqv hU571 (Ot (Dom.r _ _) (Ot (Dom.r _ _) (Dom.l _ _)))
 obtain ⟨k, hk, H⟩ := jn_elim H
 refine W_join2 (S := Int × Int × (List Int) × (List Int)) (fun s ρ' w' => k s.1 s.2.1 s.2.2.1 s.2.2.2 ∧ ∃ (ρ : Env) (b8 : PH) (b9 : PH), ρ' = setAll [(2, pb a3), (5, pb aC)] ρ ∧ But U570 a8 w' ∧ OS 3 b8 emp (.slice aD (List.length (List.replicate (Int.toNat (wr (1 + aA))) ((0 : Int)))) aE) s.2.2.1 ∧ Sub b8 w' ∧ DomLe U570 a8.heap.size b8 ∧ Fresh w.heap.size b8 ∧ OS 3 b9 emp (.slice aF (List.length (List.replicate (Int.toNat (wr (1 + aB))) ((0 : Int)))) aG) s.2.2.2 ∧ Sub b9 w' ∧ DomLe U570 a8.heap.size b9 ∧ Fresh w.heap.size b9 ∧ Sub (bx b 70 [sl a c.Code aH, I s.1, .int .u64 s.2.1]) w' ∧ Sub (bx aC 29 [.slice aD (List.length (List.replicate (Int.toNat (wr (1 + aA))) ((0 : Int)))) aE, .slice aF (List.length (List.replicate (Int.toNat (wr (1 + aB))) ((0 : Int)))) aG, sl aL lo aM, sl aI hi aJ]) w' ∧ Dj b8 (bx b 70 [sl a c.Code aH, I s.1, .int .u64 s.2.1]) ∧ Dj b8 (bx aC 29 [.slice aD (List.length (List.replicate (Int.toNat (wr (1 + aA))) ((0 : Int)))) aE, .slice aF (List.length (List.replicate (Int.toNat (wr (1 + aB))) ((0 : Int)))) aG, sl aL lo aM, sl aI hi aJ]) ∧ Dj b9 (bx b 70 [sl a c.Code aH, I s.1, .int .u64 s.2.1]) ∧ Dj b9 (bx aC 29 [.slice aD (List.length (List.replicate (Int.toNat (wr (1 + aA))) ((0 : Int)))) aE, .slice aF (List.length (List.replicate (Int.toNat (wr (1 + aB))) ((0 : Int)))) aG, sl aL lo aM, sl aI hi aJ]) ∧ Dj b9 b8) ?_ ?_
 ·refine Wq (Wg (Lv ok 0 [(82, pb b)] 1 rfl rfl (Lc 1 rfl rfl rfl cal_53 rfl (spec_l1Cur_pick_w _ _ _ H a8 r fR gJ (Db d)) ?_)))
  rintro _ mB ⟨c5, fT, fU, H, rfl, aN, fV⟩
  refine Ln _ rfl (W_block (Wq (Wg (Lv ok 0 [(85, .bool (c5 == 0)), (84, .bool (c5 == 0))] 2 rfl rfl (Ln _ rfl ?_)))))
  refine Wc (c5 == 0) rfl (fun fW => ?_) (fun fW => ?_)
  ·have H := H.1 fW
   refine Wq (Wg (Lv ok 0 [(86, pb b)] 1 rfl rfl ?_))
   have iK := (fR.but aN (Db d))
   refine Lc 1 rfl rfl rfl cal_53 rfl (spec_l1Cur_pick_w _ _ _ H mB r iK fV (Db d)) ?_
   rintro _ pX ⟨bD, mC, mD, H, rfl, bX, mE⟩
   refine Lv ok 2 [(13, I bD)] 3 rfl rfl (Ln _ rfl (Wq ?_))
   refine W_open mix fun pY iL => ?_
   refine AP_game 8 [[], [0], [], [], [2, 3], [0, 1, 2, 3, 4], [0, 1, 2, 3, 4, 5], [], [0, 1, 2, 3, 4, 5, 6, 7], [0, 1, 2, 3, 4, 5, 6, 7, 8], [0, 1, 2, 3, 4, 5, 6, 7, 8, 9]] [[(5, none)], [(88, some 0)], [(0, none)], [(3, none)], [(90, some 2), (91, some 3)], [(89, some 1), (92, some 4)], [(93, some 5)], [(13, none)]] [(0, none), (2, none), (4, none), (5, none), (13, none), (89, some 1), (92, some 4), (94, some 6), (95, some 7)] [(0, false), (1, false), (2, false), (3, false), (7, false), (4, true), (5, false), (6, false)] (by kernel_rfl) (by kernel_rfl) ?_
   refine GS_ev ok [(5, pb aC)] (pb aC) rfl rfl (fun _ h => h) (fun _ => rfl) ?_
   have mF : Dj (bx b 70 [sl a c.Code aH, I atx, .int .u64 seed]) (bx aC 29 [.slice aD (List.length (List.replicate (Int.toNat (wr (1 + aA))) ((0 : Int)))) aE, .slice aF (List.length (List.replicate (Int.toNat (wr (1 + aB))) ((0 : Int)))) aG, sl aL lo aM, sl aI hi aJ]) := (Db (Db (Df aV aK)).symm).symm
   have mG : Dj (bx b 70 [sl a c.Code aH, I fT, .int .u64 fU]) (bx aC 29 [.slice aD (List.length (List.replicate (Int.toNat (wr (1 + aA))) ((0 : Int)))) aE, .slice aF (List.length (List.replicate (Int.toNat (wr (1 + aB))) ((0 : Int)))) aG, sl aL lo aM, sl aI hi aJ]) := (Db (Db (Df aV aK)).symm).symm
   have eD := (((dZ.but aN mF).but bX mG).ext iL)
   refine GS_r1 [(88, pb aC)] (.slice aD (List.length (List.replicate (Int.toNat (wr (1 + aA))) ((0 : Int)))) aE) rfl rfl (fun _ h => h) (fun _ w e => ex_ldbox rfl ti_22 ag_22 (fun _ => rfl) rfl e rfl rfl) eD ?_
   refine GS_ev ok [(0, pb b)] (pb b) rfl rfl (fun _ h => h) (fun _ => rfl) ?_
   refine GS_ev ok [(3, I (wr (1 + aA)))] (I (wr (1 + aA))) rfl rfl (fun _ h => h) (fun _ => rfl) ?_
   refine GS_ev ok [(13, I bD)] (I bD) rfl rfl (fun _ h => h) (fun _ => rfl) ?_
   refine GS_lp [(90, pb b), (91, I (wr (1 + aA)))] rfl rfl (fun _ h => h) rfl fun ρ mH eE => ?_
   have bY := (iL.trans eE)
   have iM := ((iK.but bX (Db d)).ext bY)
   refine Lc 0 rfl rfl rfl cal_53 rfl (spec_l1Cur_pick_w _ _ _ H mH r iM (mE.ext bY) (Db d)) ?_
   rintro _ pZ ⟨fX, iN, iO, H, rfl, bK, iP⟩
   have fY : Dj (bx b 70 [sl a c.Code aH, I mC, .int .u64 mD]) (bx aC 29 [.slice aD (List.length (List.replicate (Int.toNat (wr (1 + aA))) ((0 : Int)))) aE, .slice aF (List.length (List.replicate (Int.toNat (wr (1 + aB))) ((0 : Int)))) aG, sl aL lo aM, sl aI hi aJ]) := (Db (Db (Df aV aK)).symm).symm
   refine LP_gs ⟨⟨.inr ((eD.ext eE).but bK fY), trivial⟩, ?_⟩
   obtain ⟨dN, mI, mJ, H⟩ := H
   obtain ⟨iQ, p0, mK, mL, mM⟩ := run_indexAt Try.underlying22 ti_3 cR.readf .i64 _ dN mI mJ
   refine GS_r0 [(89, .slice aD (List.length (List.replicate (Int.toNat (wr (1 + aA))) ((0 : Int)))) aE), (92, I fX)] (.pointer (some iQ)) rfl rfl (fun _ h => h) (fun _ _ => ex_index rfl rfl rfl (mK _)) ?_
   obtain ⟨p1, mN, mO⟩ := run_loadAt ti_3 ag_3 mL mM
   obtain rfl := mO.int
   have iR := ((((dX.but aN a9.symm).but bX (Db a9.symm)).ext bY).but bK (Db a9.symm))
   refine GS_r1 [(93, .pointer (some iQ))] (I dN) rfl rfl (fun _ h => h) (fun _ w e => ex_load rfl rfl (mN w e)) iR ?_
   intro p2 bE ρ mP
   refine AP_forget [(0, pb b), (2, pb a3), (4, I (wr (1 + aB))), (5, pb aC), (13, I bD), (89, .slice aD (List.length (List.replicate (Int.toNat (wr (1 + aA))) ((0 : Int)))) aE), (92, I fX), (94, I dN), (95, I bD)] (by exact mP) fun ρ => ?_
   refine AP_tail 8 [[], [0], [], [], [2, 3], [0, 1, 2, 3, 4], [0, 1, 2, 3, 4, 5], [], [0, 1, 2, 3, 4, 5, 6, 7], [0, 1, 2, 3, 4, 5, 6, 7, 8], [0, 1, 2, 3, 4, 5, 6, 7, 8, 9]] (by kernel_rfl) ?_
   refine Lv ok 8 [(96, I (wr (dN + bD)))] 9 rfl rfl ?_
   obtain ⟨mQ, mR, H⟩ := H
   refine LP_indexw (v := .slice aD (List.length (List.replicate (Int.toNat (wr (1 + aA))) ((0 : Int)))) aE) 9 rfl rfl rfl Try.underlying22 ti_3 rfl rfl cR mQ mR fun p3 mS => (LP_set 10 rfl rfl rfl rfl rfl mS (Le.refl emp) ⟨_, rfl, rfl⟩ (iR.ext bE) fun fZ p4 mT iS cP c6 => (Ln _ rfl ?_))
   refine W_open mix fun p5 iT => ?_
   refine AP_game 8 [[], [0], [], [], [2, 3], [0, 1, 2, 3, 4], [0, 1, 2, 3, 4, 5], [], [0, 1, 2, 3, 4, 5, 6, 7], [0, 1, 2, 3, 4, 5, 6, 7, 8], [0, 1, 2, 3, 4, 5, 6, 7, 8, 9]] [[(5, none)], [(98, some 0)], [(0, none)], [(4, none)], [(100, some 2), (101, some 3)], [(99, some 1), (102, some 4)], [(103, some 5)], [(13, none)]] [(2, none), (5, none), (99, some 1), (102, some 4), (104, some 6), (105, some 7)] [(0, false), (1, false), (2, false), (3, false), (7, false), (4, true), (5, false), (6, false)] (by kernel_rfl) (by kernel_rfl) ?_
   refine GS_ev ok [(5, pb aC)] (.pointer (some ⟨aC, 1, none⟩)) rfl rfl (fun _ h => h) (fun _ => rfl) ?_
   have eF := (((((eD.ext eE).but bK fY).ext bE).but cP cT).ext iT)
   refine GS_r1 [(98, .pointer (some ⟨aC, 1, none⟩))] (.slice aF (List.length (List.replicate (Int.toNat (wr (1 + aB))) ((0 : Int)))) aG) rfl rfl (fun _ h => h) (fun _ w e => ex_ldbox rfl ti_22 ag_22 (fun _ => rfl) rfl e rfl rfl) eF ?_
   refine GS_ev ok [(0, pb b)] (pb b) rfl rfl (fun _ h => h) (fun _ => rfl) ?_
   refine GS_ev ok [(4, I (wr (1 + aB)))] (I (wr (1 + aB))) rfl rfl (fun _ h => h) (fun _ => rfl) ?_
   refine GS_ev ok [(13, I bD)] (I bD) rfl rfl (fun _ h => h) (fun _ => rfl) ?_
   refine GS_lp [(100, pb b), (101, I (wr (1 + aB)))] rfl rfl (fun _ h => h) rfl fun ρ mU eG => ?_
   have cA := (iT.trans eG)
   refine Lc 0 rfl rfl rfl cal_53 rfl (spec_l1Cur_pick_w _ _ _ H mU r ((((iM.but bK (Db d)).ext bE).but cP (Mj dY iI ((a7.ext dL).but y iH))).ext cA) (((iP.ext bE).but cP (Db a9.symm).symm).ext cA) (Db d)) ?_
   rintro _ p6 ⟨f0, f1, f2, H, rfl, bZ, iU⟩
   have f3 : Dj (bx b 70 [sl a c.Code aH, I iN, .int .u64 iO]) (bx aC 29 [.slice aD (List.length (List.replicate (Int.toNat (wr (1 + aA))) ((0 : Int)))) aE, .slice aF (List.length (List.replicate (Int.toNat (wr (1 + aB))) ((0 : Int)))) aG, sl aL lo aM, sl aI hi aJ]) := (Db (Db (Df aV aK)).symm).symm
   refine LP_gs ⟨⟨.inr ((eF.ext eG).but bZ f3), trivial⟩, ?_⟩
   obtain ⟨dO, mV, mW, H⟩ := H
   obtain ⟨iV, p7, mX, mY, mZ⟩ := run_indexAt Try.underlying22 ti_3 c9.readf .i64 _ dO mV mW
   refine GS_r0 [(99, .slice aF (List.length (List.replicate (Int.toNat (wr (1 + aB))) ((0 : Int)))) aG), (102, I f0)] (.pointer (some iV)) rfl rfl (fun _ h => h) (fun _ _ => ex_index rfl rfl rfl (mX _)) ?_
   obtain ⟨p8, m0, m1⟩ := run_loadAt ti_3 ag_3 mY mZ
   obtain rfl := m1.int
   have iW := ((((((((cS.but aN aS.symm).but bX (Db aS.symm)).ext bY).but bK (Db aS.symm)).ext bE).but cP cU.symm).ext cA).but bZ (Db aS.symm))
   refine GS_r1 [(103, .pointer (some iV))] (I dO) rfl rfl (fun _ h => h) (fun _ w e => ex_load rfl rfl (m0 w e)) iW ?_
   intro p9 bR ρ m2
   refine AP_forget [(2, pb a3), (5, pb aC), (99, .slice aF (List.length (List.replicate (Int.toNat (wr (1 + aB))) ((0 : Int)))) aG), (102, I f0), (104, I dO), (105, I bD)] (by exact m2) fun ρ => ?_
   refine AP_tail 8 [[], [0], [], [], [2, 3], [0, 1, 2, 3, 4], [0, 1, 2, 3, 4, 5], [], [0, 1, 2, 3, 4, 5, 6, 7], [0, 1, 2, 3, 4, 5, 6, 7, 8], [0, 1, 2, 3, 4, 5, 6, 7, 8, 9]] (by kernel_rfl) ?_
   refine Lv ok 8 [(106, I (wr (dO + bD)))] 9 rfl rfl ?_
   obtain ⟨m3, m4, H⟩ := H
   refine LP_indexw (v := .slice aF (List.length (List.replicate (Int.toNat (wr (1 + aB))) ((0 : Int)))) aG) 9 rfl rfl rfl Try.underlying22 ti_3 rfl rfl c9 m3 m4 fun qA m5 => (LP_set 10 rfl rfl rfl rfl rfl m5 (Le.refl emp) ⟨_, rfl, rfl⟩ (iW.ext bR) fun iX qB m6 m7 eH dP => (Ln _ rfl ?_))
   have iY := (iP.ext bE)
   have iZ : Dj (bx b 70 [sl a c.Code aH, I iN, .int .u64 iO]) fZ := (Mj (c6 _) (Db a9.symm).symm iY).symm
   have i0 := (Mj (c6 _) cU.symm (((((cS.but aN aS.symm).but bX (Db aS.symm)).ext bY).but bK (Db aS.symm)).ext bE)).symm
   have X697 := (((((X537.step aN (Md D Sd)).step bX (Md D Sd)).stepx bY).step bK (Md D Sd)).stepx bE)
   have m8 := (c6 _).fresh b4 X697.size
   have m9 := (dP _).fresh cG ((((X697.step cP (b4.dom _)).stepx cA).step bZ (Md D Sd)).stepx bR).size
   have nA : Dj fZ (bx b 70 [sl a c.Code aH, I f1, .int .u64 f2]) := (Db (Mj (c6 _) (Db a9.symm).symm iY).symm).symm
   have nB : Dj iX (bx b 70 [sl a c.Code aH, I f1, .int .u64 f2]) := (Mj (dP _) (Db aS.symm).symm (iU.ext bR))
   exact ⟨(f1, f2, List.set rows (Int.toNat fX) (wr (dN + bD)), List.set cols (Int.toNat f0) (wr (dO + bD))), H, _, fZ, iX, Ee ⟨rfl, rfl, trivial⟩, (((((((((((Br U570 _).step aN (Oe D572 _)).step bX (Md D572 Sd)).stepx bY).step bK (Md D572 Sd)).stepx bE).step cP (Oe D573 _)).stepx cA).step bZ (Md D572 Sd)).stepx bR).step eH (Oe D574 _)), mT, ((((iS.ext cA).but bZ iZ).ext bR).but eH i0), (Mt (Oe D573 _) (c6 _) (Nat.le_trans (Nat.le_trans (Nat.le_trans (Nat.le_trans aN.size bX.size) bY.size) bK.size) bE.size)), m8, m6, m7, (Mt (Oe D574 _) (dP _) (Nat.le_trans (Nat.le_trans (Nat.le_trans (Nat.le_trans (Nat.le_trans (Nat.le_trans (Nat.le_trans (Nat.le_trans aN.size bX.size) bY.size) bK.size) bE.size) cP.size) cA.size) bZ.size) bR.size)), m9, ((iU.ext bR).but eH (Db aS.symm).symm), ((((eF.ext eG).but bZ f3).ext bR).but eH dA), nA, (Mj (c6 _) cT (((eD.ext eE).but bK fY).ext bE)), nB, (Mj (dP _) dA (((eF.ext eG).but bZ f3).ext bR)), (Mj (dP _) i0 (((iS.ext cA).but bZ iZ).ext bR))⟩
  have H := H.2 fW
  refine Wq (Wg (Lv ok 0 [(109, .bool (c5 == 1)), (108, .bool (c5 == 1))] 2 rfl rfl (Ln _ rfl ?_)))
  refine Wc (c5 == 1) rfl (fun f4 => ?_) (fun f4 => ?_)
  ·have H := H.1 f4
   refine W_open mix fun qC i1 => ?_
   refine AP_game 5 [[], [0], [], [], [2, 3], [0, 1, 2, 3, 4], [0, 1, 2, 3, 4, 5], [0, 1, 2, 3, 4, 5, 6], [0, 1, 2, 3, 4, 5, 6, 7], [0, 1, 2, 3, 4, 5, 6, 7, 8]] [[(5, none)], [(110, some 0)], [(0, none)], [(3, none)], [(112, some 2), (113, some 3)]] [(2, none), (5, none), (111, some 1), (114, some 4)] [(0, false), (1, false), (2, false), (3, false), (4, true)] (by kernel_rfl) (by kernel_rfl) ?_
   refine GS_ev ok [(5, pb aC)] (pb aC) rfl rfl (fun _ h => h) (fun _ => rfl) ?_
   have nC : Dj (bx b 70 [sl a c.Code aH, I atx, .int .u64 seed]) (bx aC 29 [.slice aD (List.length (List.replicate (Int.toNat (wr (1 + aA))) ((0 : Int)))) aE, .slice aF (List.length (List.replicate (Int.toNat (wr (1 + aB))) ((0 : Int)))) aG, sl aL lo aM, sl aI hi aJ]) := (Db (Db (Df aV aK)).symm).symm
   have eI := ((dZ.but aN nC).ext i1)
   refine GS_r1 [(110, pb aC)] (.slice aD (List.length (List.replicate (Int.toNat (wr (1 + aA))) ((0 : Int)))) aE) rfl rfl (fun _ h => h) (fun _ w e => ex_ldbox rfl ti_22 ag_22 (fun _ => rfl) rfl e rfl rfl) eI ?_
   refine GS_ev ok [(0, pb b)] (pb b) rfl rfl (fun _ h => h) (fun _ => rfl) ?_
   refine GS_ev ok [(3, I (wr (1 + aA)))] (I (wr (1 + aA))) rfl rfl (fun _ h => h) (fun _ => rfl) ?_
   refine GS_lp [(112, pb b), (113, I (wr (1 + aA)))] rfl rfl (fun _ h => h) rfl fun ρ nD eJ => ?_
   have cB := (i1.trans eJ)
   refine Lc 0 rfl rfl rfl cal_53 rfl (spec_l1Cur_pick_w _ _ _ H nD r ((fR.but aN (Db d)).ext cB) (fV.ext cB) (Db d)) ?_
   rintro _ qD ⟨i2, i3, i4, H, rfl, b0, i5⟩
   have f5 : Dj (bx b 70 [sl a c.Code aH, I fT, .int .u64 fU]) (bx aC 29 [.slice aD (List.length (List.replicate (Int.toNat (wr (1 + aA))) ((0 : Int)))) aE, .slice aF (List.length (List.replicate (Int.toNat (wr (1 + aB))) ((0 : Int)))) aG, sl aL lo aM, sl aI hi aJ]) := (Db (Db (Df aV aK)).symm).symm
   refine LP_gs ⟨⟨.inr ((eI.ext eJ).but b0 f5), trivial⟩, ?_⟩
   intro qE bS ρ nE
   refine AP_forget [(2, pb a3), (5, pb aC), (111, .slice aD (List.length (List.replicate (Int.toNat (wr (1 + aA))) ((0 : Int)))) aE), (114, I i2)] (by exact nE) fun ρ => ?_
   refine AP_tail 5 [[], [0], [], [], [2, 3], [0, 1, 2, 3, 4], [0, 1, 2, 3, 4, 5], [0, 1, 2, 3, 4, 5, 6], [0, 1, 2, 3, 4, 5, 6, 7], [0, 1, 2, 3, 4, 5, 6, 7, 8]] (by kernel_rfl) ?_
   obtain ⟨i6, nF, nG, H⟩ := H
   refine Li 5 rfl rfl rfl Try.underlying22 ti_3 rfl rfl cR.readf nF nG fun qF qG nH nI => ?_
   have i7 := ((((dX.but aN a9.symm).ext cB).but b0 (Db a9.symm)).ext bS)
   refine Lo 6 rfl rfl rfl ti_3 ag_3 rfl nH nI i7 fun qH nJ => ?_
   obtain rfl := nJ.int
   refine Lv ok 7 [(117, I (wr (i6 + 1)))] 8 rfl rfl ?_
   obtain ⟨nK, nL, H⟩ := H
   refine LP_indexw (v := .slice aD (List.length (List.replicate (Int.toNat (wr (1 + aA))) ((0 : Int)))) aE) 8 rfl rfl rfl Try.underlying22 ti_3 rfl rfl cR nK nL fun qI nM => (LP_set 9 rfl rfl rfl rfl rfl nM (Le.refl emp) ⟨_, rfl, rfl⟩ i7 fun i9 qJ nN nO eK dQ => (Ln _ rfl ?_))
   have nP := (dQ _).fresh b4 ((((X537.step aN (Md D Sd)).stepx cB).step b0 (Md D Sd)).stepx bS).size
   have nQ : Dj i9 (bx b 70 [sl a c.Code aH, I i3, .int .u64 i4]) := (Mj (dQ _) (Db a9.symm).symm (i5.ext bS))
   have nR := (Mj (dQ _) cU.symm ((((cS.but aN aS.symm).ext cB).but b0 (Db aS.symm)).ext bS)).symm
   exact ⟨(i3, i4, List.set rows (Int.toNat i2) (wr (i6 + 1)), cols), H, _, i9, aR, Ee ⟨rfl, rfl, trivial⟩, ((((((Br U570 _).step aN (Oe D572 _)).stepx cB).step b0 (Md D572 Sd)).stepx bS).step eK (Oe D573 _)), nN, nO, (Mt (Oe D573 _) (dQ _) (Nat.le_trans (Nat.le_trans (Nat.le_trans aN.size cB.size) b0.size) bS.size)), nP, c9, (((((cS.but aN aS.symm).ext cB).but b0 (Db aS.symm)).ext bS).but eK cU.symm), (Oe D574 _), cG, ((i5.ext bS).but eK (Db a9.symm).symm), ((((eI.ext eJ).but b0 f5).ext bS).but eK cT), nQ, (Mj (dQ _) cT (((eI.ext eJ).but b0 f5).ext bS)), (Db aS.symm).symm, dA, nR⟩
  have H := H.2 f4
  refine Wk ?_
  have nS : Dj (bx b 70 [sl a c.Code aH, I atx, .int .u64 seed]) (bx aC 29 [.slice aD (List.length (List.replicate (Int.toNat (wr (1 + aA))) ((0 : Int)))) aE, .slice aF (List.length (List.replicate (Int.toNat (wr (1 + aB))) ((0 : Int)))) aG, sl aL lo aM, sl aI hi aJ]) := (Db (Db (Df aV aK)).symm).symm
  exact ⟨(fT, fU, rows, cols), H, _, aW, aR, Ee ⟨rfl, rfl, trivial⟩, ((Br U570 _).step aN (Oe D572 _)), cR, (dX.but aN a9.symm), (Oe D573 _), b4, c9, (cS.but aN aS.symm), (Oe D574 _), cG, fV, (dZ.but aN nS), (Db a9.symm).symm, cT, (Db aS.symm).symm, dA, cU⟩
 rintro ⟨nT, nU, qK, qL⟩ _ qM ⟨H, ρ, b8, b9, rfl, HF⟩
 revert HF
 refine bb9 fun X585 nV nW f6 nX nY nZ f7 => ?_
 refine bb8 fun n0 n1 n2 n3 qN n4 qO n5 => ?_
 subst hk
 refine Wq (Wg (Lb 0 (v := .agg #[.slice aD (List.length (List.replicate (Int.toNat (wr (1 + aA))) ((0 : Int)))) aE, .slice aF (List.length (List.replicate (Int.toNat (wr (1 + aB))) ((0 : Int)))) aG, sl aL lo aM, sl aI hi aJ]) rfl rfl rfl ti_29 ag_29 (fun h => by cases h) rfl n2 rfl rfl ?_))
 have n6 : Dj (bx b 70 [sl a c.Code aH, I atx, .int .u64 seed]) (bx a3 29 [.slice none 0 0, .slice none 0 0, .slice none 0 0, .slice none 0 0]) := (Db (Df cQ f))
 have eL := ((cC.ext dL).but y iJ)
 have n7 : Dj (bx aC 29 [.slice aD (List.length (List.replicate (Int.toNat (wr (1 + aA))) ((0 : Int)))) aE, .slice aF (List.length (List.replicate (Int.toNat (wr (1 + aB))) ((0 : Int)))) aG, sl aL lo aM, sl aI hi aJ]) (bx a3 29 [.slice none 0 0, .slice none 0 0, .slice none 0 0, .slice none 0 0]) := (Db (Df cC aK).symm)
 have f8 := (Dl n6 (Dl (Mj dY (Dj.eqv hU dM) eL) (Dl (Mj eO (Dj.eqv hU dM) eL) n7)))
 refine Lx 1 (vs := [.slice aD (List.length (List.replicate (Int.toNat (wr (1 + aA))) ((0 : Int)))) aE, .slice aF (List.length (List.replicate (Int.toNat (wr (1 + aB))) ((0 : Int)))) aG, sl aL lo aM, sl aI hi aJ]) (cs' := [.slice aD (List.length (List.replicate (Int.toNat (wr (1 + aA))) ((0 : Int)))) aE, .slice aF (List.length (List.replicate (Int.toNat (wr (1 + aB))) ((0 : Int)))) aG, sl aL lo aM, sl aI hi aJ]) rfl rfl rfl ti_29 rfl rfl rfl rfl rfl (fS.but X585 (Dj.eqv hU571 f8)) rfl rfl fun qP n8 c7 => ?_
 refine Ln _ rfl (W_ret ?_)
 have n9 := (Mj f6 (Dj.eqv hU571 f8) fS).symm
 have oA := (Mj f7 (Dj.eqv hU571 f8) fS).symm
 have f9 := (Dl cV.symm (Dl gK.symm (Dl gL.symm cW.symm)))
 have oB := (Mj gG (Dj.eqv hU dM) eL).symm
 have gA := (Dl dB.symm (Dl gM.symm (Dl gN.symm cH.symm)))
 have oC := (Mj gH (Dj.eqv hU dM) eL).symm
 have oD : Dj (bx a3 29 [.slice none 0 0, .slice none 0 0, .slice none 0 0, .slice none 0 0]) (bx b 70 [sl a c.Code aH, I nT, .int .u64 nU]) := (Db (Df cQ f).symm.symm).symm
 exact ⟨_, Ret_of [.agg #[.slice aD (List.length (List.replicate (Int.toNat (wr (1 + aA))) ((0 : Int)))) aE, .slice aF (List.length (List.replicate (Int.toNat (wr (1 + aB))) ((0 : Int)))) aG, sl aL lo aM, sl aI hi aJ]] ⟨⟨_, rfl, rfl, ld_res ti_29 ag_29 (fun h => by cases h) n8 rfl rfl⟩, trivial⟩, _, _, _, _, _, _, _, _, _, _, _, H, rfl, ((X537.step X585 (DomLe.eqv hU571 (Mu (Md D Sd) (Mu (b4.dom _) (Mu (cG.dom _) ((Fresh.box iG).dom _)))))).step c7 (jG.dom _)), nV, (nW.but c7 n9), nX, nY, (nZ.but c7 oA), n0, eP, ((bT.but X585 (Dj.eqv hU571 f9)).but c7 oB), eQ, eR, ((bL.but X585 (Dj.eqv hU571 gA)).but c7 oC), gI, (n1.but c7 oD), n5.symm, (Mj f6 (Dj.eqv hU571 f9) bT), (Mj f6 (Dj.eqv hU571 gA) bL), n3, (Mj f7 (Dj.eqv hU571 f9) bT), (Mj f7 (Dj.eqv hU571 gA) bL), n4, d0.symm, (Db cV.symm).symm, (Db dB.symm).symm⟩

theorem spec_l1Cur_among_w (c : L1Cur) (list : List Int) (Q : Int → Int → Int → Prop) (H : spec_l1Cur_among c list Q) (w : World) {vx : Value} {hx : PH} (r : RS hx vx c.Code) (ex : Sub hx w) {b : Nat} (aI : Sub (bx b 70 [vx, I c.At, .int .u64 c.Seed]) w) {aE : Value} {aC : PH} (aF : RS aC aE list) (aJ : Sub aC w) (d : Dj (bx b 70 [vx, I c.At, .int .u64 c.Seed]) hx) (aK : Dj (bx b 70 [vx, I c.At, .int .u64 c.Seed]) aC) :
  CallsTo Try.prog 93 #[pb b, aE] w fun v w' => ∃ aG m1_0 m1_1, Q aG m1_0 m1_1 ∧ v = I aG ∧ But (bx b 70 [vx, I c.At, .int .u64 c.Seed]) w w' ∧ Sub (bx b 70 [vx, I m1_0, .int .u64 m1_1]) w' := by
 obtain ⟨a, aD, rfl⟩ := r.shape
 obtain ⟨aA, aB, rfl⟩ := aF.shape
 refine enter (args := [pb b, sl aA list aB]) 12 Try.func93 rfl rfl rfl ?_
 refine Wo [(0, pb b), (1, sl aA list aB)] ⟨rfl, rfl, trivial⟩ fun ρ => ?_
 have D : Dom (bx b 70 [sl a c.Code aD, I c.At, .int .u64 c.Seed]) (bx b 70 [sl a c.Code aD, I c.At, .int .u64 c.Seed]) := (Or _)
 have X := Br (bx b 70 [sl a c.Code aD, I c.At, .int .u64 c.Seed]) w
 refine Wq (Wg (Lv ok 0 [(4, I 0)] 1 rfl rfl (Ln _ rfl (Wq (Wg (Lv ok 0 [(5, sl aA list aB), (6, pb b), (7, sl aA list aB), (8, I (ln list))] 4 rfl rfl (Lc 4 rfl rfl rfl cal_53 rfl (spec_l1Cur_pick_w _ _ _ H w r ex aI d) ?_)))))))
 rintro _ wx ⟨aQ, aR, aS, H, rfl, x, aL⟩
 obtain ⟨aH, hi, aM, H⟩ := H
 refine Li 5 rfl rfl rfl Try.underlying22 ti_3 rfl rfl aF hi aM fun aT cs aN aO => (Lo 6 rfl rfl rfl ti_3 ag_3 rfl aN aO (aJ.but x aK) fun aU aP => ?_)
 obtain rfl := aP.int
 refine Lv ok 7 [(4, I aH)] 8 rfl rfl (Ln _ rfl (W_ret ?_))
 exact ⟨_, Ret_of [I aH] ⟨⟨rfl, rfl⟩, trivial⟩, _, _, _, H, rfl, (X.step x (Oe D _)), aL⟩

theorem spec_filled_w (m : Int) (n : Int) (sum : Int) (Q : Transport → Prop) (H : spec_filled m n sum Q) (w : World)  :
  CallsTo Try.prog 94 #[I m, I n, I sum] w fun v w' => ∃ bX u0_0 g0_0 u0_1 g0_1 u0_2 g0_2 u0_3 g0_3, Q bX ∧ v = .agg #[u0_0, u0_1, u0_2, u0_3] ∧ Ext w w' ∧ OS 3 g0_0 emp u0_0 bX.Rows ∧ Sub g0_0 w' ∧ Fresh w.heap.size g0_0 ∧ OS 3 g0_1 emp u0_1 bX.Cols ∧ Sub g0_1 w' ∧ Fresh w.heap.size g0_1 ∧ OD g0_2 u0_2 bX.Lo ∧ Sub g0_2 w' ∧ Fresh w.heap.size g0_2 ∧ OD g0_3 u0_3 bX.Hi ∧ Sub g0_3 w' ∧ Fresh w.heap.size g0_3 ∧ Dj g0_0 g0_1 ∧ Dj g0_0 g0_2 ∧ Dj g0_0 g0_3 ∧ Dj g0_1 g0_2 ∧ Dj g0_1 g0_3 ∧ Dj g0_2 g0_3 := by
 refine enter (args := [I m, I n, I sum]) 69 Try.func94 rfl rfl rfl ?_
 refine Wo [(0, I m), (1, I n), (2, I sum)] ⟨rfl, rfl, rfl, trivial⟩ fun ρ => ?_
 have X := Br emp w
 refine Wq (Wg (La 0 rfl rfl rfl ti_29 rfl fun b wx x ex f => (Ln _ rfl (Wq (Wg (Lv ok 0 [(13, I n)] 1 rfl rfl ?_))))))
 obtain ⟨hn, hb, H⟩ := H
 refine LP_make (α := Int) 1 rfl rfl rfl Try.underlying22 ti_3 (x0 := (0 : Int)) rfl rfl hn (by first | omega | (simp only [ln] at *; omega)) (by first | omega | (simp only [ln] at *; omega)) fun hx vx hQ cW o cX eE => ?_
 obtain ⟨a, c, rfl⟩ := o.shape
 refine Lv ok 2 [(15, .agg #[.slice none 0 0, .slice a (List.length (List.replicate (Int.toNat n) ((0 : Int)))) c, .slice none 0 0, .slice none 0 0])] 3 rfl rfl (La 3 rfl rfl rfl ti_29 rfl fun aA hR cJ fT bP => (Lx 4 (vs := [.slice none 0 0, .slice a (List.length (List.replicate (Int.toNat n) ((0 : Int)))) c, .slice none 0 0, .slice none 0 0]) (cs' := [.slice none 0 0, .slice a (List.length (List.replicate (Int.toNat n) ((0 : Int)))) c, .slice none 0 0, .slice none 0 0]) rfl rfl rfl ti_29 rfl rfl rfl rfl rfl fT rfl rfl fun aW fU y => ?_))
 refine Ln _ rfl (Wq (Wq (Wg (Lv ok 0 [(8, I 0)] 1 rfl rfl (Ln _ rfl (W_block ?_))))))
 obtain ⟨U, hU⟩ : ∃ U : PH, U = (un hx (bx aA 29 [.slice none 0 0, .slice a (List.length (List.replicate (Int.toNat n) ((0 : Int)))) c, .slice none 0 0, .slice none 0 0])) := ⟨_, rfl⟩
 have D : Dom U hx := Dom.eqv hU (Dom.l _ _)
 have D33 : Dom U (bx aA 29 [.slice none 0 0, .slice a (List.length (List.replicate (Int.toNat n) ((0 : Int)))) c, .slice none 0 0, .slice none 0 0]) := Dom.eqv hU (Ot (Dom.r _ _) (Or _))
 have dj := (Df cX bP).symm
 have fV : Dj hx (bx aA 29 [.slice none 0 0, .slice a (List.length (List.replicate (Int.toNat n) ((0 : Int)))) c, .slice none 0 0, .slice none 0 0]) := (Db (Df cX bP).symm).symm
 obtain ⟨J, fW, Hx, H⟩ := H
 refine W_loop (S := Int × (List Int) × (List Int) × (List (List Int)) × (List (List Int))) (fun s ρ' w' => J s.1 s.2.1 s.2.2.1 s.2.2.2.1 s.2.2.2.2 ∧ ∃ (ρ : Env) (bD : Value) (aY : PH) (aU : PH) (bE : Value) (aZ : PH) (bF : Value) (a0 : PH), ρ' = setAll [(0, I m), (1, I n), (2, I sum), (6, pb b), (7, pb aA), (8, I s.1)] ρ ∧ But U aW w' ∧ OS 3 aY emp bD s.2.1 ∧ Sub aY w' ∧ DomLe U aW.heap.size aY ∧ OS 3 aU emp (.slice a (List.length (List.replicate (Int.toNat n) ((0 : Int)))) c) s.2.2.1 ∧ Sub aU w' ∧ DomLe U aW.heap.size aU ∧ OD aZ bE s.2.2.2.1 ∧ Sub aZ w' ∧ DomLe U aW.heap.size aZ ∧ OD a0 bF s.2.2.2.2 ∧ Sub a0 w' ∧ DomLe U aW.heap.size a0 ∧ Sub (bx aA 29 [bD, .slice a (List.length (List.replicate (Int.toNat n) ((0 : Int)))) c, bE, bF]) w' ∧ Dj aY (bx aA 29 [bD, .slice a (List.length (List.replicate (Int.toNat n) ((0 : Int)))) c, bE, bF]) ∧ Dj aU (bx aA 29 [bD, .slice a (List.length (List.replicate (Int.toNat n) ((0 : Int)))) c, bE, bF]) ∧ Dj aU aY ∧ Dj aZ (bx aA 29 [bD, .slice a (List.length (List.replicate (Int.toNat n) ((0 : Int)))) c, bE, bF]) ∧ Dj aZ aY ∧ Dj aZ aU ∧ Dj a0 (bx aA 29 [bD, .slice a (List.length (List.replicate (Int.toNat n) ((0 : Int)))) c, bE, bF]) ∧ Dj a0 aY ∧ Dj a0 aU ∧ Dj a0 aZ) (fun s => fW s.1 s.2.1 s.2.2.1 s.2.2.2.1 s.2.2.2.2) (0, [], List.replicate (Int.toNat n) ((0 : Int)), [], []) ⟨Hx, _, .slice none 0 0, emp, hx, .slice none 0 0, emp, .slice none 0 0, emp, Ee ⟨rfl, rfl, rfl, rfl, rfl, rfl, trivial⟩, (Br _ _), OS.nil, (emp_sub _), (fun _ _ _ => rfl), o, ((cX.ext cJ).but y dj), (Oe D _), OD.nil, (emp_sub _), (fun _ _ _ => rfl), OD.nil, (emp_sub _), (fun _ _ _ => rfl), fU, (fun _ => .inl rfl), fV, (fun _ => .inr rfl), (fun _ => .inl rfl), (fun _ => .inl rfl), (fun _ => .inl rfl), (fun _ => .inl rfl), (fun _ => .inl rfl), (fun _ => .inl rfl), (fun _ => .inl rfl)⟩ ?_
 rintro ⟨i, rows, cols, lo, hi⟩ _ hS ⟨Hi, ρ, bD, aY, aU, bE, aZ, bF, a0, rfl, HF⟩
 revert HF
 refine bb9 fun X50 cY eF cZ eG c0 c1 c2 => ?_
 refine bb9 fun c3 c4 c5 c6 c7 cK d bY => ?_
 refine bb8 fun c8 bQ c9 cL bG dA dB cM => ?_
 have H := H i rows cols lo hi Hi
 obtain ⟨bZ, b0, rfl⟩ := cY.shape
 obtain ⟨a5, a6, rfl⟩ := c2.shape
 obtain ⟨aM, aN, rfl⟩ := c5.shape
 refine Wq (Wq (Wg (Lv ok 0 [(16, I i), (17, I m), (18, .bool (decide (i < m)))] 3 rfl rfl (Ln _ rfl ?_))))
 refine Wc (decide (i < m)) rfl (fun hc => ?_) (fun hc => ?_)
 ·have H := H.1 hc
  refine Wk (Wq (W_block (Wq (Wg (Lv ok 0 [(21, pb aA)] 1 rfl rfl (Lb 1 (v := sl bZ rows b0) rfl rfl rfl ti_22 ag_22 (fun _ => rfl) rfl cK rfl rfl (Lv ok 2 [(23, I sum)] 3 rfl rfl ?_)))))))
  refine LP_lit (α := Int) (g := emp) 3 (vs := [I sum]) (xs := [sum]) rfl rfl rfl Try.underlying22 ti_3 rfl rfl ⟨⟨_, rfl, rfl⟩, trivial⟩ rfl rfl fun hT hV hW aF eH fX hX => ?_
  obtain ⟨hY, hZ, rfl⟩ := eH.shape
  obtain ⟨h0, H⟩ := H
  refine LP_appendf (α := Int) 4 rfl rfl rfl Try.underlying22 ti_3 rfl rfl rfl cY (eF.ext aF) eH.readf fX (by first | omega | (simp only [ln] at *; omega)) (by first | omega | (simp only [ln] at *; omega)) fun b1 h1 h2 eI fY aP dm => ?_
  obtain ⟨aC, aD, rfl⟩ := eI.shape
  refine Lv ok 5 [(26, pb aA)] 6 rfl rfl (Lx 6 (vs := [.slice aC (List.length (rows ++ ([sum]))) aD]) (cs' := [.slice aC (List.length (rows ++ ([sum]))) aD, .slice a (List.length (List.replicate (Int.toNat n) ((0 : Int)))) c, sl a5 lo a6, sl aM hi aN]) rfl rfl rfl ti_22 rfl rfl rfl rfl rfl ((cK.ext aF).but aP d) rfl rfl fun dC cN aQ => (Ln _ rfl ?_))
  have bR := (((c0.ext aF).but aP c8.symm).but aQ bY.symm)
  have b2 := (((c3.ext aF).but aP c9.symm).but aQ bQ.symm)
  have cO := (((c6.ext aF).but aP dA.symm).but aQ bG.symm)
  have b3 := (cK.ext aF)
  have fZ := (Mj dm d b3).symm
  have bS := (fY.but aQ fZ)
  obtain ⟨k, hk, H⟩ := jn_elim H
  refine W_join2 (S := (List Int) × (List Int)) (fun s ρ' w' => k s.1 s.2 ∧ ∃ (ρ : Env) (dD : Value) (b4 : PH) (dE : Value) (aV : PH), ρ' = setAll [(0, I m), (1, I n), (2, I sum), (6, pb b), (7, pb aA), (8, I i), (9, dD), (10, dE)] ρ ∧ Ext dC w' ∧ OS 3 b4 emp dD s.1 ∧ Sub b4 w' ∧ DomLe emp dC.heap.size b4 ∧ OS 3 aV emp dE s.2 ∧ Sub aV w' ∧ DomLe emp dC.heap.size aV ∧ Dj aV b4) ?_ ?_
  ·refine W_open mix fun h3 bT => ?_
   refine AP_gameT 5 [[], [0], [], [2], [0, 1], [0, 1, 2, 3, 4]] [[(1, none)], [(27, some 0)], [(1, none)], [(29, some 2)], [(28, some 1)]] [(0, none), (1, none), (2, none), (6, none), (7, none), (8, none), (9, some 4), (30, some 3)] [0, 1, 2, 3, 4] (by kernel_rfl) (by kernel_rfl) 5 ?_
   refine GT_ev 0 ok [(1, I n)] (I n) rfl (by kernel_rfl) rfl (fun _ h => h) (fun _ => rfl) ?_
   refine GT_ev 2 ok [(1, I n)] (I n) rfl (by kernel_rfl) rfl (fun _ h => h) (fun _ => rfl) ?_
   refine GT_hd [1, 3] (by kernel_rfl) ⟨?_, ?_, trivial⟩
   ·have H := H
    refine GT_lp [(27, I n)] rfl (by kernel_rfl) rfl (fun _ h => h) rfl fun ρ f0 bH => ?_
    obtain ⟨dF, f1, H⟩ := H
    refine LP_make (α := Int) 0 rfl rfl rfl Try.underlying22 ti_3 (x0 := (0 : Int)) rfl rfl dF (by first | omega | (simp only [ln] at *; omega)) (by first | omega | (simp only [ln] at *; omega)) fun dG f2 f3 b5 b6 b7 dH => ?_
    obtain ⟨a7, a8, rfl⟩ := b6.shape
    refine LP_gs ⟨trivial, ?_⟩
    refine GT_ev 4 ok [(28, .slice a7 (List.length (List.replicate (Int.toNat n) ((0 : Int)))) a8)] (.slice a7 (List.length (List.replicate (Int.toNat n) ((0 : Int)))) a8) rfl (by kernel_rfl) rfl (fun _ h => h) (fun _ => rfl) ?_
    refine GT_hd [3] (by kernel_rfl) ⟨GT_lp [(29, I n)] rfl (by kernel_rfl) rfl (fun _ h => h) rfl fun ρ f4 a1 => ?_, trivial⟩
    obtain ⟨dI, f5, H⟩ := H
    refine LP_make (α := Int) 0 rfl rfl rfl Try.underlying22 ti_3 (x0 := (0 : Int)) rfl rfl dI (by first | omega | (simp only [ln] at *; omega)) (by first | omega | (simp only [ln] at *; omega)) fun dJ f6 f7 b8 b9 dK cA => ?_
    obtain ⟨a9, bA, rfl⟩ := b9.shape
    refine LP_gs ⟨trivial, ?_⟩
    refine GT_end (by kernel_rfl) ?_
    intro f8 bI ρ dL
    refine AP_forget [(0, I m), (1, I n), (2, I sum), (6, pb b), (7, pb aA), (8, I i), (9, .slice a7 (List.length (List.replicate (Int.toNat n) ((0 : Int)))) a8), (30, .slice a9 (List.length (List.replicate (Int.toNat n) ((0 : Int)))) bA)] (by exact dL) fun ρ => ?_
    refine AP_tail 5 [[], [0], [], [2], [0, 1], [0, 1, 2, 3, 4]] (by kernel_rfl) ?_
    refine Lv ok 5 [(10, .slice a9 (List.length (List.replicate (Int.toNat n) ((0 : Int)))) bA)] 6 rfl rfl (Ln _ rfl ?_)
    have dM := (((((bT.trans bH).trans b5).trans a1).trans b8).trans bI)
    have dN := (bT.trans bH)
    have dO := (dK.ext bI)
    have dP := (((bT.trans bH).trans b5).trans a1)
    have dQ := (b7.ext a1)
    have dR := (Df dQ cA).symm
    exact ⟨(List.replicate (Int.toNat n) ((0 : Int)), List.replicate (Int.toNat n) ((0 : Int))), H, _, .slice a7 (List.length (List.replicate (Int.toNat n) ((0 : Int)))) a8, dG, .slice a9 (List.length (List.replicate (Int.toNat n) ((0 : Int)))) bA, dJ, Ee ⟨rfl, rfl, rfl, rfl, rfl, rfl, rfl, rfl, trivial⟩, dM, b6, (b7.ext ((a1.trans b8).trans bI)), ((dH.mono dN.size).dom _), b9, dO, ((cA.mono dP.size).dom _), dR⟩
   ·have H := H
    refine GT_lp [(29, I n)] rfl (by kernel_rfl) rfl (fun _ h => h) rfl fun ρ f0 bH => ?_
    obtain ⟨dF, f1, H⟩ := H
    refine LP_make (α := Int) 0 rfl rfl rfl Try.underlying22 ti_3 (x0 := (0 : Int)) rfl rfl dF (by first | omega | (simp only [ln] at *; omega)) (by first | omega | (simp only [ln] at *; omega)) fun dG f2 f3 b5 b6 b7 dH => ?_
    obtain ⟨a7, a8, rfl⟩ := b6.shape
    refine LP_gs ⟨trivial, ?_⟩
    refine GT_hd [1] (by kernel_rfl) ⟨GT_lp [(27, I n)] rfl (by kernel_rfl) rfl (fun _ h => h) rfl fun ρ f4 a1 => ?_, trivial⟩
    obtain ⟨dI, f5, H⟩ := H
    refine LP_make (α := Int) 0 rfl rfl rfl Try.underlying22 ti_3 (x0 := (0 : Int)) rfl rfl dI (by first | omega | (simp only [ln] at *; omega)) (by first | omega | (simp only [ln] at *; omega)) fun dJ f6 f7 b8 b9 dK cA => ?_
    obtain ⟨a9, bA, rfl⟩ := b9.shape
    refine LP_gs ⟨trivial, ?_⟩
    refine GT_ev 4 ok [(28, .slice a9 (List.length (List.replicate (Int.toNat n) ((0 : Int)))) bA)] (.slice a9 (List.length (List.replicate (Int.toNat n) ((0 : Int)))) bA) rfl (by kernel_rfl) rfl (fun _ h => h) (fun _ => rfl) ?_
    refine GT_end (by kernel_rfl) ?_
    intro f8 bI ρ dL
    refine AP_forget [(0, I m), (1, I n), (2, I sum), (6, pb b), (7, pb aA), (8, I i), (9, .slice a9 (List.length (List.replicate (Int.toNat n) ((0 : Int)))) bA), (30, .slice a7 (List.length (List.replicate (Int.toNat n) ((0 : Int)))) a8)] (by exact dL) fun ρ => ?_
    refine AP_tail 5 [[], [0], [], [2], [0, 1], [0, 1, 2, 3, 4]] (by kernel_rfl) ?_
    refine Lv ok 5 [(10, .slice a7 (List.length (List.replicate (Int.toNat n) ((0 : Int)))) a8)] 6 rfl rfl (Ln _ rfl ?_)
    have dM := (((((bT.trans bH).trans b5).trans a1).trans b8).trans bI)
    have dN := ((a1.trans b8).trans bI)
    have dO := (b7.ext dN)
    have dP := (bT.trans bH)
    have dQ := (b7.ext a1)
    have dR := (Df dQ cA)
    exact ⟨(List.replicate (Int.toNat n) ((0 : Int)), List.replicate (Int.toNat n) ((0 : Int))), H, _, .slice a9 (List.length (List.replicate (Int.toNat n) ((0 : Int)))) bA, dJ, .slice a7 (List.length (List.replicate (Int.toNat n) ((0 : Int)))) a8, dG, Ee ⟨rfl, rfl, rfl, rfl, rfl, rfl, rfl, rfl, trivial⟩, dM, b9, (dK.ext bI), ((cA.mono (((bT.trans bH).trans b5).trans a1).size).dom _), b6, dO, ((dH.mono dP.size).dom _), dR⟩
  rintro ⟨aB, aR⟩ _ dS ⟨H, ρ, dD, b4, dE, aV, rfl, HF⟩
  revert HF
  refine bb8 fun X126 eJ eK bU eL f9 bJ eM => ?_
  subst hk
  obtain ⟨dT, dU, rfl⟩ := eJ.shape
  obtain ⟨bK, bL, rfl⟩ := eL.shape
  refine Wq (Wq (Wg (Lv ok 0 [(31, sl bK aR bL), (32, I (ln aR)), (33, I 0)] 3 rfl rfl (Ln _ rfl (W_block ?_)))))
  obtain ⟨J182, gA, Hx184, H⟩ := H
  refine W_loop (S := (List Int) × Int) (fun s ρ' w' => J182 s.1 s.2 ∧ ∃ (ρ : Env) (bV : PH), ρ' = setAll [(0, I m), (1, I n), (2, I sum), (6, pb b), (7, pb aA), (8, I i), (9, sl dT aB dU), (10, sl bK aR bL), (32, I (ln aR)), (33, I s.2)] ρ ∧ But aV dS w' ∧ OS 3 bV emp (sl bK aR bL) s.1 ∧ Sub bV w' ∧ DomLe aV dS.heap.size bV) (fun s => gA s.1 s.2) (aR, 0) ⟨Hx184, _, aV, Ee ⟨rfl, rfl, rfl, rfl, rfl, rfl, rfl, rfl, rfl, rfl, trivial⟩, (Br _ _), eL, f9, (Oe (Or _) _)⟩ ?_
  rintro ⟨aJ, aX⟩ _ h4 ⟨Hi, ρ, bV, rfl, X181, eN, cP, a2⟩
  have H := H aJ aX Hi
  refine Wq (Wg (Lv ok 0 [(34, .bool (decide (aX < (ln aR))))] 1 rfl rfl (Ln _ rfl (Wq ?_))))
  refine Wc (decide (aX < (ln aR))) rfl (fun dV => ?_) (fun dV => ?_)
  ·have H := H.1 dV
   refine Wk (Wq (W_block (Wq (Wg (Lv ok 0 [(35, I aX), (11, I aX)] 2 rfl rfl (Ln _ rfl (Wg ?_)))))))
   refine Lv ok 0 [(36, sl bK aR bL), (37, I aX)] 2 rfl rfl ?_
   obtain ⟨gB, hl, H⟩ := H
   refine LP_indexw (v := sl bK aR bL) 2 rfl rfl rfl Try.underlying22 ti_3 rfl rfl eN gB hl fun h5 wa => (LP_set 3 rfl rfl rfl rfl rfl wa (Le.refl emp) ⟨_, rfl, rfl⟩ cP fun gC h6 gD gE gF gG => (Ln _ rfl (Wg (Lv ok 0 [(39, I (wr (aX + 1))), (33, I (wr (aX + 1)))] 2 rfl rfl (Ln _ rfl ?_)))))
   have eO : DomLe aV dS.heap.size bV := (Mt (Oe (Or _) _) a2 (Nat.le_refl _))
   exact ⟨(List.set aJ (Int.toNat aX) 1, wr (aX + 1)), ⟨H.1, _, gC, Ee ⟨rfl, rfl, rfl, rfl, rfl, rfl, rfl, rfl, rfl, rfl, trivial⟩, (((Br aV _).step X181 (Oe (Or _) _)).step gF eO), gD, gE, (Mt eO (gG _) X181.size)⟩, H.2⟩
  have H := H.2 dV
  refine W_exit ?_
  refine (if_pos rfl).mpr ?_
  refine Wq (Wg (Lv ok 0 [(40, .pointer (some ⟨aA, 2, none⟩))] 1 rfl rfl ?_))
  have dW := (Mj bJ (Dj.emp_l _) cN)
  have cB := ((cN.ext X126).but X181 dW)
  refine Lb 1 (v := sl a5 lo a6) rfl rfl rfl ti_23 ag_23 (fun _ => rfl) rfl cB rfl rfl (Lv ok 2 [(42, sl dT aB dU)] 3 rfl rfl (LP_litD (α := List Int) 3 (vs := [sl dT aB dU]) (xs := [aB]) rfl rfl rfl Try.underlying23 ti_22 rfl rfl (allO.one (OD.rvo (OS.od eJ))) (eK.but X181 eM) rfl rfl fun h7 h8 h9 aE eP gH bM => ?_))
  obtain ⟨iA, iB, rfl⟩ := eP.shape
  have dX := (Mj bJ (Dj.emp_l _) b2)
  have gI := (Mj bM (Mj bU (Dj.emp_l _) b2) ((b2.ext X126).but X181 dX)).symm
  obtain ⟨iC, H⟩ := H
  refine LP_appendD (α := List Int) 4 rfl rfl rfl Try.underlying23 ti_22 rfl rfl rfl c2 (((b2.ext X126).but X181 dX).ext aE) eP gH gI (by first | omega | (simp only [ln] at *; omega)) (by first | omega | (simp only [ln] at *; omega)) fun cC iD iE hw eQ dY aO dh a3 => ?_
  obtain ⟨aG, aH, rfl⟩ := eQ.shape
  refine Lv ok 5 [(45, .pointer (some ⟨aA, 2, none⟩))] 6 rfl rfl (Lx 6 (vs := [.slice aG (List.length (lo ++ ([aB]))) aH]) (cs' := [.slice aC (List.length (rows ++ ([sum]))) aD, .slice a (List.length (List.replicate (Int.toNat n) ((0 : Int)))) c, .slice aG (List.length (lo ++ ([aB]))) aH, sl aM hi aN]) rfl rfl rfl ti_23 rfl rfl rfl rfl rfl ((cB.ext aE).but (But.dom aO dh) (Db bQ.symm).symm) rfl rfl fun iF cD aK => ?_)
  refine Ln _ rfl (Wq (Wg (Lv ok 0 [(46, .pointer (some ⟨aA, 3, none⟩))] 1 rfl rfl (Lb 1 (v := sl aM hi aN) rfl rfl rfl ti_23 ag_23 (fun _ => rfl) rfl cD rfl rfl (Lv ok 2 [(48, sl bK aR bL)] 3 rfl rfl ?_)))))
  have eR := (Mj a2 dX (b2.ext X126)).symm
  have eS := (cN.ext X126)
  have gJ := (Mj a2 dW eS).symm
  refine LP_litD (α := List Int) 3 (vs := [sl bK aR bL]) (xs := [aJ]) rfl rfl rfl Try.underlying23 ti_22 rfl rfl (allO.one (OD.rvo (OS.od eN))) (((cP.ext aE).but (But.dom aO dh) eR).but aK gJ) rfl rfl fun iG iH iI aL eT gK bW => ?_
  obtain ⟨iJ, iK, rfl⟩ := eT.shape
  have cQ := (Mj bJ (Dj.emp_l _) cO)
  have dZ := (cO.ext X126)
  have gL := (Mj bW (Mj a2 cQ dZ) ((((dZ.but X181 cQ).ext aE).but (But.dom aO dh) cM.symm).but aK (Db bG.symm))).symm
  obtain ⟨iL, H⟩ := H
  refine LP_appendD (α := List Int) 4 rfl rfl rfl Try.underlying23 ti_22 rfl rfl rfl c5 ((((((cO.ext X126).but X181 cQ).ext aE).but (But.dom aO dh) cM.symm).but aK (Db bG.symm)).ext aL) eT gK gL (by first | omega | (simp only [ln] at *; omega)) (by first | omega | (simp only [ln] at *; omega)) fun cR iM iN iO eU eV bB bC bN => ?_
  obtain ⟨aS, aT, rfl⟩ := eU.shape
  refine Lv ok 5 [(51, .pointer (some ⟨aA, 3, none⟩))] 6 rfl rfl (Lx 6 (vs := [.slice aS (List.length (hi ++ ([aJ]))) aT]) (cs' := [.slice aC (List.length (rows ++ ([sum]))) aD, .slice a (List.length (List.replicate (Int.toNat n) ((0 : Int)))) c, .slice aG (List.length (lo ++ ([aB]))) aH, .slice aS (List.length (hi ++ ([aJ]))) aT]) rfl rfl rfl ti_23 rfl rfl rfl rfl rfl ((cD.ext aL).but (But.dom bB bC) (Db bG.symm).symm) rfl rfl fun d0 gM a4 => ?_)
  refine Ln _ rfl (Wq (Wg (Lv ok 0 [(12, I 0)] 1 rfl rfl (Ln _ rfl (W_block ?_)))))
  obtain ⟨U273, hU274⟩ : ∃ U : PH, U = (un aU (bx aA 29 [.slice aC (List.length (rows ++ ([sum]))) aD, .slice a (List.length (List.replicate (Int.toNat n) ((0 : Int)))) c, .slice aG (List.length (lo ++ ([aB]))) aH, .slice aS (List.length (hi ++ ([aJ]))) aT])) := ⟨_, rfl⟩
  have D275 : Dom U273 aU := Dom.eqv hU274 (Dom.l _ _)
  obtain ⟨J280, gN, Hx282, H⟩ := H
  refine W_loop (S := Int × (List Int)) (fun s ρ' w' => J280 s.1 s.2 ∧ ∃ (ρ : Env) (bO : PH), ρ' = setAll [(0, I m), (1, I n), (2, I sum), (6, pb b), (7, pb aA), (8, I i), (12, I s.1)] ρ ∧ But U273 d0 w' ∧ OS 3 bO emp (.slice a (List.length (List.replicate (Int.toNat n) ((0 : Int)))) c) s.2 ∧ Sub bO w' ∧ DomLe U273 d0.heap.size bO ∧ Sub (bx aA 29 [.slice aC (List.length (rows ++ ([sum]))) aD, .slice a (List.length (List.replicate (Int.toNat n) ((0 : Int)))) c, .slice aG (List.length (lo ++ ([aB]))) aH, .slice aS (List.length (hi ++ ([aJ]))) aT]) w' ∧ Dj bO (bx aA 29 [.slice aC (List.length (rows ++ ([sum]))) aD, .slice a (List.length (List.replicate (Int.toNat n) ((0 : Int)))) c, .slice aG (List.length (lo ++ ([aB]))) aH, .slice aS (List.length (hi ++ ([aJ]))) aT])) (fun s => gN s.1 s.2) (0, cols) ⟨Hx282, _, aU, Ee ⟨rfl, rfl, rfl, rfl, rfl, rfl, rfl, trivial⟩, (Br _ _), eG, ((((((((bR.ext X126).but X181 (Mj bJ (Dj.emp_l _) bR)).ext aE).but (But.dom aO dh) cL).but aK (Db bY.symm)).ext aL).but (But.dom bB bC) dB).but a4 (Db bY.symm)), (Oe D275 _), gM, (Db bY.symm).symm⟩ ?_
  rintro ⟨aI, d1⟩ _ iP ⟨Hi, ρ, bO, rfl, HF⟩
  revert HF
  refine bb6 fun X279 d2 eW cE eX d3 => ?_
  have H := H aI d1 Hi
  refine Wq (Wq (Wg (Lv ok 0 [(52, I aI), (53, I sum), (54, .bool (decide (aI < sum)))] 3 rfl rfl (Ln _ rfl ?_))))
  refine Wc (decide (aI < sum)) rfl (fun d4 => ?_) (fun d4 => ?_)
  ·have H := H.1 d4
   refine Wk (Wq (W_block ?_))
   refine W_open mix fun iQ eY => ?_
   refine AP_game 7 [[], [0], [], [], [2, 3], [], [2, 3, 4, 5], [0, 1, 2, 3, 4, 5, 6], [0, 1, 2, 3, 4, 5, 6, 7], [0, 1, 2, 3, 4, 5, 6, 7, 8], [0, 1, 2, 3, 4, 5, 6, 7, 8, 9], [0, 1, 2, 3, 4, 5, 6, 7, 8, 9, 10]] [[(7, none)], [(57, some 0)], [(8, none)], [(12, none)], [(59, some 2), (60, some 3)], [(1, none)], [(61, some 4), (62, some 5)]] [(0, none), (1, none), (2, none), (6, none), (7, none), (8, none), (12, none), (58, some 1), (63, some 6)] [(0, false), (1, false), (2, false), (3, false), (4, false), (5, false), (6, false)] (by kernel_rfl) (by kernel_rfl) ?_
   refine GS_ev ok [(7, pb aA)] (.pointer (some ⟨aA, 1, none⟩)) rfl rfl (fun _ h => h) (fun _ => rfl) ?_
   have d5 := (eX.ext eY)
   refine GS_r1 [(57, .pointer (some ⟨aA, 1, none⟩))] (.slice a (List.length (List.replicate (Int.toNat n) ((0 : Int)))) c) rfl rfl (fun _ h => h) (fun _ w e => ex_ldbox rfl ti_22 ag_22 (fun _ => rfl) rfl e rfl rfl) d5 ?_
   refine GS_ev ok [(8, I i)] (I i) rfl rfl (fun _ h => h) (fun _ => rfl) ?_
   refine GS_ev ok [(12, I aI)] (I aI) rfl rfl (fun _ h => h) (fun _ => rfl) ?_
   refine GS_ev ok [(59, I i), (60, I aI)] (I (wr (i + aI))) rfl rfl (fun _ h => h) (fun _ => rfl) ?_
   refine GS_ev ok [(1, I n)] (I n) rfl rfl (fun _ h => h) (fun _ => rfl) ?_
   obtain ⟨hz, H⟩ := H
   refine GS_r0 [(61, I (wr (i + aI))), (62, I n)] (I (Int.tmod (wr (i + aI)) n)) rfl rfl (fun _ h => h) (fun _ _ => ex_rem rfl rfl rfl hz _) ?_
   intro iR d6 ρ gO
   refine AP_forget [(0, I m), (1, I n), (2, I sum), (6, pb b), (7, pb aA), (8, I i), (12, I aI), (58, .slice a (List.length (List.replicate (Int.toNat n) ((0 : Int)))) c), (63, I (Int.tmod (wr (i + aI)) n))] (by exact gO) fun ρ => ?_
   refine AP_tail 7 [[], [0], [], [], [2, 3], [], [2, 3, 4, 5], [0, 1, 2, 3, 4, 5, 6], [0, 1, 2, 3, 4, 5, 6, 7], [0, 1, 2, 3, 4, 5, 6, 7, 8], [0, 1, 2, 3, 4, 5, 6, 7, 8, 9], [0, 1, 2, 3, 4, 5, 6, 7, 8, 9, 10]] (by kernel_rfl) ?_
   obtain ⟨eZ, gP, gQ, H⟩ := H
   refine Li 7 rfl rfl rfl Try.underlying22 ti_3 rfl rfl d2.readf gP gQ fun iS cs r gR => ?_
   have d7 := (eY.trans d6)
   have e0 := (eW.ext d7)
   refine Lo 8 rfl rfl rfl ti_3 ag_3 rfl r gR e0 fun iT gS => ?_
   obtain rfl := gS.int
   refine Lv ok 9 [(66, I (wr (eZ + 1)))] 10 rfl rfl ?_
   obtain ⟨gT, gU, H⟩ := H
   refine LP_indexw (v := .slice a (List.length (List.replicate (Int.toNat n) ((0 : Int)))) c) 10 rfl rfl rfl Try.underlying22 ti_3 rfl rfl d2 gT gU fun iU gV => (LP_set 11 rfl rfl rfl rfl rfl gV (Le.refl emp) ⟨_, rfl, rfl⟩ e0 fun gW iV gX gY e1 e2 => (Ln _ rfl (Wg (Lv ok 0 [(55, I aI), (56, I (wr (aI + 1))), (12, I (wr (aI + 1)))] 3 rfl rfl ?_))))
   refine Ln _ rfl ?_
   have e3 : DomLe U273 d0.heap.size bO := (Mt (Oe (Or _) _) cE (Nat.le_refl _))
   exact ⟨(wr (aI + 1), List.set d1 (Int.toNat (Int.tmod (wr (i + aI)) n)) (wr (eZ + 1))), ⟨H.1, _, gW, Ee ⟨rfl, rfl, rfl, rfl, rfl, rfl, rfl, trivial⟩, ((((Br U273 _).step X279 (Oe (Or _) _)).stepx d7).step e1 e3), gX, gY, (Mt e3 (e2 _) (Nat.le_trans X279.size d7.size)), ((d5.ext d6).but e1 d3), (Mj (e2 _) d3 (d5.ext d6))⟩, H.2⟩
  have H := H.2 d4
  refine W_exit ?_
  refine (if_pos rfl).mpr ?_
  refine Wg (Lv ok 0 [(19, I i), (20, I (wr (i + 1))), (8, I (wr (i + 1)))] 3 rfl rfl (Ln _ rfl ?_))
  have e4 : DomLe U aW.heap.size aY := (Mt (Oe (Or _) _) cZ (Nat.le_refl _))
  have e5 := (Nat.le_trans (Nat.le_trans (Nat.le_trans X50.size aF.size) aP.size) aQ.size)
  have e6 : Fresh aW.heap.size aV := (DomLe.fresh bJ (emp_fresh _) e5)
  have e7 : DomLe U aW.heap.size aZ := (Mt (Oe (Or _) _) c4 (Nat.le_refl _))
  have e8 : DomLe U aW.heap.size a0 := (Mt (Oe (Or _) _) c7 (Nat.le_refl _))
  have e9 : DomLe U aW.heap.size U273 := (DomLe.eqv hU274 (Mu (Mt (Oe (Or _) _) c1 (Nat.le_refl _)) (Md D33 Sd)))
  have cS := (Mj bJ (Dj.emp_l _) bS)
  have cT := (Mj dm c9.symm (c3.ext aF)).symm
  have d8 : Dj (bx aA 29 [.slice aC (List.length (rows ++ ([sum]))) aD, .slice a (List.length (List.replicate (Int.toNat n) ((0 : Int)))) c, sl a5 lo a6, sl aM hi aN]) b1 := (Db (Mj dm d b3).symm)
  have d9 := (Mj dm dA.symm (c6.ext aF)).symm
  have fA : Dj (bx aA 29 [.slice aC (List.length (rows ++ ([sum]))) aD, .slice a (List.length (List.replicate (Int.toNat n) ((0 : Int)))) c, .slice aG (List.length (lo ++ ([aB]))) aH, sl aM hi aN]) b1 := (Db (Mj dm d b3).symm)
  have gZ := (Mj dm c8.symm (c0.ext aF)).symm
  have g0 : Dj (bx aA 29 [.slice aC (List.length (rows ++ ([sum]))) aD, .slice a (List.length (List.replicate (Int.toNat n) ((0 : Int)))) c, .slice aG (List.length (lo ++ ([aB]))) aH, .slice aS (List.length (hi ++ ([aJ]))) aT]) b1 := (Db (Mj dm d b3).symm)
  have fB := (Dl gZ g0)
  have cU := (Mj bM (Mj bU (Dj.emp_l _) cN) cB)
  have fC := (cB.ext aE)
  have eA : Dj (bx aA 29 [.slice aC (List.length (rows ++ ([sum]))) aD, .slice a (List.length (List.replicate (Int.toNat n) ((0 : Int)))) c, sl a5 lo a6, sl aM hi aN]) cC := (Mj a3 (Dl (Db bQ.symm).symm cU) fC).symm
  have fD := (dZ.but X181 cQ)
  have eB := (Mj a3 (Dl cM.symm (Mj bM (Mj bU (Dj.emp_l _) cO) fD)) (fD.ext aE)).symm
  have fE : Dj (bx aA 29 [.slice aC (List.length (rows ++ ([sum]))) aD, .slice a (List.length (List.replicate (Int.toNat n) ((0 : Int)))) c, .slice aG (List.length (lo ++ ([aB]))) aH, sl aM hi aN]) cC := (Db (Mj a3 (Dl (Db bQ.symm).symm cU) fC).symm)
  have fF := (Mj bJ (Dj.emp_l _) bR)
  have fG := ((bR.ext X126).but X181 fF)
  have fH := (fG.ext aE)
  have g1 := (Mj a3 (Dl cL (Mj bM (Mj bU (Dj.emp_l _) bR) fG)) fH).symm
  have fI := (cB.ext aE)
  have g2 : Dj (bx aA 29 [.slice aC (List.length (rows ++ ([sum]))) aD, .slice a (List.length (List.replicate (Int.toNat n) ((0 : Int)))) c, .slice aG (List.length (lo ++ ([aB]))) aH, .slice aS (List.length (hi ++ ([aJ]))) aT]) cC := (Db (Mj a3 (Dl (Db bQ.symm).symm cU) fI).symm)
  have fJ := (Dl g1 g2)
  have g3 : Dj bV (bx aA 29 [.slice aC (List.length (rows ++ ([sum]))) aD, .slice a (List.length (List.replicate (Int.toNat n) ((0 : Int)))) c, .slice aG (List.length (lo ++ ([aB]))) aH, sl aM hi aN]) := (Db (Mj a2 dW eS).symm).symm
  have eC := (Mj bW g3 cD)
  have fK : Dj (bx aA 29 [.slice aC (List.length (rows ++ ([sum]))) aD, .slice a (List.length (List.replicate (Int.toNat n) ((0 : Int)))) c, .slice aG (List.length (lo ++ ([aB]))) aH, sl aM hi aN]) cR := (Mj bN (Dl (Db bG.symm).symm eC) (cD.ext aL)).symm
  have fL := ((fH.but (But.dom aO dh) cL).but aK (Db bY.symm))
  have g4 := (Mj bN (Dl dB (Mj bW (Mj a2 fF (bR.ext X126)) fL)) (fL.ext aL)).symm
  have fM := (cD.ext aL)
  have g5 : Dj (bx aA 29 [.slice aC (List.length (rows ++ ([sum]))) aD, .slice a (List.length (List.replicate (Int.toNat n) ((0 : Int)))) c, .slice aG (List.length (lo ++ ([aB]))) aH, .slice aS (List.length (hi ++ ([aJ]))) aT]) cR := (Db (Mj bN (Dl (Db bG.symm).symm eC) fM).symm)
  have fN := (Dl g4 g5)
  have g6 : Dj b1 (bx aA 29 [.slice aC (List.length (rows ++ ([sum]))) aD, .slice a (List.length (List.replicate (Int.toNat n) ((0 : Int)))) c, .slice aG (List.length (lo ++ ([aB]))) aH, .slice aS (List.length (hi ++ ([aJ]))) aT]) := (Db (Mj dm d b3).symm).symm
  have g7 : Dj cC (bx aA 29 [.slice aC (List.length (rows ++ ([sum]))) aD, .slice a (List.length (List.replicate (Int.toNat n) ((0 : Int)))) c, .slice aG (List.length (lo ++ ([aB]))) aH, .slice aS (List.length (hi ++ ([aJ]))) aT]) := (Db (Mj a3 (Dl (Db bQ.symm).symm cU) fI).symm).symm
  have fO := ((bS.ext X126).but X181 cS)
  have fP := (fO.ext aE)
  have g8 := (Mj cE (Dj.eqv hU274 fJ) ((((dY.but aK eA).ext aL).but (But.dom bB bC) eB).but a4 fE)).symm
  have g9 : Dj cR (bx aA 29 [.slice aC (List.length (rows ++ ([sum]))) aD, .slice a (List.length (List.replicate (Int.toNat n) ((0 : Int)))) c, .slice aG (List.length (lo ++ ([aB]))) aH, .slice aS (List.length (hi ++ ([aJ]))) aT]) := (Db (Mj bN (Dl (Db bG.symm).symm eC) fM).symm).symm
  have fQ := ((fP.but (But.dom aO dh) cT).but aK d8)
  have hA := (Mj cE (Dj.eqv hU274 fN) (eV.but a4 fK)).symm
  have hB := (Mj a2 eM eK).symm
  have hC := (Mj a3 (Dl eR (Mj bM hB cP)) (cP.ext aE)).symm
  have fR := (dY.but aK eA)
  exact ⟨(wr (i + 1), rows ++ ([sum]), d1, lo ++ ([aB]), hi ++ ([aJ])), ⟨H.1, _, .slice aC (List.length (rows ++ ([sum]))) aD, b1, bO, .slice aG (List.length (lo ++ ([aB]))) aH, cC, .slice aS (List.length (hi ++ ([aJ]))) aT, cR, Ee ⟨rfl, rfl, rfl, rfl, rfl, rfl, trivial⟩, ((((((((((((((Br U _).step X50 (Oe (Or _) _)).stepx aF).step aP e4).step aQ (Md D33 Sd)).stepx X126).step X181 (e6.dom _)).stepx aE).step (But.dom aO dh) e7).step aK (Md D33 Sd)).stepx aL).step (But.dom bB bC) e8).step a4 (Md D33 Sd)).step X279 e9), eI, (((((((((bS.ext X126).but X181 cS).ext aE).but (But.dom aO dh) cT).but aK d8).ext aL).but (But.dom bB bC) d9).but a4 fA).but X279 (Dj.eqv hU274 fB)), (Mt e4 dm (Nat.le_trans X50.size aF.size)), d2, eW, (Mt e9 cE (Nat.le_trans (Nat.le_trans (Nat.le_trans (Nat.le_trans (Nat.le_trans (Nat.le_trans (Nat.le_trans (Nat.le_trans (Nat.le_trans (Nat.le_trans (Nat.le_trans X50.size aF.size) aP.size) aQ.size) X126.size) X181.size) aE.size) (But.dom aO dh).size) aK.size) aL.size) (But.dom bB bC).size) a4.size)), eQ, (((((dY.but aK eA).ext aL).but (But.dom bB bC) eB).but a4 fE).but X279 (Dj.eqv hU274 fJ)), (Mt (Mu e7 ((DomLe.fresh bM (DomLe.fresh bU (emp_fresh _) e5) (Nat.le_trans (Nat.le_trans (Nat.le_trans (Nat.le_trans (Nat.le_trans X50.size aF.size) aP.size) aQ.size) X126.size) X181.size)).dom _)) a3 (Nat.le_trans (Nat.le_trans (Nat.le_trans (Nat.le_trans (Nat.le_trans (Nat.le_trans X50.size aF.size) aP.size) aQ.size) X126.size) X181.size) aE.size)), eU, ((eV.but a4 fK).but X279 (Dj.eqv hU274 fN)), (Mt (Mu e8 ((DomLe.fresh bW (DomLe.fresh a2 e6 (Nat.le_trans (Nat.le_trans (Nat.le_trans (Nat.le_trans X50.size aF.size) aP.size) aQ.size) X126.size)) (Nat.le_trans (Nat.le_trans (Nat.le_trans (Nat.le_trans (Nat.le_trans (Nat.le_trans (Nat.le_trans (Nat.le_trans X50.size aF.size) aP.size) aQ.size) X126.size) X181.size) aE.size) (But.dom aO dh).size) aK.size)).dom _)) bN (Nat.le_trans (Nat.le_trans (Nat.le_trans (Nat.le_trans (Nat.le_trans (Nat.le_trans (Nat.le_trans (Nat.le_trans (Nat.le_trans X50.size aF.size) aP.size) aQ.size) X126.size) X181.size) aE.size) (But.dom aO dh).size) aK.size) aL.size)), eX, g6, d3, (Mj cE (Dj.eqv hU274 fB) ((((((((bS.ext X126).but X181 cS).ext aE).but (But.dom aO dh) cT).but aK d8).ext aL).but (But.dom bB bC) d9).but a4 fA)), g7, (Mj a3 (Dl cT (Mj bM (Mj bU (Dj.emp_l _) bS) fO)) fP), g8, g9, (Mj bN (Dl d9 (Mj bW (Mj a2 cS (bS.ext X126)) fQ)) (fQ.ext aL)), hA, (Mj bN (Dl eB (Mj bW hC fR)) (fR.ext aL))⟩, H.2⟩
 have H := H.2 hc
 refine W_exit ?_
 refine (if_pos rfl).mpr ?_
 refine Wq (Wg (Lb 0 (v := .agg #[sl bZ rows b0, .slice a (List.length (List.replicate (Int.toNat n) ((0 : Int)))) c, sl a5 lo a6, sl aM hi aN]) rfl rfl rfl ti_29 ag_29 (fun h => by cases h) rfl cK rfl rfl ?_))
 have eD := (ex.ext cW)
 have fS := (Df eD bP).symm
 have hD := (Df ex eE).symm
 have hE : Dj (bx aA 29 [.slice none 0 0, .slice a (List.length (List.replicate (Int.toNat n) ((0 : Int)))) c, .slice none 0 0, .slice none 0 0]) (bx b 29 [.slice none 0 0, .slice none 0 0, .slice none 0 0, .slice none 0 0]) := (Db (Df eD bP).symm)
 have cF := (Dl hD hE)
 refine Lx 1 (vs := [sl bZ rows b0, .slice a (List.length (List.replicate (Int.toNat n) ((0 : Int)))) c, sl a5 lo a6, sl aM hi aN]) (cs' := [sl bZ rows b0, .slice a (List.length (List.replicate (Int.toNat n) ((0 : Int)))) c, sl a5 lo a6, sl aM hi aN]) rfl rfl rfl ti_29 rfl rfl rfl rfl rfl (((ex.ext (cW.trans cJ)).but y fS).but X50 (Dj.eqv hU cF)) rfl rfl fun iW hF cG => ?_
 refine Ln _ rfl (W_ret ?_)
 have cV := ((eD.ext cJ).but y fS)
 have hG := (Mj cZ (Dj.eqv hU cF) cV).symm
 have X432 := (X.stepx x)
 have cH := eE.mono X432.size
 have X434 := (X432.stepx cW)
 have cI := bP.mono X434.size
 have hH := bP.mono X434.size
 have X437 := ((X434.stepx cJ).step y (hH.dom _))
 have hI := DomLe.fresh cZ (Fresh.eqv hU (Fresh.un cH (Fresh.box cI))) X437.size
 have hJ := (Mj c1 (Dj.eqv hU cF) cV).symm
 have hK := DomLe.fresh c1 (Fresh.eqv hU (Fresh.un cH (Fresh.box cI))) X437.size
 have hL := (Mj c4 (Dj.eqv hU cF) cV).symm
 have hM := DomLe.fresh c4 (Fresh.eqv hU (Fresh.un cH (Fresh.box cI))) X437.size
 have hN := (Mj c7 (Dj.eqv hU cF) cV).symm
 have hO := DomLe.fresh c7 (Fresh.eqv hU (Fresh.un cH (Fresh.box cI))) X437.size
 have hP := f.mono X.size
 exact ⟨_, Ret_of [.agg #[sl bZ rows b0, .slice a (List.length (List.replicate (Int.toNat n) ((0 : Int)))) c, sl a5 lo a6, sl aM hi aN]] ⟨⟨_, rfl, rfl, ld_res ti_29 ag_29 (fun h => by cases h) hF rfl rfl⟩, trivial⟩, _, _, _, _, _, _, _, _, _, H, rfl, ((X437.step X50 (DomLe.eqv hU (Mu (cH.dom _) ((Fresh.box cI).dom _)))).step cG (hP.dom _)).ext, cY, (eF.but cG hG), hI, eG, (c0.but cG hJ), hK, c2, (c3.but cG hL), hM, c5, (c6.but cG hN), hO, c8.symm, c9.symm, dA.symm, cL.symm, dB.symm, cM.symm⟩

theorem spec_l1Cur_anyTransport_w (c : L1Cur) (Q : Transport → Int → Int → Prop) (H : spec_l1Cur_anyTransport c Q) (w : World) {vx : Value} {hx : PH} (r : RS hx vx c.Code) (ex : Sub hx w) {b : Nat} (a2 : Sub (bx b 70 [vx, I c.At, .int .u64 c.Seed]) w) (d : Dj (bx b 70 [vx, I c.At, .int .u64 c.Seed]) hx) :
  CallsTo Try.prog 52 #[pb b] w fun v w' => ∃ cW m1_0 m1_1 u0_0 g0_0 u0_1 g0_1 u0_2 g0_2 u0_3 g0_3, Q cW m1_0 m1_1 ∧ v = .agg #[u0_0, u0_1, u0_2, u0_3] ∧ But (bx b 70 [vx, I c.At, .int .u64 c.Seed]) w w' ∧ OS 3 g0_0 emp u0_0 cW.Rows ∧ Sub g0_0 w' ∧ Fresh w.heap.size g0_0 ∧ OS 3 g0_1 emp u0_1 cW.Cols ∧ Sub g0_1 w' ∧ Fresh w.heap.size g0_1 ∧ RS g0_2 u0_2 cW.Lo ∧ Sub g0_2 w' ∧ Fresh w.heap.size g0_2 ∧ OD g0_3 u0_3 cW.Hi ∧ Sub g0_3 w' ∧ Fresh w.heap.size g0_3 ∧ Sub (bx b 70 [vx, I m1_0, .int .u64 m1_1]) w' ∧ Dj g0_0 g0_1 ∧ Dj g0_0 g0_2 ∧ Dj g0_0 g0_3 ∧ Dj g0_0 (bx b 70 [vx, I m1_0, .int .u64 m1_1]) ∧ Dj g0_1 g0_2 ∧ Dj g0_1 g0_3 ∧ Dj g0_1 (bx b 70 [vx, I m1_0, .int .u64 m1_1]) ∧ Dj g0_2 g0_3 ∧ Dj g0_2 (bx b 70 [vx, I m1_0, .int .u64 m1_1]) ∧ Dj g0_3 (bx b 70 [vx, I m1_0, .int .u64 m1_1]) := by
 obtain ⟨a, aM, rfl⟩ := r.shape
 refine enter (args := [pb b]) 66 Try.func52 rfl rfl rfl ?_
 refine Wo [(0, pb b)] ⟨rfl, trivial⟩ fun ρ => ?_
 have D : Dom (bx b 70 [sl a c.Code aM, I c.At, .int .u64 c.Seed]) (bx b 70 [sl a c.Code aM, I c.At, .int .u64 c.Seed]) := (Or _)
 have X := Br (bx b 70 [sl a c.Code aM, I c.At, .int .u64 c.Seed]) w
 refine Wq (Wg (La 0 rfl rfl rfl ti_29 rfl fun aS wx x a3 f => (Ln _ rfl (Wq (Wg (Lv ok 0 [(4, pb b)] 1 rfl rfl ?_))))))
 have dL := (ex.ext x)
 refine Lc 1 rfl rfl rfl cal_92 rfl (spec_l1Cur_transport_w _ _ H wx r dL (a2.ext x) d) ?_
 rintro _ mI ⟨aA, a4, a5, mJ, aT, mK, aY, mL, aU, mM, aV, H, rfl, cG, HF⟩
 revert HF
 refine bb9 fun o bC eY b2 bL eZ b3 bD => ?_
 refine bb9 fun bR bS bE e0 a6 bT bU bV => ?_
 refine bb7 fun aR bW bX aO bY aP aQ => ?_
 obtain ⟨aF, aG, rfl⟩ := o.shape
 obtain ⟨aJ, aK, rfl⟩ := b2.shape
 obtain ⟨aH, aI, rfl⟩ := b3.shape
 obtain ⟨aD, aE, rfl⟩ := bS.shape
 refine La 2 rfl rfl rfl ti_29 rfl fun aB mN bZ gH aL => (Lx 3 (vs := [sl aF aA.Rows aG, sl aJ aA.Cols aK, sl aH aA.Lo aI, sl aD aA.Hi aE]) (cs' := [sl aF aA.Rows aG, sl aJ aA.Cols aK, sl aH aA.Lo aI, sl aD aA.Hi aE]) rfl rfl rfl ti_29 rfl rfl rfl rfl rfl gH rfl rfl fun cX cH y => (Ln _ rfl ?_))
 have e1 := aL.mono ((X.stepx x).step cG (Oe D _)).size
 have X59 := ((((X.stepx x).step cG (Oe D _)).stepx bZ).step y (e1.dom _))
 have dj := (Df (dL.but cG d) aL).symm
 have cY := (((dL.but cG d).ext bZ).but y dj)
 have gI := (Df a6 aL).symm
 have e2 := (a3.but cG (Df a2 f))
 have gJ := (Df e2 aL).symm
 have bM := (((a3.but cG (Df a2 f)).ext bZ).but y gJ)
 have dM := f.mono X.size
 have gK := (Df bC aL).symm
 have bN := ((bC.ext bZ).but y gK)
 have X71 := (X.stepx x)
 have b4 := eY.mono X71.size
 have gL := (Df bL aL).symm
 have bO := ((bL.ext bZ).but y gL)
 have b5 := eZ.mono X71.size
 have gM := (Df bD aL).symm
 have bP := ((bD.ext bZ).but y gM)
 have b6 := bR.mono X71.size
 have gN := (Df bE aL).symm
 have b0 := ((bE.ext bZ).but y gN)
 have b7 := e0.mono X71.size
 obtain ⟨U, hU⟩ : ∃ U : PH, U = (un (bx b 70 [sl a c.Code aM, I a4, .int .u64 a5]) (un aT (un aY (un aU (un aV (bx aB 29 [sl aF aA.Rows aG, sl aJ aA.Cols aK, sl aH aA.Lo aI, sl aD aA.Hi aE])))))) := ⟨_, rfl⟩
 have D102 : Dom U (bx b 70 [sl a c.Code aM, I a4, .int .u64 a5]) := Dom.eqv hU (Dom.l _ _)
 have D103 : Dom U aT := Dom.eqv hU (Ot (Dom.r _ _) (Dom.l _ _))
 have D104 : Dom U aY := Dom.eqv hU (Ot (Dom.r _ _) (Ot (Dom.r _ _) (Dom.l _ _)))
 have D105 : Dom U aU := Dom.eqv hU (Ot (Dom.r _ _) (Ot (Dom.r _ _) (Ot (Dom.r _ _) (Dom.l _ _))))
 have D106 : Dom U aV := Dom.eqv hU (Ot (Dom.r _ _) (Ot (Dom.r _ _) (Ot (Dom.r _ _) (Ot (Dom.r _ _) (Dom.l _ _)))))
 have D107 : Dom U (bx aB 29 [sl aF aA.Rows aG, sl aJ aA.Cols aK, sl aH aA.Lo aI, sl aD aA.Hi aE]) := Dom.eqv hU (Ot (Dom.r _ _) (Ot (Dom.r _ _) (Ot (Dom.r _ _) (Ot (Dom.r _ _) (Ot (Dom.r _ _) (Or _))))))
 obtain ⟨k, hk, H⟩ := jn_elim H
 refine W_join2 (S := Int × Int × (List Int) × (List Int) × (List (List Int)) × (List (List Int))) (fun s ρ' w' => k s.1 s.2.1 s.2.2.1 s.2.2.2.1 s.2.2.2.2.1 s.2.2.2.2.2 ∧ ∃ (ρ : Env) (bF : PH) (b8 : Value) (bG : PH) (bH : PH) (b9 : Value) (bI : PH), ρ' = setAll [(2, pb aS), (3, pb aB)] ρ ∧ But U cX w' ∧ OS 3 bF emp (sl aF aA.Rows aG) s.2.2.1 ∧ Sub bF w' ∧ DomLe U cX.heap.size bF ∧ Fresh w.heap.size bF ∧ OS 3 bG emp b8 s.2.2.2.1 ∧ Sub bG w' ∧ DomLe U cX.heap.size bG ∧ Fresh w.heap.size bG ∧ OD bH (sl aD aA.Hi aE) s.2.2.2.2.2 ∧ Sub bH w' ∧ DomLe U cX.heap.size bH ∧ Fresh w.heap.size bH ∧ RS bI b9 s.2.2.2.2.1 ∧ Sub bI w' ∧ Fresh w.heap.size bI ∧ Sub (bx b 70 [sl a c.Code aM, I s.1, .int .u64 s.2.1]) w' ∧ Sub (bx aB 29 [sl aF aA.Rows aG, b8, b9, sl aD aA.Hi aE]) w' ∧ Dj bF (bx b 70 [sl a c.Code aM, I s.1, .int .u64 s.2.1]) ∧ Dj bF (bx aB 29 [sl aF aA.Rows aG, b8, b9, sl aD aA.Hi aE]) ∧ Dj bF bI ∧ Dj bG (bx b 70 [sl a c.Code aM, I s.1, .int .u64 s.2.1]) ∧ Dj bG (bx aB 29 [sl aF aA.Rows aG, b8, b9, sl aD aA.Hi aE]) ∧ Dj bG bI ∧ Dj bG bF ∧ Dj bH (bx b 70 [sl a c.Code aM, I s.1, .int .u64 s.2.1]) ∧ Dj bH (bx aB 29 [sl aF aA.Rows aG, b8, b9, sl aD aA.Hi aE]) ∧ Dj bH bI ∧ Dj bH bF ∧ Dj bH bG ∧ Dj bI (bx b 70 [sl a c.Code aM, I s.1, .int .u64 s.2.1]) ∧ Dj bI (bx aB 29 [sl aF aA.Rows aG, b8, b9, sl aD aA.Hi aE]) ∧ Dj bI (bx aS 29 [.slice none 0 0, .slice none 0 0, .slice none 0 0, .slice none 0 0])) ?_ ?_
 ·refine Wq (Wg (Lv ok 0 [(6, pb b)] 1 rfl rfl (Lc 1 rfl rfl rfl cal_53 rfl (spec_l1Cur_pick_w _ _ _ H cX r cY ((a6.ext bZ).but y gI) (Db d)) ?_)))
  rintro _ e3 ⟨aN, a7, a8, H, rfl, aC, bJ⟩
  refine Ln _ rfl (W_block (Wq (Wg (Lv ok 0 [(9, .bool (aN == 0)), (8, .bool (aN == 0))] 2 rfl rfl (Ln _ rfl ?_)))))
  refine Wc (aN == 0) rfl (fun hc => ?_) (fun hc => ?_)
  ·have H := H.1 hc
   refine W_open mix fun mO dN => ?_
   refine AP_game 5 [[], [0], [], [], [2, 3], [0, 1, 2, 3, 4], [0, 1, 2, 3, 4, 5]] [[(3, none)], [(10, some 0)], [(0, none)], [], [(12, some 2), (13, some 3)]] [(2, none), (3, none), (11, some 1), (14, some 4)] [(0, false), (1, false), (2, false), (3, true), (4, true)] (by kernel_rfl) (by kernel_rfl) ?_
   refine GS_ev ok [(3, pb aB)] (pb aB) rfl rfl (fun _ h => h) (fun _ => rfl) ?_
   have gO : Dj (bx b 70 [sl a c.Code aM, I a4, .int .u64 a5]) (bx aB 29 [sl aF aA.Rows aG, sl aJ aA.Cols aK, sl aH aA.Lo aI, sl aD aA.Hi aE]) := (Db (Df a6 aL).symm).symm
   have c2 := ((cH.but aC gO).ext dN)
   refine GS_r1 [(10, pb aB)] (sl aF aA.Rows aG) rfl rfl (fun _ h => h) (fun _ w e => ex_ldbox rfl ti_22 ag_22 (fun _ => rfl) rfl e rfl rfl) c2 ?_
   refine GS_ev ok [(0, pb b)] (pb b) rfl rfl (fun _ h => h) (fun _ => rfl) ?_
   refine GS_lp [] rfl rfl (fun _ h => h) rfl fun ρ mP dO => ?_
   refine LP_lit (α := Int) (g := emp) 0 (vs := [I ((-1)), I 100000, I 100001]) (xs := [(-1), 100000, 100001]) rfl rfl rfl Try.underlying22 ti_3 rfl rfl ⟨⟨_, rfl, rfl⟩, ⟨_, rfl, rfl⟩, ⟨_, rfl, rfl⟩, trivial⟩ rfl rfl fun mQ mR mS dP e4 gP gQ => ?_
   obtain ⟨gR, gS, rfl⟩ := e4.shape
   have xc := (dO.trans dP)
   have e5 := (c2.ext xc)
   refine LP_gs ⟨⟨.inr e5, trivial⟩, ?_⟩
   refine GS_lp [(12, pb b), (13, .slice gR (List.length ([(-1), 100000, 100001])) gS)] rfl rfl (fun _ h => h) rfl fun ρ gT cZ => ?_
   have e6 := (bJ.ext (dN.trans dO))
   have bB := (((dN.trans dO).trans dP).trans cZ)
   refine Lc 0 rfl rfl rfl cal_93 rfl (spec_l1Cur_among_w _ _ _ H gT r ((cY.but aC (Db d)).ext bB) (e6.ext (dP.trans cZ)) e4.readf (gP.ext cZ) (Db d) (Df e6 gQ)) ?_
   rintro _ mT ⟨e7, e8, e9, H, rfl, a1, fA⟩
   have dQ : Dj (bx b 70 [sl a c.Code aM, I a7, .int .u64 a8]) (bx aB 29 [sl aF aA.Rows aG, sl aJ aA.Cols aK, sl aH aA.Lo aI, sl aD aA.Hi aE]) := (Db (Db (Df a6 aL)).symm).symm
   refine LP_gs ⟨⟨.inr ((e5.ext cZ).but a1 dQ), trivial⟩, ?_⟩
   intro mU aZ ρ hn
   refine AP_forget [(2, pb aS), (3, pb aB), (11, sl aF aA.Rows aG), (14, I e7)] (by exact hn) fun ρ => ?_
   refine AP_tail 5 [[], [0], [], [], [2, 3], [0, 1, 2, 3, 4], [0, 1, 2, 3, 4, 5]] (by kernel_rfl) ?_
   obtain ⟨gU, hl, H⟩ := H
   refine LP_indexw (v := sl aF aA.Rows aG) 5 rfl rfl rfl Try.underlying22 ti_3 rfl rfl o gU hl fun mV wa => (LP_set 6 rfl rfl rfl rfl rfl wa (Le.refl emp) ⟨_, rfl, rfl⟩ ((((bN.but aC aR.symm).ext bB).but a1 (Db aR.symm)).ext aZ) fun fB mW gV gW cI dm => (Ln _ rfl ?_))
   have gX := (dm _).fresh b4 ((((X59.step aC (Md D Sd)).stepx bB).step a1 (Md D Sd)).stepx aZ).size
   have fC := (xc.trans cZ)
   have fD : Dj aT (bx aB 29 [sl aF aA.Rows aG, sl aJ aA.Cols aK, sl aH aA.Lo aI, sl aD aA.Hi aE]) := (Db (Df bC aL).symm).symm
   have gY : Dj fB (bx b 70 [sl a c.Code aM, I e8, .int .u64 e9]) := (Mj (dm _) (Db aR.symm).symm (fA.ext aZ))
   have gZ : Dj aY (bx aB 29 [sl aF aA.Rows aG, sl aJ aA.Cols aK, sl aH aA.Lo aI, sl aD aA.Hi aE]) := (Db (Df bL aL).symm).symm
   have g0 := (Mj (dm _) bT ((((bO.but aC aO.symm).ext bB).but a1 (Db aO.symm)).ext aZ)).symm
   have g1 : Dj aV (bx aB 29 [sl aF aA.Rows aG, sl aJ aA.Cols aK, sl aH aA.Lo aI, sl aD aA.Hi aE]) := (Db (Df bE aL).symm).symm
   have g2 := (Mj (dm _) bV ((((b0.but aC aQ.symm).ext bB).but a1 (Db aQ.symm)).ext aZ)).symm
   have g3 : Dj aU (bx aB 29 [sl aF aA.Rows aG, sl aJ aA.Cols aK, sl aH aA.Lo aI, sl aD aA.Hi aE]) := (Db (Df bD aL).symm).symm
   have g4 := (Df a3 bR).symm
   exact ⟨(e8, e9, List.set aA.Rows (Int.toNat 0) e7, aA.Cols, aA.Lo, aA.Hi), H, _, fB, sl aJ aA.Cols aK, aY, aV, sl aH aA.Lo aI, aU, Ee ⟨rfl, rfl, trivial⟩, ((((((Br U _).step aC (Oe D102 _)).stepx bB).step a1 (Md D102 Sd)).stepx aZ).step cI (Oe D103 _)), gV, gW, (Mt (Oe D103 _) (dm _) (Nat.le_trans (Nat.le_trans (Nat.le_trans aC.size bB.size) a1.size) aZ.size)), gX, b2, (((((bO.but aC aO.symm).ext bB).but a1 (Db aO.symm)).ext aZ).but cI bT), (Oe D104 _), b5, bS, (((((b0.but aC aQ.symm).ext bB).but a1 (Db aQ.symm)).ext aZ).but cI bV), (Oe D106 _), b7, b3.readf, (((((bP.but aC aP.symm).ext bB).but a1 (Db aP.symm)).ext aZ).but cI bU), b6, ((fA.ext aZ).but cI (Db aR.symm).symm), ((((c2.ext fC).but a1 dQ).ext aZ).but cI fD), gY, (Mj (dm _) fD (((c2.ext fC).but a1 dQ).ext aZ)), (Mj (dm _) bU ((((bP.but aC aP.symm).ext bB).but a1 (Db aP.symm)).ext aZ)), (Db aO.symm).symm, gZ, bW, g0, (Db aQ.symm).symm, g1, bY.symm, g2, bX.symm, (Db aP.symm).symm, g3, g4⟩
  have H := H.2 hc
  refine Wq (Wg (Lv ok 0 [(17, .bool (aN == 1)), (16, .bool (aN == 1))] 2 rfl rfl (Ln _ rfl ?_)))
  refine Wc (aN == 1) rfl (fun dR => ?_) (fun dR => ?_)
  ·have H := H.1 dR
   refine W_open mix fun mX c3 => ?_
   refine AP_game 11 [[], [0], [0, 1], [0, 1, 2], [], [4], [4, 5], [4, 5, 6], [4, 5, 6, 7], [4, 5, 6, 7, 8], [4, 5, 6, 7, 8, 9], [0, 1, 2, 3, 4, 5, 6, 7, 8, 9, 10], [0, 1, 2, 3, 4, 5, 6, 7, 8, 9, 10, 11]] [[(3, none)], [(18, some 0)], [(19, some 1)], [(20, some 2)], [(3, none)], [(22, some 4)], [(23, some 5)], [(24, some 6)], [(25, some 7)], [(26, some 8)], [(27, some 9)]] [(2, none), (3, none), (21, some 3), (28, some 10)] [(0, false), (1, false), (2, false), (3, false), (4, false), (5, false), (6, false), (7, false), (8, false), (9, false), (10, false)] (by kernel_rfl) (by kernel_rfl) ?_
   refine GS_ev ok [(3, pb aB)] (.pointer (some ⟨aB, 2, none⟩)) rfl rfl (fun _ h => h) (fun _ => rfl) ?_
   have g5 : Dj (bx b 70 [sl a c.Code aM, I a4, .int .u64 a5]) (bx aB 29 [sl aF aA.Rows aG, sl aJ aA.Cols aK, sl aH aA.Lo aI, sl aD aA.Hi aE]) := (Db (Df a6 aL).symm).symm
   have c4 := ((cH.but aC g5).ext c3)
   refine GS_r1 [(18, .pointer (some ⟨aB, 2, none⟩))] (sl aH aA.Lo aI) rfl rfl (fun _ h => h) (fun _ w e => ex_ldbox rfl ti_23 ag_23 (fun _ => rfl) rfl e rfl rfl) c4 ?_
   obtain ⟨cJ, g6, g7, H⟩ := H
   obtain ⟨fE, u, g8, rest, g9, hA, bw⟩ := run_indexb Try.underlying23 ti_22 b3 _ g6 g7
   refine GS_r0 [(19, sl aH aA.Lo aI)] (.pointer (some fE)) rfl rfl (fun _ h => h) (fun _ _ => ex_index rfl rfl rfl (g9 _)) ?_
   have fF := bw.od
   obtain ⟨c5, c6, rfl⟩ := fF.shape
   have dS := ((bP.but aC aP.symm).ext c3)
   have hB := Sub.le dS bw.le
   have hC : OS 3 g8 emp (sl c5 cJ c6) cJ := OD.flat fF
   refine GS_r1 [(20, .pointer (some fE))] (sl c5 cJ c6) rfl rfl (fun _ h => h) (fun _ w e => ex_ldcell rfl ti_22 ag_22 rfl hA e) dS ?_
   refine GS_ev ok [(3, pb aB)] (.pointer (some ⟨aB, 3, none⟩)) rfl rfl (fun _ h => h) (fun _ => rfl) ?_
   refine GS_r1 [(22, .pointer (some ⟨aB, 3, none⟩))] (sl aD aA.Hi aE) rfl rfl (fun _ h => h) (fun _ w e => ex_ldbox rfl ti_23 ag_23 (fun _ => rfl) rfl e rfl rfl) c4 ?_
   obtain ⟨dT, hD, hE, H⟩ := H
   obtain ⟨fG, cs, hF, hG, hH⟩ := run_indexAt Try.underlying23 ti_22 bS.readf .i64 _ dT hD hE
   refine GS_r0 [(23, sl aD aA.Hi aE)] (.pointer (some fG)) rfl rfl (fun _ h => h) (fun _ _ => ex_index rfl rfl rfl (hF _)) ?_
   obtain ⟨mY, hI, hJ⟩ := run_loadAt ti_22 ag_22 hG hH
   have fH := hJ.slice
   obtain ⟨fI, fJ, rfl⟩ := fH.shape
   have c7 := ((b0.but aC aQ.symm).ext c3)
   refine GS_r1 [(24, .pointer (some fG))] (sl fI dT fJ) rfl rfl (fun _ h => h) (fun _ w e => ex_load rfl rfl (hI w e)) c7 ?_
   obtain ⟨cK, hK, hL, H⟩ := H
   obtain ⟨fK, mZ, hM, hN, hO⟩ := run_indexAt Try.underlying22 ti_3 fH .i64 _ cK hK hL
   refine GS_r0 [(25, sl fI dT fJ)] (.pointer (some fK)) rfl rfl (fun _ h => h) (fun _ _ => ex_index rfl rfl rfl (hM _)) ?_
   obtain ⟨m0, hP, hQ⟩ := run_loadAt ti_3 ag_3 hN hO
   obtain rfl := hQ.int
   refine GS_r1 [(26, .pointer (some fK))] (I cK) rfl rfl (fun _ h => h) (fun _ w e => ex_load rfl rfl (hP w e)) c7 ?_
   refine GS_ev ok [(27, I cK)] (I (wr (cK + 1))) rfl rfl (fun _ h => h) (fun _ => rfl) ?_
   intro m1 cA ρ hR
   refine AP_forget [(2, pb aS), (3, pb aB), (21, sl c5 cJ c6), (28, I (wr (cK + 1)))] (by exact hR) fun ρ => ?_
   refine AP_tail 11 [[], [0], [0, 1], [0, 1, 2], [], [4], [4, 5], [4, 5, 6], [4, 5, 6, 7], [4, 5, 6, 7, 8], [4, 5, 6, 7, 8, 9], [0, 1, 2, 3, 4, 5, 6, 7, 8, 9, 10], [0, 1, 2, 3, 4, 5, 6, 7, 8, 9, 10, 11]] (by kernel_rfl) ?_
   obtain ⟨hS, hT, H⟩ := H
   refine LP_indexw (v := sl c5 cJ c6) 11 rfl rfl rfl Try.underlying22 ti_3 rfl rfl hC hS hT fun m2 hV => (LP_set 12 rfl rfl rfl rfl rfl hV (Le.refl emp) ⟨_, rfl, rfl⟩ (hB.ext cA) fun hW m3 hX hY fL hZ => ?_)
   obtain ⟨m4, h0, dd⟩ := BwL.turn bw (OS.od hX) (Dom.of hZ)
   have h1 := BwL.sub bw (dS.ext cA) hY fL
   have cL := BwL.but bw fL
   refine Ln _ rfl ?_
   have bQ := (c3.trans cA)
   have h2 := ((fun n => Oe dd n) _).fresh b6 ((X59.step aC (Md D Sd)).stepx bQ).size
   have fM : Dj aU (bx aB 29 [sl aF aA.Rows aG, sl aJ aA.Cols aK, sl aH aA.Lo aI, sl aD aA.Hi aE]) := (Db (Df bD aL).symm).symm
   have h3 : Dj aT (bx aB 29 [sl aF aA.Rows aG, sl aJ aA.Cols aK, sl aH aA.Lo aI, sl aD aA.Hi aE]) := (Db (Df bC aL).symm).symm
   have h4 : Dj aY (bx aB 29 [sl aF aA.Rows aG, sl aJ aA.Cols aK, sl aH aA.Lo aI, sl aD aA.Hi aE]) := (Db (Df bL aL).symm).symm
   have h5 : Dj aV (bx aB 29 [sl aF aA.Rows aG, sl aJ aA.Cols aK, sl aH aA.Lo aI, sl aD aA.Hi aE]) := (Db (Df bE aL).symm).symm
   have h6 := (Df a3 bR).symm
   have h7 : Dj (bx b 70 [sl a c.Code aM, I a4, .int .u64 a5]) (bx aS 29 [.slice none 0 0, .slice none 0 0, .slice none 0 0, .slice none 0 0]) := (Db (Df a2 f))
   exact ⟨(a7, a8, aA.Rows, aA.Cols, List.set aA.Lo (Int.toNat 0) (List.set cJ (Int.toNat 0) (wr (cK + 1))), aA.Hi), H, _, aT, sl aJ aA.Cols aK, aY, aV, sl aH aA.Lo aI, (un hW rest), Ee ⟨rfl, rfl, trivial⟩, ((((Br U _).step aC (Oe D102 _)).stepx bQ).step cL (Oe D105 _)), o, (((bN.but aC aR.symm).ext bQ).but cL bU.symm), (Oe D103 _), b4, b2, (((bO.but aC aO.symm).ext bQ).but cL bW.symm), (Oe D104 _), b5, bS, ((c7.ext cA).but cL bY), (Oe D106 _), b7, h0.readf, h1, h2, ((bJ.ext bQ).but cL (Db aP.symm).symm), ((c4.ext cA).but cL fM), (Db aR.symm).symm, h3, (Mj ((fun n => Oe dd n) _) bU.symm ((bN.but aC aR.symm).ext bQ)).symm, (Db aO.symm).symm, h4, (Mj ((fun n => Oe dd n) _) bW.symm ((bO.but aC aO.symm).ext bQ)).symm, bT.symm, (Db aQ.symm).symm, h5, (Mj ((fun n => Oe dd n) _) bY (c7.ext cA)).symm, bV.symm, bX.symm, (Mj ((fun n => Oe dd n) _) (Db aP.symm).symm (bJ.ext bQ)), (Mj ((fun n => Oe dd n) _) fM (c4.ext cA)), (Mj ((fun n => Oe dd n) _) h6 ((bM.but aC h7).ext bQ))⟩
  have H := H.2 dR
  refine Wq (Wg (Lv ok 0 [(31, .bool (aN == 2)), (30, .bool (aN == 2))] 2 rfl rfl (Ln _ rfl ?_)))
  refine Wc (aN == 2) rfl (fun dU => ?_) (fun dU => ?_)
  ·have H := H.1 dU
   refine Wg (Lv ok 0 [(32, .pointer (some ⟨aB, 2, none⟩))] 1 rfl rfl ?_)
   have h8 : Dj (bx b 70 [sl a c.Code aM, I a4, .int .u64 a5]) (bx aB 29 [sl aF aA.Rows aG, sl aJ aA.Cols aK, sl aH aA.Lo aI, sl aD aA.Hi aE]) := (Db (Df a6 aL).symm).symm
   have fN := (cH.but aC h8)
   refine Lb 1 (v := sl aH aA.Lo aI) rfl rfl rfl ti_23 ag_23 (fun _ => rfl) rfl fN rfl rfl ?_
   obtain ⟨h9, hu, iA, H⟩ := H
   refine LP_slice 2 1 ((List.length aA.Lo : Int)) rfl rfl rfl Try.underlying23 ti_22 rfl rfl rfl b3.readf (.inr rfl) (.inl ⟨rfl, rfl⟩) h9 hu iA fun m5 fO => ?_
   obtain ⟨cB, cC, rfl⟩ := fO.shape
   refine Lv ok 3 [(35, .pointer (some ⟨aB, 2, none⟩))] 4 rfl rfl (Lx 4 (vs := [.slice cB (List.length (List.take (Int.toNat ((List.length aA.Lo : Int)) - Int.toNat 1) (List.drop (Int.toNat 1) aA.Lo))) cC]) (cs' := [sl aF aA.Rows aG, sl aJ aA.Cols aK, .slice cB (List.length (List.take (Int.toNat ((List.length aA.Lo : Int)) - Int.toNat 1) (List.drop (Int.toNat 1) aA.Lo))) cC, sl aD aA.Hi aE]) rfl rfl rfl ti_23 rfl rfl rfl rfl rfl fN rfl rfl fun m6 iB cM => ?_)
   refine Ln _ rfl ?_
   have iC : Dj (bx aB 29 [sl aF aA.Rows aG, sl aJ aA.Cols aK, sl aH aA.Lo aI, sl aD aA.Hi aE]) aT := (Db (Df bC aL).symm)
   have iD : Dj (bx aB 29 [sl aF aA.Rows aG, sl aJ aA.Cols aK, sl aH aA.Lo aI, sl aD aA.Hi aE]) aY := (Db (Df bL aL).symm)
   have iE : Dj (bx aB 29 [sl aF aA.Rows aG, sl aJ aA.Cols aK, sl aH aA.Lo aI, sl aD aA.Hi aE]) aV := (Db (Df bE aL).symm)
   have iF : Dj (bx aB 29 [sl aF aA.Rows aG, sl aJ aA.Cols aK, sl aH aA.Lo aI, sl aD aA.Hi aE]) aU := (Db (Df bD aL).symm)
   have iG : Dj (bx aB 29 [sl aF aA.Rows aG, sl aJ aA.Cols aK, sl aH aA.Lo aI, sl aD aA.Hi aE]) (bx b 70 [sl a c.Code aM, I a7, .int .u64 a8]) := (Db (Db (Df a6 aL).symm).symm).symm
   have iH : Dj aT (bx aB 29 [sl aF aA.Rows aG, sl aJ aA.Cols aK, .slice cB (List.length (List.take (Int.toNat ((List.length aA.Lo : Int)) - Int.toNat 1) (List.drop (Int.toNat 1) aA.Lo))) cC, sl aD aA.Hi aE]) := (Db (Df bC aL).symm).symm
   have iI : Dj aY (bx aB 29 [sl aF aA.Rows aG, sl aJ aA.Cols aK, .slice cB (List.length (List.take (Int.toNat ((List.length aA.Lo : Int)) - Int.toNat 1) (List.drop (Int.toNat 1) aA.Lo))) cC, sl aD aA.Hi aE]) := (Db (Df bL aL).symm).symm
   have iJ : Dj aV (bx aB 29 [sl aF aA.Rows aG, sl aJ aA.Cols aK, .slice cB (List.length (List.take (Int.toNat ((List.length aA.Lo : Int)) - Int.toNat 1) (List.drop (Int.toNat 1) aA.Lo))) cC, sl aD aA.Hi aE]) := (Db (Df bE aL).symm).symm
   have iK : Dj aU (bx aB 29 [sl aF aA.Rows aG, sl aJ aA.Cols aK, .slice cB (List.length (List.take (Int.toNat ((List.length aA.Lo : Int)) - Int.toNat 1) (List.drop (Int.toNat 1) aA.Lo))) cC, sl aD aA.Hi aE]) := (Db (Df bD aL).symm).symm
   have iL := (Df a3 bR).symm
   exact ⟨(a7, a8, aA.Rows, aA.Cols, List.take (Int.toNat ((List.length aA.Lo : Int)) - Int.toNat 1) (List.drop (Int.toNat 1) aA.Lo), aA.Hi), H, _, aT, sl aJ aA.Cols aK, aY, aV, .slice cB (List.length (List.take (Int.toNat ((List.length aA.Lo : Int)) - Int.toNat 1) (List.drop (Int.toNat 1) aA.Lo))) cC, aU, Ee ⟨rfl, rfl, trivial⟩, (((Br U _).step aC (Oe D102 _)).step cM (Oe D107 _)), o, ((bN.but aC aR.symm).but cM iC), (Oe D103 _), b4, b2, ((bO.but aC aO.symm).but cM iD), (Oe D104 _), b5, bS, ((b0.but aC aQ.symm).but cM iE), (Oe D106 _), b7, fO, ((bP.but aC aP.symm).but cM iF), b6, (bJ.but cM iG), iB, (Db aR.symm).symm, iH, bU, (Db aO.symm).symm, iI, bW, bT.symm, (Db aQ.symm).symm, iJ, bY.symm, bV.symm, bX.symm, (Db aP.symm).symm, iK, iL⟩
  have H := H.2 dU
  refine Wq (Wg (Lv ok 0 [(37, .bool (aN == 3)), (36, .bool (aN == 3))] 2 rfl rfl (Ln _ rfl ?_)))
  refine Wc (aN == 3) rfl (fun dV => ?_) (fun dV => ?_)
  ·have H := H.1 dV
   refine Wg (Lv ok 0 [(38, .pointer (some ⟨aB, 1, none⟩))] 1 rfl rfl ?_)
   have iM : Dj (bx b 70 [sl a c.Code aM, I a4, .int .u64 a5]) (bx aB 29 [sl aF aA.Rows aG, sl aJ aA.Cols aK, sl aH aA.Lo aI, sl aD aA.Hi aE]) := (Db (Df a6 aL).symm).symm
   have dW := (cH.but aC iM)
   refine Lb 1 (v := sl aJ aA.Cols aK) rfl rfl rfl ti_22 ag_22 (fun _ => rfl) rfl dW rfl rfl (LP_lit (α := Int) (g := emp) 2 (vs := [I 0]) (xs := [0]) rfl rfl rfl Try.underlying22 ti_3 rfl rfl ⟨⟨_, rfl, rfl⟩, trivial⟩ rfl rfl fun m7 m8 m9 a0 fP iN nA => ?_)
   obtain ⟨nB, nC, rfl⟩ := fP.shape
   obtain ⟨hb, H⟩ := H
   refine LP_appendf (α := Int) 3 rfl rfl rfl Try.underlying22 ti_3 rfl rfl rfl b2 ((bO.but aC aO.symm).ext a0) fP.readf iN (by first | omega | (simp only [ln] at *; omega)) (by first | omega | (simp only [ln] at *; omega)) fun dX nD nE fQ iO cN b1 => ?_
   obtain ⟨cD, cE, rfl⟩ := fQ.shape
   refine Lv ok 4 [(42, .pointer (some ⟨aB, 1, none⟩))] 5 rfl rfl ?_
   have dY : Dj aY (bx aB 29 [sl aF aA.Rows aG, sl aJ aA.Cols aK, sl aH aA.Lo aI, sl aD aA.Hi aE]) := (Db (Df bL aL).symm).symm
   refine Lx 5 (vs := [.slice cD (List.length (aA.Cols ++ ([0]))) cE]) (cs' := [sl aF aA.Rows aG, .slice cD (List.length (aA.Cols ++ ([0]))) cE, sl aH aA.Lo aI, sl aD aA.Hi aE]) rfl rfl rfl ti_22 rfl rfl rfl rfl rfl ((dW.ext a0).but cN dY) rfl rfl fun nF iP cO => (Ln _ rfl ?_)
   have iQ : Dj (bx aB 29 [sl aF aA.Rows aG, sl aJ aA.Cols aK, sl aH aA.Lo aI, sl aD aA.Hi aE]) aT := (Db (Df bC aL).symm)
   have fR := (dW.ext a0)
   have iR := (Mj b1 dY fR).symm
   have iS := b1.fresh b5 ((X59.step aC (Md D Sd)).stepx a0).size
   have iT : Dj (bx aB 29 [sl aF aA.Rows aG, sl aJ aA.Cols aK, sl aH aA.Lo aI, sl aD aA.Hi aE]) aV := (Db (Df bE aL).symm)
   have iU : Dj (bx aB 29 [sl aF aA.Rows aG, sl aJ aA.Cols aK, sl aH aA.Lo aI, sl aD aA.Hi aE]) aU := (Db (Df bD aL).symm)
   have iV : Dj (bx aB 29 [sl aF aA.Rows aG, sl aJ aA.Cols aK, sl aH aA.Lo aI, sl aD aA.Hi aE]) (bx b 70 [sl a c.Code aM, I a7, .int .u64 a8]) := (Db (Db (Df a6 aL).symm).symm).symm
   have iW : Dj aT (bx aB 29 [sl aF aA.Rows aG, .slice cD (List.length (aA.Cols ++ ([0]))) cE, sl aH aA.Lo aI, sl aD aA.Hi aE]) := (Db (Df bC aL).symm).symm
   have iX : Dj dX (bx b 70 [sl a c.Code aM, I a7, .int .u64 a8]) := (Mj b1 (Db aO.symm).symm (bJ.ext a0))
   have iY : Dj dX (bx aB 29 [sl aF aA.Rows aG, .slice cD (List.length (aA.Cols ++ ([0]))) cE, sl aH aA.Lo aI, sl aD aA.Hi aE]) := (Db (Mj b1 dY fR).symm).symm
   have iZ : Dj aV (bx aB 29 [sl aF aA.Rows aG, .slice cD (List.length (aA.Cols ++ ([0]))) cE, sl aH aA.Lo aI, sl aD aA.Hi aE]) := (Db (Df bE aL).symm).symm
   have i0 := (Mj b1 bX ((b0.but aC aQ.symm).ext a0)).symm
   have i1 : Dj aU (bx aB 29 [sl aF aA.Rows aG, .slice cD (List.length (aA.Cols ++ ([0]))) cE, sl aH aA.Lo aI, sl aD aA.Hi aE]) := (Db (Df bD aL).symm).symm
   have i2 := (Df a3 bR).symm
   exact ⟨(a7, a8, aA.Rows, aA.Cols ++ ([0]), aA.Lo, aA.Hi), H, _, aT, .slice cD (List.length (aA.Cols ++ ([0]))) cE, dX, aV, sl aH aA.Lo aI, aU, Ee ⟨rfl, rfl, trivial⟩, (((((Br U _).step aC (Oe D102 _)).stepx a0).step cN (Oe D104 _)).step cO (Oe D107 _)), o, ((((bN.but aC aR.symm).ext a0).but cN bT.symm).but cO iQ), (Oe D103 _), b4, fQ, (iO.but cO iR), (Mt (Oe D104 _) b1 (Nat.le_trans aC.size a0.size)), iS, bS, ((((b0.but aC aQ.symm).ext a0).but cN bX).but cO iT), (Oe D106 _), b7, b3.readf, ((((bP.but aC aP.symm).ext a0).but cN bW).but cO iU), b6, (((bJ.ext a0).but cN (Db aO.symm).symm).but cO iV), iP, (Db aR.symm).symm, iW, bU, iX, iY, (Mj b1 bW ((bP.but aC aP.symm).ext a0)), (Mj b1 bT.symm ((bN.but aC aR.symm).ext a0)), (Db aQ.symm).symm, iZ, bY.symm, bV.symm, i0, (Db aP.symm).symm, i1, i2⟩
  have H := H.2 dV
  refine Wq (Wg (Lv ok 0 [(44, .bool (aN == 4)), (43, .bool (aN == 4))] 2 rfl rfl (Ln _ rfl ?_)))
  refine Wc (aN == 4) rfl (fun dZ => ?_) (fun dZ => ?_)
  ·have H := H.1 dZ
   refine W_open mix fun nG c8 => ?_
   refine AP_game 7 [[], [0], [0, 1], [0, 1, 2], [], [], [4, 5], [0, 1, 2, 3, 4, 5, 6], [0, 1, 2, 3, 4, 5, 6, 7]] [[(3, none)], [(45, some 0)], [(46, some 1)], [(47, some 2)], [(0, none)], [], [(49, some 4), (50, some 5)]] [(2, none), (3, none), (48, some 3), (51, some 6)] [(0, false), (1, false), (2, false), (3, false), (4, false), (5, true), (6, true)] (by kernel_rfl) (by kernel_rfl) ?_
   refine GS_ev ok [(3, pb aB)] (.pointer (some ⟨aB, 3, none⟩)) rfl rfl (fun _ h => h) (fun _ => rfl) ?_
   have i3 : Dj (bx b 70 [sl a c.Code aM, I a4, .int .u64 a5]) (bx aB 29 [sl aF aA.Rows aG, sl aJ aA.Cols aK, sl aH aA.Lo aI, sl aD aA.Hi aE]) := (Db (Df a6 aL).symm).symm
   have c9 := ((cH.but aC i3).ext c8)
   refine GS_r1 [(45, .pointer (some ⟨aB, 3, none⟩))] (sl aD aA.Hi aE) rfl rfl (fun _ h => h) (fun _ w e => ex_ldbox rfl ti_23 ag_23 (fun _ => rfl) rfl e rfl rfl) c9 ?_
   obtain ⟨cP, i4, i5, H⟩ := H
   obtain ⟨fS, nH, fT, i6, i7, i9, cQ⟩ := run_indexb Try.underlying23 ti_22 bS _ i4 i5
   refine GS_r0 [(46, sl aD aA.Hi aE)] (.pointer (some fS)) rfl rfl (fun _ h => h) (fun _ _ => ex_index rfl rfl rfl (i7 _)) ?_
   have fU := cQ.od
   obtain ⟨dA, dB, rfl⟩ := fU.shape
   have dC := ((b0.but aC aQ.symm).ext c8)
   have jA := Sub.le dC cQ.le
   have jB : OS 3 fT emp (sl dA cP dB) cP := OD.flat fU
   refine GS_r1 [(47, .pointer (some fS))] (sl dA cP dB) rfl rfl (fun _ h => h) (fun _ w e => ex_ldcell rfl ti_22 ag_22 rfl i9 e) dC ?_
   refine GS_ev ok [(0, pb b)] (pb b) rfl rfl (fun _ h => h) (fun _ => rfl) ?_
   refine GS_lp [] rfl rfl (fun _ h => h) rfl fun ρ nI d0 => ?_
   refine LP_lit (α := Int) (g := emp) 0 (vs := [I 100000, I 100001]) (xs := [100000, 100001]) rfl rfl rfl Try.underlying22 ti_3 rfl rfl ⟨⟨_, rfl, rfl⟩, ⟨_, rfl, rfl⟩, trivial⟩ rfl rfl fun nJ nK nL d1 fV jC jD => ?_
   obtain ⟨jE, jF, rfl⟩ := fV.shape
   have d2 := (d0.trans d1)
   have fW := (dC.ext d2)
   have fX := (c9.ext d2)
   refine LP_gs ⟨⟨.inr fW, .inr fX, trivial⟩, ?_⟩
   refine GS_lp [(49, pb b), (50, .slice jE (List.length ([100000, 100001])) jF)] rfl rfl (fun _ h => h) rfl fun ρ jG cR => ?_
   have fY := (bJ.ext (c8.trans d0))
   have bK := (((c8.trans d0).trans d1).trans cR)
   refine Lc 0 rfl rfl rfl cal_93 rfl (spec_l1Cur_among_w _ _ _ H jG r ((cY.but aC (Db d)).ext bK) (fY.ext (d1.trans cR)) fV.readf (jC.ext cR) (Db d) (Df fY jD)) ?_
   rintro _ nM ⟨fZ, jH, jI, H, rfl, aW, f0⟩
   have d3 : Dj (bx b 70 [sl a c.Code aM, I a7, .int .u64 a8]) (bx aB 29 [sl aF aA.Rows aG, sl aJ aA.Cols aK, sl aH aA.Lo aI, sl aD aA.Hi aE]) := (Db (Db (Df a6 aL)).symm).symm
   refine LP_gs ⟨⟨.inr ((fW.ext cR).but aW (Db aQ.symm)), .inr ((fX.ext cR).but aW d3), trivial⟩, ?_⟩
   intro nN aX ρ jJ
   refine AP_forget [(2, pb aS), (3, pb aB), (48, sl dA cP dB), (51, I fZ)] (by exact jJ) fun ρ => ?_
   refine AP_tail 7 [[], [0], [0, 1], [0, 1, 2], [], [], [4, 5], [0, 1, 2, 3, 4, 5, 6], [0, 1, 2, 3, 4, 5, 6, 7]] (by kernel_rfl) ?_
   obtain ⟨jK, jL, H⟩ := H
   refine LP_indexw (v := sl dA cP dB) 7 rfl rfl rfl Try.underlying22 ti_3 rfl rfl jB jK jL fun nO jM => ?_
   have dD := (d2.trans cR)
   have jN : Dj (bx b 70 [sl a c.Code aM, I a7, .int .u64 a8]) fT := (Dom.dj cQ.dom (Db aQ.symm).symm).symm
   refine LP_set 8 rfl rfl rfl rfl rfl jM (Le.refl emp) ⟨_, rfl, rfl⟩ (((jA.ext dD).but aW jN).ext aX) fun jO nP jP jQ f1 jR => ?_
   obtain ⟨nQ, jS, cF⟩ := BwL.turn cQ (OS.od jP) (Dom.of jR)
   have jT := BwL.sub cQ (((dC.ext dD).but aW (Db aQ.symm)).ext aX) jQ f1
   have cS := BwL.but cQ f1
   refine Ln _ rfl ?_
   have jU := ((fun n => Oe cF n) _).fresh b7 ((((X59.step aC (Md D Sd)).stepx bK).step aW (Md D Sd)).stepx aX).size
   have f2 : Dj aV (bx aB 29 [sl aF aA.Rows aG, sl aJ aA.Cols aK, sl aH aA.Lo aI, sl aD aA.Hi aE]) := (Db (Df bE aL).symm).symm
   have jV : Dj aT (bx aB 29 [sl aF aA.Rows aG, sl aJ aA.Cols aK, sl aH aA.Lo aI, sl aD aA.Hi aE]) := (Db (Df bC aL).symm).symm
   have jW : Dj aY (bx aB 29 [sl aF aA.Rows aG, sl aJ aA.Cols aK, sl aH aA.Lo aI, sl aD aA.Hi aE]) := (Db (Df bL aL).symm).symm
   have jX : Dj aU (bx aB 29 [sl aF aA.Rows aG, sl aJ aA.Cols aK, sl aH aA.Lo aI, sl aD aA.Hi aE]) := (Db (Df bD aL).symm).symm
   have jY := (Df a3 bR).symm
   exact ⟨(jH, jI, aA.Rows, aA.Cols, aA.Lo, List.set aA.Hi (Int.toNat 0) (List.set cP (Int.toNat 0) fZ)), H, _, aT, sl aJ aA.Cols aK, aY, (un jO i6), sl aH aA.Lo aI, aU, Ee ⟨rfl, rfl, trivial⟩, ((((((Br U _).step aC (Oe D102 _)).stepx bK).step aW (Md D102 Sd)).stepx aX).step cS (Oe D106 _)), o, (((((bN.but aC aR.symm).ext bK).but aW (Db aR.symm)).ext aX).but cS bV.symm), (Oe D103 _), b4, b2, (((((bO.but aC aO.symm).ext bK).but aW (Db aO.symm)).ext aX).but cS bX.symm), (Oe D104 _), b5, jS, jT, (Mt (Oe D106 _) ((fun n => Oe cF n) _) (Nat.le_trans (Nat.le_trans (Nat.le_trans aC.size bK.size) aW.size) aX.size)), jU, b3.readf, (((((bP.but aC aP.symm).ext bK).but aW (Db aP.symm)).ext aX).but cS bY.symm), b6, ((f0.ext aX).but cS (Db aQ.symm).symm), ((((c9.ext dD).but aW d3).ext aX).but cS f2), (Db aR.symm).symm, jV, bU, (Db aO.symm).symm, jW, bW, bT.symm, (Mj ((fun n => Oe cF n) _) (Db aQ.symm).symm (f0.ext aX)), (Mj ((fun n => Oe cF n) _) f2 (((c9.ext dD).but aW d3).ext aX)), (Mj ((fun n => Oe cF n) _) bY.symm ((((bP.but aC aP.symm).ext bK).but aW (Db aP.symm)).ext aX)), (Mj ((fun n => Oe cF n) _) bV.symm ((((bN.but aC aR.symm).ext bK).but aW (Db aR.symm)).ext aX)), (Mj ((fun n => Oe cF n) _) bX.symm ((((bO.but aC aO.symm).ext bK).but aW (Db aO.symm)).ext aX)), (Db aP.symm).symm, jX, jY⟩
  have H := H.2 dZ
  refine Wq (Wg (Lv ok 0 [(54, .bool (aN == 5)), (53, .bool (aN == 5))] 2 rfl rfl (Ln _ rfl ?_)))
  refine Wc (aN == 5) rfl (fun d4 => ?_) (fun d4 => ?_)
  ·have H := H.1 d4
   refine Wq (Wg (Lv ok 0 [(55, pb b)] 1 rfl rfl (Lc 1 rfl rfl rfl cal_53 rfl (spec_l1Cur_pick_w _ _ _ H e3 r (cY.but aC (Db d)) bJ (Db d)) ?_)))
   rintro _ jZ ⟨j0, j1, j2, H, rfl, d5, c0⟩
   refine Lv ok 2 [(57, I (wr (4 + j0)))] 3 rfl rfl (Lc 3 rfl rfl rfl cal_94 rfl (spec_filled_w _ _ _ _ H jZ ) ?_)
   rintro _ nR ⟨a9, nS, nT, nU, nV, nW, nX, nY, nZ, H, rfl, d6, HF⟩
   revert HF
   refine bb9 fun f3 j3 d7 f4 j4 d8 f5 j5 => ?_
   refine bb9 fun d9 f6 j6 eA j7 j8 j9 kA => ?_
   refine bb2 fun kB kC => ?_
   obtain ⟨eB, eC, rfl⟩ := f3.shape
   obtain ⟨eD, eE, rfl⟩ := f4.shape
   obtain ⟨eF, eG, rfl⟩ := f5.shape
   obtain ⟨eH, eI, rfl⟩ := f6.shape
   have f7 : Dj (bx b 70 [sl a c.Code aM, I a4, .int .u64 a5]) (bx aS 29 [.slice none 0 0, .slice none 0 0, .slice none 0 0, .slice none 0 0]) := (Db (Df a2 f))
   have f8 : Dj (bx b 70 [sl a c.Code aM, I a7, .int .u64 a8]) (bx aS 29 [.slice none 0 0, .slice none 0 0, .slice none 0 0, .slice none 0 0]) := (Db (Df a2 f))
   refine Lx 4 (vs := [sl eB a9.Rows eC, sl eD a9.Cols eE, sl eF a9.Lo eG, sl eH a9.Hi eI]) (cs' := [sl eB a9.Rows eC, sl eD a9.Cols eE, sl eF a9.Lo eG, sl eH a9.Hi eI]) rfl rfl rfl ti_29 rfl rfl rfl rfl rfl (((bM.but aC f7).but d5 f8).ext d6) rfl rfl fun n0 kD cT => (Ln _ rfl (W_ret ?_))
   have dE := ((bM.but aC f7).but d5 f8)
   have X524 := ((X59.step aC (Md D Sd)).step d5 (Md D Sd))
   have kE := d7.mono X524.size
   have kF := d8.mono X524.size
   have kG := d9.mono X524.size
   have kH := eA.mono X524.size
   have kI : Dj (bx aS 29 [.slice none 0 0, .slice none 0 0, .slice none 0 0, .slice none 0 0]) (bx b 70 [sl a c.Code aM, I j1, .int .u64 j2]) := (Db (Df a2 f).symm.symm).symm
   have kJ := (Df c0 d7).symm
   have kK := (Df c0 d8).symm
   have kL := (Df c0 d9).symm
   have kM := (Df c0 eA).symm
   exact ⟨_, Ret_of [.agg #[sl eB a9.Rows eC, sl eD a9.Cols eE, sl eF a9.Lo eG, sl eH a9.Hi eI]] ⟨⟨_, rfl, rfl, ld_res ti_29 ag_29 (fun h => by cases h) kD rfl rfl⟩, trivial⟩, _, _, _, _, _, _, _, _, _, _, _, H, rfl, ((X524.stepx d6).step cT (dM.dom _)), f3, (j3.but cT (Df dE d7)), kE, f4, (j4.but cT (Df dE d8)), kF, f5.readf, (j5.but cT (Df dE d9)), kG, f6, (j6.but cT (Df dE eA)), kH, ((c0.ext d6).but cT kI), j7, j8, j9, kJ, kA, kB, kK, kC, kL, kM⟩
  have H := H.2 d4
  refine Wq (Wg (Lv ok 0 [(60, .bool (aN == 6)), (59, .bool (aN == 6))] 2 rfl rfl (Ln _ rfl ?_)))
  refine Wc (aN == 6) rfl (fun eJ => ?_) (fun eJ => ?_)
  ·have H := H.1 eJ
   refine Wq (Wg (Lv ok 0 [(61, pb b)] 1 rfl rfl (Lc 1 rfl rfl rfl cal_53 rfl (spec_l1Cur_pick_w _ _ _ H e3 r (cY.but aC (Db d)) bJ (Db d)) ?_)))
   rintro _ kN ⟨kO, kP, kQ, H, rfl, eK, c1⟩
   refine Lv ok 2 [(63, I (wr (8 + kO)))] 3 rfl rfl (Lc 3 rfl rfl rfl cal_94 rfl (spec_filled_w _ _ _ _ H kN ) ?_)
   rintro _ n1 ⟨bA, n2, n3, n4, n5, n6, n7, n8, n9, H, rfl, eL, HF⟩
   revert HF
   refine bb9 fun f9 kR eM gA kS eN gB kT => ?_
   refine bb9 fun eO gC kU eP kV kW kX kY => ?_
   refine bb2 fun kZ k0 => ?_
   obtain ⟨eQ, eR, rfl⟩ := f9.shape
   obtain ⟨eS, eT, rfl⟩ := gA.shape
   obtain ⟨eU, eV, rfl⟩ := gB.shape
   obtain ⟨eW, eX, rfl⟩ := gC.shape
   have gD : Dj (bx b 70 [sl a c.Code aM, I a4, .int .u64 a5]) (bx aS 29 [.slice none 0 0, .slice none 0 0, .slice none 0 0, .slice none 0 0]) := (Db (Df a2 f))
   have gE : Dj (bx b 70 [sl a c.Code aM, I a7, .int .u64 a8]) (bx aS 29 [.slice none 0 0, .slice none 0 0, .slice none 0 0, .slice none 0 0]) := (Db (Df a2 f))
   refine Lx 4 (vs := [sl eQ bA.Rows eR, sl eS bA.Cols eT, sl eU bA.Lo eV, sl eW bA.Hi eX]) (cs' := [sl eQ bA.Rows eR, sl eS bA.Cols eT, sl eU bA.Lo eV, sl eW bA.Hi eX]) rfl rfl rfl ti_29 rfl rfl rfl rfl rfl (((bM.but aC gD).but eK gE).ext eL) rfl rfl fun oA k1 cU => (Ln _ rfl ?_)
   try refine Wo [(2, pb aS)] ⟨rfl, trivial⟩ fun ρ => ?_
   refine W_ret ?_
   have dF := ((bM.but aC gD).but eK gE)
   have X596 := ((X59.step aC (Md D Sd)).step eK (Md D Sd))
   have k2 := eM.mono X596.size
   have k3 := eN.mono X596.size
   have k4 := eO.mono X596.size
   have k5 := eP.mono X596.size
   have k6 : Dj (bx aS 29 [.slice none 0 0, .slice none 0 0, .slice none 0 0, .slice none 0 0]) (bx b 70 [sl a c.Code aM, I kP, .int .u64 kQ]) := (Db (Df a2 f).symm.symm).symm
   have k7 := (Df c1 eM).symm
   have k8 := (Df c1 eN).symm
   have k9 := (Df c1 eO).symm
   have lA := (Df c1 eP).symm
   exact ⟨_, Ret_of [.agg #[sl eQ bA.Rows eR, sl eS bA.Cols eT, sl eU bA.Lo eV, sl eW bA.Hi eX]] ⟨⟨_, rfl, rfl, ld_res ti_29 ag_29 (fun h => by cases h) k1 rfl rfl⟩, trivial⟩, _, _, _, _, _, _, _, _, _, _, _, H, rfl, ((X596.stepx eL).step cU (dM.dom _)), f9, (kR.but cU (Df dF eM)), k2, gA, (kS.but cU (Df dF eN)), k3, gB.readf, (kT.but cU (Df dF eO)), k4, gC, (kU.but cU (Df dF eP)), k5, ((c1.ext eL).but cU k6), kV, kW, kX, k7, kY, kZ, k8, k0, k9, lA⟩
  have H := H.2 eJ
  refine Wk ?_
  have lB : Dj (bx b 70 [sl a c.Code aM, I a4, .int .u64 a5]) (bx aB 29 [sl aF aA.Rows aG, sl aJ aA.Cols aK, sl aH aA.Lo aI, sl aD aA.Hi aE]) := (Db (Df a6 aL).symm).symm
  have lC : Dj aT (bx aB 29 [sl aF aA.Rows aG, sl aJ aA.Cols aK, sl aH aA.Lo aI, sl aD aA.Hi aE]) := (Db (Df bC aL).symm).symm
  have lD : Dj aY (bx aB 29 [sl aF aA.Rows aG, sl aJ aA.Cols aK, sl aH aA.Lo aI, sl aD aA.Hi aE]) := (Db (Df bL aL).symm).symm
  have lE : Dj aV (bx aB 29 [sl aF aA.Rows aG, sl aJ aA.Cols aK, sl aH aA.Lo aI, sl aD aA.Hi aE]) := (Db (Df bE aL).symm).symm
  have lF : Dj aU (bx aB 29 [sl aF aA.Rows aG, sl aJ aA.Cols aK, sl aH aA.Lo aI, sl aD aA.Hi aE]) := (Db (Df bD aL).symm).symm
  have lG := (Df a3 bR).symm
  exact ⟨(a7, a8, aA.Rows, aA.Cols, aA.Lo, aA.Hi), H, _, aT, sl aJ aA.Cols aK, aY, aV, sl aH aA.Lo aI, aU, Ee ⟨rfl, rfl, trivial⟩, ((Br U _).step aC (Oe D102 _)), o, (bN.but aC aR.symm), (Oe D103 _), b4, b2, (bO.but aC aO.symm), (Oe D104 _), b5, bS, (b0.but aC aQ.symm), (Oe D106 _), b7, b3.readf, (bP.but aC aP.symm), b6, bJ, (cH.but aC lB), (Db aR.symm).symm, lC, bU, (Db aO.symm).symm, lD, bW, bT.symm, (Db aQ.symm).symm, lE, bY.symm, bV.symm, bX.symm, (Db aP.symm).symm, lF, lG⟩
 rintro ⟨atx, seed, rows, cols, lo, hi⟩ _ oB ⟨H, ρ, bF, b8, bG, bH, b9, bI, rfl, HF⟩
 revert HF
 refine bb9 fun X132 lH lI lJ lK gF lL lM => ?_
 refine bb9 fun lN lO lP lQ lR gG lS lT => ?_
 refine bb9 fun lU lV lW oC lX lY oD lZ => ?_
 refine bb9 fun l0 l1 oE l2 l3 l4 l5 oF l6 => ?_
 subst hk
 obtain ⟨dG, dH, rfl⟩ := gF.shape
 obtain ⟨dI, dJ, rfl⟩ := gG.shape
 refine Wq (Wg (Lb 0 (v := .agg #[sl aF aA.Rows aG, sl dG cols dH, sl dI lo dJ, sl aD aA.Hi aE]) rfl rfl rfl ti_29 ag_29 (fun h => by cases h) rfl lV rfl rfl ?_))
 have l7 : Dj (bx b 70 [sl a c.Code aM, I a4, .int .u64 a5]) (bx aS 29 [.slice none 0 0, .slice none 0 0, .slice none 0 0, .slice none 0 0]) := (Db (Df a2 f))
 have l8 := (Df a3 eY).symm
 have l9 := (Df a3 eZ).symm
 have mA := (Df a3 bR).symm
 have mB := (Df a3 e0).symm
 have mC : Dj (bx aB 29 [sl aF aA.Rows aG, sl aJ aA.Cols aK, sl aH aA.Lo aI, sl aD aA.Hi aE]) (bx aS 29 [.slice none 0 0, .slice none 0 0, .slice none 0 0, .slice none 0 0]) := (Db (Df e2 aL).symm)
 have dK := (Dl l7 (Dl l8 (Dl l9 (Dl mA (Dl mB mC)))))
 refine Lx 1 (vs := [sl aF aA.Rows aG, sl dG cols dH, sl dI lo dJ, sl aD aA.Hi aE]) (cs' := [sl aF aA.Rows aG, sl dG cols dH, sl dI lo dJ, sl aD aA.Hi aE]) rfl rfl rfl ti_29 rfl rfl rfl rfl rfl (bM.but X132 (Dj.eqv hU dK)) rfl rfl fun oG mD cV => (Ln _ rfl (W_ret ?_))
 have mE := (Mj lJ (Dj.eqv hU dK) bM).symm
 have mF := (Mj lM (Dj.eqv hU dK) bM).symm
 have mG := (Mj lQ (Dj.eqv hU dK) bM).symm
 have mH : Dj (bx aS 29 [.slice none 0 0, .slice none 0 0, .slice none 0 0, .slice none 0 0]) (bx b 70 [sl a c.Code aM, I atx, .int .u64 seed]) := (Db (Df a2 f).symm.symm).symm
 exact ⟨_, Ret_of [.agg #[sl aF aA.Rows aG, sl dG cols dH, sl dI lo dJ, sl aD aA.Hi aE]] ⟨⟨_, rfl, rfl, ld_res ti_29 ag_29 (fun h => by cases h) mD rfl rfl⟩, trivial⟩, _, _, _, _, _, _, _, _, _, _, _, H, rfl, ((X59.step X132 (DomLe.eqv hU (Mu (Md D Sd) (Mu (b4.dom _) (Mu (b5.dom _) (Mu (b6.dom _) (Mu (b7.dom _) ((Fresh.box e1).dom _)))))))).step cV (dM.dom _)), lH, (lI.but cV mE), lK, gF, (lL.but cV mF), lN, gG, (lS.but cV l6.symm), lT, lO, (lP.but cV mG), lR, (lU.but cV mH), l0.symm, lX, l3.symm, lW, lZ, l4.symm, lY, l2.symm, l5, l1⟩

theorem spec_DrawIsTransport_w (code : List B8) (Q : Transport → Prop) (H : spec_DrawIsTransport code Q) (w : World) {vx : Value} {hx : PH} (r : RS hx vx code) (ex : Sub hx w) :
  CallsTo Try.prog 48 #[vx] w fun v w' => ∃ aB u0_0 g0_0 u0_1 g0_1 u0_2 g0_2 u0_3 g0_3, Q aB ∧ v = .agg #[u0_0, u0_1, u0_2, u0_3] ∧ Ext w w' ∧ OS 3 g0_0 emp u0_0 aB.Rows ∧ Sub g0_0 w' ∧ Fresh w.heap.size g0_0 ∧ OS 3 g0_1 emp u0_1 aB.Cols ∧ Sub g0_1 w' ∧ Fresh w.heap.size g0_1 ∧ RS g0_2 u0_2 aB.Lo ∧ Sub g0_2 w' ∧ Fresh w.heap.size g0_2 ∧ OD g0_3 u0_3 aB.Hi ∧ Sub g0_3 w' ∧ Fresh w.heap.size g0_3 ∧ Dj g0_0 g0_1 ∧ Dj g0_0 g0_2 ∧ Dj g0_0 g0_3 ∧ Dj g0_1 g0_2 ∧ Dj g0_1 g0_3 ∧ Dj g0_2 g0_3 := by
 obtain ⟨a, c, rfl⟩ := r.shape
 refine enter (args := [sl a code c]) 9 Try.func48 rfl rfl rfl ?_
 refine Wo [(0, sl a code c)] ⟨rfl, trivial⟩ fun ρ => ?_
 have X := Br emp w
 refine Wq (Wg (La 0 rfl rfl rfl ti_29 rfl fun b wx x aE f => (Ln _ rfl (Wq (Wg (Lv ok 0 [(4, sl a code c), (5, .agg #[sl a code c, I 0, .int .u64 0])] 2 rfl rfl (Ly 2 (cs := [sl a code c, I 0, .int .u64 0]) rfl rfl rfl rfl rfl fun aO aY aC aZ aF => (Lv ok 3 [(3, pb aO)] 4 rfl rfl (Ln _ rfl (Wq (Wg ?_)))))))))))
 refine Lv ok 0 [(7, pb aO)] 1 rfl rfl ?_
 have aP := (ex.ext x)
 have dj := (Df aP aF).symm
 refine Lc 1 rfl rfl rfl cal_52 rfl (spec_l1Cur_anyTransport_w _ _ H aY r (aP.ext aC) aZ dj) ?_
 rintro _ bH ⟨aA, bI, bJ, bK, bL, bM, bN, bO, bP, bQ, bR, H, rfl, aQ, HF⟩
 revert HF
 refine bb9 fun o a0 aR aS a1 aT aU a2 => ?_
 refine bb9 fun aV aW a3 aX bS d a4 a5 => ?_
 refine bb7 fun bT a6 a7 bU a8 bV bW => ?_
 obtain ⟨aG, aH, rfl⟩ := o.shape
 obtain ⟨aI, aJ, rfl⟩ := aS.shape
 obtain ⟨aK, aL, rfl⟩ := aU.shape
 obtain ⟨aM, aN, rfl⟩ := aW.shape
 have a9 := (Df aE aF).symm
 refine Lx 2 (vs := [sl aG aA.Rows aH, sl aI aA.Cols aJ, sl aK aA.Lo aL, sl aM aA.Hi aN]) (cs' := [sl aG aA.Rows aH, sl aI aA.Cols aJ, sl aK aA.Lo aL, sl aM aA.Hi aN]) rfl rfl rfl ti_29 rfl rfl rfl rfl rfl ((aE.ext aC).but aQ a9) rfl rfl fun bX bA y => (Ln _ rfl (W_ret ?_))
 have aD := (aE.ext aC)
 have X58 := (X.stepx (x.trans aC))
 have bB := aR.mono X58.size
 have bC := aT.mono X58.size
 have bD := aV.mono X58.size
 have bE := aX.mono X58.size
 have bF := aF.mono (X.stepx x).size
 have bG := f.mono X.size
 exact ⟨_, Ret_of [.agg #[sl aG aA.Rows aH, sl aI aA.Cols aJ, sl aK aA.Lo aL, sl aM aA.Hi aN]] ⟨⟨_, rfl, rfl, ld_res ti_29 ag_29 (fun h => by cases h) bA rfl rfl⟩, trivial⟩, _, _, _, _, _, _, _, _, _, H, rfl, ((X58.step aQ (bF.dom _)).step y (bG.dom _)).ext, o, (a0.but y (Df aD aR)), bB, aS, (a1.but y (Df aD aT)), bC, aU, (a2.but y (Df aD aV)), bD, aW, (a3.but y (Df aD aX)), bE, d, a4, a5, a6, a7, a8⟩

theorem spec_DrawCountFlows_w (code : List B8) (Q : Transport → Prop) (H : spec_DrawCountFlows code Q) (w : World) {vx : Value} {hx : PH} (r : RS hx vx code) (ex : Sub hx w) :
  CallsTo Try.prog 20 #[vx] w fun v w' => ∃ aB u0_0 g0_0 u0_1 g0_1 u0_2 g0_2 u0_3 g0_3, Q aB ∧ v = .agg #[u0_0, u0_1, u0_2, u0_3] ∧ Ext w w' ∧ OS 3 g0_0 emp u0_0 aB.Rows ∧ Sub g0_0 w' ∧ Fresh w.heap.size g0_0 ∧ OS 3 g0_1 emp u0_1 aB.Cols ∧ Sub g0_1 w' ∧ Fresh w.heap.size g0_1 ∧ RS g0_2 u0_2 aB.Lo ∧ Sub g0_2 w' ∧ Fresh w.heap.size g0_2 ∧ OD g0_3 u0_3 aB.Hi ∧ Sub g0_3 w' ∧ Fresh w.heap.size g0_3 ∧ Dj g0_0 g0_1 ∧ Dj g0_0 g0_2 ∧ Dj g0_0 g0_3 ∧ Dj g0_1 g0_2 ∧ Dj g0_1 g0_3 ∧ Dj g0_2 g0_3 := by
 obtain ⟨a, c, rfl⟩ := r.shape
 refine enter (args := [sl a code c]) 5 Try.func20 rfl rfl rfl ?_
 refine Wo [(0, sl a code c)] ⟨rfl, trivial⟩ fun ρ => ?_
 have X := Br emp w
 refine Wq (Wg (La 0 rfl rfl rfl ti_29 rfl fun b wx x aC f => (Ln _ rfl (Wq (Wg (Lv ok 0 [(3, sl a code c)] 1 rfl rfl (Lc 1 rfl rfl rfl cal_48 rfl (spec_DrawIsTransport_w _ _ H wx r (ex.ext x)) ?_)))))))
 rintro _ a8 ⟨aA, a9, bA, bB, bC, bD, bE, bF, bG, H, rfl, aL, HF⟩
 revert HF
 refine bb9 fun o aT aM aN aU aO aP aV => ?_
 refine bb9 fun aQ aR aW aS d aX aY aZ => ?_
 refine bb2 fun a0 a1 => ?_
 obtain ⟨aD, aE, rfl⟩ := o.shape
 obtain ⟨aF, aG, rfl⟩ := aN.shape
 obtain ⟨aH, aI, rfl⟩ := aP.shape
 obtain ⟨aJ, aK, rfl⟩ := aR.shape
 refine Lx 2 (vs := [sl aD aA.Rows aE, sl aF aA.Cols aG, sl aH aA.Lo aI, sl aJ aA.Hi aK]) (cs' := [sl aD aA.Rows aE, sl aF aA.Cols aG, sl aH aA.Lo aI, sl aJ aA.Hi aK]) rfl rfl rfl ti_29 rfl rfl rfl rfl rfl (aC.ext aL) rfl rfl fun bH a2 y => (Ln _ rfl (W_ret ?_))
 have X43 := (X.stepx x)
 have a3 := aM.mono X43.size
 have a4 := aO.mono X43.size
 have a5 := aQ.mono X43.size
 have a6 := aS.mono X43.size
 have a7 := f.mono X.size
 exact ⟨_, Ret_of [.agg #[sl aD aA.Rows aE, sl aF aA.Cols aG, sl aH aA.Lo aI, sl aJ aA.Hi aK]] ⟨⟨_, rfl, rfl, ld_res ti_29 ag_29 (fun h => by cases h) a2 rfl rfl⟩, trivial⟩, _, _, _, _, _, _, _, _, _, H, rfl, ((X43.stepx aL).step y (a7.dom _)).ext, o, (aT.but y (Df aC aM)), a3, aN, (aU.but y (Df aC aO)), a4, aP, (aV.but y (Df aC aQ)), a5, aR, (aW.but y (Df aC aS)), a6, d, aX, aY, aZ, a0, a1⟩

theorem impl_areSums_w (l : List Int) (Q : Bool → Prop) (H : impl_areSums l Q) (w : World) {vx : Value} {hx : PH} (r : RS hx vx l) (ex : Sub hx w) :
  CallsTo Try.prog 71 #[vx] w fun v w' => ∃ aG, Q aG ∧ v = .bool aG ∧ Ext w w' := by
 obtain ⟨a, c, rfl⟩ := r.shape
 refine enter (args := [sl a l c]) 26 Try.func71 rfl rfl rfl ?_
 refine Wo [(0, sl a l c)] ⟨rfl, trivial⟩ fun ρ => ?_
 have X := Br emp w
 refine Wq (Wg (Lv ok 0 [(2, .bool false)] 1 rfl rfl (Ln _ rfl (Wq ?_))))
 obtain ⟨k, hk, H⟩ := jn_elim H
 refine W_join2 (S := Bool) (fun s ρ' w' => k s ∧ ∃ (ρ : Env), ρ' = setAll [(0, sl a l c), (12, .bool s)] ρ ∧ w = w') ?_ ?_
 ·refine Wg (Lv ok 0 [(5, sl a l c), (6, I (ln l)), (7, .bool (decide ((ln l) < 1))), (8, .bool (decide ((ln l) < 1)))] 4 rfl rfl ?_)
  refine LP_split 8 (decide ((ln l) < 1)) rfl (fun hc => ?_) (fun hc => ?_)
  ·have H := H.1 hc
   refine Lv ok 4 [(9, undef), (10, undef), (11, undef), (12, .bool true)] 8 rfl rfl ?_
   exact Ln _ rfl ⟨true, H, _, Ee ⟨rfl, rfl, trivial⟩, rfl⟩
  have H := H.2 hc
  refine Lv ok 4 [(9, sl a l c), (10, I (ln l)), (11, .bool (decide ((ln l) > 8))), (12, .bool (decide ((ln l) > 8)))] 8 rfl rfl ?_
  exact Ln _ rfl ⟨decide ((ln l) > 8), H, _, Ee ⟨rfl, rfl, trivial⟩, rfl⟩
 rintro x _ _ ⟨H, ρ, rfl, rfl⟩
 subst hk
 refine Wc (x) rfl (fun aC => ?_) (fun aC => ?_)
 ·have H := H.1 aC
  refine Wq (Wg (Lv ok 0 [(2, .bool false)] 1 rfl rfl (Ln _ rfl (W_ret ?_))))
  exact ⟨_, Ret_of [.bool false] ⟨⟨rfl, rfl⟩, trivial⟩, _, H, rfl, X.ext⟩
 have H := H.2 aC
 refine Wk (Wq (Wq (Wg (Lv ok 0 [(13, sl a l c), (14, I (ln l)), (15, I 0)] 3 rfl rfl (Ln _ rfl (W_block ?_))))))
 obtain ⟨J, m, Hx, H⟩ := H
 refine W_loop (S := Int) (fun s ρ' w' => J s ∧ ∃ (ρ : Env), ρ' = setAll [(13, sl a l c), (14, I (ln l)), (15, I s)] ρ ∧ w = w') (fun s => m s) 0 ⟨Hx, _, Ee ⟨rfl, rfl, rfl, trivial⟩, rfl⟩ ?_
 rintro aB _ _ ⟨Hi, ρ, rfl, rfl⟩
 have H := H aB Hi
 refine Wq (Wg (Lv ok 0 [(16, .bool (decide (aB < (ln l))))] 1 rfl rfl (Ln _ rfl (Wq ?_))))
 refine Wc (decide (aB < (ln l))) rfl (fun aD => ?_) (fun aD => ?_)
 ·have H := H.1 aD
  refine Wk (Wq (W_block (Wq (Wg ?_))))
  obtain ⟨aA, hi, aH, H⟩ := H
  refine Li 0 rfl rfl rfl Try.underlying22 ti_3 rfl rfl r hi aH fun aN cs aI d => (Lo 1 rfl rfl rfl ti_3 ag_3 rfl aI d ex fun aO aJ => ?_)
  obtain rfl := aJ.int
  refine Lv ok 2 [(4, I aA)] 3 rfl rfl (Ln _ rfl ?_)
  obtain ⟨aK, aL, H⟩ := jn_elim H
  refine W_join2 (S := Bool) (fun s ρ' w' => aK s ∧ ∃ (ρ : Env), ρ' = setAll [(13, sl a l c), (14, I (ln l)), (15, I aB), (24, .bool s)] ρ ∧ w = w') ?_ ?_
  ·refine Wg (Lv ok 0 [(19, I aA), (20, .bool (decide (aA < 0))), (21, .bool (decide (aA < 0)))] 3 rfl rfl ?_)
   refine LP_split 21 (decide (aA < 0)) rfl (fun aE => ?_) (fun aE => ?_)
   ·have H := H.1 aE
    refine Lv ok 3 [(22, undef), (23, undef), (24, .bool true)] 6 rfl rfl ?_
    exact Ln _ rfl ⟨true, H, _, Ee ⟨rfl, rfl, rfl, rfl, trivial⟩, rfl⟩
   have H := H.2 aE
   refine Lv ok 3 [(22, I aA), (23, .bool (decide (aA > 100000))), (24, .bool (decide (aA > 100000)))] 6 rfl rfl ?_
   exact Ln _ rfl ⟨decide (aA > 100000), H, _, Ee ⟨rfl, rfl, rfl, rfl, trivial⟩, rfl⟩
  rintro aM _ _ ⟨H, ρ, rfl, rfl⟩
  subst aL
  refine Wc (aM) rfl (fun aF => ?_) (fun aF => ?_)
  ·have H := H.1 aF
   refine Wq (Wg (Lv ok 0 [(2, .bool false)] 1 rfl rfl (Ln _ rfl (W_ret ?_))))
   exact ⟨_, Ret_of [.bool false] ⟨⟨rfl, rfl⟩, trivial⟩, _, H, rfl, X.ext⟩
  have H := H.2 aF
  refine Wk (Wg (Lv ok 0 [(25, I (wr (aB + 1))), (15, I (wr (aB + 1)))] 2 rfl rfl ?_))
  exact Ln _ rfl ⟨wr (aB + 1), ⟨H.1, _, Ee ⟨rfl, rfl, rfl, trivial⟩, rfl⟩, H.2⟩
 have H := H.2 aD
 refine W_exit ?_
 refine (if_pos rfl).mpr ?_
 refine Wq (Wg (Lv ok 0 [(2, .bool true)] 1 rfl rfl (Ln _ rfl (W_ret ?_))))
 exact ⟨_, Ret_of [.bool true] ⟨⟨rfl, rfl⟩, trivial⟩, _, H, rfl, X.ext⟩

theorem impl_hasShape_w (x : List (List Int)) (rows : Int) (cols : Int) (Q : Bool → Prop) (H : impl_hasShape x rows cols Q) (w : World) {vx : Value} {hx : PH} (r : RS hx vx x) (ex : Sub hx w) :
  CallsTo Try.prog 72 #[vx, I rows, I cols] w fun v w' => ∃ aE, Q aE ∧ v = .bool aE ∧ Ext w w' := by
 obtain ⟨a, c, rfl⟩ := r.shape
 refine enter (args := [sl a x c, I rows, I cols]) 24 Try.func72 rfl rfl rfl ?_
 refine Wo [(0, sl a x c), (1, I rows), (2, I cols)] ⟨rfl, rfl, rfl, trivial⟩ fun ρ => ?_
 have X := Br emp w
 refine Wq (Wg (Lv ok 0 [(6, .bool false)] 1 rfl rfl (Ln _ rfl (Wq (Wq (Wg (Lv ok 0 [(9, sl a x c), (10, I (ln x)), (11, I rows), (12, .bool ((ln x) != rows))] 4 rfl rfl (Ln _ rfl ?_))))))))
 refine Wc ((ln x) != rows) rfl (fun hc => ?_) (fun hc => ?_)
 ·have H := H.1 hc
  refine Wq (Wg (Lv ok 0 [(6, .bool false)] 1 rfl rfl (Ln _ rfl (W_ret ?_))))
  exact ⟨_, Ret_of [.bool false] ⟨⟨rfl, rfl⟩, trivial⟩, _, H, rfl, X.ext⟩
 have H := H.2 hc
 refine Wk (Wq (Wq (Wg (Lv ok 0 [(13, sl a x c), (14, I (ln x)), (15, I 0)] 3 rfl rfl (Ln _ rfl (W_block ?_))))))
 obtain ⟨J, m, Hx, H⟩ := H
 refine W_loop (S := Int) (fun s ρ' w' => J s ∧ ∃ (ρ : Env), ρ' = setAll [(2, I cols), (13, sl a x c), (14, I (ln x)), (15, I s)] ρ ∧ w = w') (fun s => m s) 0 ⟨Hx, _, Ee ⟨rfl, rfl, rfl, rfl, trivial⟩, rfl⟩ ?_
 rintro aA _ _ ⟨Hi, ρ, rfl, rfl⟩
 have H := H aA Hi
 refine Wq (Wg (Lv ok 0 [(16, .bool (decide (aA < (ln x))))] 1 rfl rfl (Ln _ rfl (Wq ?_))))
 refine Wc (decide (aA < (ln x))) rfl (fun aC => ?_) (fun aC => ?_)
 ·have H := H.1 aC
  refine Wk (Wq (W_block (Wq (Wg ?_))))
  obtain ⟨aB, hi, aH, H⟩ := H
  refine Li 0 rfl rfl rfl Try.underlying23 ti_22 rfl rfl r hi aH fun aL cs aI d => (Lo 1 rfl rfl rfl ti_22 ag_22 rfl aI d ex fun aM aJ => ?_)
  have aK := aJ.slice
  obtain ⟨aF, aG, rfl⟩ := aK.shape
  refine Lv ok 2 [(8, sl aF aB aG)] 3 rfl rfl (Ln _ rfl (Wq (Wg (Lv ok 0 [(19, sl aF aB aG), (20, I (ln aB)), (21, I cols), (22, .bool ((ln aB) != cols))] 4 rfl rfl (Ln _ rfl ?_)))))
  refine Wc ((ln aB) != cols) rfl (fun aD => ?_) (fun aD => ?_)
  ·have H := H.1 aD
   refine Wq (Wg (Lv ok 0 [(6, .bool false)] 1 rfl rfl (Ln _ rfl (W_ret ?_))))
   exact ⟨_, Ret_of [.bool false] ⟨⟨rfl, rfl⟩, trivial⟩, _, H, rfl, X.ext⟩
  have H := H.2 aD
  refine Wk (Wg (Lv ok 0 [(23, I (wr (aA + 1))), (15, I (wr (aA + 1)))] 2 rfl rfl ?_))
  exact Ln _ rfl ⟨wr (aA + 1), ⟨H.1, _, Ee ⟨rfl, rfl, rfl, rfl, trivial⟩, rfl⟩, H.2⟩
 have H := H.2 aC
 refine W_exit ?_
 refine (if_pos rfl).mpr ?_
 refine Wq (Wg (Lv ok 0 [(6, .bool true)] 1 rfl rfl (Ln _ rfl (W_ret ?_))))
 exact ⟨_, Ret_of [.bool true] ⟨⟨rfl, rfl⟩, trivial⟩, _, H, rfl, X.ext⟩

theorem impl_IsTransport_w (t : Transport) (Q : Bool → Prop) (H : impl_IsTransport t Q) (w : World) {vx : Value} {hx : PH} (r : RS hx vx t.Rows) (ex : Sub hx w) {bC : Value} {bD : PH} (bE : RS bD bC t.Cols) (bX : Sub bD w) {bF : Value} {bG : PH} (aV : RS bG bF t.Lo) (bY : Sub bG w) {bH : Value} {bI : PH} (aP : RS bI bH t.Hi) (bZ : Sub bI w) :
  CallsTo Try.prog 36 #[.agg #[vx, bC, bF, bH]] w fun v w' => ∃ bJ, Q bJ ∧ v = .bool bJ ∧ Ext w w' := by
 obtain ⟨a, c, rfl⟩ := r.shape
 obtain ⟨aL, aM, rfl⟩ := bE.shape
 obtain ⟨aE, aF, rfl⟩ := aV.shape
 obtain ⟨aG, aH, rfl⟩ := aP.shape
 refine enter (args := [.agg #[sl a t.Rows c, sl aL t.Cols aM, sl aE t.Lo aF, sl aG t.Hi aH]]) 83 Try.func36 rfl rfl rfl ?_
 refine Wo [(0, .agg #[sl a t.Rows c, sl aL t.Cols aM, sl aE t.Lo aF, sl aG t.Hi aH])] ⟨rfl, trivial⟩ fun ρ => ?_
 have X := Br emp w
 refine Wq (Wg (Ly 0 (cs := [sl a t.Rows c, sl aL t.Cols aM, sl aE t.Lo aF, sl aG t.Hi aH]) rfl rfl rfl rfl rfl fun b wx x aW f => (Lv ok 1 [(2, .bool false)] 2 rfl rfl (Ln _ rfl (Wq ?_)))))
 have X20 := (X.stepx x)
 have bK := (bY.ext x)
 have bL := (bZ.ext x)
 obtain ⟨k, hk, H⟩ := jn_elim H
 refine W_join2 (S := Bool) (fun s ρ' w' => k s ∧ ∃ (ρ : Env), ρ' = setAll [(1, pb b), (40, .bool s)] ρ ∧ Ext wx w') ?_ ?_
 ·refine Wg (Lv ok 0 [(7, pb b)] 1 rfl rfl (Lb 1 (v := sl a t.Rows c) rfl rfl rfl ti_22 ag_22 (fun _ => rfl) rfl aW rfl rfl (Lc 2 rfl rfl rfl cal_71 rfl (impl_areSums_w _ _ H wx r (ex.ext x)) ?_)))
  rintro _ b0 ⟨aX, H, rfl, aO⟩
  refine Lv ok 3 [(10, .bool (!aX)), (11, .bool (!aX))] 5 rfl rfl ?_
  refine LP_split 11 (!aX) rfl (fun hc => ?_) (fun hc => ?_)
  ·have H := H.1 hc
   refine Lv ok 5 [(12, undef), (13, undef), (14, undef), (15, undef), (16, .bool true), (17, .bool true), (18, undef), (19, undef), (20, undef), (21, undef), (22, undef), (23, undef), (24, undef), (25, undef), (26, undef), (27, undef), (28, .bool true), (29, .bool true), (30, undef), (31, undef), (32, undef), (33, undef), (34, undef), (35, undef), (36, undef), (37, undef), (38, undef), (39, undef), (40, .bool true)] 34 rfl rfl ?_
   refine Ln _ rfl ?_
   try refine Wo [(1, pb b), (40, .bool true)] ⟨rfl, rfl, trivial⟩ fun ρ => ?_
   exact ⟨true, H, _, Ee ⟨rfl, rfl, trivial⟩, aO⟩
  have H := H.2 hc
  refine Lv ok 5 [(12, .pointer (some ⟨b, 1, none⟩))] 6 rfl rfl ?_
  have bM := (aW.ext aO)
  refine Lb 6 (v := sl aL t.Cols aM) rfl rfl rfl ti_22 ag_22 (fun _ => rfl) rfl bM rfl rfl (Lc 7 rfl rfl rfl cal_71 rfl (impl_areSums_w _ _ H b0 bE ((bX.ext x).ext aO)) ?_)
  rintro _ b1 ⟨aQ, H, rfl, aY⟩
  refine Lv ok 8 [(15, .bool (!aQ)), (16, .bool (!aQ)), (17, .bool (!aQ))] 11 rfl rfl ?_
  refine LP_split 17 (!aQ) rfl (fun aZ => ?_) (fun aZ => ?_)
  ·have H := H.1 aZ
   refine Lv ok 11 [(18, undef), (19, undef), (20, undef), (21, undef), (22, undef), (23, undef), (24, undef), (25, undef), (26, undef), (27, undef), (28, .bool true), (29, .bool true), (30, undef), (31, undef), (32, undef), (33, undef), (34, undef), (35, undef), (36, undef), (37, undef), (38, undef), (39, undef), (40, .bool true)] 34 rfl rfl (Ln _ rfl ?_)
   try refine Wo [(1, pb b), (40, .bool true)] ⟨rfl, rfl, trivial⟩ fun ρ => ?_
   exact ⟨true, H, _, Ee ⟨rfl, rfl, trivial⟩, (aO.trans aY)⟩
  have H := H.2 aZ
  refine Lv ok 11 [(18, .pointer (some ⟨b, 2, none⟩))] 12 rfl rfl ?_
  have aR := (bM.ext aY)
  refine Lb 12 (v := sl aE t.Lo aF) rfl rfl rfl ti_23 ag_23 (fun _ => rfl) rfl aR rfl rfl (Lv ok 13 [(20, pb b)] 14 rfl rfl (Lb 14 (v := sl a t.Rows c) rfl rfl rfl ti_22 ag_22 (fun _ => rfl) rfl aR rfl rfl (Lv ok 15 [(22, I (ln t.Rows)), (23, .pointer (some ⟨b, 1, none⟩))] 17 rfl rfl (Lb 17 (v := sl aL t.Cols aM) rfl rfl rfl ti_22 ag_22 (fun _ => rfl) rfl aR rfl rfl ?_))))
  refine Lv ok 18 [(25, I (ln t.Cols))] 19 rfl rfl ?_
  have a0 := (aO.trans aY)
  refine Lc 19 rfl rfl rfl cal_72 rfl (impl_hasShape_w _ _ _ _ H b1 aV (bK.ext a0)) ?_
  rintro _ b2 ⟨aS, H, rfl, a1⟩
  refine Lv ok 20 [(27, .bool (!aS)), (28, .bool (!aS)), (29, .bool (!aS))] 23 rfl rfl ?_
  refine LP_split 29 (!aS) rfl (fun a2 => ?_) (fun a2 => ?_)
  ·have H := H.1 a2
   refine Lv ok 23 [(30, undef), (31, undef), (32, undef), (33, undef), (34, undef), (35, undef), (36, undef), (37, undef), (38, undef), (39, undef), (40, .bool true)] 34 rfl rfl (Ln _ rfl ?_)
   try refine Wo [(1, pb b), (40, .bool true)] ⟨rfl, rfl, trivial⟩ fun ρ => ?_
   exact ⟨true, H, _, Ee ⟨rfl, rfl, trivial⟩, (a0.trans a1)⟩
  have H := H.2 a2
  refine Lv ok 23 [(30, .pointer (some ⟨b, 3, none⟩))] 24 rfl rfl ?_
  have a3 := (aR.ext a1)
  refine Lb 24 (v := sl aG t.Hi aH) rfl rfl rfl ti_23 ag_23 (fun _ => rfl) rfl a3 rfl rfl (Lv ok 25 [(32, pb b)] 26 rfl rfl (Lb 26 (v := sl a t.Rows c) rfl rfl rfl ti_22 ag_22 (fun _ => rfl) rfl a3 rfl rfl (Lv ok 27 [(34, I (ln t.Rows)), (35, .pointer (some ⟨b, 1, none⟩))] 29 rfl rfl (Lb 29 (v := sl aL t.Cols aM) rfl rfl rfl ti_22 ag_22 (fun _ => rfl) rfl a3 rfl rfl ?_))))
  refine Lv ok 30 [(37, I (ln t.Cols))] 31 rfl rfl ?_
  have bN := (a0.trans a1)
  refine Lc 31 rfl rfl rfl cal_72 rfl (impl_hasShape_w _ _ _ _ H b2 aP (bL.ext bN)) ?_
  rintro _ c6 ⟨aT, H, rfl, b3⟩
  refine Lv ok 32 [(39, .bool (!aT)), (40, .bool (!aT))] 34 rfl rfl (Ln _ rfl ?_)
  try refine Wo [(1, pb b), (40, .bool (!aT))] ⟨rfl, rfl, trivial⟩ fun ρ => ?_
  exact ⟨!aT, H, _, Ee ⟨rfl, rfl, trivial⟩, (bN.trans b3)⟩
 rintro b4 _ a4 ⟨H, ρ, rfl, X28⟩
 subst hk
 refine Wc (b4) rfl (fun a5 => ?_) (fun a5 => ?_)
 ·have H := H.1 a5
  refine Wq (Wg (Lv ok 0 [(2, .bool false)] 1 rfl rfl (Ln _ rfl (W_ret ?_))))
  exact ⟨_, Ret_of [.bool false] ⟨⟨rfl, rfl⟩, trivial⟩, _, H, rfl, (X20.stepx X28).ext⟩
 have H := H.2 a5
 refine Wk (Wq (Wq (Wg (Lv ok 0 [(41, .pointer (some ⟨b, 2, none⟩))] 1 rfl rfl ?_))))
 have a6 := (aW.ext X28)
 refine Lb 1 (v := sl aE t.Lo aF) rfl rfl rfl ti_23 ag_23 (fun _ => rfl) rfl a6 rfl rfl (Lv ok 2 [(43, I (ln t.Lo)), (44, I 0)] 4 rfl rfl (Ln _ rfl (W_block ?_)))
 obtain ⟨J, m, Hx, H⟩ := H
 refine W_loop (S := Int) (fun s ρ' w' => J s ∧ ∃ (ρ : Env), ρ' = setAll [(1, pb b), (42, sl aE t.Lo aF), (43, I (ln t.Lo)), (44, I s)] ρ ∧ a4 = w') (fun s => m s) 0 ⟨Hx, _, Ee ⟨rfl, rfl, rfl, rfl, trivial⟩, rfl⟩ ?_
 rintro aA _ _ ⟨Hi, ρ, rfl, rfl⟩
 have H := H aA Hi
 refine Wq (Wg (Lv ok 0 [(45, .bool (decide (aA < (ln t.Lo))))] 1 rfl rfl (Ln _ rfl (Wq ?_))))
 refine Wc (decide (aA < (ln t.Lo))) rfl (fun a7 => ?_) (fun a7 => ?_)
 ·have H := H.1 a7
  refine Wk (Wq (W_block (Wq (Wg (Lv ok 0 [(46, I aA)] 1 rfl rfl ?_)))))
  obtain ⟨aC, hi, b5, H⟩ := H
  refine Li 1 rfl rfl rfl Try.underlying23 ti_22 rfl rfl aV hi b5 fun c7 cs b6 d => ?_
  have bO := (bK.ext X28)
  refine Lo 2 rfl rfl rfl ti_22 ag_22 rfl b6 d bO fun c8 b7 => ?_
  have bP := b7.slice
  obtain ⟨aJ, aK, rfl⟩ := bP.shape
  refine Lv ok 3 [(3, I aA), (4, sl aJ aC aK)] 5 rfl rfl (Ln _ rfl (Wq (Wg (Lv ok 0 [(49, sl aJ aC aK), (50, I (ln aC)), (51, I 0)] 3 rfl rfl (Ln _ rfl (W_block ?_))))))
  obtain ⟨J71, b8, Hx73, H⟩ := H
  refine W_loop (S := Int) (fun s ρ' w' => J71 s ∧ ∃ (ρ : Env), ρ' = setAll [(1, pb b), (3, I aA), (42, sl aE t.Lo aF), (43, I (ln t.Lo)), (44, I aA), (49, sl aJ aC aK), (50, I (ln aC)), (51, I s)] ρ ∧ a4 = w') (fun s => b8 s) 0 ⟨Hx73, _, Ee ⟨rfl, rfl, rfl, rfl, rfl, rfl, rfl, rfl, trivial⟩, rfl⟩ ?_
  rintro aB _ _ ⟨Hi, ρ, rfl, rfl⟩
  have H := H aB Hi
  refine Wq (Wg (Lv ok 0 [(52, .bool (decide (aB < (ln aC))))] 1 rfl rfl (Ln _ rfl (Wq ?_))))
  refine Wc (decide (aB < (ln aC))) rfl (fun a8 => ?_) (fun a8 => ?_)
  ·have H := H.1 a8
   refine Wk (Wq (W_block (Wq (Wg (Lv ok 0 [(53, I aB)] 1 rfl rfl ?_)))))
   obtain ⟨aD, b9, cA, H⟩ := H
   refine Li 1 rfl rfl rfl Try.underlying22 ti_3 rfl rfl bP b9 cA fun c9 dA cB cC => (Lo 2 rfl rfl rfl ti_3 ag_3 rfl cB cC bO fun dB cD => ?_)
   obtain rfl := cD.int
   refine Lv ok 3 [(5, I aB), (6, I aD)] 5 rfl rfl (Ln _ rfl ?_)
   have aU := (bL.ext X28)
   obtain ⟨cE, cF, H⟩ := jn_elim H
   refine W_join2 (S := Bool) (fun s ρ' w' => cE s ∧ ∃ (ρ : Env), ρ' = setAll [(1, pb b), (3, I aA), (42, sl aE t.Lo aF), (43, I (ln t.Lo)), (44, I aA), (49, sl aJ aC aK), (50, I (ln aC)), (51, I aB), (80, .bool s)] ρ ∧ a4 = w') ?_ ?_
   ·refine Wg (Lv ok 0 [(56, I aD), (57, .bool (decide (aD < 0))), (58, .bool (decide (aD < 0)))] 3 rfl rfl ?_)
    refine LP_split 58 (decide (aD < 0)) rfl (fun a9 => ?_) (fun a9 => ?_)
    ·have H := H.1 a9
     refine Lv ok 3 [(59, undef), (60, undef), (61, undef), (62, undef), (63, undef), (64, undef), (65, undef), (66, undef), (67, undef), (68, undef), (69, .bool true), (70, .bool true), (71, undef), (72, undef), (73, undef), (74, undef), (75, undef), (76, undef), (77, undef), (78, undef), (79, undef), (80, .bool true)] 25 rfl rfl (Ln _ rfl ?_)
     try refine Wo [(1, pb b), (3, I aA), (42, sl aE t.Lo aF), (43, I (ln t.Lo)), (44, I aA), (49, sl aJ aC aK), (50, I (ln aC)), (51, I aB), (80, .bool true)] ⟨rfl, rfl, rfl, rfl, rfl, rfl, rfl, rfl, rfl, trivial⟩ fun ρ => ?_
     exact ⟨true, H, _, Ee ⟨rfl, rfl, rfl, rfl, rfl, rfl, rfl, rfl, rfl, trivial⟩, rfl⟩
    have H := H.2 a9
    refine Lv ok 3 [(59, I aD), (60, .pointer (some ⟨b, 3, none⟩))] 5 rfl rfl (Lb 5 (v := sl aG t.Hi aH) rfl rfl rfl ti_23 ag_23 (fun _ => rfl) rfl a6 rfl rfl (Lv ok 6 [(62, I aA)] 7 rfl rfl ?_))
    obtain ⟨bQ, cG, cH, H⟩ := H
    refine Li 7 rfl rfl rfl Try.underlying23 ti_22 rfl rfl aP cG cH fun bR dC cI cJ => (Lo 8 rfl rfl rfl ti_22 ag_22 rfl cI cJ aU fun dD cK => ?_)
    have bS := cK.slice
    obtain ⟨bT, bU, rfl⟩ := bS.shape
    refine Lv ok 9 [(65, I aB)] 10 rfl rfl ?_
    obtain ⟨aI, cL, cM, H⟩ := H
    refine Li 10 rfl rfl rfl Try.underlying22 ti_3 rfl rfl bS cL cM fun bV dE cN cO => (Lo 11 rfl rfl rfl ti_3 ag_3 rfl cN cO aU fun dF cP => ?_)
    obtain rfl := cP.int
    refine Lv ok 12 [(68, .bool (decide (aD > aI))), (69, .bool (decide (aD > aI))), (70, .bool (decide (aD > aI)))] 15 rfl rfl ?_
    refine LP_split 70 (decide (aD > aI)) rfl (fun bA => ?_) (fun bA => ?_)
    ·have H := H.1 bA
     refine Lv ok 15 [(71, undef), (72, undef), (73, undef), (74, undef), (75, undef), (76, undef), (77, undef), (78, undef), (79, undef), (80, .bool true)] 25 rfl rfl (Ln _ rfl ?_)
     try refine Wo [(1, pb b), (3, I aA), (42, sl aE t.Lo aF), (43, I (ln t.Lo)), (44, I aA), (49, sl aJ aC aK), (50, I (ln aC)), (51, I aB), (59, I aD), (60, .pointer (some ⟨b, 3, none⟩)), (61, sl aG t.Hi aH), (62, I aA), (63, .pointer (some bR)), (64, sl bT bQ bU), (65, I aB), (66, .pointer (some bV)), (67, I aI), (68, .bool (decide (aD > aI))), (80, .bool true)] ⟨rfl, rfl, rfl, rfl, rfl, rfl, rfl, rfl, rfl, rfl, rfl, rfl, rfl, rfl, rfl, rfl, rfl, rfl, rfl, trivial⟩ fun ρ => ?_
     exact ⟨true, H, _, Ee ⟨rfl, rfl, rfl, rfl, rfl, rfl, rfl, rfl, rfl, trivial⟩, rfl⟩
    have H := H.2 bA
    refine Lv ok 15 [(71, .pointer (some ⟨b, 3, none⟩))] 16 rfl rfl (Lb 16 (v := sl aG t.Hi aH) rfl rfl rfl ti_23 ag_23 (fun _ => rfl) rfl a6 rfl rfl (Lv ok 17 [(73, I aA)] 18 rfl rfl ?_))
    obtain ⟨cQ, cR, cS, H⟩ := H
    refine Li 18 rfl rfl rfl Try.underlying23 ti_22 rfl rfl aP cR cS fun cT dG cU cV => (Lo 19 rfl rfl rfl ti_22 ag_22 rfl cU cV aU fun dH cW => ?_)
    have bW := cW.slice
    obtain ⟨cX, cY, rfl⟩ := bW.shape
    refine Lv ok 20 [(76, I aB)] 21 rfl rfl ?_
    obtain ⟨aN, cZ, c0, H⟩ := H
    refine Li 21 rfl rfl rfl Try.underlying22 ti_3 rfl rfl bW cZ c0 fun c1 dI c2 c3 => (Lo 22 rfl rfl rfl ti_3 ag_3 rfl c2 c3 aU fun dJ c4 => ?_)
    obtain rfl := c4.int
    refine Lv ok 23 [(79, .bool (decide (aN > 100000))), (80, .bool (decide (aN > 100000)))] 25 rfl rfl (Ln _ rfl ?_)
    try refine Wo [(1, pb b), (3, I aA), (42, sl aE t.Lo aF), (43, I (ln t.Lo)), (44, I aA), (49, sl aJ aC aK), (50, I (ln aC)), (51, I aB), (59, I aD), (60, .pointer (some ⟨b, 3, none⟩)), (61, sl aG t.Hi aH), (62, I aA), (63, .pointer (some bR)), (64, sl bT bQ bU), (65, I aB), (66, .pointer (some bV)), (67, I aI), (68, .bool (decide (aD > aI))), (71, .pointer (some ⟨b, 3, none⟩)), (72, sl aG t.Hi aH), (73, I aA), (74, .pointer (some cT)), (75, sl cX cQ cY), (76, I aB), (77, .pointer (some c1)), (78, I aN), (79, .bool (decide (aN > 100000))), (80, .bool (decide (aN > 100000)))] ⟨rfl, rfl, rfl, rfl, rfl, rfl, rfl, rfl, rfl, rfl, rfl, rfl, rfl, rfl, rfl, rfl, rfl, rfl, rfl, rfl, rfl, rfl, rfl, rfl, rfl, rfl, rfl, rfl, trivial⟩ fun ρ => ?_
    exact ⟨decide (aN > 100000), H, _, Ee ⟨rfl, rfl, rfl, rfl, rfl, rfl, rfl, rfl, rfl, trivial⟩, rfl⟩
   rintro c5 _ _ ⟨H, ρ, rfl, rfl⟩
   subst cF
   refine Wc (c5) rfl (fun bB => ?_) (fun bB => ?_)
   ·have H := H.1 bB
    refine Wq (Wg (Lv ok 0 [(2, .bool false)] 1 rfl rfl (Ln _ rfl (W_ret ?_))))
    exact ⟨_, Ret_of [.bool false] ⟨⟨rfl, rfl⟩, trivial⟩, _, H, rfl, (X20.stepx X28).ext⟩
   have H := H.2 bB
   refine Wk (Wg (Lv ok 0 [(81, I (wr (aB + 1))), (51, I (wr (aB + 1)))] 2 rfl rfl ?_))
   exact Ln _ rfl ⟨wr (aB + 1), ⟨H.1, _, Ee ⟨rfl, rfl, rfl, rfl, rfl, rfl, rfl, rfl, trivial⟩, rfl⟩, H.2⟩
  have H := H.2 a8
  refine W_exit ?_
  refine (if_pos rfl).mpr ?_
  refine Wg (Lv ok 0 [(82, I (wr (aA + 1))), (44, I (wr (aA + 1)))] 2 rfl rfl ?_)
  exact Ln _ rfl ⟨wr (aA + 1), ⟨H.1, _, Ee ⟨rfl, rfl, rfl, rfl, trivial⟩, rfl⟩, H.2⟩
 have H := H.2 a7
 refine W_exit ?_
 refine (if_pos rfl).mpr ?_
 refine Wq (Wg (Lv ok 0 [(2, .bool true)] 1 rfl rfl (Ln _ rfl (W_ret ?_))))
 exact ⟨_, Ret_of [.bool true] ⟨⟨rfl, rfl⟩, trivial⟩, _, H, rfl, (X20.stepx X28).ext⟩

theorem impl_total_w (l : List Int) (Q : Int → Prop) (H : impl_total l Q) (w : World) {vx : Value} {hx : PH} (r : RS hx vx l) (ex : Sub hx w) :
  CallsTo Try.prog 64 #[vx] w fun v w' => ∃ aB, Q aB ∧ v = I aB ∧ Ext w w' := by
 obtain ⟨a, c, rfl⟩ := r.shape
 refine enter (args := [sl a l c]) 17 Try.func64 rfl rfl rfl ?_
 refine Wo [(0, sl a l c)] ⟨rfl, trivial⟩ fun ρ => ?_
 have X := Br emp w
 refine Wq (Wg (Lv ok 0 [(2, I 0)] 1 rfl rfl (Ln _ rfl (Wq (Wg (Lv ok 0 [(3, I 0)] 1 rfl rfl (Ln _ rfl (Wq (Wq (Wg (Lv ok 0 [(6, sl a l c), (7, I (ln l)), (8, I 0)] 3 rfl rfl ?_)))))))))))
 refine Ln _ rfl (W_block ?_)
 obtain ⟨J, m, Hx, H⟩ := H
 refine W_loop (S := Int × Int) (fun s ρ' w' => J s.1 s.2 ∧ ∃ (ρ : Env), ρ' = setAll [(3, I s.1), (6, sl a l c), (7, I (ln l)), (8, I s.2)] ρ ∧ w = w') (fun s => m s.1 s.2) (0, 0) ⟨Hx, _, Ee ⟨rfl, rfl, rfl, rfl, trivial⟩, rfl⟩ ?_
 rintro ⟨sum, x⟩ _ _ ⟨Hi, ρ, rfl, rfl⟩
 have H := H sum x Hi
 refine Wq (Wg (Lv ok 0 [(9, .bool (decide (x < (ln l))))] 1 rfl rfl (Ln _ rfl (Wq ?_))))
 refine Wc (decide (x < (ln l))) rfl (fun hc => ?_) (fun hc => ?_)
 ·have H := H.1 hc
  refine Wk (Wq (W_block (Wq (Wg ?_))))
  obtain ⟨aA, hi, aC, H⟩ := H
  refine Li 0 rfl rfl rfl Try.underlying22 ti_3 rfl rfl r hi aC fun aF cs aD d => (Lo 1 rfl rfl rfl ti_3 ag_3 rfl aD d ex fun aG aE => ?_)
  obtain rfl := aE.int
  refine Lv ok 2 [(5, I aA)] 3 rfl rfl (Ln _ rfl (Wg (Lv ok 0 [(12, I sum), (13, I aA), (14, I (wr (sum + aA))), (3, I (wr (sum + aA)))] 4 rfl rfl (Ln _ rfl (Wg (Lv ok 0 [(15, I (wr (x + 1))), (8, I (wr (x + 1)))] 2 rfl rfl ?_))))))
  exact Ln _ rfl ⟨(wr (sum + aA), wr (x + 1)), ⟨H.1, _, Ee ⟨rfl, rfl, rfl, rfl, trivial⟩, rfl⟩, H.2⟩
 have H := H.2 hc
 refine W_exit ?_
 refine (if_pos rfl).mpr ?_
 refine Wq (Wg (Lv ok 0 [(16, I sum), (2, I sum)] 2 rfl rfl (Ln _ rfl (W_ret ?_))))
 exact ⟨_, Ret_of [I sum] ⟨⟨rfl, rfl⟩, trivial⟩, _, H, rfl, X.ext⟩

theorem impl_residual_w (t : Transport) (x : List (List Int)) (fixed : Int) (Q : (List (List Int)) → Prop) (H : impl_residual t x fixed Q) (w : World) {vx : Value} {hx : PH} (r : RS hx vx t.Rows) (ex : Sub hx w) {b6 : Value} {b7 : PH} (dV : RS b7 b6 t.Cols) (gC : Sub b7 w) {b8 : Value} {b9 : PH} (cA : RS b9 b8 t.Lo) (cB : Sub b9 w) {cC : Value} {cD : PH} (cE : RS cD cC t.Hi) (cF : Sub cD w) {cG : Value} {cH : PH} (cI : RS cH cG x) (cJ : Sub cH w) :
  CallsTo Try.prog 89 #[.agg #[vx, b6, b8, cC], cG, I fixed] w fun v w' => ∃ cK cL bI, Q cK ∧ v = cL ∧ Ext w w' ∧ OD bI cL cK ∧ Sub bI w' ∧ Fresh w.heap.size bI := by
 obtain ⟨a, c, rfl⟩ := r.shape
 obtain ⟨a5, a6, rfl⟩ := dV.shape
 obtain ⟨aW, aX, rfl⟩ := cA.shape
 obtain ⟨aY, aZ, rfl⟩ := cE.shape
 obtain ⟨aK, aL, rfl⟩ := cI.shape
 refine enter (args := [.agg #[sl a t.Rows c, sl a5 t.Cols a6, sl aW t.Lo aX, sl aY t.Hi aZ], sl aK x aL, I fixed]) 98 Try.func89 rfl rfl rfl ?_
 refine Wo [(0, .agg #[sl a t.Rows c, sl a5 t.Cols a6, sl aW t.Lo aX, sl aY t.Hi aZ]), (1, sl aK x aL), (2, I fixed)] ⟨rfl, rfl, rfl, trivial⟩ fun ρ => ?_
 have X := Br emp w
 refine Wq (Wg (Ly 0 (cs := [sl a t.Rows c, sl a5 t.Cols a6, sl aW t.Lo aX, sl aY t.Hi aZ]) rfl rfl rfl rfl rfl fun b wx bJ a7 f => (Lv ok 1 [(6, .slice none 0 0)] 2 rfl rfl (Ln _ rfl (Wq ?_)))))
 refine W_quiet mix (by kernel_rfl) ?_
 refine QP_ev ok 0 [(15, pb b)] 1 rfl rfl ?_
 refine QP_ldbox 1 (v := sl a t.Rows c) rfl rfl rfl ti_22 ag_22 (fun _ => rfl) rfl a7 rfl rfl ?_
 refine QP_ev ok 2 [(17, I (ln t.Rows)), (18, .pointer (some ⟨b, 1, none⟩))] 4 rfl rfl ?_
 refine QP_ldbox 4 (v := sl a5 t.Cols a6) rfl rfl rfl ti_22 ag_22 (fun _ => rfl) rfl a7 rfl rfl ?_
 refine QP_ev ok 5 [(20, I (ln t.Cols)), (7, I (ln t.Rows)), (8, I (ln t.Cols))] 8 rfl rfl ?_
 refine QP_end _ rfl fun gD a0 => ?_
 refine Wq (Wg (Lv ok 0 [(21, I (ln t.Rows)), (22, I (ln t.Cols)), (23, I (wr ((ln t.Rows) + (ln t.Cols))))] 3 rfl rfl ?_))
 obtain ⟨hn, hb, H⟩ := H
 refine LP_maked (β := Int) 3 rfl rfl rfl Try.underlying23 ti_22 rfl hn (by first | omega | (simp only [ln] at *; omega)) (by first | omega | (simp only [ln] at *; omega)) fun a1 gE bK aM o dW aO => ?_
 obtain ⟨aC, aD, rfl⟩ := o.shape
 refine Lv ok 4 [(9, .slice aC (List.length (List.replicate (Int.toNat (wr ((ln t.Rows) + (ln t.Cols)))) (([] : List Int)))) aD)] 5 rfl rfl (Ln _ rfl (Wq (Wq (Wg (Lv ok 0 [(25, .slice aC (List.length (List.replicate (Int.toNat (wr ((ln t.Rows) + (ln t.Cols)))) (([] : List Int)))) aD), (26, I (ln (List.replicate (Int.toNat (wr ((ln t.Rows) + (ln t.Cols)))) (([] : List Int))))), (27, I 0)] 3 rfl rfl ?_)))))
 refine Ln _ rfl (W_block ?_)
 obtain ⟨J, m, Hx, H⟩ := H
 refine W_loop (S := (List (List Int)) × Int) (fun s ρ' w' => J s.1 s.2 ∧ ∃ (ρ : Env) (aG : PH), ρ' = setAll [(1, sl aK x aL), (2, I fixed), (3, pb b), (7, I (ln t.Rows)), (8, I (ln t.Cols)), (9, .slice aC (List.length (List.replicate (Int.toNat (wr ((ln t.Rows) + (ln t.Cols)))) (([] : List Int)))) aD), (26, I (ln (List.replicate (Int.toNat (wr ((ln t.Rows) + (ln t.Cols)))) (([] : List Int))))), (27, I s.2)] ρ ∧ But a1 bK w' ∧ OD aG (.slice aC (List.length (List.replicate (Int.toNat (wr ((ln t.Rows) + (ln t.Cols)))) (([] : List Int)))) aD) s.1 ∧ Sub aG w' ∧ DomLe a1 bK.heap.size aG) (fun s => m s.1 s.2) (List.replicate (Int.toNat (wr ((ln t.Rows) + (ln t.Cols)))) (([] : List Int)), 0) ⟨Hx, _, a1, Ee ⟨rfl, rfl, rfl, rfl, rfl, rfl, rfl, rfl, trivial⟩, (Br _ _), o, dW, (Oe (Or _) _)⟩ ?_
 rintro ⟨bL, aH⟩ _ bM ⟨Hi, ρ, aG, rfl, X45, cM, bN, aN⟩
 have H := H bL aH Hi
 refine Wq (Wg (Lv ok 0 [(28, .bool (decide (aH < (ln (List.replicate (Int.toNat (wr ((ln t.Rows) + (ln t.Cols)))) (([] : List Int)))))))] 1 rfl rfl (Ln _ rfl (Wq ?_))))
 refine Wc (decide (aH < (ln (List.replicate (Int.toNat (wr ((ln t.Rows) + (ln t.Cols)))) (([] : List Int)))))) rfl (fun hc => ?_) (fun hc => ?_)
 ·have H := H.1 hc
  refine Wk (Wq (W_block (Wq (Wg (Lv ok 0 [(29, I aH), (10, I aH)] 2 rfl rfl (Ln _ rfl (Wg ?_)))))))
  refine Lv ok 0 [(30, .slice aC (List.length (List.replicate (Int.toNat (wr ((ln t.Rows) + (ln t.Cols)))) (([] : List Int)))) aD), (31, I aH), (32, I (ln t.Rows)), (33, I (ln t.Cols)), (34, I (wr ((ln t.Rows) + (ln t.Cols))))] 5 rfl rfl ?_
  obtain ⟨dX, gF, H⟩ := H
  refine LP_make (α := Int) 5 rfl rfl rfl Try.underlying22 ti_3 (x0 := (0 : Int)) rfl rfl dX (by first | omega | (simp only [ln] at *; omega)) (by first | omega | (simp only [ln] at *; omega)) fun gG gH gI cN cO dY cP => ?_
  obtain ⟨gJ, gK, rfl⟩ := cO.shape
  obtain ⟨hi, hl, H⟩ := H
  refine LP_indexd (v := .slice aC (List.length (List.replicate (Int.toNat (wr ((ln t.Rows) + (ln t.Cols)))) (([] : List Int)))) aD) 6 rfl rfl rfl Try.underlying23 ti_22 rfl rfl cM hi hl fun gL wa => (LP_setD (y := List.replicate (Int.toNat (wr ((ln t.Rows) + (ln t.Cols)))) ((0 : Int))) 7 rfl rfl rfl rfl rfl wa (OD.rvo (OS.od cO)) (bN.ext cN) dY (Df bN cP) fun dZ hw gM d0 d1 y dh dq gN => ?_)
  refine Ln _ rfl (Wg (Lv ok 0 [(37, I (wr (aH + 1))), (27, I (wr (aH + 1)))] 2 rfl rfl (Ln _ rfl ?_)))
  have dl : DomLe a1 bK.heap.size aG := (Mt (Oe (Or _) _) aN (Nat.le_refl _))
  exact ⟨(List.set bL (Int.toNat aH) (List.replicate (Int.toNat (wr ((ln t.Rows) + (ln t.Cols)))) ((0 : Int))), wr (aH + 1)), ⟨H.1, _, dZ, Ee ⟨rfl, rfl, rfl, rfl, rfl, rfl, rfl, rfl, trivial⟩, ((((Br a1 _).step X45 (Oe (Or _) _)).stepx cN).step (But.dom y dh) dl), d0, d1, (Mt (Mu dl ((cP.mono X45.size).dom _)) (Oe dq _) (Nat.le_refl _))⟩, H.2⟩
 have H := H.2 hc
 refine W_exit ?_
 refine (if_pos rfl).mpr ?_
 refine Wq (Wq (Wg (Lv ok 0 [(38, sl aK x aL), (39, I (ln x)), (40, I 0)] 3 rfl rfl (Ln _ rfl (W_block ?_)))))
 obtain ⟨J75, d2, Hx77, H⟩ := H
 refine W_loop (S := (List (List Int)) × Int) (fun s ρ' w' => J75 s.1 s.2 ∧ ∃ (ρ : Env) (aI : PH), ρ' = setAll [(2, I fixed), (3, pb b), (7, I (ln t.Rows)), (8, I (ln t.Cols)), (9, .slice aC (List.length (List.replicate (Int.toNat (wr ((ln t.Rows) + (ln t.Cols)))) (([] : List Int)))) aD), (38, sl aK x aL), (39, I (ln x)), (40, I s.2)] ρ ∧ But aG bM w' ∧ OD aI (.slice aC (List.length (List.replicate (Int.toNat (wr ((ln t.Rows) + (ln t.Cols)))) (([] : List Int)))) aD) s.1 ∧ Sub aI w' ∧ DomLe aG bM.heap.size aI) (fun s => d2 s.1 s.2) (bL, 0) ⟨Hx77, _, aG, Ee ⟨rfl, rfl, rfl, rfl, rfl, rfl, rfl, rfl, trivial⟩, (Br _ _), cM, bN, (Oe (Or _) _)⟩ ?_
 rintro ⟨cQ, aA⟩ _ bO ⟨Hi, ρ, aI, rfl, X74, cR, cS, aP⟩
 have H := H cQ aA Hi
 refine Wq (Wg (Lv ok 0 [(41, .bool (decide (aA < (ln x))))] 1 rfl rfl (Ln _ rfl (Wq ?_))))
 refine Wc (decide (aA < (ln x))) rfl (fun bP => ?_) (fun bP => ?_)
 ·have H := H.1 bP
  refine Wk (Wq (W_block (Wq (Wg (Lv ok 0 [(42, I aA)] 1 rfl rfl ?_)))))
  obtain ⟨aF, d3, d4, H⟩ := H
  refine Li 1 rfl rfl rfl Try.underlying23 ti_22 rfl rfl cI d3 d4 fun gO cs d5 d => ?_
  have xc := ((bJ.trans a0).trans aM)
  have bQ := (bJ.trans a0)
  have cT := (cJ.ext bQ)
  have dj := (Df cT aO).symm
  have bR := (cT.ext aM)
  have cU := (((cJ.ext xc).but X45 dj).but X74 (Mj aN dj bR))
  refine Lo 2 rfl rfl rfl ti_22 ag_22 rfl d5 d cU fun gP d6 => ?_
  have cV := d6.slice
  obtain ⟨aQ, aR, rfl⟩ := cV.shape
  refine Lv ok 3 [(11, I aA), (12, sl aQ aF aR)] 5 rfl rfl (Ln _ rfl (Wq (Wg (Lv ok 0 [(45, sl aQ aF aR), (46, I (ln aF)), (47, I 0)] 3 rfl rfl (Ln _ rfl (W_block ?_))))))
  obtain ⟨J103, d7, Hx105, H⟩ := H
  refine W_loop (S := (List (List Int)) × Int) (fun s ρ' w' => J103 s.1 s.2 ∧ ∃ (ρ : Env) (aJ : PH), ρ' = setAll [(2, I fixed), (3, pb b), (7, I (ln t.Rows)), (8, I (ln t.Cols)), (9, .slice aC (List.length (List.replicate (Int.toNat (wr ((ln t.Rows) + (ln t.Cols)))) (([] : List Int)))) aD), (11, I aA), (38, sl aK x aL), (39, I (ln x)), (40, I aA), (45, sl aQ aF aR), (46, I (ln aF)), (47, I s.2)] ρ ∧ But aI bO w' ∧ OD aJ (.slice aC (List.length (List.replicate (Int.toNat (wr ((ln t.Rows) + (ln t.Cols)))) (([] : List Int)))) aD) s.1 ∧ Sub aJ w' ∧ DomLe aI bO.heap.size aJ) (fun s => d7 s.1 s.2) (cQ, 0) ⟨Hx105, _, aI, Ee ⟨rfl, rfl, rfl, rfl, rfl, rfl, rfl, rfl, rfl, rfl, rfl, rfl, trivial⟩, (Br _ _), cR, cS, (Oe (Or _) _)⟩ ?_
  rintro ⟨a8, aB⟩ _ cW ⟨Hi, ρ, aJ, rfl, X102, bS, bT, a9⟩
  have H := H a8 aB Hi
  refine Wq (Wg (Lv ok 0 [(48, .bool (decide (aB < (ln aF))))] 1 rfl rfl (Ln _ rfl (Wq ?_))))
  refine Wc (decide (aB < (ln aF))) rfl (fun bU => ?_) (fun bU => ?_)
  ·have H := H.1 bU
   refine Wk ?_
   have cX := (cB.ext bQ)
   have bV := (Df cX aO).symm
   have cY := (cX.ext aM)
   have bW := (Mj aN bV cY)
   have cZ := (cY.but X45 bV)
   have c0 := (Mj aP bW cZ)
   have c1 := (cF.ext bQ)
   have bX := (Df c1 aO).symm
   have c2 := (c1.ext aM)
   have c3 := (Mj aN bX c2)
   have c4 := (a7.ext a0)
   have bY := (Df c4 aO).symm
   have c5 := (c4.ext aM)
   have bZ := (Mj aN bY c5)
   have c6 := (c5.but X45 bY)
   have c7 := (Mj aP bZ c6)
   obtain ⟨k, hk, H⟩ := jn_elim H
   refine W_join2 (S := (List (List Int))) (fun s ρ' w' => k s ∧ ∃ (ρ : Env) (a2 : PH), ρ' = setAll [(2, I fixed), (3, pb b), (7, I (ln t.Rows)), (8, I (ln t.Cols)), (9, .slice aC (List.length (List.replicate (Int.toNat (wr ((ln t.Rows) + (ln t.Cols)))) (([] : List Int)))) aD), (11, I aA), (38, sl aK x aL), (39, I (ln x)), (40, I aA), (45, sl aQ aF aR), (46, I (ln aF)), (47, I aB)] ρ ∧ But aJ cW w' ∧ OD a2 (.slice aC (List.length (List.replicate (Int.toNat (wr ((ln t.Rows) + (ln t.Cols)))) (([] : List Int)))) aD) s ∧ Sub a2 w' ∧ DomLe aJ cW.heap.size a2) ?_ ?_
   ·refine W_block (Wq (Wg (Lv ok 0 [(49, I aB)] 1 rfl rfl ?_)))
    obtain ⟨aE, d8, d9, H⟩ := H
    refine Li 1 rfl rfl rfl Try.underlying22 ti_3 rfl rfl cV d8 d9 fun gQ gR eA eB => (Lo 2 rfl rfl rfl ti_3 ag_3 rfl eA eB (cU.but X102 (Mj aP (Mj aN dj bR) (bR.but X45 dj))) fun gS eC => ?_)
    obtain rfl := eC.int
    refine Lv ok 3 [(13, I aB), (14, I aE)] 5 rfl rfl (Ln _ rfl (Wq (Wg (Lv ok 0 [(52, I aA), (53, I (ln t.Cols)), (54, I (wr (aA * (ln t.Cols)))), (55, I aB), (56, I (wr ((wr (aA * (ln t.Cols))) + aB))), (57, I fixed), (58, .bool (decide ((wr ((wr (aA * (ln t.Cols))) + aB)) > fixed)))] 7 rfl rfl (Ln _ rfl ?_)))))
    refine Wc (decide ((wr ((wr (aA * (ln t.Cols))) + aB)) > fixed)) rfl (fun b0 => ?_) (fun b0 => ?_)
    ·have H := H.1 b0
     refine Wq ?_
     refine W_open mix fun gT bA => ?_
     refine AP_game 17 [[], [], [0, 1], [0, 1, 2], [], [], [4, 5], [], [7], [], [7, 8, 9], [7, 8, 9, 10], [], [7, 8, 9, 10, 11, 12], [7, 8, 9, 10, 11, 12, 13], [], [7, 8, 9, 10, 11, 12, 13, 14, 15], [0, 1, 2, 3, 4, 5, 6, 7, 8, 9, 10, 11, 12, 13, 14, 15, 16], [0, 1, 2, 3, 4, 5, 6, 7, 8, 9, 10, 11, 12, 13, 14, 15, 16, 17]] [[(9, none)], [(11, none)], [(59, some 0), (60, some 1)], [(61, some 2)], [(7, none)], [(13, none)], [(63, some 4), (64, some 5)], [(3, none)], [(66, some 7)], [(11, none)], [(67, some 8), (68, some 9)], [(69, some 10)], [(13, none)], [(70, some 11), (71, some 12)], [(72, some 13)], [(14, none)], [(73, some 14), (74, some 15)]] [(2, none), (3, none), (7, none), (8, none), (9, none), (11, none), (13, none), (14, none), (38, none), (39, none), (40, none), (45, none), (46, none), (47, none), (62, some 3), (65, some 6), (75, some 16)] [(0, false), (1, false), (2, false), (3, false), (4, false), (5, false), (6, false), (7, false), (8, false), (9, false), (10, false), (11, false), (12, false), (13, false), (14, false), (15, false), (16, false)] (by kernel_rfl) (by kernel_rfl) ?_
     refine GS_ev ok [(9, .slice aC (List.length (List.replicate (Int.toNat (wr ((ln t.Rows) + (ln t.Cols)))) (([] : List Int)))) aD)] (.slice aC (List.length (List.replicate (Int.toNat (wr ((ln t.Rows) + (ln t.Cols)))) (([] : List Int)))) aD) rfl rfl (fun _ h => h) (fun _ => rfl) ?_
     refine GS_ev ok [(11, I aA)] (I aA) rfl rfl (fun _ h => h) (fun _ => rfl) ?_
     obtain ⟨aS, eD, eE, H⟩ := H
     obtain ⟨c8, u, eF, rest, eG, eH, bw⟩ := run_indexb Try.underlying23 ti_22 bS _ eD eE
     refine GS_r0 [(59, .slice aC (List.length (List.replicate (Int.toNat (wr ((ln t.Rows) + (ln t.Cols)))) (([] : List Int)))) aD), (60, I aA)] (.pointer (some c8)) rfl rfl (fun _ h => h) (fun _ _ => ex_index rfl rfl rfl (eG _)) ?_
     have c9 := bw.od
     obtain ⟨bB, bC, rfl⟩ := c9.shape
     have b1 := (bT.ext bA)
     have eI := Sub.le b1 bw.le
     have eJ : OS 3 eF emp (sl bB aS bC) aS := OD.flat c9
     refine GS_r1 [(61, .pointer (some c8))] (sl bB aS bC) rfl rfl (fun _ h => h) (fun _ w e => ex_ldcell rfl ti_22 ag_22 rfl eH e) b1 ?_
     refine GS_ev ok [(7, I (ln t.Rows))] (I (ln t.Rows)) rfl rfl (fun _ h => h) (fun _ => rfl) ?_
     refine GS_ev ok [(13, I aB)] (I aB) rfl rfl (fun _ h => h) (fun _ => rfl) ?_
     refine GS_ev ok [(63, I (ln t.Rows)), (64, I aB)] (I (wr ((ln t.Rows) + aB))) rfl rfl (fun _ h => h) (fun _ => rfl) ?_
     refine GS_ev ok [(3, pb b)] (.pointer (some ⟨b, 3, none⟩)) rfl rfl (fun _ h => h) (fun _ => rfl) ?_
     have dA := (((((a7.ext (a0.trans aM)).but X45 bY).but X74 bZ).but X102 c7).ext bA)
     refine GS_r1 [(66, .pointer (some ⟨b, 3, none⟩))] (sl aY t.Hi aZ) rfl rfl (fun _ h => h) (fun _ w e => ex_ldbox rfl ti_23 ag_23 (fun _ => rfl) rfl e rfl rfl) dA ?_
     refine GS_ev ok [(11, I aA)] (I aA) rfl rfl (fun _ h => h) (fun _ => rfl) ?_
     obtain ⟨b2, eK, eL, H⟩ := H
     obtain ⟨dB, gU, eM, eN, eO⟩ := run_indexAt Try.underlying23 ti_22 cE .i64 _ b2 eK eL
     refine GS_r0 [(67, sl aY t.Hi aZ), (68, I aA)] (.pointer (some dB)) rfl rfl (fun _ h => h) (fun _ _ => ex_index rfl rfl rfl (eM _)) ?_
     obtain ⟨gV, eP, eQ⟩ := run_loadAt ti_22 ag_22 eN eO
     have dC := eQ.slice
     obtain ⟨dD, dE, rfl⟩ := dC.shape
     have dF := (((((cF.ext xc).but X45 bX).but X74 c3).but X102 (Mj aP c3 (c2.but X45 bX))).ext bA)
     refine GS_r1 [(69, .pointer (some dB))] (sl dD b2 dE) rfl rfl (fun _ h => h) (fun _ w e => ex_load rfl rfl (eP w e)) dF ?_
     refine GS_ev ok [(13, I aB)] (I aB) rfl rfl (fun _ h => h) (fun _ => rfl) ?_
     obtain ⟨aT, eR, eS, H⟩ := H
     obtain ⟨dG, gW, eT, eU, eV⟩ := run_indexAt Try.underlying22 ti_3 dC .i64 _ aT eR eS
     refine GS_r0 [(70, sl dD b2 dE), (71, I aB)] (.pointer (some dG)) rfl rfl (fun _ h => h) (fun _ _ => ex_index rfl rfl rfl (eT _)) ?_
     obtain ⟨gX, eW, eX⟩ := run_loadAt ti_3 ag_3 eU eV
     obtain rfl := eX.int
     refine GS_r1 [(72, .pointer (some dG))] (I aT) rfl rfl (fun _ h => h) (fun _ w e => ex_load rfl rfl (eW w e)) dF ?_
     refine GS_ev ok [(14, I aE)] (I aE) rfl rfl (fun _ h => h) (fun _ => rfl) ?_
     refine GS_ev ok [(73, I aT), (74, I aE)] (I (wr (aT - aE))) rfl rfl (fun _ h => h) (fun _ => rfl) ?_
     intro gY bD ρ eY
     refine AP_forget [(2, I fixed), (3, pb b), (7, I (ln t.Rows)), (8, I (ln t.Cols)), (9, .slice aC (List.length (List.replicate (Int.toNat (wr ((ln t.Rows) + (ln t.Cols)))) (([] : List Int)))) aD), (11, I aA), (13, I aB), (14, I aE), (38, sl aK x aL), (39, I (ln x)), (40, I aA), (45, sl aQ aF aR), (46, I (ln aF)), (47, I aB), (62, sl bB aS bC), (65, I (wr ((ln t.Rows) + aB))), (75, I (wr (aT - aE)))] (by exact eY) fun ρ => ?_
     refine AP_tail 17 [[], [], [0, 1], [0, 1, 2], [], [], [4, 5], [], [7], [], [7, 8, 9], [7, 8, 9, 10], [], [7, 8, 9, 10, 11, 12], [7, 8, 9, 10, 11, 12, 13], [], [7, 8, 9, 10, 11, 12, 13, 14, 15], [0, 1, 2, 3, 4, 5, 6, 7, 8, 9, 10, 11, 12, 13, 14, 15, 16], [0, 1, 2, 3, 4, 5, 6, 7, 8, 9, 10, 11, 12, 13, 14, 15, 16, 17]] (by kernel_rfl) ?_
     obtain ⟨eZ, e0, H⟩ := H
     refine LP_indexw (v := sl bB aS bC) 17 rfl rfl rfl Try.underlying22 ti_3 rfl rfl eJ eZ e0 fun gZ e1 => (LP_set 18 rfl rfl rfl rfl rfl e1 (Le.refl emp) ⟨_, rfl, rfl⟩ (eI.ext bD) fun g0 g1 e2 e3 dH e4 => ?_)
     obtain ⟨g2, e5, dd⟩ := BwL.turn bw (OS.od e2) (Dom.of e4)
     have e6 := BwL.sub bw (b1.ext bD) e3 dH
     have bE := BwL.but bw dH
     refine Ln _ rfl ?_
     refine W_open mix fun g3 bF => ?_
     refine AP_game 17 [[], [], [], [1, 2], [0, 1, 2, 3], [0, 1, 2, 3, 4], [], [], [], [8], [], [8, 9, 10], [8, 9, 10, 11], [], [8, 9, 10, 11, 12, 13], [8, 9, 10, 11, 12, 13, 14], [7, 8, 9, 10, 11, 12, 13, 14, 15], [0, 1, 2, 3, 4, 5, 6, 7, 8, 9, 10, 11, 12, 13, 14, 15, 16], [0, 1, 2, 3, 4, 5, 6, 7, 8, 9, 10, 11, 12, 13, 14, 15, 16, 17]] [[(9, none)], [(7, none)], [(13, none)], [(78, some 1), (79, some 2)], [(77, some 0), (80, some 3)], [(81, some 4)], [(11, none)], [(14, none)], [(3, none)], [(85, some 8)], [(11, none)], [(86, some 9), (87, some 10)], [(88, some 11)], [(13, none)], [(89, some 12), (90, some 13)], [(91, some 14)], [(84, some 7), (92, some 15)]] [(2, none), (3, none), (7, none), (8, none), (9, none), (11, none), (38, none), (39, none), (40, none), (45, none), (46, none), (47, none), (82, some 5), (83, some 6), (93, some 16)] [(0, false), (1, false), (2, false), (3, false), (4, false), (5, false), (6, false), (7, false), (8, false), (9, false), (10, false), (11, false), (12, false), (13, false), (14, false), (15, false), (16, false)] (by kernel_rfl) (by kernel_rfl) ?_
     refine GS_ev ok [(9, .slice aC (List.length (List.replicate (Int.toNat (wr ((ln t.Rows) + (ln t.Cols)))) (([] : List Int)))) aD)] (.slice aC (List.length (List.replicate (Int.toNat (wr ((ln t.Rows) + (ln t.Cols)))) (([] : List Int)))) aD) rfl rfl (fun _ h => h) (fun _ => rfl) ?_
     refine GS_ev ok [(7, I (ln t.Rows))] (I (ln t.Rows)) rfl rfl (fun _ h => h) (fun _ => rfl) ?_
     refine GS_ev ok [(13, I aB)] (I aB) rfl rfl (fun _ h => h) (fun _ => rfl) ?_
     refine GS_ev ok [(78, I (ln t.Rows)), (79, I aB)] (I (wr ((ln t.Rows) + aB))) rfl rfl (fun _ h => h) (fun _ => rfl) ?_
     obtain ⟨aU, e7, e8, H⟩ := H
     obtain ⟨dI, g4, e9, fA, fB, fC, a3⟩ := run_indexb Try.underlying23 ti_22 e5 _ e7 e8
     refine GS_r0 [(77, .slice aC (List.length (List.replicate (Int.toNat (wr ((ln t.Rows) + (ln t.Cols)))) (([] : List Int)))) aD), (80, I (wr ((ln t.Rows) + aB)))] (.pointer (some dI)) rfl rfl (fun _ h => h) (fun _ _ => ex_index rfl rfl rfl (fB _)) ?_
     have dJ := a3.od
     obtain ⟨bG, bH, rfl⟩ := dJ.shape
     have b3 := (e6.ext bF)
     have fD := Sub.le b3 a3.le
     have fE : OS 3 e9 emp (sl bG aU bH) aU := OD.flat dJ
     refine GS_r1 [(81, .pointer (some dI))] (sl bG aU bH) rfl rfl (fun _ h => h) (fun _ w e => ex_ldcell rfl ti_22 ag_22 rfl fC e) b3 ?_
     refine GS_ev ok [(11, I aA)] (I aA) rfl rfl (fun _ h => h) (fun _ => rfl) ?_
     refine GS_ev ok [(14, I aE)] (I aE) rfl rfl (fun _ h => h) (fun _ => rfl) ?_
     refine GS_ev ok [(3, pb b)] (.pointer (some ⟨b, 2, none⟩)) rfl rfl (fun _ h => h) (fun _ => rfl) ?_
     refine GS_r1 [(85, .pointer (some ⟨b, 2, none⟩))] (sl aW t.Lo aX) rfl rfl (fun _ h => h) (fun _ w e => ex_ldbox rfl ti_23 ag_23 (fun _ => rfl) rfl e rfl rfl) (((dA.ext bD).but bE (Mj a9 c7 (c6.but X74 bZ))).ext bF) ?_
     refine GS_ev ok [(11, I aA)] (I aA) rfl rfl (fun _ h => h) (fun _ => rfl) ?_
     obtain ⟨b4, fF, fG, H⟩ := H
     obtain ⟨dK, g5, fH, fI, fJ⟩ := run_indexAt Try.underlying23 ti_22 cA .i64 _ b4 fF fG
     refine GS_r0 [(86, sl aW t.Lo aX), (87, I aA)] (.pointer (some dK)) rfl rfl (fun _ h => h) (fun _ _ => ex_index rfl rfl rfl (fH _)) ?_
     obtain ⟨g6, fK, fL⟩ := run_loadAt ti_22 ag_22 fI fJ
     have dL := fL.slice
     obtain ⟨dM, dN, rfl⟩ := dL.shape
     have a4 := (bA.trans bD)
     have dO := (((((((cB.ext xc).but X45 bV).but X74 bW).but X102 c0).ext a4).but bE (Mj a9 c0 (cZ.but X74 bW))).ext bF)
     refine GS_r1 [(88, .pointer (some dK))] (sl dM b4 dN) rfl rfl (fun _ h => h) (fun _ w e => ex_load rfl rfl (fK w e)) dO ?_
     refine GS_ev ok [(13, I aB)] (I aB) rfl rfl (fun _ h => h) (fun _ => rfl) ?_
     obtain ⟨aV, fM, fN, H⟩ := H
     obtain ⟨dP, g7, fO, fP, fQ⟩ := run_indexAt Try.underlying22 ti_3 dL .i64 _ aV fM fN
     refine GS_r0 [(89, sl dM b4 dN), (90, I aB)] (.pointer (some dP)) rfl rfl (fun _ h => h) (fun _ _ => ex_index rfl rfl rfl (fO _)) ?_
     obtain ⟨g8, fR, fS⟩ := run_loadAt ti_3 ag_3 fP fQ
     obtain rfl := fS.int
     refine GS_r1 [(91, .pointer (some dP))] (I aV) rfl rfl (fun _ h => h) (fun _ w e => ex_load rfl rfl (fR w e)) dO ?_
     refine GS_ev ok [(84, I aE), (92, I aV)] (I (wr (aE - aV))) rfl rfl (fun _ h => h) (fun _ => rfl) ?_
     intro g9 b5 ρ fT
     refine AP_forget [(2, I fixed), (3, pb b), (7, I (ln t.Rows)), (8, I (ln t.Cols)), (9, .slice aC (List.length (List.replicate (Int.toNat (wr ((ln t.Rows) + (ln t.Cols)))) (([] : List Int)))) aD), (11, I aA), (38, sl aK x aL), (39, I (ln x)), (40, I aA), (45, sl aQ aF aR), (46, I (ln aF)), (47, I aB), (82, sl bG aU bH), (83, I aA), (93, I (wr (aE - aV)))] (by exact fT) fun ρ => ?_
     refine AP_tail 17 [[], [], [], [1, 2], [0, 1, 2, 3], [0, 1, 2, 3, 4], [], [], [], [8], [], [8, 9, 10], [8, 9, 10, 11], [], [8, 9, 10, 11, 12, 13], [8, 9, 10, 11, 12, 13, 14], [7, 8, 9, 10, 11, 12, 13, 14, 15], [0, 1, 2, 3, 4, 5, 6, 7, 8, 9, 10, 11, 12, 13, 14, 15, 16], [0, 1, 2, 3, 4, 5, 6, 7, 8, 9, 10, 11, 12, 13, 14, 15, 16, 17]] (by kernel_rfl) ?_
     obtain ⟨fU, fV, H⟩ := H
     refine LP_indexw (v := sl bG aU bH) 17 rfl rfl rfl Try.underlying22 ti_3 rfl rfl fE fU fV fun hA fW => (LP_set 18 rfl rfl rfl rfl rfl fW (Le.refl emp) ⟨_, rfl, rfl⟩ (fD.ext b5) fun fX hB fY fZ dQ f0 => ?_)
     obtain ⟨hC, f1, f2⟩ := BwL.turn a3 (OS.od fY) (Dom.of f0)
     have f3 := BwL.sub a3 (b3.ext b5) fZ dQ
     have f4 := BwL.but a3 dQ
     refine Ln _ rfl ?_
     have dR := (bF.trans b5)
     exact ⟨List.set (List.set a8 (Int.toNat aA) (List.set aS (Int.toNat (wr ((ln t.Rows) + aB))) (wr (aT - aE)))) (Int.toNat (wr ((ln t.Rows) + aB))) (List.set aU (Int.toNat aA) (wr (aE - aV))), H, _, (un fX fA), Ee ⟨rfl, rfl, rfl, rfl, rfl, rfl, rfl, rfl, rfl, rfl, rfl, rfl, trivial⟩, (((((Br aJ _).stepx a4).step bE (Oe (Or _) _)).stepx dR).step f4 (Mt (Oe (Or _) _) ((fun n => Oe dd n) _) a4.size)), f1, f3, (Mt (Mt (Oe (Or _) _) ((fun n => Oe dd n) _) a4.size) ((fun n => Oe f2 n) _) (Nat.le_trans (Nat.le_trans a4.size bE.size) dR.size))⟩
    have H := H.2 b0
    exact Wk ⟨a8, H, _, aJ, Ee ⟨rfl, rfl, rfl, rfl, rfl, rfl, rfl, rfl, rfl, rfl, rfl, rfl, trivial⟩, (Br _ _), bS, bT, (Oe (Or _) _)⟩
   rintro f5 _ hD ⟨H, ρ, a2, rfl, X167, f6, f7, f8⟩
   subst hk
   refine Wg (Lv ok 0 [(95, I (wr (aB + 1))), (47, I (wr (aB + 1)))] 2 rfl rfl (Ln _ rfl ?_))
   have dS : DomLe aI bO.heap.size aJ := (Mt (Oe (Or _) _) a9 (Nat.le_refl _))
   exact ⟨(f5, wr (aB + 1)), ⟨H.1, _, a2, Ee ⟨rfl, rfl, rfl, rfl, rfl, rfl, rfl, rfl, rfl, rfl, rfl, rfl, trivial⟩, (((Br aI _).step X102 (Oe (Or _) _)).step X167 dS), f6, f7, (Mt dS f8 X102.size)⟩, H.2⟩
  have H := H.2 bU
  refine W_exit ?_
  refine (if_pos rfl).mpr ?_
  refine Wg (Lv ok 0 [(96, I (wr (aA + 1))), (40, I (wr (aA + 1)))] 2 rfl rfl (Ln _ rfl ?_))
  have dT : DomLe aG bM.heap.size aI := (Mt (Oe (Or _) _) aP (Nat.le_refl _))
  exact ⟨(a8, wr (aA + 1)), ⟨H.1, _, aJ, Ee ⟨rfl, rfl, rfl, rfl, rfl, rfl, rfl, rfl, trivial⟩, (((Br aG _).step X74 (Oe (Or _) _)).step X102 dT), bS, bT, (Mt dT a9 X74.size)⟩, H.2⟩
 have H := H.2 bP
 refine W_exit ?_
 refine (if_pos rfl).mpr ?_
 refine Wq (Wg (Lv ok 0 [(97, .slice aC (List.length (List.replicate (Int.toNat (wr ((ln t.Rows) + (ln t.Cols)))) (([] : List Int)))) aD), (6, .slice aC (List.length (List.replicate (Int.toNat (wr ((ln t.Rows) + (ln t.Cols)))) (([] : List Int)))) aD)] 2 rfl rfl (Ln _ rfl (W_ret ?_))))
 have X318 := (X.stepx (bJ.trans a0))
 have f9 := aO.mono X318.size
 have X320 := (X318.stepx aM)
 have dU := DomLe.fresh aN f9 X320.size
 have gA := aO.mono X318.size
 have X323 := (X320.step X45 (gA.dom _))
 have gB := DomLe.fresh aP dU X323.size
 exact ⟨_, Ret_of [.slice aC (List.length (List.replicate (Int.toNat (wr ((ln t.Rows) + (ln t.Cols)))) (([] : List Int)))) aD] ⟨⟨rfl, rfl⟩, trivial⟩, _, _, _, H, rfl, (X323.step X74 (dU.dom _)).ext, cR, cS, gB⟩

theorem impl_rowSums_w (x : List (List Int)) (Q : (List Int) → Prop) (H : impl_rowSums x Q) (w : World) {vx : Value} {hx : PH} (r : RS hx vx x) (ex : Sub hx w) :
  CallsTo Try.prog 65 #[vx] w fun v w' => ∃ aT aU aJ, Q aT ∧ v = aU ∧ Ext w w' ∧ OS 3 aJ emp aU aT ∧ Sub aJ w' ∧ Fresh w.heap.size aJ := by
 obtain ⟨a, c, rfl⟩ := r.shape
 refine enter (args := [sl a x c]) 34 Try.func65 rfl rfl rfl ?_
 refine Wo [(0, sl a x c)] ⟨rfl, trivial⟩ fun ρ => ?_
 have X := Br emp w
 refine Wq (Wg (Lv ok 0 [(2, .slice none 0 0)] 1 rfl rfl (Ln _ rfl (Wq (Wg (Lv ok 0 [(8, sl a x c), (9, I (ln x))] 2 rfl rfl ?_))))))
 obtain ⟨hn, hb, H⟩ := H
 refine LP_make (α := Int) 2 rfl rfl rfl Try.underlying22 ti_3 (x0 := (0 : Int)) rfl rfl hn (by first | omega | (simp only [ln] at *; omega)) (by first | omega | (simp only [ln] at *; omega)) fun aH bN wx aK o a3 f => ?_
 obtain ⟨aB, aC, rfl⟩ := o.shape
 refine Lv ok 3 [(3, .slice aB (List.length (List.replicate (Int.toNat (ln x)) ((0 : Int)))) aC)] 4 rfl rfl (Ln _ rfl (Wq (Wq (Wg (Lv ok 0 [(11, sl a x c), (12, I (ln x)), (13, I 0)] 3 rfl rfl (Ln _ rfl (W_block ?_)))))))
 obtain ⟨J, m, Hx, H⟩ := H
 refine W_loop (S := (List Int) × Int) (fun s ρ' w' => J s.1 s.2 ∧ ∃ (ρ : Env) (aD : PH), ρ' = setAll [(3, .slice aB (List.length (List.replicate (Int.toNat (ln x)) ((0 : Int)))) aC), (11, sl a x c), (12, I (ln x)), (13, I s.2)] ρ ∧ But aH wx w' ∧ OS 3 aD emp (.slice aB (List.length (List.replicate (Int.toNat (ln x)) ((0 : Int)))) aC) s.1 ∧ Sub aD w' ∧ DomLe aH wx.heap.size aD) (fun s => m s.1 s.2) (List.replicate (Int.toNat (ln x)) ((0 : Int)), 0) ⟨Hx, _, aH, Ee ⟨rfl, rfl, rfl, rfl, trivial⟩, (Br _ _), o, a3, (Oe (Or _) _)⟩ ?_
 rintro ⟨sums, aA⟩ _ aL ⟨Hi, ρ, aD, rfl, X14, aV, aW, aM⟩
 have H := H sums aA Hi
 refine Wq (Wg (Lv ok 0 [(14, .bool (decide (aA < (ln x))))] 1 rfl rfl (Ln _ rfl (Wq ?_))))
 refine Wc (decide (aA < (ln x))) rfl (fun hc => ?_) (fun hc => ?_)
 ·have H := H.1 hc
  refine Wk (Wq (W_block (Wq (Wg (Lv ok 0 [(15, I aA)] 1 rfl rfl ?_)))))
  obtain ⟨aE, hi, a4, H⟩ := H
  refine Li 1 rfl rfl rfl Try.underlying23 ti_22 rfl rfl r hi a4 fun bO cs a5 d => ?_
  have aX := ((ex.ext aK).but X14 (Df ex f).symm)
  refine Lo 2 rfl rfl rfl ti_22 ag_22 rfl a5 d aX fun bP a6 => ?_
  have aY := a6.slice
  obtain ⟨aN, aO, rfl⟩ := aY.shape
  refine Lv ok 3 [(4, I aA), (5, sl aN aE aO)] 5 rfl rfl (Ln _ rfl (Wq (Wg (Lv ok 0 [(18, sl aN aE aO), (19, I (ln aE)), (20, I 0)] 3 rfl rfl (Ln _ rfl (W_block ?_))))))
  obtain ⟨J34, a7, Hx36, H⟩ := H
  refine W_loop (S := (List Int) × Int) (fun s ρ' w' => J34 s.1 s.2 ∧ ∃ (ρ : Env) (aF : PH), ρ' = setAll [(3, .slice aB (List.length (List.replicate (Int.toNat (ln x)) ((0 : Int)))) aC), (4, I aA), (11, sl a x c), (12, I (ln x)), (13, I aA), (18, sl aN aE aO), (19, I (ln aE)), (20, I s.2)] ρ ∧ But aD aL w' ∧ OS 3 aF emp (.slice aB (List.length (List.replicate (Int.toNat (ln x)) ((0 : Int)))) aC) s.1 ∧ Sub aF w' ∧ DomLe aD aL.heap.size aF) (fun s => a7 s.1 s.2) (sums, 0) ⟨Hx36, _, aD, Ee ⟨rfl, rfl, rfl, rfl, rfl, rfl, rfl, rfl, trivial⟩, (Br _ _), aV, aW, (Oe (Or _) _)⟩ ?_
  rintro ⟨aP, aG⟩ _ bQ ⟨Hi, ρ, aF, rfl, X33, aQ, aR, aZ⟩
  have H := H aP aG Hi
  refine Wq (Wg (Lv ok 0 [(21, .bool (decide (aG < (ln aE))))] 1 rfl rfl (Ln _ rfl (Wq ?_))))
  refine Wc (decide (aG < (ln aE))) rfl (fun aS => ?_) (fun aS => ?_)
  ·have H := H.1 aS
   refine Wk (Wq (W_block (Wq (Wg ?_))))
   obtain ⟨aI, a8, a9, H⟩ := H
   refine Li 0 rfl rfl rfl Try.underlying22 ti_3 rfl rfl aY a8 a9 fun bR bS bA bB => ?_
   have dj := (Mj aM (Df ex f).symm (ex.ext aK))
   refine Lo 1 rfl rfl rfl ti_3 ag_3 rfl bA bB (aX.but X33 dj) fun bT bC => ?_
   obtain rfl := bC.int
   refine Lv ok 2 [(7, I aI)] 3 rfl rfl (Ln _ rfl (Wg (Lv ok 0 [(24, .slice aB (List.length (List.replicate (Int.toNat (ln x)) ((0 : Int)))) aC), (25, I aA)] 2 rfl rfl ?_)))
   obtain ⟨a0, bD, bE, H⟩ := H
   refine Li 2 rfl rfl rfl Try.underlying22 ti_3 rfl rfl aQ.readf bD bE fun bU bV bF bG => (Lo 3 rfl rfl rfl ti_3 ag_3 rfl bF bG aR fun bW bH => ?_)
   obtain rfl := bH.int
   refine Lv ok 4 [(28, I aI), (29, I (wr (a0 + aI)))] 6 rfl rfl ?_
   obtain ⟨bI, hl, H⟩ := H
   refine LP_indexw (v := .slice aB (List.length (List.replicate (Int.toNat (ln x)) ((0 : Int)))) aC) 6 rfl rfl rfl Try.underlying22 ti_3 rfl rfl aQ bI hl fun bX wa => (LP_set 7 rfl rfl rfl rfl rfl wa (Le.refl emp) ⟨_, rfl, rfl⟩ aR fun bJ bY bK bL y dm => (Ln _ rfl (Wg (Lv ok 0 [(31, I (wr (aG + 1))), (20, I (wr (aG + 1)))] 2 rfl rfl (Ln _ rfl ?_)))))
   have dl : DomLe aD aL.heap.size aF := (Mt (Oe (Or _) _) aZ (Nat.le_refl _))
   exact ⟨(List.set aP (Int.toNat aA) (wr (a0 + aI)), wr (aG + 1)), ⟨H.1, _, bJ, Ee ⟨rfl, rfl, rfl, rfl, rfl, rfl, rfl, rfl, trivial⟩, (((Br aD _).step X33 (Oe (Or _) _)).step y dl), bK, bL, (Mt dl (dm _) X33.size)⟩, H.2⟩
  have H := H.2 aS
  refine W_exit ?_
  refine (if_pos rfl).mpr ?_
  refine Wg (Lv ok 0 [(32, I (wr (aA + 1))), (13, I (wr (aA + 1)))] 2 rfl rfl (Ln _ rfl ?_))
  have a1 : DomLe aH wx.heap.size aD := (Mt (Oe (Or _) _) aM (Nat.le_refl _))
  exact ⟨(aP, wr (aA + 1)), ⟨H.1, _, aF, Ee ⟨rfl, rfl, rfl, rfl, trivial⟩, (((Br aH _).step X14 (Oe (Or _) _)).step X33 a1), aQ, aR, (Mt a1 aZ X14.size)⟩, H.2⟩
 have H := H.2 hc
 refine W_exit ?_
 refine (if_pos rfl).mpr ?_
 refine Wq (Wg (Lv ok 0 [(33, .slice aB (List.length (List.replicate (Int.toNat (ln x)) ((0 : Int)))) aC), (2, .slice aB (List.length (List.replicate (Int.toNat (ln x)) ((0 : Int)))) aC)] 2 rfl rfl (Ln _ rfl (W_ret ?_))))
 have a2 := f.mono X.size
 have X70 := (X.stepx aK)
 have bM := DomLe.fresh aM a2 X70.size
 exact ⟨_, Ret_of [.slice aB (List.length (List.replicate (Int.toNat (ln x)) ((0 : Int)))) aC] ⟨⟨rfl, rfl⟩, trivial⟩, _, _, _, H, rfl, (X70.step X14 (a2.dom _)).ext, aV, aW, bM⟩

theorem impl_colSums_w (x : List (List Int)) (Q : (List Int) → Prop) (H : impl_colSums x Q) (w : World) {vx : Value} {hx : PH} (r : RS hx vx x) (ex : Sub hx w) :
  CallsTo Try.prog 78 #[vx] w fun v w' => ∃ aU aV aK, Q aU ∧ v = aV ∧ Ext w w' ∧ OS 3 aK emp aV aU ∧ Sub aK w' ∧ Fresh w.heap.size aK := by
 obtain ⟨a, c, rfl⟩ := r.shape
 refine enter (args := [sl a x c]) 36 Try.func78 rfl rfl rfl ?_
 refine Wo [(0, sl a x c)] ⟨rfl, trivial⟩ fun ρ => ?_
 have X := Br emp w
 refine Wq (Wg (Lv ok 0 [(2, .slice none 0 0)] 1 rfl rfl (Ln _ rfl (Wq (Wg (Lv ok 0 [(8, sl a x c)] 1 rfl rfl ?_))))))
 obtain ⟨aA, hi, a4, H⟩ := H
 refine Li 1 rfl rfl rfl Try.underlying23 ti_22 rfl rfl r hi a4 fun bU cs a5 d => (Lo 2 rfl rfl rfl ti_22 ag_22 rfl a5 d ex fun bV a6 => ?_)
 have a7 := a6.slice
 obtain ⟨bW, bX, rfl⟩ := a7.shape
 refine Lv ok 3 [(11, I (ln aA))] 4 rfl rfl ?_
 obtain ⟨hn, hb, H⟩ := H
 refine LP_make (α := Int) 4 rfl rfl rfl Try.underlying22 ti_3 (x0 := (0 : Int)) rfl rfl hn (by first | omega | (simp only [ln] at *; omega)) (by first | omega | (simp only [ln] at *; omega)) fun aI bY wx aL o a8 f => ?_
 obtain ⟨aB, aC, rfl⟩ := o.shape
 refine Lv ok 5 [(3, .slice aB (List.length (List.replicate (Int.toNat (ln aA)) ((0 : Int)))) aC)] 6 rfl rfl (Ln _ rfl (Wq (Wq (Wg (Lv ok 0 [(13, sl a x c), (14, I (ln x)), (15, I 0)] 3 rfl rfl (Ln _ rfl (W_block ?_)))))))
 obtain ⟨J, m, Hx, H⟩ := H
 refine W_loop (S := (List Int) × Int) (fun s ρ' w' => J s.1 s.2 ∧ ∃ (ρ : Env) (aD : PH), ρ' = setAll [(3, .slice aB (List.length (List.replicate (Int.toNat (ln aA)) ((0 : Int)))) aC), (13, sl a x c), (14, I (ln x)), (15, I s.2)] ρ ∧ But aI wx w' ∧ OS 3 aD emp (.slice aB (List.length (List.replicate (Int.toNat (ln aA)) ((0 : Int)))) aC) s.1 ∧ Sub aD w' ∧ DomLe aI wx.heap.size aD) (fun s => m s.1 s.2) (List.replicate (Int.toNat (ln aA)) ((0 : Int)), 0) ⟨Hx, _, aI, Ee ⟨rfl, rfl, rfl, rfl, trivial⟩, (Br _ _), o, a8, (Oe (Or _) _)⟩ ?_
 rintro ⟨sums, aF⟩ _ aM ⟨Hi, ρ, aD, rfl, X23, aW, aX, aN⟩
 have H := H sums aF Hi
 refine Wq (Wg (Lv ok 0 [(16, .bool (decide (aF < (ln x))))] 1 rfl rfl (Ln _ rfl (Wq ?_))))
 refine Wc (decide (aF < (ln x))) rfl (fun hc => ?_) (fun hc => ?_)
 ·have H := H.1 hc
  refine Wk (Wq (W_block (Wq (Wg ?_))))
  obtain ⟨aG, a9, bA, H⟩ := H
  refine Li 0 rfl rfl rfl Try.underlying23 ti_22 rfl rfl r a9 bA fun bZ b0 bB bC => ?_
  have aY := ((ex.ext aL).but X23 (Df ex f).symm)
  refine Lo 1 rfl rfl rfl ti_22 ag_22 rfl bB bC aY fun b1 bD => ?_
  have aZ := bD.slice
  obtain ⟨aO, aP, rfl⟩ := aZ.shape
  refine Lv ok 2 [(5, sl aO aG aP)] 3 rfl rfl (Ln _ rfl (Wq (Wg (Lv ok 0 [(19, sl aO aG aP), (20, I (ln aG)), (21, I 0)] 3 rfl rfl (Ln _ rfl (W_block ?_))))))
  obtain ⟨J46, bE, Hx48, H⟩ := H
  refine W_loop (S := (List Int) × Int) (fun s ρ' w' => J46 s.1 s.2 ∧ ∃ (ρ : Env) (aH : PH), ρ' = setAll [(3, .slice aB (List.length (List.replicate (Int.toNat (ln aA)) ((0 : Int)))) aC), (13, sl a x c), (14, I (ln x)), (15, I aF), (19, sl aO aG aP), (20, I (ln aG)), (21, I s.2)] ρ ∧ But aD aM w' ∧ OS 3 aH emp (.slice aB (List.length (List.replicate (Int.toNat (ln aA)) ((0 : Int)))) aC) s.1 ∧ Sub aH w' ∧ DomLe aD aM.heap.size aH) (fun s => bE s.1 s.2) (sums, 0) ⟨Hx48, _, aD, Ee ⟨rfl, rfl, rfl, rfl, rfl, rfl, rfl, trivial⟩, (Br _ _), aW, aX, (Oe (Or _) _)⟩ ?_
  rintro ⟨aQ, aE⟩ _ b2 ⟨Hi, ρ, aH, rfl, X45, aR, aS, a0⟩
  have H := H aQ aE Hi
  refine Wq (Wg (Lv ok 0 [(22, .bool (decide (aE < (ln aG))))] 1 rfl rfl (Ln _ rfl (Wq ?_))))
  refine Wc (decide (aE < (ln aG))) rfl (fun aT => ?_) (fun aT => ?_)
  ·have H := H.1 aT
   refine Wk (Wq (W_block (Wq (Wg (Lv ok 0 [(23, I aE)] 1 rfl rfl ?_)))))
   obtain ⟨aJ, bF, bG, H⟩ := H
   refine Li 1 rfl rfl rfl Try.underlying22 ti_3 rfl rfl aZ bF bG fun b3 b4 bH bI => ?_
   have dj := (Mj aN (Df ex f).symm (ex.ext aL))
   refine Lo 2 rfl rfl rfl ti_3 ag_3 rfl bH bI (aY.but X45 dj) fun b5 bJ => ?_
   obtain rfl := bJ.int
   refine Lv ok 3 [(6, I aE), (7, I aJ)] 5 rfl rfl (Ln _ rfl (Wg (Lv ok 0 [(26, .slice aB (List.length (List.replicate (Int.toNat (ln aA)) ((0 : Int)))) aC), (27, I aE)] 2 rfl rfl ?_)))
   obtain ⟨a1, bK, bL, H⟩ := H
   refine Li 2 rfl rfl rfl Try.underlying22 ti_3 rfl rfl aR.readf bK bL fun b6 b7 bM bN => (Lo 3 rfl rfl rfl ti_3 ag_3 rfl bM bN aS fun b8 bO => ?_)
   obtain rfl := bO.int
   refine Lv ok 4 [(30, I aJ), (31, I (wr (a1 + aJ)))] 6 rfl rfl ?_
   obtain ⟨bP, hl, H⟩ := H
   refine LP_indexw (v := .slice aB (List.length (List.replicate (Int.toNat (ln aA)) ((0 : Int)))) aC) 6 rfl rfl rfl Try.underlying22 ti_3 rfl rfl aR bP hl fun b9 wa => (LP_set 7 rfl rfl rfl rfl rfl wa (Le.refl emp) ⟨_, rfl, rfl⟩ aS fun bQ cA bR bS y dm => (Ln _ rfl (Wg (Lv ok 0 [(33, I (wr (aE + 1))), (21, I (wr (aE + 1)))] 2 rfl rfl (Ln _ rfl ?_)))))
   have dl : DomLe aD aM.heap.size aH := (Mt (Oe (Or _) _) a0 (Nat.le_refl _))
   exact ⟨(List.set aQ (Int.toNat aE) (wr (a1 + aJ)), wr (aE + 1)), ⟨H.1, _, bQ, Ee ⟨rfl, rfl, rfl, rfl, rfl, rfl, rfl, trivial⟩, (((Br aD _).step X45 (Oe (Or _) _)).step y dl), bR, bS, (Mt dl (dm _) X45.size)⟩, H.2⟩
  have H := H.2 aT
  refine W_exit ?_
  refine (if_pos rfl).mpr ?_
  refine Wg (Lv ok 0 [(34, I (wr (aF + 1))), (15, I (wr (aF + 1)))] 2 rfl rfl (Ln _ rfl ?_))
  have a2 : DomLe aI wx.heap.size aD := (Mt (Oe (Or _) _) aN (Nat.le_refl _))
  exact ⟨(aQ, wr (aF + 1)), ⟨H.1, _, aH, Ee ⟨rfl, rfl, rfl, rfl, trivial⟩, (((Br aI _).step X23 (Oe (Or _) _)).step X45 a2), aR, aS, (Mt a2 a0 X23.size)⟩, H.2⟩
 have H := H.2 hc
 refine W_exit ?_
 refine (if_pos rfl).mpr ?_
 refine Wq (Wg (Lv ok 0 [(35, .slice aB (List.length (List.replicate (Int.toNat (ln aA)) ((0 : Int)))) aC), (2, .slice aB (List.length (List.replicate (Int.toNat (ln aA)) ((0 : Int)))) aC)] 2 rfl rfl (Ln _ rfl (W_ret ?_))))
 have a3 := f.mono X.size
 have X82 := (X.stepx aL)
 have bT := DomLe.fresh aN a3 X82.size
 exact ⟨_, Ret_of [.slice aB (List.length (List.replicate (Int.toNat (ln aA)) ((0 : Int)))) aC] ⟨⟨rfl, rfl⟩, trivial⟩, _, _, _, H, rfl, (X82.step X23 (a3.dom _)).ext, aW, aX, bT⟩

theorem impl_push_w (r : List (List Int)) (fromx : Int) (to : Int) (limit : Int) (Q : Int → (List (List Int)) → Prop) (H : impl_push r fromx to limit Q) (w : World) {vx : Value} {hx : PH} (cV : OD hx vx r) (ex : Sub hx w) :
  CallsTo Try.prog 90 #[vx, I fromx, I to, I limit] w fun v w' => ∃ cW cX bW, Q cW cX ∧ v = I cW ∧ But hx w w' ∧ OD bW vx cX ∧ Sub bW w' ∧ (∀ n, DomLe hx n bW) := by
 obtain ⟨a, c, rfl⟩ := cV.shape
 refine enter (args := [sl a r c, I fromx, I to, I limit]) 149 Try.func90 rfl rfl rfl ?_
 refine Wo [(0, sl a r c), (1, I fromx), (2, I to), (3, I limit)] ⟨rfl, rfl, rfl, rfl, trivial⟩ fun ρ => ?_
 have D : Dom hx hx := (Or _)
 have X := Br hx w
 refine Wq (Wg (Lv ok 0 [(8, I 0)] 1 rfl rfl (Ln _ rfl (Wq (Wg (Lv ok 0 [(9, I 0)] 1 rfl rfl (Ln _ rfl ?_)))))))
 obtain ⟨k, hk, H⟩ := jn_elim H
 refine W_join2 (S := Int × (List (List Int))) (fun s ρ' w' => k s.1 s.2 ∧ ∃ (ρ : Env) (bA : PH), ρ' = setAll [(9, I s.1)] ρ ∧ But hx w w' ∧ OD bA (sl a r c) s.2 ∧ Sub bA w' ∧ (∀ n, DomLe hx n bA)) ?_ ?_
 ·refine W_block ?_
  obtain ⟨J, m, Hx, H⟩ := H
  refine W_loop (S := (List (List Int)) × Int) (fun s ρ' w' => J s.1 s.2 ∧ ∃ (ρ : Env) (aF : PH), ρ' = setAll [(0, sl a r c), (1, I fromx), (2, I to), (3, I limit), (9, I s.2)] ρ ∧ But hx w w' ∧ OD aF (sl a r c) s.1 ∧ Sub aF w' ∧ (∀ n, DomLe hx n aF)) (fun s => m s.1 s.2) (r, 0) ⟨Hx, _, hx, Ee ⟨rfl, rfl, rfl, rfl, rfl, trivial⟩, (Br _ _), cV, ex, (fun _ => DomLe.refl _ _)⟩ ?_
  rintro ⟨bB, aC⟩ _ iS ⟨Hi, ρ, aF, rfl, X15, a0, bC, bD⟩
  have H := H bB aC Hi
  refine Wq (Wq (Wg (Lv ok 0 [(19, I aC), (20, I limit), (21, .bool (decide (aC < limit)))] 3 rfl rfl (Ln _ rfl ?_))))
  refine Wc (decide (aC < limit)) rfl (fun hc => ?_) (fun hc => ?_)
  ·have H := H.1 hc
   refine Wk (W_block (Wq (Wg (Lv ok 0 [(22, sl a r c), (23, I (ln r))] 2 rfl rfl ?_))))
   obtain ⟨hn, hb, H⟩ := H
   refine LP_make (α := Int) 2 rfl rfl rfl Try.underlying22 ti_3 (x0 := (0 : Int)) rfl rfl hn (by first | omega | (simp only [ln] at *; omega)) (by first | omega | (simp only [ln] at *; omega)) fun a1 iT bX x cY eL a2 => ?_
   obtain ⟨aA, aB, rfl⟩ := cY.shape
   refine Lv ok 3 [(10, .slice aA (List.length (List.replicate (Int.toNat (ln r)) ((0 : Int)))) aB)] 4 rfl rfl (Ln _ rfl (Wq (Wq (Wg (Lv ok 0 [(25, .slice aA (List.length (List.replicate (Int.toNat (ln r)) ((0 : Int)))) aB), (26, I (ln (List.replicate (Int.toNat (ln r)) ((0 : Int))))), (27, I 0)] 3 rfl rfl (Ln _ rfl (W_block ?_)))))))
   obtain ⟨J32, eM, Hx34, H⟩ := H
   refine W_loop (S := (List Int) × Int) (fun s ρ' w' => J32 s.1 s.2 ∧ ∃ (ρ : Env) (aP : PH), ρ' = setAll [(0, sl a r c), (1, I fromx), (2, I to), (3, I limit), (9, I aC), (10, .slice aA (List.length (List.replicate (Int.toNat (ln r)) ((0 : Int)))) aB), (26, I (ln (List.replicate (Int.toNat (ln r)) ((0 : Int))))), (27, I s.2)] ρ ∧ But a1 bX w' ∧ OS 3 aP emp (.slice aA (List.length (List.replicate (Int.toNat (ln r)) ((0 : Int)))) aB) s.1 ∧ Sub aP w' ∧ DomLe a1 bX.heap.size aP) (fun s => eM s.1 s.2) (List.replicate (Int.toNat (ln r)) ((0 : Int)), 0) ⟨Hx34, _, a1, Ee ⟨rfl, rfl, rfl, rfl, rfl, rfl, rfl, rfl, trivial⟩, (Br _ _), cY, eL, (Oe (Or _) _)⟩ ?_
   rintro ⟨back, aG⟩ _ iU ⟨Hi, ρ, aP, rfl, X31, cZ, c0, bE⟩
   have H := H back aG Hi
   refine Wq (Wg (Lv ok 0 [(28, .bool (decide (aG < (ln (List.replicate (Int.toNat (ln r)) ((0 : Int)))))))] 1 rfl rfl (Ln _ rfl (Wq ?_))))
   refine Wc (decide (aG < (ln (List.replicate (Int.toNat (ln r)) ((0 : Int)))))) rfl (fun bY => ?_) (fun bY => ?_)
   ·have H := H.1 bY
    refine Wk (Wq (W_block (Wq (Wg (Lv ok 0 [(29, I aG), (11, I aG)] 2 rfl rfl (Ln _ rfl (Wg ?_)))))))
    refine Lv ok 0 [(30, .slice aA (List.length (List.replicate (Int.toNat (ln r)) ((0 : Int)))) aB), (31, I aG)] 2 rfl rfl ?_
    obtain ⟨hi, hl, H⟩ := H
    refine LP_indexw (v := .slice aA (List.length (List.replicate (Int.toNat (ln r)) ((0 : Int)))) aB) 2 rfl rfl rfl Try.underlying22 ti_3 rfl rfl cZ hi hl fun iV wa => (LP_set 3 rfl rfl rfl rfl rfl wa (Le.refl emp) ⟨_, rfl, rfl⟩ c0 fun eN iW eO eP y dm => (Ln _ rfl (Wg (Lv ok 0 [(33, I (wr (aG + 1))), (27, I (wr (aG + 1)))] 2 rfl rfl (Ln _ rfl ?_)))))
    have dl : DomLe a1 bX.heap.size aP := (Mt (Oe (Or _) _) bE (Nat.le_refl _))
    exact ⟨(List.set back (Int.toNat aG) ((-1)), wr (aG + 1)), ⟨H.1, _, eN, Ee ⟨rfl, rfl, rfl, rfl, rfl, rfl, rfl, rfl, trivial⟩, (((Br a1 _).step X31 (Oe (Or _) _)).step y dl), eO, eP, (Mt dl (dm _) X31.size)⟩, H.2⟩
   have H := H.2 bY
   refine W_exit ?_
   refine (if_pos rfl).mpr ?_
   refine Wq (Wg (Lv ok 0 [(34, .slice aA (List.length (List.replicate (Int.toNat (ln r)) ((0 : Int)))) aB), (35, I fromx), (36, I fromx)] 3 rfl rfl ?_))
   obtain ⟨eQ, eR, H⟩ := H
   refine LP_indexw (v := .slice aA (List.length (List.replicate (Int.toNat (ln r)) ((0 : Int)))) aB) 3 rfl rfl rfl Try.underlying22 ti_3 rfl rfl cZ eQ eR fun iX eS => (LP_set 4 rfl rfl rfl rfl rfl eS (Le.refl emp) ⟨_, rfl, rfl⟩ c0 fun bZ iY eT c1 aV b0 => (Ln _ rfl (Wq (Wg (Lv ok 0 [(38, I fromx)] 1 rfl rfl (LP_lit (α := Int) (g := emp) 1 (vs := [I fromx]) (xs := [fromx]) rfl rfl rfl Try.underlying22 ti_3 rfl rfl ⟨⟨_, rfl, rfl⟩, trivial⟩ rfl rfl fun b1 iZ bF aW c2 eU bG => ?_))))))
   obtain ⟨c3, c4, rfl⟩ := c2.shape
   refine Lv ok 2 [(12, .slice c3 (List.length ([fromx])) c4)] 3 rfl rfl (Ln _ rfl (Wq (W_block ?_)))
   obtain ⟨U, hU⟩ : ∃ U : PH, U = (un bZ b1) := ⟨_, rfl⟩
   have D74 : Dom U bZ := Dom.eqv hU (Dom.l _ _)
   have D75 : Dom U b1 := Dom.eqv hU (Ot (Dom.r _ _) (Or _))
   have dj := (Df c1 bG).symm
   obtain ⟨J79, eV, Hx81, H⟩ := H
   refine W_loop (S := (List Int) × (List Int)) (fun s ρ' w' => J79 s.1 s.2 ∧ ∃ (ρ : Env) (aL : PH) (b2 : Value) (aM : PH), ρ' = setAll [(0, sl a r c), (1, I fromx), (2, I to), (3, I limit), (9, I aC), (10, .slice aA (List.length (List.replicate (Int.toNat (ln r)) ((0 : Int)))) aB), (12, b2)] ρ ∧ But U bF w' ∧ OS 3 aL emp (.slice aA (List.length (List.replicate (Int.toNat (ln r)) ((0 : Int)))) aB) s.1 ∧ Sub aL w' ∧ DomLe U bF.heap.size aL ∧ OT aM b2 s.2 ∧ Sub aM w' ∧ DomLe U bF.heap.size aM ∧ Dj aM aL) (fun s => eV s.1 s.2) (List.set back (Int.toNat fromx) fromx, [fromx]) ⟨Hx81, _, bZ, .slice c3 (List.length ([fromx])) c4, b1, Ee ⟨rfl, rfl, rfl, rfl, rfl, rfl, rfl, trivial⟩, (Br _ _), eT, (c1.ext aW), (Oe D74 _), (OS.ot c2), eU, (Oe D75 _), dj⟩ ?_
   rintro ⟨c5, queue⟩ _ aN ⟨Hi, ρ, aL, b2, aM, rfl, HF⟩
   revert HF
   refine bb8 fun X78 aO aQ b3 b4 c6 c7 d => ?_
   have H := H c5 queue Hi
   obtain ⟨bH, bI, rfl⟩ := b4.shape
   refine Wq ?_
   have b5 := (Df bC a2).symm
   have c8 := (bC.ext x)
   have b6 := (Mj bE b5 c8)
   have c9 := (c8.but X31 b5)
   have b7 := (c9.but aV b6)
   have eW := (Df b7 bG).symm
   have bJ := (Dl (Mj (b0 _) b6 c9) eW)
   have aX := (((((bC.ext x).but X31 b5).but aV b6).ext aW).but X78 (Dj.eqv hU bJ))
   obtain ⟨eX, eY, H⟩ := jn_elim H
   refine W_join2 (S := Bool) (fun s ρ' w' => eX s ∧ ∃ (ρ : Env), ρ' = setAll [(0, sl a r c), (1, I fromx), (2, I to), (3, I limit), (9, I aC), (10, .slice aA (List.length (List.replicate (Int.toNat (ln r)) ((0 : Int)))) aB), (12, sl bH queue bI), (49, .bool s)] ρ ∧ aN = w') ?_ ?_
   ·refine Wg (Lv ok 0 [(40, sl bH queue bI), (41, I (ln queue)), (42, .bool (decide ((ln queue) > 0))), (43, .bool (decide ((ln queue) > 0)))] 4 rfl rfl ?_)
    refine LP_split 43 (decide ((ln queue) > 0)) rfl (fun b8 => ?_) (fun b8 => ?_)
    ·have H := H.1 b8
     refine Lv ok 4 [(44, .slice aA (List.length (List.replicate (Int.toNat (ln r)) ((0 : Int)))) aB), (45, I to)] 6 rfl rfl ?_
     obtain ⟨b9, eZ, e0, H⟩ := H
     refine Li 6 rfl rfl rfl Try.underlying22 ti_3 rfl rfl aO.readf eZ e0 fun i0 cs e1 e2 => (Lo 7 rfl rfl rfl ti_3 ag_3 rfl e1 e2 aQ fun i1 e3 => ?_)
     obtain rfl := e3.int
     refine Lv ok 8 [(48, .bool (decide (b9 < 0))), (49, .bool (decide (b9 < 0)))] 10 rfl rfl ?_
     exact Ln _ rfl ⟨decide (b9 < 0), H, _, Ee ⟨rfl, rfl, rfl, rfl, rfl, rfl, rfl, rfl, trivial⟩, rfl⟩
    have H := H.2 b8
    refine Lv ok 4 [(44, undef), (45, undef), (46, undef), (47, undef), (48, undef), (49, .bool false)] 10 rfl rfl ?_
    exact Ln _ rfl ⟨false, H, _, Ee ⟨rfl, rfl, rfl, rfl, rfl, rfl, rfl, rfl, trivial⟩, rfl⟩
   rintro e4 _ _ ⟨H, ρ, rfl, rfl⟩
   subst eY
   refine Wc (e4) rfl (fun cA => ?_) (fun cA => ?_)
   ·have H := H.1 cA
    refine Wk (W_block (Wq (Wg (Lv ok 0 [(50, sl bH queue bI)] 1 rfl rfl ?_))))
    obtain ⟨aR, e5, e6, H⟩ := H
    refine Li 1 rfl rfl rfl Try.underlying22 ti_3 rfl rfl b4.readf e5 e6 fun i2 i3 e7 e8 => (Lo 2 rfl rfl rfl ti_3 ag_3 rfl e7 e8 c6 fun i4 e9 => ?_)
    obtain rfl := e9.int
    refine Lv ok 3 [(13, I aR)] 4 rfl rfl (Ln _ rfl (Wq (Wg (Lv ok 0 [(53, sl bH queue bI)] 1 rfl rfl ?_))))
    obtain ⟨fA, hu, H⟩ := H
    refine LP_sliceT 1 1 rfl rfl rfl Try.underlying22 ti_3 rfl rfl b4 fA hu fun i5 dA => ?_
    obtain ⟨dB, dC, rfl⟩ := dA.shape
    refine Lv ok 2 [(12, .slice dB (List.length (List.drop (Int.toNat 1) queue)) dC)] 3 rfl rfl (Ln _ rfl (Wq (Wg (Lv ok 0 [(55, sl a r c), (56, I aR)] 2 rfl rfl ?_))))
    obtain ⟨aI, fB, fC, H⟩ := H
    refine Li 2 rfl rfl rfl Try.underlying23 ti_22 rfl rfl a0.readf fB fC fun i6 i7 fD fE => (Lo 3 rfl rfl rfl ti_22 ag_22 rfl fD fE aX fun i9 fF => ?_)
    have dD := fF.slice
    obtain ⟨cB, cC, rfl⟩ := dD.shape
    refine Lv ok 4 [(59, I (ln aI)), (60, I 0)] 6 rfl rfl (Ln _ rfl (W_block ?_))
    obtain ⟨U162, hU163⟩ : ∃ U : PH, U = (un aL aM) := ⟨_, rfl⟩
    have D164 : Dom U162 aL := Dom.eqv hU163 (Dom.l _ _)
    have D165 : Dom U162 aM := Dom.eqv hU163 (Ot (Dom.r _ _) (Or _))
    obtain ⟨J170, fG, Hx172, H⟩ := H
    refine W_loop (S := (List Int) × (List Int) × Int) (fun s ρ' w' => J170 s.1 s.2.1 s.2.2 ∧ ∃ (ρ : Env) (aJ : PH) (cD : Value) (aK : PH), ρ' = setAll [(0, sl a r c), (1, I fromx), (2, I to), (3, I limit), (9, I aC), (10, .slice aA (List.length (List.replicate (Int.toNat (ln r)) ((0 : Int)))) aB), (12, cD), (13, I aR), (58, sl cB aI cC), (59, I (ln aI)), (60, I s.2.2)] ρ ∧ But U162 aN w' ∧ OS 3 aJ emp (.slice aA (List.length (List.replicate (Int.toNat (ln r)) ((0 : Int)))) aB) s.1 ∧ Sub aJ w' ∧ DomLe U162 aN.heap.size aJ ∧ OT aK cD s.2.1 ∧ Sub aK w' ∧ DomLe U162 aN.heap.size aK ∧ Dj aK aJ) (fun s => fG s.1 s.2.1 s.2.2) (c5, List.drop (Int.toNat 1) queue, 0) ⟨Hx172, _, aL, .slice dB (List.length (List.drop (Int.toNat 1) queue)) dC, aM, Ee ⟨rfl, rfl, rfl, rfl, rfl, rfl, rfl, rfl, rfl, rfl, rfl, trivial⟩, (Br _ _), aO, aQ, (Oe D164 _), dA, c6, (Oe D165 _), (Dom.dj (Or _) d)⟩ ?_
    rintro ⟨bK, aH, aD⟩ _ bL ⟨Hi, ρ, aJ, cD, aK, rfl, HF⟩
    revert HF
    refine bb8 fun X169 bM bN dE bO bP dF bQ => ?_
    have H := H bK aH aD Hi
    obtain ⟨bR, bS, rfl⟩ := bO.shape
    refine Wq (Wg (Lv ok 0 [(61, .bool (decide (aD < (ln aI))))] 1 rfl rfl (Ln _ rfl (Wq ?_))))
    refine Wc (decide (aD < (ln aI))) rfl (fun cE => ?_) (fun cE => ?_)
    ·have H := H.1 cE
     refine Wk ?_
     have dG := (b7.ext aW)
     obtain ⟨U199, hU200⟩ : ∃ U : PH, U = (un aJ aK) := ⟨_, rfl⟩
     have D201 : Dom U199 aJ := Dom.eqv hU200 (Dom.l _ _)
     have D202 : Dom U199 aK := Dom.eqv hU200 (Ot (Dom.r _ _) (Or _))
     obtain ⟨fH, fI, H⟩ := jn_elim H
     refine W_join2 (S := (List Int) × (List Int)) (fun s ρ' w' => fH s.1 s.2 ∧ ∃ (ρ : Env) (aY : PH) (cF : Value) (aZ : PH), ρ' = setAll [(0, sl a r c), (1, I fromx), (2, I to), (3, I limit), (9, I aC), (10, .slice aA (List.length (List.replicate (Int.toNat (ln r)) ((0 : Int)))) aB), (12, cF), (13, I aR), (58, sl cB aI cC), (59, I (ln aI)), (60, I aD)] ρ ∧ But U199 bL w' ∧ OS 3 aY emp (.slice aA (List.length (List.replicate (Int.toNat (ln r)) ((0 : Int)))) aB) s.1 ∧ Sub aY w' ∧ DomLe U199 bL.heap.size aY ∧ OT aZ cF s.2 ∧ Sub aZ w' ∧ DomLe U199 bL.heap.size aZ ∧ Dj aZ aY) ?_ ?_
     ·refine W_block (Wq (Wg (Lv ok 0 [(62, I aD)] 1 rfl rfl ?_)))
      obtain ⟨a3, fJ, fK, H⟩ := H
      refine Li 1 rfl rfl rfl Try.underlying22 ti_3 rfl rfl dD fJ fK fun jA jB fL fM => (Lo 2 rfl rfl rfl ti_3 ag_3 rfl fL fM (aX.but X169 (Dj.eqv hU163 (Dl (Mj b3 (Dj.eqv hU bJ) dG) (Dom.dj (Or _) (Mj c7 (Dj.eqv hU bJ) dG))))) fun jC fN => ?_)
      obtain rfl := fN.int
      refine Lv ok 3 [(14, I aD), (15, I a3)] 5 rfl rfl (Ln _ rfl ?_)
      obtain ⟨fO, fP, H⟩ := jn_elim H
      refine W_join2 (S := Bool) (fun s ρ' w' => fO s ∧ ∃ (ρ : Env), ρ' = setAll [(0, sl a r c), (1, I fromx), (2, I to), (3, I limit), (9, I aC), (10, .slice aA (List.length (List.replicate (Int.toNat (ln r)) ((0 : Int)))) aB), (12, sl bR aH bS), (13, I aR), (14, I aD), (58, sl cB aI cC), (59, I (ln aI)), (60, I aD), (73, .bool s)] ρ ∧ bL = w') ?_ ?_
      ·refine Wg (Lv ok 0 [(65, I a3), (66, .bool (decide (a3 > 0))), (67, .bool (decide (a3 > 0)))] 3 rfl rfl ?_)
       refine LP_split 67 (decide (a3 > 0)) rfl (fun cG => ?_) (fun cG => ?_)
       ·have H := H.1 cG
        refine Lv ok 3 [(68, .slice aA (List.length (List.replicate (Int.toNat (ln r)) ((0 : Int)))) aB), (69, I aD)] 5 rfl rfl ?_
        obtain ⟨cH, fQ, fR, H⟩ := H
        refine Li 5 rfl rfl rfl Try.underlying22 ti_3 rfl rfl bM.readf fQ fR fun jD jE fS fT => (Lo 6 rfl rfl rfl ti_3 ag_3 rfl fS fT bN fun jF fU => ?_)
        obtain rfl := fU.int
        refine Lv ok 7 [(72, .bool (decide (cH < 0))), (73, .bool (decide (cH < 0)))] 9 rfl rfl ?_
        exact Ln _ rfl ⟨decide (cH < 0), H, _, Ee ⟨rfl, rfl, rfl, rfl, rfl, rfl, rfl, rfl, rfl, rfl, rfl, rfl, rfl, trivial⟩, rfl⟩
       have H := H.2 cG
       refine Lv ok 3 [(68, undef), (69, undef), (70, undef), (71, undef), (72, undef), (73, .bool false)] 9 rfl rfl ?_
       exact Ln _ rfl ⟨false, H, _, Ee ⟨rfl, rfl, rfl, rfl, rfl, rfl, rfl, rfl, rfl, rfl, rfl, rfl, rfl, trivial⟩, rfl⟩
      rintro fV _ _ ⟨H, ρ, rfl, rfl⟩
      subst fP
      refine Wc (fV) rfl (fun cI => ?_) (fun cI => ?_)
      ·have H := H.1 cI
       refine Wq (Wg (Lv ok 0 [(74, .slice aA (List.length (List.replicate (Int.toNat (ln r)) ((0 : Int)))) aB), (75, I aD), (76, I aR)] 3 rfl rfl ?_))
       obtain ⟨fW, fX, H⟩ := H
       refine LP_indexw (v := .slice aA (List.length (List.replicate (Int.toNat (ln r)) ((0 : Int)))) aB) 3 rfl rfl rfl Try.underlying22 ti_3 rfl rfl bM fW fX fun jG fY => (LP_set 4 rfl rfl rfl rfl rfl fY (Le.refl emp) ⟨_, rfl, rfl⟩ bN fun fZ jH f0 dH cJ dI => (Ln _ rfl (Wg (Lv ok 0 [(78, sl bR aH bS), (79, I aD)] 2 rfl rfl (LP_lit (α := Int) (g := emp) 2 (vs := [I aD]) (xs := [aD]) rfl rfl rfl Try.underlying22 ti_3 rfl rfl ⟨⟨_, rfl, rfl⟩, trivial⟩ rfl rfl fun jI jJ jK a4 dJ f1 jL => ?_)))))
       obtain ⟨jM, jN, rfl⟩ := dJ.shape
       obtain ⟨jO, H⟩ := H
       refine LP_appendT (α := Int) 3 rfl rfl rfl Try.underlying22 ti_3 rfl rfl rfl bO ((bP.but cJ bQ.symm).ext a4) dJ.readf f1 (by first | omega | (simp only [ln] at *; omega)) (by first | omega | (simp only [ln] at *; omega)) fun f2 jP jQ dK f3 dL dM => ?_
       obtain ⟨dN, dO, rfl⟩ := dK.shape
       refine Lv ok 4 [(12, .slice dN (List.length (aH ++ ([aD]))) dO)] 5 rfl rfl (Ln _ rfl ?_)
       have dP := (Mj (dI _) bQ.symm bP).symm
       exact ⟨(List.set bK (Int.toNat aD) aR, aH ++ ([aD])), H, _, fZ, .slice dN (List.length (aH ++ ([aD]))) dO, f2, Ee ⟨rfl, rfl, rfl, rfl, rfl, rfl, rfl, rfl, rfl, rfl, rfl, trivial⟩, ((((Br U199 _).step cJ (Oe D201 _)).stepx a4).step dL (Oe D202 _)), f0, ((dH.ext a4).but dL dP), (Mt (Oe D201 _) (dI _) (Nat.le_refl _)), dK, f3, (Mt (Oe D202 _) dM (Nat.le_trans cJ.size a4.size)), (Mj dM dP (dH.ext a4))⟩
      have H := H.2 cI
      exact Wk ⟨(bK, aH), H, _, aJ, sl bR aH bS, aK, Ee ⟨rfl, rfl, rfl, rfl, rfl, rfl, rfl, rfl, rfl, rfl, rfl, trivial⟩, (Br _ _), bM, bN, (Oe D201 _), bO, bP, (Oe D202 _), bQ⟩
     rintro ⟨f4, dQ⟩ _ jR ⟨H, ρ, aY, cF, aZ, rfl, HF⟩
     revert HF
     refine bb8 fun X206 f5 f6 f7 dR f8 f9 gA => ?_
     subst fI
     obtain ⟨gB, gC, rfl⟩ := dR.shape
     refine Wg (Lv ok 0 [(82, I (wr (aD + 1))), (60, I (wr (aD + 1)))] 2 rfl rfl (Ln _ rfl ?_))
     have cK : DomLe U162 aN.heap.size U199 := (DomLe.eqv hU200 (Mu (Mt (Oe (Or _) _) dE (Nat.le_refl _)) (Mt (Oe (Or _) _) dF (Nat.le_refl _))))
     exact ⟨(f4, dQ, wr (aD + 1)), ⟨H.1, _, aY, sl gB dQ gC, aZ, Ee ⟨rfl, rfl, rfl, rfl, rfl, rfl, rfl, rfl, rfl, rfl, rfl, trivial⟩, (((Br U162 _).step X169 (Oe (Or _) _)).step X206 cK), f5, f6, (Mt cK f7 X169.size), dR, f8, (Mt cK f9 X169.size), gA⟩, H.2⟩
    have H := H.2 cE
    refine W_exit ?_
    refine (if_pos rfl).mpr ?_
    have cL : DomLe U bF.heap.size U162 := (DomLe.eqv hU163 (Mu (Mt (Oe (Or _) _) b3 (Nat.le_refl _)) (Mt (Mt (Oe (Or _) _) c7 (Nat.le_refl _)) (Oe (Or _) _) (Nat.le_refl _))))
    exact ⟨(bK, aH), ⟨H.1, _, aJ, sl bR aH bS, aK, Ee ⟨rfl, rfl, rfl, rfl, rfl, rfl, rfl, trivial⟩, (((Br U _).step X78 (Oe (Or _) _)).step X169 cL), bM, bN, (Mt cL dE X78.size), bO, bP, (Mt cL dF X78.size), bQ⟩, H.2⟩
   have H := H.2 cA
   refine W_exit ?_
   refine (if_pos rfl).mpr ?_
   refine Wq (Wq (Wg (Lv ok 0 [(83, .slice aA (List.length (List.replicate (Int.toNat (ln r)) ((0 : Int)))) aB), (84, I to)] 2 rfl rfl ?_)))
   obtain ⟨dS, gD, gE, H⟩ := H
   refine Li 2 rfl rfl rfl Try.underlying22 ti_3 rfl rfl aO.readf gD gE fun jS jT gF gG => (Lo 3 rfl rfl rfl ti_3 ag_3 rfl gF gG aQ fun jU gH => ?_)
   obtain rfl := gH.int
   refine Lv ok 4 [(87, .bool (decide (dS < 0)))] 5 rfl rfl (Ln _ rfl ?_)
   refine Wc (decide (dS < 0)) rfl (fun cM => ?_) (fun cM => ?_)
   ·have H := H.1 cM
    refine W_exit ?_
    refine (if_neg (by decide)).mpr ?_
    refine (if_pos rfl).mpr ?_
    have dT : Fresh w.heap.size aP := (DomLe.fresh bE (a2.mono X15.size) (Nat.le_trans X15.size x.size))
    exact ⟨(aC, bB), H, _, aF, Ee ⟨rfl, trivial⟩, (((((((Br hx _).step X15 (Oe (Or _) _)).stepx x).step X31 ((a2.mono X15.size).dom _)).step aV (dT.dom _)).stepx aW).step X78 (DomLe.eqv hU (Mu (((b0 _).fresh dT (Nat.le_trans (Nat.le_trans X15.size x.size) X31.size)).dom _) ((bG.mono (Nat.le_trans (Nat.le_trans (Nat.le_trans X15.size x.size) X31.size) aV.size)).dom _)))), a0, aX, (fun _ => bD _)⟩
   have H := H.2 cM
   refine Wk (Wq (Wg (Lv ok 0 [(88, I limit), (89, I aC), (90, I (wr (limit - aC))), (16, I (wr (limit - aC)))] 4 rfl rfl (Ln _ rfl (Wq (Wq (Wg (Lv ok 0 [(91, I to), (17, I to)] 2 rfl rfl (Ln _ rfl ?_)))))))))
   refine W_block ?_
   obtain ⟨J300, gI, Hx302, H⟩ := H
   refine W_loop (S := Int × Int) (fun s ρ' w' => J300 s.1 s.2 ∧ ∃ (ρ : Env), ρ' = setAll [(0, sl a r c), (1, I fromx), (2, I to), (3, I limit), (9, I aC), (10, .slice aA (List.length (List.replicate (Int.toNat (ln r)) ((0 : Int)))) aB), (16, I s.1), (17, I s.2)] ρ ∧ aN = w') (fun s => gI s.1 s.2) (wr (limit - aC), to) ⟨Hx302, _, Ee ⟨rfl, rfl, rfl, rfl, rfl, rfl, rfl, rfl, trivial⟩, rfl⟩ ?_
   rintro ⟨step, aS⟩ _ _ ⟨Hi, ρ, rfl, rfl⟩
   have H := H step aS Hi
   refine Wq (Wq (Wg (Lv ok 0 [(92, I aS), (93, I fromx), (94, .bool (aS != fromx))] 3 rfl rfl (Ln _ rfl ?_))))
   refine Wc (aS != fromx) rfl (fun cN => ?_) (fun cN => ?_)
   ·have H := H.1 cN
    refine Wk (Wq (W_block (Wg (Lv ok 0 [(99, I step), (100, sl a r c), (101, .slice aA (List.length (List.replicate (Int.toNat (ln r)) ((0 : Int)))) aB), (102, I aS)] 4 rfl rfl ?_))))
    obtain ⟨jV, gJ, gK, H⟩ := H
    refine Li 4 rfl rfl rfl Try.underlying22 ti_3 rfl rfl aO.readf gJ gK fun jW jX gL gM => (Lo 5 rfl rfl rfl ti_3 ag_3 rfl gL gM aQ fun jY gN => ?_)
    obtain rfl := gN.int
    obtain ⟨jZ, gO, gP, H⟩ := H
    refine Li 6 rfl rfl rfl Try.underlying23 ti_22 rfl rfl a0.readf gO gP fun j0 j1 gQ gR => (Lo 7 rfl rfl rfl ti_22 ag_22 rfl gQ gR aX fun j2 gS => ?_)
    have dU := gS.slice
    obtain ⟨j3, j4, rfl⟩ := dU.shape
    refine Lv ok 8 [(107, I aS)] 9 rfl rfl ?_
    obtain ⟨cO, gT, gU, H⟩ := H
    refine Li 9 rfl rfl rfl Try.underlying22 ti_3 rfl rfl dU gT gU fun j5 j6 gV gW => (Lo 10 rfl rfl rfl ti_3 ag_3 rfl gV gW aX fun j7 gX => ?_)
    obtain rfl := gX.int
    refine Lv ok 11 [(110, I (mn step cO)), (16, I (mn step cO))] 13 rfl rfl (Ln _ rfl (Wg (Lv ok 0 [(95, .slice aA (List.length (List.replicate (Int.toNat (ln r)) ((0 : Int)))) aB), (96, I aS)] 2 rfl rfl ?_)))
    obtain ⟨dV, gY, gZ, H⟩ := H
    refine Li 2 rfl rfl rfl Try.underlying22 ti_3 rfl rfl aO.readf gY gZ fun j8 j9 g0 g1 => (Lo 3 rfl rfl rfl ti_3 ag_3 rfl g0 g1 aQ fun kA g2 => ?_)
    obtain rfl := g2.int
    refine Lv ok 4 [(17, I dV)] 5 rfl rfl ?_
    exact Ln _ rfl ⟨(mn step cO, dV), ⟨H.1, _, Ee ⟨rfl, rfl, rfl, rfl, rfl, rfl, rfl, rfl, trivial⟩, rfl⟩, H.2⟩
   have H := H.2 cN
   refine W_exit ?_
   refine (if_pos rfl).mpr ?_
   refine Wq (Wq (Wg (Lv ok 0 [(111, I to), (18, I to)] 2 rfl rfl (Ln _ rfl (W_block ?_)))))
   obtain ⟨J354, g3, Hx356, H⟩ := H
   refine W_loop (S := (List (List Int)) × Int) (fun s ρ' w' => J354 s.1 s.2 ∧ ∃ (ρ : Env) (aT : PH), ρ' = setAll [(0, sl a r c), (1, I fromx), (2, I to), (3, I limit), (9, I aC), (10, .slice aA (List.length (List.replicate (Int.toNat (ln r)) ((0 : Int)))) aB), (16, I step), (18, I s.2)] ρ ∧ But aF aN w' ∧ OD aT (sl a r c) s.1 ∧ Sub aT w' ∧ (∀ n, DomLe hx n aT) ∧ (∀ n, DomLe aF n aT)) (fun s => g3 s.1 s.2) (bB, to) ⟨Hx356, _, aF, Ee ⟨rfl, rfl, rfl, rfl, rfl, rfl, rfl, rfl, trivial⟩, (Br _ _), a0, aX, (fun _ => bD _), (fun _ => DomLe.refl _ _)⟩ ?_
   rintro ⟨cP, aE⟩ _ kB ⟨Hi, ρ, aT, rfl, HF⟩
   revert HF
   refine bb5 fun X353 dW bT dX cQ => ?_
   have H := H cP aE Hi
   refine Wq (Wq (Wg (Lv ok 0 [(112, I aE), (113, I fromx), (114, .bool (aE != fromx))] 3 rfl rfl (Ln _ rfl ?_))))
   refine Wc (aE != fromx) rfl (fun cR => ?_) (fun cR => ?_)
   ·have H := H.1 cR
    refine Wk (Wq (W_block (Wq (Wg (Lv ok 0 [(119, sl a r c), (120, .slice aA (List.length (List.replicate (Int.toNat (ln r)) ((0 : Int)))) aB), (121, I aE)] 3 rfl rfl ?_)))))
    obtain ⟨g4, g5, g6, H⟩ := H
    refine Li 3 rfl rfl rfl Try.underlying22 ti_3 rfl rfl aO.readf g5 g6 fun kC kD g7 g8 => ?_
    have dY := (Mj b3 (Dj.eqv hU bJ) (b7.ext aW)).symm
    have cS := (aQ.but X353 dY)
    refine Lo 4 rfl rfl rfl ti_3 ag_3 rfl g7 g8 cS fun kE g9 => ?_
    obtain rfl := g9.int
    obtain ⟨bU, hA, hB, H⟩ := H
    refine LP_indexb (v := sl a r c) 5 rfl rfl rfl Try.underlying23 ti_22 rfl rfl dW hA hB fun kF u hC rest hD bw => (LP_ldcell 6 rfl rfl rfl ti_22 ag_22 rfl hD bT ?_)
    have dZ := bw.od
    obtain ⟨d0, d1, rfl⟩ := dZ.shape
    have d2 := Sub.le bT bw.le
    have d3 : OS 3 hC emp (sl d0 bU d1) bU := OD.flat dZ
    refine Lv ok 7 [(126, I aE)] 8 rfl rfl ?_
    obtain ⟨d4, hE, hF, H⟩ := H
    refine Li 8 rfl rfl rfl Try.underlying22 ti_3 rfl rfl d3.readf hE hF fun kG kH hG hH => (Lo 9 rfl rfl rfl ti_3 ag_3 rfl hG hH d2 fun kI hI => ?_)
    obtain rfl := hI.int
    refine Lv ok 10 [(129, I step), (130, I (wr (d4 - step)))] 12 rfl rfl ?_
    obtain ⟨hJ, hK, H⟩ := H
    refine LP_indexw (v := sl d0 bU d1) 12 rfl rfl rfl Try.underlying22 ti_3 rfl rfl d3 hJ hK fun kJ hL => (LP_set 13 rfl rfl rfl rfl rfl hL (Le.refl emp) ⟨_, rfl, rfl⟩ d2 fun kK kL hM hN d5 hO => ?_)
    obtain ⟨kM, hP, dd⟩ := BwL.turn bw (OS.od hM) (Dom.of hO)
    have hQ := BwL.sub bw bT hN d5
    have d6 := BwL.but bw d5
    refine Ln _ rfl ?_
    refine W_open mix fun kN cT => ?_
    refine AP_game 11 [[], [], [0, 1], [0, 1, 2], [], [], [4, 5], [4, 5, 6], [0, 1, 2, 3, 4, 5, 6, 7], [0, 1, 2, 3, 4, 5, 6, 7, 8], [], [0, 1, 2, 3, 4, 5, 6, 7, 8, 9, 10], [0, 1, 2, 3, 4, 5, 6, 7, 8, 9, 10, 11], [0, 1, 2, 3, 4, 5, 6, 7, 8, 9, 10, 11, 12]] [[(0, none)], [(18, none)], [(132, some 0), (133, some 1)], [(134, some 2)], [(10, none)], [(18, none)], [(136, some 4), (137, some 5)], [(138, some 6)], [(135, some 3), (139, some 7)], [(140, some 8)], [(16, none)]] [(0, none), (1, none), (2, none), (3, none), (9, none), (10, none), (16, none), (18, none), (135, some 3), (139, some 7), (141, some 9), (142, some 10)] [(0, false), (1, false), (2, false), (3, false), (4, false), (5, false), (6, false), (7, false), (8, false), (9, false), (10, false)] (by kernel_rfl) (by kernel_rfl) ?_
    refine GS_ev ok [(0, sl a r c)] (sl a r c) rfl rfl (fun _ h => h) (fun _ => rfl) ?_
    refine GS_ev ok [(18, I aE)] (I aE) rfl rfl (fun _ h => h) (fun _ => rfl) ?_
    obtain ⟨aU, hR, hS, H⟩ := H
    obtain ⟨d7, kO, hT, hV, hW, hX, a5⟩ := run_indexb Try.underlying23 ti_22 hP _ hR hS
    refine GS_r0 [(132, sl a r c), (133, I aE)] (.pointer (some d7)) rfl rfl (fun _ h => h) (fun _ _ => ex_index rfl rfl rfl (hW _)) ?_
    have d8 := a5.od
    obtain ⟨a6, a7, rfl⟩ := d8.shape
    have cU := (hQ.ext cT)
    have d9 := Sub.le cU a5.le
    have eA : OS 3 hT emp (sl a6 aU a7) aU := OD.flat d8
    refine GS_r1 [(134, .pointer (some d7))] (sl a6 aU a7) rfl rfl (fun _ h => h) (fun _ w e => ex_ldcell rfl ti_22 ag_22 rfl hX e) cU ?_
    refine GS_ev ok [(10, .slice aA (List.length (List.replicate (Int.toNat (ln r)) ((0 : Int)))) aB)] (.slice aA (List.length (List.replicate (Int.toNat (ln r)) ((0 : Int)))) aB) rfl rfl (fun _ h => h) (fun _ => rfl) ?_
    refine GS_ev ok [(18, I aE)] (I aE) rfl rfl (fun _ h => h) (fun _ => rfl) ?_
    obtain ⟨a8, hY, hZ, H⟩ := H
    obtain ⟨eB, kP, h0, h1, h2⟩ := run_indexAt Try.underlying22 ti_3 aO.readf .i64 _ a8 hY hZ
    refine GS_r0 [(136, .slice aA (List.length (List.replicate (Int.toNat (ln r)) ((0 : Int)))) aB), (137, I aE)] (.pointer (some eB)) rfl rfl (fun _ h => h) (fun _ _ => ex_index rfl rfl rfl (h0 _)) ?_
    obtain ⟨kQ, h3, h4⟩ := run_loadAt ti_3 ag_3 h1 h2
    obtain rfl := h4.int
    have eC := (Mj (cQ _) dY aQ)
    have eD := ((cS.but d6 eC).ext cT)
    refine GS_r1 [(138, .pointer (some eB))] (I a8) rfl rfl (fun _ h => h) (fun _ w e => ex_load rfl rfl (h3 w e)) eD ?_
    obtain ⟨a9, h5, h6, H⟩ := H
    obtain ⟨eE, kR, h7, h8, h9⟩ := run_indexAt Try.underlying22 ti_3 eA.readf .i64 _ a9 h5 h6
    refine GS_r0 [(135, sl a6 aU a7), (139, I a8)] (.pointer (some eE)) rfl rfl (fun _ h => h) (fun _ _ => ex_index rfl rfl rfl (h7 _)) ?_
    obtain ⟨kS, iA, iB⟩ := run_loadAt ti_3 ag_3 h8 h9
    obtain rfl := iB.int
    refine GS_r1 [(140, .pointer (some eE))] (I a9) rfl rfl (fun _ h => h) (fun _ w e => ex_load rfl rfl (iA w e)) d9 ?_
    refine GS_ev ok [(16, I step)] (I step) rfl rfl (fun _ h => h) (fun _ => rfl) ?_
    intro kT bV ρ iC
    refine AP_forget [(0, sl a r c), (1, I fromx), (2, I to), (3, I limit), (9, I aC), (10, .slice aA (List.length (List.replicate (Int.toNat (ln r)) ((0 : Int)))) aB), (16, I step), (18, I aE), (135, sl a6 aU a7), (139, I a8), (141, I a9), (142, I step)] (by exact iC) fun ρ => ?_
    refine AP_tail 11 [[], [], [0, 1], [0, 1, 2], [], [], [4, 5], [4, 5, 6], [0, 1, 2, 3, 4, 5, 6, 7], [0, 1, 2, 3, 4, 5, 6, 7, 8], [], [0, 1, 2, 3, 4, 5, 6, 7, 8, 9, 10], [0, 1, 2, 3, 4, 5, 6, 7, 8, 9, 10, 11], [0, 1, 2, 3, 4, 5, 6, 7, 8, 9, 10, 11, 12]] (by kernel_rfl) ?_
    refine Lv ok 11 [(143, I (wr (a9 + step)))] 12 rfl rfl ?_
    obtain ⟨iD, iE, H⟩ := H
    refine LP_indexw (v := sl a6 aU a7) 12 rfl rfl rfl Try.underlying22 ti_3 rfl rfl eA iD iE fun kU iF => (LP_set 13 rfl rfl rfl rfl rfl iF (Le.refl emp) ⟨_, rfl, rfl⟩ (d9.ext bV) fun iG kV iH iI eF iJ => ?_)
    obtain ⟨kW, iK, eG⟩ := BwL.turn a5 (OS.od iH) (Dom.of iJ)
    have iL := BwL.sub a5 (cU.ext bV) iI eF
    have eH := BwL.but a5 eF
    refine Ln _ rfl (Wg (Lv ok 0 [(115, .slice aA (List.length (List.replicate (Int.toNat (ln r)) ((0 : Int)))) aB), (116, I aE)] 2 rfl rfl ?_))
    obtain ⟨eI, iM, iN, H⟩ := H
    refine Li 2 rfl rfl rfl Try.underlying22 ti_3 rfl rfl aO.readf iM iN fun kX kY iO iP => (Lo 3 rfl rfl rfl ti_3 ag_3 rfl iO iP ((eD.ext bV).but eH (Mj ((fun n => Oe dd n) _) eC cS)) fun kZ iQ => ?_)
    obtain rfl := iQ.int
    refine Lv ok 4 [(18, I eI)] 5 rfl rfl (Ln _ rfl ?_)
    have eJ : DomLe aF aN.heap.size aT := (Mt (Oe (Or _) _) (cQ _) (Nat.le_refl _))
    exact ⟨(List.set (List.set cP (Int.toNat g4) (List.set bU (Int.toNat aE) (wr (d4 - step)))) (Int.toNat aE) (List.set aU (Int.toNat a8) (wr (a9 + step))), eI), ⟨H.1, _, (un iG hV), Ee ⟨rfl, rfl, rfl, rfl, rfl, rfl, rfl, rfl, trivial⟩, (((((Br aF _).step X353 (Oe (Or _) _)).step d6 eJ).stepx (cT.trans bV)).step eH (Mt eJ ((fun n => Oe dd n) _) X353.size)), iK, iL, (fun _ => Mt (Mt (dX _) (((fun n => Oe dd n) _)) (Nat.le_refl _)) (((fun n => Oe eG n) _)) (Nat.le_refl _)), (fun _ => Mt (Mt (Mt (DomLe.refl _ _) ((cQ _)) (Nat.le_refl _)) (((fun n => Oe dd n) _)) (Nat.le_refl _)) (((fun n => Oe eG n) _)) (Nat.le_refl _))⟩, H.2⟩
   have H := H.2 cR
   refine W_exit ?_
   refine (if_pos rfl).mpr ?_
   refine Wg (Lv ok 0 [(145, I aC), (146, I step), (147, I (wr (aC + step))), (9, I (wr (aC + step)))] 4 rfl rfl (Ln _ rfl ?_))
   have eK : Fresh w.heap.size aP := (DomLe.fresh bE (a2.mono X15.size) (Nat.le_trans X15.size x.size))
   exact ⟨(cP, wr (aC + step)), ⟨H.1, _, aT, Ee ⟨rfl, rfl, rfl, rfl, rfl, trivial⟩, ((((((((Br hx _).step X15 (Oe (Or _) _)).stepx x).step X31 ((a2.mono X15.size).dom _)).step aV (eK.dom _)).stepx aW).step X78 (DomLe.eqv hU (Mu (((b0 _).fresh eK (Nat.le_trans (Nat.le_trans X15.size x.size) X31.size)).dom _) ((bG.mono (Nat.le_trans (Nat.le_trans (Nat.le_trans X15.size x.size) X31.size) aV.size)).dom _)))).step X353 (Mt (Oe (Or _) _) (bD _) (Nat.le_refl _))), dW, bT, (fun _ => dX _)⟩, H.2⟩
  have H := H.2 hc
  refine W_exit ?_
  refine (if_pos rfl).mpr ?_
  exact ⟨(aC, bB), H, _, aF, Ee ⟨rfl, trivial⟩, ((Br hx _).step X15 (Oe (Or _) _)), a0, bC, (fun _ => bD _)⟩
 rintro ⟨sent, k0⟩ _ wx ⟨H, ρ, bA, rfl, X6, o, iR, f⟩
 subst hk
 refine Wq (Wg (Lv ok 0 [(148, I sent), (8, I sent)] 2 rfl rfl (Ln _ rfl (W_ret ?_))))
 exact ⟨_, Ret_of [I sent] ⟨⟨rfl, rfl⟩, trivial⟩, _, _, _, H, rfl, (X.step X6 (Oe D _)), o, iR, (fun _ => f _)⟩

theorem slices_Clone_int_int_w (sx : List Int) (Q : (List Int) → Prop) (H : slices_Clone_int_int sx Q) (w : World) {vx : Value} {hx : PH} (r : RS hx vx sx) (ex : Sub hx w) :
  CallsTo Try.prog 101 #[vx] w fun v w' => ∃ aB aC aA, Q aB ∧ v = aC ∧ Ext w w' ∧ OS 3 aA emp aC aB ∧ Sub aA w' ∧ Fresh w.heap.size aA := by
 obtain ⟨a, c, rfl⟩ := r.shape
 refine enter (args := [sl a sx c]) 8 Try.func101 rfl rfl rfl ?_
 refine Wo [(0, sl a sx c)] ⟨rfl, trivial⟩ fun ρ => ?_
 have X := Br emp w
 refine Wq (Wg (Lv ok 0 [(2, .slice none 0 0)] 1 rfl rfl (Ln _ rfl (Wq (Wq (Wg (Lv ok 0 [(3, sl a sx c)] 1 rfl rfl (LP_val 1 _ rfl rfl (ex_eqnil rfl Try.underlying22 rfl rfl _) ?_))))))))
 have H := H _ (nil_of r)
 refine Ln _ rfl ?_
 refine Wc (Option.isNone a) rfl (fun hc => ?_) (fun hc => ?_)
 ·have H := H.1 hc
  refine Wq (Wg (Lv ok 0 [(2, .slice none 0 0)] 1 rfl rfl (Ln _ rfl (W_ret ?_))))
  exact ⟨_, Ret_of [.slice none 0 0] ⟨⟨rfl, rfl⟩, trivial⟩, _, _, emp, H, rfl, X.ext, OS.nil, (emp_sub _), (emp_fresh _)⟩
 have H := H.2 hc
 refine Wk (Wq (Wg (LP_lit (α := Int) (g := emp) 0 (vs := []) (xs := []) rfl rfl rfl Try.underlying22 ti_3 rfl rfl trivial rfl rfl fun aK aL wx x o aH f => ?_)))
 obtain ⟨aM, aN, rfl⟩ := o.shape
 refine Lv ok 1 [(6, sl a sx c)] 2 rfl rfl ?_
 obtain ⟨hb, H⟩ := H
 refine LP_appendf (α := Int) 2 rfl rfl rfl Try.underlying22 ti_3 rfl rfl rfl o aH r (ex.ext x) (by first | omega | (simp only [ln] at *; omega)) (by first | omega | (simp only [ln] at *; omega)) fun aO aP aQ aD aI y dm => ?_
 obtain ⟨aE, aF, rfl⟩ := aD.shape
 refine Lv ok 3 [(2, .slice aE (List.length ((([] : List Int)) ++ sx)) aF)] 4 rfl rfl (Ln _ rfl (W_ret ?_))
 have aG := f.mono X.size
 have X16 := (X.stepx x)
 have aJ := dm.fresh aG X16.size
 exact ⟨_, Ret_of [.slice aE (List.length ((([] : List Int)) ++ sx)) aF] ⟨⟨rfl, rfl⟩, trivial⟩, _, _, _, H, rfl, (X16.step y (aG.dom _)).ext, aD, aI, aJ⟩

theorem impl_copyMatrix_w (x : List (List Int)) (Q : (List (List Int)) → Prop) (H : impl_copyMatrix x Q) (w : World) {vx : Value} {hx : PH} (r : RS hx vx x) (ex : Sub hx w) :
  CallsTo Try.prog 79 #[vx] w fun v w' => ∃ aF aG aH, Q aF ∧ v = aG ∧ Ext w w' ∧ OD aH aG aF ∧ Sub aH w' ∧ Fresh w.heap.size aH ∧ CanV aG aF := by
 obtain ⟨a, c, rfl⟩ := r.shape
 refine enter (args := [sl a x c]) 23 Try.func79 rfl rfl rfl ?_
 refine Wo [(0, sl a x c)] ⟨rfl, trivial⟩ fun ρ => ?_
 have X := Br emp w
 refine Wq (Wg (Lv ok 0 [(2, .slice none 0 0)] 1 rfl rfl (Ln _ rfl (Wq (Wg (Lv ok 0 [(6, sl a x c), (7, I (ln x))] 2 rfl rfl ?_))))))
 obtain ⟨hn, hb, H⟩ := H
 refine LP_maked (β := Int) 2 rfl rfl rfl Try.underlying23 ti_22 rfl hn (by first | omega | (simp only [ln] at *; omega)) (by first | omega | (simp only [ln] at *; omega)) fun aD a7 wx aJ o aW f => ?_
 obtain ⟨aB, aC, rfl⟩ := o.shape
 refine Lv ok 3 [(3, .slice aB (List.length (List.replicate (Int.toNat (ln x)) (([] : List Int)))) aC)] 4 rfl rfl (Ln _ rfl (Wq (Wq (Wg (Lv ok 0 [(9, sl a x c), (10, I (ln x)), (11, I 0)] 3 rfl rfl (Ln _ rfl (W_block ?_)))))))
 obtain ⟨hz, H⟩ := H
 obtain ⟨J, m, Hx, H⟩ := H
 refine W_loop (S := (List (List Int)) × Int) (fun s ρ' w' => J s.1 s.2 ∧ ∃ (ρ : Env) (aE : PH), ρ' = setAll [(3, .slice aB (List.length (List.replicate (Int.toNat (ln x)) (([] : List Int)))) aC), (9, sl a x c), (10, I (ln x)), (11, I s.2)] ρ ∧ But aD wx w' ∧ OD aE (.slice aB (List.length (List.replicate (Int.toNat (ln x)) (([] : List Int)))) aC) s.1 ∧ Sub aE w' ∧ DomLe aD wx.heap.size aE ∧ CanV (.slice aB (List.length (List.replicate (Int.toNat (ln x)) (([] : List Int)))) aC) s.1) (fun s => m s.1 s.2) (List.replicate (Int.toNat (ln x)) (([] : List Int)), 0) ⟨Hx, _, aD, Ee ⟨rfl, rfl, rfl, rfl, trivial⟩, (Br _ _), o, aW, (Oe (Or _) _), (can_of o.readf hz)⟩ ?_
 rintro ⟨out, aA⟩ _ aX ⟨Hi, ρ, aE, rfl, HF⟩
 revert HF
 refine bb5 fun X14 aK aI aL cn => ?_
 have H := H out aA Hi
 refine Wq (Wg (Lv ok 0 [(12, .bool (decide (aA < (ln x))))] 1 rfl rfl (Ln _ rfl (Wq ?_))))
 refine Wc (decide (aA < (ln x))) rfl (fun hc => ?_) (fun hc => ?_)
 ·have H := H.1 hc
  refine Wk (Wq (W_block (Wq (Wg (Lv ok 0 [(13, I aA)] 1 rfl rfl ?_)))))
  obtain ⟨aM, hi, aY, H⟩ := H
  refine Li 1 rfl rfl rfl Try.underlying23 ti_22 rfl rfl r hi aY fun a8 cs aZ d => ?_
  have aN := ((ex.ext aJ).but X14 (Df ex f).symm)
  refine Lo 2 rfl rfl rfl ti_22 ag_22 rfl aZ d aN fun a9 a0 => ?_
  have aO := a0.slice
  obtain ⟨aP, aQ, rfl⟩ := aO.shape
  refine Lv ok 3 [(4, I aA), (5, sl aP aM aQ)] 5 rfl rfl (Ln _ rfl (Wg (Lv ok 0 [(16, .slice aB (List.length (List.replicate (Int.toNat (ln x)) (([] : List Int)))) aC), (17, I aA), (18, sl aP aM aQ)] 3 rfl rfl (Lc 3 rfl rfl rfl cal_101 rfl (slices_Clone_int_int_w _ _ H aX aO aN) ?_))))
  rintro _ bA ⟨aR, bB, bC, H, rfl, aS, aT, a1, aU⟩
  obtain ⟨bD, bE, rfl⟩ := aT.shape
  obtain ⟨a2, hl, H⟩ := H
  refine LP_indexd (v := .slice aB (List.length (List.replicate (Int.toNat (ln x)) (([] : List Int)))) aC) 4 rfl rfl rfl Try.underlying23 ti_22 rfl rfl aK a2 hl fun bF wa => (LP_setD (y := aR) 5 rfl rfl rfl rfl rfl wa (OD.rvo (OS.od aT)) (aI.ext aS) a1 (Df aI aU) fun a3 hw bG a4 a5 y dh dq bH => (Ln _ rfl (Wg (Lv ok 0 [(21, I (wr (aA + 1))), (11, I (wr (aA + 1)))] 2 rfl rfl ?_))))
  refine Ln _ rfl ?_
  have dl : DomLe aD wx.heap.size aE := (Mt (Oe (Or _) _) aL (Nat.le_refl _))
  exact ⟨(List.set out (Int.toNat aA) aR, wr (aA + 1)), ⟨H.1, _, a3, Ee ⟨rfl, rfl, rfl, rfl, trivial⟩, ((((Br aD _).step X14 (Oe (Or _) _)).stepx aS).step (But.dom y dh) dl), a4, a5, (Mt (Mu dl ((aU.mono X14.size).dom _)) (Oe dq _) (Nat.le_refl _)), (CanV.len (by simp) cn)⟩, H.2⟩
 have H := H.2 hc
 refine W_exit ?_
 refine (if_pos rfl).mpr ?_
 refine Wq (Wg (Lv ok 0 [(22, .slice aB (List.length (List.replicate (Int.toNat (ln x)) (([] : List Int)))) aC), (2, .slice aB (List.length (List.replicate (Int.toNat (ln x)) (([] : List Int)))) aC)] 2 rfl rfl (Ln _ rfl (W_ret ?_))))
 have aV := f.mono X.size
 have X47 := (X.stepx aJ)
 have a6 := DomLe.fresh aL aV X47.size
 exact ⟨_, Ret_of [.slice aB (List.length (List.replicate (Int.toNat (ln x)) (([] : List Int)))) aC] ⟨⟨rfl, rfl⟩, trivial⟩, _, _, _, H, rfl, (X47.step X14 (aV.dom _)).ext, aK, aI, a6, cn⟩

theorem impl_restore_w (t : Transport) (x : List (List Int)) (aF : List (List Int)) (fixed : Int) (Q : (List (List Int)) → Prop) (H : impl_restore t x aF fixed Q) (w : World) {vx : Value} {hx : PH} (r : RS hx vx t.Rows) (ex : Sub hx w) {bN : Value} {bO : PH} (cT : RS bO bN t.Cols) (eG : Sub bO w) {bP : Value} {bQ : PH} (cU : RS bQ bP t.Lo) (eH : Sub bQ w) {bR : Value} {bS : PH} (bT : RS bS bR t.Hi) (bU : Sub bS w) {bV : Value} {bW : PH} (bX : RS bW bV x) (cV : Sub bW w) {bY : Value} {bZ : PH} (b0 : RS bZ bY aF) (b1 : Sub bZ w) :
  CallsTo Try.prog 91 #[.agg #[vx, bN, bP, bR], bV, bY, I fixed] w fun v w' => ∃ a2 a3 a4, Q a2 ∧ v = a3 ∧ Ext w w' ∧ OD a4 a3 a2 ∧ Sub a4 w' ∧ Fresh w.heap.size a4 ∧ CanV a3 a2 := by
 obtain ⟨a, c, rfl⟩ := r.shape
 obtain ⟨aW, aX, rfl⟩ := cT.shape
 obtain ⟨a5, a6, rfl⟩ := cU.shape
 obtain ⟨aP, aQ, rfl⟩ := bT.shape
 obtain ⟨a7, a8, rfl⟩ := bX.shape
 obtain ⟨aI, aJ, rfl⟩ := b0.shape
 refine enter (args := [.agg #[sl a t.Rows c, sl aW t.Cols aX, sl a5 t.Lo a6, sl aP t.Hi aQ], sl a7 x a8, sl aI aF aJ, I fixed]) 69 Try.func91 rfl rfl rfl ?_
 refine Wo [(0, .agg #[sl a t.Rows c, sl aW t.Cols aX, sl a5 t.Lo a6, sl aP t.Hi aQ]), (1, sl a7 x a8), (2, sl aI aF aJ), (3, I fixed)] ⟨rfl, rfl, rfl, rfl, trivial⟩ fun ρ => ?_
 have X := Br emp w
 refine Wq (Wg (Ly 0 (cs := [sl a t.Rows c, sl aW t.Cols aX, sl a5 t.Lo a6, sl aP t.Hi aQ]) rfl rfl rfl rfl rfl fun b wx cW aY f => (Lv ok 1 [(8, .slice none 0 0)] 2 rfl rfl (Ln _ rfl (Wq ?_)))))
 refine W_quiet mix (by kernel_rfl) ?_
 refine QP_ev ok 0 [(14, pb b)] 1 rfl rfl ?_
 refine QP_ldbox 1 (v := sl a t.Rows c) rfl rfl rfl ti_22 ag_22 (fun _ => rfl) rfl aY rfl rfl ?_
 refine QP_ev ok 2 [(16, I (ln t.Rows)), (17, .pointer (some ⟨b, 1, none⟩))] 4 rfl rfl ?_
 refine QP_ldbox 4 (v := sl aW t.Cols aX) rfl rfl rfl ti_22 ag_22 (fun _ => rfl) rfl aY rfl rfl ?_
 refine QP_ev ok 5 [(19, I (ln t.Cols)), (9, I (ln t.Rows)), (10, I (ln t.Cols))] 8 rfl rfl ?_
 refine QP_end _ rfl fun cX a9 => ?_
 refine Wq (Wg (Lv ok 0 [(20, sl a7 x a8)] 1 rfl rfl ?_))
 have xc := (cW.trans a9)
 refine Lc 1 rfl rfl rfl cal_79 rfl (impl_copyMatrix_w _ _ H cX bX (cV.ext xc)) ?_
 rintro _ bA ⟨aB, eI, aR, H, rfl, aK, o, cY, aS, cn⟩
 obtain ⟨aD, aE, rfl⟩ := o.shape
 refine Lv ok 2 [(11, sl aD aB aE)] 3 rfl rfl (Ln _ rfl (Wq (Wq (Wg (Lv ok 0 [(22, sl aD aB aE), (23, I (ln aB)), (24, I 0)] 3 rfl rfl (Ln _ rfl (W_block ?_)))))))
 obtain ⟨J, m, Hx, H⟩ := H
 refine W_loop (S := (List (List Int)) × Int) (fun s ρ' w' => J s.1 s.2 ∧ ∃ (ρ : Env) (aG : PH), ρ' = setAll [(2, sl aI aF aJ), (3, I fixed), (4, pb b), (9, I (ln t.Rows)), (10, I (ln t.Cols)), (11, sl aD aB aE), (23, I (ln aB)), (24, I s.2)] ρ ∧ But aR bA w' ∧ OD aG (sl aD aB aE) s.1 ∧ Sub aG w' ∧ DomLe aR bA.heap.size aG ∧ CanV (sl aD aB aE) s.1) (fun s => m s.1 s.2) (aB, 0) ⟨Hx, _, aR, Ee ⟨rfl, rfl, rfl, rfl, rfl, rfl, rfl, rfl, trivial⟩, (Br _ _), o, cY, (Oe (Or _) _), cn⟩ ?_
 rintro ⟨out, aA⟩ _ bB ⟨Hi, ρ, aG, rfl, HF⟩
 revert HF
 refine bb5 fun X54 bC bD aT b2 => ?_
 have H := H out aA Hi
 refine Wq (Wg (Lv ok 0 [(25, .bool (decide (aA < (ln aB))))] 1 rfl rfl (Ln _ rfl (Wq ?_))))
 refine Wc (decide (aA < (ln aB))) rfl (fun hc => ?_) (fun hc => ?_)
 ·have H := H.1 hc
  refine Wk (Wq (W_block (Wq (Wg (Lv ok 0 [(26, I aA), (12, I aA)] 2 rfl rfl (Ln _ rfl (Wq (Wg (Lv ok 0 [(27, sl aD aB aE), (28, I aA)] 2 rfl rfl ?_)))))))))
  obtain ⟨aL, hi, cZ, H⟩ := H
  refine Li 2 rfl rfl rfl Try.underlying23 ti_22 rfl rfl bC.readf hi cZ fun eJ cs c0 d => (Lo 3 rfl rfl rfl ti_22 ag_22 rfl c0 d bD fun eK c1 => ?_)
  have c2 := c1.slice
  obtain ⟨eL, eM, rfl⟩ := c2.shape
  refine Lv ok 4 [(31, I (ln aL)), (32, I 0)] 6 rfl rfl (Ln _ rfl (W_block ?_))
  obtain ⟨J74, c3, Hx76, H⟩ := H
  refine W_loop (S := (List (List Int)) × Int) (fun s ρ' w' => J74 s.1 s.2 ∧ ∃ (ρ : Env) (aH : PH), ρ' = setAll [(2, sl aI aF aJ), (3, I fixed), (4, pb b), (9, I (ln t.Rows)), (10, I (ln t.Cols)), (11, sl aD aB aE), (12, I aA), (23, I (ln aB)), (24, I aA), (31, I (ln aL)), (32, I s.2)] ρ ∧ But aG bB w' ∧ OD aH (sl aD aB aE) s.1 ∧ Sub aH w' ∧ DomLe aG bB.heap.size aH ∧ CanV (sl aD aB aE) s.1) (fun s => c3 s.1 s.2) (out, 0) ⟨Hx76, _, aG, Ee ⟨rfl, rfl, rfl, rfl, rfl, rfl, rfl, rfl, rfl, rfl, rfl, trivial⟩, (Br _ _), bC, bD, (Oe (Or _) _), b2⟩ ?_
  rintro ⟨aZ, aC⟩ _ b3 ⟨Hi, ρ, aH, rfl, HF⟩
  revert HF
  refine bb5 fun X73 bE bF b4 bG => ?_
  have H := H aZ aC Hi
  refine Wq (Wg (Lv ok 0 [(33, .bool (decide (aC < (ln aL))))] 1 rfl rfl (Ln _ rfl (Wq ?_))))
  refine Wc (decide (aC < (ln aL))) rfl (fun bH => ?_) (fun bH => ?_)
  ·have H := H.1 bH
   refine Wk ?_
   have b5 := (xc.trans aK)
   have dj := (Df (ex.ext xc) aS).symm
   have b6 := (bU.ext xc)
   have b7 := (Df b6 aS).symm
   have b8 := (b1.ext xc)
   have b9 := (Df b8 aS).symm
   have cA := (aY.ext a9)
   have cB := (Df cA aS).symm
   obtain ⟨k, hk, H⟩ := jn_elim H
   refine W_join2 (S := (List (List Int))) (fun s ρ' w' => k s ∧ ∃ (ρ : Env) (aU : PH), ρ' = setAll [(2, sl aI aF aJ), (3, I fixed), (4, pb b), (9, I (ln t.Rows)), (10, I (ln t.Cols)), (11, sl aD aB aE), (12, I aA), (23, I (ln aB)), (24, I aA), (31, I (ln aL)), (32, I aC)] ρ ∧ But aH b3 w' ∧ OD aU (sl aD aB aE) s ∧ Sub aU w' ∧ DomLe aH b3.heap.size aU ∧ CanV (sl aD aB aE) s) ?_ ?_
   ·refine W_block (Wq (Wg (Lv ok 0 [(34, I aC), (13, I aC)] 2 rfl rfl (Ln _ rfl (Wq (Wg (Lv ok 0 [(35, I aA), (36, I (ln t.Cols)), (37, I (wr (aA * (ln t.Cols)))), (38, I aC), (39, I (wr ((wr (aA * (ln t.Cols))) + aC))), (40, I fixed), (41, .bool (decide ((wr ((wr (aA * (ln t.Cols))) + aC)) > fixed)))] 7 rfl rfl (Ln _ rfl ?_))))))))
    refine Wc (decide ((wr ((wr (aA * (ln t.Cols))) + aC)) > fixed)) rfl (fun bI => ?_) (fun bI => ?_)
    ·have H := H.1 bI
     refine W_open mix fun eN aV => ?_
     refine AP_game 23 [[], [], [0, 1], [0, 1, 2], [], [], [5], [], [5, 6, 7], [5, 6, 7, 8], [], [5, 6, 7, 8, 9, 10], [5, 6, 7, 8, 9, 10, 11], [], [], [13, 14], [13, 14, 15], [], [], [17, 18], [13, 14, 15, 16, 17, 18, 19], [13, 14, 15, 16, 17, 18, 19, 20], [5, 6, 7, 8, 9, 10, 11, 12, 13, 14, 15, 16, 17, 18, 19, 20, 21], [0, 1, 2, 3, 4, 5, 6, 7, 8, 9, 10, 11, 12, 13, 14, 15, 16, 17, 18, 19, 20, 21, 22], [0, 1, 2, 3, 4, 5, 6, 7, 8, 9, 10, 11, 12, 13, 14, 15, 16, 17, 18, 19, 20, 21, 22, 23]] [[(11, none)], [(12, none)], [(42, some 0), (43, some 1)], [(44, some 2)], [(13, none)], [(4, none)], [(47, some 5)], [(12, none)], [(48, some 6), (49, some 7)], [(50, some 8)], [(13, none)], [(51, some 9), (52, some 10)], [(53, some 11)], [(2, none)], [(12, none)], [(55, some 13), (56, some 14)], [(57, some 15)], [(9, none)], [(13, none)], [(59, some 17), (60, some 18)], [(58, some 16), (61, some 19)], [(62, some 20)], [(54, some 12), (63, some 21)]] [(2, none), (3, none), (4, none), (9, none), (10, none), (11, none), (12, none), (23, none), (24, none), (31, none), (32, none), (45, some 3), (46, some 4), (64, some 22)] [(0, false), (1, false), (2, false), (3, false), (4, false), (5, false), (6, false), (7, false), (8, false), (9, false), (10, false), (11, false), (12, false), (13, false), (14, false), (15, false), (16, false), (17, false), (18, false), (19, false), (20, false), (21, false), (22, false)] (by kernel_rfl) (by kernel_rfl) ?_
     refine GS_ev ok [(11, sl aD aB aE)] (sl aD aB aE) rfl rfl (fun _ h => h) (fun _ => rfl) ?_
     refine GS_ev ok [(12, I aA)] (I aA) rfl rfl (fun _ h => h) (fun _ => rfl) ?_
     obtain ⟨aM, c4, c5, H⟩ := H
     obtain ⟨cC, u, c6, rest, c7, c8, bw⟩ := run_indexb Try.underlying23 ti_22 bE _ c4 c5
     refine GS_r0 [(42, sl aD aB aE), (43, I aA)] (.pointer (some cC)) rfl rfl (fun _ h => h) (fun _ _ => ex_index rfl rfl rfl (c7 _)) ?_
     have cD := bw.od
     obtain ⟨a0, a1, rfl⟩ := cD.shape
     have bJ := (bF.ext aV)
     have c9 := Sub.le bJ bw.le
     have dA : OS 3 c6 emp (sl a0 aM a1) aM := OD.flat cD
     refine GS_r1 [(44, .pointer (some cC))] (sl a0 aM a1) rfl rfl (fun _ h => h) (fun _ w e => ex_ldcell rfl ti_22 ag_22 rfl c8 e) bJ ?_
     refine GS_ev ok [(13, I aC)] (I aC) rfl rfl (fun _ h => h) (fun _ => rfl) ?_
     refine GS_ev ok [(4, pb b)] (.pointer (some ⟨b, 3, none⟩)) rfl rfl (fun _ h => h) (fun _ => rfl) ?_
     refine GS_r1 [(47, .pointer (some ⟨b, 3, none⟩))] (sl aP t.Hi aQ) rfl rfl (fun _ h => h) (fun _ w e => ex_ldbox rfl ti_23 ag_23 (fun _ => rfl) rfl e rfl rfl) ((((aY.ext (a9.trans aK)).but X54 cB).but X73 (Mj aT cB (cA.ext aK))).ext aV) ?_
     refine GS_ev ok [(12, I aA)] (I aA) rfl rfl (fun _ h => h) (fun _ => rfl) ?_
     obtain ⟨bK, dB, dC, H⟩ := H
     obtain ⟨cE, eO, dD, dE, dF⟩ := run_indexAt Try.underlying23 ti_22 bT .i64 _ bK dB dC
     refine GS_r0 [(48, sl aP t.Hi aQ), (49, I aA)] (.pointer (some cE)) rfl rfl (fun _ h => h) (fun _ _ => ex_index rfl rfl rfl (dD _)) ?_
     obtain ⟨eP, dG, dH⟩ := run_loadAt ti_22 ag_22 dE dF
     have cF := dH.slice
     obtain ⟨cG, cH, rfl⟩ := cF.shape
     have cI := ((((bU.ext b5).but X54 b7).but X73 (Mj aT b7 (b6.ext aK))).ext aV)
     refine GS_r1 [(50, .pointer (some cE))] (sl cG bK cH) rfl rfl (fun _ h => h) (fun _ w e => ex_load rfl rfl (dG w e)) cI ?_
     refine GS_ev ok [(13, I aC)] (I aC) rfl rfl (fun _ h => h) (fun _ => rfl) ?_
     obtain ⟨aN, dI, dJ, H⟩ := H
     obtain ⟨cJ, eQ, dK, dL, dM⟩ := run_indexAt Try.underlying22 ti_3 cF .i64 _ aN dI dJ
     refine GS_r0 [(51, sl cG bK cH), (52, I aC)] (.pointer (some cJ)) rfl rfl (fun _ h => h) (fun _ _ => ex_index rfl rfl rfl (dK _)) ?_
     obtain ⟨eR, dN, dO⟩ := run_loadAt ti_3 ag_3 dL dM
     obtain rfl := dO.int
     refine GS_r1 [(53, .pointer (some cJ))] (I aN) rfl rfl (fun _ h => h) (fun _ w e => ex_load rfl rfl (dN w e)) cI ?_
     refine GS_ev ok [(2, sl aI aF aJ)] (sl aI aF aJ) rfl rfl (fun _ h => h) (fun _ => rfl) ?_
     refine GS_ev ok [(12, I aA)] (I aA) rfl rfl (fun _ h => h) (fun _ => rfl) ?_
     obtain ⟨bL, dP, dQ, H⟩ := H
     obtain ⟨cK, eS, dR, dS, dT⟩ := run_indexAt Try.underlying23 ti_22 b0 .i64 _ bL dP dQ
     refine GS_r0 [(55, sl aI aF aJ), (56, I aA)] (.pointer (some cK)) rfl rfl (fun _ h => h) (fun _ _ => ex_index rfl rfl rfl (dR _)) ?_
     obtain ⟨eT, dU, dV⟩ := run_loadAt ti_22 ag_22 dS dT
     have cL := dV.slice
     obtain ⟨cM, cN, rfl⟩ := cL.shape
     have cO := ((((b1.ext b5).but X54 b9).but X73 (Mj aT b9 (b8.ext aK))).ext aV)
     refine GS_r1 [(57, .pointer (some cK))] (sl cM bL cN) rfl rfl (fun _ h => h) (fun _ w e => ex_load rfl rfl (dU w e)) cO ?_
     refine GS_ev ok [(9, I (ln t.Rows))] (I (ln t.Rows)) rfl rfl (fun _ h => h) (fun _ => rfl) ?_
     refine GS_ev ok [(13, I aC)] (I aC) rfl rfl (fun _ h => h) (fun _ => rfl) ?_
     refine GS_ev ok [(59, I (ln t.Rows)), (60, I aC)] (I (wr ((ln t.Rows) + aC))) rfl rfl (fun _ h => h) (fun _ => rfl) ?_
     obtain ⟨aO, dW, dX, H⟩ := H
     obtain ⟨cP, eU, dY, dZ, d0⟩ := run_indexAt Try.underlying22 ti_3 cL .i64 _ aO dW dX
     refine GS_r0 [(58, sl cM bL cN), (61, I (wr ((ln t.Rows) + aC)))] (.pointer (some cP)) rfl rfl (fun _ h => h) (fun _ _ => ex_index rfl rfl rfl (dY _)) ?_
     obtain ⟨eV, d1, d2⟩ := run_loadAt ti_3 ag_3 dZ d0
     obtain rfl := d2.int
     refine GS_r1 [(62, .pointer (some cP))] (I aO) rfl rfl (fun _ h => h) (fun _ w e => ex_load rfl rfl (d1 w e)) cO ?_
     refine GS_ev ok [(54, I aN), (63, I aO)] (I (wr (aN - aO))) rfl rfl (fun _ h => h) (fun _ => rfl) ?_
     intro eW bM ρ hn
     refine AP_forget [(2, sl aI aF aJ), (3, I fixed), (4, pb b), (9, I (ln t.Rows)), (10, I (ln t.Cols)), (11, sl aD aB aE), (12, I aA), (23, I (ln aB)), (24, I aA), (31, I (ln aL)), (32, I aC), (45, sl a0 aM a1), (46, I aC), (64, I (wr (aN - aO)))] (by exact hn) fun ρ => ?_
     refine AP_tail 23 [[], [], [0, 1], [0, 1, 2], [], [], [5], [], [5, 6, 7], [5, 6, 7, 8], [], [5, 6, 7, 8, 9, 10], [5, 6, 7, 8, 9, 10, 11], [], [], [13, 14], [13, 14, 15], [], [], [17, 18], [13, 14, 15, 16, 17, 18, 19], [13, 14, 15, 16, 17, 18, 19, 20], [5, 6, 7, 8, 9, 10, 11, 12, 13, 14, 15, 16, 17, 18, 19, 20, 21], [0, 1, 2, 3, 4, 5, 6, 7, 8, 9, 10, 11, 12, 13, 14, 15, 16, 17, 18, 19, 20, 21, 22], [0, 1, 2, 3, 4, 5, 6, 7, 8, 9, 10, 11, 12, 13, 14, 15, 16, 17, 18, 19, 20, 21, 22, 23]] (by kernel_rfl) ?_
     obtain ⟨d3, hl, H⟩ := H
     refine LP_indexw (v := sl a0 aM a1) 23 rfl rfl rfl Try.underlying22 ti_3 rfl rfl dA d3 hl fun eX wa => (LP_set 24 rfl rfl rfl rfl rfl wa (Le.refl emp) ⟨_, rfl, rfl⟩ (c9.ext bM) fun d4 eY d5 d6 y dm => ?_)
     obtain ⟨eZ, d7, dd⟩ := BwL.turn bw (OS.od d5) (Dom.of dm)
     have d8 := BwL.sub bw (bJ.ext bM) d6 y
     have d9 := BwL.but bw y
     refine Ln _ rfl ?_
     have cQ := (aV.trans bM)
     exact ⟨List.set aZ (Int.toNat aA) (List.set aM (Int.toNat aC) (wr (aN - aO))), H, _, (un d4 rest), Ee ⟨rfl, rfl, rfl, rfl, rfl, rfl, rfl, rfl, rfl, rfl, rfl, trivial⟩, (((Br aH _).stepx cQ).step d9 (Oe (Or _) _)), d7, d8, (Mt (Oe (Or _) _) ((fun n => Oe dd n) _) cQ.size), (CanV.len (by simp) bG)⟩
    have H := H.2 bI
    exact Wk ⟨aZ, H, _, aH, Ee ⟨rfl, rfl, rfl, rfl, rfl, rfl, rfl, rfl, rfl, rfl, rfl, trivial⟩, (Br _ _), bE, bF, (Oe (Or _) _), bG⟩
   rintro eA _ e0 ⟨H, ρ, aU, rfl, HF⟩
   revert HF
   refine bb5 fun X126 eB eC eD eE => ?_
   subst hk
   refine Wg (Lv ok 0 [(66, I (wr (aC + 1))), (32, I (wr (aC + 1)))] 2 rfl rfl (Ln _ rfl ?_))
   have dl : DomLe aG bB.heap.size aH := (Mt (Oe (Or _) _) b4 (Nat.le_refl _))
   exact ⟨(eA, wr (aC + 1)), ⟨H.1, _, aU, Ee ⟨rfl, rfl, rfl, rfl, rfl, rfl, rfl, rfl, rfl, rfl, rfl, trivial⟩, (((Br aG _).step X73 (Oe (Or _) _)).step X126 dl), eB, eC, (Mt dl eD X73.size), eE⟩, H.2⟩
  have H := H.2 bH
  refine W_exit ?_
  refine (if_pos rfl).mpr ?_
  refine Wg (Lv ok 0 [(67, I (wr (aA + 1))), (24, I (wr (aA + 1)))] 2 rfl rfl (Ln _ rfl ?_))
  have cR : DomLe aR bA.heap.size aG := (Mt (Oe (Or _) _) aT (Nat.le_refl _))
  exact ⟨(aZ, wr (aA + 1)), ⟨H.1, _, aH, Ee ⟨rfl, rfl, rfl, rfl, rfl, rfl, rfl, rfl, trivial⟩, (((Br aR _).step X54 (Oe (Or _) _)).step X73 cR), bE, bF, (Mt cR b4 X54.size), bG⟩, H.2⟩
 have H := H.2 hc
 refine W_exit ?_
 refine (if_pos rfl).mpr ?_
 refine Wq (Wg (Lv ok 0 [(68, sl aD aB aE), (8, sl aD aB aE)] 2 rfl rfl (Ln _ rfl (W_ret ?_))))
 have X216 := (X.stepx xc)
 have cS := aS.mono X216.size
 have X218 := (X216.stepx aK)
 have eF := DomLe.fresh aT cS X218.size
 exact ⟨_, Ret_of [sl aD aB aE] ⟨⟨rfl, rfl⟩, trivial⟩, _, _, _, H, rfl, (X218.step X54 (cS.dom _)).ext, bC, bD, eF, b2⟩

end Go.Proofs.Ytommbnkecafodaa
