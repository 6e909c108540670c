/- The walks: each Go function does what its meaning says. -/
import Derived.Test.YtbegmfmabcpofaaADefs
import Derived.Test.YtbegmfmabcpofaaProg
import Derived.KernelRfl
set_option linter.unusedVariables false
set_option autoImplicit false
namespace Go.Proofs.Ytbegmfmabcpofaa
open Go Go.RowKit Go.Gv

open Go.Proofs
def ty : Ty := Ty.of [(3, .int .i64), (4, .bool), (5, .int .u8), (22, .slice 3), (49, .slice 22), (71, .slice 5), (112, .int .u64)] [((114, 0), 0), ((114, 1), 1), ((114, 2), 2)] [(114, [.slice none 0 0, .int .i64 0, .int .u64 0], [(0, 1), (1, 1), (2, 1)])]
theorem fa114_0 : FldOk Try.prog 114 0 0 := fun _ _ => by kernel_rfl
theorem fa114_1 : FldOk Try.prog 114 1 1 := fun _ _ => by kernel_rfl
theorem fa114_2 : FldOk Try.prog 114 2 2 := fun _ _ => by kernel_rfl
theorem so114 : StrOk Try.prog 114 [.slice none 0 0, .int .i64 0, .int .u64 0] [(0, 1), (1, 1), (2, 1)] := StrOk.of (zc := #[.slice none 0 0, .int .i64 0, .int .u64 0]) Try.underlying114 (fun _ => by kernel_rfl) rfl (fun _ => by kernel_rfl)
theorem ok : TyOk Try.prog ty := .of ⟨Try.underlying3, Try.underlying4, Try.underlying5, Try.underlying22, Try.underlying49, Try.underlying71, Try.underlying112, trivial⟩ ⟨fa114_0, fa114_1, fa114_2, trivial⟩ ⟨so114, trivial⟩
theorem ti_3 : TyI Try.prog 3 1 8 (.int .i64 0) := .mk' (by kernel_rfl) rfl
theorem ti_5 : TyI Try.prog 5 1 1 (.int .u8 0) := .mk' (by kernel_rfl) rfl
theorem ti_22 : TyI Try.prog 22 1 24 (.slice none 0 0) := .mk' (by kernel_rfl) rfl
theorem ti_71 : TyI Try.prog 71 1 24 (.slice none 0 0) := .mk' (by kernel_rfl) rfl
theorem ti_112 : TyI Try.prog 112 1 8 (.int .u64 0) := .mk' (by kernel_rfl) rfl
theorem ag_3 : AggT Try.prog 3 false := ⟨_, Try.underlying3, by simp⟩
theorem ag_5 : AggT Try.prog 5 false := ⟨_, Try.underlying5, by simp⟩
theorem ag_22 : AggT Try.prog 22 false := ⟨_, Try.underlying22, by simp⟩
theorem ag_71 : AggT Try.prog 71 false := ⟨_, Try.underlying71, by simp⟩
theorem ag_112 : AggT Try.prog 112 false := ⟨_, Try.underlying112, by simp⟩
theorem mix : Try.prog.follows .mixedOrders = true := by kernel_rfl
theorem cal_20 : Callable Try.prog 20 := .mk Try.func20 rfl (by decide)
theorem cal_21 : Callable Try.prog 21 := .mk Try.func21 rfl (by decide)
theorem cal_22 : Callable Try.prog 22 := .mk Try.func22 rfl (by decide)
theorem cal_23 : Callable Try.prog 23 := .mk Try.func23 rfl (by decide)
theorem cal_24 : Callable Try.prog 24 := .mk Try.func24 rfl (by decide)
theorem cal_25 : Callable Try.prog 25 := .mk Try.func25 rfl (by decide)
theorem cal_26 : Callable Try.prog 26 := .mk Try.func26 rfl (by decide)
theorem cal_27 : Callable Try.prog 27 := .mk Try.func27 rfl (by decide)
theorem cal_28 : Callable Try.prog 28 := .mk Try.func28 rfl (by decide)
theorem cal_29 : Callable Try.prog 29 := .mk Try.func29 rfl (by decide)
theorem cal_39 : Callable Try.prog 39 := .mk Try.func39 rfl (by decide)
theorem cal_40 : Callable Try.prog 40 := .mk Try.func40 rfl (by decide)
theorem cal_41 : Callable Try.prog 41 := .mk Try.func41 rfl (by decide)
theorem cal_42 : Callable Try.prog 42 := .mk Try.func42 rfl (by decide)
theorem cal_43 : Callable Try.prog 43 := .mk Try.func43 rfl (by decide)
theorem cal_44 : Callable Try.prog 44 := .mk Try.func44 rfl (by decide)
theorem cal_57 : Callable Try.prog 57 := .mk Try.func57 rfl (by decide)
theorem cal_58 : Callable Try.prog 58 := .mk Try.func58 rfl (by decide)
theorem cal_59 : Callable Try.prog 59 := .mk Try.func59 rfl (by decide)
theorem cal_60 : Callable Try.prog 60 := .mk Try.func60 rfl (by decide)
theorem cal_61 : Callable Try.prog 61 := .mk Try.func61 rfl (by decide)
theorem cal_62 : Callable Try.prog 62 := .mk Try.func62 rfl (by decide)
theorem cal_63 : Callable Try.prog 63 := .mk Try.func63 rfl (by decide)
theorem cal_64 : Callable Try.prog 64 := .mk Try.func64 rfl (by decide)
theorem cal_69 : Callable Try.prog 69 := .mk Try.func69 rfl (by decide)
theorem cal_70 : Callable Try.prog 70 := .mk Try.func70 rfl (by decide)
theorem cal_71 : Callable Try.prog 71 := .mk Try.func71 rfl (by decide)
theorem cal_72 : Callable Try.prog 72 := .mk Try.func72 rfl (by decide)
theorem cal_73 : Callable Try.prog 73 := .mk Try.func73 rfl (by decide)
theorem cal_74 : Callable Try.prog 74 := .mk Try.func74 rfl (by decide)
theorem cal_75 : Callable Try.prog 75 := .mk Try.func75 rfl (by decide)
theorem cal_76 : Callable Try.prog 76 := .mk Try.func76 rfl (by decide)
theorem cal_77 : Callable Try.prog 77 := .mk Try.func77 rfl (by decide)
theorem cal_78 : Callable Try.prog 78 := .mk Try.func78 rfl (by decide)
theorem cal_79 : Callable Try.prog 79 := .mk Try.func79 rfl (by decide)
theorem cal_80 : Callable Try.prog 80 := .mk Try.func80 rfl (by decide)
theorem cal_81 : Callable Try.prog 81 := .mk Try.func81 rfl (by decide)
theorem cal_82 : Callable Try.prog 82 := .mk Try.func82 rfl (by decide)
theorem cal_83 : Callable Try.prog 83 := .mk Try.func83 rfl (by decide)
theorem cal_84 : Callable Try.prog 84 := .mk Try.func84 rfl (by decide)
theorem cal_85 : Callable Try.prog 85 := .mk Try.func85 rfl (by decide)
theorem cal_86 : Callable Try.prog 86 := .mk Try.func86 rfl (by decide)
theorem cal_87 : Callable Try.prog 87 := .mk Try.func87 rfl (by decide)
theorem cal_102 : Callable Try.prog 102 := .mk Try.func102 rfl (by decide)
theorem cal_103 : Callable Try.prog 103 := .mk Try.func103 rfl (by decide)
theorem cal_104 : Callable Try.prog 104 := .mk Try.func104 rfl (by decide)
theorem cal_105 : Callable Try.prog 105 := .mk Try.func105 rfl (by decide)
theorem cal_106 : Callable Try.prog 106 := .mk Try.func106 rfl (by decide)
theorem cal_118 : Callable Try.prog 118 := .mk Try.func118 rfl (by decide)
theorem cal_119 : Callable Try.prog 119 := .mk Try.func119 rfl (by decide)
theorem cal_120 : Callable Try.prog 120 := .mk Try.func120 rfl (by decide)
theorem cal_121 : Callable Try.prog 121 := .mk Try.func121 rfl (by decide)
theorem cal_122 : Callable Try.prog 122 := .mk Try.func122 rfl (by decide)
theorem cal_123 : Callable Try.prog 123 := .mk Try.func123 rfl (by decide)
theorem cal_124 : Callable Try.prog 124 := .mk Try.func124 rfl (by decide)
theorem cal_125 : Callable Try.prog 125 := .mk Try.func125 rfl (by decide)
theorem cal_126 : Callable Try.prog 126 := .mk Try.func126 rfl (by decide)
theorem cal_127 : Callable Try.prog 127 := .mk Try.func127 rfl (by decide)
theorem cal_128 : Callable Try.prog 128 := .mk Try.func128 rfl (by decide)
theorem cal_129 : Callable Try.prog 129 := .mk Try.func129 rfl (by decide)
theorem cal_130 : Callable Try.prog 130 := .mk Try.func130 rfl (by decide)
theorem cal_133 : Callable Try.prog 133 := .mk Try.func133 rfl (by decide)
theorem cal_134 : Callable Try.prog 134 := .mk Try.func134 rfl (by decide)
theorem cal_135 : Callable Try.prog 135 := .mk Try.func135 rfl (by decide)
theorem cal_136 : Callable Try.prog 136 := .mk Try.func136 rfl (by decide)
theorem cal_137 : Callable Try.prog 137 := .mk Try.func137 rfl (by decide)
theorem cal_138 : Callable Try.prog 138 := .mk Try.func138 rfl (by decide)
theorem cal_139 : Callable Try.prog 139 := .mk Try.func139 rfl (by decide)
theorem cal_140 : Callable Try.prog 140 := .mk Try.func140 rfl (by decide)
theorem cal_141 : Callable Try.prog 141 := .mk Try.func141 rfl (by decide)
theorem cal_142 : Callable Try.prog 142 := .mk Try.func142 rfl (by decide)
theorem cal_143 : Callable Try.prog 143 := .mk Try.func143 rfl (by decide)
theorem cal_144 : Callable Try.prog 144 := .mk Try.func144 rfl (by decide)
theorem cal_149 : Callable Try.prog 149 := .mk Try.func149 rfl (by decide)
theorem cal_150 : Callable Try.prog 150 := .mk Try.func150 rfl (by decide)
theorem cal_151 : Callable Try.prog 151 := .mk Try.func151 rfl (by decide)
theorem cal_152 : Callable Try.prog 152 := .mk Try.func152 rfl (by decide)
theorem cal_153 : Callable Try.prog 153 := .mk Try.func153 rfl (by decide)
theorem cal_154 : Callable Try.prog 154 := .mk Try.func154 rfl (by decide)
theorem cal_155 : Callable Try.prog 155 := .mk Try.func155 rfl (by decide)
theorem cal_156 : Callable Try.prog 156 := .mk Try.func156 rfl (by decide)

set_option maxRecDepth 8000 in
set_option maxHeartbeats 4000000 in
theorem spec_l1In_w (n : Int) (lo : Int) (hi : Int) (Q : Bool → Prop) (H : spec_l1In n lo hi Q) (w : World)  :
    CallsTo Try.prog 76 #[I n, I lo, I hi] w fun v w' => ∃ r0, Q r0 ∧ v = .bool r0 ∧ Ext w w' := by
  refine enter (args := [I n, I lo, I hi]) 15 Try.func76 rfl rfl rfl ?_
  refine W_forget [(0, I n), (1, I lo), (2, I hi)] ⟨rfl, rfl, rfl, trivial⟩ fun ρ => ?_
  have X := But.refl emp w
  refine W_seq ?_
  refine W_region ?_
  refine LP_ev ok 0 [(6, .bool false)] 1 rfl rfl ?_
  refine LP_end _ rfl ?_
  obtain ⟨k, hk, H⟩ := jn_elim H
  refine W_join2 (S := Bool) (fun s ρ' w' => k s ∧ ∃ (ρ : Env), ρ' = setAll [(6, .bool s)] ρ ∧ w = w') ?_ ?_
  · refine W_region ?_
    refine LP_ev ok 0 [(7, I n), (8, I lo), (9, .bool (decide (n ≥ lo))), (10, .bool (decide (n ≥ lo)))] 4 rfl rfl ?_
    refine LP_split 10 (decide (n ≥ lo)) rfl (fun hc => ?_) (fun hc => ?_)
    · have H := H.1 hc
      refine LP_ev ok 4 [(11, I n), (12, I hi), (13, .bool (decide (n ≤ hi))), (14, .bool (decide (n ≤ hi))), (6, .bool (decide (n ≤ hi)))] 9 rfl rfl ?_
      refine LP_end _ rfl ?_
      exact ⟨decide (n ≤ hi), H, _, env_eq ⟨rfl, trivial⟩, rfl⟩
    have H := H.2 hc
    refine LP_ev ok 4 [(11, undef), (12, undef), (13, undef), (14, .bool false), (6, .bool false)] 9 rfl rfl ?_
    refine LP_end _ rfl ?_
    exact ⟨false, H, _, env_eq ⟨rfl, trivial⟩, rfl⟩
  rintro x _ _ ⟨H, ρ, rfl, rfl⟩
  subst hk
  refine W_ret ?_
  exact ⟨_, Ret_of [.bool x] ⟨⟨rfl, rfl⟩, trivial⟩, _, H, rfl, X.ext⟩

set_option maxRecDepth 8000 in
set_option maxHeartbeats 4000000 in
theorem spec_MaskCounts_w (m : Int) (n : Int) (Q : (List Int) → Bool → Prop) (H : spec_MaskCounts m n Q) (w : World)  :
    CallsTo Try.prog 20 #[I m, I n] w fun v w' => ∃ r0 r1 u0 g0, Q r0 r1 ∧ v = .tuple #[u0, .bool r1] ∧ Ext w w' ∧ OS 3 g0 emp u0 r0 ∧ Sub g0 w' ∧ Fresh w.heap.size g0 := by
  refine enter (args := [I m, I n]) 55 Try.func20 rfl rfl rfl ?_
  refine W_forget [(0, I m), (1, I n)] ⟨rfl, rfl, trivial⟩ fun ρ => ?_
  have X := But.refl emp w
  refine W_seq ?_
  refine W_region ?_
  refine LP_ev ok 0 [(4, .slice none 0 0), (5, .bool false)] 2 rfl rfl ?_
  refine LP_end _ rfl ?_
  refine W_seq ?_
  obtain ⟨k, hk, H⟩ := jn_elim H
  refine W_join2 (S := Bool) (fun s ρ' w' => k s ∧ ∃ (ρ : Env), ρ' = setAll [(0, I m), (1, I n), (18, .bool s)] ρ ∧ But emp w w') ?_ ?_
  · refine W_region ?_
    refine LP_ev ok 0 [(11, I m)] 1 rfl rfl ?_
    refine LP_call 1 rfl rfl rfl cal_76 rfl (spec_l1In_w _ _ _ _ H w ) ?_
    rintro _ wx2 ⟨r, H, rfl, x3⟩
    refine LP_ev ok 2 [(13, .bool (!r)), (14, .bool (!r))] 4 rfl rfl ?_
    refine LP_split 14 (!r) rfl (fun hc => ?_) (fun hc => ?_)
    · have H := H.1 hc
      refine LP_ev ok 4 [(15, undef), (16, undef), (17, undef), (18, .bool true)] 8 rfl rfl ?_
      refine LP_end _ rfl ?_
      have X4 := (X.stepx x3)
      exact ⟨true, H, _, env_eq ⟨rfl, rfl, rfl, trivial⟩, X4⟩
    have H := H.2 hc
    refine LP_ev ok 4 [(15, I n)] 5 rfl rfl ?_
    refine LP_call 5 rfl rfl rfl cal_76 rfl (spec_l1In_w _ _ _ _ H wx2 ) ?_
    rintro _ wx6 ⟨r5, H, rfl, x7⟩
    refine LP_ev ok 6 [(17, .bool (!r5)), (18, .bool (!r5))] 8 rfl rfl ?_
    refine LP_end _ rfl ?_
    have X8 := ((X.stepx x3).stepx x7)
    exact ⟨!r5, H, _, env_eq ⟨rfl, rfl, rfl, trivial⟩, X8⟩
  rintro x _ wx ⟨H, ρ, rfl, X1⟩
  subst hk
  refine W_cond (x) rfl (fun hc9 => ?_) (fun hc9 => ?_)
  · have H := H.1 hc9
    refine W_seq ?_
    refine W_region ?_
    refine LP_ev ok 0 [(4, .slice none 0 0), (5, .bool false)] 2 rfl rfl ?_
    refine LP_end _ rfl ?_
    refine W_ret ?_
    exact ⟨_, Ret_of [.slice none 0 0, .bool false] ⟨⟨rfl, rfl⟩, ⟨rfl, rfl⟩, trivial⟩, _, _, _, emp, H, rfl, X1.ext, OS.nil, (emp_sub _), (emp_fresh _)⟩
  have H := H.2 hc9
  refine W_skip ?_
  refine W_seq ?_
  refine W_region ?_
  refine LP_ev ok 0 [(19, I m)] 1 rfl rfl ?_
  obtain ⟨hn, hb, H⟩ := H
  refine LP_make (α := Int) 1 rfl rfl rfl Try.underlying22 ti_3 (x0 := (0 : Int)) rfl rfl hn (by first | omega | (simp only [ln] at *; omega)) (by first | omega | (simp only [ln] at *; omega)) fun hx vx wx10 x11 o ex f => ?_
  obtain ⟨a, c, rfl⟩ := o.shape
  refine LP_ev ok 2 [(6, .slice a (List.length (List.replicate (Int.toNat m) ((0 : Int)))) c)] 3 rfl rfl ?_
  refine LP_end _ rfl ?_
  refine W_seq ?_
  refine W_region ?_
  refine LP_ev ok 0 [(21, .slice a (List.length (List.replicate (Int.toNat m) ((0 : Int)))) c)] 1 rfl rfl ?_
  obtain ⟨hi, hl, H⟩ := H
  refine LP_indexw 1 rfl rfl rfl Try.underlying22 ti_3 rfl rfl o hi hl fun a12 wa => ?_
  refine LP_set 2 rfl rfl rfl rfl rfl wa (Le.refl emp) ⟨_, rfl, rfl⟩ ex fun hx13 wx14 o15 ex16 y dm => ?_
  refine LP_end _ rfl ?_
  refine W_seq ?_
  refine W_block ?_
  obtain ⟨J, m27, Hx, H⟩ := H
  have f28 := f.mono X1.size
  have X29 := ((X1.stepx x11).step y (f28.dom _))
  have X31 := (X1.stepx x11)
  have f30 := (dm _).fresh f28 X31.size
  refine W_loop (S := Int × (List Int)) (fun s ρ' w' => J s.1 s.2 ∧ ∃ (ρ : Env) (vx18 : Value) (hx19 : PH), ρ' = setAll [(0, I m), (1, I s.1), (6, vx18)] ρ ∧ But emp w w' ∧ OS 3 hx19 emp vx18 s.2 ∧ Sub hx19 w' ∧ Fresh w.heap.size hx19) (fun s => m27 s.1 s.2) (n, List.set (List.replicate (Int.toNat m) ((0 : Int))) (Int.toNat 0) 1) ⟨Hx, _, .slice a (List.length (List.replicate (Int.toNat m) ((0 : Int)))) c, hx13, env_eq ⟨rfl, rfl, rfl, trivial⟩, X29, o15, ex16, f30⟩ ?_
  rintro ⟨n17, counts⟩ _ wx23 ⟨Hi, ρ, vx18, hx19, rfl, X26, o20, ex21, f22⟩
  have H := H n17 counts Hi
  obtain ⟨a24, c25, rfl⟩ := o20.shape
  refine W_seq ?_
  refine W_seq ?_
  refine W_region ?_
  refine LP_ev ok 0 [(23, I n17), (24, .bool (decide (n17 > 0)))] 2 rfl rfl ?_
  refine LP_end _ rfl ?_
  refine W_cond (decide (n17 > 0)) rfl (fun hc32 => ?_) (fun hc32 => ?_)
  · have H := H.1 hc32
    refine W_skip ?_
    refine W_seq ?_
    refine W_block ?_
    refine W_seq ?_
    refine W_region ?_
    refine LP_ev ok 0 [(27, I m)] 1 rfl rfl ?_
    obtain ⟨hn33, hb34, H⟩ := H
    refine LP_make (α := Int) 1 rfl rfl rfl Try.underlying22 ti_3 (x0 := (0 : Int)) rfl rfl hn33 (by first | omega | (simp only [ln] at *; omega)) (by first | omega | (simp only [ln] at *; omega)) fun hx35 vx36 wx37 x38 o39 ex40 f41 => ?_
    obtain ⟨a42, c43, rfl⟩ := o39.shape
    refine LP_ev ok 2 [(7, .slice a42 (List.length (List.replicate (Int.toNat m) ((0 : Int)))) c43)] 3 rfl rfl ?_
    refine LP_end _ rfl ?_
    refine W_seq ?_
    refine W_seq ?_
    refine W_region ?_
    refine LP_ev ok 0 [(29, .slice a24 (List.length counts) c25), (30, I (ln counts)), (31, I 0)] 3 rfl rfl ?_
    refine LP_end _ rfl ?_
    refine W_block ?_
    obtain ⟨J53, m54, Hx55, H⟩ := H
    have X56 := (X26.stepx x38)
    have f57 := f41.mono X26.size
    have ex58 := (ex21.ext x38)
    refine W_loop (S := (List Int) × Int) (fun s ρ' w' => J53 s.1 s.2 ∧ ∃ (ρ : Env) (hx45 : PH), ρ' = setAll [(0, I m), (1, I n17), (7, .slice a42 (List.length (List.replicate (Int.toNat m) ((0 : Int)))) c43), (29, .slice a24 (List.length counts) c25), (30, I (ln counts)), (31, I s.2)] ρ ∧ But emp w w' ∧ OS 3 hx45 emp (.slice a42 (List.length (List.replicate (Int.toNat m) ((0 : Int)))) c43) s.1 ∧ Sub hx45 w' ∧ Fresh w.heap.size hx45 ∧ Sub hx19 w' ∧ Dj hx45 hx19) (fun s => m54 s.1 s.2) (List.replicate (Int.toNat m) ((0 : Int)), 0) ⟨Hx55, _, hx35, env_eq ⟨rfl, rfl, rfl, rfl, rfl, rfl, trivial⟩, X56, o39, ex40, f57, ex58, (Dj.of_fresh ex21 f41).symm⟩ ?_
    rintro ⟨nextx, x49⟩ _ wx50 ⟨Hi, ρ, hx45, rfl, X52, o46, ex47, f48, ex51, d⟩
    have H := H nextx x49 Hi
    refine W_seq ?_
    refine W_region ?_
    refine LP_ev ok 0 [(32, .bool (decide (x49 < (ln counts))))] 1 rfl rfl ?_
    refine LP_end _ rfl ?_
    refine W_seq ?_
    refine W_cond (decide (x49 < (ln counts))) rfl (fun hc60 => ?_) (fun hc60 => ?_)
    · have H := H.1 hc60
      refine W_skip ?_
      refine W_seq ?_
      refine W_block ?_
      refine W_seq ?_
      refine W_region ?_
      refine LP_ev ok 0 [(33, I x49)] 1 rfl rfl ?_
      obtain ⟨x61, hi62, hx63, H⟩ := H
      refine LP_index 1 rfl rfl rfl Try.underlying22 ti_3 rfl rfl o20.readf hi62 hx63 fun a64 cs r65 d66 => ?_
      refine LP_load 2 rfl rfl rfl ti_3 ag_3 rfl r65 d66 ex51 fun vx67 r68 => ?_
      obtain rfl := r68.int
      refine LP_ev ok 3 [(8, I x49), (9, I x61)] 5 rfl rfl ?_
      refine LP_end _ rfl ?_
      refine W_seq ?_
      refine W_region ?_
      refine LP_ev ok 0 [(10, I 0)] 1 rfl rfl ?_
      refine LP_end _ rfl ?_
      refine W_block ?_
      obtain ⟨J80, m81, Hx82, H⟩ := H
      refine W_loop (S := (List Int) × Int) (fun s ρ' w' => J80 s.1 s.2 ∧ ∃ (ρ : Env) (hx71 : PH), ρ' = setAll [(0, I m), (1, I n17), (7, .slice a42 (List.length (List.replicate (Int.toNat m) ((0 : Int)))) c43), (8, I x49), (9, I x61), (10, I s.2), (29, .slice a24 (List.length counts) c25), (30, I (ln counts)), (31, I x49)] ρ ∧ But emp w w' ∧ OS 3 hx71 emp (.slice a42 (List.length (List.replicate (Int.toNat m) ((0 : Int)))) c43) s.1 ∧ Sub hx71 w' ∧ Fresh w.heap.size hx71 ∧ Sub hx19 w' ∧ Dj hx71 hx19) (fun s => m81 s.1 s.2) (nextx, 0) ⟨Hx82, _, hx45, env_eq ⟨rfl, rfl, rfl, rfl, rfl, rfl, rfl, rfl, rfl, trivial⟩, X52, o46, ex47, f48, ex51, d⟩ ?_
      rintro ⟨nextx69, x75⟩ _ wx76 ⟨Hi, ρ, hx71, rfl, X79, o72, ex73, f74, ex77, d78⟩
      have H := H nextx69 x75 Hi
      refine W_seq ?_
      refine W_seq ?_
      refine W_region ?_
      refine LP_ev ok 0 [(36, I x75), (37, I m), (38, .bool (decide (x75 < m)))] 3 rfl rfl ?_
      refine LP_end _ rfl ?_
      refine W_cond (decide (x75 < m)) rfl (fun hc84 => ?_) (fun hc84 => ?_)
      · have H := H.1 hc84
        refine W_skip ?_
        refine W_seq ?_
        refine W_block ?_
        refine W_region ?_
        refine LP_ev ok 0 [(41, .slice a42 (List.length (List.replicate (Int.toNat m) ((0 : Int)))) c43), (42, I x49), (43, I x75), (44, I (wr (x49 + x75))), (45, I m)] 5 rfl rfl ?_
        obtain ⟨hz, H⟩ := H
        refine LP_val 5 _ rfl rfl (ex_rem rfl rfl rfl hz _) ?_
        obtain ⟨x85, hi86, hx87, H⟩ := H
        refine LP_index 6 rfl rfl rfl Try.underlying22 ti_3 rfl rfl o72.readf hi86 hx87 fun a88 cs89 r90 d91 => ?_
        refine LP_load 7 rfl rfl rfl ti_3 ag_3 rfl r90 d91 ex73 fun vx92 r93 => ?_
        obtain rfl := r93.int
        refine LP_ev ok 8 [(49, I x61), (50, I (wr (x85 + x61)))] 10 rfl rfl ?_
        obtain ⟨hi94, hl95, H⟩ := H
        refine LP_indexw 10 rfl rfl rfl Try.underlying22 ti_3 rfl rfl o72 hi94 hl95 fun a96 wa97 => ?_
        refine LP_set 11 rfl rfl rfl rfl rfl wa97 (Le.refl emp) ⟨_, rfl, rfl⟩ ex73 fun hx98 wx99 o100 ex101 y102 dm103 => ?_
        refine LP_end _ rfl ?_
        refine W_region ?_
        refine LP_ev ok 0 [(39, I x75), (40, I (wr (x75 + 1))), (10, I (wr (x75 + 1)))] 3 rfl rfl ?_
        refine LP_end _ rfl ?_
        have X104 := (X79.step y102 (f74.dom _))
        have f105 := (dm103 _).fresh f74 X79.size
        have ex106 := (ex77.but y102 d78)
        exact ⟨(List.set nextx69 (Int.toNat (Int.tmod (wr (x49 + x75)) m)) (wr (x85 + x61)), wr (x75 + 1)), ⟨H.1, _, hx98, env_eq ⟨rfl, rfl, rfl, rfl, rfl, rfl, rfl, rfl, rfl, trivial⟩, X104, o100, ex101, f105, ex106, (DomLe.dj (dm103 _) d78 ex77)⟩, H.2⟩
      have H := H.2 hc84
      refine W_exit ?_
      refine (if_pos rfl).mpr ?_
      refine W_region ?_
      refine LP_ev ok 0 [(52, I (wr (x49 + 1))), (31, I (wr (x49 + 1)))] 2 rfl rfl ?_
      refine LP_end _ rfl ?_
      exact ⟨(nextx69, wr (x49 + 1)), ⟨H.1, _, hx71, env_eq ⟨rfl, rfl, rfl, rfl, rfl, rfl, trivial⟩, X79, o72, ex73, f74, ex77, d78⟩, H.2⟩
    have H := H.2 hc60
    refine W_exit ?_
    refine (if_pos rfl).mpr ?_
    refine W_region ?_
    refine LP_ev ok 0 [(53, .slice a42 (List.length (List.replicate (Int.toNat m) ((0 : Int)))) c43), (6, .slice a42 (List.length (List.replicate (Int.toNat m) ((0 : Int)))) c43)] 2 rfl rfl ?_
    refine LP_end _ rfl ?_
    refine W_region ?_
    refine LP_ev ok 0 [(25, I n17), (26, I (wr (n17 - 1))), (1, I (wr (n17 - 1)))] 3 rfl rfl ?_
    refine LP_end _ rfl ?_
    exact ⟨(wr (n17 - 1), nextx), ⟨H.1, _, .slice a42 (List.length (List.replicate (Int.toNat m) ((0 : Int)))) c43, hx45, env_eq ⟨rfl, rfl, rfl, trivial⟩, X52, o46, ex47, f48⟩, H.2⟩
  have H := H.2 hc32
  refine W_exit ?_
  refine (if_pos rfl).mpr ?_
  refine W_seq ?_
  refine W_region ?_
  refine LP_ev ok 0 [(54, .slice a24 (List.length counts) c25), (4, .slice a24 (List.length counts) c25), (5, .bool true)] 3 rfl rfl ?_
  refine LP_end _ rfl ?_
  refine W_ret ?_
  exact ⟨_, Ret_of [.slice a24 (List.length counts) c25, .bool true] ⟨⟨rfl, rfl⟩, ⟨rfl, rfl⟩, trivial⟩, _, _, _, _, H, rfl, X26.ext, o20, ex21, f22⟩

set_option maxRecDepth 8000 in
set_option maxHeartbeats 4000000 in
theorem impl_MaskCounts_w (m : Int) (n : Int) (Q : (List Int) → Bool → Prop) (H : impl_MaskCounts m n Q) (w : World)  :
    CallsTo Try.prog 21 #[I m, I n] w fun v w' => ∃ r0 r1 u0 g0, Q r0 r1 ∧ v = .tuple #[u0, .bool r1] ∧ Ext w w' ∧ OS 3 g0 emp u0 r0 ∧ Sub g0 w' ∧ Fresh w.heap.size g0 := by
  refine enter (args := [I m, I n]) 44 Try.func21 rfl rfl rfl ?_
  refine W_forget [(0, I m), (1, I n)] ⟨rfl, rfl, trivial⟩ fun ρ => ?_
  have X := But.refl emp w
  refine W_seq ?_
  refine W_region ?_
  refine LP_ev ok 0 [(4, .slice none 0 0), (5, .bool false)] 2 rfl rfl ?_
  refine LP_end _ rfl ?_
  refine W_seq ?_
  obtain ⟨k, hk, H⟩ := jn_elim H
  refine W_join2 (S := Bool) (fun s ρ' w' => k s ∧ ∃ (ρ : Env), ρ' = setAll [(0, I m), (1, I n), (22, .bool s)] ρ ∧ w = w') ?_ ?_
  · refine W_region ?_
    refine LP_ev ok 0 [(9, I m), (10, .bool (decide (m < 2))), (11, .bool (decide (m < 2)))] 3 rfl rfl ?_
    refine LP_split 11 (decide (m < 2)) rfl (fun hc => ?_) (fun hc => ?_)
    · have H := H.1 hc
      refine LP_ev ok 3 [(12, undef), (13, undef), (14, .bool true), (15, .bool true), (16, undef), (17, undef), (18, .bool true), (19, .bool true), (20, undef), (21, undef), (22, .bool true)] 14 rfl rfl ?_
      refine LP_end _ rfl ?_
      exact ⟨true, H, _, env_eq ⟨rfl, rfl, rfl, trivial⟩, rfl⟩
    have H := H.2 hc
    refine LP_ev ok 3 [(12, I m), (13, .bool (decide (m > 20))), (14, .bool (decide (m > 20))), (15, .bool (decide (m > 20)))] 7 rfl rfl ?_
    refine LP_split 15 (decide (m > 20)) rfl (fun hc1 => ?_) (fun hc1 => ?_)
    · have H := H.1 hc1
      refine LP_ev ok 7 [(16, undef), (17, undef), (18, .bool true), (19, .bool true), (20, undef), (21, undef), (22, .bool true)] 14 rfl rfl ?_
      refine LP_end _ rfl ?_
      exact ⟨true, H, _, env_eq ⟨rfl, rfl, rfl, trivial⟩, rfl⟩
    have H := H.2 hc1
    refine LP_ev ok 7 [(16, I n), (17, .bool (decide (n < 1))), (18, .bool (decide (n < 1))), (19, .bool (decide (n < 1)))] 11 rfl rfl ?_
    refine LP_split 19 (decide (n < 1)) rfl (fun hc2 => ?_) (fun hc2 => ?_)
    · have H := H.1 hc2
      refine LP_ev ok 11 [(20, undef), (21, undef), (22, .bool true)] 14 rfl rfl ?_
      refine LP_end _ rfl ?_
      exact ⟨true, H, _, env_eq ⟨rfl, rfl, rfl, trivial⟩, rfl⟩
    have H := H.2 hc2
    refine LP_ev ok 11 [(20, I n), (21, .bool (decide (n > 3))), (22, .bool (decide (n > 3)))] 14 rfl rfl ?_
    refine LP_end _ rfl ?_
    exact ⟨decide (n > 3), H, _, env_eq ⟨rfl, rfl, rfl, trivial⟩, rfl⟩
  rintro x _ _ ⟨H, ρ, rfl, rfl⟩
  subst hk
  refine W_cond (x) rfl (fun hc3 => ?_) (fun hc3 => ?_)
  · have H := H.1 hc3
    refine W_seq ?_
    refine W_region ?_
    refine LP_ev ok 0 [(4, .slice none 0 0), (5, .bool false)] 2 rfl rfl ?_
    refine LP_end _ rfl ?_
    refine W_ret ?_
    exact ⟨_, Ret_of [.slice none 0 0, .bool false] ⟨⟨rfl, rfl⟩, ⟨rfl, rfl⟩, trivial⟩, _, _, _, emp, H, rfl, X.ext, OS.nil, (emp_sub _), (emp_fresh _)⟩
  have H := H.2 hc3
  refine W_skip ?_
  refine W_seq ?_
  refine W_region ?_
  refine LP_ev ok 0 [(6, I 1)] 1 rfl rfl ?_
  refine LP_end _ rfl ?_
  refine W_seq ?_
  refine W_seq ?_
  refine W_region ?_
  refine LP_ev ok 0 [(23, I n), (24, I (wr (n - 1))), (25, I 0)] 3 rfl rfl ?_
  refine LP_end _ rfl ?_
  refine W_block ?_
  obtain ⟨J, m6, Hx, H⟩ := H
  refine W_loop (S := Int × Int) (fun s ρ' w' => J s.1 s.2 ∧ ∃ (ρ : Env), ρ' = setAll [(0, I m), (6, I s.1), (24, I (wr (n - 1))), (25, I s.2)] ρ ∧ w = w') (fun s => m6 s.1 s.2) (1, 0) ⟨Hx, _, env_eq ⟨rfl, rfl, rfl, rfl, trivial⟩, rfl⟩ ?_
  rintro ⟨each, x4⟩ _ _ ⟨Hi, ρ, rfl, rfl⟩
  have H := H each x4 Hi
  refine W_seq ?_
  refine W_region ?_
  refine LP_ev ok 0 [(26, .bool (decide (x4 < (wr (n - 1)))))] 1 rfl rfl ?_
  refine LP_end _ rfl ?_
  refine W_seq ?_
  refine W_cond (decide (x4 < (wr (n - 1)))) rfl (fun hc7 => ?_) (fun hc7 => ?_)
  · have H := H.1 hc7
    refine W_skip ?_
    refine W_seq ?_
    refine W_block ?_
    refine W_region ?_
    refine LP_ev ok 0 [(27, I each), (28, I m), (29, I (wr (each * m))), (6, I (wr (each * m)))] 4 rfl rfl ?_
    refine LP_end _ rfl ?_
    refine W_region ?_
    refine LP_ev ok 0 [(30, I (wr (x4 + 1))), (25, I (wr (x4 + 1)))] 2 rfl rfl ?_
    refine LP_end _ rfl ?_
    exact ⟨(wr (each * m), wr (x4 + 1)), ⟨H.1, _, env_eq ⟨rfl, rfl, rfl, rfl, trivial⟩, rfl⟩, H.2⟩
  have H := H.2 hc7
  refine W_exit ?_
  refine (if_pos rfl).mpr ?_
  refine W_seq ?_
  refine W_region ?_
  refine LP_ev ok 0 [(31, I m)] 1 rfl rfl ?_
  obtain ⟨hn, hb, H⟩ := H
  refine LP_make (α := Int) 1 rfl rfl rfl Try.underlying22 ti_3 (x0 := (0 : Int)) rfl rfl hn (by first | omega | (simp only [ln] at *; omega)) (by first | omega | (simp only [ln] at *; omega)) fun hx vx wx8 x9 o ex f => ?_
  obtain ⟨a, c, rfl⟩ := o.shape
  refine LP_ev ok 2 [(7, .slice a (List.length (List.replicate (Int.toNat m) ((0 : Int)))) c)] 3 rfl rfl ?_
  refine LP_end _ rfl ?_
  refine W_seq ?_
  refine W_seq ?_
  refine W_region ?_
  refine LP_ev ok 0 [(33, .slice a (List.length (List.replicate (Int.toNat m) ((0 : Int)))) c), (34, I (ln (List.replicate (Int.toNat m) ((0 : Int))))), (35, I 0)] 3 rfl rfl ?_
  refine LP_end _ rfl ?_
  refine W_block ?_
  obtain ⟨J18, m19, Hx20, H⟩ := H
  have X21 := (X.stepx x9)
  have f22 := f.mono X.size
  refine W_loop (S := (List Int) × Int) (fun s ρ' w' => J18 s.1 s.2 ∧ ∃ (ρ : Env) (hx11 : PH), ρ' = setAll [(6, I each), (7, .slice a (List.length (List.replicate (Int.toNat m) ((0 : Int)))) c), (34, I (ln (List.replicate (Int.toNat m) ((0 : Int))))), (35, I s.2)] ρ ∧ But emp w w' ∧ OS 3 hx11 emp (.slice a (List.length (List.replicate (Int.toNat m) ((0 : Int)))) c) s.1 ∧ Sub hx11 w' ∧ Fresh w.heap.size hx11) (fun s => m19 s.1 s.2) (List.replicate (Int.toNat m) ((0 : Int)), 0) ⟨Hx20, _, hx, env_eq ⟨rfl, rfl, rfl, rfl, trivial⟩, X21, o, ex, f22⟩ ?_
  rintro ⟨out, x15⟩ _ wx16 ⟨Hi, ρ, hx11, rfl, X17, o12, ex13, f14⟩
  have H := H out x15 Hi
  refine W_seq ?_
  refine W_region ?_
  refine LP_ev ok 0 [(36, .bool (decide (x15 < (ln (List.replicate (Int.toNat m) ((0 : Int)))))))] 1 rfl rfl ?_
  refine LP_end _ rfl ?_
  refine W_seq ?_
  refine W_cond (decide (x15 < (ln (List.replicate (Int.toNat m) ((0 : Int)))))) rfl (fun hc24 => ?_) (fun hc24 => ?_)
  · have H := H.1 hc24
    refine W_skip ?_
    refine W_seq ?_
    refine W_block ?_
    refine W_seq ?_
    refine W_region ?_
    refine LP_ev ok 0 [(37, I x15), (8, I x15)] 2 rfl rfl ?_
    refine LP_end _ rfl ?_
    refine W_region ?_
    refine LP_ev ok 0 [(38, .slice a (List.length (List.replicate (Int.toNat m) ((0 : Int)))) c), (39, I x15), (40, I each)] 3 rfl rfl ?_
    obtain ⟨hi, hl, H⟩ := H
    refine LP_indexw 3 rfl rfl rfl Try.underlying22 ti_3 rfl rfl o12 hi hl fun a25 wa => ?_
    refine LP_set 4 rfl rfl rfl rfl rfl wa (Le.refl emp) ⟨_, rfl, rfl⟩ ex13 fun hx26 wx27 o28 ex29 y dm => ?_
    refine LP_end _ rfl ?_
    refine W_region ?_
    refine LP_ev ok 0 [(42, I (wr (x15 + 1))), (35, I (wr (x15 + 1)))] 2 rfl rfl ?_
    refine LP_end _ rfl ?_
    have X30 := (X17.step y (f14.dom _))
    have f31 := (dm _).fresh f14 X17.size
    exact ⟨(List.set out (Int.toNat x15) each, wr (x15 + 1)), ⟨H.1, _, hx26, env_eq ⟨rfl, rfl, rfl, rfl, trivial⟩, X30, o28, ex29, f31⟩, H.2⟩
  have H := H.2 hc24
  refine W_exit ?_
  refine (if_pos rfl).mpr ?_
  refine W_seq ?_
  refine W_region ?_
  refine LP_ev ok 0 [(43, .slice a (List.length (List.replicate (Int.toNat m) ((0 : Int)))) c), (4, .slice a (List.length (List.replicate (Int.toNat m) ((0 : Int)))) c), (5, .bool true)] 3 rfl rfl ?_
  refine LP_end _ rfl ?_
  refine W_ret ?_
  exact ⟨_, Ret_of [.slice a (List.length (List.replicate (Int.toNat m) ((0 : Int)))) c, .bool true] ⟨⟨rfl, rfl⟩, ⟨rfl, rfl⟩, trivial⟩, _, _, _, _, H, rfl, X17.ext, o12, ex13, f14⟩

set_option maxRecDepth 8000 in
set_option maxHeartbeats 4000000 in
theorem laws_eqIntS_w (a : List Int) (b : List Int) (Q : Bool → Prop) (H : laws_eqIntS a b Q) (w : World) {vx : Value} {hx : PH} (r : RS hx vx a) (ex : Sub hx w) {vx2 : Value} {hx3 : PH} (r4 : RS hx3 vx2 b) (ex5 : Sub hx3 w) :
    CallsTo Try.prog 22 #[vx, vx2] w fun v w' => ∃ r0, Q r0 ∧ v = .bool r0 ∧ Ext w w' := by
  obtain ⟨a1, c, rfl⟩ := r.shape
  obtain ⟨a6, c7, rfl⟩ := r4.shape
  refine enter (args := [.slice a1 (List.length a) c, .slice a6 (List.length b) c7]) 26 Try.func22 rfl rfl rfl ?_
  refine W_forget [(0, .slice a1 (List.length a) c), (1, .slice a6 (List.length b) c7)] ⟨rfl, rfl, trivial⟩ fun ρ => ?_
  have X := But.refl emp w
  refine W_seq ?_
  refine W_region ?_
  refine LP_ev ok 0 [(4, .bool false)] 1 rfl rfl ?_
  refine LP_end _ rfl ?_
  refine W_seq ?_
  refine W_seq ?_
  refine W_region ?_
  refine LP_ev ok 0 [(6, .slice a1 (List.length a) c), (7, I (ln a)), (8, .slice a6 (List.length b) c7), (9, I (ln b)), (10, .bool ((ln a) != (ln b)))] 5 rfl rfl ?_
  refine LP_end _ rfl ?_
  refine W_cond ((ln a) != (ln b)) rfl (fun hc => ?_) (fun hc => ?_)
  · have H := H.1 hc
    refine W_seq ?_
    refine W_region ?_
    refine LP_ev ok 0 [(4, .bool false)] 1 rfl rfl ?_
    refine LP_end _ rfl ?_
    refine W_ret ?_
    exact ⟨_, Ret_of [.bool false] ⟨⟨rfl, rfl⟩, trivial⟩, _, H, rfl, X.ext⟩
  have H := H.2 hc
  refine W_skip ?_
  refine W_seq ?_
  refine W_seq ?_
  refine W_region ?_
  refine LP_ev ok 0 [(5, I 0)] 1 rfl rfl ?_
  refine LP_end _ rfl ?_
  refine W_block ?_
  obtain ⟨J, m, Hx, H⟩ := H
  refine W_loop (S := Int) (fun s ρ' w' => J s ∧ ∃ (ρ : Env), ρ' = setAll [(0, .slice a1 (List.length a) c), (1, .slice a6 (List.length b) c7), (5, I s)] ρ ∧ But emp w w' ∧ Sub hx w' ∧ Sub hx3 w') (fun s => m s) 0 ⟨Hx, _, env_eq ⟨rfl, rfl, rfl, trivial⟩, X, ex, ex5⟩ ?_
  rintro i _ wx ⟨Hi, ρ, rfl, X10, ex8, ex9⟩
  have H := H i Hi
  refine W_seq ?_
  refine W_seq ?_
  refine W_region ?_
  refine LP_ev ok 0 [(11, I i), (12, .slice a1 (List.length a) c), (13, I (ln a)), (14, .bool (decide (i < (ln a))))] 4 rfl rfl ?_
  refine LP_end _ rfl ?_
  refine W_cond (decide (i < (ln a))) rfl (fun hc11 => ?_) (fun hc11 => ?_)
  · have H := H.1 hc11
    refine W_skip ?_
    refine W_seq ?_
    refine W_block ?_
    refine W_seq ?_
    refine W_quiet mix (by kernel_rfl) ?_
    refine QP_ev ok 0 [(17, .slice a1 (List.length a) c), (18, I i)] 2 rfl rfl ?_
    obtain ⟨x, hi, hx12, H⟩ := H
    refine QP_index 2 rfl rfl rfl Try.underlying22 ti_3 rfl rfl r hi hx12 fun a13 cs r14 d => ?_
    refine QP_load 3 rfl rfl rfl ti_3 ag_3 rfl r14 d ex8 fun vx15 r16 => ?_
    obtain rfl := r16.int
    refine QP_ev ok 4 [(21, .slice a6 (List.length b) c7), (22, I i)] 6 rfl rfl ?_
    obtain ⟨x17, hi18, hx19, H⟩ := H
    refine QP_index 6 rfl rfl rfl Try.underlying22 ti_3 rfl rfl r4 hi18 hx19 fun a20 cs21 r22 d23 => ?_
    refine QP_load 7 rfl rfl rfl ti_3 ag_3 rfl r22 d23 ex9 fun vx24 r25 => ?_
    obtain rfl := r25.int
    refine QP_ev ok 8 [(25, .bool (x != x17))] 9 rfl rfl ?_
    refine QP_end _ rfl fun wx26 x27 => ?_
    refine W_cond (x != x17) rfl (fun hc28 => ?_) (fun hc28 => ?_)
    · have H := H.1 hc28
      refine W_seq ?_
      refine W_region ?_
      refine LP_ev ok 0 [(4, .bool false)] 1 rfl rfl ?_
      refine LP_end _ rfl ?_
      refine W_ret ?_
      have X29 := (X10.stepx x27)
      exact ⟨_, Ret_of [.bool false] ⟨⟨rfl, rfl⟩, trivial⟩, _, H, rfl, X29.ext⟩
    have H := H.2 hc28
    refine W_skip ?_
    refine W_region ?_
    refine LP_ev ok 0 [(15, I i), (16, I (wr (i + 1))), (5, I (wr (i + 1)))] 3 rfl rfl ?_
    refine LP_end _ rfl ?_
    have X30 := (X10.stepx x27)
    have ex31 := (ex8.ext x27)
    have ex32 := (ex9.ext x27)
    exact ⟨wr (i + 1), ⟨H.1, _, env_eq ⟨rfl, rfl, rfl, trivial⟩, X30, ex31, ex32⟩, H.2⟩
  have H := H.2 hc11
  refine W_exit ?_
  refine (if_pos rfl).mpr ?_
  refine W_seq ?_
  refine W_region ?_
  refine LP_ev ok 0 [(4, .bool true)] 1 rfl rfl ?_
  refine LP_end _ rfl ?_
  refine W_ret ?_
  exact ⟨_, Ret_of [.bool true] ⟨⟨rfl, rfl⟩, trivial⟩, _, H, rfl, X10.ext⟩

set_option maxRecDepth 8000 in
set_option maxHeartbeats 4000000 in
theorem laws_markIntS_w (a : List Int) (k : Int) (Q : Int → (List Int) → Prop) (H : laws_markIntS a k Q) (w : World) {vx : Value} {hx : PH} (r : OS 3 hx emp vx a) (ex : Sub hx w) :
    CallsTo Try.prog 23 #[vx, I k] w fun v w' => ∃ r0 m0 g0, Q r0 m0 ∧ v = I r0 ∧ But hx w w' ∧ OS 3 g0 emp vx m0 ∧ Sub g0 w' ∧ (∀ n, DomLe hx n g0) := by
  obtain ⟨a1, c, rfl⟩ := r.shape
  refine enter (args := [.slice a1 (List.length a) c, I k]) 19 Try.func23 rfl rfl rfl ?_
  refine W_forget [(0, .slice a1 (List.length a) c), (1, I k)] ⟨rfl, rfl, trivial⟩ fun ρ => ?_
  have X := But.refl hx w
  refine W_seq ?_
  refine W_region ?_
  refine LP_ev ok 0 [(4, I 0)] 1 rfl rfl ?_
  refine LP_end _ rfl ?_
  refine W_seq ?_
  refine W_seq ?_
  refine W_region ?_
  refine LP_ev ok 0 [(5, I 0)] 1 rfl rfl ?_
  refine LP_end _ rfl ?_
  refine W_block ?_
  obtain ⟨J, m, Hx, H⟩ := H
  refine W_loop (S := (List Int) × Int × Int) (fun s ρ' w' => J s.1 s.2.1 s.2.2 ∧ ∃ (ρ : Env) (hx4 : PH), ρ' = setAll [(0, .slice a1 (List.length a) c), (1, I s.2.1), (5, I s.2.2)] ρ ∧ But hx w w' ∧ OS 3 hx4 emp (.slice a1 (List.length a) c) s.1 ∧ Sub hx4 w' ∧ (∀ n, DomLe hx n hx4)) (fun s => m s.1 s.2.1 s.2.2) (a, k, 0) ⟨Hx, _, hx, env_eq ⟨rfl, rfl, rfl, trivial⟩, X, r, ex, (fun _ => DomLe.refl _ _)⟩ ?_
  rintro ⟨a2, k6, i⟩ _ wx ⟨Hi, ρ, hx4, rfl, X7, o, ex5, f⟩
  have H := H a2 k6 i Hi
  refine W_seq ?_
  refine W_seq ?_
  refine W_region ?_
  refine LP_ev ok 0 [(6, I i), (7, .slice a1 (List.length a) c), (8, I (ln a)), (9, .bool (decide (i < (ln a))))] 4 rfl rfl ?_
  refine LP_end _ rfl ?_
  refine W_cond (decide (i < (ln a))) rfl (fun hc => ?_) (fun hc => ?_)
  · have H := H.1 hc
    refine W_skip ?_
    refine W_seq ?_
    refine W_block ?_
    refine W_seq ?_
    refine W_region ?_
    refine LP_ev ok 0 [(12, .slice a1 (List.length a) c), (13, I i), (14, I k6)] 3 rfl rfl ?_
    obtain ⟨hi, hl, H⟩ := H
    refine LP_indexw 3 rfl rfl rfl Try.underlying22 ti_3 rfl rfl o hi hl fun a8 wa => ?_
    refine LP_set 4 rfl rfl rfl rfl rfl wa (Le.refl emp) ⟨_, rfl, rfl⟩ ex5 fun hx9 wx10 o11 ex12 y dm => ?_
    refine LP_end _ rfl ?_
    refine W_region ?_
    refine LP_ev ok 0 [(16, I k6), (17, I (wr (k6 + 1))), (1, I (wr (k6 + 1)))] 3 rfl rfl ?_
    refine LP_end _ rfl ?_
    refine W_region ?_
    refine LP_ev ok 0 [(10, I i), (11, I (wr (i + 1))), (5, I (wr (i + 1)))] 3 rfl rfl ?_
    refine LP_end _ rfl ?_
    have X13 := (X7.step y (f _))
    exact ⟨(List.set a2 (Int.toNat i) k6, wr (k6 + 1), wr (i + 1)), ⟨H.1, _, hx9, env_eq ⟨rfl, rfl, rfl, trivial⟩, X13, o11, ex12, (fun _ => DomLe.trans (f _) ((dm _)) (Nat.le_refl _))⟩, H.2⟩
  have H := H.2 hc
  refine W_exit ?_
  refine (if_pos rfl).mpr ?_
  refine W_seq ?_
  refine W_region ?_
  refine LP_ev ok 0 [(18, I k6), (4, I k6)] 2 rfl rfl ?_
  refine LP_end _ rfl ?_
  refine W_ret ?_
  exact ⟨_, Ret_of [I k6] ⟨⟨rfl, rfl⟩, trivial⟩, _, _, _, H, rfl, X7, o, ex5, (fun _ => f _)⟩

set_option maxRecDepth 8000 in
set_option maxHeartbeats 4000000 in
theorem laws_heldIntS_w (a : List Int) (k : Int) (Q : Int → Prop) (H : laws_heldIntS a k Q) (w : World) {vx : Value} {hx : PH} (r : RS hx vx a) (ex : Sub hx w) :
    CallsTo Try.prog 24 #[vx, I k] w fun v w' => ∃ r0, Q r0 ∧ v = I r0 ∧ Ext w w' := by
  obtain ⟨a1, c, rfl⟩ := r.shape
  refine enter (args := [.slice a1 (List.length a) c, I k]) 21 Try.func24 rfl rfl rfl ?_
  refine W_forget [(0, .slice a1 (List.length a) c), (1, I k)] ⟨rfl, rfl, trivial⟩ fun ρ => ?_
  have X := But.refl emp w
  refine W_seq ?_
  refine W_region ?_
  refine LP_ev ok 0 [(4, I 0)] 1 rfl rfl ?_
  refine LP_end _ rfl ?_
  refine W_seq ?_
  refine W_seq ?_
  refine W_region ?_
  refine LP_ev ok 0 [(5, I 0)] 1 rfl rfl ?_
  refine LP_end _ rfl ?_
  refine W_block ?_
  obtain ⟨J, m, Hx, H⟩ := H
  refine W_loop (S := Int × Int) (fun s ρ' w' => J s.1 s.2 ∧ ∃ (ρ : Env), ρ' = setAll [(0, .slice a1 (List.length a) c), (1, I s.1), (5, I s.2)] ρ ∧ w = w') (fun s => m s.1 s.2) (k, 0) ⟨Hx, _, env_eq ⟨rfl, rfl, rfl, trivial⟩, rfl⟩ ?_
  rintro ⟨k2, i⟩ _ _ ⟨Hi, ρ, rfl, rfl⟩
  have H := H k2 i Hi
  refine W_seq ?_
  refine W_seq ?_
  refine W_region ?_
  refine LP_ev ok 0 [(6, I i), (7, .slice a1 (List.length a) c), (8, I (ln a)), (9, .bool (decide (i < (ln a))))] 4 rfl rfl ?_
  refine LP_end _ rfl ?_
  refine W_cond (decide (i < (ln a))) rfl (fun hc => ?_) (fun hc => ?_)
  · have H := H.1 hc
    refine W_skip ?_
    refine W_seq ?_
    refine W_block ?_
    refine W_seq ?_
    refine W_seq ?_
    refine W_region ?_
    refine LP_ev ok 0 [(12, .slice a1 (List.length a) c), (13, I i)] 2 rfl rfl ?_
    obtain ⟨x, hi, hx3, H⟩ := H
    refine LP_index 2 rfl rfl rfl Try.underlying22 ti_3 rfl rfl r hi hx3 fun a4 cs r5 d => ?_
    refine LP_load 3 rfl rfl rfl ti_3 ag_3 rfl r5 d ex fun vx6 r7 => ?_
    obtain rfl := r7.int
    refine LP_ev ok 4 [(16, I k2), (17, .bool (x != k2))] 6 rfl rfl ?_
    refine LP_end _ rfl ?_
    refine W_cond (x != k2) rfl (fun hc8 => ?_) (fun hc8 => ?_)
    · have H := H.1 hc8
      refine W_seq ?_
      refine W_region ?_
      refine LP_ev ok 0 [(4, I ((-1)))] 1 rfl rfl ?_
      refine LP_end _ rfl ?_
      refine W_ret ?_
      exact ⟨_, Ret_of [I ((-1))] ⟨⟨rfl, rfl⟩, trivial⟩, _, H, rfl, X.ext⟩
    have H := H.2 hc8
    refine W_skip ?_
    refine W_region ?_
    refine LP_ev ok 0 [(18, I k2), (19, I (wr (k2 + 1))), (1, I (wr (k2 + 1)))] 3 rfl rfl ?_
    refine LP_end _ rfl ?_
    refine W_region ?_
    refine LP_ev ok 0 [(10, I i), (11, I (wr (i + 1))), (5, I (wr (i + 1)))] 3 rfl rfl ?_
    refine LP_end _ rfl ?_
    exact ⟨(wr (k2 + 1), wr (i + 1)), ⟨H.1, _, env_eq ⟨rfl, rfl, rfl, trivial⟩, rfl⟩, H.2⟩
  have H := H.2 hc
  refine W_exit ?_
  refine (if_pos rfl).mpr ?_
  refine W_seq ?_
  refine W_region ?_
  refine LP_ev ok 0 [(20, I k2), (4, I k2)] 2 rfl rfl ?_
  refine LP_end _ rfl ?_
  refine W_ret ?_
  exact ⟨_, Ret_of [I k2] ⟨⟨rfl, rfl⟩, trivial⟩, _, H, rfl, X.ext⟩

set_option maxRecDepth 8000 in
set_option maxHeartbeats 4000000 in
theorem laws_FnExactMaskCounts_w (aM : Int) (aN : Int) (Q : Bool → Prop) (H : laws_FnExactMaskCounts aM aN Q) (w : World)  :
    CallsTo Try.prog 3 #[I aM, I aN] w fun v w' => ∃ r0, Q r0 ∧ v = .bool r0 ∧ Ext w w' := by
  refine enter (args := [I aM, I aN]) 68 Try.func3 rfl rfl rfl ?_
  refine W_forget [(0, I aM), (1, I aN)] ⟨rfl, rfl, trivial⟩ fun ρ => ?_
  have X := But.refl emp w
  refine W_seq ?_
  refine W_region ?_
  refine LP_ev ok 0 [(4, .bool false)] 1 rfl rfl ?_
  refine LP_end _ rfl ?_
  refine W_seq ?_
  refine W_region ?_
  refine LP_ev ok 0 [(14, I aM), (15, I aN)] 2 rfl rfl ?_
  refine LP_call 2 rfl rfl rfl cal_20 rfl (spec_MaskCounts_w _ _ _ H w ) ?_
  rintro _ wx ⟨r, r1, vx, hx, H, rfl, x, o, ex, f⟩
  obtain ⟨a, c, rfl⟩ := o.shape
  refine LP_ev ok 3 [(13, .tuple #[.slice a (List.length r) c, .bool r1]), (17, .slice a (List.length r) c), (18, .bool r1), (5, .slice a (List.length r) c), (6, .bool r1)] 8 rfl rfl ?_
  refine LP_end _ rfl ?_
  refine W_seq ?_
  refine W_region ?_
  refine LP_ev ok 0 [(20, I aM), (21, I aN)] 2 rfl rfl ?_
  refine LP_call 2 rfl rfl rfl cal_21 rfl (impl_MaskCounts_w _ _ _ H wx ) ?_
  rintro _ wx4 ⟨r2, r3, vx6, hx7, H, rfl, x5, o8, ex9, f10⟩
  obtain ⟨a11, c12, rfl⟩ := o8.shape
  refine LP_ev ok 3 [(19, .tuple #[.slice a11 (List.length r2) c12, .bool r3]), (23, .slice a11 (List.length r2) c12), (24, .bool r3), (7, .slice a11 (List.length r2) c12), (8, .bool r3)] 8 rfl rfl ?_
  refine LP_end _ rfl ?_
  refine W_seq ?_
  obtain ⟨k, hk, H⟩ := jn_elim H
  refine W_join2 (S := Bool) (fun s ρ' w' => k s ∧ ∃ (ρ : Env), ρ' = setAll [(0, I aM), (1, I aN), (5, .slice a (List.length r) c), (6, .bool r1), (7, .slice a11 (List.length r2) c12), (33, .bool s)] ρ ∧ But emp w w' ∧ Sub hx w' ∧ Sub hx7 w') ?_ ?_
  · refine W_region ?_
    refine LP_ev ok 0 [(25, .slice a11 (List.length r2) c12), (26, .slice a (List.length r) c)] 2 rfl rfl ?_
    have ex19 := (ex.ext x5)
    refine LP_call 2 rfl rfl rfl cal_22 rfl (laws_eqIntS_w _ _ _ H wx4 o8.readf ex9 o.readf ex19) ?_
    rintro _ wx20 ⟨r18, H, rfl, x21⟩
    refine LP_ev ok 3 [(28, .bool (!r18)), (29, .bool (!r18))] 5 rfl rfl ?_
    refine LP_split 29 (!r18) rfl (fun hc => ?_) (fun hc => ?_)
    · have H := H.1 hc
      refine LP_ev ok 5 [(30, undef), (31, undef), (32, undef), (33, .bool true)] 9 rfl rfl ?_
      refine LP_end _ rfl ?_
      try refine W_forget [(0, I aM), (1, I aN), (5, .slice a (List.length r) c), (6, .bool r1), (7, .slice a11 (List.length r2) c12), (33, .bool true)] ⟨rfl, rfl, rfl, rfl, rfl, rfl, trivial⟩ fun ρ => ?_
      have X22 := (((X.stepx x).stepx x5).stepx x21)
      have ex23 := (ex19.ext x21)
      have ex24 := (ex9.ext x21)
      exact ⟨true, H, _, env_eq ⟨rfl, rfl, rfl, rfl, rfl, rfl, trivial⟩, X22, ex23, ex24⟩
    have H := H.2 hc
    refine LP_ev ok 5 [(30, .bool r3), (31, .bool r1), (32, .bool (r3 != r1)), (33, .bool (r3 != r1))] 9 rfl rfl ?_
    refine LP_end _ rfl ?_
    try refine W_forget [(0, I aM), (1, I aN), (5, .slice a (List.length r) c), (6, .bool r1), (7, .slice a11 (List.length r2) c12), (33, .bool (r3 != r1))] ⟨rfl, rfl, rfl, rfl, rfl, rfl, trivial⟩ fun ρ => ?_
    have X25 := (((X.stepx x).stepx x5).stepx x21)
    have ex26 := (ex19.ext x21)
    have ex27 := (ex9.ext x21)
    exact ⟨r3 != r1, H, _, env_eq ⟨rfl, rfl, rfl, rfl, rfl, rfl, trivial⟩, X25, ex26, ex27⟩
  rintro x13 _ wx14 ⟨H, ρ, rfl, X17, ex15, ex16⟩
  subst hk
  refine W_cond (x13) rfl (fun hc28 => ?_) (fun hc28 => ?_)
  · have H := H.1 hc28
    refine W_seq ?_
    refine W_region ?_
    refine LP_ev ok 0 [(4, .bool false)] 1 rfl rfl ?_
    refine LP_end _ rfl ?_
    refine W_ret ?_
    exact ⟨_, Ret_of [.bool false] ⟨⟨rfl, rfl⟩, trivial⟩, _, H, rfl, X17.ext⟩
  have H := H.2 hc28
  refine W_skip ?_
  refine W_seq ?_
  refine W_region ?_
  refine LP_ev ok 0 [(9, I 1)] 1 rfl rfl ?_
  refine LP_end _ rfl ?_
  refine W_seq ?_
  refine W_region ?_
  refine LP_ev ok 0 [(34, .slice a11 (List.length r2) c12), (35, I 1)] 2 rfl rfl ?_
  refine LP_call 2 rfl rfl rfl cal_23 rfl (laws_markIntS_w _ _ _ H wx14 o8 ex16) ?_
  rintro _ wx31 ⟨r29, r30, hx33, H, rfl, x32, o34, ex35, dm⟩
  refine LP_ev ok 3 [(9, I r29)] 4 rfl rfl ?_
  refine LP_end _ rfl ?_
  refine W_seq ?_
  refine W_region ?_
  refine LP_ev ok 0 [(10, I 1)] 1 rfl rfl ?_
  refine LP_end _ rfl ?_
  refine W_seq ?_
  refine W_region ?_
  refine LP_ev ok 0 [(37, .slice a11 (List.length r2) c12), (38, I 1)] 2 rfl rfl ?_
  refine LP_call 2 rfl rfl rfl cal_24 rfl (laws_heldIntS_w _ _ _ H wx31 o34.readf ex35) ?_
  rintro _ wx39 ⟨r38, H, rfl, x40⟩
  refine LP_ev ok 3 [(10, I r38)] 4 rfl rfl ?_
  refine LP_end _ rfl ?_
  refine W_seq ?_
  refine W_seq ?_
  refine W_region ?_
  refine LP_ev ok 0 [(40, I r38), (41, .bool (decide (r38 < 0)))] 2 rfl rfl ?_
  refine LP_end _ rfl ?_
  refine W_cond (decide (r38 < 0)) rfl (fun hc41 => ?_) (fun hc41 => ?_)
  · have H := H.1 hc41
    refine W_seq ?_
    refine W_region ?_
    refine LP_ev ok 0 [(4, .bool false)] 1 rfl rfl ?_
    refine LP_end _ rfl ?_
    refine W_ret ?_
    have X43 := (X.stepx x)
    have f42 := f10.mono X43.size
    have X44 := ((X17.step x32 (f42.dom _)).stepx x40)
    exact ⟨_, Ret_of [.bool false] ⟨⟨rfl, rfl⟩, trivial⟩, _, H, rfl, X44.ext⟩
  have H := H.2 hc41
  refine W_skip ?_
  refine W_seq ?_
  refine W_seq ?_
  refine W_region ?_
  refine LP_ev ok 0 [(42, I r38), (43, I r29), (44, .bool (r38 != r29))] 3 rfl rfl ?_
  refine LP_end _ rfl ?_
  refine W_cond (r38 != r29) rfl (fun hc45 => ?_) (fun hc45 => ?_)
  · have H := H.1 hc45
    refine W_seq ?_
    refine W_region ?_
    refine LP_ev ok 0 [(4, .bool false)] 1 rfl rfl ?_
    refine LP_end _ rfl ?_
    refine W_ret ?_
    have X47 := (X.stepx x)
    have f46 := f10.mono X47.size
    have X48 := ((X17.step x32 (f46.dom _)).stepx x40)
    exact ⟨_, Ret_of [.bool false] ⟨⟨rfl, rfl⟩, trivial⟩, _, H, rfl, X48.ext⟩
  have H := H.2 hc45
  refine W_skip ?_
  refine W_seq ?_
  refine W_region ?_
  refine LP_ev ok 0 [(46, I aM), (47, I aN)] 2 rfl rfl ?_
  refine LP_call 2 rfl rfl rfl cal_21 rfl (impl_MaskCounts_w _ _ _ H wx39 ) ?_
  rintro _ wx51 ⟨r49, r50, vx53, hx54, H, rfl, x52, o55, ex56, f57⟩
  obtain ⟨a58, c59, rfl⟩ := o55.shape
  refine LP_ev ok 3 [(45, .tuple #[.slice a58 (List.length r49) c59, .bool r50]), (49, .slice a58 (List.length r49) c59), (50, .bool r50), (11, .slice a58 (List.length r49) c59), (12, .bool r50)] 8 rfl rfl ?_
  refine LP_end _ rfl ?_
  refine W_seq ?_
  obtain ⟨k64, hk65, H⟩ := jn_elim H
  refine W_join2 (S := Bool) (fun s ρ' w' => k64 s ∧ ∃ (ρ : Env), ρ' = setAll [(7, .slice a11 (List.length r2) c12), (9, I r29), (59, .bool s)] ρ ∧ But emp w w' ∧ Sub hx33 w') ?_ ?_
  · refine W_region ?_
    refine LP_ev ok 0 [(51, .slice a58 (List.length r49) c59), (52, .slice a (List.length r) c)] 2 rfl rfl ?_
    have ex67 := (((ex15.but x32 (Dj.of_fresh ex f10).symm).ext x40).ext x52)
    refine LP_call 2 rfl rfl rfl cal_22 rfl (laws_eqIntS_w _ _ _ H wx51 o55.readf ex56 o.readf ex67) ?_
    rintro _ wx68 ⟨r66, H, rfl, x69⟩
    refine LP_ev ok 3 [(54, .bool (!r66)), (55, .bool (!r66))] 5 rfl rfl ?_
    refine LP_split 55 (!r66) rfl (fun hc70 => ?_) (fun hc70 => ?_)
    · have H := H.1 hc70
      refine LP_ev ok 5 [(56, undef), (57, undef), (58, undef), (59, .bool true)] 9 rfl rfl ?_
      refine LP_end _ rfl ?_
      try refine W_forget [(7, .slice a11 (List.length r2) c12), (9, I r29), (59, .bool true)] ⟨rfl, rfl, rfl, trivial⟩ fun ρ => ?_
      have X72 := (X.stepx x)
      have f71 := f10.mono X72.size
      have X73 := ((((X17.step x32 (f71.dom _)).stepx x40).stepx x52).stepx x69)
      have ex74 := (((ex35.ext x40).ext x52).ext x69)
      exact ⟨true, H, _, env_eq ⟨rfl, rfl, rfl, trivial⟩, X73, ex74⟩
    have H := H.2 hc70
    refine LP_ev ok 5 [(56, .bool r50), (57, .bool r1), (58, .bool (r50 != r1)), (59, .bool (r50 != r1))] 9 rfl rfl ?_
    refine LP_end _ rfl ?_
    try refine W_forget [(7, .slice a11 (List.length r2) c12), (9, I r29), (59, .bool (r50 != r1))] ⟨rfl, rfl, rfl, trivial⟩ fun ρ => ?_
    have X76 := (X.stepx x)
    have f75 := f10.mono X76.size
    have X77 := ((((X17.step x32 (f75.dom _)).stepx x40).stepx x52).stepx x69)
    have ex78 := (((ex35.ext x40).ext x52).ext x69)
    exact ⟨r50 != r1, H, _, env_eq ⟨rfl, rfl, rfl, trivial⟩, X77, ex78⟩
  rintro x60 _ wx61 ⟨H, ρ, rfl, X63, ex62⟩
  subst hk65
  refine W_cond (x60) rfl (fun hc79 => ?_) (fun hc79 => ?_)
  · have H := H.1 hc79
    refine W_seq ?_
    refine W_region ?_
    refine LP_ev ok 0 [(4, .bool false)] 1 rfl rfl ?_
    refine LP_end _ rfl ?_
    refine W_ret ?_
    exact ⟨_, Ret_of [.bool false] ⟨⟨rfl, rfl⟩, trivial⟩, _, H, rfl, X63.ext⟩
  have H := H.2 hc79
  refine W_skip ?_
  refine W_seq ?_
  refine W_region ?_
  refine LP_ev ok 0 [(10, I 1)] 1 rfl rfl ?_
  refine LP_end _ rfl ?_
  refine W_seq ?_
  refine W_region ?_
  refine LP_ev ok 0 [(60, .slice a11 (List.length r2) c12), (61, I 1)] 2 rfl rfl ?_
  refine LP_call 2 rfl rfl rfl cal_24 rfl (laws_heldIntS_w _ _ _ H wx61 o34.readf ex62) ?_
  rintro _ wx81 ⟨r80, H, rfl, x82⟩
  refine LP_ev ok 3 [(10, I r80)] 4 rfl rfl ?_
  refine LP_end _ rfl ?_
  refine W_seq ?_
  refine W_seq ?_
  refine W_region ?_
  refine LP_ev ok 0 [(63, I r80), (64, .bool (decide (r80 < 0)))] 2 rfl rfl ?_
  refine LP_end _ rfl ?_
  refine W_cond (decide (r80 < 0)) rfl (fun hc83 => ?_) (fun hc83 => ?_)
  · have H := H.1 hc83
    refine W_seq ?_
    refine W_region ?_
    refine LP_ev ok 0 [(4, .bool false)] 1 rfl rfl ?_
    refine LP_end _ rfl ?_
    refine W_ret ?_
    have X84 := (X63.stepx x82)
    exact ⟨_, Ret_of [.bool false] ⟨⟨rfl, rfl⟩, trivial⟩, _, H, rfl, X84.ext⟩
  have H := H.2 hc83
  refine W_skip ?_
  refine W_seq ?_
  refine W_seq ?_
  refine W_region ?_
  refine LP_ev ok 0 [(65, I r80), (66, I r29), (67, .bool (r80 != r29))] 3 rfl rfl ?_
  refine LP_end _ rfl ?_
  refine W_cond (r80 != r29) rfl (fun hc85 => ?_) (fun hc85 => ?_)
  · have H := H.1 hc85
    refine W_seq ?_
    refine W_region ?_
    refine LP_ev ok 0 [(4, .bool false)] 1 rfl rfl ?_
    refine LP_end _ rfl ?_
    refine W_ret ?_
    have X86 := (X63.stepx x82)
    exact ⟨_, Ret_of [.bool false] ⟨⟨rfl, rfl⟩, trivial⟩, _, H, rfl, X86.ext⟩
  have H := H.2 hc85
  refine W_skip ?_
  refine W_seq ?_
  refine W_region ?_
  refine LP_ev ok 0 [(4, .bool true)] 1 rfl rfl ?_
  refine LP_end _ rfl ?_
  refine W_ret ?_
  have X87 := (X63.stepx x82)
  exact ⟨_, Ret_of [.bool true] ⟨⟨rfl, rfl⟩, trivial⟩, _, H, rfl, X87.ext⟩

set_option maxRecDepth 8000 in
set_option maxHeartbeats 4000000 in
theorem laws_toIntS_w (a : List Int) (Q : (List Int) → Prop) (H : laws_toIntS a Q) (w : World) {vx : Value} {hx : PH} (r : RS hx vx a) (ex : Sub hx w) :
    CallsTo Try.prog 26 #[vx] w fun v w' => ∃ r0 u0 g0, Q r0 ∧ v = u0 ∧ Ext w w' ∧ OS 3 g0 emp u0 r0 ∧ Sub g0 w' ∧ Fresh w.heap.size g0 := by
  obtain ⟨a1, c, rfl⟩ := r.shape
  refine enter (args := [.slice a1 (List.length a) c]) 22 Try.func26 rfl rfl rfl ?_
  refine W_forget [(0, .slice a1 (List.length a) c)] ⟨rfl, trivial⟩ fun ρ => ?_
  have X := But.refl emp w
  refine W_seq ?_
  refine W_region ?_
  refine LP_ev ok 0 [(2, .slice none 0 0)] 1 rfl rfl ?_
  refine LP_end _ rfl ?_
  refine W_seq ?_
  refine W_region ?_
  refine LP_ev ok 0 [(5, .slice a1 (List.length a) c), (6, I (ln a))] 2 rfl rfl ?_
  obtain ⟨hn, hb, H⟩ := H
  refine LP_make (α := Int) 2 rfl rfl rfl Try.underlying22 ti_3 (x0 := (0 : Int)) rfl rfl hn (by first | omega | (simp only [ln] at *; omega)) (by first | omega | (simp only [ln] at *; omega)) fun hx2 vx3 wx x o ex4 f => ?_
  obtain ⟨a5, c6, rfl⟩ := o.shape
  refine LP_ev ok 3 [(3, .slice a5 (List.length (List.replicate (Int.toNat (ln a)) ((0 : Int)))) c6)] 4 rfl rfl ?_
  refine LP_end _ rfl ?_
  refine W_seq ?_
  refine W_seq ?_
  refine W_region ?_
  refine LP_ev ok 0 [(4, I 0)] 1 rfl rfl ?_
  refine LP_end _ rfl ?_
  refine W_block ?_
  obtain ⟨J, m, Hx, H⟩ := H
  have X15 := (X.stepx x)
  have f16 := f.mono X.size
  have ex17 := (ex.ext x)
  refine W_loop (S := (List Int) × Int) (fun s ρ' w' => J s.1 s.2 ∧ ∃ (ρ : Env) (hx8 : PH), ρ' = setAll [(0, .slice a1 (List.length a) c), (3, .slice a5 (List.length (List.replicate (Int.toNat (ln a)) ((0 : Int)))) c6), (4, I s.2)] ρ ∧ But emp w w' ∧ OS 3 hx8 emp (.slice a5 (List.length (List.replicate (Int.toNat (ln a)) ((0 : Int)))) c6) s.1 ∧ Sub hx8 w' ∧ Fresh w.heap.size hx8 ∧ Sub hx w' ∧ Dj hx8 hx) (fun s => m s.1 s.2) (List.replicate (Int.toNat (ln a)) ((0 : Int)), 0) ⟨Hx, _, hx2, env_eq ⟨rfl, rfl, rfl, trivial⟩, X15, o, ex4, f16, ex17, (Dj.of_fresh ex f).symm⟩ ?_
  rintro ⟨out, i⟩ _ wx12 ⟨Hi, ρ, hx8, rfl, X14, o9, ex10, f11, ex13, d⟩
  have H := H out i Hi
  refine W_seq ?_
  refine W_seq ?_
  refine W_region ?_
  refine LP_ev ok 0 [(8, I i), (9, .slice a1 (List.length a) c), (10, I (ln a)), (11, .bool (decide (i < (ln a))))] 4 rfl rfl ?_
  refine LP_end _ rfl ?_
  refine W_cond (decide (i < (ln a))) rfl (fun hc => ?_) (fun hc => ?_)
  · have H := H.1 hc
    refine W_skip ?_
    refine W_seq ?_
    refine W_block ?_
    refine W_region ?_
    refine LP_ev ok 0 [(14, .slice a5 (List.length (List.replicate (Int.toNat (ln a)) ((0 : Int)))) c6), (15, I i), (16, .slice a1 (List.length a) c), (17, I i)] 4 rfl rfl ?_
    obtain ⟨x18, hi, hx19, H⟩ := H
    refine LP_index 4 rfl rfl rfl Try.underlying22 ti_3 rfl rfl r hi hx19 fun a20 cs r21 d22 => ?_
    refine LP_load 5 rfl rfl rfl ti_3 ag_3 rfl r21 d22 ex13 fun vx23 r24 => ?_
    obtain rfl := r24.int
    obtain ⟨hi25, hl, H⟩ := H
    refine LP_indexw 6 rfl rfl rfl Try.underlying22 ti_3 rfl rfl o9 hi25 hl fun a26 wa => ?_
    refine LP_set 7 rfl rfl rfl rfl rfl wa (Le.refl emp) ⟨_, rfl, rfl⟩ ex10 fun hx27 wx28 o29 ex30 y dm => ?_
    refine LP_end _ rfl ?_
    refine W_region ?_
    refine LP_ev ok 0 [(12, I i), (13, I (wr (i + 1))), (4, I (wr (i + 1)))] 3 rfl rfl ?_
    refine LP_end _ rfl ?_
    have X31 := (X14.step y (f11.dom _))
    have f32 := (dm _).fresh f11 X14.size
    have ex33 := (ex13.but y d)
    exact ⟨(List.set out (Int.toNat i) x18, wr (i + 1)), ⟨H.1, _, hx27, env_eq ⟨rfl, rfl, rfl, trivial⟩, X31, o29, ex30, f32, ex33, (DomLe.dj (dm _) d ex13)⟩, H.2⟩
  have H := H.2 hc
  refine W_exit ?_
  refine (if_pos rfl).mpr ?_
  refine W_seq ?_
  refine W_region ?_
  refine LP_ev ok 0 [(21, .slice a5 (List.length (List.replicate (Int.toNat (ln a)) ((0 : Int)))) c6), (2, .slice a5 (List.length (List.replicate (Int.toNat (ln a)) ((0 : Int)))) c6)] 2 rfl rfl ?_
  refine LP_end _ rfl ?_
  refine W_ret ?_
  exact ⟨_, Ret_of [.slice a5 (List.length (List.replicate (Int.toNat (ln a)) ((0 : Int)))) c6] ⟨⟨rfl, rfl⟩, trivial⟩, _, _, _, H, rfl, X14.ext, o9, ex10, f11⟩

set_option maxRecDepth 8000 in
set_option maxHeartbeats 4000000 in
theorem spec_zeModulus_w (m : Int) (Q : Bool → Prop) (H : spec_zeModulus m Q) (w : World)  :
    CallsTo Try.prog 77 #[I m] w fun v w' => ∃ r0, Q r0 ∧ v = .bool r0 ∧ Ext w w' := by
  refine enter (args := [I m]) 5 Try.func77 rfl rfl rfl ?_
  refine W_forget [(0, I m)] ⟨rfl, trivial⟩ fun ρ => ?_
  have X := But.refl emp w
  refine W_seq ?_
  refine W_region ?_
  refine LP_ev ok 0 [(2, .bool false)] 1 rfl rfl ?_
  refine LP_end _ rfl ?_
  refine W_seq ?_
  refine W_region ?_
  refine LP_ev ok 0 [(3, I m)] 1 rfl rfl ?_
  refine LP_call 1 rfl rfl rfl cal_76 rfl (spec_l1In_w _ _ _ _ H w ) ?_
  rintro _ wx ⟨r, H, rfl, x⟩
  refine LP_ev ok 2 [(2, .bool r)] 3 rfl rfl ?_
  refine LP_end _ rfl ?_
  refine W_ret ?_
  have X1 := (X.stepx x)
  exact ⟨_, Ret_of [.bool r] ⟨⟨rfl, rfl⟩, trivial⟩, _, H, rfl, X1.ext⟩

set_option maxRecDepth 8000 in
set_option maxHeartbeats 4000000 in
theorem spec_l1All_w (l : List Int) (lo : Int) (hi : Int) (Q : Bool → Prop) (H : spec_l1All l lo hi Q) (w : World) {vx : Value} {hx : PH} (r : RS hx vx l) (ex : Sub hx w) :
    CallsTo Try.prog 140 #[vx, I lo, I hi] w fun v w' => ∃ r0, Q r0 ∧ v = .bool r0 ∧ Ext w w' := by
  obtain ⟨a, c, rfl⟩ := r.shape
  refine enter (args := [.slice a (List.length l) c, I lo, I hi]) 21 Try.func140 rfl rfl rfl ?_
  refine W_forget [(0, .slice a (List.length l) c), (1, I lo), (2, I hi)] ⟨rfl, rfl, rfl, trivial⟩ fun ρ => ?_
  have X := But.refl emp w
  refine W_seq ?_
  refine W_region ?_
  refine LP_ev ok 0 [(6, .bool false)] 1 rfl rfl ?_
  refine LP_end _ rfl ?_
  refine W_seq ?_
  refine W_seq ?_
  refine W_region ?_
  refine LP_ev ok 0 [(9, .slice a (List.length l) c), (10, I (ln l)), (11, I 0)] 3 rfl rfl ?_
  refine LP_end _ rfl ?_
  refine W_block ?_
  obtain ⟨J, m, Hx, H⟩ := H
  refine W_loop (S := Int) (fun s ρ' w' => J s ∧ ∃ (ρ : Env), ρ' = setAll [(1, I lo), (2, I hi), (9, .slice a (List.length l) c), (10, I (ln l)), (11, I s)] ρ ∧ But emp w w' ∧ Sub hx w') (fun s => m s) 0 ⟨Hx, _, env_eq ⟨rfl, rfl, rfl, rfl, rfl, trivial⟩, X, ex⟩ ?_
  rintro x _ wx ⟨Hi, ρ, rfl, X2, ex1⟩
  have H := H x Hi
  refine W_seq ?_
  refine W_region ?_
  refine LP_ev ok 0 [(12, .bool (decide (x < (ln l))))] 1 rfl rfl ?_
  refine LP_end _ rfl ?_
  refine W_seq ?_
  refine W_cond (decide (x < (ln l))) rfl (fun hc => ?_) (fun hc => ?_)
  · have H := H.1 hc
    refine W_skip ?_
    refine W_seq ?_
    refine W_block ?_
    refine W_seq ?_
    refine W_region ?_
    obtain ⟨x3, hi4, hx5, H⟩ := H
    refine LP_index 0 rfl rfl rfl Try.underlying22 ti_3 rfl rfl r hi4 hx5 fun a6 cs r7 d => ?_
    refine LP_load 1 rfl rfl rfl ti_3 ag_3 rfl r7 d ex1 fun vx8 r9 => ?_
    obtain rfl := r9.int
    refine LP_ev ok 2 [(8, I x3)] 3 rfl rfl ?_
    refine LP_end _ rfl ?_
    refine W_seq ?_
    refine W_region ?_
    refine LP_ev ok 0 [(15, I x3), (16, I lo), (17, I hi)] 3 rfl rfl ?_
    refine LP_call 3 rfl rfl rfl cal_76 rfl (spec_l1In_w _ _ _ _ H wx ) ?_
    rintro _ wx11 ⟨r10, H, rfl, x12⟩
    refine LP_ev ok 4 [(19, .bool (!r10))] 5 rfl rfl ?_
    refine LP_end _ rfl ?_
    refine W_cond (!r10) rfl (fun hc13 => ?_) (fun hc13 => ?_)
    · have H := H.1 hc13
      refine W_seq ?_
      refine W_region ?_
      refine LP_ev ok 0 [(6, .bool false)] 1 rfl rfl ?_
      refine LP_end _ rfl ?_
      refine W_ret ?_
      have X14 := (X2.stepx x12)
      exact ⟨_, Ret_of [.bool false] ⟨⟨rfl, rfl⟩, trivial⟩, _, H, rfl, X14.ext⟩
    have H := H.2 hc13
    refine W_skip ?_
    refine W_region ?_
    refine LP_ev ok 0 [(20, I (wr (x + 1))), (11, I (wr (x + 1)))] 2 rfl rfl ?_
    refine LP_end _ rfl ?_
    have X15 := (X2.stepx x12)
    have ex16 := (ex1.ext x12)
    exact ⟨wr (x + 1), ⟨H.1, _, env_eq ⟨rfl, rfl, rfl, rfl, rfl, trivial⟩, X15, ex16⟩, H.2⟩
  have H := H.2 hc
  refine W_exit ?_
  refine (if_pos rfl).mpr ?_
  refine W_seq ?_
  refine W_region ?_
  refine LP_ev ok 0 [(6, .bool true)] 1 rfl rfl ?_
  refine LP_end _ rfl ?_
  refine W_ret ?_
  exact ⟨_, Ret_of [.bool true] ⟨⟨rfl, rfl⟩, trivial⟩, _, H, rfl, X2.ext⟩

set_option maxRecDepth 8000 in
set_option maxHeartbeats 4000000 in
theorem spec_zeValues_w (m : Int) (l : List Int) (Q : Bool → Prop) (H : spec_zeValues m l Q) (w : World) {vx : Value} {hx : PH} (r : RS hx vx l) (ex : Sub hx w) :
    CallsTo Try.prog 78 #[I m, vx] w fun v w' => ∃ r0, Q r0 ∧ v = .bool r0 ∧ Ext w w' := by
  obtain ⟨a, c, rfl⟩ := r.shape
  refine enter (args := [I m, .slice a (List.length l) c]) 14 Try.func78 rfl rfl rfl ?_
  refine W_forget [(0, I m), (1, .slice a (List.length l) c)] ⟨rfl, rfl, trivial⟩ fun ρ => ?_
  have X := But.refl emp w
  refine W_seq ?_
  refine W_region ?_
  refine LP_ev ok 0 [(4, .bool false)] 1 rfl rfl ?_
  refine LP_end _ rfl ?_
  obtain ⟨k, hk, H⟩ := jn_elim H
  refine W_join2 (S := Bool) (fun s ρ' w' => k s ∧ ∃ (ρ : Env), ρ' = setAll [(4, .bool s)] ρ ∧ But emp w w') ?_ ?_
  · refine W_region ?_
    refine LP_ev ok 0 [(5, .slice a (List.length l) c), (6, I (ln l)), (7, .bool (decide ((ln l) ≤ 600))), (8, .bool (decide ((ln l) ≤ 600)))] 4 rfl rfl ?_
    refine LP_split 8 (decide ((ln l) ≤ 600)) rfl (fun hc => ?_) (fun hc => ?_)
    · have H := H.1 hc
      refine LP_ev ok 4 [(9, .slice a (List.length l) c), (10, I m), (11, I (wr (m - 1)))] 7 rfl rfl ?_
      refine LP_call 7 rfl rfl rfl cal_140 rfl (spec_l1All_w _ _ _ _ H w r ex) ?_
      rintro _ wx3 ⟨r2, H, rfl, x4⟩
      refine LP_ev ok 8 [(13, .bool r2), (4, .bool r2)] 10 rfl rfl ?_
      refine LP_end _ rfl ?_
      have X5 := (X.stepx x4)
      exact ⟨r2, H, _, env_eq ⟨rfl, trivial⟩, X5⟩
    have H := H.2 hc
    refine LP_ev ok 4 [(9, undef), (10, undef), (11, undef), (12, undef), (13, .bool false), (4, .bool false)] 10 rfl rfl ?_
    refine LP_end _ rfl ?_
    exact ⟨false, H, _, env_eq ⟨rfl, trivial⟩, X⟩
  rintro x _ wx ⟨H, ρ, rfl, X1⟩
  subst hk
  refine W_ret ?_
  exact ⟨_, Ret_of [.bool x] ⟨⟨rfl, rfl⟩, trivial⟩, _, H, rfl, X1.ext⟩

set_option maxRecDepth 8000 in
set_option maxHeartbeats 4000000 in
theorem spec_SignedValues_w (m : Int) (l : List Int) (Q : (List Int) → Bool → Prop) (H : spec_SignedValues m l Q) (w : World) {vx : Value} {hx : PH} (r : RS hx vx l) (ex : Sub hx w) :
    CallsTo Try.prog 25 #[I m, vx] w fun v w' => ∃ r0 r1 u0 g0, Q r0 r1 ∧ v = .tuple #[u0, .bool r1] ∧ Ext w w' ∧ OS 3 g0 emp u0 r0 ∧ Sub g0 w' ∧ Fresh w.heap.size g0 := by
  obtain ⟨a, c, rfl⟩ := r.shape
  refine enter (args := [I m, .slice a (List.length l) c]) 37 Try.func25 rfl rfl rfl ?_
  refine W_forget [(0, I m), (1, .slice a (List.length l) c)] ⟨rfl, rfl, trivial⟩ fun ρ => ?_
  have X := But.refl emp w
  refine W_seq ?_
  refine W_region ?_
  refine LP_ev ok 0 [(4, .slice none 0 0), (5, .bool false)] 2 rfl rfl ?_
  refine LP_end _ rfl ?_
  refine W_seq ?_
  obtain ⟨k, hk, H⟩ := jn_elim H
  refine W_join2 (S := Bool) (fun s ρ' w' => k s ∧ ∃ (ρ : Env), ρ' = setAll [(0, I m), (1, .slice a (List.length l) c), (17, .bool s)] ρ ∧ But emp w w' ∧ Sub hx w') ?_ ?_
  · refine W_region ?_
    refine LP_ev ok 0 [(9, I m)] 1 rfl rfl ?_
    refine LP_call 1 rfl rfl rfl cal_77 rfl (spec_zeModulus_w _ _ H w ) ?_
    rintro _ wx4 ⟨r3, H, rfl, x5⟩
    refine LP_ev ok 2 [(11, .bool (!r3)), (12, .bool (!r3))] 4 rfl rfl ?_
    refine LP_split 12 (!r3) rfl (fun hc => ?_) (fun hc => ?_)
    · have H := H.1 hc
      refine LP_ev ok 4 [(13, undef), (14, undef), (15, undef), (16, undef), (17, .bool true)] 9 rfl rfl ?_
      refine LP_end _ rfl ?_
      have X6 := (X.stepx x5)
      have ex7 := (ex.ext x5)
      exact ⟨true, H, _, env_eq ⟨rfl, rfl, rfl, trivial⟩, X6, ex7⟩
    have H := H.2 hc
    refine LP_ev ok 4 [(13, I m), (14, .slice a (List.length l) c)] 6 rfl rfl ?_
    have ex9 := (ex.ext x5)
    refine LP_call 6 rfl rfl rfl cal_78 rfl (spec_zeValues_w _ _ _ H wx4 r ex9) ?_
    rintro _ wx10 ⟨r8, H, rfl, x11⟩
    refine LP_ev ok 7 [(16, .bool (!r8)), (17, .bool (!r8))] 9 rfl rfl ?_
    refine LP_end _ rfl ?_
    have X12 := ((X.stepx x5).stepx x11)
    have ex13 := (ex9.ext x11)
    exact ⟨!r8, H, _, env_eq ⟨rfl, rfl, rfl, trivial⟩, X12, ex13⟩
  rintro x _ wx ⟨H, ρ, rfl, X2, ex1⟩
  subst hk
  refine W_cond (x) rfl (fun hc14 => ?_) (fun hc14 => ?_)
  · have H := H.1 hc14
    refine W_seq ?_
    refine W_region ?_
    refine LP_ev ok 0 [(4, .slice none 0 0), (5, .bool false)] 2 rfl rfl ?_
    refine LP_end _ rfl ?_
    refine W_ret ?_
    exact ⟨_, Ret_of [.slice none 0 0, .bool false] ⟨⟨rfl, rfl⟩, ⟨rfl, rfl⟩, trivial⟩, _, _, _, emp, H, rfl, X2.ext, OS.nil, (emp_sub _), (emp_fresh _)⟩
  have H := H.2 hc14
  refine W_skip ?_
  refine W_seq ?_
  refine W_region ?_
  refine LP_ev ok 0 [(6, .slice none 0 0)] 1 rfl rfl ?_
  refine LP_end _ rfl ?_
  refine W_seq ?_
  refine W_seq ?_
  refine W_region ?_
  refine LP_ev ok 0 [(18, .slice a (List.length l) c), (19, I (ln l)), (20, I 0)] 3 rfl rfl ?_
  refine LP_end _ rfl ?_
  refine W_block ?_
  obtain ⟨J, m24, Hx, H⟩ := H
  refine W_loop (S := (List Int) × Int) (fun s ρ' w' => J s.1 s.2 ∧ ∃ (ρ : Env) (vx15 : Value) (hx16 : PH), ρ' = setAll [(0, I m), (6, vx15), (18, .slice a (List.length l) c), (19, I (ln l)), (20, I s.2)] ρ ∧ But emp w w' ∧ OS 3 hx16 emp vx15 s.1 ∧ Sub hx16 w' ∧ Fresh w.heap.size hx16 ∧ Sub hx w' ∧ Dj hx16 hx) (fun s => m24 s.1 s.2) ([], 0) ⟨Hx, _, .slice none 0 0, emp, env_eq ⟨rfl, rfl, rfl, rfl, rfl, trivial⟩, X2, OS.nil, (emp_sub _), (emp_fresh _), ex1, (fun _ => .inl rfl)⟩ ?_
  rintro ⟨out, x18⟩ _ wx19 ⟨Hi, ρ, vx15, hx16, rfl, X23, o, ex17, f, ex20, d⟩
  have H := H out x18 Hi
  obtain ⟨a21, c22, rfl⟩ := o.shape
  refine W_seq ?_
  refine W_region ?_
  refine LP_ev ok 0 [(21, .bool (decide (x18 < (ln l))))] 1 rfl rfl ?_
  refine LP_end _ rfl ?_
  refine W_seq ?_
  refine W_cond (decide (x18 < (ln l))) rfl (fun hc25 => ?_) (fun hc25 => ?_)
  · have H := H.1 hc25
    refine W_skip ?_
    refine W_seq ?_
    refine W_block ?_
    refine W_seq ?_
    refine W_region ?_
    obtain ⟨x26, hi, hx27, H⟩ := H
    refine LP_index 0 rfl rfl rfl Try.underlying22 ti_3 rfl rfl r hi hx27 fun a28 cs r29 d30 => ?_
    refine LP_load 1 rfl rfl rfl ti_3 ag_3 rfl r29 d30 ex20 fun vx31 r32 => ?_
    obtain rfl := r32.int
    refine LP_ev ok 2 [(8, I x26)] 3 rfl rfl ?_
    refine LP_end _ rfl ?_
    obtain ⟨k35, hk36, H⟩ := jn_elim H
    refine W_join2 (S := Int) (fun s ρ' w' => k35 s ∧ ∃ (ρ : Env), ρ' = setAll [(0, I m), (6, .slice a21 (List.length out) c22), (8, I s), (18, .slice a (List.length l) c), (19, I (ln l)), (20, I x18)] ρ ∧ wx19 = w') ?_ ?_
    · refine W_seq ?_
      refine W_region ?_
      refine LP_ev ok 0 [(24, I x26), (25, I (wr (2 * x26))), (26, I m), (27, .bool (decide ((wr (2 * x26)) > m)))] 4 rfl rfl ?_
      refine LP_end _ rfl ?_
      refine W_cond (decide ((wr (2 * x26)) > m)) rfl (fun hc37 => ?_) (fun hc37 => ?_)
      · have H := H.1 hc37
        refine W_region ?_
        refine LP_ev ok 0 [(28, I x26), (29, I m), (30, I (wr (x26 - m))), (8, I (wr (x26 - m)))] 4 rfl rfl ?_
        refine LP_end _ rfl ?_
        exact ⟨wr (x26 - m), H, _, env_eq ⟨rfl, rfl, rfl, rfl, rfl, rfl, trivial⟩, rfl⟩
      have H := H.2 hc37
      refine W_skip ?_
      exact ⟨x26, H, _, env_eq ⟨rfl, rfl, rfl, rfl, rfl, rfl, trivial⟩, rfl⟩
    rintro x33 _ _ ⟨H, ρ, rfl, rfl⟩
    subst hk36
    refine W_region ?_
    refine LP_ev ok 0 [(31, .slice a21 (List.length out) c22), (32, I x33)] 2 rfl rfl ?_
    refine LP_lit (α := Int) (g := emp) 2 (vs := [I x33]) (xs := [x33]) rfl rfl rfl Try.underlying22 ti_3 rfl rfl ⟨⟨_, rfl, rfl⟩, trivial⟩ rfl rfl fun hx38 vx39 wx40 x41 o42 ex43 f44 => ?_
    obtain ⟨a45, c46, rfl⟩ := o42.shape
    have ex47 := (ex17.ext x41)
    obtain ⟨hb, H⟩ := H
    refine LP_appendf (α := Int) 3 rfl rfl rfl Try.underlying22 ti_3 rfl rfl rfl o ex47 o42.readf ex43 (by first | omega | (simp only [ln] at *; omega)) (by first | omega | (simp only [ln] at *; omega)) fun hx48 vx49 wx50 o51 ex52 y dm => ?_
    obtain ⟨a53, c54, rfl⟩ := o51.shape
    refine LP_ev ok 4 [(6, .slice a53 (List.length (out ++ ([x33]))) c54)] 5 rfl rfl ?_
    refine LP_end _ rfl ?_
    refine W_region ?_
    refine LP_ev ok 0 [(35, I (wr (x18 + 1))), (20, I (wr (x18 + 1)))] 2 rfl rfl ?_
    refine LP_end _ rfl ?_
    have X55 := ((X23.stepx x41).step y (f.dom _))
    have X57 := (X23.stepx x41)
    have f56 := dm.fresh f X57.size
    have ex58 := ((ex20.ext x41).but y d)
    have ex59 := (ex20.ext x41)
    exact ⟨(out ++ ([x33]), wr (x18 + 1)), ⟨H.1, _, .slice a53 (List.length (out ++ ([x33]))) c54, hx48, env_eq ⟨rfl, rfl, rfl, rfl, rfl, trivial⟩, X55, o51, ex52, f56, ex58, (DomLe.dj dm d ex59)⟩, H.2⟩
  have H := H.2 hc25
  refine W_exit ?_
  refine (if_pos rfl).mpr ?_
  refine W_seq ?_
  refine W_region ?_
  refine LP_ev ok 0 [(36, .slice a21 (List.length out) c22), (4, .slice a21 (List.length out) c22), (5, .bool true)] 3 rfl rfl ?_
  refine LP_end _ rfl ?_
  refine W_ret ?_
  exact ⟨_, Ret_of [.slice a21 (List.length out) c22, .bool true] ⟨⟨rfl, rfl⟩, ⟨rfl, rfl⟩, trivial⟩, _, _, _, _, H, rfl, X23.ext, o, ex17, f⟩

set_option maxRecDepth 8000 in
set_option maxHeartbeats 4000000 in
theorem impl_isModulus_w (m : Int) (Q : Bool → Prop) (H : impl_isModulus m Q) (w : World)  :
    CallsTo Try.prog 79 #[I m] w fun v w' => ∃ r0, Q r0 ∧ v = .bool r0 ∧ Ext w w' := by
  refine enter (args := [I m]) 9 Try.func79 rfl rfl rfl ?_
  refine W_forget [(0, I m)] ⟨rfl, trivial⟩ fun ρ => ?_
  have X := But.refl emp w
  refine W_seq ?_
  refine W_region ?_
  refine LP_ev ok 0 [(2, .bool false)] 1 rfl rfl ?_
  refine LP_end _ rfl ?_
  obtain ⟨k, hk, H⟩ := jn_elim H
  refine W_join2 (S := Bool) (fun s ρ' w' => k s ∧ ∃ (ρ : Env), ρ' = setAll [(2, .bool s)] ρ ∧ w = w') ?_ ?_
  · refine W_region ?_
    refine LP_ev ok 0 [(3, I m), (4, .bool (decide (m ≥ 2))), (5, .bool (decide (m ≥ 2)))] 3 rfl rfl ?_
    refine LP_split 5 (decide (m ≥ 2)) rfl (fun hc => ?_) (fun hc => ?_)
    · have H := H.1 hc
      refine LP_ev ok 3 [(6, I m), (7, .bool (decide (m ≤ 1000000007))), (8, .bool (decide (m ≤ 1000000007))), (2, .bool (decide (m ≤ 1000000007)))] 7 rfl rfl ?_
      refine LP_end _ rfl ?_
      exact ⟨decide (m ≤ 1000000007), H, _, env_eq ⟨rfl, trivial⟩, rfl⟩
    have H := H.2 hc
    refine LP_ev ok 3 [(6, undef), (7, undef), (8, .bool false), (2, .bool false)] 7 rfl rfl ?_
    refine LP_end _ rfl ?_
    exact ⟨false, H, _, env_eq ⟨rfl, trivial⟩, rfl⟩
  rintro x _ _ ⟨H, ρ, rfl, rfl⟩
  subst hk
  refine W_ret ?_
  exact ⟨_, Ret_of [.bool x] ⟨⟨rfl, rfl⟩, trivial⟩, _, H, rfl, X.ext⟩

set_option maxRecDepth 8000 in
set_option maxHeartbeats 4000000 in
theorem impl_areWithin_w (l : List Int) (lo : Int) (hi : Int) (Q : Bool → Prop) (H : impl_areWithin l lo hi Q) (w : World) {vx : Value} {hx : PH} (r : RS hx vx l) (ex : Sub hx w) :
    CallsTo Try.prog 141 #[vx, I lo, I hi] w fun v w' => ∃ r0, Q r0 ∧ v = .bool r0 ∧ Ext w w' := by
  obtain ⟨a, c, rfl⟩ := r.shape
  refine enter (args := [.slice a (List.length l) c, I lo, I hi]) 24 Try.func141 rfl rfl rfl ?_
  refine W_forget [(0, .slice a (List.length l) c), (1, I lo), (2, I hi)] ⟨rfl, rfl, rfl, trivial⟩ fun ρ => ?_
  have X := But.refl emp w
  refine W_seq ?_
  refine W_region ?_
  refine LP_ev ok 0 [(6, .bool false)] 1 rfl rfl ?_
  refine LP_end _ rfl ?_
  refine W_seq ?_
  refine W_seq ?_
  refine W_region ?_
  refine LP_ev ok 0 [(9, .slice a (List.length l) c), (10, I (ln l)), (11, I 0)] 3 rfl rfl ?_
  refine LP_end _ rfl ?_
  refine W_block ?_
  obtain ⟨J, m, Hx, H⟩ := H
  refine W_loop (S := Int) (fun s ρ' w' => J s ∧ ∃ (ρ : Env), ρ' = setAll [(1, I lo), (2, I hi), (9, .slice a (List.length l) c), (10, I (ln l)), (11, I s)] ρ ∧ w = w') (fun s => m s) 0 ⟨Hx, _, env_eq ⟨rfl, rfl, rfl, rfl, rfl, trivial⟩, rfl⟩ ?_
  rintro x _ _ ⟨Hi, ρ, rfl, rfl⟩
  have H := H x Hi
  refine W_seq ?_
  refine W_region ?_
  refine LP_ev ok 0 [(12, .bool (decide (x < (ln l))))] 1 rfl rfl ?_
  refine LP_end _ rfl ?_
  refine W_seq ?_
  refine W_cond (decide (x < (ln l))) rfl (fun hc => ?_) (fun hc => ?_)
  · have H := H.1 hc
    refine W_skip ?_
    refine W_seq ?_
    refine W_block ?_
    refine W_seq ?_
    refine W_region ?_
    obtain ⟨x1, hi2, hx3, H⟩ := H
    refine LP_index 0 rfl rfl rfl Try.underlying22 ti_3 rfl rfl r hi2 hx3 fun a4 cs r5 d => ?_
    refine LP_load 1 rfl rfl rfl ti_3 ag_3 rfl r5 d ex fun vx6 r7 => ?_
    obtain rfl := r7.int
    refine LP_ev ok 2 [(8, I x1)] 3 rfl rfl ?_
    refine LP_end _ rfl ?_
    obtain ⟨k, hk, H⟩ := jn_elim H
    refine W_join2 (S := Bool) (fun s ρ' w' => k s ∧ ∃ (ρ : Env), ρ' = setAll [(1, I lo), (2, I hi), (9, .slice a (List.length l) c), (10, I (ln l)), (11, I x), (22, .bool s)] ρ ∧ w = w') ?_ ?_
    · refine W_region ?_
      refine LP_ev ok 0 [(15, I x1), (16, I lo), (17, .bool (decide (x1 < lo))), (18, .bool (decide (x1 < lo)))] 4 rfl rfl ?_
      refine LP_split 18 (decide (x1 < lo)) rfl (fun hc10 => ?_) (fun hc10 => ?_)
      · have H := H.1 hc10
        refine LP_ev ok 4 [(19, undef), (20, undef), (21, undef), (22, .bool true)] 8 rfl rfl ?_
        refine LP_end _ rfl ?_
        exact ⟨true, H, _, env_eq ⟨rfl, rfl, rfl, rfl, rfl, rfl, trivial⟩, rfl⟩
      have H := H.2 hc10
      refine LP_ev ok 4 [(19, I x1), (20, I hi), (21, .bool (decide (x1 > hi))), (22, .bool (decide (x1 > hi)))] 8 rfl rfl ?_
      refine LP_end _ rfl ?_
      exact ⟨decide (x1 > hi), H, _, env_eq ⟨rfl, rfl, rfl, rfl, rfl, rfl, trivial⟩, rfl⟩
    rintro x8 _ _ ⟨H, ρ, rfl, rfl⟩
    subst hk
    refine W_cond (x8) rfl (fun hc11 => ?_) (fun hc11 => ?_)
    · have H := H.1 hc11
      refine W_seq ?_
      refine W_region ?_
      refine LP_ev ok 0 [(6, .bool false)] 1 rfl rfl ?_
      refine LP_end _ rfl ?_
      refine W_ret ?_
      exact ⟨_, Ret_of [.bool false] ⟨⟨rfl, rfl⟩, trivial⟩, _, H, rfl, X.ext⟩
    have H := H.2 hc11
    refine W_skip ?_
    refine W_region ?_
    refine LP_ev ok 0 [(23, I (wr (x + 1))), (11, I (wr (x + 1)))] 2 rfl rfl ?_
    refine LP_end _ rfl ?_
    exact ⟨wr (x + 1), ⟨H.1, _, env_eq ⟨rfl, rfl, rfl, rfl, rfl, trivial⟩, rfl⟩, H.2⟩
  have H := H.2 hc
  refine W_exit ?_
  refine (if_pos rfl).mpr ?_
  refine W_seq ?_
  refine W_region ?_
  refine LP_ev ok 0 [(6, .bool true)] 1 rfl rfl ?_
  refine LP_end _ rfl ?_
  refine W_ret ?_
  exact ⟨_, Ret_of [.bool true] ⟨⟨rfl, rfl⟩, trivial⟩, _, H, rfl, X.ext⟩

set_option maxRecDepth 8000 in
set_option maxHeartbeats 4000000 in
theorem impl_areResidues_w (values : List Int) (m : Int) (Q : Bool → Prop) (H : impl_areResidues values m Q) (w : World) {vx : Value} {hx : PH} (r : RS hx vx values) (ex : Sub hx w) :
    CallsTo Try.prog 80 #[vx, I m] w fun v w' => ∃ r0, Q r0 ∧ v = .bool r0 ∧ Ext w w' := by
  obtain ⟨a, c, rfl⟩ := r.shape
  refine enter (args := [.slice a (List.length values) c, I m]) 14 Try.func80 rfl rfl rfl ?_
  refine W_forget [(0, .slice a (List.length values) c), (1, I m)] ⟨rfl, rfl, trivial⟩ fun ρ => ?_
  have X := But.refl emp w
  refine W_seq ?_
  refine W_region ?_
  refine LP_ev ok 0 [(4, .bool false)] 1 rfl rfl ?_
  refine LP_end _ rfl ?_
  obtain ⟨k, hk, H⟩ := jn_elim H
  refine W_join2 (S := Bool) (fun s ρ' w' => k s ∧ ∃ (ρ : Env), ρ' = setAll [(4, .bool s)] ρ ∧ But emp w w') ?_ ?_
  · refine W_region ?_
    refine LP_ev ok 0 [(5, .slice a (List.length values) c), (6, I (ln values)), (7, .bool (decide ((ln values) ≤ 600))), (8, .bool (decide ((ln values) ≤ 600)))] 4 rfl rfl ?_
    refine LP_split 8 (decide ((ln values) ≤ 600)) rfl (fun hc => ?_) (fun hc => ?_)
    · have H := H.1 hc
      refine LP_ev ok 4 [(9, .slice a (List.length values) c), (10, I m), (11, I (wr (m - 1)))] 7 rfl rfl ?_
      refine LP_call 7 rfl rfl rfl cal_141 rfl (impl_areWithin_w _ _ _ _ H w r ex) ?_
      rintro _ wx3 ⟨r2, H, rfl, x4⟩
      refine LP_ev ok 8 [(13, .bool r2), (4, .bool r2)] 10 rfl rfl ?_
      refine LP_end _ rfl ?_
      have X5 := (X.stepx x4)
      exact ⟨r2, H, _, env_eq ⟨rfl, trivial⟩, X5⟩
    have H := H.2 hc
    refine LP_ev ok 4 [(9, undef), (10, undef), (11, undef), (12, undef), (13, .bool false), (4, .bool false)] 10 rfl rfl ?_
    refine LP_end _ rfl ?_
    exact ⟨false, H, _, env_eq ⟨rfl, trivial⟩, X⟩
  rintro x _ wx ⟨H, ρ, rfl, X1⟩
  subst hk
  refine W_ret ?_
  exact ⟨_, Ret_of [.bool x] ⟨⟨rfl, rfl⟩, trivial⟩, _, H, rfl, X1.ext⟩

set_option maxRecDepth 8000 in
set_option maxHeartbeats 4000000 in
theorem impl_SignedValues_w (m : Int) (l : List Int) (Q : (List Int) → Bool → Prop) (H : impl_SignedValues m l Q) (w : World) {vx : Value} {hx : PH} (r : RS hx vx l) (ex : Sub hx w) :
    CallsTo Try.prog 27 #[I m, vx] w fun v w' => ∃ r0 r1 u0 g0, Q r0 r1 ∧ v = .tuple #[u0, .bool r1] ∧ Ext w w' ∧ OS 3 g0 emp u0 r0 ∧ Sub g0 w' ∧ Fresh w.heap.size g0 := by
  obtain ⟨a, c, rfl⟩ := r.shape
  refine enter (args := [I m, .slice a (List.length l) c]) 41 Try.func27 rfl rfl rfl ?_
  refine W_forget [(0, I m), (1, .slice a (List.length l) c)] ⟨rfl, rfl, trivial⟩ fun ρ => ?_
  have X := But.refl emp w
  refine W_seq ?_
  refine W_region ?_
  refine LP_ev ok 0 [(4, .slice none 0 0), (5, .bool false)] 2 rfl rfl ?_
  refine LP_end _ rfl ?_
  refine W_seq ?_
  obtain ⟨k, hk, H⟩ := jn_elim H
  refine W_join2 (S := Bool) (fun s ρ' w' => k s ∧ ∃ (ρ : Env), ρ' = setAll [(0, I m), (1, .slice a (List.length l) c), (17, .bool s)] ρ ∧ But emp w w' ∧ Sub hx w') ?_ ?_
  · refine W_region ?_
    refine LP_ev ok 0 [(9, I m)] 1 rfl rfl ?_
    refine LP_call 1 rfl rfl rfl cal_79 rfl (impl_isModulus_w _ _ H w ) ?_
    rintro _ wx4 ⟨r3, H, rfl, x5⟩
    refine LP_ev ok 2 [(11, .bool (!r3)), (12, .bool (!r3))] 4 rfl rfl ?_
    refine LP_split 12 (!r3) rfl (fun hc => ?_) (fun hc => ?_)
    · have H := H.1 hc
      refine LP_ev ok 4 [(13, undef), (14, undef), (15, undef), (16, undef), (17, .bool true)] 9 rfl rfl ?_
      refine LP_end _ rfl ?_
      have X6 := (X.stepx x5)
      have ex7 := (ex.ext x5)
      exact ⟨true, H, _, env_eq ⟨rfl, rfl, rfl, trivial⟩, X6, ex7⟩
    have H := H.2 hc
    refine LP_ev ok 4 [(13, .slice a (List.length l) c), (14, I m)] 6 rfl rfl ?_
    have ex9 := (ex.ext x5)
    refine LP_call 6 rfl rfl rfl cal_80 rfl (impl_areResidues_w _ _ _ H wx4 r ex9) ?_
    rintro _ wx10 ⟨r8, H, rfl, x11⟩
    refine LP_ev ok 7 [(16, .bool (!r8)), (17, .bool (!r8))] 9 rfl rfl ?_
    refine LP_end _ rfl ?_
    have X12 := ((X.stepx x5).stepx x11)
    have ex13 := (ex9.ext x11)
    exact ⟨!r8, H, _, env_eq ⟨rfl, rfl, rfl, trivial⟩, X12, ex13⟩
  rintro x _ wx ⟨H, ρ, rfl, X2, ex1⟩
  subst hk
  refine W_cond (x) rfl (fun hc14 => ?_) (fun hc14 => ?_)
  · have H := H.1 hc14
    refine W_seq ?_
    refine W_region ?_
    refine LP_ev ok 0 [(4, .slice none 0 0), (5, .bool false)] 2 rfl rfl ?_
    refine LP_end _ rfl ?_
    refine W_ret ?_
    exact ⟨_, Ret_of [.slice none 0 0, .bool false] ⟨⟨rfl, rfl⟩, ⟨rfl, rfl⟩, trivial⟩, _, _, _, emp, H, rfl, X2.ext, OS.nil, (emp_sub _), (emp_fresh _)⟩
  have H := H.2 hc14
  refine W_skip ?_
  refine W_seq ?_
  refine W_region ?_
  refine LP_ev ok 0 [(18, .slice a (List.length l) c), (19, I (ln l))] 2 rfl rfl ?_
  obtain ⟨hn, hb, H⟩ := H
  refine LP_make (α := Int) 2 rfl rfl rfl Try.underlying22 ti_3 (x0 := (0 : Int)) rfl rfl hn (by first | omega | (simp only [ln] at *; omega)) (by first | omega | (simp only [ln] at *; omega)) fun hx15 vx16 wx17 x18 o ex19 f => ?_
  obtain ⟨a20, c21, rfl⟩ := o.shape
  refine LP_ev ok 3 [(6, .slice a20 (List.length (List.replicate (Int.toNat (ln l)) ((0 : Int)))) c21)] 4 rfl rfl ?_
  refine LP_end _ rfl ?_
  refine W_seq ?_
  refine W_seq ?_
  refine W_region ?_
  refine LP_ev ok 0 [(21, .slice a (List.length l) c), (22, I (ln l)), (23, I 0)] 3 rfl rfl ?_
  refine LP_end _ rfl ?_
  refine W_block ?_
  obtain ⟨J, m31, Hx, H⟩ := H
  have X32 := (X2.stepx x18)
  have f33 := f.mono X2.size
  have ex34 := (ex1.ext x18)
  refine W_loop (S := (List Int) × Int) (fun s ρ' w' => J s.1 s.2 ∧ ∃ (ρ : Env) (hx23 : PH), ρ' = setAll [(0, I m), (6, .slice a20 (List.length (List.replicate (Int.toNat (ln l)) ((0 : Int)))) c21), (21, .slice a (List.length l) c), (22, I (ln l)), (23, I s.2)] ρ ∧ But emp w w' ∧ OS 3 hx23 emp (.slice a20 (List.length (List.replicate (Int.toNat (ln l)) ((0 : Int)))) c21) s.1 ∧ Sub hx23 w' ∧ Fresh w.heap.size hx23 ∧ Sub hx w' ∧ Dj hx23 hx) (fun s => m31 s.1 s.2) (List.replicate (Int.toNat (ln l)) ((0 : Int)), 0) ⟨Hx, _, hx15, env_eq ⟨rfl, rfl, rfl, rfl, rfl, trivial⟩, X32, o, ex19, f33, ex34, (Dj.of_fresh ex1 f).symm⟩ ?_
  rintro ⟨out, x27⟩ _ wx28 ⟨Hi, ρ, hx23, rfl, X30, o24, ex25, f26, ex29, d⟩
  have H := H out x27 Hi
  refine W_seq ?_
  refine W_region ?_
  refine LP_ev ok 0 [(24, .bool (decide (x27 < (ln l))))] 1 rfl rfl ?_
  refine LP_end _ rfl ?_
  refine W_seq ?_
  refine W_cond (decide (x27 < (ln l))) rfl (fun hc35 => ?_) (fun hc35 => ?_)
  · have H := H.1 hc35
    refine W_skip ?_
    refine W_seq ?_
    refine W_block ?_
    refine W_seq ?_
    refine W_region ?_
    refine LP_ev ok 0 [(25, I x27)] 1 rfl rfl ?_
    obtain ⟨x36, hi, hx37, H⟩ := H
    refine LP_index 1 rfl rfl rfl Try.underlying22 ti_3 rfl rfl r hi hx37 fun a38 cs r39 d40 => ?_
    refine LP_load 2 rfl rfl rfl ti_3 ag_3 rfl r39 d40 ex29 fun vx41 r42 => ?_
    obtain rfl := r42.int
    refine LP_ev ok 3 [(7, I x27), (8, I x36)] 5 rfl rfl ?_
    refine LP_end _ rfl ?_
    obtain ⟨k45, hk46, H⟩ := jn_elim H
    refine W_join2 (S := Int) (fun s ρ' w' => k45 s ∧ ∃ (ρ : Env), ρ' = setAll [(0, I m), (6, .slice a20 (List.length (List.replicate (Int.toNat (ln l)) ((0 : Int)))) c21), (7, I x27), (8, I s), (21, .slice a (List.length l) c), (22, I (ln l)), (23, I x27)] ρ ∧ wx28 = w') ?_ ?_
    · refine W_seq ?_
      refine W_region ?_
      refine LP_ev ok 0 [(28, I x36), (29, I (wr (2 * x36))), (30, I m), (31, .bool (decide ((wr (2 * x36)) > m)))] 4 rfl rfl ?_
      refine LP_end _ rfl ?_
      refine W_cond (decide ((wr (2 * x36)) > m)) rfl (fun hc47 => ?_) (fun hc47 => ?_)
      · have H := H.1 hc47
        refine W_region ?_
        refine LP_ev ok 0 [(32, I x36), (33, I m), (34, I (wr (x36 - m))), (8, I (wr (x36 - m)))] 4 rfl rfl ?_
        refine LP_end _ rfl ?_
        exact ⟨wr (x36 - m), H, _, env_eq ⟨rfl, rfl, rfl, rfl, rfl, rfl, rfl, trivial⟩, rfl⟩
      have H := H.2 hc47
      refine W_skip ?_
      exact ⟨x36, H, _, env_eq ⟨rfl, rfl, rfl, rfl, rfl, rfl, rfl, trivial⟩, rfl⟩
    rintro x43 _ _ ⟨H, ρ, rfl, rfl⟩
    subst hk46
    refine W_region ?_
    refine LP_ev ok 0 [(35, .slice a20 (List.length (List.replicate (Int.toNat (ln l)) ((0 : Int)))) c21), (36, I x27), (37, I x43)] 3 rfl rfl ?_
    obtain ⟨hi48, hl, H⟩ := H
    refine LP_indexw 3 rfl rfl rfl Try.underlying22 ti_3 rfl rfl o24 hi48 hl fun a49 wa => ?_
    refine LP_set 4 rfl rfl rfl rfl rfl wa (Le.refl emp) ⟨_, rfl, rfl⟩ ex25 fun hx50 wx51 o52 ex53 y dm => ?_
    refine LP_end _ rfl ?_
    refine W_region ?_
    refine LP_ev ok 0 [(39, I (wr (x27 + 1))), (23, I (wr (x27 + 1)))] 2 rfl rfl ?_
    refine LP_end _ rfl ?_
    have X54 := (X30.step y (f26.dom _))
    have f55 := (dm _).fresh f26 X30.size
    have ex56 := (ex29.but y d)
    exact ⟨(List.set out (Int.toNat x27) x43, wr (x27 + 1)), ⟨H.1, _, hx50, env_eq ⟨rfl, rfl, rfl, rfl, rfl, trivial⟩, X54, o52, ex53, f55, ex56, (DomLe.dj (dm _) d ex29)⟩, H.2⟩
  have H := H.2 hc35
  refine W_exit ?_
  refine (if_pos rfl).mpr ?_
  refine W_seq ?_
  refine W_region ?_
  refine LP_ev ok 0 [(40, .slice a20 (List.length (List.replicate (Int.toNat (ln l)) ((0 : Int)))) c21), (4, .slice a20 (List.length (List.replicate (Int.toNat (ln l)) ((0 : Int)))) c21), (5, .bool true)] 3 rfl rfl ?_
  refine LP_end _ rfl ?_
  refine W_ret ?_
  exact ⟨_, Ret_of [.slice a20 (List.length (List.replicate (Int.toNat (ln l)) ((0 : Int)))) c21, .bool true] ⟨⟨rfl, rfl⟩, ⟨rfl, rfl⟩, trivial⟩, _, _, _, _, H, rfl, X30.ext, o24, ex25, f26⟩

set_option maxRecDepth 8000 in
set_option maxHeartbeats 4000000 in
theorem laws_FnExactSignedValues_w (aM : Int) (aL : List Int) (Q : Bool → Prop) (H : laws_FnExactSignedValues aM aL Q) (w : World) {vx : Value} {hx : PH} (r : RS hx vx aL) (ex : Sub hx w) :
    CallsTo Try.prog 4 #[I aM, vx] w fun v w' => ∃ r0, Q r0 ∧ v = .bool r0 ∧ Ext w w' := by
  obtain ⟨a, c, rfl⟩ := r.shape
  refine enter (args := [I aM, .slice a (List.length aL) c]) 98 Try.func4 rfl rfl rfl ?_
  refine W_forget [(0, I aM), (1, .slice a (List.length aL) c)] ⟨rfl, rfl, trivial⟩ fun ρ => ?_
  have X := But.refl emp w
  refine W_seq ?_
  refine W_region ?_
  refine LP_ev ok 0 [(4, .bool false)] 1 rfl rfl ?_
  refine LP_end _ rfl ?_
  refine W_seq ?_
  refine W_seq ?_
  refine W_region ?_
  refine LP_ev ok 0 [(15, .slice a (List.length aL) c), (16, I (ln aL)), (17, .bool (decide ((ln aL) > 1048576)))] 3 rfl rfl ?_
  refine LP_end _ rfl ?_
  refine W_cond (decide ((ln aL) > 1048576)) rfl (fun hc => ?_) (fun hc => ?_)
  · have H := H.1 hc
    refine W_seq ?_
    refine W_region ?_
    refine LP_ev ok 0 [(4, .bool true)] 1 rfl rfl ?_
    refine LP_end _ rfl ?_
    refine W_ret ?_
    exact ⟨_, Ret_of [.bool true] ⟨⟨rfl, rfl⟩, trivial⟩, _, H, rfl, X.ext⟩
  have H := H.2 hc
  refine W_skip ?_
  refine W_seq ?_
  refine W_region ?_
  refine LP_ev ok 0 [(19, I aM), (20, .slice a (List.length aL) c)] 2 rfl rfl ?_
  refine LP_call 2 rfl rfl rfl cal_26 rfl (laws_toIntS_w _ _ H w r ex) ?_
  rintro _ wx ⟨r1, vx2, hx3, H, rfl, x, o, ex4, f⟩
  obtain ⟨a5, c6, rfl⟩ := o.shape
  refine LP_call 3 rfl rfl rfl cal_25 rfl (spec_SignedValues_w _ _ _ H wx o.readf ex4) ?_
  rintro _ wx9 ⟨r7, r8, vx11, hx12, H, rfl, x10, o13, ex14, f15⟩
  obtain ⟨a16, c17, rfl⟩ := o13.shape
  refine LP_ev ok 4 [(18, .tuple #[.slice a16 (List.length r7) c17, .bool r8]), (23, .slice a16 (List.length r7) c17), (24, .bool r8), (5, .slice a16 (List.length r7) c17), (6, .bool r8)] 9 rfl rfl ?_
  refine LP_end _ rfl ?_
  refine W_seq ?_
  refine W_region ?_
  refine LP_ev ok 0 [(25, .slice a (List.length aL) c)] 1 rfl rfl ?_
  have ex19 := ((ex.ext x).ext x10)
  refine LP_call 1 rfl rfl rfl cal_26 rfl (laws_toIntS_w _ _ H wx9 r ex19) ?_
  rintro _ wx20 ⟨r18, vx22, hx23, H, rfl, x21, o24, ex25, f26⟩
  obtain ⟨a27, c28, rfl⟩ := o24.shape
  refine LP_ev ok 2 [(7, .slice a27 (List.length r18) c28)] 3 rfl rfl ?_
  refine LP_end _ rfl ?_
  refine W_seq ?_
  refine W_region ?_
  refine LP_ev ok 0 [(28, I aM), (29, .slice a27 (List.length r18) c28)] 2 rfl rfl ?_
  refine LP_call 2 rfl rfl rfl cal_27 rfl (impl_SignedValues_w _ _ _ H wx20 o24.readf ex25) ?_
  rintro _ wx31 ⟨r29, r30, vx33, hx34, H, rfl, x32, o35, ex36, f37⟩
  obtain ⟨a38, c39, rfl⟩ := o35.shape
  refine LP_ev ok 3 [(27, .tuple #[.slice a38 (List.length r29) c39, .bool r30]), (31, .slice a38 (List.length r29) c39), (32, .bool r30), (8, .slice a38 (List.length r29) c39), (9, .bool r30)] 8 rfl rfl ?_
  refine LP_end _ rfl ?_
  refine W_seq ?_
  obtain ⟨k, hk, H⟩ := jn_elim H
  refine W_join2 (S := Bool) (fun s ρ' w' => k s ∧ ∃ (ρ : Env), ρ' = setAll [(0, I aM), (1, .slice a (List.length aL) c), (5, .slice a16 (List.length r7) c17), (6, .bool r8), (7, .slice a27 (List.length r18) c28), (8, .slice a38 (List.length r29) c39), (9, .bool r30), (41, .bool s)] ρ ∧ But emp w w' ∧ Sub hx w' ∧ Sub hx12 w' ∧ Sub hx23 w' ∧ Sub hx34 w') ?_ ?_
  · refine W_region ?_
    refine LP_ev ok 0 [(33, .slice a38 (List.length r29) c39), (34, .slice a16 (List.length r7) c17)] 2 rfl rfl ?_
    have ex48 := ((ex14.ext x21).ext x32)
    refine LP_call 2 rfl rfl rfl cal_22 rfl (laws_eqIntS_w _ _ _ H wx31 o35.readf ex36 o13.readf ex48) ?_
    rintro _ wx49 ⟨r47, H, rfl, x50⟩
    refine LP_ev ok 3 [(36, .bool (!r47)), (37, .bool (!r47))] 5 rfl rfl ?_
    refine LP_split 37 (!r47) rfl (fun hc51 => ?_) (fun hc51 => ?_)
    · have H := H.1 hc51
      refine LP_ev ok 5 [(38, undef), (39, undef), (40, undef), (41, .bool true)] 9 rfl rfl ?_
      refine LP_end _ rfl ?_
      try refine W_forget [(0, I aM), (1, .slice a (List.length aL) c), (5, .slice a16 (List.length r7) c17), (6, .bool r8), (7, .slice a27 (List.length r18) c28), (8, .slice a38 (List.length r29) c39), (9, .bool r30), (41, .bool true)] ⟨rfl, rfl, rfl, rfl, rfl, rfl, rfl, rfl, trivial⟩ fun ρ => ?_
      have X52 := (((((X.stepx x).stepx x10).stepx x21).stepx x32).stepx x50)
      have ex53 := (((ex19.ext x21).ext x32).ext x50)
      have ex54 := (ex48.ext x50)
      have ex55 := ((ex25.ext x32).ext x50)
      have ex56 := (ex36.ext x50)
      exact ⟨true, H, _, env_eq ⟨rfl, rfl, rfl, rfl, rfl, rfl, rfl, rfl, trivial⟩, X52, ex53, ex54, ex55, ex56⟩
    have H := H.2 hc51
    refine LP_ev ok 5 [(38, .bool r30), (39, .bool r8), (40, .bool (r30 != r8)), (41, .bool (r30 != r8))] 9 rfl rfl ?_
    refine LP_end _ rfl ?_
    try refine W_forget [(0, I aM), (1, .slice a (List.length aL) c), (5, .slice a16 (List.length r7) c17), (6, .bool r8), (7, .slice a27 (List.length r18) c28), (8, .slice a38 (List.length r29) c39), (9, .bool r30), (41, .bool (r30 != r8))] ⟨rfl, rfl, rfl, rfl, rfl, rfl, rfl, rfl, trivial⟩ fun ρ => ?_
    have X57 := (((((X.stepx x).stepx x10).stepx x21).stepx x32).stepx x50)
    have ex58 := (((ex19.ext x21).ext x32).ext x50)
    have ex59 := (ex48.ext x50)
    have ex60 := ((ex25.ext x32).ext x50)
    have ex61 := (ex36.ext x50)
    exact ⟨r30 != r8, H, _, env_eq ⟨rfl, rfl, rfl, rfl, rfl, rfl, rfl, rfl, trivial⟩, X57, ex58, ex59, ex60, ex61⟩
  rintro x40 _ wx41 ⟨H, ρ, rfl, X46, ex42, ex43, ex44, ex45⟩
  subst hk
  refine W_cond (x40) rfl (fun hc62 => ?_) (fun hc62 => ?_)
  · have H := H.1 hc62
    refine W_seq ?_
    refine W_region ?_
    refine LP_ev ok 0 [(4, .bool false)] 1 rfl rfl ?_
    refine LP_end _ rfl ?_
    refine W_ret ?_
    exact ⟨_, Ret_of [.bool false] ⟨⟨rfl, rfl⟩, trivial⟩, _, H, rfl, X46.ext⟩
  have H := H.2 hc62
  refine W_skip ?_
  refine W_seq ?_
  refine W_seq ?_
  refine W_region ?_
  refine LP_ev ok 0 [(42, .slice a27 (List.length r18) c28), (43, .slice a (List.length aL) c)] 2 rfl rfl ?_
  refine LP_call 2 rfl rfl rfl cal_26 rfl (laws_toIntS_w _ _ H wx41 r ex42) ?_
  rintro _ wx64 ⟨r63, vx66, hx67, H, rfl, x65, o68, ex69, f70⟩
  obtain ⟨a71, c72, rfl⟩ := o68.shape
  have ex74 := (ex44.ext x65)
  refine LP_call 3 rfl rfl rfl cal_22 rfl (laws_eqIntS_w _ _ _ H wx64 o24.readf ex74 o68.readf ex69) ?_
  rintro _ wx75 ⟨r73, H, rfl, x76⟩
  refine LP_ev ok 4 [(46, .bool (!r73))] 5 rfl rfl ?_
  refine LP_end _ rfl ?_
  refine W_cond (!r73) rfl (fun hc77 => ?_) (fun hc77 => ?_)
  · have H := H.1 hc77
    refine W_seq ?_
    refine W_region ?_
    refine LP_ev ok 0 [(4, .bool false)] 1 rfl rfl ?_
    refine LP_end _ rfl ?_
    refine W_ret ?_
    have X78 := ((X46.stepx x65).stepx x76)
    exact ⟨_, Ret_of [.bool false] ⟨⟨rfl, rfl⟩, trivial⟩, _, H, rfl, X78.ext⟩
  have H := H.2 hc77
  refine W_skip ?_
  refine W_seq ?_
  refine W_region ?_
  refine LP_ev ok 0 [(10, I 1)] 1 rfl rfl ?_
  refine LP_end _ rfl ?_
  refine W_seq ?_
  refine W_region ?_
  refine LP_ev ok 0 [(47, .slice a27 (List.length r18) c28), (48, I 1)] 2 rfl rfl ?_
  have ex81 := (ex74.ext x76)
  refine LP_call 2 rfl rfl rfl cal_23 rfl (laws_markIntS_w _ _ _ H wx75 o24 ex81) ?_
  rintro _ wx82 ⟨r79, r80, hx84, H, rfl, x83, o85, ex86, dm⟩
  refine LP_ev ok 3 [(10, I r79)] 4 rfl rfl ?_
  refine LP_end _ rfl ?_
  refine W_seq ?_
  obtain ⟨k95, hk96, H⟩ := jn_elim H
  refine W_join2 (S := Bool) (fun s ρ' w' => k95 s ∧ ∃ (ρ : Env), ρ' = setAll [(0, I aM), (1, .slice a (List.length aL) c), (5, .slice a16 (List.length r7) c17), (6, .bool r8), (8, .slice a38 (List.length r29) c39), (62, .bool s)] ρ ∧ But emp w w' ∧ Sub hx w' ∧ Sub hx12 w' ∧ Sub hx34 w') ?_ ?_
  · refine W_region ?_
    refine LP_ev ok 0 [(50, I r79), (51, .bool (decide (r79 < 0))), (52, .bool (decide (r79 < 0)))] 3 rfl rfl ?_
    refine LP_split 52 (decide (r79 < 0)) rfl (fun hc97 => ?_) (fun hc97 => ?_)
    · have H := H.1 hc97
      refine LP_ev ok 3 [(53, undef), (54, undef), (55, undef), (56, undef), (57, .bool true), (58, .bool true), (59, undef), (60, undef), (61, undef), (62, .bool true)] 13 rfl rfl ?_
      refine LP_end _ rfl ?_
      have X99 := ((X.stepx x).stepx x10)
      have f98 := f26.mono X99.size
      have X100 := (((X46.stepx x65).stepx x76).step x83 (f98.dom _))
      have ex101 := (((ex42.ext x65).ext x76).but x83 (Dj.of_fresh ex19 f26).symm)
      have ex102 := (((ex43.ext x65).ext x76).but x83 (Dj.of_fresh ex14 f26).symm)
      have ex103 := (((ex45.ext x65).ext x76).but x83 (Dj.of_fresh ex25 f37))
      exact ⟨true, H, _, env_eq ⟨rfl, rfl, rfl, rfl, rfl, rfl, trivial⟩, X100, ex101, ex102, ex103⟩
    have H := H.2 hc97
    refine LP_ev ok 3 [(53, .slice a38 (List.length r29) c39), (54, .slice a16 (List.length r7) c17)] 5 rfl rfl ?_
    have ex105 := (((ex45.ext x65).ext x76).but x83 (Dj.of_fresh ex25 f37))
    have ex106 := (((ex43.ext x65).ext x76).but x83 (Dj.of_fresh ex14 f26).symm)
    refine LP_call 5 rfl rfl rfl cal_22 rfl (laws_eqIntS_w _ _ _ H wx82 o35.readf ex105 o13.readf ex106) ?_
    rintro _ wx107 ⟨r104, H, rfl, x108⟩
    refine LP_ev ok 6 [(56, .bool (!r104)), (57, .bool (!r104)), (58, .bool (!r104))] 9 rfl rfl ?_
    refine LP_split 58 (!r104) rfl (fun hc109 => ?_) (fun hc109 => ?_)
    · have H := H.1 hc109
      refine LP_ev ok 9 [(59, undef), (60, undef), (61, undef), (62, .bool true)] 13 rfl rfl ?_
      refine LP_end _ rfl ?_
      have X111 := ((X.stepx x).stepx x10)
      have f110 := f26.mono X111.size
      have X112 := ((((X46.stepx x65).stepx x76).step x83 (f110.dom _)).stepx x108)
      have ex113 := ((((ex42.ext x65).ext x76).but x83 (Dj.of_fresh ex19 f26).symm).ext x108)
      have ex114 := (ex106.ext x108)
      have ex115 := (ex105.ext x108)
      exact ⟨true, H, _, env_eq ⟨rfl, rfl, rfl, rfl, rfl, rfl, trivial⟩, X112, ex113, ex114, ex115⟩
    have H := H.2 hc109
    refine LP_ev ok 9 [(59, .bool r30), (60, .bool r8), (61, .bool (r30 != r8)), (62, .bool (r30 != r8))] 13 rfl rfl ?_
    refine LP_end _ rfl ?_
    have X117 := ((X.stepx x).stepx x10)
    have f116 := f26.mono X117.size
    have X118 := ((((X46.stepx x65).stepx x76).step x83 (f116.dom _)).stepx x108)
    have ex119 := ((((ex42.ext x65).ext x76).but x83 (Dj.of_fresh ex19 f26).symm).ext x108)
    have ex120 := (ex106.ext x108)
    have ex121 := (ex105.ext x108)
    exact ⟨r30 != r8, H, _, env_eq ⟨rfl, rfl, rfl, rfl, rfl, rfl, trivial⟩, X118, ex119, ex120, ex121⟩
  rintro x89 _ wx90 ⟨H, ρ, rfl, X94, ex91, ex92, ex93⟩
  subst hk96
  refine W_cond (x89) rfl (fun hc122 => ?_) (fun hc122 => ?_)
  · have H := H.1 hc122
    refine W_seq ?_
    refine W_region ?_
    refine LP_ev ok 0 [(4, .bool false)] 1 rfl rfl ?_
    refine LP_end _ rfl ?_
    refine W_ret ?_
    exact ⟨_, Ret_of [.bool false] ⟨⟨rfl, rfl⟩, trivial⟩, _, H, rfl, X94.ext⟩
  have H := H.2 hc122
  refine W_skip ?_
  refine W_seq ?_
  refine W_region ?_
  refine LP_ev ok 0 [(11, I 1)] 1 rfl rfl ?_
  refine LP_end _ rfl ?_
  refine W_seq ?_
  refine W_region ?_
  refine LP_ev ok 0 [(63, .slice a38 (List.length r29) c39), (64, I 1)] 2 rfl rfl ?_
  refine LP_call 2 rfl rfl rfl cal_23 rfl (laws_markIntS_w _ _ _ H wx90 o35 ex93) ?_
  rintro _ wx125 ⟨r123, r124, hx127, H, rfl, x126, o128, ex129, dm130⟩
  refine LP_ev ok 3 [(11, I r123)] 4 rfl rfl ?_
  refine LP_end _ rfl ?_
  refine W_seq ?_
  refine W_region ?_
  refine LP_ev ok 0 [(12, I 1)] 1 rfl rfl ?_
  refine LP_end _ rfl ?_
  refine W_seq ?_
  refine W_region ?_
  refine LP_ev ok 0 [(66, .slice a38 (List.length r29) c39), (67, I 1)] 2 rfl rfl ?_
  refine LP_call 2 rfl rfl rfl cal_24 rfl (laws_heldIntS_w _ _ _ H wx125 o128.readf ex129) ?_
  rintro _ wx135 ⟨r134, H, rfl, x136⟩
  refine LP_ev ok 3 [(12, I r134)] 4 rfl rfl ?_
  refine LP_end _ rfl ?_
  refine W_seq ?_
  refine W_seq ?_
  refine W_region ?_
  refine LP_ev ok 0 [(69, I r134), (70, .bool (decide (r134 < 0)))] 2 rfl rfl ?_
  refine LP_end _ rfl ?_
  refine W_cond (decide (r134 < 0)) rfl (fun hc137 => ?_) (fun hc137 => ?_)
  · have H := H.1 hc137
    refine W_seq ?_
    refine W_region ?_
    refine LP_ev ok 0 [(4, .bool false)] 1 rfl rfl ?_
    refine LP_end _ rfl ?_
    refine W_ret ?_
    have X139 := (((X.stepx x).stepx x10).stepx x21)
    have f138 := f37.mono X139.size
    have X140 := ((X94.step x126 (f138.dom _)).stepx x136)
    exact ⟨_, Ret_of [.bool false] ⟨⟨rfl, rfl⟩, trivial⟩, _, H, rfl, X140.ext⟩
  have H := H.2 hc137
  refine W_skip ?_
  refine W_seq ?_
  refine W_seq ?_
  refine W_region ?_
  refine LP_ev ok 0 [(71, I r134), (72, I r123), (73, .bool (r134 != r123))] 3 rfl rfl ?_
  refine LP_end _ rfl ?_
  refine W_cond (r134 != r123) rfl (fun hc141 => ?_) (fun hc141 => ?_)
  · have H := H.1 hc141
    refine W_seq ?_
    refine W_region ?_
    refine LP_ev ok 0 [(4, .bool false)] 1 rfl rfl ?_
    refine LP_end _ rfl ?_
    refine W_ret ?_
    have X143 := (((X.stepx x).stepx x10).stepx x21)
    have f142 := f37.mono X143.size
    have X144 := ((X94.step x126 (f142.dom _)).stepx x136)
    exact ⟨_, Ret_of [.bool false] ⟨⟨rfl, rfl⟩, trivial⟩, _, H, rfl, X144.ext⟩
  have H := H.2 hc141
  refine W_skip ?_
  refine W_seq ?_
  refine W_region ?_
  refine LP_ev ok 0 [(75, I aM), (76, .slice a (List.length aL) c)] 2 rfl rfl ?_
  have ex146 := (ex19.ext x21)
  have ex147 := ((ex91.but x126 (Dj.of_fresh ex146 f37).symm).ext x136)
  refine LP_call 2 rfl rfl rfl cal_26 rfl (laws_toIntS_w _ _ H wx135 r ex147) ?_
  rintro _ wx148 ⟨r145, vx150, hx151, H, rfl, x149, o152, ex153, f154⟩
  obtain ⟨a155, c156, rfl⟩ := o152.shape
  refine LP_call 3 rfl rfl rfl cal_27 rfl (impl_SignedValues_w _ _ _ H wx148 o152.readf ex153) ?_
  rintro _ wx159 ⟨r157, r158, vx161, hx162, H, rfl, x160, o163, ex164, f165⟩
  obtain ⟨a166, c167, rfl⟩ := o163.shape
  refine LP_ev ok 4 [(74, .tuple #[.slice a166 (List.length r157) c167, .bool r158]), (79, .slice a166 (List.length r157) c167), (80, .bool r158), (13, .slice a166 (List.length r157) c167), (14, .bool r158)] 9 rfl rfl ?_
  refine LP_end _ rfl ?_
  refine W_seq ?_
  obtain ⟨k172, hk173, H⟩ := jn_elim H
  refine W_join2 (S := Bool) (fun s ρ' w' => k172 s ∧ ∃ (ρ : Env), ρ' = setAll [(8, .slice a38 (List.length r29) c39), (11, I r123), (89, .bool s)] ρ ∧ But emp w w' ∧ Sub hx127 w') ?_ ?_
  · refine W_region ?_
    refine LP_ev ok 0 [(81, .slice a166 (List.length r157) c167), (82, .slice a16 (List.length r7) c17)] 2 rfl rfl ?_
    have ex175 := (ex14.ext x21)
    have ex176 := ((((ex92.but x126 (Dj.of_fresh ex175 f37).symm).ext x136).ext x149).ext x160)
    refine LP_call 2 rfl rfl rfl cal_22 rfl (laws_eqIntS_w _ _ _ H wx159 o163.readf ex164 o13.readf ex176) ?_
    rintro _ wx177 ⟨r174, H, rfl, x178⟩
    refine LP_ev ok 3 [(84, .bool (!r174)), (85, .bool (!r174))] 5 rfl rfl ?_
    refine LP_split 85 (!r174) rfl (fun hc179 => ?_) (fun hc179 => ?_)
    · have H := H.1 hc179
      refine LP_ev ok 5 [(86, undef), (87, undef), (88, undef), (89, .bool true)] 9 rfl rfl ?_
      refine LP_end _ rfl ?_
      try refine W_forget [(8, .slice a38 (List.length r29) c39), (11, I r123), (89, .bool true)] ⟨rfl, rfl, rfl, trivial⟩ fun ρ => ?_
      have X181 := (((X.stepx x).stepx x10).stepx x21)
      have f180 := f37.mono X181.size
      have X182 := (((((X94.step x126 (f180.dom _)).stepx x136).stepx x149).stepx x160).stepx x178)
      have ex183 := ((((ex129.ext x136).ext x149).ext x160).ext x178)
      exact ⟨true, H, _, env_eq ⟨rfl, rfl, rfl, trivial⟩, X182, ex183⟩
    have H := H.2 hc179
    refine LP_ev ok 5 [(86, .bool r158), (87, .bool r8), (88, .bool (r158 != r8)), (89, .bool (r158 != r8))] 9 rfl rfl ?_
    refine LP_end _ rfl ?_
    try refine W_forget [(8, .slice a38 (List.length r29) c39), (11, I r123), (89, .bool (r158 != r8))] ⟨rfl, rfl, rfl, trivial⟩ fun ρ => ?_
    have X185 := (((X.stepx x).stepx x10).stepx x21)
    have f184 := f37.mono X185.size
    have X186 := (((((X94.step x126 (f184.dom _)).stepx x136).stepx x149).stepx x160).stepx x178)
    have ex187 := ((((ex129.ext x136).ext x149).ext x160).ext x178)
    exact ⟨r158 != r8, H, _, env_eq ⟨rfl, rfl, rfl, trivial⟩, X186, ex187⟩
  rintro x168 _ wx169 ⟨H, ρ, rfl, X171, ex170⟩
  subst hk173
  refine W_cond (x168) rfl (fun hc188 => ?_) (fun hc188 => ?_)
  · have H := H.1 hc188
    refine W_seq ?_
    refine W_region ?_
    refine LP_ev ok 0 [(4, .bool false)] 1 rfl rfl ?_
    refine LP_end _ rfl ?_
    refine W_ret ?_
    exact ⟨_, Ret_of [.bool false] ⟨⟨rfl, rfl⟩, trivial⟩, _, H, rfl, X171.ext⟩
  have H := H.2 hc188
  refine W_skip ?_
  refine W_seq ?_
  refine W_region ?_
  refine LP_ev ok 0 [(12, I 1)] 1 rfl rfl ?_
  refine LP_end _ rfl ?_
  refine W_seq ?_
  refine W_region ?_
  refine LP_ev ok 0 [(90, .slice a38 (List.length r29) c39), (91, I 1)] 2 rfl rfl ?_
  refine LP_call 2 rfl rfl rfl cal_24 rfl (laws_heldIntS_w _ _ _ H wx169 o128.readf ex170) ?_
  rintro _ wx190 ⟨r189, H, rfl, x191⟩
  refine LP_ev ok 3 [(12, I r189)] 4 rfl rfl ?_
  refine LP_end _ rfl ?_
  refine W_seq ?_
  refine W_seq ?_
  refine W_region ?_
  refine LP_ev ok 0 [(93, I r189), (94, .bool (decide (r189 < 0)))] 2 rfl rfl ?_
  refine LP_end _ rfl ?_
  refine W_cond (decide (r189 < 0)) rfl (fun hc192 => ?_) (fun hc192 => ?_)
  · have H := H.1 hc192
    refine W_seq ?_
    refine W_region ?_
    refine LP_ev ok 0 [(4, .bool false)] 1 rfl rfl ?_
    refine LP_end _ rfl ?_
    refine W_ret ?_
    have X193 := (X171.stepx x191)
    exact ⟨_, Ret_of [.bool false] ⟨⟨rfl, rfl⟩, trivial⟩, _, H, rfl, X193.ext⟩
  have H := H.2 hc192
  refine W_skip ?_
  refine W_seq ?_
  refine W_seq ?_
  refine W_region ?_
  refine LP_ev ok 0 [(95, I r189), (96, I r123), (97, .bool (r189 != r123))] 3 rfl rfl ?_
  refine LP_end _ rfl ?_
  refine W_cond (r189 != r123) rfl (fun hc194 => ?_) (fun hc194 => ?_)
  · have H := H.1 hc194
    refine W_seq ?_
    refine W_region ?_
    refine LP_ev ok 0 [(4, .bool false)] 1 rfl rfl ?_
    refine LP_end _ rfl ?_
    refine W_ret ?_
    have X195 := (X171.stepx x191)
    exact ⟨_, Ret_of [.bool false] ⟨⟨rfl, rfl⟩, trivial⟩, _, H, rfl, X195.ext⟩
  have H := H.2 hc194
  refine W_skip ?_
  refine W_seq ?_
  refine W_region ?_
  refine LP_ev ok 0 [(4, .bool true)] 1 rfl rfl ?_
  refine LP_end _ rfl ?_
  refine W_ret ?_
  have X196 := (X171.stepx x191)
  exact ⟨_, Ret_of [.bool true] ⟨⟨rfl, rfl⟩, trivial⟩, _, H, rfl, X196.ext⟩

set_option maxRecDepth 8000 in
set_option maxHeartbeats 4000000 in
theorem spec_hDigest_w (l : List Int) (Q : Bool → Prop) (H : spec_hDigest l Q) (w : World) {vx : Value} {hx : PH} (r : RS hx vx l) (ex : Sub hx w) :
    CallsTo Try.prog 81 #[vx] w fun v w' => ∃ r0, Q r0 ∧ v = .bool r0 ∧ Ext w w' := by
  obtain ⟨a, c, rfl⟩ := r.shape
  refine enter (args := [.slice a (List.length l) c]) 5 Try.func81 rfl rfl rfl ?_
  refine W_forget [(0, .slice a (List.length l) c)] ⟨rfl, trivial⟩ fun ρ => ?_
  have X := But.refl emp w
  refine W_seq ?_
  refine W_region ?_
  refine LP_ev ok 0 [(2, .bool false)] 1 rfl rfl ?_
  refine LP_end _ rfl ?_
  refine W_seq ?_
  refine W_region ?_
  refine LP_ev ok 0 [(3, .slice a (List.length l) c)] 1 rfl rfl ?_
  refine LP_call 1 rfl rfl rfl cal_140 rfl (spec_l1All_w _ _ _ _ H w r ex) ?_
  rintro _ wx ⟨r1, H, rfl, x⟩
  refine LP_ev ok 2 [(2, .bool r1)] 3 rfl rfl ?_
  refine LP_end _ rfl ?_
  refine W_ret ?_
  have X2 := (X.stepx x)
  exact ⟨_, Ret_of [.bool r1] ⟨⟨rfl, rfl⟩, trivial⟩, _, H, rfl, X2.ext⟩

set_option maxRecDepth 8000 in
set_option maxHeartbeats 4000000 in
theorem spec_zeRound_w (round : Int) (n : Int) (m : Int) (Q : Bool → Prop) (H : spec_zeRound round n m Q) (w : World)  :
    CallsTo Try.prog 82 #[I round, I n, I m] w fun v w' => ∃ r0, Q r0 ∧ v = .bool r0 ∧ Ext w w' := by
  refine enter (args := [I round, I n, I m]) 17 Try.func82 rfl rfl rfl ?_
  refine W_forget [(0, I round), (1, I n), (2, I m)] ⟨rfl, rfl, rfl, trivial⟩ fun ρ => ?_
  have X := But.refl emp w
  refine W_seq ?_
  refine W_region ?_
  refine LP_ev ok 0 [(6, .bool false)] 1 rfl rfl ?_
  refine LP_end _ rfl ?_
  obtain ⟨k, hk, H⟩ := jn_elim H
  refine W_join2 (S := Bool) (fun s ρ' w' => k s ∧ ∃ (ρ : Env), ρ' = setAll [(6, .bool s)] ρ ∧ But emp w w') ?_ ?_
  · refine W_region ?_
    refine LP_ev ok 0 [(7, I round)] 1 rfl rfl ?_
    refine LP_call 1 rfl rfl rfl cal_76 rfl (spec_l1In_w _ _ _ _ H w ) ?_
    rintro _ wx2 ⟨r, H, rfl, x3⟩
    refine LP_ev ok 2 [(9, .bool r)] 3 rfl rfl ?_
    refine LP_split 9 (r) rfl (fun hc => ?_) (fun hc => ?_)
    · have H := H.1 hc
      refine LP_ev ok 3 [(10, I n)] 4 rfl rfl ?_
      refine LP_call 4 rfl rfl rfl cal_76 rfl (spec_l1In_w _ _ _ _ H wx2 ) ?_
      rintro _ wx5 ⟨r4, H, rfl, x6⟩
      refine LP_ev ok 5 [(12, .bool r4), (13, .bool r4)] 7 rfl rfl ?_
      refine LP_split 13 (r4) rfl (fun hc7 => ?_) (fun hc7 => ?_)
      · have H := H.1 hc7
        refine LP_ev ok 7 [(14, I m)] 8 rfl rfl ?_
        refine LP_call 8 rfl rfl rfl cal_77 rfl (spec_zeModulus_w _ _ H wx5 ) ?_
        rintro _ wx9 ⟨r8, H, rfl, x10⟩
        refine LP_ev ok 9 [(16, .bool r8), (6, .bool r8)] 11 rfl rfl ?_
        refine LP_end _ rfl ?_
        have X11 := (((X.stepx x3).stepx x6).stepx x10)
        exact ⟨r8, H, _, env_eq ⟨rfl, trivial⟩, X11⟩
      have H := H.2 hc7
      refine LP_ev ok 7 [(14, undef), (15, undef), (16, .bool false), (6, .bool false)] 11 rfl rfl ?_
      refine LP_end _ rfl ?_
      have X12 := ((X.stepx x3).stepx x6)
      exact ⟨false, H, _, env_eq ⟨rfl, trivial⟩, X12⟩
    have H := H.2 hc
    refine LP_ev ok 3 [(10, undef), (11, undef), (12, .bool false), (13, .bool false), (14, undef), (15, undef), (16, .bool false), (6, .bool false)] 11 rfl rfl ?_
    refine LP_end _ rfl ?_
    have X13 := (X.stepx x3)
    exact ⟨false, H, _, env_eq ⟨rfl, trivial⟩, X13⟩
  rintro x _ wx ⟨H, ρ, rfl, X1⟩
  subst hk
  refine W_ret ?_
  exact ⟨_, Ret_of [.bool x] ⟨⟨rfl, rfl⟩, trivial⟩, _, H, rfl, X1.ext⟩

set_option maxRecDepth 8000 in
set_option maxHeartbeats 4000000 in
theorem spec_hMod_w (x : Int) (m : Int) (Q : Int → Prop) (H : spec_hMod x m Q) (w : World)  :
    CallsTo Try.prog 152 #[I x, I m] w fun v w' => ∃ r0, Q r0 ∧ v = I r0 ∧ Ext w w' := by
  refine enter (args := [I x, I m]) 12 Try.func152 rfl rfl rfl ?_
  refine W_forget [(0, I x), (1, I m)] ⟨rfl, rfl, trivial⟩ fun ρ => ?_
  have X := But.refl emp w
  refine W_seq ?_
  refine W_region ?_
  refine LP_ev ok 0 [(4, I 0)] 1 rfl rfl ?_
  refine LP_end _ rfl ?_
  refine W_seq ?_
  refine W_region ?_
  refine LP_ev ok 0 [(5, I x), (6, I m)] 2 rfl rfl ?_
  obtain ⟨hz, H⟩ := H
  refine LP_val 2 _ rfl rfl (ex_rem rfl rfl rfl hz _) ?_
  refine LP_ev ok 3 [(8, I m), (9, I (wr ((Int.tmod x m) + m))), (10, I m)] 6 rfl rfl ?_
  obtain ⟨hz1, H⟩ := H
  refine LP_val 6 _ rfl rfl (ex_rem rfl rfl rfl hz1 _) ?_
  refine LP_ev ok 7 [(4, I (Int.tmod (wr ((Int.tmod x m) + m)) m))] 8 rfl rfl ?_
  refine LP_end _ rfl ?_
  refine W_ret ?_
  exact ⟨_, Ret_of [I (Int.tmod (wr ((Int.tmod x m) + m)) m)] ⟨⟨rfl, rfl⟩, trivial⟩, _, H, rfl, X.ext⟩

set_option maxRecDepth 8000 in
set_option maxHeartbeats 4000000 in
theorem spec_hInts_w (l : List Int) (Q : Int → Prop) (H : spec_hInts l Q) (w : World) {vx : Value} {hx : PH} (r : RS hx vx l) (ex : Sub hx w) :
    CallsTo Try.prog 142 #[vx] w fun v w' => ∃ r0, Q r0 ∧ v = I r0 ∧ Ext w w' := by
  obtain ⟨a, c, rfl⟩ := r.shape
  refine enter (args := [.slice a (List.length l) c]) 43 Try.func142 rfl rfl rfl ?_
  refine W_forget [(0, .slice a (List.length l) c)] ⟨rfl, trivial⟩ fun ρ => ?_
  have X := But.refl emp w
  refine W_seq ?_
  refine W_region ?_
  refine LP_ev ok 0 [(2, I 0)] 1 rfl rfl ?_
  refine LP_end _ rfl ?_
  refine W_seq ?_
  refine W_region ?_
  refine LP_ev ok 0 [(7, .slice a (List.length l) c), (8, I (ln l)), (3, I (ln l)), (4, I 1)] 4 rfl rfl ?_
  refine LP_end _ rfl ?_
  refine W_seq ?_
  refine W_seq ?_
  refine W_region ?_
  refine LP_ev ok 0 [(5, I 0)] 1 rfl rfl ?_
  refine LP_end _ rfl ?_
  refine W_block ?_
  obtain ⟨J, m, Hx, H⟩ := H
  refine W_loop (S := Int × Int × Int) (fun s ρ' w' => J s.1 s.2.1 s.2.2 ∧ ∃ (ρ : Env), ρ' = setAll [(0, .slice a (List.length l) c), (3, I s.1), (4, I s.2.1), (5, I s.2.2)] ρ ∧ But emp w w' ∧ Sub hx w') (fun s => m s.1 s.2.1 s.2.2) (ln l, 1, 0) ⟨Hx, _, env_eq ⟨rfl, rfl, rfl, rfl, trivial⟩, X, ex⟩ ?_
  rintro ⟨a1, b, i⟩ _ wx ⟨Hi, ρ, rfl, X3, ex2⟩
  have H := H a1 b i Hi
  refine W_seq ?_
  refine W_seq ?_
  refine W_region ?_
  refine LP_ev ok 0 [(9, I i), (10, .slice a (List.length l) c), (11, I (ln l)), (12, I (wr ((ln l) + 4))), (13, .bool (decide (i < (wr ((ln l) + 4)))))] 5 rfl rfl ?_
  refine LP_end _ rfl ?_
  refine W_cond (decide (i < (wr ((ln l) + 4)))) rfl (fun hc => ?_) (fun hc => ?_)
  · have H := H.1 hc
    refine W_skip ?_
    refine W_seq ?_
    refine W_block ?_
    refine W_seq ?_
    refine W_region ?_
    refine LP_ev ok 0 [(6, I 0)] 1 rfl rfl ?_
    refine LP_end _ rfl ?_
    obtain ⟨k, hk, H⟩ := jn_elim H
    refine W_join2 (S := Int) (fun s ρ' w' => k s ∧ ∃ (ρ : Env), ρ' = setAll [(0, .slice a (List.length l) c), (3, I a1), (4, I b), (5, I i), (6, I s)] ρ ∧ wx = w') ?_ ?_
    · refine W_seq ?_
      refine W_region ?_
      refine LP_ev ok 0 [(16, I i), (17, .slice a (List.length l) c), (18, I (ln l)), (19, .bool (decide (i < (ln l))))] 4 rfl rfl ?_
      refine LP_end _ rfl ?_
      refine W_cond (decide (i < (ln l))) rfl (fun hc5 => ?_) (fun hc5 => ?_)
      · have H := H.1 hc5
        refine W_region ?_
        refine LP_ev ok 0 [(20, .slice a (List.length l) c), (21, I i)] 2 rfl rfl ?_
        obtain ⟨x6, hi, hx7, H⟩ := H
        refine LP_index 2 rfl rfl rfl Try.underlying22 ti_3 rfl rfl r hi hx7 fun a8 cs r9 d => ?_
        refine LP_load 3 rfl rfl rfl ti_3 ag_3 rfl r9 d ex2 fun vx10 r11 => ?_
        obtain rfl := r11.int
        refine LP_ev ok 4 [(6, I x6)] 5 rfl rfl ?_
        refine LP_end _ rfl ?_
        exact ⟨x6, H, _, env_eq ⟨rfl, rfl, rfl, rfl, rfl, trivial⟩, rfl⟩
      have H := H.2 hc5
      refine W_skip ?_
      exact ⟨0, H, _, env_eq ⟨rfl, rfl, rfl, rfl, rfl, trivial⟩, rfl⟩
    rintro x _ _ ⟨H, ρ, rfl, rfl⟩
    subst hk
    refine W_seq ?_
    refine W_region ?_
    refine LP_ev ok 0 [(24, I a1), (25, I (wr (48271 * a1))), (26, I x)] 3 rfl rfl ?_
    refine LP_call 3 rfl rfl rfl cal_152 rfl (spec_hMod_w _ _ _ H wx ) ?_
    rintro _ wx13 ⟨r12, H, rfl, x14⟩
    refine LP_ev ok 4 [(28, I (wr ((wr (48271 * a1)) + r12))), (29, I (wr ((wr ((wr (48271 * a1)) + r12)) + 1)))] 6 rfl rfl ?_
    refine LP_val 6 _ rfl rfl (ex_rem rfl rfl rfl (by decide) _) ?_
    refine LP_ev ok 7 [(3, I (Int.tmod (wr ((wr ((wr (48271 * a1)) + r12)) + 1)) 2147483647))] 8 rfl rfl ?_
    refine LP_end _ rfl ?_
    refine W_region ?_
    refine LP_ev ok 0 [(31, I b), (32, I (wr (69621 * b))), (33, I x)] 3 rfl rfl ?_
    refine LP_call 3 rfl rfl rfl cal_152 rfl (spec_hMod_w _ _ _ H wx13 ) ?_
    rintro _ wx16 ⟨r15, H, rfl, x17⟩
    refine LP_ev ok 4 [(35, I (wr ((wr (69621 * b)) + r15))), (36, I (Int.tmod (wr ((wr ((wr (48271 * a1)) + r12)) + 1)) 2147483647)), (37, I (wr ((wr ((wr (69621 * b)) + r15)) + (Int.tmod (wr ((wr ((wr (48271 * a1)) + r12)) + 1)) 2147483647))))] 7 rfl rfl ?_
    refine LP_val 7 _ rfl rfl (ex_rem rfl rfl rfl (by decide) _) ?_
    refine LP_ev ok 8 [(4, I (Int.tmod (wr ((wr ((wr (69621 * b)) + r15)) + (Int.tmod (wr ((wr ((wr (48271 * a1)) + r12)) + 1)) 2147483647))) 2147483629))] 9 rfl rfl ?_
    refine LP_end _ rfl ?_
    refine W_region ?_
    refine LP_ev ok 0 [(14, I i), (15, I (wr (i + 1))), (5, I (wr (i + 1)))] 3 rfl rfl ?_
    refine LP_end _ rfl ?_
    have X18 := ((X3.stepx x14).stepx x17)
    have ex19 := ((ex2.ext x14).ext x17)
    exact ⟨(Int.tmod (wr ((wr ((wr (48271 * a1)) + r12)) + 1)) 2147483647, Int.tmod (wr ((wr ((wr (69621 * b)) + r15)) + (Int.tmod (wr ((wr ((wr (48271 * a1)) + r12)) + 1)) 2147483647))) 2147483629, wr (i + 1)), ⟨H.1, _, env_eq ⟨rfl, rfl, rfl, rfl, trivial⟩, X18, ex19⟩, H.2⟩
  have H := H.2 hc
  refine W_exit ?_
  refine (if_pos rfl).mpr ?_
  refine W_seq ?_
  refine W_region ?_
  refine LP_ev ok 0 [(39, I a1), (40, I (wr (a1 * 2 ^ 31))), (41, I b), (42, I (wr ((wr (a1 * 2 ^ 31)) + b))), (2, I (wr ((wr (a1 * 2 ^ 31)) + b)))] 5 rfl rfl ?_
  refine LP_end _ rfl ?_
  refine W_ret ?_
  exact ⟨_, Ret_of [I (wr ((wr (a1 * 2 ^ 31)) + b))] ⟨⟨rfl, rfl⟩, trivial⟩, _, H, rfl, X3.ext⟩

set_option maxRecDepth 8000 in
set_option maxHeartbeats 4000000 in
theorem spec_zeMask_w (seed : Int) (i : Int) (k : Int) (round : Int) (n : Int) (m : Int) (Q : (List Int) → Prop) (H : spec_zeMask seed i k round n m Q) (w : World)  :
    CallsTo Try.prog 83 #[I seed, I i, I k, I round, I n, I m] w fun v w' => ∃ r0 u0 g0, Q r0 ∧ v = u0 ∧ Ext w w' ∧ OS 3 g0 emp u0 r0 ∧ Sub g0 w' ∧ Fresh w.heap.size g0 := by
  refine enter (args := [I seed, I i, I k, I round, I n, I m]) 33 Try.func83 rfl rfl rfl ?_
  refine W_forget [(0, I seed), (1, I i), (2, I k), (3, I round), (4, I n), (5, I m)] ⟨rfl, rfl, rfl, rfl, rfl, rfl, trivial⟩ fun ρ => ?_
  have X := But.refl emp w
  refine W_seq ?_
  refine W_region ?_
  refine LP_ev ok 0 [(12, .slice none 0 0)] 1 rfl rfl ?_
  refine LP_end _ rfl ?_
  refine W_seq ?_
  refine W_region ?_
  refine LP_ev ok 0 [(13, .slice none 0 0)] 1 rfl rfl ?_
  refine LP_end _ rfl ?_
  refine W_seq ?_
  refine W_seq ?_
  refine W_region ?_
  refine LP_ev ok 0 [(14, I 0)] 1 rfl rfl ?_
  refine LP_end _ rfl ?_
  refine W_block ?_
  obtain ⟨J, m2, Hx, H⟩ := H
  refine W_loop (S := (List Int) × Int) (fun s ρ' w' => J s.1 s.2 ∧ ∃ (ρ : Env) (vx : Value) (hx : PH), ρ' = setAll [(0, I seed), (1, I i), (2, I k), (3, I round), (4, I n), (5, I m), (13, vx), (14, I s.2)] ρ ∧ But emp w w' ∧ OS 3 hx emp vx s.1 ∧ Sub hx w' ∧ Fresh w.heap.size hx) (fun s => m2 s.1 s.2) ([], 0) ⟨Hx, _, .slice none 0 0, emp, env_eq ⟨rfl, rfl, rfl, rfl, rfl, rfl, rfl, rfl, trivial⟩, X, OS.nil, (emp_sub _), (emp_fresh _)⟩ ?_
  rintro ⟨out, j⟩ _ wx ⟨Hi, ρ, vx, hx, rfl, X1, o, ex, f⟩
  have H := H out j Hi
  obtain ⟨a, c, rfl⟩ := o.shape
  refine W_seq ?_
  refine W_seq ?_
  refine W_region ?_
  refine LP_ev ok 0 [(15, I j), (16, I n), (17, .bool (decide (j < n)))] 3 rfl rfl ?_
  refine LP_end _ rfl ?_
  refine W_cond (decide (j < n)) rfl (fun hc => ?_) (fun hc => ?_)
  · have H := H.1 hc
    refine W_skip ?_
    refine W_seq ?_
    refine W_block ?_
    refine W_region ?_
    refine LP_ev ok 0 [(20, .slice a (List.length out) c), (21, I seed), (22, I i), (23, I k), (24, I round), (25, I j)] 6 rfl rfl ?_
    refine LP_lit (α := Int) (g := emp) 6 (vs := [I 5, I seed, I i, I k, I round, I j]) (xs := [5, seed, i, k, round, j]) rfl rfl rfl Try.underlying22 ti_3 rfl rfl ⟨⟨_, rfl, rfl⟩, ⟨_, rfl, rfl⟩, ⟨_, rfl, rfl⟩, ⟨_, rfl, rfl⟩, ⟨_, rfl, rfl⟩, ⟨_, rfl, rfl⟩, trivial⟩ rfl rfl fun hx3 vx4 wx5 x o6 ex7 f8 => ?_
    obtain ⟨a9, c10, rfl⟩ := o6.shape
    refine LP_call 7 rfl rfl rfl cal_142 rfl (spec_hInts_w _ _ H wx5 o6.readf ex7) ?_
    rintro _ wx11 ⟨r, H, rfl, x12⟩
    refine LP_ev ok 8 [(28, I m)] 9 rfl rfl ?_
    obtain ⟨hz, H⟩ := H
    refine LP_val 9 _ rfl rfl (ex_rem rfl rfl rfl hz _) ?_
    refine LP_lit (α := Int) (g := emp) 10 (vs := [I (Int.tmod r m)]) (xs := [Int.tmod r m]) rfl rfl rfl Try.underlying22 ti_3 rfl rfl ⟨⟨_, rfl, rfl⟩, trivial⟩ rfl rfl fun hx13 vx14 wx15 x16 o17 ex18 f19 => ?_
    obtain ⟨a20, c21, rfl⟩ := o17.shape
    have ex22 := (((ex.ext x).ext x12).ext x16)
    obtain ⟨hb, H⟩ := H
    refine LP_appendf (α := Int) 11 rfl rfl rfl Try.underlying22 ti_3 rfl rfl rfl o ex22 o17.readf ex18 (by first | omega | (simp only [ln] at *; omega)) (by first | omega | (simp only [ln] at *; omega)) fun hx23 vx24 wx25 o26 ex27 y dm => ?_
    obtain ⟨a28, c29, rfl⟩ := o26.shape
    refine LP_ev ok 12 [(13, .slice a28 (List.length (out ++ ([Int.tmod r m]))) c29)] 13 rfl rfl ?_
    refine LP_end _ rfl ?_
    refine W_region ?_
    refine LP_ev ok 0 [(18, I j), (19, I (wr (j + 1))), (14, I (wr (j + 1)))] 3 rfl rfl ?_
    refine LP_end _ rfl ?_
    have X30 := ((((X1.stepx x).stepx x12).stepx x16).step y (f.dom _))
    have X32 := (((X1.stepx x).stepx x12).stepx x16)
    have f31 := dm.fresh f X32.size
    exact ⟨(out ++ ([Int.tmod r m]), wr (j + 1)), ⟨H.1, _, .slice a28 (List.length (out ++ ([Int.tmod r m]))) c29, hx23, env_eq ⟨rfl, rfl, rfl, rfl, rfl, rfl, rfl, rfl, trivial⟩, X30, o26, ex27, f31⟩, H.2⟩
  have H := H.2 hc
  refine W_exit ?_
  refine (if_pos rfl).mpr ?_
  refine W_seq ?_
  refine W_region ?_
  refine LP_ev ok 0 [(32, .slice a (List.length out) c), (12, .slice a (List.length out) c)] 2 rfl rfl ?_
  refine LP_end _ rfl ?_
  refine W_ret ?_
  exact ⟨_, Ret_of [.slice a (List.length out) c] ⟨⟨rfl, rfl⟩, trivial⟩, _, _, _, H, rfl, X1.ext, o, ex, f⟩

set_option maxRecDepth 8000 in
set_option maxHeartbeats 4000000 in
theorem spec_PairMask_w (seed : Int) (i : Int) (k : Int) (round : Int) (n : Int) (m : Int) (Q : (List Int) → Bool → Prop) (H : spec_PairMask seed i k round n m Q) (w : World)  :
    CallsTo Try.prog 28 #[I seed, I i, I k, I round, I n, I m] w fun v w' => ∃ r0 r1 u0 g0, Q r0 r1 ∧ v = .tuple #[u0, .bool r1] ∧ Ext w w' ∧ OS 3 g0 emp u0 r0 ∧ Sub g0 w' ∧ Fresh w.heap.size g0 := by
  refine enter (args := [I seed, I i, I k, I round, I n, I m]) 44 Try.func28 rfl rfl rfl ?_
  refine W_forget [(0, I seed), (1, I i), (2, I k), (3, I round), (4, I n), (5, I m)] ⟨rfl, rfl, rfl, rfl, rfl, rfl, trivial⟩ fun ρ => ?_
  have X := But.refl emp w
  refine W_seq ?_
  refine W_region ?_
  refine LP_ev ok 0 [(12, .slice none 0 0), (13, .bool false)] 2 rfl rfl ?_
  refine LP_end _ rfl ?_
  refine W_seq ?_
  obtain ⟨k2, hk, H⟩ := jn_elim H
  refine W_join2 (S := Bool) (fun s ρ' w' => k2 s ∧ ∃ (ρ : Env), ρ' = setAll [(0, I seed), (1, I i), (2, I k), (3, I round), (4, I n), (5, I m), (36, .bool s)] ρ ∧ But emp w w') ?_ ?_
  · refine W_region ?_
    refine LP_ev ok 0 [(14, I seed)] 1 rfl rfl ?_
    refine LP_lit (α := Int) (g := emp) 1 (vs := [I seed]) (xs := [seed]) rfl rfl rfl Try.underlying22 ti_3 rfl rfl ⟨⟨_, rfl, rfl⟩, trivial⟩ rfl rfl fun hx vx wx3 x4 o ex f => ?_
    obtain ⟨a, c, rfl⟩ := o.shape
    refine LP_call 2 rfl rfl rfl cal_81 rfl (spec_hDigest_w _ _ H wx3 o.readf ex) ?_
    rintro _ wx5 ⟨r, H, rfl, x6⟩
    refine LP_ev ok 3 [(17, .bool (!r)), (18, .bool (!r))] 5 rfl rfl ?_
    refine LP_split 18 (!r) rfl (fun hc => ?_) (fun hc => ?_)
    · have H := H.1 hc
      refine LP_ev ok 5 [(19, undef), (20, undef), (21, undef), (22, .bool true), (23, .bool true), (24, undef), (25, undef), (26, undef), (27, undef), (28, undef), (29, .bool true), (30, .bool true), (31, undef), (32, undef), (33, undef), (34, undef), (35, undef), (36, .bool true)] 23 rfl rfl ?_
      refine LP_end _ rfl ?_
      try refine W_forget [(0, I seed), (1, I i), (2, I k), (3, I round), (4, I n), (5, I m), (36, .bool true)] ⟨rfl, rfl, rfl, rfl, rfl, rfl, rfl, trivial⟩ fun ρ => ?_
      have X7 := ((X.stepx x4).stepx x6)
      exact ⟨true, H, _, env_eq ⟨rfl, rfl, rfl, rfl, rfl, rfl, rfl, trivial⟩, X7⟩
    have H := H.2 hc
    refine LP_ev ok 5 [(19, I i)] 6 rfl rfl ?_
    refine LP_call 6 rfl rfl rfl cal_76 rfl (spec_l1In_w _ _ _ _ H wx5 ) ?_
    rintro _ wx9 ⟨r8, H, rfl, x10⟩
    refine LP_ev ok 7 [(21, .bool (!r8)), (22, .bool (!r8)), (23, .bool (!r8))] 10 rfl rfl ?_
    refine LP_split 23 (!r8) rfl (fun hc11 => ?_) (fun hc11 => ?_)
    · have H := H.1 hc11
      refine LP_ev ok 10 [(24, undef), (25, undef), (26, undef), (27, undef), (28, undef), (29, .bool true), (30, .bool true), (31, undef), (32, undef), (33, undef), (34, undef), (35, undef), (36, .bool true)] 23 rfl rfl ?_
      refine LP_end _ rfl ?_
      try refine W_forget [(0, I seed), (1, I i), (2, I k), (3, I round), (4, I n), (5, I m), (36, .bool true)] ⟨rfl, rfl, rfl, rfl, rfl, rfl, rfl, trivial⟩ fun ρ => ?_
      have X12 := (((X.stepx x4).stepx x6).stepx x10)
      exact ⟨true, H, _, env_eq ⟨rfl, rfl, rfl, rfl, rfl, rfl, rfl, trivial⟩, X12⟩
    have H := H.2 hc11
    refine LP_ev ok 10 [(24, I k), (25, I i), (26, I (wr (i + 1)))] 13 rfl rfl ?_
    refine LP_call 13 rfl rfl rfl cal_76 rfl (spec_l1In_w _ _ _ _ H wx9 ) ?_
    rintro _ wx14 ⟨r13, H, rfl, x15⟩
    refine LP_ev ok 14 [(28, .bool (!r13)), (29, .bool (!r13)), (30, .bool (!r13))] 17 rfl rfl ?_
    refine LP_split 30 (!r13) rfl (fun hc16 => ?_) (fun hc16 => ?_)
    · have H := H.1 hc16
      refine LP_ev ok 17 [(31, undef), (32, undef), (33, undef), (34, undef), (35, undef), (36, .bool true)] 23 rfl rfl ?_
      refine LP_end _ rfl ?_
      try refine W_forget [(0, I seed), (1, I i), (2, I k), (3, I round), (4, I n), (5, I m), (36, .bool true)] ⟨rfl, rfl, rfl, rfl, rfl, rfl, rfl, trivial⟩ fun ρ => ?_
      have X17 := ((((X.stepx x4).stepx x6).stepx x10).stepx x15)
      exact ⟨true, H, _, env_eq ⟨rfl, rfl, rfl, rfl, rfl, rfl, rfl, trivial⟩, X17⟩
    have H := H.2 hc16
    refine LP_ev ok 17 [(31, I round), (32, I n), (33, I m)] 20 rfl rfl ?_
    refine LP_call 20 rfl rfl rfl cal_82 rfl (spec_zeRound_w _ _ _ _ H wx14 ) ?_
    rintro _ wx19 ⟨r18, H, rfl, x20⟩
    refine LP_ev ok 21 [(35, .bool (!r18)), (36, .bool (!r18))] 23 rfl rfl ?_
    refine LP_end _ rfl ?_
    try refine W_forget [(0, I seed), (1, I i), (2, I k), (3, I round), (4, I n), (5, I m), (36, .bool (!r18))] ⟨rfl, rfl, rfl, rfl, rfl, rfl, rfl, trivial⟩ fun ρ => ?_
    have X21 := (((((X.stepx x4).stepx x6).stepx x10).stepx x15).stepx x20)
    exact ⟨!r18, H, _, env_eq ⟨rfl, rfl, rfl, rfl, rfl, rfl, rfl, trivial⟩, X21⟩
  rintro x _ wx ⟨H, ρ, rfl, X1⟩
  subst hk
  refine W_cond (x) rfl (fun hc22 => ?_) (fun hc22 => ?_)
  · have H := H.1 hc22
    refine W_seq ?_
    refine W_region ?_
    refine LP_ev ok 0 [(12, .slice none 0 0), (13, .bool false)] 2 rfl rfl ?_
    refine LP_end _ rfl ?_
    refine W_ret ?_
    exact ⟨_, Ret_of [.slice none 0 0, .bool false] ⟨⟨rfl, rfl⟩, ⟨rfl, rfl⟩, trivial⟩, _, _, _, emp, H, rfl, X1.ext, OS.nil, (emp_sub _), (emp_fresh _)⟩
  have H := H.2 hc22
  refine W_skip ?_
  refine W_seq ?_
  refine W_region ?_
  refine LP_ev ok 0 [(37, I seed), (38, I i), (39, I k), (40, I round), (41, I n), (42, I m)] 6 rfl rfl ?_
  refine LP_call 6 rfl rfl rfl cal_83 rfl (spec_zeMask_w _ _ _ _ _ _ _ H wx ) ?_
  rintro _ wx24 ⟨r23, vx26, hx27, H, rfl, x25, o28, ex29, f30⟩
  obtain ⟨a31, c32, rfl⟩ := o28.shape
  refine LP_ev ok 7 [(12, .slice a31 (List.length r23) c32), (13, .bool true)] 9 rfl rfl ?_
  refine LP_end _ rfl ?_
  refine W_ret ?_
  have f33 := f30.mono X1.size
  have X34 := (X1.stepx x25)
  exact ⟨_, Ret_of [.slice a31 (List.length r23) c32, .bool true] ⟨⟨rfl, rfl⟩, ⟨rfl, rfl⟩, trivial⟩, _, _, _, _, H, rfl, X34.ext, o28, ex29, f33⟩

set_option maxRecDepth 8000 in
set_option maxHeartbeats 4000000 in
theorem impl_isSeed_w (n : Int) (Q : Bool → Prop) (H : impl_isSeed n Q) (w : World)  :
    CallsTo Try.prog 84 #[I n] w fun v w' => ∃ r0, Q r0 ∧ v = .bool r0 ∧ Ext w w' := by
  refine enter (args := [I n]) 9 Try.func84 rfl rfl rfl ?_
  refine W_forget [(0, I n)] ⟨rfl, trivial⟩ fun ρ => ?_
  have X := But.refl emp w
  refine W_seq ?_
  refine W_region ?_
  refine LP_ev ok 0 [(2, .bool false)] 1 rfl rfl ?_
  refine LP_end _ rfl ?_
  obtain ⟨k, hk, H⟩ := jn_elim H
  refine W_join2 (S := Bool) (fun s ρ' w' => k s ∧ ∃ (ρ : Env), ρ' = setAll [(2, .bool s)] ρ ∧ w = w') ?_ ?_
  · refine W_region ?_
    refine LP_ev ok 0 [(3, I n), (4, .bool (decide (n ≥ 0))), (5, .bool (decide (n ≥ 0)))] 3 rfl rfl ?_
    refine LP_split 5 (decide (n ≥ 0)) rfl (fun hc => ?_) (fun hc => ?_)
    · have H := H.1 hc
      refine LP_ev ok 3 [(6, I n), (7, .bool (decide (n ≤ 4611686016279904236))), (8, .bool (decide (n ≤ 4611686016279904236))), (2, .bool (decide (n ≤ 4611686016279904236)))] 7 rfl rfl ?_
      refine LP_end _ rfl ?_
      exact ⟨decide (n ≤ 4611686016279904236), H, _, env_eq ⟨rfl, trivial⟩, rfl⟩
    have H := H.2 hc
    refine LP_ev ok 3 [(6, undef), (7, undef), (8, .bool false), (2, .bool false)] 7 rfl rfl ?_
    refine LP_end _ rfl ?_
    exact ⟨false, H, _, env_eq ⟨rfl, trivial⟩, rfl⟩
  rintro x _ _ ⟨H, ρ, rfl, rfl⟩
  subst hk
  refine W_ret ?_
  exact ⟨_, Ret_of [.bool x] ⟨⟨rfl, rfl⟩, trivial⟩, _, H, rfl, X.ext⟩

set_option maxRecDepth 8000 in
set_option maxHeartbeats 4000000 in
theorem impl_isRound_w (round : Int) (Q : Bool → Prop) (H : impl_isRound round Q) (w : World)  :
    CallsTo Try.prog 85 #[I round] w fun v w' => ∃ r0, Q r0 ∧ v = .bool r0 ∧ Ext w w' := by
  refine enter (args := [I round]) 9 Try.func85 rfl rfl rfl ?_
  refine W_forget [(0, I round)] ⟨rfl, trivial⟩ fun ρ => ?_
  have X := But.refl emp w
  refine W_seq ?_
  refine W_region ?_
  refine LP_ev ok 0 [(2, .bool false)] 1 rfl rfl ?_
  refine LP_end _ rfl ?_
  obtain ⟨k, hk, H⟩ := jn_elim H
  refine W_join2 (S := Bool) (fun s ρ' w' => k s ∧ ∃ (ρ : Env), ρ' = setAll [(2, .bool s)] ρ ∧ w = w') ?_ ?_
  · refine W_region ?_
    refine LP_ev ok 0 [(3, I round), (4, .bool (decide (round ≥ 0))), (5, .bool (decide (round ≥ 0)))] 3 rfl rfl ?_
    refine LP_split 5 (decide (round ≥ 0)) rfl (fun hc => ?_) (fun hc => ?_)
    · have H := H.1 hc
      refine LP_ev ok 3 [(6, I round), (7, .bool (decide (round ≤ 1000000))), (8, .bool (decide (round ≤ 1000000))), (2, .bool (decide (round ≤ 1000000)))] 7 rfl rfl ?_
      refine LP_end _ rfl ?_
      exact ⟨decide (round ≤ 1000000), H, _, env_eq ⟨rfl, trivial⟩, rfl⟩
    have H := H.2 hc
    refine LP_ev ok 3 [(6, undef), (7, undef), (8, .bool false), (2, .bool false)] 7 rfl rfl ?_
    refine LP_end _ rfl ?_
    exact ⟨false, H, _, env_eq ⟨rfl, trivial⟩, rfl⟩
  rintro x _ _ ⟨H, ρ, rfl, rfl⟩
  subst hk
  refine W_ret ?_
  exact ⟨_, Ret_of [.bool x] ⟨⟨rfl, rfl⟩, trivial⟩, _, H, rfl, X.ext⟩

set_option maxRecDepth 8000 in
set_option maxHeartbeats 4000000 in
theorem impl_isLength_w (n : Int) (Q : Bool → Prop) (H : impl_isLength n Q) (w : World)  :
    CallsTo Try.prog 86 #[I n] w fun v w' => ∃ r0, Q r0 ∧ v = .bool r0 ∧ Ext w w' := by
  refine enter (args := [I n]) 9 Try.func86 rfl rfl rfl ?_
  refine W_forget [(0, I n)] ⟨rfl, trivial⟩ fun ρ => ?_
  have X := But.refl emp w
  refine W_seq ?_
  refine W_region ?_
  refine LP_ev ok 0 [(2, .bool false)] 1 rfl rfl ?_
  refine LP_end _ rfl ?_
  obtain ⟨k, hk, H⟩ := jn_elim H
  refine W_join2 (S := Bool) (fun s ρ' w' => k s ∧ ∃ (ρ : Env), ρ' = setAll [(2, .bool s)] ρ ∧ w = w') ?_ ?_
  · refine W_region ?_
    refine LP_ev ok 0 [(3, I n), (4, .bool (decide (n ≥ 0))), (5, .bool (decide (n ≥ 0)))] 3 rfl rfl ?_
    refine LP_split 5 (decide (n ≥ 0)) rfl (fun hc => ?_) (fun hc => ?_)
    · have H := H.1 hc
      refine LP_ev ok 3 [(6, I n), (7, .bool (decide (n ≤ 600))), (8, .bool (decide (n ≤ 600))), (2, .bool (decide (n ≤ 600)))] 7 rfl rfl ?_
      refine LP_end _ rfl ?_
      exact ⟨decide (n ≤ 600), H, _, env_eq ⟨rfl, trivial⟩, rfl⟩
    have H := H.2 hc
    refine LP_ev ok 3 [(6, undef), (7, undef), (8, .bool false), (2, .bool false)] 7 rfl rfl ?_
    refine LP_end _ rfl ?_
    exact ⟨false, H, _, env_eq ⟨rfl, trivial⟩, rfl⟩
  rintro x _ _ ⟨H, ρ, rfl, rfl⟩
  subst hk
  refine W_ret ?_
  exact ⟨_, Ret_of [.bool x] ⟨⟨rfl, rfl⟩, trivial⟩, _, H, rfl, X.ext⟩

set_option maxRecDepth 8000 in
set_option maxHeartbeats 4000000 in
theorem impl_step_w (factor : Int) (n : Int) (x : Int) (more : Int) (p : Int) (Q : Int → Prop) (H : impl_step factor n x more p Q) (w : World)  :
    CallsTo Try.prog 156 #[I factor, I n, I x, I more, I p] w fun v w' => ∃ r0, Q r0 ∧ v = I r0 ∧ Ext w w' := by
  refine enter (args := [I factor, I n, I x, I more, I p]) 28 Try.func156 rfl rfl rfl ?_
  refine W_forget [(0, I factor), (1, I n), (2, I x), (3, I more), (4, I p)] ⟨rfl, rfl, rfl, rfl, rfl, trivial⟩ fun ρ => ?_
  have X := But.refl emp w
  refine W_seq ?_
  refine W_region ?_
  refine LP_ev ok 0 [(10, I 0)] 1 rfl rfl ?_
  refine LP_end _ rfl ?_
  refine W_seq ?_
  refine W_region ?_
  refine LP_ev ok 0 [(11, I x), (12, I p)] 2 rfl rfl ?_
  obtain ⟨hz, H⟩ := H
  refine LP_val 2 _ rfl rfl (ex_rem rfl rfl rfl hz _) ?_
  refine LP_ev ok 3 [(2, I (Int.tmod x p))] 4 rfl rfl ?_
  refine LP_end _ rfl ?_
  obtain ⟨k, hk, H⟩ := jn_elim H
  refine W_join2 (S := Int) (fun s ρ' w' => k s ∧ ∃ (ρ : Env), ρ' = setAll [(0, I factor), (1, I n), (2, I s), (3, I more), (4, I p)] ρ ∧ w = w') ?_ ?_
  · refine W_seq ?_
    refine W_region ?_
    refine LP_ev ok 0 [(14, I (Int.tmod x p)), (15, .bool (decide ((Int.tmod x p) < 0)))] 2 rfl rfl ?_
    refine LP_end _ rfl ?_
    refine W_cond (decide ((Int.tmod x p) < 0)) rfl (fun hc => ?_) (fun hc => ?_)
    · have H := H.1 hc
      refine W_region ?_
      refine LP_ev ok 0 [(16, I (Int.tmod x p)), (17, I p), (18, I (wr ((Int.tmod x p) + p))), (2, I (wr ((Int.tmod x p) + p)))] 4 rfl rfl ?_
      refine LP_end _ rfl ?_
      exact ⟨wr ((Int.tmod x p) + p), H, _, env_eq ⟨rfl, rfl, rfl, rfl, rfl, trivial⟩, rfl⟩
    have H := H.2 hc
    refine W_skip ?_
    exact ⟨Int.tmod x p, H, _, env_eq ⟨rfl, rfl, rfl, rfl, rfl, trivial⟩, rfl⟩
  rintro x1 _ _ ⟨H, ρ, rfl, rfl⟩
  subst hk
  refine W_seq ?_
  refine W_region ?_
  refine LP_ev ok 0 [(19, I factor), (20, I n), (21, I (wr (factor * n))), (22, I x1), (23, I (wr ((wr (factor * n)) + x1))), (24, I more), (25, I (wr ((wr ((wr (factor * n)) + x1)) + more))), (26, I p)] 8 rfl rfl ?_
  obtain ⟨hz2, H⟩ := H
  refine LP_val 8 _ rfl rfl (ex_rem rfl rfl rfl hz2 _) ?_
  refine LP_ev ok 9 [(10, I (Int.tmod (wr ((wr ((wr (factor * n)) + x1)) + more)) p))] 10 rfl rfl ?_
  refine LP_end _ rfl ?_
  refine W_ret ?_
  exact ⟨_, Ret_of [I (Int.tmod (wr ((wr ((wr (factor * n)) + x1)) + more)) p)] ⟨⟨rfl, rfl⟩, trivial⟩, _, H, rfl, X.ext⟩

set_option maxRecDepth 8000 in
set_option maxHeartbeats 4000000 in
theorem impl_digest_w (l : List Int) (Q : Int → Prop) (H : impl_digest l Q) (w : World) {vx : Value} {hx : PH} (r : RS hx vx l) (ex : Sub hx w) :
    CallsTo Try.prog 143 #[vx] w fun v w' => ∃ r0, Q r0 ∧ v = I r0 ∧ Ext w w' := by
  obtain ⟨a, c, rfl⟩ := r.shape
  refine enter (args := [.slice a (List.length l) c]) 37 Try.func143 rfl rfl rfl ?_
  refine W_forget [(0, .slice a (List.length l) c)] ⟨rfl, trivial⟩ fun ρ => ?_
  have X := But.refl emp w
  refine W_seq ?_
  refine W_region ?_
  refine LP_ev ok 0 [(2, I 0)] 1 rfl rfl ?_
  refine LP_end _ rfl ?_
  refine W_seq ?_
  refine W_region ?_
  refine LP_ev ok 0 [(7, .slice a (List.length l) c), (8, I (ln l))] 2 rfl rfl ?_
  refine LP_val 2 _ rfl rfl (ex_rem rfl rfl rfl (by decide) _) ?_
  refine LP_ev ok 3 [(3, I (Int.tmod (ln l) 2147483647)), (4, I 1)] 5 rfl rfl ?_
  refine LP_end _ rfl ?_
  refine W_seq ?_
  refine W_seq ?_
  refine W_region ?_
  refine LP_ev ok 0 [(10, .slice a (List.length l) c), (11, I (ln l)), (12, I (wr ((ln l) + 4))), (13, I 0)] 4 rfl rfl ?_
  refine LP_end _ rfl ?_
  refine W_block ?_
  obtain ⟨J, m, Hx, H⟩ := H
  refine W_loop (S := Int × Int × Int) (fun s ρ' w' => J s.1 s.2.1 s.2.2 ∧ ∃ (ρ : Env), ρ' = setAll [(0, .slice a (List.length l) c), (3, I s.1), (4, I s.2.1), (12, I (wr ((ln l) + 4))), (13, I s.2.2)] ρ ∧ But emp w w' ∧ Sub hx w') (fun s => m s.1 s.2.1 s.2.2) (Int.tmod (ln l) 2147483647, 1, 0) ⟨Hx, _, env_eq ⟨rfl, rfl, rfl, rfl, rfl, trivial⟩, X, ex⟩ ?_
  rintro ⟨a1, b, x⟩ _ wx ⟨Hi, ρ, rfl, X3, ex2⟩
  have H := H a1 b x Hi
  refine W_seq ?_
  refine W_region ?_
  refine LP_ev ok 0 [(14, .bool (decide (x < (wr ((ln l) + 4)))))] 1 rfl rfl ?_
  refine LP_end _ rfl ?_
  refine W_seq ?_
  refine W_cond (decide (x < (wr ((ln l) + 4)))) rfl (fun hc => ?_) (fun hc => ?_)
  · have H := H.1 hc
    refine W_skip ?_
    refine W_seq ?_
    refine W_block ?_
    refine W_seq ?_
    refine W_region ?_
    refine LP_ev ok 0 [(15, I x), (5, I x)] 2 rfl rfl ?_
    refine LP_end _ rfl ?_
    refine W_seq ?_
    refine W_region ?_
    refine LP_ev ok 0 [(6, I 0)] 1 rfl rfl ?_
    refine LP_end _ rfl ?_
    obtain ⟨k, hk, H⟩ := jn_elim H
    refine W_join2 (S := Int) (fun s ρ' w' => k s ∧ ∃ (ρ : Env), ρ' = setAll [(0, .slice a (List.length l) c), (3, I a1), (4, I b), (6, I s), (12, I (wr ((ln l) + 4))), (13, I x)] ρ ∧ wx = w') ?_ ?_
    · refine W_seq ?_
      refine W_region ?_
      refine LP_ev ok 0 [(16, I x), (17, .slice a (List.length l) c), (18, I (ln l)), (19, .bool (decide (x < (ln l))))] 4 rfl rfl ?_
      refine LP_end _ rfl ?_
      refine W_cond (decide (x < (ln l))) rfl (fun hc6 => ?_) (fun hc6 => ?_)
      · have H := H.1 hc6
        refine W_region ?_
        refine LP_ev ok 0 [(20, .slice a (List.length l) c), (21, I x)] 2 rfl rfl ?_
        obtain ⟨x7, hi, hx8, H⟩ := H
        refine LP_index 2 rfl rfl rfl Try.underlying22 ti_3 rfl rfl r hi hx8 fun a9 cs r10 d => ?_
        refine LP_load 3 rfl rfl rfl ti_3 ag_3 rfl r10 d ex2 fun vx11 r12 => ?_
        obtain rfl := r12.int
        refine LP_ev ok 4 [(6, I x7)] 5 rfl rfl ?_
        refine LP_end _ rfl ?_
        exact ⟨x7, H, _, env_eq ⟨rfl, rfl, rfl, rfl, rfl, rfl, trivial⟩, rfl⟩
      have H := H.2 hc6
      refine W_skip ?_
      exact ⟨0, H, _, env_eq ⟨rfl, rfl, rfl, rfl, rfl, rfl, trivial⟩, rfl⟩
    rintro x4 _ _ ⟨H, ρ, rfl, rfl⟩
    subst hk
    refine W_seq ?_
    refine W_region ?_
    refine LP_ev ok 0 [(24, I a1), (25, I x4)] 2 rfl rfl ?_
    refine LP_call 2 rfl rfl rfl cal_156 rfl (impl_step_w _ _ _ _ _ _ H wx ) ?_
    rintro _ wx14 ⟨r13, H, rfl, x15⟩
    refine LP_ev ok 3 [(3, I r13)] 4 rfl rfl ?_
    refine LP_end _ rfl ?_
    refine W_region ?_
    refine LP_ev ok 0 [(27, I b), (28, I x4), (29, I r13)] 3 rfl rfl ?_
    refine LP_val 3 _ rfl rfl (ex_rem rfl rfl rfl (by decide) _) ?_
    refine LP_call 4 rfl rfl rfl cal_156 rfl (impl_step_w _ _ _ _ _ _ H wx14 ) ?_
    rintro _ wx17 ⟨r16, H, rfl, x18⟩
    refine LP_ev ok 5 [(4, I r16)] 6 rfl rfl ?_
    refine LP_end _ rfl ?_
    refine W_region ?_
    refine LP_ev ok 0 [(32, I (wr (x + 1))), (13, I (wr (x + 1)))] 2 rfl rfl ?_
    refine LP_end _ rfl ?_
    have X19 := ((X3.stepx x15).stepx x18)
    have ex20 := ((ex2.ext x15).ext x18)
    exact ⟨(r13, r16, wr (x + 1)), ⟨H.1, _, env_eq ⟨rfl, rfl, rfl, rfl, rfl, trivial⟩, X19, ex20⟩, H.2⟩
  have H := H.2 hc
  refine W_exit ?_
  refine (if_pos rfl).mpr ?_
  refine W_seq ?_
  refine W_region ?_
  refine LP_ev ok 0 [(33, I a1), (34, I (wr (a1 * 2 ^ 31))), (35, I b), (36, I (wr ((wr (a1 * 2 ^ 31)) + b))), (2, I (wr ((wr (a1 * 2 ^ 31)) + b)))] 5 rfl rfl ?_
  refine LP_end _ rfl ?_
  refine W_ret ?_
  exact ⟨_, Ret_of [I (wr ((wr (a1 * 2 ^ 31)) + b))] ⟨⟨rfl, rfl⟩, trivial⟩, _, H, rfl, X3.ext⟩

set_option maxRecDepth 8000 in
set_option maxHeartbeats 4000000 in
theorem impl_pairMask_w (seed : Int) (i : Int) (k : Int) (round : Int) (n : Int) (m : Int) (Q : (List Int) → Prop) (H : impl_pairMask seed i k round n m Q) (w : World)  :
    CallsTo Try.prog 87 #[I seed, I i, I k, I round, I n, I m] w fun v w' => ∃ r0 u0 g0, Q r0 ∧ v = u0 ∧ Ext w w' ∧ OS 3 g0 emp u0 r0 ∧ Sub g0 w' ∧ Fresh w.heap.size g0 := by
  refine enter (args := [I seed, I i, I k, I round, I n, I m]) 36 Try.func87 rfl rfl rfl ?_
  refine W_forget [(0, I seed), (1, I i), (2, I k), (3, I round), (4, I n), (5, I m)] ⟨rfl, rfl, rfl, rfl, rfl, rfl, trivial⟩ fun ρ => ?_
  have X := But.refl emp w
  refine W_seq ?_
  refine W_region ?_
  refine LP_ev ok 0 [(12, .slice none 0 0)] 1 rfl rfl ?_
  refine LP_end _ rfl ?_
  refine W_seq ?_
  refine W_region ?_
  refine LP_ev ok 0 [(15, I n)] 1 rfl rfl ?_
  obtain ⟨hn, hb, H⟩ := H
  refine LP_make (α := Int) 1 rfl rfl rfl Try.underlying22 ti_3 (x0 := (0 : Int)) rfl rfl hn (by first | omega | (simp only [ln] at *; omega)) (by first | omega | (simp only [ln] at *; omega)) fun hx vx wx x o ex f => ?_
  obtain ⟨a, c, rfl⟩ := o.shape
  refine LP_ev ok 2 [(13, .slice a (List.length (List.replicate (Int.toNat n) ((0 : Int)))) c)] 3 rfl rfl ?_
  refine LP_end _ rfl ?_
  refine W_seq ?_
  refine W_seq ?_
  refine W_region ?_
  refine LP_ev ok 0 [(17, .slice a (List.length (List.replicate (Int.toNat n) ((0 : Int)))) c), (18, I (ln (List.replicate (Int.toNat n) ((0 : Int))))), (19, I 0)] 3 rfl rfl ?_
  refine LP_end _ rfl ?_
  refine W_block ?_
  obtain ⟨J, m9, Hx, H⟩ := H
  have X10 := (X.stepx x)
  have f11 := f.mono X.size
  refine W_loop (S := (List Int) × Int) (fun s ρ' w' => J s.1 s.2 ∧ ∃ (ρ : Env) (hx2 : PH), ρ' = setAll [(0, I seed), (1, I i), (2, I k), (3, I round), (5, I m), (13, .slice a (List.length (List.replicate (Int.toNat n) ((0 : Int)))) c), (18, I (ln (List.replicate (Int.toNat n) ((0 : Int))))), (19, I s.2)] ρ ∧ But emp w w' ∧ OS 3 hx2 emp (.slice a (List.length (List.replicate (Int.toNat n) ((0 : Int)))) c) s.1 ∧ Sub hx2 w' ∧ Fresh w.heap.size hx2) (fun s => m9 s.1 s.2) (List.replicate (Int.toNat n) ((0 : Int)), 0) ⟨Hx, _, hx, env_eq ⟨rfl, rfl, rfl, rfl, rfl, rfl, rfl, rfl, trivial⟩, X10, o, ex, f11⟩ ?_
  rintro ⟨out, x6⟩ _ wx7 ⟨Hi, ρ, hx2, rfl, X8, o3, ex4, f5⟩
  have H := H out x6 Hi
  refine W_seq ?_
  refine W_region ?_
  refine LP_ev ok 0 [(20, .bool (decide (x6 < (ln (List.replicate (Int.toNat n) ((0 : Int)))))))] 1 rfl rfl ?_
  refine LP_end _ rfl ?_
  refine W_seq ?_
  refine W_cond (decide (x6 < (ln (List.replicate (Int.toNat n) ((0 : Int)))))) rfl (fun hc => ?_) (fun hc => ?_)
  · have H := H.1 hc
    refine W_skip ?_
    refine W_seq ?_
    refine W_block ?_
    refine W_seq ?_
    refine W_region ?_
    refine LP_ev ok 0 [(21, I x6), (14, I x6)] 2 rfl rfl ?_
    refine LP_end _ rfl ?_
    refine W_region ?_
    refine LP_ev ok 0 [(22, .slice a (List.length (List.replicate (Int.toNat n) ((0 : Int)))) c), (23, I x6), (24, I seed), (25, I i), (26, I k), (27, I round), (28, I x6)] 7 rfl rfl ?_
    refine LP_lit (α := Int) (g := emp) 7 (vs := [I 5, I seed, I i, I k, I round, I x6]) (xs := [5, seed, i, k, round, x6]) rfl rfl rfl Try.underlying22 ti_3 rfl rfl ⟨⟨_, rfl, rfl⟩, ⟨_, rfl, rfl⟩, ⟨_, rfl, rfl⟩, ⟨_, rfl, rfl⟩, ⟨_, rfl, rfl⟩, ⟨_, rfl, rfl⟩, trivial⟩ rfl rfl fun hx12 vx13 wx14 x15 o16 ex17 f18 => ?_
    obtain ⟨a19, c20, rfl⟩ := o16.shape
    refine LP_call 8 rfl rfl rfl cal_143 rfl (impl_digest_w _ _ H wx14 o16.readf ex17) ?_
    rintro _ wx21 ⟨r, H, rfl, x22⟩
    refine LP_ev ok 9 [(31, I m)] 10 rfl rfl ?_
    obtain ⟨hz, H⟩ := H
    refine LP_val 10 _ rfl rfl (ex_rem rfl rfl rfl hz _) ?_
    obtain ⟨hi, hl, H⟩ := H
    refine LP_indexw 11 rfl rfl rfl Try.underlying22 ti_3 rfl rfl o3 hi hl fun a23 wa => ?_
    have ex28 := ((ex4.ext x15).ext x22)
    refine LP_set 12 rfl rfl rfl rfl rfl wa (Le.refl emp) ⟨_, rfl, rfl⟩ ex28 fun hx24 wx25 o26 ex27 y dm => ?_
    refine LP_end _ rfl ?_
    refine W_region ?_
    refine LP_ev ok 0 [(34, I (wr (x6 + 1))), (19, I (wr (x6 + 1)))] 2 rfl rfl ?_
    refine LP_end _ rfl ?_
    have X29 := (((X8.stepx x15).stepx x22).step y (f5.dom _))
    have X31 := ((X8.stepx x15).stepx x22)
    have f30 := (dm _).fresh f5 X31.size
    exact ⟨(List.set out (Int.toNat x6) (Int.tmod r m), wr (x6 + 1)), ⟨H.1, _, hx24, env_eq ⟨rfl, rfl, rfl, rfl, rfl, rfl, rfl, rfl, trivial⟩, X29, o26, ex27, f30⟩, H.2⟩
  have H := H.2 hc
  refine W_exit ?_
  refine (if_pos rfl).mpr ?_
  refine W_seq ?_
  refine W_region ?_
  refine LP_ev ok 0 [(35, .slice a (List.length (List.replicate (Int.toNat n) ((0 : Int)))) c), (12, .slice a (List.length (List.replicate (Int.toNat n) ((0 : Int)))) c)] 2 rfl rfl ?_
  refine LP_end _ rfl ?_
  refine W_ret ?_
  exact ⟨_, Ret_of [.slice a (List.length (List.replicate (Int.toNat n) ((0 : Int)))) c] ⟨⟨rfl, rfl⟩, trivial⟩, _, _, _, H, rfl, X8.ext, o3, ex4, f5⟩

set_option maxRecDepth 8000 in
set_option maxHeartbeats 4000000 in
theorem impl_PairMask_w (seed : Int) (i : Int) (k : Int) (round : Int) (n : Int) (m : Int) (Q : (List Int) → Bool → Prop) (H : impl_PairMask seed i k round n m Q) (w : World)  :
    CallsTo Try.prog 29 #[I seed, I i, I k, I round, I n, I m] w fun v w' => ∃ r0 r1 u0 g0, Q r0 r1 ∧ v = .tuple #[u0, .bool r1] ∧ Ext w w' ∧ OS 3 g0 emp u0 r0 ∧ Sub g0 w' ∧ Fresh w.heap.size g0 := by
  refine enter (args := [I seed, I i, I k, I round, I n, I m]) 52 Try.func29 rfl rfl rfl ?_
  refine W_forget [(0, I seed), (1, I i), (2, I k), (3, I round), (4, I n), (5, I m)] ⟨rfl, rfl, rfl, rfl, rfl, rfl, trivial⟩ fun ρ => ?_
  have X := But.refl emp w
  refine W_seq ?_
  refine W_region ?_
  refine LP_ev ok 0 [(12, .slice none 0 0), (13, .bool false)] 2 rfl rfl ?_
  refine LP_end _ rfl ?_
  refine W_seq ?_
  obtain ⟨k2, hk, H⟩ := jn_elim H
  refine W_join2 (S := Bool) (fun s ρ' w' => k2 s ∧ ∃ (ρ : Env), ρ' = setAll [(0, I seed), (1, I i), (2, I k), (3, I round), (4, I n), (5, I m), (44, .bool s)] ρ ∧ But emp w w') ?_ ?_
  · refine W_region ?_
    refine LP_ev ok 0 [(14, I seed)] 1 rfl rfl ?_
    refine LP_call 1 rfl rfl rfl cal_84 rfl (impl_isSeed_w _ _ H w ) ?_
    rintro _ wx3 ⟨r, H, rfl, x4⟩
    refine LP_ev ok 2 [(16, .bool (!r)), (17, .bool (!r))] 4 rfl rfl ?_
    refine LP_split 17 (!r) rfl (fun hc => ?_) (fun hc => ?_)
    · have H := H.1 hc
      refine LP_ev ok 4 [(18, undef), (19, undef), (20, .bool true), (21, .bool true), (22, undef), (23, undef), (24, undef), (25, .bool true), (26, .bool true), (27, undef), (28, undef), (29, .bool true), (30, .bool true), (31, undef), (32, undef), (33, undef), (34, .bool true), (35, .bool true), (36, undef), (37, undef), (38, undef), (39, .bool true), (40, .bool true), (41, undef), (42, undef), (43, undef), (44, .bool true)] 31 rfl rfl ?_
      refine LP_end _ rfl ?_
      try refine W_forget [(0, I seed), (1, I i), (2, I k), (3, I round), (4, I n), (5, I m), (44, .bool true)] ⟨rfl, rfl, rfl, rfl, rfl, rfl, rfl, trivial⟩ fun ρ => ?_
      have X5 := (X.stepx x4)
      exact ⟨true, H, _, env_eq ⟨rfl, rfl, rfl, rfl, rfl, rfl, rfl, trivial⟩, X5⟩
    have H := H.2 hc
    refine LP_ev ok 4 [(18, I i), (19, .bool (decide (i < 0))), (20, .bool (decide (i < 0))), (21, .bool (decide (i < 0)))] 8 rfl rfl ?_
    refine LP_split 21 (decide (i < 0)) rfl (fun hc6 => ?_) (fun hc6 => ?_)
    · have H := H.1 hc6
      refine LP_ev ok 8 [(22, undef), (23, undef), (24, undef), (25, .bool true), (26, .bool true), (27, undef), (28, undef), (29, .bool true), (30, .bool true), (31, undef), (32, undef), (33, undef), (34, .bool true), (35, .bool true), (36, undef), (37, undef), (38, undef), (39, .bool true), (40, .bool true), (41, undef), (42, undef), (43, undef), (44, .bool true)] 31 rfl rfl ?_
      refine LP_end _ rfl ?_
      try refine W_forget [(0, I seed), (1, I i), (2, I k), (3, I round), (4, I n), (5, I m), (44, .bool true)] ⟨rfl, rfl, rfl, rfl, rfl, rfl, rfl, trivial⟩ fun ρ => ?_
      have X7 := (X.stepx x4)
      exact ⟨true, H, _, env_eq ⟨rfl, rfl, rfl, rfl, rfl, rfl, rfl, trivial⟩, X7⟩
    have H := H.2 hc6
    refine LP_ev ok 8 [(22, I i), (23, I k), (24, .bool (decide (i ≥ k))), (25, .bool (decide (i ≥ k))), (26, .bool (decide (i ≥ k)))] 13 rfl rfl ?_
    refine LP_split 26 (decide (i ≥ k)) rfl (fun hc8 => ?_) (fun hc8 => ?_)
    · have H := H.1 hc8
      refine LP_ev ok 13 [(27, undef), (28, undef), (29, .bool true), (30, .bool true), (31, undef), (32, undef), (33, undef), (34, .bool true), (35, .bool true), (36, undef), (37, undef), (38, undef), (39, .bool true), (40, .bool true), (41, undef), (42, undef), (43, undef), (44, .bool true)] 31 rfl rfl ?_
      refine LP_end _ rfl ?_
      try refine W_forget [(0, I seed), (1, I i), (2, I k), (3, I round), (4, I n), (5, I m), (44, .bool true)] ⟨rfl, rfl, rfl, rfl, rfl, rfl, rfl, trivial⟩ fun ρ => ?_
      have X9 := (X.stepx x4)
      exact ⟨true, H, _, env_eq ⟨rfl, rfl, rfl, rfl, rfl, rfl, rfl, trivial⟩, X9⟩
    have H := H.2 hc8
    refine LP_ev ok 13 [(27, I k), (28, .bool (decide (k ≥ 8))), (29, .bool (decide (k ≥ 8))), (30, .bool (decide (k ≥ 8)))] 17 rfl rfl ?_
    refine LP_split 30 (decide (k ≥ 8)) rfl (fun hc10 => ?_) (fun hc10 => ?_)
    · have H := H.1 hc10
      refine LP_ev ok 17 [(31, undef), (32, undef), (33, undef), (34, .bool true), (35, .bool true), (36, undef), (37, undef), (38, undef), (39, .bool true), (40, .bool true), (41, undef), (42, undef), (43, undef), (44, .bool true)] 31 rfl rfl ?_
      refine LP_end _ rfl ?_
      try refine W_forget [(0, I seed), (1, I i), (2, I k), (3, I round), (4, I n), (5, I m), (44, .bool true)] ⟨rfl, rfl, rfl, rfl, rfl, rfl, rfl, trivial⟩ fun ρ => ?_
      have X11 := (X.stepx x4)
      exact ⟨true, H, _, env_eq ⟨rfl, rfl, rfl, rfl, rfl, rfl, rfl, trivial⟩, X11⟩
    have H := H.2 hc10
    refine LP_ev ok 17 [(31, I round)] 18 rfl rfl ?_
    refine LP_call 18 rfl rfl rfl cal_85 rfl (impl_isRound_w _ _ H wx3 ) ?_
    rintro _ wx13 ⟨r12, H, rfl, x14⟩
    refine LP_ev ok 19 [(33, .bool (!r12)), (34, .bool (!r12)), (35, .bool (!r12))] 22 rfl rfl ?_
    refine LP_split 35 (!r12) rfl (fun hc15 => ?_) (fun hc15 => ?_)
    · have H := H.1 hc15
      refine LP_ev ok 22 [(36, undef), (37, undef), (38, undef), (39, .bool true), (40, .bool true), (41, undef), (42, undef), (43, undef), (44, .bool true)] 31 rfl rfl ?_
      refine LP_end _ rfl ?_
      try refine W_forget [(0, I seed), (1, I i), (2, I k), (3, I round), (4, I n), (5, I m), (44, .bool true)] ⟨rfl, rfl, rfl, rfl, rfl, rfl, rfl, trivial⟩ fun ρ => ?_
      have X16 := ((X.stepx x4).stepx x14)
      exact ⟨true, H, _, env_eq ⟨rfl, rfl, rfl, rfl, rfl, rfl, rfl, trivial⟩, X16⟩
    have H := H.2 hc15
    refine LP_ev ok 22 [(36, I n)] 23 rfl rfl ?_
    refine LP_call 23 rfl rfl rfl cal_86 rfl (impl_isLength_w _ _ H wx13 ) ?_
    rintro _ wx18 ⟨r17, H, rfl, x19⟩
    refine LP_ev ok 24 [(38, .bool (!r17)), (39, .bool (!r17)), (40, .bool (!r17))] 27 rfl rfl ?_
    refine LP_split 40 (!r17) rfl (fun hc20 => ?_) (fun hc20 => ?_)
    · have H := H.1 hc20
      refine LP_ev ok 27 [(41, undef), (42, undef), (43, undef), (44, .bool true)] 31 rfl rfl ?_
      refine LP_end _ rfl ?_
      try refine W_forget [(0, I seed), (1, I i), (2, I k), (3, I round), (4, I n), (5, I m), (44, .bool true)] ⟨rfl, rfl, rfl, rfl, rfl, rfl, rfl, trivial⟩ fun ρ => ?_
      have X21 := (((X.stepx x4).stepx x14).stepx x19)
      exact ⟨true, H, _, env_eq ⟨rfl, rfl, rfl, rfl, rfl, rfl, rfl, trivial⟩, X21⟩
    have H := H.2 hc20
    refine LP_ev ok 27 [(41, I m)] 28 rfl rfl ?_
    refine LP_call 28 rfl rfl rfl cal_79 rfl (impl_isModulus_w _ _ H wx18 ) ?_
    rintro _ wx23 ⟨r22, H, rfl, x24⟩
    refine LP_ev ok 29 [(43, .bool (!r22)), (44, .bool (!r22))] 31 rfl rfl ?_
    refine LP_end _ rfl ?_
    try refine W_forget [(0, I seed), (1, I i), (2, I k), (3, I round), (4, I n), (5, I m), (44, .bool (!r22))] ⟨rfl, rfl, rfl, rfl, rfl, rfl, rfl, trivial⟩ fun ρ => ?_
    have X25 := ((((X.stepx x4).stepx x14).stepx x19).stepx x24)
    exact ⟨!r22, H, _, env_eq ⟨rfl, rfl, rfl, rfl, rfl, rfl, rfl, trivial⟩, X25⟩
  rintro x _ wx ⟨H, ρ, rfl, X1⟩
  subst hk
  refine W_cond (x) rfl (fun hc26 => ?_) (fun hc26 => ?_)
  · have H := H.1 hc26
    refine W_seq ?_
    refine W_region ?_
    refine LP_ev ok 0 [(12, .slice none 0 0), (13, .bool false)] 2 rfl rfl ?_
    refine LP_end _ rfl ?_
    refine W_ret ?_
    exact ⟨_, Ret_of [.slice none 0 0, .bool false] ⟨⟨rfl, rfl⟩, ⟨rfl, rfl⟩, trivial⟩, _, _, _, emp, H, rfl, X1.ext, OS.nil, (emp_sub _), (emp_fresh _)⟩
  have H := H.2 hc26
  refine W_skip ?_
  refine W_seq ?_
  refine W_region ?_
  refine LP_ev ok 0 [(45, I seed), (46, I i), (47, I k), (48, I round), (49, I n), (50, I m)] 6 rfl rfl ?_
  refine LP_call 6 rfl rfl rfl cal_87 rfl (impl_pairMask_w _ _ _ _ _ _ _ H wx ) ?_
  rintro _ wx28 ⟨r27, vx, hx, H, rfl, x29, o, ex, f⟩
  obtain ⟨a, c, rfl⟩ := o.shape
  refine LP_ev ok 7 [(12, .slice a (List.length r27) c), (13, .bool true)] 9 rfl rfl ?_
  refine LP_end _ rfl ?_
  refine W_ret ?_
  have f30 := f.mono X1.size
  have X31 := (X1.stepx x29)
  exact ⟨_, Ret_of [.slice a (List.length r27) c, .bool true] ⟨⟨rfl, rfl⟩, ⟨rfl, rfl⟩, trivial⟩, _, _, _, _, H, rfl, X31.ext, o, ex, f30⟩

set_option maxRecDepth 8000 in
set_option maxHeartbeats 4000000 in
theorem laws_FnExactPairMask_w (aSeed : Int) (aI : Int) (aK : Int) (aRound : Int) (aN : Int) (aM : Int) (Q : Bool → Prop) (H : laws_FnExactPairMask aSeed aI aK aRound aN aM Q) (w : World)  :
    CallsTo Try.prog 5 #[I aSeed, I aI, I aK, I aRound, I aN, I aM] w fun v w' => ∃ r0, Q r0 ∧ v = .bool r0 ∧ Ext w w' := by
  refine enter (args := [I aSeed, I aI, I aK, I aRound, I aN, I aM]) 88 Try.func5 rfl rfl rfl ?_
  refine W_forget [(0, I aSeed), (1, I aI), (2, I aK), (3, I aRound), (4, I aN), (5, I aM)] ⟨rfl, rfl, rfl, rfl, rfl, rfl, trivial⟩ fun ρ => ?_
  have X := But.refl emp w
  refine W_seq ?_
  refine W_region ?_
  refine LP_ev ok 0 [(12, .bool false)] 1 rfl rfl ?_
  refine LP_end _ rfl ?_
  refine W_seq ?_
  refine W_region ?_
  refine LP_ev ok 0 [(22, I aSeed), (23, I aI), (24, I aK), (25, I aRound), (26, I aN), (27, I aM)] 6 rfl rfl ?_
  refine LP_call 6 rfl rfl rfl cal_28 rfl (spec_PairMask_w _ _ _ _ _ _ _ H w ) ?_
  rintro _ wx ⟨r, r1, vx, hx, H, rfl, x, o, ex, f⟩
  obtain ⟨a, c, rfl⟩ := o.shape
  refine LP_ev ok 7 [(21, .tuple #[.slice a (List.length r) c, .bool r1]), (29, .slice a (List.length r) c), (30, .bool r1), (13, .slice a (List.length r) c), (14, .bool r1)] 12 rfl rfl ?_
  refine LP_end _ rfl ?_
  refine W_seq ?_
  refine W_region ?_
  refine LP_ev ok 0 [(32, I aSeed), (33, I aI), (34, I aK), (35, I aRound), (36, I aN), (37, I aM)] 6 rfl rfl ?_
  refine LP_call 6 rfl rfl rfl cal_29 rfl (impl_PairMask_w _ _ _ _ _ _ _ H wx ) ?_
  rintro _ wx4 ⟨r2, r3, vx6, hx7, H, rfl, x5, o8, ex9, f10⟩
  obtain ⟨a11, c12, rfl⟩ := o8.shape
  refine LP_ev ok 7 [(31, .tuple #[.slice a11 (List.length r2) c12, .bool r3]), (39, .slice a11 (List.length r2) c12), (40, .bool r3), (15, .slice a11 (List.length r2) c12), (16, .bool r3)] 12 rfl rfl ?_
  refine LP_end _ rfl ?_
  try refine W_forget [(0, I aSeed), (1, I aI), (2, I aK), (3, I aRound), (4, I aN), (5, I aM), (13, .slice a (List.length r) c), (14, .bool r1), (15, .slice a11 (List.length r2) c12), (16, .bool r3)] ⟨rfl, rfl, rfl, rfl, rfl, rfl, rfl, rfl, rfl, rfl, trivial⟩ fun ρ => ?_
  refine W_seq ?_
  obtain ⟨k, hk, H⟩ := jn_elim H
  refine W_join2 (S := Bool) (fun s ρ' w' => k s ∧ ∃ (ρ : Env), ρ' = setAll [(0, I aSeed), (1, I aI), (2, I aK), (3, I aRound), (4, I aN), (5, I aM), (13, .slice a (List.length r) c), (14, .bool r1), (15, .slice a11 (List.length r2) c12), (49, .bool s)] ρ ∧ But emp w w' ∧ Sub hx w' ∧ Sub hx7 w') ?_ ?_
  · refine W_region ?_
    refine LP_ev ok 0 [(41, .slice a11 (List.length r2) c12), (42, .slice a (List.length r) c)] 2 rfl rfl ?_
    have ex19 := (ex.ext x5)
    refine LP_call 2 rfl rfl rfl cal_22 rfl (laws_eqIntS_w _ _ _ H wx4 o8.readf ex9 o.readf ex19) ?_
    rintro _ wx20 ⟨r18, H, rfl, x21⟩
    refine LP_ev ok 3 [(44, .bool (!r18)), (45, .bool (!r18))] 5 rfl rfl ?_
    refine LP_split 45 (!r18) rfl (fun hc => ?_) (fun hc => ?_)
    · have H := H.1 hc
      refine LP_ev ok 5 [(46, undef), (47, undef), (48, undef), (49, .bool true)] 9 rfl rfl ?_
      refine LP_end _ rfl ?_
      have X22 := (((X.stepx x).stepx x5).stepx x21)
      have ex23 := (ex19.ext x21)
      have ex24 := (ex9.ext x21)
      exact ⟨true, H, _, env_eq ⟨rfl, rfl, rfl, rfl, rfl, rfl, rfl, rfl, rfl, rfl, trivial⟩, X22, ex23, ex24⟩
    have H := H.2 hc
    refine LP_ev ok 5 [(46, .bool r3), (47, .bool r1), (48, .bool (r3 != r1)), (49, .bool (r3 != r1))] 9 rfl rfl ?_
    refine LP_end _ rfl ?_
    have X25 := (((X.stepx x).stepx x5).stepx x21)
    have ex26 := (ex19.ext x21)
    have ex27 := (ex9.ext x21)
    exact ⟨r3 != r1, H, _, env_eq ⟨rfl, rfl, rfl, rfl, rfl, rfl, rfl, rfl, rfl, rfl, trivial⟩, X25, ex26, ex27⟩
  rintro x13 _ wx14 ⟨H, ρ, rfl, X17, ex15, ex16⟩
  subst hk
  refine W_cond (x13) rfl (fun hc28 => ?_) (fun hc28 => ?_)
  · have H := H.1 hc28
    refine W_seq ?_
    refine W_region ?_
    refine LP_ev ok 0 [(12, .bool false)] 1 rfl rfl ?_
    refine LP_end _ rfl ?_
    refine W_ret ?_
    exact ⟨_, Ret_of [.bool false] ⟨⟨rfl, rfl⟩, trivial⟩, _, H, rfl, X17.ext⟩
  have H := H.2 hc28
  refine W_skip ?_
  refine W_seq ?_
  refine W_region ?_
  refine LP_ev ok 0 [(17, I 1)] 1 rfl rfl ?_
  refine LP_end _ rfl ?_
  refine W_seq ?_
  refine W_region ?_
  refine LP_ev ok 0 [(50, .slice a11 (List.length r2) c12), (51, I 1)] 2 rfl rfl ?_
  refine LP_call 2 rfl rfl rfl cal_23 rfl (laws_markIntS_w _ _ _ H wx14 o8 ex16) ?_
  rintro _ wx31 ⟨r29, r30, hx33, H, rfl, x32, o34, ex35, dm⟩
  refine LP_ev ok 3 [(17, I r29)] 4 rfl rfl ?_
  refine LP_end _ rfl ?_
  refine W_seq ?_
  refine W_region ?_
  refine LP_ev ok 0 [(18, I 1)] 1 rfl rfl ?_
  refine LP_end _ rfl ?_
  refine W_seq ?_
  refine W_region ?_
  refine LP_ev ok 0 [(53, .slice a11 (List.length r2) c12), (54, I 1)] 2 rfl rfl ?_
  refine LP_call 2 rfl rfl rfl cal_24 rfl (laws_heldIntS_w _ _ _ H wx31 o34.readf ex35) ?_
  rintro _ wx39 ⟨r38, H, rfl, x40⟩
  refine LP_ev ok 3 [(18, I r38)] 4 rfl rfl ?_
  refine LP_end _ rfl ?_
  refine W_seq ?_
  refine W_seq ?_
  refine W_region ?_
  refine LP_ev ok 0 [(56, I r38), (57, .bool (decide (r38 < 0)))] 2 rfl rfl ?_
  refine LP_end _ rfl ?_
  refine W_cond (decide (r38 < 0)) rfl (fun hc41 => ?_) (fun hc41 => ?_)
  · have H := H.1 hc41
    refine W_seq ?_
    refine W_region ?_
    refine LP_ev ok 0 [(12, .bool false)] 1 rfl rfl ?_
    refine LP_end _ rfl ?_
    refine W_ret ?_
    have X43 := (X.stepx x)
    have f42 := f10.mono X43.size
    have X44 := ((X17.step x32 (f42.dom _)).stepx x40)
    exact ⟨_, Ret_of [.bool false] ⟨⟨rfl, rfl⟩, trivial⟩, _, H, rfl, X44.ext⟩
  have H := H.2 hc41
  refine W_skip ?_
  refine W_seq ?_
  refine W_seq ?_
  refine W_region ?_
  refine LP_ev ok 0 [(58, I r38), (59, I r29), (60, .bool (r38 != r29))] 3 rfl rfl ?_
  refine LP_end _ rfl ?_
  refine W_cond (r38 != r29) rfl (fun hc45 => ?_) (fun hc45 => ?_)
  · have H := H.1 hc45
    refine W_seq ?_
    refine W_region ?_
    refine LP_ev ok 0 [(12, .bool false)] 1 rfl rfl ?_
    refine LP_end _ rfl ?_
    refine W_ret ?_
    have X47 := (X.stepx x)
    have f46 := f10.mono X47.size
    have X48 := ((X17.step x32 (f46.dom _)).stepx x40)
    exact ⟨_, Ret_of [.bool false] ⟨⟨rfl, rfl⟩, trivial⟩, _, H, rfl, X48.ext⟩
  have H := H.2 hc45
  refine W_skip ?_
  refine W_seq ?_
  refine W_region ?_
  refine LP_ev ok 0 [(62, I aSeed), (63, I aI), (64, I aK), (65, I aRound), (66, I aN), (67, I aM)] 6 rfl rfl ?_
  refine LP_call 6 rfl rfl rfl cal_29 rfl (impl_PairMask_w _ _ _ _ _ _ _ H wx39 ) ?_
  rintro _ wx51 ⟨r49, r50, vx53, hx54, H, rfl, x52, o55, ex56, f57⟩
  obtain ⟨a58, c59, rfl⟩ := o55.shape
  refine LP_ev ok 7 [(61, .tuple #[.slice a58 (List.length r49) c59, .bool r50]), (69, .slice a58 (List.length r49) c59), (70, .bool r50), (19, .slice a58 (List.length r49) c59), (20, .bool r50)] 12 rfl rfl ?_
  refine LP_end _ rfl ?_
  try refine W_forget [(13, .slice a (List.length r) c), (14, .bool r1), (15, .slice a11 (List.length r2) c12), (17, I r29), (19, .slice a58 (List.length r49) c59), (20, .bool r50)] ⟨rfl, rfl, rfl, rfl, rfl, rfl, trivial⟩ fun ρ => ?_
  refine W_seq ?_
  obtain ⟨k64, hk65, H⟩ := jn_elim H
  refine W_join2 (S := Bool) (fun s ρ' w' => k64 s ∧ ∃ (ρ : Env), ρ' = setAll [(15, .slice a11 (List.length r2) c12), (17, I r29), (79, .bool s)] ρ ∧ But emp w w' ∧ Sub hx33 w') ?_ ?_
  · refine W_region ?_
    refine LP_ev ok 0 [(71, .slice a58 (List.length r49) c59), (72, .slice a (List.length r) c)] 2 rfl rfl ?_
    have ex67 := (((ex15.but x32 (Dj.of_fresh ex f10).symm).ext x40).ext x52)
    refine LP_call 2 rfl rfl rfl cal_22 rfl (laws_eqIntS_w _ _ _ H wx51 o55.readf ex56 o.readf ex67) ?_
    rintro _ wx68 ⟨r66, H, rfl, x69⟩
    refine LP_ev ok 3 [(74, .bool (!r66)), (75, .bool (!r66))] 5 rfl rfl ?_
    refine LP_split 75 (!r66) rfl (fun hc70 => ?_) (fun hc70 => ?_)
    · have H := H.1 hc70
      refine LP_ev ok 5 [(76, undef), (77, undef), (78, undef), (79, .bool true)] 9 rfl rfl ?_
      refine LP_end _ rfl ?_
      have X72 := (X.stepx x)
      have f71 := f10.mono X72.size
      have X73 := ((((X17.step x32 (f71.dom _)).stepx x40).stepx x52).stepx x69)
      have ex74 := (((ex35.ext x40).ext x52).ext x69)
      exact ⟨true, H, _, env_eq ⟨rfl, rfl, rfl, trivial⟩, X73, ex74⟩
    have H := H.2 hc70
    refine LP_ev ok 5 [(76, .bool r50), (77, .bool r1), (78, .bool (r50 != r1)), (79, .bool (r50 != r1))] 9 rfl rfl ?_
    refine LP_end _ rfl ?_
    have X76 := (X.stepx x)
    have f75 := f10.mono X76.size
    have X77 := ((((X17.step x32 (f75.dom _)).stepx x40).stepx x52).stepx x69)
    have ex78 := (((ex35.ext x40).ext x52).ext x69)
    exact ⟨r50 != r1, H, _, env_eq ⟨rfl, rfl, rfl, trivial⟩, X77, ex78⟩
  rintro x60 _ wx61 ⟨H, ρ, rfl, X63, ex62⟩
  subst hk65
  refine W_cond (x60) rfl (fun hc79 => ?_) (fun hc79 => ?_)
  · have H := H.1 hc79
    refine W_seq ?_
    refine W_region ?_
    refine LP_ev ok 0 [(12, .bool false)] 1 rfl rfl ?_
    refine LP_end _ rfl ?_
    refine W_ret ?_
    exact ⟨_, Ret_of [.bool false] ⟨⟨rfl, rfl⟩, trivial⟩, _, H, rfl, X63.ext⟩
  have H := H.2 hc79
  refine W_skip ?_
  refine W_seq ?_
  refine W_region ?_
  refine LP_ev ok 0 [(18, I 1)] 1 rfl rfl ?_
  refine LP_end _ rfl ?_
  refine W_seq ?_
  refine W_region ?_
  refine LP_ev ok 0 [(80, .slice a11 (List.length r2) c12), (81, I 1)] 2 rfl rfl ?_
  refine LP_call 2 rfl rfl rfl cal_24 rfl (laws_heldIntS_w _ _ _ H wx61 o34.readf ex62) ?_
  rintro _ wx81 ⟨r80, H, rfl, x82⟩
  refine LP_ev ok 3 [(18, I r80)] 4 rfl rfl ?_
  refine LP_end _ rfl ?_
  refine W_seq ?_
  refine W_seq ?_
  refine W_region ?_
  refine LP_ev ok 0 [(83, I r80), (84, .bool (decide (r80 < 0)))] 2 rfl rfl ?_
  refine LP_end _ rfl ?_
  refine W_cond (decide (r80 < 0)) rfl (fun hc83 => ?_) (fun hc83 => ?_)
  · have H := H.1 hc83
    refine W_seq ?_
    refine W_region ?_
    refine LP_ev ok 0 [(12, .bool false)] 1 rfl rfl ?_
    refine LP_end _ rfl ?_
    refine W_ret ?_
    have X84 := (X63.stepx x82)
    exact ⟨_, Ret_of [.bool false] ⟨⟨rfl, rfl⟩, trivial⟩, _, H, rfl, X84.ext⟩
  have H := H.2 hc83
  refine W_skip ?_
  refine W_seq ?_
  refine W_seq ?_
  refine W_region ?_
  refine LP_ev ok 0 [(85, I r80), (86, I r29), (87, .bool (r80 != r29))] 3 rfl rfl ?_
  refine LP_end _ rfl ?_
  refine W_cond (r80 != r29) rfl (fun hc85 => ?_) (fun hc85 => ?_)
  · have H := H.1 hc85
    refine W_seq ?_
    refine W_region ?_
    refine LP_ev ok 0 [(12, .bool false)] 1 rfl rfl ?_
    refine LP_end _ rfl ?_
    refine W_ret ?_
    have X86 := (X63.stepx x82)
    exact ⟨_, Ret_of [.bool false] ⟨⟨rfl, rfl⟩, trivial⟩, _, H, rfl, X86.ext⟩
  have H := H.2 hc85
  refine W_skip ?_
  refine W_seq ?_
  refine W_region ?_
  refine LP_ev ok 0 [(12, .bool true)] 1 rfl rfl ?_
  refine LP_end _ rfl ?_
  refine W_ret ?_
  have X87 := (X63.stepx x82)
  exact ⟨_, Ret_of [.bool true] ⟨⟨rfl, rfl⟩, trivial⟩, _, H, rfl, X87.ext⟩

set_option maxRecDepth 8000 in
set_option maxHeartbeats 4000000 in
theorem laws_szIntS_w (a : List Int) (left : Int) (Q : Int → Prop) (H : laws_szIntS a left Q) (w : World) {vx : Value} {hx : PH} (r : RS hx vx a) (ex : Sub hx w) :
    CallsTo Try.prog 102 #[vx, I left] w fun v w' => ∃ r0, Q r0 ∧ v = I r0 ∧ Ext w w' := by
  obtain ⟨a1, c, rfl⟩ := r.shape
  refine enter (args := [.slice a1 (List.length a) c, I left]) 12 Try.func102 rfl rfl rfl ?_
  refine W_forget [(0, .slice a1 (List.length a) c), (1, I left)] ⟨rfl, rfl, trivial⟩ fun ρ => ?_
  have X := But.refl emp w
  refine W_seq ?_
  refine W_region ?_
  refine LP_ev ok 0 [(4, I 0)] 1 rfl rfl ?_
  refine LP_end _ rfl ?_
  refine W_seq ?_
  refine W_region ?_
  refine LP_ev ok 0 [(5, I left), (6, .slice a1 (List.length a) c), (7, I (ln a)), (8, I (wr (left - (ln a)))), (1, I (wr (left - (ln a))))] 5 rfl rfl ?_
  refine LP_end _ rfl ?_
  refine W_seq ?_
  refine W_seq ?_
  refine W_region ?_
  refine LP_ev ok 0 [(9, I (wr (left - (ln a)))), (10, .bool (decide ((wr (left - (ln a))) < 0)))] 2 rfl rfl ?_
  refine LP_end _ rfl ?_
  refine W_cond (decide ((wr (left - (ln a))) < 0)) rfl (fun hc => ?_) (fun hc => ?_)
  · have H := H.1 hc
    refine W_seq ?_
    refine W_region ?_
    refine LP_ev ok 0 [(4, I ((-1)))] 1 rfl rfl ?_
    refine LP_end _ rfl ?_
    refine W_ret ?_
    exact ⟨_, Ret_of [I ((-1))] ⟨⟨rfl, rfl⟩, trivial⟩, _, H, rfl, X.ext⟩
  have H := H.2 hc
  refine W_skip ?_
  refine W_seq ?_
  refine W_region ?_
  refine LP_ev ok 0 [(11, I (wr (left - (ln a)))), (4, I (wr (left - (ln a))))] 2 rfl rfl ?_
  refine LP_end _ rfl ?_
  refine W_ret ?_
  exact ⟨_, Ret_of [I (wr (left - (ln a)))] ⟨⟨rfl, rfl⟩, trivial⟩, _, H, rfl, X.ext⟩

set_option maxRecDepth 8000 in
set_option maxHeartbeats 4000000 in
theorem laws_szIntSS_w (a : List (List Int)) (left : Int) (Q : Int → Prop) (H : laws_szIntSS a left Q) (w : World) {vx : Value} {hx : PH} (r : RS hx vx a) (ex : Sub hx w) :
    CallsTo Try.prog 39 #[vx, I left] w fun v w' => ∃ r0, Q r0 ∧ v = I r0 ∧ Ext w w' := by
  obtain ⟨a1, c, rfl⟩ := r.shape
  refine enter (args := [.slice a1 (List.length a) c, I left]) 27 Try.func39 rfl rfl rfl ?_
  refine W_forget [(0, .slice a1 (List.length a) c), (1, I left)] ⟨rfl, rfl, trivial⟩ fun ρ => ?_
  have X := But.refl emp w
  refine W_seq ?_
  refine W_region ?_
  refine LP_ev ok 0 [(4, I 0)] 1 rfl rfl ?_
  refine LP_end _ rfl ?_
  refine W_seq ?_
  refine W_region ?_
  refine LP_ev ok 0 [(6, I left), (7, .slice a1 (List.length a) c), (8, I (ln a)), (9, I (wr (left - (ln a)))), (1, I (wr (left - (ln a))))] 5 rfl rfl ?_
  refine LP_end _ rfl ?_
  refine W_seq ?_
  refine W_seq ?_
  refine W_region ?_
  refine LP_ev ok 0 [(10, I (wr (left - (ln a)))), (11, .bool (decide ((wr (left - (ln a))) < 0)))] 2 rfl rfl ?_
  refine LP_end _ rfl ?_
  refine W_cond (decide ((wr (left - (ln a))) < 0)) rfl (fun hc => ?_) (fun hc => ?_)
  · have H := H.1 hc
    refine W_seq ?_
    refine W_region ?_
    refine LP_ev ok 0 [(4, I ((-1)))] 1 rfl rfl ?_
    refine LP_end _ rfl ?_
    refine W_ret ?_
    exact ⟨_, Ret_of [I ((-1))] ⟨⟨rfl, rfl⟩, trivial⟩, _, H, rfl, X.ext⟩
  have H := H.2 hc
  refine W_skip ?_
  refine W_seq ?_
  refine W_seq ?_
  refine W_region ?_
  refine LP_ev ok 0 [(5, I 0)] 1 rfl rfl ?_
  refine LP_end _ rfl ?_
  refine W_block ?_
  obtain ⟨J, m, Hx, H⟩ := H
  refine W_loop (S := Int × Int) (fun s ρ' w' => J s.1 s.2 ∧ ∃ (ρ : Env), ρ' = setAll [(0, .slice a1 (List.length a) c), (1, I s.1), (5, I s.2)] ρ ∧ But emp w w' ∧ Sub hx w') (fun s => m s.1 s.2) (wr (left - (ln a)), 0) ⟨Hx, _, env_eq ⟨rfl, rfl, rfl, trivial⟩, X, ex⟩ ?_
  rintro ⟨left2, i⟩ _ wx ⟨Hi, ρ, rfl, X4, ex3⟩
  have H := H left2 i Hi
  refine W_seq ?_
  refine W_seq ?_
  refine W_region ?_
  refine LP_ev ok 0 [(12, I i), (13, .slice a1 (List.length a) c), (14, I (ln a)), (15, .bool (decide (i < (ln a))))] 4 rfl rfl ?_
  refine LP_end _ rfl ?_
  refine W_cond (decide (i < (ln a))) rfl (fun hc5 => ?_) (fun hc5 => ?_)
  · have H := H.1 hc5
    refine W_skip ?_
    refine W_seq ?_
    refine W_block ?_
    refine W_seq ?_
    refine W_region ?_
    refine LP_ev ok 0 [(18, .slice a1 (List.length a) c), (19, I i)] 2 rfl rfl ?_
    obtain ⟨x, hi, hx6, H⟩ := H
    refine LP_index 2 rfl rfl rfl Try.underlying49 ti_22 rfl rfl r hi hx6 fun a7 cs r8 d => ?_
    refine LP_load 3 rfl rfl rfl ti_22 ag_22 rfl r8 d ex3 fun vx9 r10 => ?_
    have r13 := r10.slice
    obtain ⟨a11, c12, rfl⟩ := r13.shape
    refine LP_ev ok 4 [(22, I left2)] 5 rfl rfl ?_
    refine LP_call 5 rfl rfl rfl cal_102 rfl (laws_szIntS_w _ _ _ H wx r13 ex3) ?_
    rintro _ wx15 ⟨r14, H, rfl, x16⟩
    refine LP_ev ok 6 [(1, I r14)] 7 rfl rfl ?_
    refine LP_end _ rfl ?_
    refine W_seq ?_
    refine W_region ?_
    refine LP_ev ok 0 [(24, I r14), (25, .bool (decide (r14 < 0)))] 2 rfl rfl ?_
    refine LP_end _ rfl ?_
    refine W_cond (decide (r14 < 0)) rfl (fun hc17 => ?_) (fun hc17 => ?_)
    · have H := H.1 hc17
      refine W_seq ?_
      refine W_region ?_
      refine LP_ev ok 0 [(4, I ((-1)))] 1 rfl rfl ?_
      refine LP_end _ rfl ?_
      refine W_ret ?_
      have X18 := (X4.stepx x16)
      exact ⟨_, Ret_of [I ((-1))] ⟨⟨rfl, rfl⟩, trivial⟩, _, H, rfl, X18.ext⟩
    have H := H.2 hc17
    refine W_skip ?_
    refine W_region ?_
    refine LP_ev ok 0 [(16, I i), (17, I (wr (i + 1))), (5, I (wr (i + 1)))] 3 rfl rfl ?_
    refine LP_end _ rfl ?_
    have X19 := (X4.stepx x16)
    have ex20 := (ex3.ext x16)
    exact ⟨(r14, wr (i + 1)), ⟨H.1, _, env_eq ⟨rfl, rfl, rfl, trivial⟩, X19, ex20⟩, H.2⟩
  have H := H.2 hc5
  refine W_exit ?_
  refine (if_pos rfl).mpr ?_
  refine W_seq ?_
  refine W_region ?_
  refine LP_ev ok 0 [(26, I left2), (4, I left2)] 2 rfl rfl ?_
  refine LP_end _ rfl ?_
  refine W_ret ?_
  exact ⟨_, Ret_of [I left2] ⟨⟨rfl, rfl⟩, trivial⟩, _, H, rfl, X4.ext⟩

set_option maxRecDepth 8000 in
set_option maxHeartbeats 4000000 in
theorem laws_toIntSS_w (a : List (List Int)) (Q : (List (List Int)) → Prop) (H : laws_toIntSS a Q) (w : World) {vx : Value} {hx : PH} (r : RS hx vx a) (ex : Sub hx w) :
    CallsTo Try.prog 41 #[vx] w fun v w' => ∃ r0 u0 g0, Q r0 ∧ v = u0 ∧ Ext w w' ∧ OD g0 u0 r0 ∧ Sub g0 w' ∧ Fresh w.heap.size g0 := by
  obtain ⟨a1, c, rfl⟩ := r.shape
  refine enter (args := [.slice a1 (List.length a) c]) 23 Try.func41 rfl rfl rfl ?_
  refine W_forget [(0, .slice a1 (List.length a) c)] ⟨rfl, trivial⟩ fun ρ => ?_
  have X := But.refl emp w
  refine W_seq ?_
  refine W_region ?_
  refine LP_ev ok 0 [(2, .slice none 0 0)] 1 rfl rfl ?_
  refine LP_end _ rfl ?_
  refine W_seq ?_
  refine W_region ?_
  refine LP_ev ok 0 [(5, .slice a1 (List.length a) c), (6, I (ln a))] 2 rfl rfl ?_
  obtain ⟨hn, hb, H⟩ := H
  refine LP_maked (β := Int) 2 rfl rfl rfl Try.underlying49 ti_22 rfl hn (by first | omega | (simp only [ln] at *; omega)) (by first | omega | (simp only [ln] at *; omega)) fun hx2 vx3 wx x o ex4 f => ?_
  obtain ⟨a5, c6, rfl⟩ := o.shape
  refine LP_ev ok 3 [(3, .slice a5 (List.length (List.replicate (Int.toNat (ln a)) (([] : List Int)))) c6)] 4 rfl rfl ?_
  refine LP_end _ rfl ?_
  refine W_seq ?_
  refine W_seq ?_
  refine W_region ?_
  refine LP_ev ok 0 [(4, I 0)] 1 rfl rfl ?_
  refine LP_end _ rfl ?_
  refine W_block ?_
  obtain ⟨J, m, Hx, H⟩ := H
  have X15 := (X.stepx x)
  have f16 := f.mono X.size
  have ex17 := (ex.ext x)
  refine W_loop (S := (List (List Int)) × Int) (fun s ρ' w' => J s.1 s.2 ∧ ∃ (ρ : Env) (hx8 : PH), ρ' = setAll [(0, .slice a1 (List.length a) c), (3, .slice a5 (List.length (List.replicate (Int.toNat (ln a)) (([] : List Int)))) c6), (4, I s.2)] ρ ∧ But emp w w' ∧ OD hx8 (.slice a5 (List.length (List.replicate (Int.toNat (ln a)) (([] : List Int)))) c6) s.1 ∧ Sub hx8 w' ∧ Fresh w.heap.size hx8 ∧ Sub hx w' ∧ Dj hx8 hx) (fun s => m s.1 s.2) (List.replicate (Int.toNat (ln a)) (([] : List Int)), 0) ⟨Hx, _, hx2, env_eq ⟨rfl, rfl, rfl, trivial⟩, X15, o, ex4, f16, ex17, (Dj.of_fresh ex f).symm⟩ ?_
  rintro ⟨out, i⟩ _ wx12 ⟨Hi, ρ, hx8, rfl, X14, o9, ex10, f11, ex13, d⟩
  have H := H out i Hi
  refine W_seq ?_
  refine W_seq ?_
  refine W_region ?_
  refine LP_ev ok 0 [(8, I i), (9, .slice a1 (List.length a) c), (10, I (ln a)), (11, .bool (decide (i < (ln a))))] 4 rfl rfl ?_
  refine LP_end _ rfl ?_
  refine W_cond (decide (i < (ln a))) rfl (fun hc => ?_) (fun hc => ?_)
  · have H := H.1 hc
    refine W_skip ?_
    refine W_seq ?_
    refine W_block ?_
    refine W_region ?_
    refine LP_ev ok 0 [(14, .slice a5 (List.length (List.replicate (Int.toNat (ln a)) (([] : List Int)))) c6), (15, I i), (16, .slice a1 (List.length a) c), (17, I i)] 4 rfl rfl ?_
    obtain ⟨x18, hi, hx19, H⟩ := H
    refine LP_index 4 rfl rfl rfl Try.underlying49 ti_22 rfl rfl r hi hx19 fun a20 cs r21 d22 => ?_
    refine LP_load 5 rfl rfl rfl ti_22 ag_22 rfl r21 d22 ex13 fun vx23 r24 => ?_
    have r27 := r24.slice
    obtain ⟨a25, c26, rfl⟩ := r27.shape
    refine LP_call 6 rfl rfl rfl cal_26 rfl (laws_toIntS_w _ _ H wx12 r27 ex13) ?_
    rintro _ wx29 ⟨r28, vx31, hx32, H, rfl, x30, o33, ex34, f35⟩
    obtain ⟨a36, c37, rfl⟩ := o33.shape
    obtain ⟨hi38, hl, H⟩ := H
    refine LP_indexd 7 rfl rfl rfl Try.underlying49 ti_22 rfl rfl o9 hi38 hl fun a39 wa => ?_
    have ex45 := (ex10.ext x30)
    refine LP_setd (y := r28) 8 rfl rfl rfl rfl rfl wa (OS.od o33) ex45 ex34 (Dj.of_fresh ex10 f35) fun hx40 hw wx41 o42 ex43 y dh dq ex44 => ?_
    refine LP_end _ rfl ?_
    refine W_region ?_
    refine LP_ev ok 0 [(12, I i), (13, I (wr (i + 1))), (4, I (wr (i + 1)))] 3 rfl rfl ?_
    refine LP_end _ rfl ?_
    have X46 := ((X14.stepx x30).step (But.dom y dh) (f11.dom _))
    have f47 := f35.mono X14.size
    have f48 := Fresh.domOf (Fresh.un f11 f47) dq
    have ex49 := ((ex13.ext x30).but (But.dom y dh) d)
    exact ⟨(List.set out (Int.toNat i) r28, wr (i + 1)), ⟨H.1, _, hx40, env_eq ⟨rfl, rfl, rfl, trivial⟩, X46, o42, ex43, f48, ex49, (Dom.dj dq (Dj.un_l d (Dj.of_fresh ex13 f35).symm))⟩, H.2⟩
  have H := H.2 hc
  refine W_exit ?_
  refine (if_pos rfl).mpr ?_
  refine W_seq ?_
  refine W_region ?_
  refine LP_ev ok 0 [(22, .slice a5 (List.length (List.replicate (Int.toNat (ln a)) (([] : List Int)))) c6), (2, .slice a5 (List.length (List.replicate (Int.toNat (ln a)) (([] : List Int)))) c6)] 2 rfl rfl ?_
  refine LP_end _ rfl ?_
  refine W_ret ?_
  exact ⟨_, Ret_of [.slice a5 (List.length (List.replicate (Int.toNat (ln a)) (([] : List Int)))) c6] ⟨⟨rfl, rfl⟩, trivial⟩, _, _, _, H, rfl, X14.ext, o9, ex10, f11⟩

set_option maxRecDepth 8000 in
set_option maxHeartbeats 4000000 in
theorem spec_zeShares_w (m : Int) (shares : List (List Int)) (Q : Bool → Prop) (H : spec_zeShares m shares Q) (w : World) {vx : Value} {hx : PH} (r : RS hx vx shares) (ex : Sub hx w) :
    CallsTo Try.prog 103 #[I m, vx] w fun v w' => ∃ r0, Q r0 ∧ v = .bool r0 ∧ Ext w w' := by
  obtain ⟨a, c, rfl⟩ := r.shape
  refine enter (args := [I m, .slice a (List.length shares) c]) 34 Try.func103 rfl rfl rfl ?_
  refine W_forget [(0, I m), (1, .slice a (List.length shares) c)] ⟨rfl, rfl, trivial⟩ fun ρ => ?_
  have X := But.refl emp w
  refine W_seq ?_
  refine W_region ?_
  refine LP_ev ok 0 [(4, .bool false)] 1 rfl rfl ?_
  refine LP_end _ rfl ?_
  refine W_seq ?_
  refine W_seq ?_
  refine W_region ?_
  refine LP_ev ok 0 [(7, .slice a (List.length shares) c), (8, I (ln shares)), (9, I 0)] 3 rfl rfl ?_
  refine LP_end _ rfl ?_
  refine W_block ?_
  obtain ⟨J, m3, Hx, H⟩ := H
  refine W_loop (S := Int) (fun s ρ' w' => J s ∧ ∃ (ρ : Env), ρ' = setAll [(0, I m), (1, .slice a (List.length shares) c), (7, .slice a (List.length shares) c), (8, I (ln shares)), (9, I s)] ρ ∧ But emp w w' ∧ Sub hx w') (fun s => m3 s) 0 ⟨Hx, _, env_eq ⟨rfl, rfl, rfl, rfl, rfl, trivial⟩, X, ex⟩ ?_
  rintro x _ wx ⟨Hi, ρ, rfl, X2, ex1⟩
  have H := H x Hi
  refine W_seq ?_
  refine W_region ?_
  refine LP_ev ok 0 [(10, .bool (decide (x < (ln shares))))] 1 rfl rfl ?_
  refine LP_end _ rfl ?_
  refine W_seq ?_
  refine W_cond (decide (x < (ln shares))) rfl (fun hc => ?_) (fun hc => ?_)
  · have H := H.1 hc
    refine W_skip ?_
    refine W_seq ?_
    refine W_block ?_
    refine W_seq ?_
    refine W_region ?_
    obtain ⟨x4, hi, hx5, H⟩ := H
    refine LP_index 0 rfl rfl rfl Try.underlying49 ti_22 rfl rfl r hi hx5 fun a6 cs r7 d => ?_
    refine LP_load 1 rfl rfl rfl ti_22 ag_22 rfl r7 d ex1 fun vx8 r9 => ?_
    have r12 := r9.slice
    obtain ⟨a10, c11, rfl⟩ := r12.shape
    refine LP_ev ok 2 [(6, .slice a10 (List.length x4) c11)] 3 rfl rfl ?_
    refine LP_end _ rfl ?_
    obtain ⟨k, hk, H⟩ := jn_elim H
    refine W_join2 (S := Bool) (fun s ρ' w' => k s ∧ ∃ (ρ : Env), ρ' = setAll [(0, I m), (1, .slice a (List.length shares) c), (7, .slice a (List.length shares) c), (8, I (ln shares)), (9, I x), (25, .bool s)] ρ ∧ But emp w w' ∧ Sub hx w') ?_ ?_
    · refine W_region ?_
      refine LP_ev ok 0 [(13, .slice a10 (List.length x4) c11), (14, I (ln x4)), (15, .slice a (List.length shares) c)] 3 rfl rfl ?_
      obtain ⟨x17, hi18, hx19, H⟩ := H
      refine LP_index 3 rfl rfl rfl Try.underlying49 ti_22 rfl rfl r hi18 hx19 fun a20 cs21 r22 d23 => ?_
      refine LP_load 4 rfl rfl rfl ti_22 ag_22 rfl r22 d23 ex1 fun vx24 r25 => ?_
      have r28 := r25.slice
      obtain ⟨a26, c27, rfl⟩ := r28.shape
      refine LP_ev ok 5 [(18, I (ln x17)), (19, .bool ((ln x4) != (ln x17))), (20, .bool ((ln x4) != (ln x17)))] 8 rfl rfl ?_
      refine LP_split 20 ((ln x4) != (ln x17)) rfl (fun hc29 => ?_) (fun hc29 => ?_)
      · have H := H.1 hc29
        refine LP_ev ok 8 [(21, undef), (22, undef), (23, undef), (24, undef), (25, .bool true)] 13 rfl rfl ?_
        refine LP_end _ rfl ?_
        exact ⟨true, H, _, env_eq ⟨rfl, rfl, rfl, rfl, rfl, rfl, trivial⟩, X2, ex1⟩
      have H := H.2 hc29
      refine LP_ev ok 8 [(21, I m), (22, .slice a10 (List.length x4) c11)] 10 rfl rfl ?_
      refine LP_call 10 rfl rfl rfl cal_78 rfl (spec_zeValues_w _ _ _ H wx r12 ex1) ?_
      rintro _ wx31 ⟨r30, H, rfl, x32⟩
      refine LP_ev ok 11 [(24, .bool (!r30)), (25, .bool (!r30))] 13 rfl rfl ?_
      refine LP_end _ rfl ?_
      have X33 := (X2.stepx x32)
      have ex34 := (ex1.ext x32)
      exact ⟨!r30, H, _, env_eq ⟨rfl, rfl, rfl, rfl, rfl, rfl, trivial⟩, X33, ex34⟩
    rintro x13 _ wx14 ⟨H, ρ, rfl, X16, ex15⟩
    subst hk
    refine W_cond (x13) rfl (fun hc35 => ?_) (fun hc35 => ?_)
    · have H := H.1 hc35
      refine W_seq ?_
      refine W_region ?_
      refine LP_ev ok 0 [(4, .bool false)] 1 rfl rfl ?_
      refine LP_end _ rfl ?_
      refine W_ret ?_
      exact ⟨_, Ret_of [.bool false] ⟨⟨rfl, rfl⟩, trivial⟩, _, H, rfl, X16.ext⟩
    have H := H.2 hc35
    refine W_skip ?_
    refine W_region ?_
    refine LP_ev ok 0 [(26, I (wr (x + 1))), (9, I (wr (x + 1)))] 2 rfl rfl ?_
    refine LP_end _ rfl ?_
    exact ⟨wr (x + 1), ⟨H.1, _, env_eq ⟨rfl, rfl, rfl, rfl, rfl, trivial⟩, X16, ex15⟩, H.2⟩
  have H := H.2 hc
  refine W_exit ?_
  refine (if_pos rfl).mpr ?_
  obtain ⟨k39, hk40, H⟩ := jn_elim H
  refine W_join2 (S := Bool) (fun s ρ' w' => k39 s ∧ ∃ (ρ : Env), ρ' = setAll [(4, .bool s)] ρ ∧ But emp w w') ?_ ?_
  · refine W_region ?_
    refine LP_ev ok 0 [(27, I m)] 1 rfl rfl ?_
    refine LP_call 1 rfl rfl rfl cal_77 rfl (spec_zeModulus_w _ _ H wx ) ?_
    rintro _ wx42 ⟨r41, H, rfl, x43⟩
    refine LP_ev ok 2 [(29, .bool r41)] 3 rfl rfl ?_
    refine LP_split 29 (r41) rfl (fun hc44 => ?_) (fun hc44 => ?_)
    · have H := H.1 hc44
      refine LP_ev ok 3 [(30, .slice a (List.length shares) c), (31, I (ln shares))] 5 rfl rfl ?_
      refine LP_call 5 rfl rfl rfl cal_76 rfl (spec_l1In_w _ _ _ _ H wx42 ) ?_
      rintro _ wx46 ⟨r45, H, rfl, x47⟩
      refine LP_ev ok 6 [(33, .bool r45), (4, .bool r45)] 8 rfl rfl ?_
      refine LP_end _ rfl ?_
      have X48 := ((X2.stepx x43).stepx x47)
      exact ⟨r45, H, _, env_eq ⟨rfl, trivial⟩, X48⟩
    have H := H.2 hc44
    refine LP_ev ok 3 [(30, undef), (31, undef), (32, undef), (33, .bool false), (4, .bool false)] 8 rfl rfl ?_
    refine LP_end _ rfl ?_
    have X49 := (X2.stepx x43)
    exact ⟨false, H, _, env_eq ⟨rfl, trivial⟩, X49⟩
  rintro x36 _ wx37 ⟨H, ρ, rfl, X38⟩
  subst hk40
  refine W_ret ?_
  exact ⟨_, Ret_of [.bool x36] ⟨⟨rfl, rfl⟩, trivial⟩, _, H, rfl, X38.ext⟩

set_option maxRecDepth 8000 in
set_option maxHeartbeats 4000000 in
theorem spec_zeAdd_w (a : List Int) (b : List Int) (sign : Int) (m : Int) (Q : (List Int) → Prop) (H : spec_zeAdd a b sign m Q) (w : World) {vx : Value} {hx : PH} (r : RS hx vx a) (ex : Sub hx w) {vx2 : Value} {hx3 : PH} (r4 : RS hx3 vx2 b) (ex5 : Sub hx3 w) :
    CallsTo Try.prog 128 #[vx, vx2, I sign, I m] w fun v w' => ∃ r0 u0 g0, Q r0 ∧ v = u0 ∧ Ext w w' ∧ OS 3 g0 emp u0 r0 ∧ Sub g0 w' ∧ Fresh w.heap.size g0 := by
  obtain ⟨a1, c, rfl⟩ := r.shape
  obtain ⟨a6, c7, rfl⟩ := r4.shape
  refine enter (args := [.slice a1 (List.length a) c, .slice a6 (List.length b) c7, I sign, I m]) 37 Try.func128 rfl rfl rfl ?_
  refine W_forget [(0, .slice a1 (List.length a) c), (1, .slice a6 (List.length b) c7), (2, I sign), (3, I m)] ⟨rfl, rfl, rfl, rfl, trivial⟩ fun ρ => ?_
  have X := But.refl emp w
  refine W_seq ?_
  refine W_region ?_
  refine LP_ev ok 0 [(8, .slice none 0 0)] 1 rfl rfl ?_
  refine LP_end _ rfl ?_
  refine W_seq ?_
  refine W_region ?_
  refine LP_ev ok 0 [(11, .slice a1 (List.length a) c), (12, I (ln a))] 2 rfl rfl ?_
  obtain ⟨hn, hb, H⟩ := H
  refine LP_make (α := Int) 2 rfl rfl rfl Try.underlying22 ti_3 (x0 := (0 : Int)) rfl rfl hn (by first | omega | (simp only [ln] at *; omega)) (by first | omega | (simp only [ln] at *; omega)) fun hx8 vx9 wx x o ex10 f => ?_
  obtain ⟨a11, c12, rfl⟩ := o.shape
  refine LP_ev ok 3 [(9, .slice a11 (List.length (List.replicate (Int.toNat (ln a)) ((0 : Int)))) c12)] 4 rfl rfl ?_
  refine LP_end _ rfl ?_
  refine W_seq ?_
  refine W_seq ?_
  refine W_region ?_
  refine LP_ev ok 0 [(14, .slice a1 (List.length a) c), (15, I (ln a)), (16, I 0)] 3 rfl rfl ?_
  refine LP_end _ rfl ?_
  refine W_block ?_
  obtain ⟨J, m24, Hx, H⟩ := H
  have X25 := (X.stepx x)
  have f26 := f.mono X.size
  have ex27 := (ex.ext x)
  have ex28 := (ex5.ext x)
  refine W_loop (S := (List Int) × Int) (fun s ρ' w' => J s.1 s.2 ∧ ∃ (ρ : Env) (hx14 : PH), ρ' = setAll [(0, .slice a1 (List.length a) c), (1, .slice a6 (List.length b) c7), (2, I sign), (3, I m), (9, .slice a11 (List.length (List.replicate (Int.toNat (ln a)) ((0 : Int)))) c12), (15, I (ln a)), (16, I s.2)] ρ ∧ But emp w w' ∧ OS 3 hx14 emp (.slice a11 (List.length (List.replicate (Int.toNat (ln a)) ((0 : Int)))) c12) s.1 ∧ Sub hx14 w' ∧ Fresh w.heap.size hx14 ∧ Sub hx w' ∧ Sub hx3 w' ∧ Dj hx14 hx ∧ Dj hx14 hx3) (fun s => m24 s.1 s.2) (List.replicate (Int.toNat (ln a)) ((0 : Int)), 0) ⟨Hx, _, hx8, env_eq ⟨rfl, rfl, rfl, rfl, rfl, rfl, rfl, trivial⟩, X25, o, ex10, f26, ex27, ex28, (Dj.of_fresh ex f).symm, (Dj.of_fresh ex5 f).symm⟩ ?_
  rintro ⟨out, x18⟩ _ wx19 ⟨Hi, ρ, hx14, rfl, X23, o15, ex16, f17, ex20, ex21, d, d22⟩
  have H := H out x18 Hi
  refine W_seq ?_
  refine W_region ?_
  refine LP_ev ok 0 [(17, .bool (decide (x18 < (ln a))))] 1 rfl rfl ?_
  refine LP_end _ rfl ?_
  refine W_seq ?_
  refine W_cond (decide (x18 < (ln a))) rfl (fun hc => ?_) (fun hc => ?_)
  · have H := H.1 hc
    refine W_skip ?_
    refine W_seq ?_
    refine W_block ?_
    refine W_seq ?_
    refine W_region ?_
    refine LP_ev ok 0 [(18, I x18), (10, I x18)] 2 rfl rfl ?_
    refine LP_end _ rfl ?_
    refine W_open mix fun wx29 x30 => ?_
    obtain ⟨x31, hi, hx32, H⟩ := H
    obtain ⟨a33, cs, hx36, r34, d35⟩ := run_indexAt Try.underlying22 ti_3 r .i64 _ x31 hi hx32
    have ex37 := (ex20.ext x30)
    obtain ⟨vx38, hx40, r39⟩ := run_loadAt ti_3 ag_3 r34 d35
    obtain rfl := r39.int
    obtain ⟨x41, hi42, hx43, H⟩ := H
    obtain ⟨a44, cs45, hx48, r46, d47⟩ := run_indexAt Try.underlying22 ti_3 r4 .i64 _ x41 hi42 hx43
    have ex49 := (ex21.ext x30)
    obtain ⟨vx50, hx52, r51⟩ := run_loadAt ti_3 ag_3 r46 d47
    obtain rfl := r51.int
    obtain ⟨r53, Hd, H⟩ := H
    refine AP_stageL (St := Ext) rel_ext 0 15 [[], [], [], [], [2, 3], [2, 3, 4], [], [], [], [7, 8], [7, 8, 9], [6, 7, 8, 9, 10], [2, 3, 4, 5, 6, 7, 8, 9, 10, 11], [], [2, 3, 4, 5, 6, 7, 8, 9, 10, 11, 12, 13], [0, 1, 2, 3, 4, 5, 6, 7, 8, 9, 10, 11, 12, 13, 14], [0, 1, 2, 3, 4, 5, 6, 7, 8, 9, 10, 11, 12, 13, 14, 15]] [[(9, none)], [(10, none)], [(0, none)], [(10, none)], [(21, some 2), (22, some 3)], [(23, some 4)], [(2, none)], [(1, none)], [(10, none)], [(26, some 7), (27, some 8)], [(28, some 9)], [(25, some 6), (29, some 10)], [(24, some 5), (30, some 11)], [(3, none)], [(31, some 12), (32, some 13)]] [(0, none), (1, none), (2, none), (3, none), (9, none), (15, none), (16, none), (19, some 0), (20, some 1), (33, some 14)] [.slice a11 (List.length (List.replicate (Int.toNat (ln a)) ((0 : Int)))) c12, I x18, .slice a1 (List.length a) c, I x18, .pointer (some a33), I x31, I sign, .slice a6 (List.length b) c7, I x18, .pointer (some a44), I x41, I (wr (sign * x41)), I (wr (x31 + (wr (sign * x41)))), I m, I r53] [] [] (by kernel_rfl) (by decide) rfl
      ⟨C_ev ok [(9, .slice a11 (List.length (List.replicate (Int.toNat (ln a)) ((0 : Int)))) c12)] (.slice a11 (List.length (List.replicate (Int.toNat (ln a)) ((0 : Int)))) c12) (by decide) (fun _ h => h) rfl (fun _ => rfl),
        C_ev ok [(10, I x18)] (I x18) (by decide) (fun _ h => h) rfl (fun _ => rfl),
        C_ev ok [(0, .slice a1 (List.length a) c)] (.slice a1 (List.length a) c) (by decide) (fun _ h => h) rfl (fun _ => rfl),
        C_ev ok [(10, I x18)] (I x18) (by decide) (fun _ h => h) rfl (fun _ => rfl),
        C_run [(21, .slice a1 (List.length a) c), (22, I x18)] (.pointer (some a33)) (by decide) (fun _ h => h) rfl (fun _ _ _ => ex_index rfl rfl rfl (hx36 _)),
        C_run [(23, .pointer (some a33))] (I x31) (by decide) (fun _ h => h) rfl (fun _ w x => ex_load rfl rfl (hx40 w (ex37.ext x))),
        C_ev ok [(2, I sign)] (I sign) (by decide) (fun _ h => h) rfl (fun _ => rfl),
        C_ev ok [(1, .slice a6 (List.length b) c7)] (.slice a6 (List.length b) c7) (by decide) (fun _ h => h) rfl (fun _ => rfl),
        C_ev ok [(10, I x18)] (I x18) (by decide) (fun _ h => h) rfl (fun _ => rfl),
        C_run [(26, .slice a6 (List.length b) c7), (27, I x18)] (.pointer (some a44)) (by decide) (fun _ h => h) rfl (fun _ _ _ => ex_index rfl rfl rfl (hx48 _)),
        C_run [(28, .pointer (some a44))] (I x41) (by decide) (fun _ h => h) rfl (fun _ w x => ex_load rfl rfl (hx52 w (ex49.ext x))),
        C_ev ok [(25, I sign), (29, I x41)] (I (wr (sign * x41))) (by decide) (fun _ h => h) rfl (fun _ => rfl),
        C_ev ok [(24, I x31), (30, I (wr (sign * x41)))] (I (wr (x31 + (wr (sign * x41))))) (by decide) (fun _ h => h) rfl (fun _ => rfl),
        C_ev ok [(3, I m)] (I m) (by decide) (fun _ h => h) rfl (fun _ => rfl),
        C_call [(31, I (wr (x31 + (wr (sign * x41))))), (32, I m)] (I r53) (by decide) (fun _ h => h) rfl rfl cal_152 (fun _ => rfl) (fun w x => (spec_hMod_w _ _ _ Hd w ).mono (fun _ _ h => by obtain ⟨_, rfl, rfl, x⟩ := h; exact ⟨rfl, x⟩)), trivial⟩ ?_
    intro wx54 x55 ρ hn56
    refine AP_forget [(0, .slice a1 (List.length a) c), (1, .slice a6 (List.length b) c7), (2, I sign), (3, I m), (9, .slice a11 (List.length (List.replicate (Int.toNat (ln a)) ((0 : Int)))) c12), (15, I (ln a)), (16, I x18), (19, .slice a11 (List.length (List.replicate (Int.toNat (ln a)) ((0 : Int)))) c12), (20, I x18), (33, I r53)] (by exact hn56) fun ρ => ?_
    refine AP_LP 15 [[], [], [], [], [2, 3], [2, 3, 4], [], [], [], [7, 8], [7, 8, 9], [6, 7, 8, 9, 10], [2, 3, 4, 5, 6, 7, 8, 9, 10, 11], [], [2, 3, 4, 5, 6, 7, 8, 9, 10, 11, 12, 13], [0, 1, 2, 3, 4, 5, 6, 7, 8, 9, 10, 11, 12, 13, 14], [0, 1, 2, 3, 4, 5, 6, 7, 8, 9, 10, 11, 12, 13, 14, 15]] (by kernel_rfl) ?_
    obtain ⟨hi57, hl, H⟩ := H
    refine LP_indexw 15 rfl rfl rfl Try.underlying22 ti_3 rfl rfl o15 hi57 hl fun a58 wa => ?_
    have ex63 := ((ex16.ext x30).ext x55)
    refine LP_set 16 rfl rfl rfl rfl rfl wa (Le.refl emp) ⟨_, rfl, rfl⟩ ex63 fun hx59 wx60 o61 ex62 y dm => ?_
    refine LP_end _ rfl ?_
    refine W_region ?_
    refine LP_ev ok 0 [(35, I (wr (x18 + 1))), (16, I (wr (x18 + 1)))] 2 rfl rfl ?_
    refine LP_end _ rfl ?_
    have X64 := (((X23.stepx x30).stepx x55).step y (f17.dom _))
    have X66 := ((X23.stepx x30).stepx x55)
    have f65 := (dm _).fresh f17 X66.size
    have ex67 := ((ex37.ext x55).but y d)
    have ex68 := ((ex49.ext x55).but y d22)
    have ex69 := (ex37.ext x55)
    have ex70 := (ex49.ext x55)
    exact ⟨(List.set out (Int.toNat x18) r53, wr (x18 + 1)), ⟨H.1, _, hx59, env_eq ⟨rfl, rfl, rfl, rfl, rfl, rfl, rfl, trivial⟩, X64, o61, ex62, f65, ex67, ex68, (DomLe.dj (dm _) d ex69), (DomLe.dj (dm _) d22 ex70)⟩, H.2⟩
  have H := H.2 hc
  refine W_exit ?_
  refine (if_pos rfl).mpr ?_
  refine W_seq ?_
  refine W_region ?_
  refine LP_ev ok 0 [(36, .slice a11 (List.length (List.replicate (Int.toNat (ln a)) ((0 : Int)))) c12), (8, .slice a11 (List.length (List.replicate (Int.toNat (ln a)) ((0 : Int)))) c12)] 2 rfl rfl ?_
  refine LP_end _ rfl ?_
  refine W_ret ?_
  exact ⟨_, Ret_of [.slice a11 (List.length (List.replicate (Int.toNat (ln a)) ((0 : Int)))) c12] ⟨⟨rfl, rfl⟩, trivial⟩, _, _, _, H, rfl, X23.ext, o15, ex16, f17⟩

set_option maxRecDepth 8000 in
set_option maxHeartbeats 4000000 in
theorem spec_zeSum_w (m : Int) (shares : List (List Int)) (Q : (List Int) → Prop) (H : spec_zeSum m shares Q) (w : World) {vx : Value} {hx : PH} (r : RS hx vx shares) (ex : Sub hx w) :
    CallsTo Try.prog 104 #[I m, vx] w fun v w' => ∃ r0 u0 g0, Q r0 ∧ v = u0 ∧ Ext w w' ∧ OS 3 g0 emp u0 r0 ∧ Sub g0 w' ∧ Fresh w.heap.size g0 := by
  obtain ⟨a, c, rfl⟩ := r.shape
  refine enter (args := [I m, .slice a (List.length shares) c]) 25 Try.func104 rfl rfl rfl ?_
  refine W_forget [(0, I m), (1, .slice a (List.length shares) c)] ⟨rfl, rfl, trivial⟩ fun ρ => ?_
  have X := But.refl emp w
  refine W_seq ?_
  refine W_region ?_
  refine LP_ev ok 0 [(4, .slice none 0 0)] 1 rfl rfl ?_
  refine LP_end _ rfl ?_
  refine W_seq ?_
  refine W_region ?_
  refine LP_ev ok 0 [(8, .slice a (List.length shares) c)] 1 rfl rfl ?_
  obtain ⟨x, hi, hx1, H⟩ := H
  refine LP_index 1 rfl rfl rfl Try.underlying49 ti_22 rfl rfl r hi hx1 fun a2 cs r3 d => ?_
  refine LP_load 2 rfl rfl rfl ti_22 ag_22 rfl r3 d ex fun vx4 r5 => ?_
  have r8 := r5.slice
  obtain ⟨a6, c7, rfl⟩ := r8.shape
  refine LP_ev ok 3 [(11, I (ln x))] 4 rfl rfl ?_
  obtain ⟨hn, hb, H⟩ := H
  refine LP_make (α := Int) 4 rfl rfl rfl Try.underlying22 ti_3 (x0 := (0 : Int)) rfl rfl hn (by first | omega | (simp only [ln] at *; omega)) (by first | omega | (simp only [ln] at *; omega)) fun hx9 vx10 wx x11 o ex12 f => ?_
  obtain ⟨a13, c14, rfl⟩ := o.shape
  refine LP_ev ok 5 [(5, .slice a13 (List.length (List.replicate (Int.toNat (ln x)) ((0 : Int)))) c14)] 6 rfl rfl ?_
  refine LP_end _ rfl ?_
  refine W_seq ?_
  refine W_seq ?_
  refine W_region ?_
  refine LP_ev ok 0 [(13, .slice a (List.length shares) c), (14, I (ln shares)), (15, I 0)] 3 rfl rfl ?_
  refine LP_end _ rfl ?_
  refine W_block ?_
  obtain ⟨J, m27, Hx, H⟩ := H
  have X28 := (X.stepx x11)
  have f29 := f.mono X.size
  have ex30 := (ex.ext x11)
  refine W_loop (S := (List Int) × Int) (fun s ρ' w' => J s.1 s.2 ∧ ∃ (ρ : Env) (vx15 : Value) (hx16 : PH), ρ' = setAll [(0, I m), (5, vx15), (13, .slice a (List.length shares) c), (14, I (ln shares)), (15, I s.2)] ρ ∧ But emp w w' ∧ OS 3 hx16 emp vx15 s.1 ∧ Sub hx16 w' ∧ Fresh w.heap.size hx16 ∧ Sub hx w' ∧ Dj hx16 hx) (fun s => m27 s.1 s.2) (List.replicate (Int.toNat (ln x)) ((0 : Int)), 0) ⟨Hx, _, .slice a13 (List.length (List.replicate (Int.toNat (ln x)) ((0 : Int)))) c14, hx9, env_eq ⟨rfl, rfl, rfl, rfl, rfl, trivial⟩, X28, o, ex12, f29, ex30, (Dj.of_fresh ex f).symm⟩ ?_
  rintro ⟨out, x20⟩ _ wx21 ⟨Hi, ρ, vx15, hx16, rfl, X26, o17, ex18, f19, ex22, d25⟩
  have H := H out x20 Hi
  obtain ⟨a23, c24, rfl⟩ := o17.shape
  refine W_seq ?_
  refine W_region ?_
  refine LP_ev ok 0 [(16, .bool (decide (x20 < (ln shares))))] 1 rfl rfl ?_
  refine LP_end _ rfl ?_
  refine W_seq ?_
  refine W_cond (decide (x20 < (ln shares))) rfl (fun hc => ?_) (fun hc => ?_)
  · have H := H.1 hc
    refine W_skip ?_
    refine W_seq ?_
    refine W_block ?_
    refine W_seq ?_
    refine W_region ?_
    obtain ⟨x31, hi32, hx33, H⟩ := H
    refine LP_index 0 rfl rfl rfl Try.underlying49 ti_22 rfl rfl r hi32 hx33 fun a34 cs35 r36 d37 => ?_
    refine LP_load 1 rfl rfl rfl ti_22 ag_22 rfl r36 d37 ex22 fun vx38 r39 => ?_
    have r42 := r39.slice
    obtain ⟨a40, c41, rfl⟩ := r42.shape
    refine LP_ev ok 2 [(7, .slice a40 (List.length x31) c41)] 3 rfl rfl ?_
    refine LP_end _ rfl ?_
    refine W_region ?_
    refine LP_ev ok 0 [(19, .slice a23 (List.length out) c24), (20, .slice a40 (List.length x31) c41), (21, I m)] 3 rfl rfl ?_
    refine LP_call 3 rfl rfl rfl cal_128 rfl (spec_zeAdd_w _ _ _ _ _ H wx21 o17.readf ex18 r42 ex22) ?_
    rintro _ wx44 ⟨r43, vx46, hx47, H, rfl, x45, o48, ex49, f50⟩
    obtain ⟨a51, c52, rfl⟩ := o48.shape
    refine LP_ev ok 4 [(5, .slice a51 (List.length r43) c52)] 5 rfl rfl ?_
    refine LP_end _ rfl ?_
    refine W_region ?_
    refine LP_ev ok 0 [(23, I (wr (x20 + 1))), (15, I (wr (x20 + 1)))] 2 rfl rfl ?_
    refine LP_end _ rfl ?_
    have X53 := (X26.stepx x45)
    have f54 := f50.mono X26.size
    have ex55 := (ex22.ext x45)
    exact ⟨(r43, wr (x20 + 1)), ⟨H.1, _, .slice a51 (List.length r43) c52, hx47, env_eq ⟨rfl, rfl, rfl, rfl, rfl, trivial⟩, X53, o48, ex49, f54, ex55, (Dj.of_fresh ex22 f50).symm⟩, H.2⟩
  have H := H.2 hc
  refine W_exit ?_
  refine (if_pos rfl).mpr ?_
  refine W_seq ?_
  refine W_region ?_
  refine LP_ev ok 0 [(24, .slice a23 (List.length out) c24), (4, .slice a23 (List.length out) c24)] 2 rfl rfl ?_
  refine LP_end _ rfl ?_
  refine W_ret ?_
  exact ⟨_, Ret_of [.slice a23 (List.length out) c24] ⟨⟨rfl, rfl⟩, trivial⟩, _, _, _, H, rfl, X26.ext, o17, ex18, f19⟩

set_option maxRecDepth 8000 in
set_option maxHeartbeats 4000000 in
theorem spec_SumOfShares_w (m : Int) (shares : List (List Int)) (Q : (List Int) → Bool → Prop) (H : spec_SumOfShares m shares Q) (w : World) {vx : Value} {hx : PH} (r : RS hx vx shares) (ex : Sub hx w) :
    CallsTo Try.prog 40 #[I m, vx] w fun v w' => ∃ r0 r1 u0 g0, Q r0 r1 ∧ v = .tuple #[u0, .bool r1] ∧ Ext w w' ∧ OS 3 g0 emp u0 r0 ∧ Sub g0 w' ∧ Fresh w.heap.size g0 := by
  obtain ⟨a, c, rfl⟩ := r.shape
  refine enter (args := [I m, .slice a (List.length shares) c]) 13 Try.func40 rfl rfl rfl ?_
  refine W_forget [(0, I m), (1, .slice a (List.length shares) c)] ⟨rfl, rfl, trivial⟩ fun ρ => ?_
  have X := But.refl emp w
  refine W_seq ?_
  refine W_region ?_
  refine LP_ev ok 0 [(4, .slice none 0 0), (5, .bool false)] 2 rfl rfl ?_
  refine LP_end _ rfl ?_
  refine W_seq ?_
  refine W_seq ?_
  refine W_region ?_
  refine LP_ev ok 0 [(6, I m), (7, .slice a (List.length shares) c)] 2 rfl rfl ?_
  refine LP_call 2 rfl rfl rfl cal_103 rfl (spec_zeShares_w _ _ _ H w r ex) ?_
  rintro _ wx ⟨r1, H, rfl, x⟩
  refine LP_ev ok 3 [(9, .bool (!r1))] 4 rfl rfl ?_
  refine LP_end _ rfl ?_
  refine W_cond (!r1) rfl (fun hc => ?_) (fun hc => ?_)
  · have H := H.1 hc
    refine W_seq ?_
    refine W_region ?_
    refine LP_ev ok 0 [(4, .slice none 0 0), (5, .bool false)] 2 rfl rfl ?_
    refine LP_end _ rfl ?_
    refine W_ret ?_
    have X2 := (X.stepx x)
    exact ⟨_, Ret_of [.slice none 0 0, .bool false] ⟨⟨rfl, rfl⟩, ⟨rfl, rfl⟩, trivial⟩, _, _, _, emp, H, rfl, X2.ext, OS.nil, (emp_sub _), (emp_fresh _)⟩
  have H := H.2 hc
  refine W_skip ?_
  refine W_seq ?_
  refine W_region ?_
  refine LP_ev ok 0 [(10, I m), (11, .slice a (List.length shares) c)] 2 rfl rfl ?_
  have ex4 := (ex.ext x)
  refine LP_call 2 rfl rfl rfl cal_104 rfl (spec_zeSum_w _ _ _ H wx r ex4) ?_
  rintro _ wx5 ⟨r3, vx7, hx8, H, rfl, x6, o, ex9, f⟩
  obtain ⟨a10, c11, rfl⟩ := o.shape
  refine LP_ev ok 3 [(4, .slice a10 (List.length r3) c11), (5, .bool true)] 5 rfl rfl ?_
  refine LP_end _ rfl ?_
  refine W_ret ?_
  have X13 := (X.stepx x)
  have f12 := f.mono X13.size
  have X14 := (X13.stepx x6)
  exact ⟨_, Ret_of [.slice a10 (List.length r3) c11, .bool true] ⟨⟨rfl, rfl⟩, ⟨rfl, rfl⟩, trivial⟩, _, _, _, _, H, rfl, X14.ext, o, ex9, f12⟩

set_option maxRecDepth 8000 in
set_option maxHeartbeats 4000000 in
theorem impl_areShares_w (m : Int) (shares : List (List Int)) (Q : Bool → Prop) (H : impl_areShares m shares Q) (w : World) {vx : Value} {hx : PH} (r : RS hx vx shares) (ex : Sub hx w) :
    CallsTo Try.prog 105 #[I m, vx] w fun v w' => ∃ r0, Q r0 ∧ v = .bool r0 ∧ Ext w w' := by
  obtain ⟨a, c, rfl⟩ := r.shape
  refine enter (args := [I m, .slice a (List.length shares) c]) 40 Try.func105 rfl rfl rfl ?_
  refine W_forget [(0, I m), (1, .slice a (List.length shares) c)] ⟨rfl, rfl, trivial⟩ fun ρ => ?_
  have X := But.refl emp w
  refine W_seq ?_
  refine W_region ?_
  refine LP_ev ok 0 [(4, .bool false)] 1 rfl rfl ?_
  refine LP_end _ rfl ?_
  refine W_seq ?_
  obtain ⟨k, hk, H⟩ := jn_elim H
  refine W_join2 (S := Bool) (fun s ρ' w' => k s ∧ ∃ (ρ : Env), ρ' = setAll [(0, I m), (1, .slice a (List.length shares) c), (19, .bool s)] ρ ∧ But emp w w' ∧ Sub hx w') ?_ ?_
  · refine W_region ?_
    refine LP_ev ok 0 [(7, I m)] 1 rfl rfl ?_
    refine LP_call 1 rfl rfl rfl cal_79 rfl (impl_isModulus_w _ _ H w ) ?_
    rintro _ wx4 ⟨r3, H, rfl, x5⟩
    refine LP_ev ok 2 [(9, .bool (!r3)), (10, .bool (!r3))] 4 rfl rfl ?_
    refine LP_split 10 (!r3) rfl (fun hc => ?_) (fun hc => ?_)
    · have H := H.1 hc
      refine LP_ev ok 4 [(11, undef), (12, undef), (13, undef), (14, .bool true), (15, .bool true), (16, undef), (17, undef), (18, undef), (19, .bool true)] 13 rfl rfl ?_
      refine LP_end _ rfl ?_
      have X6 := (X.stepx x5)
      have ex7 := (ex.ext x5)
      exact ⟨true, H, _, env_eq ⟨rfl, rfl, rfl, trivial⟩, X6, ex7⟩
    have H := H.2 hc
    refine LP_ev ok 4 [(11, .slice a (List.length shares) c), (12, I (ln shares)), (13, .bool (decide ((ln shares) < 1))), (14, .bool (decide ((ln shares) < 1))), (15, .bool (decide ((ln shares) < 1)))] 9 rfl rfl ?_
    refine LP_split 15 (decide ((ln shares) < 1)) rfl (fun hc8 => ?_) (fun hc8 => ?_)
    · have H := H.1 hc8
      refine LP_ev ok 9 [(16, undef), (17, undef), (18, undef), (19, .bool true)] 13 rfl rfl ?_
      refine LP_end _ rfl ?_
      have X9 := (X.stepx x5)
      have ex10 := (ex.ext x5)
      exact ⟨true, H, _, env_eq ⟨rfl, rfl, rfl, trivial⟩, X9, ex10⟩
    have H := H.2 hc8
    refine LP_ev ok 9 [(16, .slice a (List.length shares) c), (17, I (ln shares)), (18, .bool (decide ((ln shares) > 8))), (19, .bool (decide ((ln shares) > 8)))] 13 rfl rfl ?_
    refine LP_end _ rfl ?_
    have X11 := (X.stepx x5)
    have ex12 := (ex.ext x5)
    exact ⟨decide ((ln shares) > 8), H, _, env_eq ⟨rfl, rfl, rfl, trivial⟩, X11, ex12⟩
  rintro x _ wx ⟨H, ρ, rfl, X2, ex1⟩
  subst hk
  refine W_cond (x) rfl (fun hc13 => ?_) (fun hc13 => ?_)
  · have H := H.1 hc13
    refine W_seq ?_
    refine W_region ?_
    refine LP_ev ok 0 [(4, .bool false)] 1 rfl rfl ?_
    refine LP_end _ rfl ?_
    refine W_ret ?_
    exact ⟨_, Ret_of [.bool false] ⟨⟨rfl, rfl⟩, trivial⟩, _, H, rfl, X2.ext⟩
  have H := H.2 hc13
  refine W_skip ?_
  refine W_seq ?_
  refine W_seq ?_
  refine W_region ?_
  refine LP_ev ok 0 [(20, .slice a (List.length shares) c), (21, I (ln shares)), (22, I 0)] 3 rfl rfl ?_
  refine LP_end _ rfl ?_
  refine W_block ?_
  obtain ⟨J, m18, Hx, H⟩ := H
  refine W_loop (S := Int) (fun s ρ' w' => J s ∧ ∃ (ρ : Env), ρ' = setAll [(0, I m), (1, .slice a (List.length shares) c), (20, .slice a (List.length shares) c), (21, I (ln shares)), (22, I s)] ρ ∧ But emp w w' ∧ Sub hx w') (fun s => m18 s) 0 ⟨Hx, _, env_eq ⟨rfl, rfl, rfl, rfl, rfl, trivial⟩, X2, ex1⟩ ?_
  rintro x14 _ wx15 ⟨Hi, ρ, rfl, X17, ex16⟩
  have H := H x14 Hi
  refine W_seq ?_
  refine W_region ?_
  refine LP_ev ok 0 [(23, .bool (decide (x14 < (ln shares))))] 1 rfl rfl ?_
  refine LP_end _ rfl ?_
  refine W_seq ?_
  refine W_cond (decide (x14 < (ln shares))) rfl (fun hc19 => ?_) (fun hc19 => ?_)
  · have H := H.1 hc19
    refine W_skip ?_
    refine W_seq ?_
    refine W_block ?_
    refine W_seq ?_
    refine W_region ?_
    obtain ⟨x20, hi, hx21, H⟩ := H
    refine LP_index 0 rfl rfl rfl Try.underlying49 ti_22 rfl rfl r hi hx21 fun a22 cs r23 d => ?_
    refine LP_load 1 rfl rfl rfl ti_22 ag_22 rfl r23 d ex16 fun vx24 r25 => ?_
    have r28 := r25.slice
    obtain ⟨a26, c27, rfl⟩ := r28.shape
    refine LP_ev ok 2 [(6, .slice a26 (List.length x20) c27)] 3 rfl rfl ?_
    refine LP_end _ rfl ?_
    obtain ⟨k33, hk34, H⟩ := jn_elim H
    refine W_join2 (S := Bool) (fun s ρ' w' => k33 s ∧ ∃ (ρ : Env), ρ' = setAll [(0, I m), (1, .slice a (List.length shares) c), (20, .slice a (List.length shares) c), (21, I (ln shares)), (22, I x14), (38, .bool s)] ρ ∧ But emp w w' ∧ Sub hx w') ?_ ?_
    · refine W_region ?_
      refine LP_ev ok 0 [(26, .slice a26 (List.length x20) c27), (27, I (ln x20)), (28, .slice a (List.length shares) c)] 3 rfl rfl ?_
      obtain ⟨x35, hi36, hx37, H⟩ := H
      refine LP_index 3 rfl rfl rfl Try.underlying49 ti_22 rfl rfl r hi36 hx37 fun a38 cs39 r40 d41 => ?_
      refine LP_load 4 rfl rfl rfl ti_22 ag_22 rfl r40 d41 ex16 fun vx42 r43 => ?_
      have r46 := r43.slice
      obtain ⟨a44, c45, rfl⟩ := r46.shape
      refine LP_ev ok 5 [(31, I (ln x35)), (32, .bool ((ln x20) != (ln x35))), (33, .bool ((ln x20) != (ln x35)))] 8 rfl rfl ?_
      refine LP_split 33 ((ln x20) != (ln x35)) rfl (fun hc47 => ?_) (fun hc47 => ?_)
      · have H := H.1 hc47
        refine LP_ev ok 8 [(34, undef), (35, undef), (36, undef), (37, undef), (38, .bool true)] 13 rfl rfl ?_
        refine LP_end _ rfl ?_
        exact ⟨true, H, _, env_eq ⟨rfl, rfl, rfl, rfl, rfl, rfl, trivial⟩, X17, ex16⟩
      have H := H.2 hc47
      refine LP_ev ok 8 [(34, .slice a26 (List.length x20) c27), (35, I m)] 10 rfl rfl ?_
      refine LP_call 10 rfl rfl rfl cal_80 rfl (impl_areResidues_w _ _ _ H wx15 r28 ex16) ?_
      rintro _ wx49 ⟨r48, H, rfl, x50⟩
      refine LP_ev ok 11 [(37, .bool (!r48)), (38, .bool (!r48))] 13 rfl rfl ?_
      refine LP_end _ rfl ?_
      have X51 := (X17.stepx x50)
      have ex52 := (ex16.ext x50)
      exact ⟨!r48, H, _, env_eq ⟨rfl, rfl, rfl, rfl, rfl, rfl, trivial⟩, X51, ex52⟩
    rintro x29 _ wx30 ⟨H, ρ, rfl, X32, ex31⟩
    subst hk34
    refine W_cond (x29) rfl (fun hc53 => ?_) (fun hc53 => ?_)
    · have H := H.1 hc53
      refine W_seq ?_
      refine W_region ?_
      refine LP_ev ok 0 [(4, .bool false)] 1 rfl rfl ?_
      refine LP_end _ rfl ?_
      refine W_ret ?_
      exact ⟨_, Ret_of [.bool false] ⟨⟨rfl, rfl⟩, trivial⟩, _, H, rfl, X32.ext⟩
    have H := H.2 hc53
    refine W_skip ?_
    refine W_region ?_
    refine LP_ev ok 0 [(39, I (wr (x14 + 1))), (22, I (wr (x14 + 1)))] 2 rfl rfl ?_
    refine LP_end _ rfl ?_
    exact ⟨wr (x14 + 1), ⟨H.1, _, env_eq ⟨rfl, rfl, rfl, rfl, rfl, trivial⟩, X32, ex31⟩, H.2⟩
  have H := H.2 hc19
  refine W_exit ?_
  refine (if_pos rfl).mpr ?_
  refine W_seq ?_
  refine W_region ?_
  refine LP_ev ok 0 [(4, .bool true)] 1 rfl rfl ?_
  refine LP_end _ rfl ?_
  refine W_ret ?_
  exact ⟨_, Ret_of [.bool true] ⟨⟨rfl, rfl⟩, trivial⟩, _, H, rfl, X17.ext⟩

set_option maxRecDepth 8000 in
set_option maxHeartbeats 4000000 in
theorem impl_combine_w (sum : List Int) (l : List Int) (sign : Int) (m : Int) (Q : (List Int) → Prop) (H : impl_combine sum l sign m Q) (w : World) {vx : Value} {hx : PH} (r : OS 3 hx emp vx sum) (ex : Sub hx w) {vx1 : Value} {hx2 : PH} (r3 : RS hx2 vx1 l) (ex4 : Sub hx2 w) (d : Dj hx hx2) :
    CallsTo Try.prog 129 #[vx, vx1, I sign, I m] w fun v w' => ∃ m0 g0, Q m0 ∧ v = .tuple #[] ∧ But hx w w' ∧ OS 3 g0 emp vx m0 ∧ Sub g0 w' ∧ (∀ n, DomLe hx n g0) := by
  obtain ⟨a, c, rfl⟩ := r.shape
  obtain ⟨a5, c6, rfl⟩ := r3.shape
  refine enter (args := [.slice a (List.length sum) c, .slice a5 (List.length l) c6, I sign, I m]) 33 Try.func129 rfl rfl rfl ?_
  refine W_forget [(0, .slice a (List.length sum) c), (1, .slice a5 (List.length l) c6), (2, I sign), (3, I m)] ⟨rfl, rfl, rfl, rfl, trivial⟩ fun ρ => ?_
  have X := But.refl hx w
  refine W_seq ?_
  refine W_region ?_
  refine LP_ev ok 0 [(10, .slice a5 (List.length l) c6), (11, I (ln l)), (12, I 0)] 3 rfl rfl ?_
  refine LP_end _ rfl ?_
  refine W_block ?_
  obtain ⟨J, m14, Hx, H⟩ := H
  refine W_loop (S := (List Int) × Int) (fun s ρ' w' => J s.1 s.2 ∧ ∃ (ρ : Env) (hx9 : PH), ρ' = setAll [(0, .slice a (List.length sum) c), (2, I sign), (3, I m), (10, .slice a5 (List.length l) c6), (11, I (ln l)), (12, I s.2)] ρ ∧ But hx w w' ∧ OS 3 hx9 emp (.slice a (List.length sum) c) s.1 ∧ Sub hx9 w' ∧ (∀ n, DomLe hx n hx9) ∧ Sub hx2 w' ∧ Dj hx9 hx2) (fun s => m14 s.1 s.2) (sum, 0) ⟨Hx, _, hx, env_eq ⟨rfl, rfl, rfl, rfl, rfl, rfl, trivial⟩, X, r, ex, (fun _ => DomLe.refl _ _), ex4, d⟩ ?_
  rintro ⟨sum7, x⟩ _ wx ⟨Hi, ρ, hx9, rfl, X13, o, ex10, f, ex11, d12⟩
  have H := H sum7 x Hi
  refine W_seq ?_
  refine W_region ?_
  refine LP_ev ok 0 [(13, .bool (decide (x < (ln l))))] 1 rfl rfl ?_
  refine LP_end _ rfl ?_
  refine W_seq ?_
  refine W_cond (decide (x < (ln l))) rfl (fun hc => ?_) (fun hc => ?_)
  · have H := H.1 hc
    refine W_skip ?_
    refine W_seq ?_
    refine W_block ?_
    refine W_seq ?_
    refine W_region ?_
    refine LP_ev ok 0 [(14, I x)] 1 rfl rfl ?_
    obtain ⟨x15, hi, hx16, H⟩ := H
    refine LP_index 1 rfl rfl rfl Try.underlying22 ti_3 rfl rfl r3 hi hx16 fun a17 cs r18 d19 => ?_
    refine LP_load 2 rfl rfl rfl ti_3 ag_3 rfl r18 d19 ex11 fun vx20 r21 => ?_
    obtain rfl := r21.int
    refine LP_ev ok 3 [(8, I x), (9, I x15)] 5 rfl rfl ?_
    refine LP_end _ rfl ?_
    refine W_region ?_
    refine LP_ev ok 0 [(17, .slice a (List.length sum) c), (18, I x), (19, .slice a (List.length sum) c), (20, I x)] 4 rfl rfl ?_
    obtain ⟨x22, hi23, hx24, H⟩ := H
    refine LP_index 4 rfl rfl rfl Try.underlying22 ti_3 rfl rfl o.readf hi23 hx24 fun a25 cs26 r27 d28 => ?_
    refine LP_load 5 rfl rfl rfl ti_3 ag_3 rfl r27 d28 ex10 fun vx29 r30 => ?_
    obtain rfl := r30.int
    refine LP_ev ok 6 [(23, I sign), (24, I x15), (25, I (wr (sign * x15))), (26, I (wr (x22 + (wr (sign * x15))))), (27, I m), (28, I (wr ((wr (x22 + (wr (sign * x15)))) + m))), (29, I m)] 13 rfl rfl ?_
    obtain ⟨hz, H⟩ := H
    refine LP_val 13 _ rfl rfl (ex_rem rfl rfl rfl hz _) ?_
    obtain ⟨hi31, hl, H⟩ := H
    refine LP_indexw 14 rfl rfl rfl Try.underlying22 ti_3 rfl rfl o hi31 hl fun a32 wa => ?_
    refine LP_set 15 rfl rfl rfl rfl rfl wa (Le.refl emp) ⟨_, rfl, rfl⟩ ex10 fun hx33 wx34 o35 ex36 y dm => ?_
    refine LP_end _ rfl ?_
    refine W_region ?_
    refine LP_ev ok 0 [(32, I (wr (x + 1))), (12, I (wr (x + 1)))] 2 rfl rfl ?_
    refine LP_end _ rfl ?_
    have X37 := (X13.step y (f _))
    have ex38 := (ex11.but y d12)
    exact ⟨(List.set sum7 (Int.toNat x) (Int.tmod (wr ((wr (x22 + (wr (sign * x15)))) + m)) m), wr (x + 1)), ⟨H.1, _, hx33, env_eq ⟨rfl, rfl, rfl, rfl, rfl, rfl, trivial⟩, X37, o35, ex36, (fun _ => DomLe.trans (f _) ((dm _)) (Nat.le_refl _)), ex38, (DomLe.dj (dm _) d12 ex11)⟩, H.2⟩
  have H := H.2 hc
  refine W_exit ?_
  refine (if_pos rfl).mpr ?_
  exact ⟨_, Ret_of [] trivial, _, _, H, rfl, X13, o, ex10, (fun _ => f _)⟩

set_option maxRecDepth 8000 in
set_option maxHeartbeats 4000000 in
theorem impl_sumOfShares_w (m : Int) (shares : List (List Int)) (Q : (List Int) → Prop) (H : impl_sumOfShares m shares Q) (w : World) {vx : Value} {hx : PH} (r : RS hx vx shares) (ex : Sub hx w) :
    CallsTo Try.prog 106 #[I m, vx] w fun v w' => ∃ r0 u0 g0, Q r0 ∧ v = u0 ∧ Ext w w' ∧ OS 3 g0 emp u0 r0 ∧ Sub g0 w' ∧ Fresh w.heap.size g0 := by
  obtain ⟨a, c, rfl⟩ := r.shape
  refine enter (args := [I m, .slice a (List.length shares) c]) 25 Try.func106 rfl rfl rfl ?_
  refine W_forget [(0, I m), (1, .slice a (List.length shares) c)] ⟨rfl, rfl, trivial⟩ fun ρ => ?_
  have X := But.refl emp w
  refine W_seq ?_
  refine W_region ?_
  refine LP_ev ok 0 [(4, .slice none 0 0)] 1 rfl rfl ?_
  refine LP_end _ rfl ?_
  refine W_seq ?_
  refine W_region ?_
  refine LP_ev ok 0 [(8, .slice a (List.length shares) c)] 1 rfl rfl ?_
  obtain ⟨x, hi, hx1, H⟩ := H
  refine LP_index 1 rfl rfl rfl Try.underlying49 ti_22 rfl rfl r hi hx1 fun a2 cs r3 d => ?_
  refine LP_load 2 rfl rfl rfl ti_22 ag_22 rfl r3 d ex fun vx4 r5 => ?_
  have r8 := r5.slice
  obtain ⟨a6, c7, rfl⟩ := r8.shape
  refine LP_ev ok 3 [(11, I (ln x))] 4 rfl rfl ?_
  obtain ⟨hn, hb, H⟩ := H
  refine LP_make (α := Int) 4 rfl rfl rfl Try.underlying22 ti_3 (x0 := (0 : Int)) rfl rfl hn (by first | omega | (simp only [ln] at *; omega)) (by first | omega | (simp only [ln] at *; omega)) fun hx9 vx10 wx x11 o ex12 f => ?_
  obtain ⟨a13, c14, rfl⟩ := o.shape
  refine LP_ev ok 5 [(5, .slice a13 (List.length (List.replicate (Int.toNat (ln x)) ((0 : Int)))) c14)] 6 rfl rfl ?_
  refine LP_end _ rfl ?_
  refine W_seq ?_
  refine W_seq ?_
  refine W_region ?_
  refine LP_ev ok 0 [(13, .slice a (List.length shares) c), (14, I (ln shares)), (15, I 0)] 3 rfl rfl ?_
  refine LP_end _ rfl ?_
  refine W_block ?_
  obtain ⟨J, m25, Hx, H⟩ := H
  have X26 := (X.stepx x11)
  have f27 := f.mono X.size
  have ex28 := (ex.ext x11)
  refine W_loop (S := (List Int) × Int) (fun s ρ' w' => J s.1 s.2 ∧ ∃ (ρ : Env) (hx16 : PH), ρ' = setAll [(0, I m), (5, .slice a13 (List.length (List.replicate (Int.toNat (ln x)) ((0 : Int)))) c14), (13, .slice a (List.length shares) c), (14, I (ln shares)), (15, I s.2)] ρ ∧ But emp w w' ∧ OS 3 hx16 emp (.slice a13 (List.length (List.replicate (Int.toNat (ln x)) ((0 : Int)))) c14) s.1 ∧ Sub hx16 w' ∧ Fresh w.heap.size hx16 ∧ Sub hx w' ∧ Dj hx16 hx) (fun s => m25 s.1 s.2) (List.replicate (Int.toNat (ln x)) ((0 : Int)), 0) ⟨Hx, _, hx9, env_eq ⟨rfl, rfl, rfl, rfl, rfl, trivial⟩, X26, o, ex12, f27, ex28, (Dj.of_fresh ex f).symm⟩ ?_
  rintro ⟨out, x20⟩ _ wx21 ⟨Hi, ρ, hx16, rfl, X24, o17, ex18, f19, ex22, d23⟩
  have H := H out x20 Hi
  refine W_seq ?_
  refine W_region ?_
  refine LP_ev ok 0 [(16, .bool (decide (x20 < (ln shares))))] 1 rfl rfl ?_
  refine LP_end _ rfl ?_
  refine W_seq ?_
  refine W_cond (decide (x20 < (ln shares))) rfl (fun hc => ?_) (fun hc => ?_)
  · have H := H.1 hc
    refine W_skip ?_
    refine W_seq ?_
    refine W_block ?_
    refine W_seq ?_
    refine W_region ?_
    obtain ⟨x29, hi30, hx31, H⟩ := H
    refine LP_index 0 rfl rfl rfl Try.underlying49 ti_22 rfl rfl r hi30 hx31 fun a32 cs33 r34 d35 => ?_
    refine LP_load 1 rfl rfl rfl ti_22 ag_22 rfl r34 d35 ex22 fun vx36 r37 => ?_
    have r40 := r37.slice
    obtain ⟨a38, c39, rfl⟩ := r40.shape
    refine LP_ev ok 2 [(7, .slice a38 (List.length x29) c39)] 3 rfl rfl ?_
    refine LP_end _ rfl ?_
    refine W_region ?_
    refine LP_ev ok 0 [(19, .slice a13 (List.length (List.replicate (Int.toNat (ln x)) ((0 : Int)))) c14), (20, .slice a38 (List.length x29) c39), (21, I m)] 3 rfl rfl ?_
    refine LP_call 3 rfl rfl rfl cal_129 rfl (impl_combine_w _ _ _ _ _ H wx21 o17 ex18 r40 ex22 d23) ?_
    rintro _ wx42 ⟨r41, hx44, H, rfl, x43, o45, ex46, dm⟩
    refine LP_end _ rfl ?_
    refine W_region ?_
    refine LP_ev ok 0 [(23, I (wr (x20 + 1))), (15, I (wr (x20 + 1)))] 2 rfl rfl ?_
    refine LP_end _ rfl ?_
    have X49 := (X24.step x43 (f19.dom _))
    have f50 := (dm _).fresh f19 X24.size
    have ex51 := (ex22.but x43 d23)
    exact ⟨(r41, wr (x20 + 1)), ⟨H.1, _, hx44, env_eq ⟨rfl, rfl, rfl, rfl, rfl, trivial⟩, X49, o45, ex46, f50, ex51, (DomLe.dj (dm _) d23 ex22)⟩, H.2⟩
  have H := H.2 hc
  refine W_exit ?_
  refine (if_pos rfl).mpr ?_
  refine W_seq ?_
  refine W_region ?_
  refine LP_ev ok 0 [(24, .slice a13 (List.length (List.replicate (Int.toNat (ln x)) ((0 : Int)))) c14), (4, .slice a13 (List.length (List.replicate (Int.toNat (ln x)) ((0 : Int)))) c14)] 2 rfl rfl ?_
  refine LP_end _ rfl ?_
  refine W_ret ?_
  exact ⟨_, Ret_of [.slice a13 (List.length (List.replicate (Int.toNat (ln x)) ((0 : Int)))) c14] ⟨⟨rfl, rfl⟩, trivial⟩, _, _, _, H, rfl, X24.ext, o17, ex18, f19⟩

set_option maxRecDepth 8000 in
set_option maxHeartbeats 4000000 in
theorem impl_SumOfShares_w (m : Int) (shares : List (List Int)) (Q : (List Int) → Bool → Prop) (H : impl_SumOfShares m shares Q) (w : World) {vx : Value} {hx : PH} (r : RS hx vx shares) (ex : Sub hx w) :
    CallsTo Try.prog 42 #[I m, vx] w fun v w' => ∃ r0 r1 u0 g0, Q r0 r1 ∧ v = .tuple #[u0, .bool r1] ∧ Ext w w' ∧ OS 3 g0 emp u0 r0 ∧ Sub g0 w' ∧ Fresh w.heap.size g0 := by
  obtain ⟨a, c, rfl⟩ := r.shape
  refine enter (args := [I m, .slice a (List.length shares) c]) 13 Try.func42 rfl rfl rfl ?_
  refine W_forget [(0, I m), (1, .slice a (List.length shares) c)] ⟨rfl, rfl, trivial⟩ fun ρ => ?_
  have X := But.refl emp w
  refine W_seq ?_
  refine W_region ?_
  refine LP_ev ok 0 [(4, .slice none 0 0), (5, .bool false)] 2 rfl rfl ?_
  refine LP_end _ rfl ?_
  refine W_seq ?_
  refine W_seq ?_
  refine W_region ?_
  refine LP_ev ok 0 [(6, I m), (7, .slice a (List.length shares) c)] 2 rfl rfl ?_
  refine LP_call 2 rfl rfl rfl cal_105 rfl (impl_areShares_w _ _ _ H w r ex) ?_
  rintro _ wx ⟨r1, H, rfl, x⟩
  refine LP_ev ok 3 [(9, .bool (!r1))] 4 rfl rfl ?_
  refine LP_end _ rfl ?_
  refine W_cond (!r1) rfl (fun hc => ?_) (fun hc => ?_)
  · have H := H.1 hc
    refine W_seq ?_
    refine W_region ?_
    refine LP_ev ok 0 [(4, .slice none 0 0), (5, .bool false)] 2 rfl rfl ?_
    refine LP_end _ rfl ?_
    refine W_ret ?_
    have X2 := (X.stepx x)
    exact ⟨_, Ret_of [.slice none 0 0, .bool false] ⟨⟨rfl, rfl⟩, ⟨rfl, rfl⟩, trivial⟩, _, _, _, emp, H, rfl, X2.ext, OS.nil, (emp_sub _), (emp_fresh _)⟩
  have H := H.2 hc
  refine W_skip ?_
  refine W_seq ?_
  refine W_region ?_
  refine LP_ev ok 0 [(10, I m), (11, .slice a (List.length shares) c)] 2 rfl rfl ?_
  have ex4 := (ex.ext x)
  refine LP_call 2 rfl rfl rfl cal_106 rfl (impl_sumOfShares_w _ _ _ H wx r ex4) ?_
  rintro _ wx5 ⟨r3, vx7, hx8, H, rfl, x6, o, ex9, f⟩
  obtain ⟨a10, c11, rfl⟩ := o.shape
  refine LP_ev ok 3 [(4, .slice a10 (List.length r3) c11), (5, .bool true)] 5 rfl rfl ?_
  refine LP_end _ rfl ?_
  refine W_ret ?_
  have X13 := (X.stepx x)
  have f12 := f.mono X13.size
  have X14 := (X13.stepx x6)
  exact ⟨_, Ret_of [.slice a10 (List.length r3) c11, .bool true] ⟨⟨rfl, rfl⟩, ⟨rfl, rfl⟩, trivial⟩, _, _, _, _, H, rfl, X14.ext, o, ex9, f12⟩

set_option maxRecDepth 8000 in
set_option maxHeartbeats 4000000 in
theorem laws_eqIntSS_w (a : List (List Int)) (b : List (List Int)) (Q : Bool → Prop) (H : laws_eqIntSS a b Q) (w : World) {vx : Value} {hx : PH} (r : RS hx vx a) (ex : Sub hx w) {vx2 : Value} {hx3 : PH} (r4 : RS hx3 vx2 b) (ex5 : Sub hx3 w) :
    CallsTo Try.prog 43 #[vx, vx2] w fun v w' => ∃ r0, Q r0 ∧ v = .bool r0 ∧ Ext w w' := by
  obtain ⟨a1, c, rfl⟩ := r.shape
  obtain ⟨a6, c7, rfl⟩ := r4.shape
  refine enter (args := [.slice a1 (List.length a) c, .slice a6 (List.length b) c7]) 27 Try.func43 rfl rfl rfl ?_
  refine W_forget [(0, .slice a1 (List.length a) c), (1, .slice a6 (List.length b) c7)] ⟨rfl, rfl, trivial⟩ fun ρ => ?_
  have X := But.refl emp w
  refine W_seq ?_
  refine W_region ?_
  refine LP_ev ok 0 [(4, .bool false)] 1 rfl rfl ?_
  refine LP_end _ rfl ?_
  refine W_seq ?_
  refine W_seq ?_
  refine W_region ?_
  refine LP_ev ok 0 [(6, .slice a1 (List.length a) c), (7, I (ln a)), (8, .slice a6 (List.length b) c7), (9, I (ln b)), (10, .bool ((ln a) != (ln b)))] 5 rfl rfl ?_
  refine LP_end _ rfl ?_
  refine W_cond ((ln a) != (ln b)) rfl (fun hc => ?_) (fun hc => ?_)
  · have H := H.1 hc
    refine W_seq ?_
    refine W_region ?_
    refine LP_ev ok 0 [(4, .bool false)] 1 rfl rfl ?_
    refine LP_end _ rfl ?_
    refine W_ret ?_
    exact ⟨_, Ret_of [.bool false] ⟨⟨rfl, rfl⟩, trivial⟩, _, H, rfl, X.ext⟩
  have H := H.2 hc
  refine W_skip ?_
  refine W_seq ?_
  refine W_seq ?_
  refine W_region ?_
  refine LP_ev ok 0 [(5, I 0)] 1 rfl rfl ?_
  refine LP_end _ rfl ?_
  refine W_block ?_
  obtain ⟨J, m, Hx, H⟩ := H
  refine W_loop (S := Int) (fun s ρ' w' => J s ∧ ∃ (ρ : Env), ρ' = setAll [(0, .slice a1 (List.length a) c), (1, .slice a6 (List.length b) c7), (5, I s)] ρ ∧ But emp w w' ∧ Sub hx w' ∧ Sub hx3 w') (fun s => m s) 0 ⟨Hx, _, env_eq ⟨rfl, rfl, rfl, trivial⟩, X, ex, ex5⟩ ?_
  rintro i _ wx ⟨Hi, ρ, rfl, X10, ex8, ex9⟩
  have H := H i Hi
  refine W_seq ?_
  refine W_seq ?_
  refine W_region ?_
  refine LP_ev ok 0 [(11, I i), (12, .slice a1 (List.length a) c), (13, I (ln a)), (14, .bool (decide (i < (ln a))))] 4 rfl rfl ?_
  refine LP_end _ rfl ?_
  refine W_cond (decide (i < (ln a))) rfl (fun hc11 => ?_) (fun hc11 => ?_)
  · have H := H.1 hc11
    refine W_skip ?_
    refine W_seq ?_
    refine W_block ?_
    refine W_seq ?_
    refine W_quiet mix (by kernel_rfl) ?_
    refine QP_ev ok 0 [(17, .slice a1 (List.length a) c), (18, I i)] 2 rfl rfl ?_
    obtain ⟨x, hi, hx12, H⟩ := H
    refine QP_index 2 rfl rfl rfl Try.underlying49 ti_22 rfl rfl r hi hx12 fun a13 cs r14 d => ?_
    refine QP_load 3 rfl rfl rfl ti_22 ag_22 rfl r14 d ex8 fun vx15 r16 => ?_
    have r19 := r16.slice
    obtain ⟨a17, c18, rfl⟩ := r19.shape
    refine QP_ev ok 4 [(21, .slice a6 (List.length b) c7), (22, I i)] 6 rfl rfl ?_
    obtain ⟨x20, hi21, hx22, H⟩ := H
    refine QP_index 6 rfl rfl rfl Try.underlying49 ti_22 rfl rfl r4 hi21 hx22 fun a23 cs24 r25 d26 => ?_
    refine QP_load 7 rfl rfl rfl ti_22 ag_22 rfl r25 d26 ex9 fun vx27 r28 => ?_
    have r31 := r28.slice
    obtain ⟨a29, c30, rfl⟩ := r31.shape
    obtain ⟨r32, Hd, H⟩ := H
    refine QP_call (.bool r32) 8 rfl rfl rfl cal_22 rfl (fun wx33 x34 => (laws_eqIntS_w _ _ _ Hd wx33 r19 (ex8.ext x34) r31 (ex9.ext x34)).mono ?_) ?_
    · rintro _ _ ⟨_, rfl, rfl, x⟩; exact ⟨rfl, x⟩
    refine QP_ev ok 9 [(26, .bool (!r32))] 10 rfl rfl ?_
    refine QP_end _ rfl fun wx35 x36 => ?_
    refine W_cond (!r32) rfl (fun hc37 => ?_) (fun hc37 => ?_)
    · have H := H.1 hc37
      refine W_seq ?_
      refine W_region ?_
      refine LP_ev ok 0 [(4, .bool false)] 1 rfl rfl ?_
      refine LP_end _ rfl ?_
      refine W_ret ?_
      have X38 := (X10.stepx x36)
      exact ⟨_, Ret_of [.bool false] ⟨⟨rfl, rfl⟩, trivial⟩, _, H, rfl, X38.ext⟩
    have H := H.2 hc37
    refine W_skip ?_
    refine W_region ?_
    refine LP_ev ok 0 [(15, I i), (16, I (wr (i + 1))), (5, I (wr (i + 1)))] 3 rfl rfl ?_
    refine LP_end _ rfl ?_
    have X39 := (X10.stepx x36)
    have ex40 := (ex8.ext x36)
    have ex41 := (ex9.ext x36)
    exact ⟨wr (i + 1), ⟨H.1, _, env_eq ⟨rfl, rfl, rfl, trivial⟩, X39, ex40, ex41⟩, H.2⟩
  have H := H.2 hc11
  refine W_exit ?_
  refine (if_pos rfl).mpr ?_
  refine W_seq ?_
  refine W_region ?_
  refine LP_ev ok 0 [(4, .bool true)] 1 rfl rfl ?_
  refine LP_end _ rfl ?_
  refine W_ret ?_
  exact ⟨_, Ret_of [.bool true] ⟨⟨rfl, rfl⟩, trivial⟩, _, H, rfl, X10.ext⟩

set_option maxRecDepth 8000 in
set_option maxHeartbeats 4000000 in
theorem laws_markIntSS_w (a : List (List Int)) (k : Int) (Q : Int → (List (List Int)) → Prop) (H : laws_markIntSS a k Q) (w : World) {vx : Value} {hx : PH} (r : OD hx vx a) (ex : Sub hx w) :
    CallsTo Try.prog 44 #[vx, I k] w fun v w' => ∃ r0 m0 g0, Q r0 m0 ∧ v = I r0 ∧ But hx w w' ∧ OD g0 vx m0 ∧ Sub g0 w' ∧ (∀ n, DomLe hx n g0) := by
  obtain ⟨a1, c, rfl⟩ := r.shape
  refine enter (args := [.slice a1 (List.length a) c, I k]) 19 Try.func44 rfl rfl rfl ?_
  refine W_forget [(0, .slice a1 (List.length a) c), (1, I k)] ⟨rfl, rfl, trivial⟩ fun ρ => ?_
  have X := But.refl hx w
  refine W_seq ?_
  refine W_region ?_
  refine LP_ev ok 0 [(4, I 0)] 1 rfl rfl ?_
  refine LP_end _ rfl ?_
  refine W_seq ?_
  refine W_seq ?_
  refine W_region ?_
  refine LP_ev ok 0 [(5, I 0)] 1 rfl rfl ?_
  refine LP_end _ rfl ?_
  refine W_block ?_
  obtain ⟨J, m, Hx, H⟩ := H
  refine W_loop (S := (List (List Int)) × Int × Int) (fun s ρ' w' => J s.1 s.2.1 s.2.2 ∧ ∃ (ρ : Env) (hx4 : PH), ρ' = setAll [(0, .slice a1 (List.length a) c), (1, I s.2.1), (5, I s.2.2)] ρ ∧ But hx w w' ∧ OD hx4 (.slice a1 (List.length a) c) s.1 ∧ Sub hx4 w' ∧ (∀ n, DomLe hx n hx4)) (fun s => m s.1 s.2.1 s.2.2) (a, k, 0) ⟨Hx, _, hx, env_eq ⟨rfl, rfl, rfl, trivial⟩, X, r, ex, (fun _ => DomLe.refl _ _)⟩ ?_
  rintro ⟨a2, k6, i⟩ _ wx ⟨Hi, ρ, hx4, rfl, X7, o, ex5, f⟩
  have H := H a2 k6 i Hi
  refine W_seq ?_
  refine W_seq ?_
  refine W_region ?_
  refine LP_ev ok 0 [(6, I i), (7, .slice a1 (List.length a) c), (8, I (ln a)), (9, .bool (decide (i < (ln a))))] 4 rfl rfl ?_
  refine LP_end _ rfl ?_
  refine W_cond (decide (i < (ln a))) rfl (fun hc => ?_) (fun hc => ?_)
  · have H := H.1 hc
    refine W_skip ?_
    refine W_seq ?_
    refine W_block ?_
    refine W_region ?_
    refine LP_ev ok 0 [(12, .slice a1 (List.length a) c), (13, I i)] 2 rfl rfl ?_
    obtain ⟨x, hi, hx8, H⟩ := H
    refine LP_indexb 2 rfl rfl rfl Try.underlying49 ti_22 rfl rfl o hi hx8 fun a9 u hx10 rest r11 bw => ?_
    refine LP_ldcell 3 rfl rfl rfl ti_22 ag_22 rfl r11 ex5 ?_
    have o14 := bw.od
    obtain ⟨a12, c13, rfl⟩ := o14.shape
    have ex15 := Sub.le ex5 bw.le
    have o16 : OS 3 hx10 emp (.slice a12 (List.length x) c13) x := OD.flat o14
    refine LP_ev ok 4 [(16, I k6)] 5 rfl rfl ?_
    refine LP_call 5 rfl rfl rfl cal_23 rfl (laws_markIntS_w _ _ _ H wx o16 ex15) ?_
    rintro _ wx19 ⟨r17, r18, hx21, H, rfl, x20, o22, ex23, dm⟩
    obtain ⟨bw24, o25, dd⟩ := BwL.turn bw (OS.od o22) (Dom.of dm)
    have ex26 := BwL.sub bw ex5 ex23 x20
    have y := BwL.but bw x20
    refine LP_ev ok 6 [(1, I r17)] 7 rfl rfl ?_
    refine LP_end _ rfl ?_
    refine W_region ?_
    refine LP_ev ok 0 [(10, I i), (11, I (wr (i + 1))), (5, I (wr (i + 1)))] 3 rfl rfl ?_
    refine LP_end _ rfl ?_
    have X29 := (X7.step y (f _))
    exact ⟨(List.set a2 (Int.toNat i) r18, r17, wr (i + 1)), ⟨H.1, _, (un hx21 rest), env_eq ⟨rfl, rfl, rfl, trivial⟩, X29, o25, ex26, (fun _ => DomLe.trans (f _) (((fun n => Dom.le dd n) _)) (Nat.le_refl _))⟩, H.2⟩
  have H := H.2 hc
  refine W_exit ?_
  refine (if_pos rfl).mpr ?_
  refine W_seq ?_
  refine W_region ?_
  refine LP_ev ok 0 [(18, I k6), (4, I k6)] 2 rfl rfl ?_
  refine LP_end _ rfl ?_
  refine W_ret ?_
  exact ⟨_, Ret_of [I k6] ⟨⟨rfl, rfl⟩, trivial⟩, _, _, _, H, rfl, X7, o, ex5, (fun _ => f _)⟩

set_option maxRecDepth 8000 in
set_option maxHeartbeats 4000000 in
theorem laws_FnExactSumOfShares_w (aM : Int) (aShares : List (List Int)) (Q : Bool → Prop) (H : laws_FnExactSumOfShares aM aShares Q) (w : World) {vx : Value} {hx : PH} (r : RS hx vx aShares) (ex : Sub hx w) :
    CallsTo Try.prog 8 #[I aM, vx] w fun v w' => ∃ r0, Q r0 ∧ v = .bool r0 ∧ Ext w w' := by
  obtain ⟨a, c, rfl⟩ := r.shape
  refine enter (args := [I aM, .slice a (List.length aShares) c]) 101 Try.func8 rfl rfl rfl ?_
  refine W_forget [(0, I aM), (1, .slice a (List.length aShares) c)] ⟨rfl, rfl, trivial⟩ fun ρ => ?_
  have X := But.refl emp w
  refine W_seq ?_
  refine W_region ?_
  refine LP_ev ok 0 [(4, .bool false)] 1 rfl rfl ?_
  refine LP_end _ rfl ?_
  refine W_seq ?_
  refine W_region ?_
  refine LP_ev ok 0 [(5, I 1048576)] 1 rfl rfl ?_
  refine LP_end _ rfl ?_
  refine W_seq ?_
  refine W_region ?_
  refine LP_ev ok 0 [(16, .slice a (List.length aShares) c), (17, I 1048576)] 2 rfl rfl ?_
  refine LP_call 2 rfl rfl rfl cal_39 rfl (laws_szIntSS_w _ _ _ H w r ex) ?_
  rintro _ wx ⟨r1, H, rfl, x⟩
  refine LP_ev ok 3 [(5, I r1)] 4 rfl rfl ?_
  refine LP_end _ rfl ?_
  refine W_seq ?_
  refine W_seq ?_
  refine W_region ?_
  refine LP_ev ok 0 [(19, I r1), (20, .bool (decide (r1 < 0)))] 2 rfl rfl ?_
  refine LP_end _ rfl ?_
  refine W_cond (decide (r1 < 0)) rfl (fun hc => ?_) (fun hc => ?_)
  · have H := H.1 hc
    refine W_seq ?_
    refine W_region ?_
    refine LP_ev ok 0 [(4, .bool true)] 1 rfl rfl ?_
    refine LP_end _ rfl ?_
    refine W_ret ?_
    have X2 := (X.stepx x)
    exact ⟨_, Ret_of [.bool true] ⟨⟨rfl, rfl⟩, trivial⟩, _, H, rfl, X2.ext⟩
  have H := H.2 hc
  refine W_skip ?_
  refine W_seq ?_
  refine W_region ?_
  refine LP_ev ok 0 [(22, I aM), (23, .slice a (List.length aShares) c)] 2 rfl rfl ?_
  have ex4 := (ex.ext x)
  refine LP_call 2 rfl rfl rfl cal_41 rfl (laws_toIntSS_w _ _ H wx r ex4) ?_
  rintro _ wx5 ⟨r3, vx7, hx8, H, rfl, x6, o, ex9, f⟩
  obtain ⟨a10, c11, rfl⟩ := o.shape
  refine LP_call 3 rfl rfl rfl cal_40 rfl (spec_SumOfShares_w _ _ _ H wx5 o.readf ex9) ?_
  rintro _ wx14 ⟨r12, r13, vx16, hx17, H, rfl, x15, o18, ex19, f20⟩
  obtain ⟨a21, c22, rfl⟩ := o18.shape
  refine LP_ev ok 4 [(21, .tuple #[.slice a21 (List.length r12) c22, .bool r13]), (26, .slice a21 (List.length r12) c22), (27, .bool r13), (6, .slice a21 (List.length r12) c22), (7, .bool r13)] 9 rfl rfl ?_
  refine LP_end _ rfl ?_
  refine W_seq ?_
  refine W_region ?_
  refine LP_ev ok 0 [(28, .slice a (List.length aShares) c)] 1 rfl rfl ?_
  have ex24 := ((ex4.ext x6).ext x15)
  refine LP_call 1 rfl rfl rfl cal_41 rfl (laws_toIntSS_w _ _ H wx14 r ex24) ?_
  rintro _ wx25 ⟨r23, vx27, hx28, H, rfl, x26, o29, ex30, f31⟩
  obtain ⟨a32, c33, rfl⟩ := o29.shape
  refine LP_ev ok 2 [(8, .slice a32 (List.length r23) c33)] 3 rfl rfl ?_
  refine LP_end _ rfl ?_
  refine W_seq ?_
  refine W_region ?_
  refine LP_ev ok 0 [(31, I aM), (32, .slice a32 (List.length r23) c33)] 2 rfl rfl ?_
  refine LP_call 2 rfl rfl rfl cal_42 rfl (impl_SumOfShares_w _ _ _ H wx25 o29.readf ex30) ?_
  rintro _ wx36 ⟨r34, r35, vx38, hx39, H, rfl, x37, o40, ex41, f42⟩
  obtain ⟨a43, c44, rfl⟩ := o40.shape
  refine LP_ev ok 3 [(30, .tuple #[.slice a43 (List.length r34) c44, .bool r35]), (34, .slice a43 (List.length r34) c44), (35, .bool r35), (9, .slice a43 (List.length r34) c44), (10, .bool r35)] 8 rfl rfl ?_
  refine LP_end _ rfl ?_
  try refine W_forget [(0, I aM), (1, .slice a (List.length aShares) c), (6, .slice a21 (List.length r12) c22), (7, .bool r13), (8, .slice a32 (List.length r23) c33), (9, .slice a43 (List.length r34) c44), (10, .bool r35)] ⟨rfl, rfl, rfl, rfl, rfl, rfl, rfl, trivial⟩ fun ρ => ?_
  refine W_seq ?_
  obtain ⟨k, hk, H⟩ := jn_elim H
  refine W_join2 (S := Bool) (fun s ρ' w' => k s ∧ ∃ (ρ : Env), ρ' = setAll [(0, I aM), (1, .slice a (List.length aShares) c), (6, .slice a21 (List.length r12) c22), (7, .bool r13), (8, .slice a32 (List.length r23) c33), (9, .slice a43 (List.length r34) c44), (10, .bool r35), (44, .bool s)] ρ ∧ But emp w w' ∧ Sub hx w' ∧ Sub hx17 w' ∧ Sub hx28 w' ∧ Sub hx39 w') ?_ ?_
  · refine W_region ?_
    refine LP_ev ok 0 [(36, .slice a43 (List.length r34) c44), (37, .slice a21 (List.length r12) c22)] 2 rfl rfl ?_
    have ex53 := ((ex19.ext x26).ext x37)
    refine LP_call 2 rfl rfl rfl cal_22 rfl (laws_eqIntS_w _ _ _ H wx36 o40.readf ex41 o18.readf ex53) ?_
    rintro _ wx54 ⟨r52, H, rfl, x55⟩
    refine LP_ev ok 3 [(39, .bool (!r52)), (40, .bool (!r52))] 5 rfl rfl ?_
    refine LP_split 40 (!r52) rfl (fun hc56 => ?_) (fun hc56 => ?_)
    · have H := H.1 hc56
      refine LP_ev ok 5 [(41, undef), (42, undef), (43, undef), (44, .bool true)] 9 rfl rfl ?_
      refine LP_end _ rfl ?_
      have X57 := ((((((X.stepx x).stepx x6).stepx x15).stepx x26).stepx x37).stepx x55)
      have ex58 := (((ex24.ext x26).ext x37).ext x55)
      have ex59 := (ex53.ext x55)
      have ex60 := ((ex30.ext x37).ext x55)
      have ex61 := (ex41.ext x55)
      exact ⟨true, H, _, env_eq ⟨rfl, rfl, rfl, rfl, rfl, rfl, rfl, rfl, trivial⟩, X57, ex58, ex59, ex60, ex61⟩
    have H := H.2 hc56
    refine LP_ev ok 5 [(41, .bool r35), (42, .bool r13), (43, .bool (r35 != r13)), (44, .bool (r35 != r13))] 9 rfl rfl ?_
    refine LP_end _ rfl ?_
    have X62 := ((((((X.stepx x).stepx x6).stepx x15).stepx x26).stepx x37).stepx x55)
    have ex63 := (((ex24.ext x26).ext x37).ext x55)
    have ex64 := (ex53.ext x55)
    have ex65 := ((ex30.ext x37).ext x55)
    have ex66 := (ex41.ext x55)
    exact ⟨r35 != r13, H, _, env_eq ⟨rfl, rfl, rfl, rfl, rfl, rfl, rfl, rfl, trivial⟩, X62, ex63, ex64, ex65, ex66⟩
  rintro x45 _ wx46 ⟨H, ρ, rfl, X51, ex47, ex48, ex49, ex50⟩
  subst hk
  refine W_cond (x45) rfl (fun hc67 => ?_) (fun hc67 => ?_)
  · have H := H.1 hc67
    refine W_seq ?_
    refine W_region ?_
    refine LP_ev ok 0 [(4, .bool false)] 1 rfl rfl ?_
    refine LP_end _ rfl ?_
    refine W_ret ?_
    exact ⟨_, Ret_of [.bool false] ⟨⟨rfl, rfl⟩, trivial⟩, _, H, rfl, X51.ext⟩
  have H := H.2 hc67
  refine W_skip ?_
  refine W_seq ?_
  refine W_seq ?_
  refine W_region ?_
  refine LP_ev ok 0 [(45, .slice a32 (List.length r23) c33), (46, .slice a (List.length aShares) c)] 2 rfl rfl ?_
  refine LP_call 2 rfl rfl rfl cal_41 rfl (laws_toIntSS_w _ _ H wx46 r ex47) ?_
  rintro _ wx69 ⟨r68, vx71, hx72, H, rfl, x70, o73, ex74, f75⟩
  obtain ⟨a76, c77, rfl⟩ := o73.shape
  have ex79 := (ex49.ext x70)
  refine LP_call 3 rfl rfl rfl cal_43 rfl (laws_eqIntSS_w _ _ _ H wx69 o29.readf ex79 o73.readf ex74) ?_
  rintro _ wx80 ⟨r78, H, rfl, x81⟩
  refine LP_ev ok 4 [(49, .bool (!r78))] 5 rfl rfl ?_
  refine LP_end _ rfl ?_
  refine W_cond (!r78) rfl (fun hc82 => ?_) (fun hc82 => ?_)
  · have H := H.1 hc82
    refine W_seq ?_
    refine W_region ?_
    refine LP_ev ok 0 [(4, .bool false)] 1 rfl rfl ?_
    refine LP_end _ rfl ?_
    refine W_ret ?_
    have X83 := ((X51.stepx x70).stepx x81)
    exact ⟨_, Ret_of [.bool false] ⟨⟨rfl, rfl⟩, trivial⟩, _, H, rfl, X83.ext⟩
  have H := H.2 hc82
  refine W_skip ?_
  refine W_seq ?_
  refine W_region ?_
  refine LP_ev ok 0 [(11, I 1)] 1 rfl rfl ?_
  refine LP_end _ rfl ?_
  refine W_seq ?_
  refine W_region ?_
  refine LP_ev ok 0 [(50, .slice a32 (List.length r23) c33), (51, I 1)] 2 rfl rfl ?_
  have ex86 := (ex79.ext x81)
  refine LP_call 2 rfl rfl rfl cal_44 rfl (laws_markIntSS_w _ _ _ H wx80 o29 ex86) ?_
  rintro _ wx87 ⟨r84, r85, hx89, H, rfl, x88, o90, ex91, dm⟩
  refine LP_ev ok 3 [(11, I r84)] 4 rfl rfl ?_
  refine LP_end _ rfl ?_
  refine W_seq ?_
  obtain ⟨k100, hk101, H⟩ := jn_elim H
  refine W_join2 (S := Bool) (fun s ρ' w' => k100 s ∧ ∃ (ρ : Env), ρ' = setAll [(0, I aM), (1, .slice a (List.length aShares) c), (6, .slice a21 (List.length r12) c22), (7, .bool r13), (9, .slice a43 (List.length r34) c44), (65, .bool s)] ρ ∧ But emp w w' ∧ Sub hx w' ∧ Sub hx17 w' ∧ Sub hx39 w') ?_ ?_
  · refine W_region ?_
    refine LP_ev ok 0 [(53, I r84), (54, .bool (decide (r84 < 0))), (55, .bool (decide (r84 < 0)))] 3 rfl rfl ?_
    refine LP_split 55 (decide (r84 < 0)) rfl (fun hc102 => ?_) (fun hc102 => ?_)
    · have H := H.1 hc102
      refine LP_ev ok 3 [(56, undef), (57, undef), (58, undef), (59, undef), (60, .bool true), (61, .bool true), (62, undef), (63, undef), (64, undef), (65, .bool true)] 13 rfl rfl ?_
      refine LP_end _ rfl ?_
      have X104 := (((X.stepx x).stepx x6).stepx x15)
      have f103 := f31.mono X104.size
      have X105 := (((X51.stepx x70).stepx x81).step x88 (f103.dom _))
      have ex106 := (((ex47.ext x70).ext x81).but x88 (Dj.of_fresh ex24 f31).symm)
      have ex107 := (((ex48.ext x70).ext x81).but x88 (Dj.of_fresh ex19 f31).symm)
      have ex108 := (((ex50.ext x70).ext x81).but x88 (Dj.of_fresh ex30 f42))
      exact ⟨true, H, _, env_eq ⟨rfl, rfl, rfl, rfl, rfl, rfl, trivial⟩, X105, ex106, ex107, ex108⟩
    have H := H.2 hc102
    refine LP_ev ok 3 [(56, .slice a43 (List.length r34) c44), (57, .slice a21 (List.length r12) c22)] 5 rfl rfl ?_
    have ex110 := (((ex50.ext x70).ext x81).but x88 (Dj.of_fresh ex30 f42))
    have ex111 := (((ex48.ext x70).ext x81).but x88 (Dj.of_fresh ex19 f31).symm)
    refine LP_call 5 rfl rfl rfl cal_22 rfl (laws_eqIntS_w _ _ _ H wx87 o40.readf ex110 o18.readf ex111) ?_
    rintro _ wx112 ⟨r109, H, rfl, x113⟩
    refine LP_ev ok 6 [(59, .bool (!r109)), (60, .bool (!r109)), (61, .bool (!r109))] 9 rfl rfl ?_
    refine LP_split 61 (!r109) rfl (fun hc114 => ?_) (fun hc114 => ?_)
    · have H := H.1 hc114
      refine LP_ev ok 9 [(62, undef), (63, undef), (64, undef), (65, .bool true)] 13 rfl rfl ?_
      refine LP_end _ rfl ?_
      have X116 := (((X.stepx x).stepx x6).stepx x15)
      have f115 := f31.mono X116.size
      have X117 := ((((X51.stepx x70).stepx x81).step x88 (f115.dom _)).stepx x113)
      have ex118 := ((((ex47.ext x70).ext x81).but x88 (Dj.of_fresh ex24 f31).symm).ext x113)
      have ex119 := (ex111.ext x113)
      have ex120 := (ex110.ext x113)
      exact ⟨true, H, _, env_eq ⟨rfl, rfl, rfl, rfl, rfl, rfl, trivial⟩, X117, ex118, ex119, ex120⟩
    have H := H.2 hc114
    refine LP_ev ok 9 [(62, .bool r35), (63, .bool r13), (64, .bool (r35 != r13)), (65, .bool (r35 != r13))] 13 rfl rfl ?_
    refine LP_end _ rfl ?_
    have X122 := (((X.stepx x).stepx x6).stepx x15)
    have f121 := f31.mono X122.size
    have X123 := ((((X51.stepx x70).stepx x81).step x88 (f121.dom _)).stepx x113)
    have ex124 := ((((ex47.ext x70).ext x81).but x88 (Dj.of_fresh ex24 f31).symm).ext x113)
    have ex125 := (ex111.ext x113)
    have ex126 := (ex110.ext x113)
    exact ⟨r35 != r13, H, _, env_eq ⟨rfl, rfl, rfl, rfl, rfl, rfl, trivial⟩, X123, ex124, ex125, ex126⟩
  rintro x94 _ wx95 ⟨H, ρ, rfl, X99, ex96, ex97, ex98⟩
  subst hk101
  refine W_cond (x94) rfl (fun hc127 => ?_) (fun hc127 => ?_)
  · have H := H.1 hc127
    refine W_seq ?_
    refine W_region ?_
    refine LP_ev ok 0 [(4, .bool false)] 1 rfl rfl ?_
    refine LP_end _ rfl ?_
    refine W_ret ?_
    exact ⟨_, Ret_of [.bool false] ⟨⟨rfl, rfl⟩, trivial⟩, _, H, rfl, X99.ext⟩
  have H := H.2 hc127
  refine W_skip ?_
  refine W_seq ?_
  refine W_region ?_
  refine LP_ev ok 0 [(12, I 1)] 1 rfl rfl ?_
  refine LP_end _ rfl ?_
  refine W_seq ?_
  refine W_region ?_
  refine LP_ev ok 0 [(66, .slice a43 (List.length r34) c44), (67, I 1)] 2 rfl rfl ?_
  refine LP_call 2 rfl rfl rfl cal_23 rfl (laws_markIntS_w _ _ _ H wx95 o40 ex98) ?_
  rintro _ wx130 ⟨r128, r129, hx132, H, rfl, x131, o133, ex134, dm135⟩
  refine LP_ev ok 3 [(12, I r128)] 4 rfl rfl ?_
  refine LP_end _ rfl ?_
  refine W_seq ?_
  refine W_region ?_
  refine LP_ev ok 0 [(13, I 1)] 1 rfl rfl ?_
  refine LP_end _ rfl ?_
  refine W_seq ?_
  refine W_region ?_
  refine LP_ev ok 0 [(69, .slice a43 (List.length r34) c44), (70, I 1)] 2 rfl rfl ?_
  refine LP_call 2 rfl rfl rfl cal_24 rfl (laws_heldIntS_w _ _ _ H wx130 o133.readf ex134) ?_
  rintro _ wx140 ⟨r139, H, rfl, x141⟩
  refine LP_ev ok 3 [(13, I r139)] 4 rfl rfl ?_
  refine LP_end _ rfl ?_
  refine W_seq ?_
  refine W_seq ?_
  refine W_region ?_
  refine LP_ev ok 0 [(72, I r139), (73, .bool (decide (r139 < 0)))] 2 rfl rfl ?_
  refine LP_end _ rfl ?_
  refine W_cond (decide (r139 < 0)) rfl (fun hc142 => ?_) (fun hc142 => ?_)
  · have H := H.1 hc142
    refine W_seq ?_
    refine W_region ?_
    refine LP_ev ok 0 [(4, .bool false)] 1 rfl rfl ?_
    refine LP_end _ rfl ?_
    refine W_ret ?_
    have X144 := ((((X.stepx x).stepx x6).stepx x15).stepx x26)
    have f143 := f42.mono X144.size
    have X145 := ((X99.step x131 (f143.dom _)).stepx x141)
    exact ⟨_, Ret_of [.bool false] ⟨⟨rfl, rfl⟩, trivial⟩, _, H, rfl, X145.ext⟩
  have H := H.2 hc142
  refine W_skip ?_
  refine W_seq ?_
  refine W_seq ?_
  refine W_region ?_
  refine LP_ev ok 0 [(74, I r139), (75, I r128), (76, .bool (r139 != r128))] 3 rfl rfl ?_
  refine LP_end _ rfl ?_
  refine W_cond (r139 != r128) rfl (fun hc146 => ?_) (fun hc146 => ?_)
  · have H := H.1 hc146
    refine W_seq ?_
    refine W_region ?_
    refine LP_ev ok 0 [(4, .bool false)] 1 rfl rfl ?_
    refine LP_end _ rfl ?_
    refine W_ret ?_
    have X148 := ((((X.stepx x).stepx x6).stepx x15).stepx x26)
    have f147 := f42.mono X148.size
    have X149 := ((X99.step x131 (f147.dom _)).stepx x141)
    exact ⟨_, Ret_of [.bool false] ⟨⟨rfl, rfl⟩, trivial⟩, _, H, rfl, X149.ext⟩
  have H := H.2 hc146
  refine W_skip ?_
  refine W_seq ?_
  refine W_region ?_
  refine LP_ev ok 0 [(78, I aM), (79, .slice a (List.length aShares) c)] 2 rfl rfl ?_
  have ex151 := (ex24.ext x26)
  have ex152 := ((ex96.but x131 (Dj.of_fresh ex151 f42).symm).ext x141)
  refine LP_call 2 rfl rfl rfl cal_41 rfl (laws_toIntSS_w _ _ H wx140 r ex152) ?_
  rintro _ wx153 ⟨r150, vx155, hx156, H, rfl, x154, o157, ex158, f159⟩
  obtain ⟨a160, c161, rfl⟩ := o157.shape
  refine LP_call 3 rfl rfl rfl cal_42 rfl (impl_SumOfShares_w _ _ _ H wx153 o157.readf ex158) ?_
  rintro _ wx164 ⟨r162, r163, vx166, hx167, H, rfl, x165, o168, ex169, f170⟩
  obtain ⟨a171, c172, rfl⟩ := o168.shape
  refine LP_ev ok 4 [(77, .tuple #[.slice a171 (List.length r162) c172, .bool r163]), (82, .slice a171 (List.length r162) c172), (83, .bool r163), (14, .slice a171 (List.length r162) c172), (15, .bool r163)] 9 rfl rfl ?_
  refine LP_end _ rfl ?_
  refine W_seq ?_
  obtain ⟨k177, hk178, H⟩ := jn_elim H
  refine W_join2 (S := Bool) (fun s ρ' w' => k177 s ∧ ∃ (ρ : Env), ρ' = setAll [(9, .slice a43 (List.length r34) c44), (12, I r128), (92, .bool s)] ρ ∧ But emp w w' ∧ Sub hx132 w') ?_ ?_
  · refine W_region ?_
    refine LP_ev ok 0 [(84, .slice a171 (List.length r162) c172), (85, .slice a21 (List.length r12) c22)] 2 rfl rfl ?_
    have ex180 := (ex19.ext x26)
    have ex181 := ((((ex97.but x131 (Dj.of_fresh ex180 f42).symm).ext x141).ext x154).ext x165)
    refine LP_call 2 rfl rfl rfl cal_22 rfl (laws_eqIntS_w _ _ _ H wx164 o168.readf ex169 o18.readf ex181) ?_
    rintro _ wx182 ⟨r179, H, rfl, x183⟩
    refine LP_ev ok 3 [(87, .bool (!r179)), (88, .bool (!r179))] 5 rfl rfl ?_
    refine LP_split 88 (!r179) rfl (fun hc184 => ?_) (fun hc184 => ?_)
    · have H := H.1 hc184
      refine LP_ev ok 5 [(89, undef), (90, undef), (91, undef), (92, .bool true)] 9 rfl rfl ?_
      refine LP_end _ rfl ?_
      try refine W_forget [(9, .slice a43 (List.length r34) c44), (12, I r128), (92, .bool true)] ⟨rfl, rfl, rfl, trivial⟩ fun ρ => ?_
      have X186 := ((((X.stepx x).stepx x6).stepx x15).stepx x26)
      have f185 := f42.mono X186.size
      have X187 := (((((X99.step x131 (f185.dom _)).stepx x141).stepx x154).stepx x165).stepx x183)
      have ex188 := ((((ex134.ext x141).ext x154).ext x165).ext x183)
      exact ⟨true, H, _, env_eq ⟨rfl, rfl, rfl, trivial⟩, X187, ex188⟩
    have H := H.2 hc184
    refine LP_ev ok 5 [(89, .bool r163), (90, .bool r13), (91, .bool (r163 != r13)), (92, .bool (r163 != r13))] 9 rfl rfl ?_
    refine LP_end _ rfl ?_
    try refine W_forget [(9, .slice a43 (List.length r34) c44), (12, I r128), (92, .bool (r163 != r13))] ⟨rfl, rfl, rfl, trivial⟩ fun ρ => ?_
    have X190 := ((((X.stepx x).stepx x6).stepx x15).stepx x26)
    have f189 := f42.mono X190.size
    have X191 := (((((X99.step x131 (f189.dom _)).stepx x141).stepx x154).stepx x165).stepx x183)
    have ex192 := ((((ex134.ext x141).ext x154).ext x165).ext x183)
    exact ⟨r163 != r13, H, _, env_eq ⟨rfl, rfl, rfl, trivial⟩, X191, ex192⟩
  rintro x173 _ wx174 ⟨H, ρ, rfl, X176, ex175⟩
  subst hk178
  refine W_cond (x173) rfl (fun hc193 => ?_) (fun hc193 => ?_)
  · have H := H.1 hc193
    refine W_seq ?_
    refine W_region ?_
    refine LP_ev ok 0 [(4, .bool false)] 1 rfl rfl ?_
    refine LP_end _ rfl ?_
    refine W_ret ?_
    exact ⟨_, Ret_of [.bool false] ⟨⟨rfl, rfl⟩, trivial⟩, _, H, rfl, X176.ext⟩
  have H := H.2 hc193
  refine W_skip ?_
  refine W_seq ?_
  refine W_region ?_
  refine LP_ev ok 0 [(13, I 1)] 1 rfl rfl ?_
  refine LP_end _ rfl ?_
  refine W_seq ?_
  refine W_region ?_
  refine LP_ev ok 0 [(93, .slice a43 (List.length r34) c44), (94, I 1)] 2 rfl rfl ?_
  refine LP_call 2 rfl rfl rfl cal_24 rfl (laws_heldIntS_w _ _ _ H wx174 o133.readf ex175) ?_
  rintro _ wx195 ⟨r194, H, rfl, x196⟩
  refine LP_ev ok 3 [(13, I r194)] 4 rfl rfl ?_
  refine LP_end _ rfl ?_
  refine W_seq ?_
  refine W_seq ?_
  refine W_region ?_
  refine LP_ev ok 0 [(96, I r194), (97, .bool (decide (r194 < 0)))] 2 rfl rfl ?_
  refine LP_end _ rfl ?_
  refine W_cond (decide (r194 < 0)) rfl (fun hc197 => ?_) (fun hc197 => ?_)
  · have H := H.1 hc197
    refine W_seq ?_
    refine W_region ?_
    refine LP_ev ok 0 [(4, .bool false)] 1 rfl rfl ?_
    refine LP_end _ rfl ?_
    refine W_ret ?_
    have X198 := (X176.stepx x196)
    exact ⟨_, Ret_of [.bool false] ⟨⟨rfl, rfl⟩, trivial⟩, _, H, rfl, X198.ext⟩
  have H := H.2 hc197
  refine W_skip ?_
  refine W_seq ?_
  refine W_seq ?_
  refine W_region ?_
  refine LP_ev ok 0 [(98, I r194), (99, I r128), (100, .bool (r194 != r128))] 3 rfl rfl ?_
  refine LP_end _ rfl ?_
  refine W_cond (r194 != r128) rfl (fun hc199 => ?_) (fun hc199 => ?_)
  · have H := H.1 hc199
    refine W_seq ?_
    refine W_region ?_
    refine LP_ev ok 0 [(4, .bool false)] 1 rfl rfl ?_
    refine LP_end _ rfl ?_
    refine W_ret ?_
    have X200 := (X176.stepx x196)
    exact ⟨_, Ret_of [.bool false] ⟨⟨rfl, rfl⟩, trivial⟩, _, H, rfl, X200.ext⟩
  have H := H.2 hc199
  refine W_skip ?_
  refine W_seq ?_
  refine W_region ?_
  refine LP_ev ok 0 [(4, .bool true)] 1 rfl rfl ?_
  refine LP_end _ rfl ?_
  refine W_ret ?_
  have X201 := (X176.stepx x196)
  exact ⟨_, Ret_of [.bool true] ⟨⟨rfl, rfl⟩, trivial⟩, _, H, rfl, X201.ext⟩

set_option maxRecDepth 8000 in
set_option maxHeartbeats 4000000 in
theorem spec_zeSeeds_w (seeds : List (List Int)) (Q : Bool → Prop) (H : spec_zeSeeds seeds Q) (w : World) {vx : Value} {hx : PH} (r : RS hx vx seeds) (ex : Sub hx w) :
    CallsTo Try.prog 118 #[vx] w fun v w' => ∃ r0, Q r0 ∧ v = .bool r0 ∧ Ext w w' := by
  obtain ⟨a, c, rfl⟩ := r.shape
  refine enter (args := [.slice a (List.length seeds) c]) 45 Try.func118 rfl rfl rfl ?_
  refine W_forget [(0, .slice a (List.length seeds) c)] ⟨rfl, trivial⟩ fun ρ => ?_
  have X := But.refl emp w
  refine W_seq ?_
  refine W_region ?_
  refine LP_ev ok 0 [(2, .bool false)] 1 rfl rfl ?_
  refine LP_end _ rfl ?_
  refine W_seq ?_
  refine W_seq ?_
  refine W_region ?_
  refine LP_ev ok 0 [(6, .slice a (List.length seeds) c), (7, I (ln seeds))] 2 rfl rfl ?_
  refine LP_call 2 rfl rfl rfl cal_76 rfl (spec_l1In_w _ _ _ _ H w ) ?_
  rintro _ wx ⟨r1, H, rfl, x⟩
  refine LP_ev ok 3 [(9, .bool (!r1))] 4 rfl rfl ?_
  refine LP_end _ rfl ?_
  refine W_cond (!r1) rfl (fun hc => ?_) (fun hc => ?_)
  · have H := H.1 hc
    refine W_seq ?_
    refine W_region ?_
    refine LP_ev ok 0 [(2, .bool false)] 1 rfl rfl ?_
    refine LP_end _ rfl ?_
    refine W_ret ?_
    have X2 := (X.stepx x)
    exact ⟨_, Ret_of [.bool false] ⟨⟨rfl, rfl⟩, trivial⟩, _, H, rfl, X2.ext⟩
  have H := H.2 hc
  refine W_skip ?_
  refine W_seq ?_
  refine W_seq ?_
  refine W_region ?_
  refine LP_ev ok 0 [(10, .slice a (List.length seeds) c), (11, I (ln seeds)), (12, I 0)] 3 rfl rfl ?_
  refine LP_end _ rfl ?_
  refine W_block ?_
  obtain ⟨J, m, Hx, H⟩ := H
  have X7 := (X.stepx x)
  have ex8 := (ex.ext x)
  refine W_loop (S := Int) (fun s ρ' w' => J s ∧ ∃ (ρ : Env), ρ' = setAll [(0, .slice a (List.length seeds) c), (10, .slice a (List.length seeds) c), (11, I (ln seeds)), (12, I s)] ρ ∧ But emp w w' ∧ Sub hx w') (fun s => m s) 0 ⟨Hx, _, env_eq ⟨rfl, rfl, rfl, rfl, trivial⟩, X7, ex8⟩ ?_
  rintro x3 _ wx4 ⟨Hi, ρ, rfl, X6, ex5⟩
  have H := H x3 Hi
  refine W_seq ?_
  refine W_region ?_
  refine LP_ev ok 0 [(13, .bool (decide (x3 < (ln seeds))))] 1 rfl rfl ?_
  refine LP_end _ rfl ?_
  refine W_seq ?_
  refine W_cond (decide (x3 < (ln seeds))) rfl (fun hc9 => ?_) (fun hc9 => ?_)
  · have H := H.1 hc9
    refine W_skip ?_
    refine W_seq ?_
    refine W_block ?_
    refine W_seq ?_
    refine W_region ?_
    refine LP_ev ok 0 [(14, I x3)] 1 rfl rfl ?_
    obtain ⟨x10, hi, hx11, H⟩ := H
    refine LP_index 1 rfl rfl rfl Try.underlying49 ti_22 rfl rfl r hi hx11 fun a12 cs r13 d => ?_
    refine LP_load 2 rfl rfl rfl ti_22 ag_22 rfl r13 d ex5 fun vx14 r15 => ?_
    have r18 := r15.slice
    obtain ⟨a16, c17, rfl⟩ := r18.shape
    refine LP_ev ok 3 [(3, I x3), (4, .slice a16 (List.length x10) c17)] 5 rfl rfl ?_
    refine LP_end _ rfl ?_
    refine W_seq ?_
    obtain ⟨k, hk, H⟩ := jn_elim H
    refine W_join2 (S := Bool) (fun s ρ' w' => k s ∧ ∃ (ρ : Env), ρ' = setAll [(0, .slice a (List.length seeds) c), (3, I x3), (4, .slice a16 (List.length x10) c17), (10, .slice a (List.length seeds) c), (11, I (ln seeds)), (12, I x3), (26, .bool s)] ρ ∧ But emp w w' ∧ Sub hx w') ?_ ?_
    · refine W_region ?_
      refine LP_ev ok 0 [(17, .slice a16 (List.length x10) c17), (18, I (ln x10)), (19, .slice a (List.length seeds) c), (20, I (ln seeds)), (21, .bool ((ln x10) != (ln seeds))), (22, .bool ((ln x10) != (ln seeds)))] 6 rfl rfl ?_
      refine LP_split 22 ((ln x10) != (ln seeds)) rfl (fun hc23 => ?_) (fun hc23 => ?_)
      · have H := H.1 hc23
        refine LP_ev ok 6 [(23, undef), (24, undef), (25, undef), (26, .bool true)] 10 rfl rfl ?_
        refine LP_end _ rfl ?_
        exact ⟨true, H, _, env_eq ⟨rfl, rfl, rfl, rfl, rfl, rfl, rfl, trivial⟩, X6, ex5⟩
      have H := H.2 hc23
      refine LP_ev ok 6 [(23, .slice a16 (List.length x10) c17)] 7 rfl rfl ?_
      refine LP_call 7 rfl rfl rfl cal_81 rfl (spec_hDigest_w _ _ H wx4 r18 ex5) ?_
      rintro _ wx25 ⟨r24, H, rfl, x26⟩
      refine LP_ev ok 8 [(25, .bool (!r24)), (26, .bool (!r24))] 10 rfl rfl ?_
      refine LP_end _ rfl ?_
      have X27 := (X6.stepx x26)
      have ex28 := (ex5.ext x26)
      exact ⟨!r24, H, _, env_eq ⟨rfl, rfl, rfl, rfl, rfl, rfl, rfl, trivial⟩, X27, ex28⟩
    rintro x19 _ wx20 ⟨H, ρ, rfl, X22, ex21⟩
    subst hk
    refine W_cond (x19) rfl (fun hc29 => ?_) (fun hc29 => ?_)
    · have H := H.1 hc29
      refine W_seq ?_
      refine W_region ?_
      refine LP_ev ok 0 [(2, .bool false)] 1 rfl rfl ?_
      refine LP_end _ rfl ?_
      refine W_ret ?_
      exact ⟨_, Ret_of [.bool false] ⟨⟨rfl, rfl⟩, trivial⟩, _, H, rfl, X22.ext⟩
    have H := H.2 hc29
    refine W_skip ?_
    refine W_seq ?_
    refine W_region ?_
    refine LP_ev ok 0 [(5, I 0)] 1 rfl rfl ?_
    refine LP_end _ rfl ?_
    refine W_block ?_
    obtain ⟨J34, m35, Hx36, H⟩ := H
    refine W_loop (S := Int) (fun s ρ' w' => J34 s ∧ ∃ (ρ : Env), ρ' = setAll [(0, .slice a (List.length seeds) c), (3, I x3), (4, .slice a16 (List.length x10) c17), (5, I s), (10, .slice a (List.length seeds) c), (11, I (ln seeds)), (12, I x3)] ρ ∧ But emp w w' ∧ Sub hx w') (fun s => m35 s) 0 ⟨Hx36, _, env_eq ⟨rfl, rfl, rfl, rfl, rfl, rfl, rfl, trivial⟩, X22, ex21⟩ ?_
    rintro k30 _ wx31 ⟨Hi, ρ, rfl, X33, ex32⟩
    have H := H k30 Hi
    refine W_seq ?_
    refine W_seq ?_
    refine W_region ?_
    refine LP_ev ok 0 [(27, I k30), (28, I x3), (29, .bool (decide (k30 < x3)))] 3 rfl rfl ?_
    refine LP_end _ rfl ?_
    refine W_cond (decide (k30 < x3)) rfl (fun hc38 => ?_) (fun hc38 => ?_)
    · have H := H.1 hc38
      refine W_skip ?_
      refine W_seq ?_
      refine W_block ?_
      refine W_seq ?_
      refine W_quiet mix (by kernel_rfl) ?_
      refine QP_ev ok 0 [(32, .slice a16 (List.length x10) c17), (33, I k30)] 2 rfl rfl ?_
      obtain ⟨x39, hi40, hx41, H⟩ := H
      refine QP_index 2 rfl rfl rfl Try.underlying22 ti_3 rfl rfl r18 hi40 hx41 fun a42 cs43 r44 d45 => ?_
      refine QP_load 3 rfl rfl rfl ti_3 ag_3 rfl r44 d45 ex32 fun vx46 r47 => ?_
      obtain rfl := r47.int
      refine QP_ev ok 4 [(36, .slice a (List.length seeds) c), (37, I k30)] 6 rfl rfl ?_
      obtain ⟨x48, hi49, hx50, H⟩ := H
      refine QP_index 6 rfl rfl rfl Try.underlying49 ti_22 rfl rfl r hi49 hx50 fun a51 cs52 r53 d54 => ?_
      refine QP_load 7 rfl rfl rfl ti_22 ag_22 rfl r53 d54 ex32 fun vx55 r56 => ?_
      have r59 := r56.slice
      obtain ⟨a57, c58, rfl⟩ := r59.shape
      refine QP_ev ok 8 [(40, I x3)] 9 rfl rfl ?_
      obtain ⟨x60, hi61, hx62, H⟩ := H
      refine QP_index 9 rfl rfl rfl Try.underlying22 ti_3 rfl rfl r59 hi61 hx62 fun a63 cs64 r65 d66 => ?_
      refine QP_load 10 rfl rfl rfl ti_3 ag_3 rfl r65 d66 ex32 fun vx67 r68 => ?_
      obtain rfl := r68.int
      refine QP_ev ok 11 [(43, .bool (x39 != x60))] 12 rfl rfl ?_
      refine QP_end _ rfl fun wx69 x70 => ?_
      refine W_cond (x39 != x60) rfl (fun hc71 => ?_) (fun hc71 => ?_)
      · have H := H.1 hc71
        refine W_seq ?_
        refine W_region ?_
        refine LP_ev ok 0 [(2, .bool false)] 1 rfl rfl ?_
        refine LP_end _ rfl ?_
        refine W_ret ?_
        have X72 := (X33.stepx x70)
        exact ⟨_, Ret_of [.bool false] ⟨⟨rfl, rfl⟩, trivial⟩, _, H, rfl, X72.ext⟩
      have H := H.2 hc71
      refine W_skip ?_
      refine W_region ?_
      refine LP_ev ok 0 [(30, I k30), (31, I (wr (k30 + 1))), (5, I (wr (k30 + 1)))] 3 rfl rfl ?_
      refine LP_end _ rfl ?_
      have X73 := (X33.stepx x70)
      have ex74 := (ex32.ext x70)
      exact ⟨wr (k30 + 1), ⟨H.1, _, env_eq ⟨rfl, rfl, rfl, rfl, rfl, rfl, rfl, trivial⟩, X73, ex74⟩, H.2⟩
    have H := H.2 hc38
    refine W_exit ?_
    refine (if_pos rfl).mpr ?_
    refine W_region ?_
    refine LP_ev ok 0 [(44, I (wr (x3 + 1))), (12, I (wr (x3 + 1)))] 2 rfl rfl ?_
    refine LP_end _ rfl ?_
    exact ⟨wr (x3 + 1), ⟨H.1, _, env_eq ⟨rfl, rfl, rfl, rfl, trivial⟩, X33, ex32⟩, H.2⟩
  have H := H.2 hc9
  refine W_exit ?_
  refine (if_pos rfl).mpr ?_
  refine W_seq ?_
  refine W_region ?_
  refine LP_ev ok 0 [(2, .bool true)] 1 rfl rfl ?_
  refine LP_end _ rfl ?_
  refine W_ret ?_
  exact ⟨_, Ret_of [.bool true] ⟨⟨rfl, rfl⟩, trivial⟩, _, H, rfl, X6.ext⟩

set_option maxRecDepth 8000 in
set_option maxHeartbeats 4000000 in
theorem spec_zeMaskOf_w (seeds : List (List Int)) (i : Int) (round : Int) (n : Int) (m : Int) (Q : (List Int) → Prop) (H : spec_zeMaskOf seeds i round n m Q) (w : World) {vx : Value} {hx : PH} (r : RS hx vx seeds) (ex : Sub hx w) :
    CallsTo Try.prog 119 #[vx, I i, I round, I n, I m] w fun v w' => ∃ r0 u0 g0, Q r0 ∧ v = u0 ∧ Ext w w' ∧ OS 3 g0 emp u0 r0 ∧ Sub g0 w' ∧ Fresh w.heap.size g0 := by
  obtain ⟨a, c, rfl⟩ := r.shape
  refine enter (args := [.slice a (List.length seeds) c, I i, I round, I n, I m]) 62 Try.func119 rfl rfl rfl ?_
  refine W_forget [(0, .slice a (List.length seeds) c), (1, I i), (2, I round), (3, I n), (4, I m)] ⟨rfl, rfl, rfl, rfl, rfl, trivial⟩ fun ρ => ?_
  have X := But.refl emp w
  refine W_seq ?_
  refine W_region ?_
  refine LP_ev ok 0 [(10, .slice none 0 0)] 1 rfl rfl ?_
  refine LP_end _ rfl ?_
  refine W_seq ?_
  refine W_region ?_
  refine LP_ev ok 0 [(13, I n)] 1 rfl rfl ?_
  obtain ⟨hn, hb, H⟩ := H
  refine LP_make (α := Int) 1 rfl rfl rfl Try.underlying22 ti_3 (x0 := (0 : Int)) rfl rfl hn (by first | omega | (simp only [ln] at *; omega)) (by first | omega | (simp only [ln] at *; omega)) fun hx1 vx2 wx x o ex3 f => ?_
  obtain ⟨a4, c5, rfl⟩ := o.shape
  refine LP_ev ok 2 [(11, .slice a4 (List.length (List.replicate (Int.toNat n) ((0 : Int)))) c5)] 3 rfl rfl ?_
  refine LP_end _ rfl ?_
  refine W_seq ?_
  refine W_seq ?_
  refine W_region ?_
  refine LP_ev ok 0 [(15, .slice a (List.length seeds) c), (16, I (ln seeds)), (17, I 0)] 3 rfl rfl ?_
  refine LP_end _ rfl ?_
  refine W_block ?_
  obtain ⟨J, m17, Hx, H⟩ := H
  have X18 := (X.stepx x)
  have f19 := f.mono X.size
  have ex20 := (ex.ext x)
  refine W_loop (S := (List Int) × Int) (fun s ρ' w' => J s.1 s.2 ∧ ∃ (ρ : Env) (vx6 : Value) (hx7 : PH), ρ' = setAll [(0, .slice a (List.length seeds) c), (1, I i), (2, I round), (3, I n), (4, I m), (11, vx6), (16, I (ln seeds)), (17, I s.2)] ρ ∧ But emp w w' ∧ OS 3 hx7 emp vx6 s.1 ∧ Sub hx7 w' ∧ Fresh w.heap.size hx7 ∧ Sub hx w' ∧ Dj hx7 hx) (fun s => m17 s.1 s.2) (List.replicate (Int.toNat n) ((0 : Int)), 0) ⟨Hx, _, .slice a4 (List.length (List.replicate (Int.toNat n) ((0 : Int)))) c5, hx1, env_eq ⟨rfl, rfl, rfl, rfl, rfl, rfl, rfl, rfl, trivial⟩, X18, o, ex3, f19, ex20, (Dj.of_fresh ex f).symm⟩ ?_
  rintro ⟨out, x11⟩ _ wx12 ⟨Hi, ρ, vx6, hx7, rfl, X16, o8, ex9, f10, ex13, d⟩
  have H := H out x11 Hi
  obtain ⟨a14, c15, rfl⟩ := o8.shape
  refine W_seq ?_
  refine W_region ?_
  refine LP_ev ok 0 [(18, .bool (decide (x11 < (ln seeds))))] 1 rfl rfl ?_
  refine LP_end _ rfl ?_
  refine W_seq ?_
  refine W_cond (decide (x11 < (ln seeds))) rfl (fun hc => ?_) (fun hc => ?_)
  · have H := H.1 hc
    refine W_skip ?_
    obtain ⟨k, hk, H⟩ := jn_elim H
    refine W_join2 (S := (List Int)) (fun s ρ' w' => k s ∧ ∃ (ρ : Env) (vx22 : Value) (hx23 : PH), ρ' = setAll [(0, .slice a (List.length seeds) c), (1, I i), (2, I round), (3, I n), (4, I m), (11, vx22), (16, I (ln seeds)), (17, I x11)] ρ ∧ But emp w w' ∧ OS 3 hx23 emp vx22 s ∧ Sub hx23 w' ∧ Fresh w.heap.size hx23 ∧ Sub hx w' ∧ Dj hx23 hx) ?_ ?_
    · refine W_block ?_
      refine W_seq ?_
      refine W_region ?_
      refine LP_ev ok 0 [(19, I x11), (12, I x11)] 2 rfl rfl ?_
      refine LP_end _ rfl ?_
      refine W_block ?_
      refine W_seq ?_
      refine W_region ?_
      refine LP_ev ok 0 [(21, I x11), (22, I i), (23, .bool (decide (x11 > i))), (20, .bool (decide (x11 > i)))] 4 rfl rfl ?_
      refine LP_end _ rfl ?_
      refine W_cond (decide (x11 > i)) rfl (fun hc33 => ?_) (fun hc33 => ?_)
      · have H := H.1 hc33
        refine W_region ?_
        refine LP_ev ok 0 [(24, .slice a14 (List.length out) c15), (25, .slice a (List.length seeds) c), (26, I i)] 3 rfl rfl ?_
        obtain ⟨x34, hi, hx35, H⟩ := H
        refine LP_index 3 rfl rfl rfl Try.underlying49 ti_22 rfl rfl r hi hx35 fun a36 cs r37 d38 => ?_
        refine LP_load 4 rfl rfl rfl ti_22 ag_22 rfl r37 d38 ex13 fun vx39 r40 => ?_
        have r43 := r40.slice
        obtain ⟨a41, c42, rfl⟩ := r43.shape
        refine LP_ev ok 5 [(29, I x11)] 6 rfl rfl ?_
        obtain ⟨x44, hi45, hx46, H⟩ := H
        refine LP_index 6 rfl rfl rfl Try.underlying22 ti_3 rfl rfl r43 hi45 hx46 fun a47 cs48 r49 d50 => ?_
        refine LP_load 7 rfl rfl rfl ti_3 ag_3 rfl r49 d50 ex13 fun vx51 r52 => ?_
        obtain rfl := r52.int
        refine LP_ev ok 8 [(32, I i), (33, I x11), (34, I round), (35, I n), (36, I m)] 13 rfl rfl ?_
        refine LP_call 13 rfl rfl rfl cal_83 rfl (spec_zeMask_w _ _ _ _ _ _ _ H wx12 ) ?_
        rintro _ wx54 ⟨r53, vx56, hx57, H, rfl, x55, o58, ex59, f60⟩
        obtain ⟨a61, c62, rfl⟩ := o58.shape
        refine LP_ev ok 14 [(38, I m)] 15 rfl rfl ?_
        have ex64 := (ex9.ext x55)
        refine LP_call 15 rfl rfl rfl cal_128 rfl (spec_zeAdd_w _ _ _ _ _ H wx54 o8.readf ex64 o58.readf ex59) ?_
        rintro _ wx65 ⟨r63, vx67, hx68, H, rfl, x66, o69, ex70, f71⟩
        obtain ⟨a72, c73, rfl⟩ := o69.shape
        refine LP_ev ok 16 [(11, .slice a72 (List.length r63) c73)] 17 rfl rfl ?_
        refine LP_end _ rfl ?_
        have X74 := ((X16.stepx x55).stepx x66)
        have X76 := (X16.stepx x55)
        have f75 := f71.mono X76.size
        have ex77 := ((ex13.ext x55).ext x66)
        have ex78 := (ex13.ext x55)
        exact ⟨r63, H, _, .slice a72 (List.length r63) c73, hx68, env_eq ⟨rfl, rfl, rfl, rfl, rfl, rfl, rfl, rfl, trivial⟩, X74, o69, ex70, f75, ex77, (Dj.of_fresh ex78 f71).symm⟩
      have H := H.2 hc33
      refine W_seq ?_
      refine W_region ?_
      refine LP_ev ok 0 [(41, I x11), (42, I i), (43, .bool (decide (x11 < i))), (40, .bool (decide (x11 < i)))] 4 rfl rfl ?_
      refine LP_end _ rfl ?_
      refine W_cond (decide (x11 < i)) rfl (fun hc79 => ?_) (fun hc79 => ?_)
      · have H := H.1 hc79
        refine W_region ?_
        refine LP_ev ok 0 [(44, .slice a14 (List.length out) c15), (45, .slice a (List.length seeds) c), (46, I i)] 3 rfl rfl ?_
        obtain ⟨x80, hi81, hx82, H⟩ := H
        refine LP_index 3 rfl rfl rfl Try.underlying49 ti_22 rfl rfl r hi81 hx82 fun a83 cs84 r85 d86 => ?_
        refine LP_load 4 rfl rfl rfl ti_22 ag_22 rfl r85 d86 ex13 fun vx87 r88 => ?_
        have r91 := r88.slice
        obtain ⟨a89, c90, rfl⟩ := r91.shape
        refine LP_ev ok 5 [(49, I x11)] 6 rfl rfl ?_
        obtain ⟨x92, hi93, hx94, H⟩ := H
        refine LP_index 6 rfl rfl rfl Try.underlying22 ti_3 rfl rfl r91 hi93 hx94 fun a95 cs96 r97 d98 => ?_
        refine LP_load 7 rfl rfl rfl ti_3 ag_3 rfl r97 d98 ex13 fun vx99 r100 => ?_
        obtain rfl := r100.int
        refine LP_ev ok 8 [(52, I x11), (53, I i), (54, I round), (55, I n), (56, I m)] 13 rfl rfl ?_
        refine LP_call 13 rfl rfl rfl cal_83 rfl (spec_zeMask_w _ _ _ _ _ _ _ H wx12 ) ?_
        rintro _ wx102 ⟨r101, vx104, hx105, H, rfl, x103, o106, ex107, f108⟩
        obtain ⟨a109, c110, rfl⟩ := o106.shape
        refine LP_ev ok 14 [(58, I m)] 15 rfl rfl ?_
        have ex112 := (ex9.ext x103)
        refine LP_call 15 rfl rfl rfl cal_128 rfl (spec_zeAdd_w _ _ _ _ _ H wx102 o8.readf ex112 o106.readf ex107) ?_
        rintro _ wx113 ⟨r111, vx115, hx116, H, rfl, x114, o117, ex118, f119⟩
        obtain ⟨a120, c121, rfl⟩ := o117.shape
        refine LP_ev ok 16 [(11, .slice a120 (List.length r111) c121)] 17 rfl rfl ?_
        refine LP_end _ rfl ?_
        try refine W_forget [(0, .slice a (List.length seeds) c), (1, I i), (2, I round), (3, I n), (4, I m), (11, .slice a120 (List.length r111) c121), (16, I (ln seeds)), (17, I x11)] ⟨rfl, rfl, rfl, rfl, rfl, rfl, rfl, rfl, trivial⟩ fun ρ => ?_
        have X122 := ((X16.stepx x103).stepx x114)
        have X124 := (X16.stepx x103)
        have f123 := f119.mono X124.size
        have ex125 := ((ex13.ext x103).ext x114)
        have ex126 := (ex13.ext x103)
        exact ⟨r111, H, _, .slice a120 (List.length r111) c121, hx116, env_eq ⟨rfl, rfl, rfl, rfl, rfl, rfl, rfl, rfl, trivial⟩, X122, o117, ex118, f123, ex125, (Dj.of_fresh ex126 f119).symm⟩
      have H := H.2 hc79
      refine W_skip ?_
      exact ⟨out, H, _, .slice a14 (List.length out) c15, hx7, env_eq ⟨rfl, rfl, rfl, rfl, rfl, rfl, rfl, rfl, trivial⟩, X16, o8, ex9, f10, ex13, d⟩
    rintro out21 _ wx27 ⟨H, ρ, vx22, hx23, rfl, X32, o24, ex25, f26, ex28, d31⟩
    subst hk
    obtain ⟨a29, c30, rfl⟩ := o24.shape
    refine W_region ?_
    refine LP_ev ok 0 [(60, I (wr (x11 + 1))), (17, I (wr (x11 + 1)))] 2 rfl rfl ?_
    refine LP_end _ rfl ?_
    exact ⟨(out21, wr (x11 + 1)), ⟨H.1, _, .slice a29 (List.length out21) c30, hx23, env_eq ⟨rfl, rfl, rfl, rfl, rfl, rfl, rfl, rfl, trivial⟩, X32, o24, ex25, f26, ex28, d31⟩, H.2⟩
  have H := H.2 hc
  refine W_exit ?_
  refine (if_pos rfl).mpr ?_
  refine W_seq ?_
  refine W_region ?_
  refine LP_ev ok 0 [(61, .slice a14 (List.length out) c15), (10, .slice a14 (List.length out) c15)] 2 rfl rfl ?_
  refine LP_end _ rfl ?_
  refine W_ret ?_
  exact ⟨_, Ret_of [.slice a14 (List.length out) c15] ⟨⟨rfl, rfl⟩, trivial⟩, _, _, _, H, rfl, X16.ext, o8, ex9, f10⟩

set_option maxRecDepth 8000 in
set_option maxHeartbeats 4000000 in
theorem spec_MaskOf_w (seeds : List (List Int)) (i : Int) (round : Int) (n : Int) (m : Int) (Q : (List Int) → Bool → Prop) (H : spec_MaskOf seeds i round n m Q) (w : World) {vx : Value} {hx : PH} (r : RS hx vx seeds) (ex : Sub hx w) :
    CallsTo Try.prog 57 #[vx, I i, I round, I n, I m] w fun v w' => ∃ r0 r1 u0 g0, Q r0 r1 ∧ v = .tuple #[u0, .bool r1] ∧ Ext w w' ∧ OS 3 g0 emp u0 r0 ∧ Sub g0 w' ∧ Fresh w.heap.size g0 := by
  obtain ⟨a, c, rfl⟩ := r.shape
  refine enter (args := [.slice a (List.length seeds) c, I i, I round, I n, I m]) 36 Try.func57 rfl rfl rfl ?_
  refine W_forget [(0, .slice a (List.length seeds) c), (1, I i), (2, I round), (3, I n), (4, I m)] ⟨rfl, rfl, rfl, rfl, rfl, trivial⟩ fun ρ => ?_
  have X := But.refl emp w
  refine W_seq ?_
  refine W_region ?_
  refine LP_ev ok 0 [(10, .slice none 0 0), (11, .bool false)] 2 rfl rfl ?_
  refine LP_end _ rfl ?_
  refine W_seq ?_
  obtain ⟨k, hk, H⟩ := jn_elim H
  refine W_join2 (S := Bool) (fun s ρ' w' => k s ∧ ∃ (ρ : Env), ρ' = setAll [(0, .slice a (List.length seeds) c), (1, I i), (2, I round), (3, I n), (4, I m), (29, .bool s)] ρ ∧ But emp w w' ∧ Sub hx w') ?_ ?_
  · refine W_region ?_
    refine LP_ev ok 0 [(12, .slice a (List.length seeds) c)] 1 rfl rfl ?_
    refine LP_call 1 rfl rfl rfl cal_118 rfl (spec_zeSeeds_w _ _ H w r ex) ?_
    rintro _ wx4 ⟨r3, H, rfl, x5⟩
    refine LP_ev ok 2 [(14, .bool (!r3)), (15, .bool (!r3))] 4 rfl rfl ?_
    refine LP_split 15 (!r3) rfl (fun hc => ?_) (fun hc => ?_)
    · have H := H.1 hc
      refine LP_ev ok 4 [(16, undef), (17, undef), (18, undef), (19, undef), (20, undef), (21, undef), (22, .bool true), (23, .bool true), (24, undef), (25, undef), (26, undef), (27, undef), (28, undef), (29, .bool true)] 18 rfl rfl ?_
      refine LP_end _ rfl ?_
      have X6 := (X.stepx x5)
      have ex7 := (ex.ext x5)
      exact ⟨true, H, _, env_eq ⟨rfl, rfl, rfl, rfl, rfl, rfl, trivial⟩, X6, ex7⟩
    have H := H.2 hc
    refine LP_ev ok 4 [(16, I i), (17, .slice a (List.length seeds) c), (18, I (ln seeds)), (19, I (wr ((ln seeds) - 1)))] 8 rfl rfl ?_
    refine LP_call 8 rfl rfl rfl cal_76 rfl (spec_l1In_w _ _ _ _ H wx4 ) ?_
    rintro _ wx9 ⟨r8, H, rfl, x10⟩
    refine LP_ev ok 9 [(21, .bool (!r8)), (22, .bool (!r8)), (23, .bool (!r8))] 12 rfl rfl ?_
    refine LP_split 23 (!r8) rfl (fun hc11 => ?_) (fun hc11 => ?_)
    · have H := H.1 hc11
      refine LP_ev ok 12 [(24, undef), (25, undef), (26, undef), (27, undef), (28, undef), (29, .bool true)] 18 rfl rfl ?_
      refine LP_end _ rfl ?_
      have X12 := ((X.stepx x5).stepx x10)
      have ex13 := ((ex.ext x5).ext x10)
      exact ⟨true, H, _, env_eq ⟨rfl, rfl, rfl, rfl, rfl, rfl, trivial⟩, X12, ex13⟩
    have H := H.2 hc11
    refine LP_ev ok 12 [(24, I round), (25, I n), (26, I m)] 15 rfl rfl ?_
    refine LP_call 15 rfl rfl rfl cal_82 rfl (spec_zeRound_w _ _ _ _ H wx9 ) ?_
    rintro _ wx15 ⟨r14, H, rfl, x16⟩
    refine LP_ev ok 16 [(28, .bool (!r14)), (29, .bool (!r14))] 18 rfl rfl ?_
    refine LP_end _ rfl ?_
    have X17 := (((X.stepx x5).stepx x10).stepx x16)
    have ex18 := (((ex.ext x5).ext x10).ext x16)
    exact ⟨!r14, H, _, env_eq ⟨rfl, rfl, rfl, rfl, rfl, rfl, trivial⟩, X17, ex18⟩
  rintro x _ wx ⟨H, ρ, rfl, X2, ex1⟩
  subst hk
  refine W_cond (x) rfl (fun hc19 => ?_) (fun hc19 => ?_)
  · have H := H.1 hc19
    refine W_seq ?_
    refine W_region ?_
    refine LP_ev ok 0 [(10, .slice none 0 0), (11, .bool false)] 2 rfl rfl ?_
    refine LP_end _ rfl ?_
    refine W_ret ?_
    exact ⟨_, Ret_of [.slice none 0 0, .bool false] ⟨⟨rfl, rfl⟩, ⟨rfl, rfl⟩, trivial⟩, _, _, _, emp, H, rfl, X2.ext, OS.nil, (emp_sub _), (emp_fresh _)⟩
  have H := H.2 hc19
  refine W_skip ?_
  refine W_seq ?_
  refine W_region ?_
  refine LP_ev ok 0 [(30, .slice a (List.length seeds) c), (31, I i), (32, I round), (33, I n), (34, I m)] 5 rfl rfl ?_
  refine LP_call 5 rfl rfl rfl cal_119 rfl (spec_zeMaskOf_w _ _ _ _ _ _ H wx r ex1) ?_
  rintro _ wx21 ⟨r20, vx23, hx24, H, rfl, x22, o, ex25, f⟩
  obtain ⟨a26, c27, rfl⟩ := o.shape
  refine LP_ev ok 6 [(10, .slice a26 (List.length r20) c27), (11, .bool true)] 8 rfl rfl ?_
  refine LP_end _ rfl ?_
  refine W_ret ?_
  have f28 := f.mono X2.size
  have X29 := (X2.stepx x22)
  exact ⟨_, Ret_of [.slice a26 (List.length r20) c27, .bool true] ⟨⟨rfl, rfl⟩, ⟨rfl, rfl⟩, trivial⟩, _, _, _, _, H, rfl, X29.ext, o, ex25, f28⟩

set_option maxRecDepth 8000 in
set_option maxHeartbeats 4000000 in
theorem impl_areSeeds_w (l : List Int) (Q : Bool → Prop) (H : impl_areSeeds l Q) (w : World) {vx : Value} {hx : PH} (r : RS hx vx l) (ex : Sub hx w) :
    CallsTo Try.prog 149 #[vx] w fun v w' => ∃ r0, Q r0 ∧ v = .bool r0 ∧ Ext w w' := by
  obtain ⟨a, c, rfl⟩ := r.shape
  refine enter (args := [.slice a (List.length l) c]) 18 Try.func149 rfl rfl rfl ?_
  refine W_forget [(0, .slice a (List.length l) c)] ⟨rfl, trivial⟩ fun ρ => ?_
  have X := But.refl emp w
  refine W_seq ?_
  refine W_region ?_
  refine LP_ev ok 0 [(2, .bool false)] 1 rfl rfl ?_
  refine LP_end _ rfl ?_
  refine W_seq ?_
  refine W_seq ?_
  refine W_region ?_
  refine LP_ev ok 0 [(5, .slice a (List.length l) c), (6, I (ln l)), (7, .bool (decide ((ln l) > 392)))] 3 rfl rfl ?_
  refine LP_end _ rfl ?_
  refine W_cond (decide ((ln l) > 392)) rfl (fun hc => ?_) (fun hc => ?_)
  · have H := H.1 hc
    refine W_seq ?_
    refine W_region ?_
    refine LP_ev ok 0 [(2, .bool false)] 1 rfl rfl ?_
    refine LP_end _ rfl ?_
    refine W_ret ?_
    exact ⟨_, Ret_of [.bool false] ⟨⟨rfl, rfl⟩, trivial⟩, _, H, rfl, X.ext⟩
  have H := H.2 hc
  refine W_skip ?_
  refine W_seq ?_
  refine W_seq ?_
  refine W_region ?_
  refine LP_ev ok 0 [(8, .slice a (List.length l) c), (9, I (ln l)), (10, I 0)] 3 rfl rfl ?_
  refine LP_end _ rfl ?_
  refine W_block ?_
  obtain ⟨J, m, Hx, H⟩ := H
  refine W_loop (S := Int) (fun s ρ' w' => J s ∧ ∃ (ρ : Env), ρ' = setAll [(8, .slice a (List.length l) c), (9, I (ln l)), (10, I s)] ρ ∧ But emp w w' ∧ Sub hx w') (fun s => m s) 0 ⟨Hx, _, env_eq ⟨rfl, rfl, rfl, trivial⟩, X, ex⟩ ?_
  rintro x _ wx ⟨Hi, ρ, rfl, X2, ex1⟩
  have H := H x Hi
  refine W_seq ?_
  refine W_region ?_
  refine LP_ev ok 0 [(11, .bool (decide (x < (ln l))))] 1 rfl rfl ?_
  refine LP_end _ rfl ?_
  refine W_seq ?_
  refine W_cond (decide (x < (ln l))) rfl (fun hc3 => ?_) (fun hc3 => ?_)
  · have H := H.1 hc3
    refine W_skip ?_
    refine W_seq ?_
    refine W_block ?_
    refine W_seq ?_
    refine W_region ?_
    obtain ⟨x4, hi, hx5, H⟩ := H
    refine LP_index 0 rfl rfl rfl Try.underlying22 ti_3 rfl rfl r hi hx5 fun a6 cs r7 d => ?_
    refine LP_load 1 rfl rfl rfl ti_3 ag_3 rfl r7 d ex1 fun vx8 r9 => ?_
    obtain rfl := r9.int
    refine LP_ev ok 2 [(4, I x4)] 3 rfl rfl ?_
    refine LP_end _ rfl ?_
    refine W_seq ?_
    refine W_region ?_
    refine LP_ev ok 0 [(14, I x4)] 1 rfl rfl ?_
    refine LP_call 1 rfl rfl rfl cal_84 rfl (impl_isSeed_w _ _ H wx ) ?_
    rintro _ wx11 ⟨r10, H, rfl, x12⟩
    refine LP_ev ok 2 [(16, .bool (!r10))] 3 rfl rfl ?_
    refine LP_end _ rfl ?_
    refine W_cond (!r10) rfl (fun hc13 => ?_) (fun hc13 => ?_)
    · have H := H.1 hc13
      refine W_seq ?_
      refine W_region ?_
      refine LP_ev ok 0 [(2, .bool false)] 1 rfl rfl ?_
      refine LP_end _ rfl ?_
      refine W_ret ?_
      have X14 := (X2.stepx x12)
      exact ⟨_, Ret_of [.bool false] ⟨⟨rfl, rfl⟩, trivial⟩, _, H, rfl, X14.ext⟩
    have H := H.2 hc13
    refine W_skip ?_
    refine W_region ?_
    refine LP_ev ok 0 [(17, I (wr (x + 1))), (10, I (wr (x + 1)))] 2 rfl rfl ?_
    refine LP_end _ rfl ?_
    have X15 := (X2.stepx x12)
    have ex16 := (ex1.ext x12)
    exact ⟨wr (x + 1), ⟨H.1, _, env_eq ⟨rfl, rfl, rfl, trivial⟩, X15, ex16⟩, H.2⟩
  have H := H.2 hc3
  refine W_exit ?_
  refine (if_pos rfl).mpr ?_
  refine W_seq ?_
  refine W_region ?_
  refine LP_ev ok 0 [(2, .bool true)] 1 rfl rfl ?_
  refine LP_end _ rfl ?_
  refine W_ret ?_
  exact ⟨_, Ret_of [.bool true] ⟨⟨rfl, rfl⟩, trivial⟩, _, H, rfl, X2.ext⟩

set_option maxRecDepth 8000 in
set_option maxHeartbeats 4000000 in
theorem impl_areSeedRows_w (seeds : List (List Int)) (Q : Bool → Prop) (H : impl_areSeedRows seeds Q) (w : World) {vx : Value} {hx : PH} (r : RS hx vx seeds) (ex : Sub hx w) :
    CallsTo Try.prog 120 #[vx] w fun v w' => ∃ r0, Q r0 ∧ v = .bool r0 ∧ Ext w w' := by
  obtain ⟨a, c, rfl⟩ := r.shape
  refine enter (args := [.slice a (List.length seeds) c]) 49 Try.func120 rfl rfl rfl ?_
  refine W_forget [(0, .slice a (List.length seeds) c)] ⟨rfl, trivial⟩ fun ρ => ?_
  have X := But.refl emp w
  refine W_seq ?_
  refine W_region ?_
  refine LP_ev ok 0 [(2, .bool false)] 1 rfl rfl ?_
  refine LP_end _ rfl ?_
  refine W_seq ?_
  obtain ⟨k, hk, H⟩ := jn_elim H
  refine W_join2 (S := Bool) (fun s ρ' w' => k s ∧ ∃ (ρ : Env), ρ' = setAll [(0, .slice a (List.length seeds) c), (13, .bool s)] ρ ∧ w = w') ?_ ?_
  · refine W_region ?_
    refine LP_ev ok 0 [(6, .slice a (List.length seeds) c), (7, I (ln seeds)), (8, .bool (decide ((ln seeds) < 2))), (9, .bool (decide ((ln seeds) < 2)))] 4 rfl rfl ?_
    refine LP_split 9 (decide ((ln seeds) < 2)) rfl (fun hc => ?_) (fun hc => ?_)
    · have H := H.1 hc
      refine LP_ev ok 4 [(10, undef), (11, undef), (12, undef), (13, .bool true)] 8 rfl rfl ?_
      refine LP_end _ rfl ?_
      exact ⟨true, H, _, env_eq ⟨rfl, rfl, trivial⟩, rfl⟩
    have H := H.2 hc
    refine LP_ev ok 4 [(10, .slice a (List.length seeds) c), (11, I (ln seeds)), (12, .bool (decide ((ln seeds) > 8))), (13, .bool (decide ((ln seeds) > 8)))] 8 rfl rfl ?_
    refine LP_end _ rfl ?_
    exact ⟨decide ((ln seeds) > 8), H, _, env_eq ⟨rfl, rfl, trivial⟩, rfl⟩
  rintro x _ _ ⟨H, ρ, rfl, rfl⟩
  subst hk
  refine W_cond (x) rfl (fun hc1 => ?_) (fun hc1 => ?_)
  · have H := H.1 hc1
    refine W_seq ?_
    refine W_region ?_
    refine LP_ev ok 0 [(2, .bool false)] 1 rfl rfl ?_
    refine LP_end _ rfl ?_
    refine W_ret ?_
    exact ⟨_, Ret_of [.bool false] ⟨⟨rfl, rfl⟩, trivial⟩, _, H, rfl, X.ext⟩
  have H := H.2 hc1
  refine W_skip ?_
  refine W_seq ?_
  refine W_seq ?_
  refine W_region ?_
  refine LP_ev ok 0 [(14, .slice a (List.length seeds) c), (15, I (ln seeds)), (16, I 0)] 3 rfl rfl ?_
  refine LP_end _ rfl ?_
  refine W_block ?_
  obtain ⟨J, m, Hx, H⟩ := H
  refine W_loop (S := Int) (fun s ρ' w' => J s ∧ ∃ (ρ : Env), ρ' = setAll [(0, .slice a (List.length seeds) c), (14, .slice a (List.length seeds) c), (15, I (ln seeds)), (16, I s)] ρ ∧ But emp w w' ∧ Sub hx w') (fun s => m s) 0 ⟨Hx, _, env_eq ⟨rfl, rfl, rfl, rfl, trivial⟩, X, ex⟩ ?_
  rintro x2 _ wx3 ⟨Hi, ρ, rfl, X5, ex4⟩
  have H := H x2 Hi
  refine W_seq ?_
  refine W_region ?_
  refine LP_ev ok 0 [(17, .bool (decide (x2 < (ln seeds))))] 1 rfl rfl ?_
  refine LP_end _ rfl ?_
  refine W_seq ?_
  refine W_cond (decide (x2 < (ln seeds))) rfl (fun hc6 => ?_) (fun hc6 => ?_)
  · have H := H.1 hc6
    refine W_skip ?_
    refine W_seq ?_
    refine W_block ?_
    refine W_seq ?_
    refine W_region ?_
    refine LP_ev ok 0 [(18, I x2)] 1 rfl rfl ?_
    obtain ⟨x7, hi, hx8, H⟩ := H
    refine LP_index 1 rfl rfl rfl Try.underlying49 ti_22 rfl rfl r hi hx8 fun a9 cs r10 d => ?_
    refine LP_load 2 rfl rfl rfl ti_22 ag_22 rfl r10 d ex4 fun vx11 r12 => ?_
    have r15 := r12.slice
    obtain ⟨a13, c14, rfl⟩ := r15.shape
    refine LP_ev ok 3 [(3, I x2), (4, .slice a13 (List.length x7) c14)] 5 rfl rfl ?_
    refine LP_end _ rfl ?_
    refine W_seq ?_
    obtain ⟨k20, hk21, H⟩ := jn_elim H
    refine W_join2 (S := Bool) (fun s ρ' w' => k20 s ∧ ∃ (ρ : Env), ρ' = setAll [(0, .slice a (List.length seeds) c), (3, I x2), (4, .slice a13 (List.length x7) c14), (14, .slice a (List.length seeds) c), (15, I (ln seeds)), (16, I x2), (30, .bool s)] ρ ∧ But emp w w' ∧ Sub hx w') ?_ ?_
    · refine W_region ?_
      refine LP_ev ok 0 [(21, .slice a13 (List.length x7) c14), (22, I (ln x7)), (23, .slice a (List.length seeds) c), (24, I (ln seeds)), (25, .bool ((ln x7) != (ln seeds))), (26, .bool ((ln x7) != (ln seeds)))] 6 rfl rfl ?_
      refine LP_split 26 ((ln x7) != (ln seeds)) rfl (fun hc22 => ?_) (fun hc22 => ?_)
      · have H := H.1 hc22
        refine LP_ev ok 6 [(27, undef), (28, undef), (29, undef), (30, .bool true)] 10 rfl rfl ?_
        refine LP_end _ rfl ?_
        exact ⟨true, H, _, env_eq ⟨rfl, rfl, rfl, rfl, rfl, rfl, rfl, trivial⟩, X5, ex4⟩
      have H := H.2 hc22
      refine LP_ev ok 6 [(27, .slice a13 (List.length x7) c14)] 7 rfl rfl ?_
      refine LP_call 7 rfl rfl rfl cal_149 rfl (impl_areSeeds_w _ _ H wx3 r15 ex4) ?_
      rintro _ wx24 ⟨r23, H, rfl, x25⟩
      refine LP_ev ok 8 [(29, .bool (!r23)), (30, .bool (!r23))] 10 rfl rfl ?_
      refine LP_end _ rfl ?_
      have X26 := (X5.stepx x25)
      have ex27 := (ex4.ext x25)
      exact ⟨!r23, H, _, env_eq ⟨rfl, rfl, rfl, rfl, rfl, rfl, rfl, trivial⟩, X26, ex27⟩
    rintro x16 _ wx17 ⟨H, ρ, rfl, X19, ex18⟩
    subst hk21
    refine W_cond (x16) rfl (fun hc28 => ?_) (fun hc28 => ?_)
    · have H := H.1 hc28
      refine W_seq ?_
      refine W_region ?_
      refine LP_ev ok 0 [(2, .bool false)] 1 rfl rfl ?_
      refine LP_end _ rfl ?_
      refine W_ret ?_
      exact ⟨_, Ret_of [.bool false] ⟨⟨rfl, rfl⟩, trivial⟩, _, H, rfl, X19.ext⟩
    have H := H.2 hc28
    refine W_skip ?_
    refine W_seq ?_
    refine W_region ?_
    refine LP_ev ok 0 [(31, I x2), (32, I 0)] 2 rfl rfl ?_
    refine LP_end _ rfl ?_
    refine W_block ?_
    obtain ⟨J33, m34, Hx35, H⟩ := H
    refine W_loop (S := Int) (fun s ρ' w' => J33 s ∧ ∃ (ρ : Env), ρ' = setAll [(0, .slice a (List.length seeds) c), (3, I x2), (4, .slice a13 (List.length x7) c14), (14, .slice a (List.length seeds) c), (15, I (ln seeds)), (16, I x2), (31, I x2), (32, I s)] ρ ∧ But emp w w' ∧ Sub hx w') (fun s => m34 s) 0 ⟨Hx35, _, env_eq ⟨rfl, rfl, rfl, rfl, rfl, rfl, rfl, rfl, trivial⟩, X19, ex18⟩ ?_
    rintro x29 _ wx30 ⟨Hi, ρ, rfl, X32, ex31⟩
    have H := H x29 Hi
    refine W_seq ?_
    refine W_region ?_
    refine LP_ev ok 0 [(33, .bool (decide (x29 < x2)))] 1 rfl rfl ?_
    refine LP_end _ rfl ?_
    refine W_seq ?_
    refine W_cond (decide (x29 < x2)) rfl (fun hc37 => ?_) (fun hc37 => ?_)
    · have H := H.1 hc37
      refine W_skip ?_
      refine W_seq ?_
      refine W_block ?_
      refine W_seq ?_
      refine W_region ?_
      refine LP_ev ok 0 [(34, I x29), (5, I x29)] 2 rfl rfl ?_
      refine LP_end _ rfl ?_
      refine W_seq ?_
      refine W_quiet mix (by kernel_rfl) ?_
      refine QP_ev ok 0 [(35, .slice a13 (List.length x7) c14), (36, I x29)] 2 rfl rfl ?_
      obtain ⟨x38, hi39, hx40, H⟩ := H
      refine QP_index 2 rfl rfl rfl Try.underlying22 ti_3 rfl rfl r15 hi39 hx40 fun a41 cs42 r43 d44 => ?_
      refine QP_load 3 rfl rfl rfl ti_3 ag_3 rfl r43 d44 ex31 fun vx45 r46 => ?_
      obtain rfl := r46.int
      refine QP_ev ok 4 [(39, .slice a (List.length seeds) c), (40, I x29)] 6 rfl rfl ?_
      obtain ⟨x47, hi48, hx49, H⟩ := H
      refine QP_index 6 rfl rfl rfl Try.underlying49 ti_22 rfl rfl r hi48 hx49 fun a50 cs51 r52 d53 => ?_
      refine QP_load 7 rfl rfl rfl ti_22 ag_22 rfl r52 d53 ex31 fun vx54 r55 => ?_
      have r58 := r55.slice
      obtain ⟨a56, c57, rfl⟩ := r58.shape
      refine QP_ev ok 8 [(43, I x2)] 9 rfl rfl ?_
      obtain ⟨x59, hi60, hx61, H⟩ := H
      refine QP_index 9 rfl rfl rfl Try.underlying22 ti_3 rfl rfl r58 hi60 hx61 fun a62 cs63 r64 d65 => ?_
      refine QP_load 10 rfl rfl rfl ti_3 ag_3 rfl r64 d65 ex31 fun vx66 r67 => ?_
      obtain rfl := r67.int
      refine QP_ev ok 11 [(46, .bool (x38 != x59))] 12 rfl rfl ?_
      refine QP_end _ rfl fun wx68 x69 => ?_
      refine W_cond (x38 != x59) rfl (fun hc70 => ?_) (fun hc70 => ?_)
      · have H := H.1 hc70
        refine W_seq ?_
        refine W_region ?_
        refine LP_ev ok 0 [(2, .bool false)] 1 rfl rfl ?_
        refine LP_end _ rfl ?_
        refine W_ret ?_
        have X71 := (X32.stepx x69)
        exact ⟨_, Ret_of [.bool false] ⟨⟨rfl, rfl⟩, trivial⟩, _, H, rfl, X71.ext⟩
      have H := H.2 hc70
      refine W_skip ?_
      refine W_region ?_
      refine LP_ev ok 0 [(47, I (wr (x29 + 1))), (32, I (wr (x29 + 1)))] 2 rfl rfl ?_
      refine LP_end _ rfl ?_
      have X72 := (X32.stepx x69)
      have ex73 := (ex31.ext x69)
      exact ⟨wr (x29 + 1), ⟨H.1, _, env_eq ⟨rfl, rfl, rfl, rfl, rfl, rfl, rfl, rfl, trivial⟩, X72, ex73⟩, H.2⟩
    have H := H.2 hc37
    refine W_exit ?_
    refine (if_pos rfl).mpr ?_
    refine W_region ?_
    refine LP_ev ok 0 [(48, I (wr (x2 + 1))), (16, I (wr (x2 + 1)))] 2 rfl rfl ?_
    refine LP_end _ rfl ?_
    exact ⟨wr (x2 + 1), ⟨H.1, _, env_eq ⟨rfl, rfl, rfl, rfl, trivial⟩, X32, ex31⟩, H.2⟩
  have H := H.2 hc6
  refine W_exit ?_
  refine (if_pos rfl).mpr ?_
  refine W_seq ?_
  refine W_region ?_
  refine LP_ev ok 0 [(2, .bool true)] 1 rfl rfl ?_
  refine LP_end _ rfl ?_
  refine W_ret ?_
  exact ⟨_, Ret_of [.bool true] ⟨⟨rfl, rfl⟩, trivial⟩, _, H, rfl, X5.ext⟩

end Go.Proofs.Ytbegmfmabcpofaa
