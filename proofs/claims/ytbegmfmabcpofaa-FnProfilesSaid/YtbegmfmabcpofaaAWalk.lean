/- The walks: each Go function does what its meaning says. -/
import Derived.Test.YtbegmfmabcpofaaADefs
import Derived.Test.YtbegmfmabcpofaaProg
import Derived.KernelRfl
set_option linter.unusedVariables false
set_option autoImplicit false
namespace Go.Proofs.Ytbegmfmabcpofaa
open Go Go.RowKit Go.Gv

open Go.Proofs
def ty : Ty := Ty.of [(3, .int .i64), (4, .bool), (5, .int .u8), (22, .slice 3), (44, .slice 34), (71, .slice 5), (112, .int .u64)] [((34, 0), 0), ((34, 1), 1), ((114, 0), 0), ((114, 1), 1), ((114, 2), 2)] [(34, [.int .i64 0, .int .i64 0], [(0, 1), (1, 1)]), (114, [.slice none 0 0, .int .i64 0, .int .u64 0], [(0, 1), (1, 1), (2, 1)])]
theorem fa34_0 : FldOk Try.prog 34 0 0 := fun _ _ => by kernel_rfl
theorem fa34_1 : FldOk Try.prog 34 1 1 := fun _ _ => by kernel_rfl
theorem fa114_0 : FldOk Try.prog 114 0 0 := fun _ _ => by kernel_rfl
theorem fa114_1 : FldOk Try.prog 114 1 1 := fun _ _ => by kernel_rfl
theorem fa114_2 : FldOk Try.prog 114 2 2 := fun _ _ => by kernel_rfl
theorem so34 : StrOk Try.prog 34 [.int .i64 0, .int .i64 0] [(0, 1), (1, 1)] := StrOk.of (zc := #[.int .i64 0, .int .i64 0]) Try.underlying34 (fun _ => by kernel_rfl) rfl (fun _ => by kernel_rfl)
theorem so114 : StrOk Try.prog 114 [.slice none 0 0, .int .i64 0, .int .u64 0] [(0, 1), (1, 1), (2, 1)] := StrOk.of (zc := #[.slice none 0 0, .int .i64 0, .int .u64 0]) Try.underlying114 (fun _ => by kernel_rfl) rfl (fun _ => by kernel_rfl)
theorem ok : TyOk Try.prog ty := .of ⟨Try.underlying3, Try.underlying4, Try.underlying5, Try.underlying22, Try.underlying44, Try.underlying71, Try.underlying112, trivial⟩ ⟨fa34_0, fa34_1, fa114_0, fa114_1, fa114_2, trivial⟩ ⟨so34, so114, trivial⟩
theorem ti_3 : TyI Try.prog 3 1 8 (.int .i64 0) := .mk' (by kernel_rfl) rfl
theorem ti_5 : TyI Try.prog 5 1 1 (.int .u8 0) := .mk' (by kernel_rfl) rfl
theorem ti_34 : TyI Try.prog 34 2 16 (.agg #[.int .i64 0, .int .i64 0]) := .mk' (by kernel_rfl) rfl
theorem ti_71 : TyI Try.prog 71 1 24 (.slice none 0 0) := .mk' (by kernel_rfl) rfl
theorem ti_112 : TyI Try.prog 112 1 8 (.int .u64 0) := .mk' (by kernel_rfl) rfl
theorem ag_3 : AggT Try.prog 3 false := ⟨_, Try.underlying3, by simp⟩
theorem ag_5 : AggT Try.prog 5 false := ⟨_, Try.underlying5, by simp⟩
theorem ag_34 : AggT Try.prog 34 true := ⟨_, Try.underlying34, by simp⟩
theorem ag_71 : AggT Try.prog 71 false := ⟨_, Try.underlying71, by simp⟩
theorem ag_112 : AggT Try.prog 112 false := ⟨_, Try.underlying112, by simp⟩
theorem mix : Try.prog.follows .mixedOrders = true := by kernel_rfl
theorem eq_34 : Eq2 Try.prog 34 := by
  refine ⟨by kernel_rfl, by kernel_rfl, by kernel_rfl, ?_⟩
  simp only [Program.fieldsOf, Try.underlying34]
  exact ⟨_, _, rfl, by decide, by decide, Try.underlying3, Try.underlying3, fun _ _ _ => by kernel_rfl, fun _ _ _ => by kernel_rfl⟩
theorem cal_20 : Callable Try.prog 20 := .mk Try.func20 rfl (by decide)
theorem cal_21 : Callable Try.prog 21 := .mk Try.func21 rfl (by decide)
theorem cal_22 : Callable Try.prog 22 := .mk Try.func22 rfl (by decide)
theorem cal_23 : Callable Try.prog 23 := .mk Try.func23 rfl (by decide)
theorem cal_24 : Callable Try.prog 24 := .mk Try.func24 rfl (by decide)
theorem cal_25 : Callable Try.prog 25 := .mk Try.func25 rfl (by decide)
theorem cal_26 : Callable Try.prog 26 := .mk Try.func26 rfl (by decide)
theorem cal_27 : Callable Try.prog 27 := .mk Try.func27 rfl (by decide)
theorem cal_30 : Callable Try.prog 30 := .mk Try.func30 rfl (by decide)
theorem cal_31 : Callable Try.prog 31 := .mk Try.func31 rfl (by decide)
theorem cal_32 : Callable Try.prog 32 := .mk Try.func32 rfl (by decide)
theorem cal_38 : Callable Try.prog 38 := .mk Try.func38 rfl (by decide)
theorem cal_45 : Callable Try.prog 45 := .mk Try.func45 rfl (by decide)
theorem cal_46 : Callable Try.prog 46 := .mk Try.func46 rfl (by decide)
theorem cal_49 : Callable Try.prog 49 := .mk Try.func49 rfl (by decide)
theorem cal_50 : Callable Try.prog 50 := .mk Try.func50 rfl (by decide)
theorem cal_51 : Callable Try.prog 51 := .mk Try.func51 rfl (by decide)
theorem cal_52 : Callable Try.prog 52 := .mk Try.func52 rfl (by decide)
theorem cal_53 : Callable Try.prog 53 := .mk Try.func53 rfl (by decide)
theorem cal_54 : Callable Try.prog 54 := .mk Try.func54 rfl (by decide)
theorem cal_55 : Callable Try.prog 55 := .mk Try.func55 rfl (by decide)
theorem cal_56 : Callable Try.prog 56 := .mk Try.func56 rfl (by decide)
theorem cal_65 : Callable Try.prog 65 := .mk Try.func65 rfl (by decide)
theorem cal_66 : Callable Try.prog 66 := .mk Try.func66 rfl (by decide)
theorem cal_67 : Callable Try.prog 67 := .mk Try.func67 rfl (by decide)
theorem cal_68 : Callable Try.prog 68 := .mk Try.func68 rfl (by decide)
theorem cal_76 : Callable Try.prog 76 := .mk Try.func76 rfl (by decide)
theorem cal_77 : Callable Try.prog 77 := .mk Try.func77 rfl (by decide)
theorem cal_78 : Callable Try.prog 78 := .mk Try.func78 rfl (by decide)
theorem cal_79 : Callable Try.prog 79 := .mk Try.func79 rfl (by decide)
theorem cal_80 : Callable Try.prog 80 := .mk Try.func80 rfl (by decide)
theorem cal_88 : Callable Try.prog 88 := .mk Try.func88 rfl (by decide)
theorem cal_89 : Callable Try.prog 89 := .mk Try.func89 rfl (by decide)
theorem cal_90 : Callable Try.prog 90 := .mk Try.func90 rfl (by decide)
theorem cal_91 : Callable Try.prog 91 := .mk Try.func91 rfl (by decide)
theorem cal_92 : Callable Try.prog 92 := .mk Try.func92 rfl (by decide)
theorem cal_93 : Callable Try.prog 93 := .mk Try.func93 rfl (by decide)
theorem cal_94 : Callable Try.prog 94 := .mk Try.func94 rfl (by decide)
theorem cal_96 : Callable Try.prog 96 := .mk Try.func96 rfl (by decide)
theorem cal_101 : Callable Try.prog 101 := .mk Try.func101 rfl (by decide)
theorem cal_107 : Callable Try.prog 107 := .mk Try.func107 rfl (by decide)
theorem cal_108 : Callable Try.prog 108 := .mk Try.func108 rfl (by decide)
theorem cal_109 : Callable Try.prog 109 := .mk Try.func109 rfl (by decide)
theorem cal_110 : Callable Try.prog 110 := .mk Try.func110 rfl (by decide)
theorem cal_111 : Callable Try.prog 111 := .mk Try.func111 rfl (by decide)
theorem cal_112 : Callable Try.prog 112 := .mk Try.func112 rfl (by decide)
theorem cal_113 : Callable Try.prog 113 := .mk Try.func113 rfl (by decide)
theorem cal_114 : Callable Try.prog 114 := .mk Try.func114 rfl (by decide)
theorem cal_115 : Callable Try.prog 115 := .mk Try.func115 rfl (by decide)
theorem cal_116 : Callable Try.prog 116 := .mk Try.func116 rfl (by decide)
theorem cal_117 : Callable Try.prog 117 := .mk Try.func117 rfl (by decide)
theorem cal_130 : Callable Try.prog 130 := .mk Try.func130 rfl (by decide)
theorem cal_131 : Callable Try.prog 131 := .mk Try.func131 rfl (by decide)
theorem cal_132 : Callable Try.prog 132 := .mk Try.func132 rfl (by decide)
theorem cal_135 : Callable Try.prog 135 := .mk Try.func135 rfl (by decide)
theorem cal_140 : Callable Try.prog 140 := .mk Try.func140 rfl (by decide)
theorem cal_141 : Callable Try.prog 141 := .mk Try.func141 rfl (by decide)
theorem cal_144 : Callable Try.prog 144 := .mk Try.func144 rfl (by decide)
theorem cal_145 : Callable Try.prog 145 := .mk Try.func145 rfl (by decide)
theorem cal_146 : Callable Try.prog 146 := .mk Try.func146 rfl (by decide)
theorem cal_148 : Callable Try.prog 148 := .mk Try.func148 rfl (by decide)
theorem cal_153 : Callable Try.prog 153 := .mk Try.func153 rfl (by decide)

set_option maxRecDepth 8000 in
set_option maxHeartbeats 4000000 in
theorem spec_l1In_w (n : Int) (lo : Int) (hi : Int) (Q : Bool → Prop) (H : spec_l1In n lo hi Q) (w : World)  :
    CallsTo Try.prog 76 #[I n, I lo, I hi] w fun v w' => ∃ r0, Q r0 ∧ v = .bool r0 ∧ Ext w w' := by
  refine enter (args := [I n, I lo, I hi]) 15 Try.func76 rfl rfl rfl ?_
  refine W_forget [(0, I n), (1, I lo), (2, I hi)] ⟨rfl, rfl, rfl, trivial⟩ fun ρ => ?_
  have X := But.refl emp w
  refine W_seq ?_
  refine W_region ?_
  refine LP_ev ok 0 [(6, .bool false)] 1 rfl rfl ?_
  refine LP_end _ rfl ?_
  obtain ⟨k, hk, H⟩ := jn_elim H
  refine W_join2 (S := Bool) (fun s ρ' w' => k s ∧ ∃ (ρ : Env), ρ' = setAll [(6, .bool s)] ρ ∧ w = w') ?_ ?_
  · refine W_region ?_
    refine LP_ev ok 0 [(7, I n), (8, I lo), (9, .bool (decide (n ≥ lo))), (10, .bool (decide (n ≥ lo)))] 4 rfl rfl ?_
    refine LP_split 10 (decide (n ≥ lo)) rfl (fun hc => ?_) (fun hc => ?_)
    · have H := H.1 hc
      refine LP_ev ok 4 [(11, I n), (12, I hi), (13, .bool (decide (n ≤ hi))), (14, .bool (decide (n ≤ hi))), (6, .bool (decide (n ≤ hi)))] 9 rfl rfl ?_
      refine LP_end _ rfl ?_
      exact ⟨decide (n ≤ hi), H, _, env_eq ⟨rfl, trivial⟩, rfl⟩
    have H := H.2 hc
    refine LP_ev ok 4 [(11, undef), (12, undef), (13, undef), (14, .bool false), (6, .bool false)] 9 rfl rfl ?_
    refine LP_end _ rfl ?_
    exact ⟨false, H, _, env_eq ⟨rfl, trivial⟩, rfl⟩
  rintro x _ _ ⟨H, ρ, rfl, rfl⟩
  subst hk
  refine W_ret ?_
  exact ⟨_, Ret_of [.bool x] ⟨⟨rfl, rfl⟩, trivial⟩, _, H, rfl, X.ext⟩

set_option maxRecDepth 8000 in
set_option maxHeartbeats 4000000 in
theorem spec_MaskCounts_w (m : Int) (n : Int) (Q : (List Int) → Bool → Prop) (H : spec_MaskCounts m n Q) (w : World)  :
    CallsTo Try.prog 20 #[I m, I n] w fun v w' => ∃ r0 r1 u0 g0, Q r0 r1 ∧ v = .tuple #[u0, .bool r1] ∧ Ext w w' ∧ OS 3 g0 emp u0 r0 ∧ Sub g0 w' ∧ Fresh w.heap.size g0 := by
  refine enter (args := [I m, I n]) 55 Try.func20 rfl rfl rfl ?_
  refine W_forget [(0, I m), (1, I n)] ⟨rfl, rfl, trivial⟩ fun ρ => ?_
  have X := But.refl emp w
  refine W_seq ?_
  refine W_region ?_
  refine LP_ev ok 0 [(4, .slice none 0 0), (5, .bool false)] 2 rfl rfl ?_
  refine LP_end _ rfl ?_
  refine W_seq ?_
  obtain ⟨k, hk, H⟩ := jn_elim H
  refine W_join2 (S := Bool) (fun s ρ' w' => k s ∧ ∃ (ρ : Env), ρ' = setAll [(0, I m), (1, I n), (18, .bool s)] ρ ∧ But emp w w') ?_ ?_
  · refine W_region ?_
    refine LP_ev ok 0 [(11, I m)] 1 rfl rfl ?_
    refine LP_call 1 rfl rfl rfl cal_76 rfl (spec_l1In_w _ _ _ _ H w ) ?_
    rintro _ wx2 ⟨r, H, rfl, x3⟩
    refine LP_ev ok 2 [(13, .bool (!r)), (14, .bool (!r))] 4 rfl rfl ?_
    refine LP_split 14 (!r) rfl (fun hc => ?_) (fun hc => ?_)
    · have H := H.1 hc
      refine LP_ev ok 4 [(15, undef), (16, undef), (17, undef), (18, .bool true)] 8 rfl rfl ?_
      refine LP_end _ rfl ?_
      have X4 := (X.stepx x3)
      exact ⟨true, H, _, env_eq ⟨rfl, rfl, rfl, trivial⟩, X4⟩
    have H := H.2 hc
    refine LP_ev ok 4 [(15, I n)] 5 rfl rfl ?_
    refine LP_call 5 rfl rfl rfl cal_76 rfl (spec_l1In_w _ _ _ _ H wx2 ) ?_
    rintro _ wx6 ⟨r5, H, rfl, x7⟩
    refine LP_ev ok 6 [(17, .bool (!r5)), (18, .bool (!r5))] 8 rfl rfl ?_
    refine LP_end _ rfl ?_
    have X8 := ((X.stepx x3).stepx x7)
    exact ⟨!r5, H, _, env_eq ⟨rfl, rfl, rfl, trivial⟩, X8⟩
  rintro x _ wx ⟨H, ρ, rfl, X1⟩
  subst hk
  refine W_cond (x) rfl (fun hc9 => ?_) (fun hc9 => ?_)
  · have H := H.1 hc9
    refine W_seq ?_
    refine W_region ?_
    refine LP_ev ok 0 [(4, .slice none 0 0), (5, .bool false)] 2 rfl rfl ?_
    refine LP_end _ rfl ?_
    refine W_ret ?_
    exact ⟨_, Ret_of [.slice none 0 0, .bool false] ⟨⟨rfl, rfl⟩, ⟨rfl, rfl⟩, trivial⟩, _, _, _, emp, H, rfl, X1.ext, OS.nil, (emp_sub _), (emp_fresh _)⟩
  have H := H.2 hc9
  refine W_skip ?_
  refine W_seq ?_
  refine W_region ?_
  refine LP_ev ok 0 [(19, I m)] 1 rfl rfl ?_
  obtain ⟨hn, hb, H⟩ := H
  refine LP_make (α := Int) 1 rfl rfl rfl Try.underlying22 ti_3 (x0 := (0 : Int)) rfl rfl hn (by first | omega | (simp only [ln] at *; omega)) (by first | omega | (simp only [ln] at *; omega)) fun hx vx wx10 x11 o ex f => ?_
  obtain ⟨a, c, rfl⟩ := o.shape
  refine LP_ev ok 2 [(6, .slice a (List.length (List.replicate (Int.toNat m) ((0 : Int)))) c)] 3 rfl rfl ?_
  refine LP_end _ rfl ?_
  refine W_seq ?_
  refine W_region ?_
  refine LP_ev ok 0 [(21, .slice a (List.length (List.replicate (Int.toNat m) ((0 : Int)))) c)] 1 rfl rfl ?_
  obtain ⟨hi, hl, H⟩ := H
  refine LP_indexw 1 rfl rfl rfl Try.underlying22 ti_3 rfl rfl o hi hl fun a12 wa => ?_
  refine LP_set 2 rfl rfl rfl rfl rfl wa (Le.refl emp) ⟨_, rfl, rfl⟩ ex fun hx13 wx14 o15 ex16 y dm => ?_
  refine LP_end _ rfl ?_
  refine W_seq ?_
  refine W_block ?_
  obtain ⟨J, m27, Hx, H⟩ := H
  have f28 := f.mono X1.size
  have X29 := ((X1.stepx x11).step y (f28.dom _))
  have X31 := (X1.stepx x11)
  have f30 := (dm _).fresh f28 X31.size
  refine W_loop (S := Int × (List Int)) (fun s ρ' w' => J s.1 s.2 ∧ ∃ (ρ : Env) (vx18 : Value) (hx19 : PH), ρ' = setAll [(0, I m), (1, I s.1), (6, vx18)] ρ ∧ But emp w w' ∧ OS 3 hx19 emp vx18 s.2 ∧ Sub hx19 w' ∧ Fresh w.heap.size hx19) (fun s => m27 s.1 s.2) (n, List.set (List.replicate (Int.toNat m) ((0 : Int))) (Int.toNat 0) 1) ⟨Hx, _, .slice a (List.length (List.replicate (Int.toNat m) ((0 : Int)))) c, hx13, env_eq ⟨rfl, rfl, rfl, trivial⟩, X29, o15, ex16, f30⟩ ?_
  rintro ⟨n17, counts⟩ _ wx23 ⟨Hi, ρ, vx18, hx19, rfl, X26, o20, ex21, f22⟩
  have H := H n17 counts Hi
  obtain ⟨a24, c25, rfl⟩ := o20.shape
  refine W_seq ?_
  refine W_seq ?_
  refine W_region ?_
  refine LP_ev ok 0 [(23, I n17), (24, .bool (decide (n17 > 0)))] 2 rfl rfl ?_
  refine LP_end _ rfl ?_
  refine W_cond (decide (n17 > 0)) rfl (fun hc32 => ?_) (fun hc32 => ?_)
  · have H := H.1 hc32
    refine W_skip ?_
    refine W_seq ?_
    refine W_block ?_
    refine W_seq ?_
    refine W_region ?_
    refine LP_ev ok 0 [(27, I m)] 1 rfl rfl ?_
    obtain ⟨hn33, hb34, H⟩ := H
    refine LP_make (α := Int) 1 rfl rfl rfl Try.underlying22 ti_3 (x0 := (0 : Int)) rfl rfl hn33 (by first | omega | (simp only [ln] at *; omega)) (by first | omega | (simp only [ln] at *; omega)) fun hx35 vx36 wx37 x38 o39 ex40 f41 => ?_
    obtain ⟨a42, c43, rfl⟩ := o39.shape
    refine LP_ev ok 2 [(7, .slice a42 (List.length (List.replicate (Int.toNat m) ((0 : Int)))) c43)] 3 rfl rfl ?_
    refine LP_end _ rfl ?_
    refine W_seq ?_
    refine W_seq ?_
    refine W_region ?_
    refine LP_ev ok 0 [(29, .slice a24 (List.length counts) c25), (30, I (ln counts)), (31, I 0)] 3 rfl rfl ?_
    refine LP_end _ rfl ?_
    refine W_block ?_
    obtain ⟨J53, m54, Hx55, H⟩ := H
    have X56 := (X26.stepx x38)
    have f57 := f41.mono X26.size
    have ex58 := (ex21.ext x38)
    refine W_loop (S := (List Int) × Int) (fun s ρ' w' => J53 s.1 s.2 ∧ ∃ (ρ : Env) (hx45 : PH), ρ' = setAll [(0, I m), (1, I n17), (7, .slice a42 (List.length (List.replicate (Int.toNat m) ((0 : Int)))) c43), (29, .slice a24 (List.length counts) c25), (30, I (ln counts)), (31, I s.2)] ρ ∧ But emp w w' ∧ OS 3 hx45 emp (.slice a42 (List.length (List.replicate (Int.toNat m) ((0 : Int)))) c43) s.1 ∧ Sub hx45 w' ∧ Fresh w.heap.size hx45 ∧ Sub hx19 w' ∧ Dj hx45 hx19) (fun s => m54 s.1 s.2) (List.replicate (Int.toNat m) ((0 : Int)), 0) ⟨Hx55, _, hx35, env_eq ⟨rfl, rfl, rfl, rfl, rfl, rfl, trivial⟩, X56, o39, ex40, f57, ex58, (Dj.of_fresh ex21 f41).symm⟩ ?_
    rintro ⟨nextx, x49⟩ _ wx50 ⟨Hi, ρ, hx45, rfl, X52, o46, ex47, f48, ex51, d⟩
    have H := H nextx x49 Hi
    refine W_seq ?_
    refine W_region ?_
    refine LP_ev ok 0 [(32, .bool (decide (x49 < (ln counts))))] 1 rfl rfl ?_
    refine LP_end _ rfl ?_
    refine W_seq ?_
    refine W_cond (decide (x49 < (ln counts))) rfl (fun hc60 => ?_) (fun hc60 => ?_)
    · have H := H.1 hc60
      refine W_skip ?_
      refine W_seq ?_
      refine W_block ?_
      refine W_seq ?_
      refine W_region ?_
      refine LP_ev ok 0 [(33, I x49)] 1 rfl rfl ?_
      obtain ⟨x61, hi62, hx63, H⟩ := H
      refine LP_index 1 rfl rfl rfl Try.underlying22 ti_3 rfl rfl o20.readf hi62 hx63 fun a64 cs r65 d66 => ?_
      refine LP_load 2 rfl rfl rfl ti_3 ag_3 rfl r65 d66 ex51 fun vx67 r68 => ?_
      obtain rfl := r68.int
      refine LP_ev ok 3 [(8, I x49), (9, I x61)] 5 rfl rfl ?_
      refine LP_end _ rfl ?_
      refine W_seq ?_
      refine W_region ?_
      refine LP_ev ok 0 [(10, I 0)] 1 rfl rfl ?_
      refine LP_end _ rfl ?_
      refine W_block ?_
      obtain ⟨J80, m81, Hx82, H⟩ := H
      refine W_loop (S := (List Int) × Int) (fun s ρ' w' => J80 s.1 s.2 ∧ ∃ (ρ : Env) (hx71 : PH), ρ' = setAll [(0, I m), (1, I n17), (7, .slice a42 (List.length (List.replicate (Int.toNat m) ((0 : Int)))) c43), (8, I x49), (9, I x61), (10, I s.2), (29, .slice a24 (List.length counts) c25), (30, I (ln counts)), (31, I x49)] ρ ∧ But emp w w' ∧ OS 3 hx71 emp (.slice a42 (List.length (List.replicate (Int.toNat m) ((0 : Int)))) c43) s.1 ∧ Sub hx71 w' ∧ Fresh w.heap.size hx71 ∧ Sub hx19 w' ∧ Dj hx71 hx19) (fun s => m81 s.1 s.2) (nextx, 0) ⟨Hx82, _, hx45, env_eq ⟨rfl, rfl, rfl, rfl, rfl, rfl, rfl, rfl, rfl, trivial⟩, X52, o46, ex47, f48, ex51, d⟩ ?_
      rintro ⟨nextx69, x75⟩ _ wx76 ⟨Hi, ρ, hx71, rfl, X79, o72, ex73, f74, ex77, d78⟩
      have H := H nextx69 x75 Hi
      refine W_seq ?_
      refine W_seq ?_
      refine W_region ?_
      refine LP_ev ok 0 [(36, I x75), (37, I m), (38, .bool (decide (x75 < m)))] 3 rfl rfl ?_
      refine LP_end _ rfl ?_
      refine W_cond (decide (x75 < m)) rfl (fun hc84 => ?_) (fun hc84 => ?_)
      · have H := H.1 hc84
        refine W_skip ?_
        refine W_seq ?_
        refine W_block ?_
        refine W_region ?_
        refine LP_ev ok 0 [(41, .slice a42 (List.length (List.replicate (Int.toNat m) ((0 : Int)))) c43), (42, I x49), (43, I x75), (44, I (wr (x49 + x75))), (45, I m)] 5 rfl rfl ?_
        obtain ⟨hz, H⟩ := H
        refine LP_val 5 _ rfl rfl (ex_rem rfl rfl rfl hz _) ?_
        obtain ⟨x85, hi86, hx87, H⟩ := H
        refine LP_index 6 rfl rfl rfl Try.underlying22 ti_3 rfl rfl o72.readf hi86 hx87 fun a88 cs89 r90 d91 => ?_
        refine LP_load 7 rfl rfl rfl ti_3 ag_3 rfl r90 d91 ex73 fun vx92 r93 => ?_
        obtain rfl := r93.int
        refine LP_ev ok 8 [(49, I x61), (50, I (wr (x85 + x61)))] 10 rfl rfl ?_
        obtain ⟨hi94, hl95, H⟩ := H
        refine LP_indexw 10 rfl rfl rfl Try.underlying22 ti_3 rfl rfl o72 hi94 hl95 fun a96 wa97 => ?_
        refine LP_set 11 rfl rfl rfl rfl rfl wa97 (Le.refl emp) ⟨_, rfl, rfl⟩ ex73 fun hx98 wx99 o100 ex101 y102 dm103 => ?_
        refine LP_end _ rfl ?_
        refine W_region ?_
        refine LP_ev ok 0 [(39, I x75), (40, I (wr (x75 + 1))), (10, I (wr (x75 + 1)))] 3 rfl rfl ?_
        refine LP_end _ rfl ?_
        have X104 := (X79.step y102 (f74.dom _))
        have f105 := (dm103 _).fresh f74 X79.size
        have ex106 := (ex77.but y102 d78)
        exact ⟨(List.set nextx69 (Int.toNat (Int.tmod (wr (x49 + x75)) m)) (wr (x85 + x61)), wr (x75 + 1)), ⟨H.1, _, hx98, env_eq ⟨rfl, rfl, rfl, rfl, rfl, rfl, rfl, rfl, rfl, trivial⟩, X104, o100, ex101, f105, ex106, (DomLe.dj (dm103 _) d78 ex77)⟩, H.2⟩
      have H := H.2 hc84
      refine W_exit ?_
      refine (if_pos rfl).mpr ?_
      refine W_region ?_
      refine LP_ev ok 0 [(52, I (wr (x49 + 1))), (31, I (wr (x49 + 1)))] 2 rfl rfl ?_
      refine LP_end _ rfl ?_
      exact ⟨(nextx69, wr (x49 + 1)), ⟨H.1, _, hx71, env_eq ⟨rfl, rfl, rfl, rfl, rfl, rfl, trivial⟩, X79, o72, ex73, f74, ex77, d78⟩, H.2⟩
    have H := H.2 hc60
    refine W_exit ?_
    refine (if_pos rfl).mpr ?_
    refine W_region ?_
    refine LP_ev ok 0 [(53, .slice a42 (List.length (List.replicate (Int.toNat m) ((0 : Int)))) c43), (6, .slice a42 (List.length (List.replicate (Int.toNat m) ((0 : Int)))) c43)] 2 rfl rfl ?_
    refine LP_end _ rfl ?_
    refine W_region ?_
    refine LP_ev ok 0 [(25, I n17), (26, I (wr (n17 - 1))), (1, I (wr (n17 - 1)))] 3 rfl rfl ?_
    refine LP_end _ rfl ?_
    exact ⟨(wr (n17 - 1), nextx), ⟨H.1, _, .slice a42 (List.length (List.replicate (Int.toNat m) ((0 : Int)))) c43, hx45, env_eq ⟨rfl, rfl, rfl, trivial⟩, X52, o46, ex47, f48⟩, H.2⟩
  have H := H.2 hc32
  refine W_exit ?_
  refine (if_pos rfl).mpr ?_
  refine W_seq ?_
  refine W_region ?_
  refine LP_ev ok 0 [(54, .slice a24 (List.length counts) c25), (4, .slice a24 (List.length counts) c25), (5, .bool true)] 3 rfl rfl ?_
  refine LP_end _ rfl ?_
  refine W_ret ?_
  exact ⟨_, Ret_of [.slice a24 (List.length counts) c25, .bool true] ⟨⟨rfl, rfl⟩, ⟨rfl, rfl⟩, trivial⟩, _, _, _, _, H, rfl, X26.ext, o20, ex21, f22⟩

set_option maxRecDepth 8000 in
set_option maxHeartbeats 4000000 in
theorem impl_MaskCounts_w (m : Int) (n : Int) (Q : (List Int) → Bool → Prop) (H : impl_MaskCounts m n Q) (w : World)  :
    CallsTo Try.prog 21 #[I m, I n] w fun v w' => ∃ r0 r1 u0 g0, Q r0 r1 ∧ v = .tuple #[u0, .bool r1] ∧ Ext w w' ∧ OS 3 g0 emp u0 r0 ∧ Sub g0 w' ∧ Fresh w.heap.size g0 := by
  refine enter (args := [I m, I n]) 44 Try.func21 rfl rfl rfl ?_
  refine W_forget [(0, I m), (1, I n)] ⟨rfl, rfl, trivial⟩ fun ρ => ?_
  have X := But.refl emp w
  refine W_seq ?_
  refine W_region ?_
  refine LP_ev ok 0 [(4, .slice none 0 0), (5, .bool false)] 2 rfl rfl ?_
  refine LP_end _ rfl ?_
  refine W_seq ?_
  obtain ⟨k, hk, H⟩ := jn_elim H
  refine W_join2 (S := Bool) (fun s ρ' w' => k s ∧ ∃ (ρ : Env), ρ' = setAll [(0, I m), (1, I n), (22, .bool s)] ρ ∧ w = w') ?_ ?_
  · refine W_region ?_
    refine LP_ev ok 0 [(9, I m), (10, .bool (decide (m < 2))), (11, .bool (decide (m < 2)))] 3 rfl rfl ?_
    refine LP_split 11 (decide (m < 2)) rfl (fun hc => ?_) (fun hc => ?_)
    · have H := H.1 hc
      refine LP_ev ok 3 [(12, undef), (13, undef), (14, .bool true), (15, .bool true), (16, undef), (17, undef), (18, .bool true), (19, .bool true), (20, undef), (21, undef), (22, .bool true)] 14 rfl rfl ?_
      refine LP_end _ rfl ?_
      exact ⟨true, H, _, env_eq ⟨rfl, rfl, rfl, trivial⟩, rfl⟩
    have H := H.2 hc
    refine LP_ev ok 3 [(12, I m), (13, .bool (decide (m > 20))), (14, .bool (decide (m > 20))), (15, .bool (decide (m > 20)))] 7 rfl rfl ?_
    refine LP_split 15 (decide (m > 20)) rfl (fun hc1 => ?_) (fun hc1 => ?_)
    · have H := H.1 hc1
      refine LP_ev ok 7 [(16, undef), (17, undef), (18, .bool true), (19, .bool true), (20, undef), (21, undef), (22, .bool true)] 14 rfl rfl ?_
      refine LP_end _ rfl ?_
      exact ⟨true, H, _, env_eq ⟨rfl, rfl, rfl, trivial⟩, rfl⟩
    have H := H.2 hc1
    refine LP_ev ok 7 [(16, I n), (17, .bool (decide (n < 1))), (18, .bool (decide (n < 1))), (19, .bool (decide (n < 1)))] 11 rfl rfl ?_
    refine LP_split 19 (decide (n < 1)) rfl (fun hc2 => ?_) (fun hc2 => ?_)
    · have H := H.1 hc2
      refine LP_ev ok 11 [(20, undef), (21, undef), (22, .bool true)] 14 rfl rfl ?_
      refine LP_end _ rfl ?_
      exact ⟨true, H, _, env_eq ⟨rfl, rfl, rfl, trivial⟩, rfl⟩
    have H := H.2 hc2
    refine LP_ev ok 11 [(20, I n), (21, .bool (decide (n > 3))), (22, .bool (decide (n > 3)))] 14 rfl rfl ?_
    refine LP_end _ rfl ?_
    exact ⟨decide (n > 3), H, _, env_eq ⟨rfl, rfl, rfl, trivial⟩, rfl⟩
  rintro x _ _ ⟨H, ρ, rfl, rfl⟩
  subst hk
  refine W_cond (x) rfl (fun hc3 => ?_) (fun hc3 => ?_)
  · have H := H.1 hc3
    refine W_seq ?_
    refine W_region ?_
    refine LP_ev ok 0 [(4, .slice none 0 0), (5, .bool false)] 2 rfl rfl ?_
    refine LP_end _ rfl ?_
    refine W_ret ?_
    exact ⟨_, Ret_of [.slice none 0 0, .bool false] ⟨⟨rfl, rfl⟩, ⟨rfl, rfl⟩, trivial⟩, _, _, _, emp, H, rfl, X.ext, OS.nil, (emp_sub _), (emp_fresh _)⟩
  have H := H.2 hc3
  refine W_skip ?_
  refine W_seq ?_
  refine W_region ?_
  refine LP_ev ok 0 [(6, I 1)] 1 rfl rfl ?_
  refine LP_end _ rfl ?_
  refine W_seq ?_
  refine W_seq ?_
  refine W_region ?_
  refine LP_ev ok 0 [(23, I n), (24, I (wr (n - 1))), (25, I 0)] 3 rfl rfl ?_
  refine LP_end _ rfl ?_
  refine W_block ?_
  obtain ⟨J, m6, Hx, H⟩ := H
  refine W_loop (S := Int × Int) (fun s ρ' w' => J s.1 s.2 ∧ ∃ (ρ : Env), ρ' = setAll [(0, I m), (6, I s.1), (24, I (wr (n - 1))), (25, I s.2)] ρ ∧ w = w') (fun s => m6 s.1 s.2) (1, 0) ⟨Hx, _, env_eq ⟨rfl, rfl, rfl, rfl, trivial⟩, rfl⟩ ?_
  rintro ⟨each, x4⟩ _ _ ⟨Hi, ρ, rfl, rfl⟩
  have H := H each x4 Hi
  refine W_seq ?_
  refine W_region ?_
  refine LP_ev ok 0 [(26, .bool (decide (x4 < (wr (n - 1)))))] 1 rfl rfl ?_
  refine LP_end _ rfl ?_
  refine W_seq ?_
  refine W_cond (decide (x4 < (wr (n - 1)))) rfl (fun hc7 => ?_) (fun hc7 => ?_)
  · have H := H.1 hc7
    refine W_skip ?_
    refine W_seq ?_
    refine W_block ?_
    refine W_region ?_
    refine LP_ev ok 0 [(27, I each), (28, I m), (29, I (wr (each * m))), (6, I (wr (each * m)))] 4 rfl rfl ?_
    refine LP_end _ rfl ?_
    refine W_region ?_
    refine LP_ev ok 0 [(30, I (wr (x4 + 1))), (25, I (wr (x4 + 1)))] 2 rfl rfl ?_
    refine LP_end _ rfl ?_
    exact ⟨(wr (each * m), wr (x4 + 1)), ⟨H.1, _, env_eq ⟨rfl, rfl, rfl, rfl, trivial⟩, rfl⟩, H.2⟩
  have H := H.2 hc7
  refine W_exit ?_
  refine (if_pos rfl).mpr ?_
  refine W_seq ?_
  refine W_region ?_
  refine LP_ev ok 0 [(31, I m)] 1 rfl rfl ?_
  obtain ⟨hn, hb, H⟩ := H
  refine LP_make (α := Int) 1 rfl rfl rfl Try.underlying22 ti_3 (x0 := (0 : Int)) rfl rfl hn (by first | omega | (simp only [ln] at *; omega)) (by first | omega | (simp only [ln] at *; omega)) fun hx vx wx8 x9 o ex f => ?_
  obtain ⟨a, c, rfl⟩ := o.shape
  refine LP_ev ok 2 [(7, .slice a (List.length (List.replicate (Int.toNat m) ((0 : Int)))) c)] 3 rfl rfl ?_
  refine LP_end _ rfl ?_
  refine W_seq ?_
  refine W_seq ?_
  refine W_region ?_
  refine LP_ev ok 0 [(33, .slice a (List.length (List.replicate (Int.toNat m) ((0 : Int)))) c), (34, I (ln (List.replicate (Int.toNat m) ((0 : Int))))), (35, I 0)] 3 rfl rfl ?_
  refine LP_end _ rfl ?_
  refine W_block ?_
  obtain ⟨J18, m19, Hx20, H⟩ := H
  have X21 := (X.stepx x9)
  have f22 := f.mono X.size
  refine W_loop (S := (List Int) × Int) (fun s ρ' w' => J18 s.1 s.2 ∧ ∃ (ρ : Env) (hx11 : PH), ρ' = setAll [(6, I each), (7, .slice a (List.length (List.replicate (Int.toNat m) ((0 : Int)))) c), (34, I (ln (List.replicate (Int.toNat m) ((0 : Int))))), (35, I s.2)] ρ ∧ But emp w w' ∧ OS 3 hx11 emp (.slice a (List.length (List.replicate (Int.toNat m) ((0 : Int)))) c) s.1 ∧ Sub hx11 w' ∧ Fresh w.heap.size hx11) (fun s => m19 s.1 s.2) (List.replicate (Int.toNat m) ((0 : Int)), 0) ⟨Hx20, _, hx, env_eq ⟨rfl, rfl, rfl, rfl, trivial⟩, X21, o, ex, f22⟩ ?_
  rintro ⟨out, x15⟩ _ wx16 ⟨Hi, ρ, hx11, rfl, X17, o12, ex13, f14⟩
  have H := H out x15 Hi
  refine W_seq ?_
  refine W_region ?_
  refine LP_ev ok 0 [(36, .bool (decide (x15 < (ln (List.replicate (Int.toNat m) ((0 : Int)))))))] 1 rfl rfl ?_
  refine LP_end _ rfl ?_
  refine W_seq ?_
  refine W_cond (decide (x15 < (ln (List.replicate (Int.toNat m) ((0 : Int)))))) rfl (fun hc24 => ?_) (fun hc24 => ?_)
  · have H := H.1 hc24
    refine W_skip ?_
    refine W_seq ?_
    refine W_block ?_
    refine W_seq ?_
    refine W_region ?_
    refine LP_ev ok 0 [(37, I x15), (8, I x15)] 2 rfl rfl ?_
    refine LP_end _ rfl ?_
    refine W_region ?_
    refine LP_ev ok 0 [(38, .slice a (List.length (List.replicate (Int.toNat m) ((0 : Int)))) c), (39, I x15), (40, I each)] 3 rfl rfl ?_
    obtain ⟨hi, hl, H⟩ := H
    refine LP_indexw 3 rfl rfl rfl Try.underlying22 ti_3 rfl rfl o12 hi hl fun a25 wa => ?_
    refine LP_set 4 rfl rfl rfl rfl rfl wa (Le.refl emp) ⟨_, rfl, rfl⟩ ex13 fun hx26 wx27 o28 ex29 y dm => ?_
    refine LP_end _ rfl ?_
    refine W_region ?_
    refine LP_ev ok 0 [(42, I (wr (x15 + 1))), (35, I (wr (x15 + 1)))] 2 rfl rfl ?_
    refine LP_end _ rfl ?_
    have X30 := (X17.step y (f14.dom _))
    have f31 := (dm _).fresh f14 X17.size
    exact ⟨(List.set out (Int.toNat x15) each, wr (x15 + 1)), ⟨H.1, _, hx26, env_eq ⟨rfl, rfl, rfl, rfl, trivial⟩, X30, o28, ex29, f31⟩, H.2⟩
  have H := H.2 hc24
  refine W_exit ?_
  refine (if_pos rfl).mpr ?_
  refine W_seq ?_
  refine W_region ?_
  refine LP_ev ok 0 [(43, .slice a (List.length (List.replicate (Int.toNat m) ((0 : Int)))) c), (4, .slice a (List.length (List.replicate (Int.toNat m) ((0 : Int)))) c), (5, .bool true)] 3 rfl rfl ?_
  refine LP_end _ rfl ?_
  refine W_ret ?_
  exact ⟨_, Ret_of [.slice a (List.length (List.replicate (Int.toNat m) ((0 : Int)))) c, .bool true] ⟨⟨rfl, rfl⟩, ⟨rfl, rfl⟩, trivial⟩, _, _, _, _, H, rfl, X17.ext, o12, ex13, f14⟩

set_option maxRecDepth 8000 in
set_option maxHeartbeats 4000000 in
theorem laws_eqIntS_w (a : List Int) (b : List Int) (Q : Bool → Prop) (H : laws_eqIntS a b Q) (w : World) {vx : Value} {hx : PH} (r : RS hx vx a) (ex : Sub hx w) {vx2 : Value} {hx3 : PH} (r4 : RS hx3 vx2 b) (ex5 : Sub hx3 w) :
    CallsTo Try.prog 22 #[vx, vx2] w fun v w' => ∃ r0, Q r0 ∧ v = .bool r0 ∧ Ext w w' := by
  obtain ⟨a1, c, rfl⟩ := r.shape
  obtain ⟨a6, c7, rfl⟩ := r4.shape
  refine enter (args := [.slice a1 (List.length a) c, .slice a6 (List.length b) c7]) 26 Try.func22 rfl rfl rfl ?_
  refine W_forget [(0, .slice a1 (List.length a) c), (1, .slice a6 (List.length b) c7)] ⟨rfl, rfl, trivial⟩ fun ρ => ?_
  have X := But.refl emp w
  refine W_seq ?_
  refine W_region ?_
  refine LP_ev ok 0 [(4, .bool false)] 1 rfl rfl ?_
  refine LP_end _ rfl ?_
  refine W_seq ?_
  refine W_seq ?_
  refine W_region ?_
  refine LP_ev ok 0 [(6, .slice a1 (List.length a) c), (7, I (ln a)), (8, .slice a6 (List.length b) c7), (9, I (ln b)), (10, .bool ((ln a) != (ln b)))] 5 rfl rfl ?_
  refine LP_end _ rfl ?_
  refine W_cond ((ln a) != (ln b)) rfl (fun hc => ?_) (fun hc => ?_)
  · have H := H.1 hc
    refine W_seq ?_
    refine W_region ?_
    refine LP_ev ok 0 [(4, .bool false)] 1 rfl rfl ?_
    refine LP_end _ rfl ?_
    refine W_ret ?_
    exact ⟨_, Ret_of [.bool false] ⟨⟨rfl, rfl⟩, trivial⟩, _, H, rfl, X.ext⟩
  have H := H.2 hc
  refine W_skip ?_
  refine W_seq ?_
  refine W_seq ?_
  refine W_region ?_
  refine LP_ev ok 0 [(5, I 0)] 1 rfl rfl ?_
  refine LP_end _ rfl ?_
  refine W_block ?_
  obtain ⟨J, m, Hx, H⟩ := H
  refine W_loop (S := Int) (fun s ρ' w' => J s ∧ ∃ (ρ : Env), ρ' = setAll [(0, .slice a1 (List.length a) c), (1, .slice a6 (List.length b) c7), (5, I s)] ρ ∧ But emp w w' ∧ Sub hx w' ∧ Sub hx3 w') (fun s => m s) 0 ⟨Hx, _, env_eq ⟨rfl, rfl, rfl, trivial⟩, X, ex, ex5⟩ ?_
  rintro i _ wx ⟨Hi, ρ, rfl, X10, ex8, ex9⟩
  have H := H i Hi
  refine W_seq ?_
  refine W_seq ?_
  refine W_region ?_
  refine LP_ev ok 0 [(11, I i), (12, .slice a1 (List.length a) c), (13, I (ln a)), (14, .bool (decide (i < (ln a))))] 4 rfl rfl ?_
  refine LP_end _ rfl ?_
  refine W_cond (decide (i < (ln a))) rfl (fun hc11 => ?_) (fun hc11 => ?_)
  · have H := H.1 hc11
    refine W_skip ?_
    refine W_seq ?_
    refine W_block ?_
    refine W_seq ?_
    refine W_quiet mix (by kernel_rfl) ?_
    refine QP_ev ok 0 [(17, .slice a1 (List.length a) c), (18, I i)] 2 rfl rfl ?_
    obtain ⟨x, hi, hx12, H⟩ := H
    refine QP_index 2 rfl rfl rfl Try.underlying22 ti_3 rfl rfl r hi hx12 fun a13 cs r14 d => ?_
    refine QP_load 3 rfl rfl rfl ti_3 ag_3 rfl r14 d ex8 fun vx15 r16 => ?_
    obtain rfl := r16.int
    refine QP_ev ok 4 [(21, .slice a6 (List.length b) c7), (22, I i)] 6 rfl rfl ?_
    obtain ⟨x17, hi18, hx19, H⟩ := H
    refine QP_index 6 rfl rfl rfl Try.underlying22 ti_3 rfl rfl r4 hi18 hx19 fun a20 cs21 r22 d23 => ?_
    refine QP_load 7 rfl rfl rfl ti_3 ag_3 rfl r22 d23 ex9 fun vx24 r25 => ?_
    obtain rfl := r25.int
    refine QP_ev ok 8 [(25, .bool (x != x17))] 9 rfl rfl ?_
    refine QP_end _ rfl fun wx26 x27 => ?_
    refine W_cond (x != x17) rfl (fun hc28 => ?_) (fun hc28 => ?_)
    · have H := H.1 hc28
      refine W_seq ?_
      refine W_region ?_
      refine LP_ev ok 0 [(4, .bool false)] 1 rfl rfl ?_
      refine LP_end _ rfl ?_
      refine W_ret ?_
      have X29 := (X10.stepx x27)
      exact ⟨_, Ret_of [.bool false] ⟨⟨rfl, rfl⟩, trivial⟩, _, H, rfl, X29.ext⟩
    have H := H.2 hc28
    refine W_skip ?_
    refine W_region ?_
    refine LP_ev ok 0 [(15, I i), (16, I (wr (i + 1))), (5, I (wr (i + 1)))] 3 rfl rfl ?_
    refine LP_end _ rfl ?_
    have X30 := (X10.stepx x27)
    have ex31 := (ex8.ext x27)
    have ex32 := (ex9.ext x27)
    exact ⟨wr (i + 1), ⟨H.1, _, env_eq ⟨rfl, rfl, rfl, trivial⟩, X30, ex31, ex32⟩, H.2⟩
  have H := H.2 hc11
  refine W_exit ?_
  refine (if_pos rfl).mpr ?_
  refine W_seq ?_
  refine W_region ?_
  refine LP_ev ok 0 [(4, .bool true)] 1 rfl rfl ?_
  refine LP_end _ rfl ?_
  refine W_ret ?_
  exact ⟨_, Ret_of [.bool true] ⟨⟨rfl, rfl⟩, trivial⟩, _, H, rfl, X10.ext⟩

set_option maxRecDepth 8000 in
set_option maxHeartbeats 4000000 in
theorem laws_markIntS_w (a : List Int) (k : Int) (Q : Int → (List Int) → Prop) (H : laws_markIntS a k Q) (w : World) {vx : Value} {hx : PH} (r : OS 3 hx emp vx a) (ex : Sub hx w) :
    CallsTo Try.prog 23 #[vx, I k] w fun v w' => ∃ r0 m0 g0, Q r0 m0 ∧ v = I r0 ∧ But hx w w' ∧ OS 3 g0 emp vx m0 ∧ Sub g0 w' ∧ (∀ n, DomLe hx n g0) := by
  obtain ⟨a1, c, rfl⟩ := r.shape
  refine enter (args := [.slice a1 (List.length a) c, I k]) 19 Try.func23 rfl rfl rfl ?_
  refine W_forget [(0, .slice a1 (List.length a) c), (1, I k)] ⟨rfl, rfl, trivial⟩ fun ρ => ?_
  have X := But.refl hx w
  refine W_seq ?_
  refine W_region ?_
  refine LP_ev ok 0 [(4, I 0)] 1 rfl rfl ?_
  refine LP_end _ rfl ?_
  refine W_seq ?_
  refine W_seq ?_
  refine W_region ?_
  refine LP_ev ok 0 [(5, I 0)] 1 rfl rfl ?_
  refine LP_end _ rfl ?_
  refine W_block ?_
  obtain ⟨J, m, Hx, H⟩ := H
  refine W_loop (S := (List Int) × Int × Int) (fun s ρ' w' => J s.1 s.2.1 s.2.2 ∧ ∃ (ρ : Env) (hx4 : PH), ρ' = setAll [(0, .slice a1 (List.length a) c), (1, I s.2.1), (5, I s.2.2)] ρ ∧ But hx w w' ∧ OS 3 hx4 emp (.slice a1 (List.length a) c) s.1 ∧ Sub hx4 w' ∧ (∀ n, DomLe hx n hx4)) (fun s => m s.1 s.2.1 s.2.2) (a, k, 0) ⟨Hx, _, hx, env_eq ⟨rfl, rfl, rfl, trivial⟩, X, r, ex, (fun _ => DomLe.refl _ _)⟩ ?_
  rintro ⟨a2, k6, i⟩ _ wx ⟨Hi, ρ, hx4, rfl, X7, o, ex5, f⟩
  have H := H a2 k6 i Hi
  refine W_seq ?_
  refine W_seq ?_
  refine W_region ?_
  refine LP_ev ok 0 [(6, I i), (7, .slice a1 (List.length a) c), (8, I (ln a)), (9, .bool (decide (i < (ln a))))] 4 rfl rfl ?_
  refine LP_end _ rfl ?_
  refine W_cond (decide (i < (ln a))) rfl (fun hc => ?_) (fun hc => ?_)
  · have H := H.1 hc
    refine W_skip ?_
    refine W_seq ?_
    refine W_block ?_
    refine W_seq ?_
    refine W_region ?_
    refine LP_ev ok 0 [(12, .slice a1 (List.length a) c), (13, I i), (14, I k6)] 3 rfl rfl ?_
    obtain ⟨hi, hl, H⟩ := H
    refine LP_indexw 3 rfl rfl rfl Try.underlying22 ti_3 rfl rfl o hi hl fun a8 wa => ?_
    refine LP_set 4 rfl rfl rfl rfl rfl wa (Le.refl emp) ⟨_, rfl, rfl⟩ ex5 fun hx9 wx10 o11 ex12 y dm => ?_
    refine LP_end _ rfl ?_
    refine W_region ?_
    refine LP_ev ok 0 [(16, I k6), (17, I (wr (k6 + 1))), (1, I (wr (k6 + 1)))] 3 rfl rfl ?_
    refine LP_end _ rfl ?_
    refine W_region ?_
    refine LP_ev ok 0 [(10, I i), (11, I (wr (i + 1))), (5, I (wr (i + 1)))] 3 rfl rfl ?_
    refine LP_end _ rfl ?_
    have X13 := (X7.step y (f _))
    exact ⟨(List.set a2 (Int.toNat i) k6, wr (k6 + 1), wr (i + 1)), ⟨H.1, _, hx9, env_eq ⟨rfl, rfl, rfl, trivial⟩, X13, o11, ex12, (fun _ => DomLe.trans (f _) ((dm _)) (Nat.le_refl _))⟩, H.2⟩
  have H := H.2 hc
  refine W_exit ?_
  refine (if_pos rfl).mpr ?_
  refine W_seq ?_
  refine W_region ?_
  refine LP_ev ok 0 [(18, I k6), (4, I k6)] 2 rfl rfl ?_
  refine LP_end _ rfl ?_
  refine W_ret ?_
  exact ⟨_, Ret_of [I k6] ⟨⟨rfl, rfl⟩, trivial⟩, _, _, _, H, rfl, X7, o, ex5, (fun _ => f _)⟩

set_option maxRecDepth 8000 in
set_option maxHeartbeats 4000000 in
theorem laws_heldIntS_w (a : List Int) (k : Int) (Q : Int → Prop) (H : laws_heldIntS a k Q) (w : World) {vx : Value} {hx : PH} (r : RS hx vx a) (ex : Sub hx w) :
    CallsTo Try.prog 24 #[vx, I k] w fun v w' => ∃ r0, Q r0 ∧ v = I r0 ∧ Ext w w' := by
  obtain ⟨a1, c, rfl⟩ := r.shape
  refine enter (args := [.slice a1 (List.length a) c, I k]) 21 Try.func24 rfl rfl rfl ?_
  refine W_forget [(0, .slice a1 (List.length a) c), (1, I k)] ⟨rfl, rfl, trivial⟩ fun ρ => ?_
  have X := But.refl emp w
  refine W_seq ?_
  refine W_region ?_
  refine LP_ev ok 0 [(4, I 0)] 1 rfl rfl ?_
  refine LP_end _ rfl ?_
  refine W_seq ?_
  refine W_seq ?_
  refine W_region ?_
  refine LP_ev ok 0 [(5, I 0)] 1 rfl rfl ?_
  refine LP_end _ rfl ?_
  refine W_block ?_
  obtain ⟨J, m, Hx, H⟩ := H
  refine W_loop (S := Int × Int) (fun s ρ' w' => J s.1 s.2 ∧ ∃ (ρ : Env), ρ' = setAll [(0, .slice a1 (List.length a) c), (1, I s.1), (5, I s.2)] ρ ∧ w = w') (fun s => m s.1 s.2) (k, 0) ⟨Hx, _, env_eq ⟨rfl, rfl, rfl, trivial⟩, rfl⟩ ?_
  rintro ⟨k2, i⟩ _ _ ⟨Hi, ρ, rfl, rfl⟩
  have H := H k2 i Hi
  refine W_seq ?_
  refine W_seq ?_
  refine W_region ?_
  refine LP_ev ok 0 [(6, I i), (7, .slice a1 (List.length a) c), (8, I (ln a)), (9, .bool (decide (i < (ln a))))] 4 rfl rfl ?_
  refine LP_end _ rfl ?_
  refine W_cond (decide (i < (ln a))) rfl (fun hc => ?_) (fun hc => ?_)
  · have H := H.1 hc
    refine W_skip ?_
    refine W_seq ?_
    refine W_block ?_
    refine W_seq ?_
    refine W_seq ?_
    refine W_region ?_
    refine LP_ev ok 0 [(12, .slice a1 (List.length a) c), (13, I i)] 2 rfl rfl ?_
    obtain ⟨x, hi, hx3, H⟩ := H
    refine LP_index 2 rfl rfl rfl Try.underlying22 ti_3 rfl rfl r hi hx3 fun a4 cs r5 d => ?_
    refine LP_load 3 rfl rfl rfl ti_3 ag_3 rfl r5 d ex fun vx6 r7 => ?_
    obtain rfl := r7.int
    refine LP_ev ok 4 [(16, I k2), (17, .bool (x != k2))] 6 rfl rfl ?_
    refine LP_end _ rfl ?_
    refine W_cond (x != k2) rfl (fun hc8 => ?_) (fun hc8 => ?_)
    · have H := H.1 hc8
      refine W_seq ?_
      refine W_region ?_
      refine LP_ev ok 0 [(4, I ((-1)))] 1 rfl rfl ?_
      refine LP_end _ rfl ?_
      refine W_ret ?_
      exact ⟨_, Ret_of [I ((-1))] ⟨⟨rfl, rfl⟩, trivial⟩, _, H, rfl, X.ext⟩
    have H := H.2 hc8
    refine W_skip ?_
    refine W_region ?_
    refine LP_ev ok 0 [(18, I k2), (19, I (wr (k2 + 1))), (1, I (wr (k2 + 1)))] 3 rfl rfl ?_
    refine LP_end _ rfl ?_
    refine W_region ?_
    refine LP_ev ok 0 [(10, I i), (11, I (wr (i + 1))), (5, I (wr (i + 1)))] 3 rfl rfl ?_
    refine LP_end _ rfl ?_
    exact ⟨(wr (k2 + 1), wr (i + 1)), ⟨H.1, _, env_eq ⟨rfl, rfl, rfl, trivial⟩, rfl⟩, H.2⟩
  have H := H.2 hc
  refine W_exit ?_
  refine (if_pos rfl).mpr ?_
  refine W_seq ?_
  refine W_region ?_
  refine LP_ev ok 0 [(20, I k2), (4, I k2)] 2 rfl rfl ?_
  refine LP_end _ rfl ?_
  refine W_ret ?_
  exact ⟨_, Ret_of [I k2] ⟨⟨rfl, rfl⟩, trivial⟩, _, H, rfl, X.ext⟩

set_option maxRecDepth 8000 in
set_option maxHeartbeats 4000000 in
theorem laws_FnExactMaskCounts_w (aM : Int) (aN : Int) (Q : Bool → Prop) (H : laws_FnExactMaskCounts aM aN Q) (w : World)  :
    CallsTo Try.prog 3 #[I aM, I aN] w fun v w' => ∃ r0, Q r0 ∧ v = .bool r0 ∧ Ext w w' := by
  refine enter (args := [I aM, I aN]) 68 Try.func3 rfl rfl rfl ?_
  refine W_forget [(0, I aM), (1, I aN)] ⟨rfl, rfl, trivial⟩ fun ρ => ?_
  have X := But.refl emp w
  refine W_seq ?_
  refine W_region ?_
  refine LP_ev ok 0 [(4, .bool false)] 1 rfl rfl ?_
  refine LP_end _ rfl ?_
  refine W_seq ?_
  refine W_region ?_
  refine LP_ev ok 0 [(14, I aM), (15, I aN)] 2 rfl rfl ?_
  refine LP_call 2 rfl rfl rfl cal_20 rfl (spec_MaskCounts_w _ _ _ H w ) ?_
  rintro _ wx ⟨r, r1, vx, hx, H, rfl, x, o, ex, f⟩
  obtain ⟨a, c, rfl⟩ := o.shape
  refine LP_ev ok 3 [(13, .tuple #[.slice a (List.length r) c, .bool r1]), (17, .slice a (List.length r) c), (18, .bool r1), (5, .slice a (List.length r) c), (6, .bool r1)] 8 rfl rfl ?_
  refine LP_end _ rfl ?_
  refine W_seq ?_
  refine W_region ?_
  refine LP_ev ok 0 [(20, I aM), (21, I aN)] 2 rfl rfl ?_
  refine LP_call 2 rfl rfl rfl cal_21 rfl (impl_MaskCounts_w _ _ _ H wx ) ?_
  rintro _ wx4 ⟨r2, r3, vx6, hx7, H, rfl, x5, o8, ex9, f10⟩
  obtain ⟨a11, c12, rfl⟩ := o8.shape
  refine LP_ev ok 3 [(19, .tuple #[.slice a11 (List.length r2) c12, .bool r3]), (23, .slice a11 (List.length r2) c12), (24, .bool r3), (7, .slice a11 (List.length r2) c12), (8, .bool r3)] 8 rfl rfl ?_
  refine LP_end _ rfl ?_
  refine W_seq ?_
  obtain ⟨k, hk, H⟩ := jn_elim H
  refine W_join2 (S := Bool) (fun s ρ' w' => k s ∧ ∃ (ρ : Env), ρ' = setAll [(0, I aM), (1, I aN), (5, .slice a (List.length r) c), (6, .bool r1), (7, .slice a11 (List.length r2) c12), (33, .bool s)] ρ ∧ But emp w w' ∧ Sub hx w' ∧ Sub hx7 w') ?_ ?_
  · refine W_region ?_
    refine LP_ev ok 0 [(25, .slice a11 (List.length r2) c12), (26, .slice a (List.length r) c)] 2 rfl rfl ?_
    have ex19 := (ex.ext x5)
    refine LP_call 2 rfl rfl rfl cal_22 rfl (laws_eqIntS_w _ _ _ H wx4 o8.readf ex9 o.readf ex19) ?_
    rintro _ wx20 ⟨r18, H, rfl, x21⟩
    refine LP_ev ok 3 [(28, .bool (!r18)), (29, .bool (!r18))] 5 rfl rfl ?_
    refine LP_split 29 (!r18) rfl (fun hc => ?_) (fun hc => ?_)
    · have H := H.1 hc
      refine LP_ev ok 5 [(30, undef), (31, undef), (32, undef), (33, .bool true)] 9 rfl rfl ?_
      refine LP_end _ rfl ?_
      try refine W_forget [(0, I aM), (1, I aN), (5, .slice a (List.length r) c), (6, .bool r1), (7, .slice a11 (List.length r2) c12), (33, .bool true)] ⟨rfl, rfl, rfl, rfl, rfl, rfl, trivial⟩ fun ρ => ?_
      have X22 := (((X.stepx x).stepx x5).stepx x21)
      have ex23 := (ex19.ext x21)
      have ex24 := (ex9.ext x21)
      exact ⟨true, H, _, env_eq ⟨rfl, rfl, rfl, rfl, rfl, rfl, trivial⟩, X22, ex23, ex24⟩
    have H := H.2 hc
    refine LP_ev ok 5 [(30, .bool r3), (31, .bool r1), (32, .bool (r3 != r1)), (33, .bool (r3 != r1))] 9 rfl rfl ?_
    refine LP_end _ rfl ?_
    try refine W_forget [(0, I aM), (1, I aN), (5, .slice a (List.length r) c), (6, .bool r1), (7, .slice a11 (List.length r2) c12), (33, .bool (r3 != r1))] ⟨rfl, rfl, rfl, rfl, rfl, rfl, trivial⟩ fun ρ => ?_
    have X25 := (((X.stepx x).stepx x5).stepx x21)
    have ex26 := (ex19.ext x21)
    have ex27 := (ex9.ext x21)
    exact ⟨r3 != r1, H, _, env_eq ⟨rfl, rfl, rfl, rfl, rfl, rfl, trivial⟩, X25, ex26, ex27⟩
  rintro x13 _ wx14 ⟨H, ρ, rfl, X17, ex15, ex16⟩
  subst hk
  refine W_cond (x13) rfl (fun hc28 => ?_) (fun hc28 => ?_)
  · have H := H.1 hc28
    refine W_seq ?_
    refine W_region ?_
    refine LP_ev ok 0 [(4, .bool false)] 1 rfl rfl ?_
    refine LP_end _ rfl ?_
    refine W_ret ?_
    exact ⟨_, Ret_of [.bool false] ⟨⟨rfl, rfl⟩, trivial⟩, _, H, rfl, X17.ext⟩
  have H := H.2 hc28
  refine W_skip ?_
  refine W_seq ?_
  refine W_region ?_
  refine LP_ev ok 0 [(9, I 1)] 1 rfl rfl ?_
  refine LP_end _ rfl ?_
  refine W_seq ?_
  refine W_region ?_
  refine LP_ev ok 0 [(34, .slice a11 (List.length r2) c12), (35, I 1)] 2 rfl rfl ?_
  refine LP_call 2 rfl rfl rfl cal_23 rfl (laws_markIntS_w _ _ _ H wx14 o8 ex16) ?_
  rintro _ wx31 ⟨r29, r30, hx33, H, rfl, x32, o34, ex35, dm⟩
  refine LP_ev ok 3 [(9, I r29)] 4 rfl rfl ?_
  refine LP_end _ rfl ?_
  refine W_seq ?_
  refine W_region ?_
  refine LP_ev ok 0 [(10, I 1)] 1 rfl rfl ?_
  refine LP_end _ rfl ?_
  refine W_seq ?_
  refine W_region ?_
  refine LP_ev ok 0 [(37, .slice a11 (List.length r2) c12), (38, I 1)] 2 rfl rfl ?_
  refine LP_call 2 rfl rfl rfl cal_24 rfl (laws_heldIntS_w _ _ _ H wx31 o34.readf ex35) ?_
  rintro _ wx39 ⟨r38, H, rfl, x40⟩
  refine LP_ev ok 3 [(10, I r38)] 4 rfl rfl ?_
  refine LP_end _ rfl ?_
  refine W_seq ?_
  refine W_seq ?_
  refine W_region ?_
  refine LP_ev ok 0 [(40, I r38), (41, .bool (decide (r38 < 0)))] 2 rfl rfl ?_
  refine LP_end _ rfl ?_
  refine W_cond (decide (r38 < 0)) rfl (fun hc41 => ?_) (fun hc41 => ?_)
  · have H := H.1 hc41
    refine W_seq ?_
    refine W_region ?_
    refine LP_ev ok 0 [(4, .bool false)] 1 rfl rfl ?_
    refine LP_end _ rfl ?_
    refine W_ret ?_
    have X43 := (X.stepx x)
    have f42 := f10.mono X43.size
    have X44 := ((X17.step x32 (f42.dom _)).stepx x40)
    exact ⟨_, Ret_of [.bool false] ⟨⟨rfl, rfl⟩, trivial⟩, _, H, rfl, X44.ext⟩
  have H := H.2 hc41
  refine W_skip ?_
  refine W_seq ?_
  refine W_seq ?_
  refine W_region ?_
  refine LP_ev ok 0 [(42, I r38), (43, I r29), (44, .bool (r38 != r29))] 3 rfl rfl ?_
  refine LP_end _ rfl ?_
  refine W_cond (r38 != r29) rfl (fun hc45 => ?_) (fun hc45 => ?_)
  · have H := H.1 hc45
    refine W_seq ?_
    refine W_region ?_
    refine LP_ev ok 0 [(4, .bool false)] 1 rfl rfl ?_
    refine LP_end _ rfl ?_
    refine W_ret ?_
    have X47 := (X.stepx x)
    have f46 := f10.mono X47.size
    have X48 := ((X17.step x32 (f46.dom _)).stepx x40)
    exact ⟨_, Ret_of [.bool false] ⟨⟨rfl, rfl⟩, trivial⟩, _, H, rfl, X48.ext⟩
  have H := H.2 hc45
  refine W_skip ?_
  refine W_seq ?_
  refine W_region ?_
  refine LP_ev ok 0 [(46, I aM), (47, I aN)] 2 rfl rfl ?_
  refine LP_call 2 rfl rfl rfl cal_21 rfl (impl_MaskCounts_w _ _ _ H wx39 ) ?_
  rintro _ wx51 ⟨r49, r50, vx53, hx54, H, rfl, x52, o55, ex56, f57⟩
  obtain ⟨a58, c59, rfl⟩ := o55.shape
  refine LP_ev ok 3 [(45, .tuple #[.slice a58 (List.length r49) c59, .bool r50]), (49, .slice a58 (List.length r49) c59), (50, .bool r50), (11, .slice a58 (List.length r49) c59), (12, .bool r50)] 8 rfl rfl ?_
  refine LP_end _ rfl ?_
  refine W_seq ?_
  obtain ⟨k64, hk65, H⟩ := jn_elim H
  refine W_join2 (S := Bool) (fun s ρ' w' => k64 s ∧ ∃ (ρ : Env), ρ' = setAll [(7, .slice a11 (List.length r2) c12), (9, I r29), (59, .bool s)] ρ ∧ But emp w w' ∧ Sub hx33 w') ?_ ?_
  · refine W_region ?_
    refine LP_ev ok 0 [(51, .slice a58 (List.length r49) c59), (52, .slice a (List.length r) c)] 2 rfl rfl ?_
    have ex67 := (((ex15.but x32 (Dj.of_fresh ex f10).symm).ext x40).ext x52)
    refine LP_call 2 rfl rfl rfl cal_22 rfl (laws_eqIntS_w _ _ _ H wx51 o55.readf ex56 o.readf ex67) ?_
    rintro _ wx68 ⟨r66, H, rfl, x69⟩
    refine LP_ev ok 3 [(54, .bool (!r66)), (55, .bool (!r66))] 5 rfl rfl ?_
    refine LP_split 55 (!r66) rfl (fun hc70 => ?_) (fun hc70 => ?_)
    · have H := H.1 hc70
      refine LP_ev ok 5 [(56, undef), (57, undef), (58, undef), (59, .bool true)] 9 rfl rfl ?_
      refine LP_end _ rfl ?_
      try refine W_forget [(7, .slice a11 (List.length r2) c12), (9, I r29), (59, .bool true)] ⟨rfl, rfl, rfl, trivial⟩ fun ρ => ?_
      have X72 := (X.stepx x)
      have f71 := f10.mono X72.size
      have X73 := ((((X17.step x32 (f71.dom _)).stepx x40).stepx x52).stepx x69)
      have ex74 := (((ex35.ext x40).ext x52).ext x69)
      exact ⟨true, H, _, env_eq ⟨rfl, rfl, rfl, trivial⟩, X73, ex74⟩
    have H := H.2 hc70
    refine LP_ev ok 5 [(56, .bool r50), (57, .bool r1), (58, .bool (r50 != r1)), (59, .bool (r50 != r1))] 9 rfl rfl ?_
    refine LP_end _ rfl ?_
    try refine W_forget [(7, .slice a11 (List.length r2) c12), (9, I r29), (59, .bool (r50 != r1))] ⟨rfl, rfl, rfl, trivial⟩ fun ρ => ?_
    have X76 := (X.stepx x)
    have f75 := f10.mono X76.size
    have X77 := ((((X17.step x32 (f75.dom _)).stepx x40).stepx x52).stepx x69)
    have ex78 := (((ex35.ext x40).ext x52).ext x69)
    exact ⟨r50 != r1, H, _, env_eq ⟨rfl, rfl, rfl, trivial⟩, X77, ex78⟩
  rintro x60 _ wx61 ⟨H, ρ, rfl, X63, ex62⟩
  subst hk65
  refine W_cond (x60) rfl (fun hc79 => ?_) (fun hc79 => ?_)
  · have H := H.1 hc79
    refine W_seq ?_
    refine W_region ?_
    refine LP_ev ok 0 [(4, .bool false)] 1 rfl rfl ?_
    refine LP_end _ rfl ?_
    refine W_ret ?_
    exact ⟨_, Ret_of [.bool false] ⟨⟨rfl, rfl⟩, trivial⟩, _, H, rfl, X63.ext⟩
  have H := H.2 hc79
  refine W_skip ?_
  refine W_seq ?_
  refine W_region ?_
  refine LP_ev ok 0 [(10, I 1)] 1 rfl rfl ?_
  refine LP_end _ rfl ?_
  refine W_seq ?_
  refine W_region ?_
  refine LP_ev ok 0 [(60, .slice a11 (List.length r2) c12), (61, I 1)] 2 rfl rfl ?_
  refine LP_call 2 rfl rfl rfl cal_24 rfl (laws_heldIntS_w _ _ _ H wx61 o34.readf ex62) ?_
  rintro _ wx81 ⟨r80, H, rfl, x82⟩
  refine LP_ev ok 3 [(10, I r80)] 4 rfl rfl ?_
  refine LP_end _ rfl ?_
  refine W_seq ?_
  refine W_seq ?_
  refine W_region ?_
  refine LP_ev ok 0 [(63, I r80), (64, .bool (decide (r80 < 0)))] 2 rfl rfl ?_
  refine LP_end _ rfl ?_
  refine W_cond (decide (r80 < 0)) rfl (fun hc83 => ?_) (fun hc83 => ?_)
  · have H := H.1 hc83
    refine W_seq ?_
    refine W_region ?_
    refine LP_ev ok 0 [(4, .bool false)] 1 rfl rfl ?_
    refine LP_end _ rfl ?_
    refine W_ret ?_
    have X84 := (X63.stepx x82)
    exact ⟨_, Ret_of [.bool false] ⟨⟨rfl, rfl⟩, trivial⟩, _, H, rfl, X84.ext⟩
  have H := H.2 hc83
  refine W_skip ?_
  refine W_seq ?_
  refine W_seq ?_
  refine W_region ?_
  refine LP_ev ok 0 [(65, I r80), (66, I r29), (67, .bool (r80 != r29))] 3 rfl rfl ?_
  refine LP_end _ rfl ?_
  refine W_cond (r80 != r29) rfl (fun hc85 => ?_) (fun hc85 => ?_)
  · have H := H.1 hc85
    refine W_seq ?_
    refine W_region ?_
    refine LP_ev ok 0 [(4, .bool false)] 1 rfl rfl ?_
    refine LP_end _ rfl ?_
    refine W_ret ?_
    have X86 := (X63.stepx x82)
    exact ⟨_, Ret_of [.bool false] ⟨⟨rfl, rfl⟩, trivial⟩, _, H, rfl, X86.ext⟩
  have H := H.2 hc85
  refine W_skip ?_
  refine W_seq ?_
  refine W_region ?_
  refine LP_ev ok 0 [(4, .bool true)] 1 rfl rfl ?_
  refine LP_end _ rfl ?_
  refine W_ret ?_
  have X87 := (X63.stepx x82)
  exact ⟨_, Ret_of [.bool true] ⟨⟨rfl, rfl⟩, trivial⟩, _, H, rfl, X87.ext⟩

set_option maxRecDepth 8000 in
set_option maxHeartbeats 4000000 in
theorem laws_toIntS_w (a : List Int) (Q : (List Int) → Prop) (H : laws_toIntS a Q) (w : World) {vx : Value} {hx : PH} (r : RS hx vx a) (ex : Sub hx w) :
    CallsTo Try.prog 26 #[vx] w fun v w' => ∃ r0 u0 g0, Q r0 ∧ v = u0 ∧ Ext w w' ∧ OS 3 g0 emp u0 r0 ∧ Sub g0 w' ∧ Fresh w.heap.size g0 := by
  obtain ⟨a1, c, rfl⟩ := r.shape
  refine enter (args := [.slice a1 (List.length a) c]) 22 Try.func26 rfl rfl rfl ?_
  refine W_forget [(0, .slice a1 (List.length a) c)] ⟨rfl, trivial⟩ fun ρ => ?_
  have X := But.refl emp w
  refine W_seq ?_
  refine W_region ?_
  refine LP_ev ok 0 [(2, .slice none 0 0)] 1 rfl rfl ?_
  refine LP_end _ rfl ?_
  refine W_seq ?_
  refine W_region ?_
  refine LP_ev ok 0 [(5, .slice a1 (List.length a) c), (6, I (ln a))] 2 rfl rfl ?_
  obtain ⟨hn, hb, H⟩ := H
  refine LP_make (α := Int) 2 rfl rfl rfl Try.underlying22 ti_3 (x0 := (0 : Int)) rfl rfl hn (by first | omega | (simp only [ln] at *; omega)) (by first | omega | (simp only [ln] at *; omega)) fun hx2 vx3 wx x o ex4 f => ?_
  obtain ⟨a5, c6, rfl⟩ := o.shape
  refine LP_ev ok 3 [(3, .slice a5 (List.length (List.replicate (Int.toNat (ln a)) ((0 : Int)))) c6)] 4 rfl rfl ?_
  refine LP_end _ rfl ?_
  refine W_seq ?_
  refine W_seq ?_
  refine W_region ?_
  refine LP_ev ok 0 [(4, I 0)] 1 rfl rfl ?_
  refine LP_end _ rfl ?_
  refine W_block ?_
  obtain ⟨J, m, Hx, H⟩ := H
  have X15 := (X.stepx x)
  have f16 := f.mono X.size
  have ex17 := (ex.ext x)
  refine W_loop (S := (List Int) × Int) (fun s ρ' w' => J s.1 s.2 ∧ ∃ (ρ : Env) (hx8 : PH), ρ' = setAll [(0, .slice a1 (List.length a) c), (3, .slice a5 (List.length (List.replicate (Int.toNat (ln a)) ((0 : Int)))) c6), (4, I s.2)] ρ ∧ But emp w w' ∧ OS 3 hx8 emp (.slice a5 (List.length (List.replicate (Int.toNat (ln a)) ((0 : Int)))) c6) s.1 ∧ Sub hx8 w' ∧ Fresh w.heap.size hx8 ∧ Sub hx w' ∧ Dj hx8 hx) (fun s => m s.1 s.2) (List.replicate (Int.toNat (ln a)) ((0 : Int)), 0) ⟨Hx, _, hx2, env_eq ⟨rfl, rfl, rfl, trivial⟩, X15, o, ex4, f16, ex17, (Dj.of_fresh ex f).symm⟩ ?_
  rintro ⟨out, i⟩ _ wx12 ⟨Hi, ρ, hx8, rfl, X14, o9, ex10, f11, ex13, d⟩
  have H := H out i Hi
  refine W_seq ?_
  refine W_seq ?_
  refine W_region ?_
  refine LP_ev ok 0 [(8, I i), (9, .slice a1 (List.length a) c), (10, I (ln a)), (11, .bool (decide (i < (ln a))))] 4 rfl rfl ?_
  refine LP_end _ rfl ?_
  refine W_cond (decide (i < (ln a))) rfl (fun hc => ?_) (fun hc => ?_)
  · have H := H.1 hc
    refine W_skip ?_
    refine W_seq ?_
    refine W_block ?_
    refine W_region ?_
    refine LP_ev ok 0 [(14, .slice a5 (List.length (List.replicate (Int.toNat (ln a)) ((0 : Int)))) c6), (15, I i), (16, .slice a1 (List.length a) c), (17, I i)] 4 rfl rfl ?_
    obtain ⟨x18, hi, hx19, H⟩ := H
    refine LP_index 4 rfl rfl rfl Try.underlying22 ti_3 rfl rfl r hi hx19 fun a20 cs r21 d22 => ?_
    refine LP_load 5 rfl rfl rfl ti_3 ag_3 rfl r21 d22 ex13 fun vx23 r24 => ?_
    obtain rfl := r24.int
    obtain ⟨hi25, hl, H⟩ := H
    refine LP_indexw 6 rfl rfl rfl Try.underlying22 ti_3 rfl rfl o9 hi25 hl fun a26 wa => ?_
    refine LP_set 7 rfl rfl rfl rfl rfl wa (Le.refl emp) ⟨_, rfl, rfl⟩ ex10 fun hx27 wx28 o29 ex30 y dm => ?_
    refine LP_end _ rfl ?_
    refine W_region ?_
    refine LP_ev ok 0 [(12, I i), (13, I (wr (i + 1))), (4, I (wr (i + 1)))] 3 rfl rfl ?_
    refine LP_end _ rfl ?_
    have X31 := (X14.step y (f11.dom _))
    have f32 := (dm _).fresh f11 X14.size
    have ex33 := (ex13.but y d)
    exact ⟨(List.set out (Int.toNat i) x18, wr (i + 1)), ⟨H.1, _, hx27, env_eq ⟨rfl, rfl, rfl, trivial⟩, X31, o29, ex30, f32, ex33, (DomLe.dj (dm _) d ex13)⟩, H.2⟩
  have H := H.2 hc
  refine W_exit ?_
  refine (if_pos rfl).mpr ?_
  refine W_seq ?_
  refine W_region ?_
  refine LP_ev ok 0 [(21, .slice a5 (List.length (List.replicate (Int.toNat (ln a)) ((0 : Int)))) c6), (2, .slice a5 (List.length (List.replicate (Int.toNat (ln a)) ((0 : Int)))) c6)] 2 rfl rfl ?_
  refine LP_end _ rfl ?_
  refine W_ret ?_
  exact ⟨_, Ret_of [.slice a5 (List.length (List.replicate (Int.toNat (ln a)) ((0 : Int)))) c6] ⟨⟨rfl, rfl⟩, trivial⟩, _, _, _, H, rfl, X14.ext, o9, ex10, f11⟩

set_option maxRecDepth 8000 in
set_option maxHeartbeats 4000000 in
theorem spec_zeModulus_w (m : Int) (Q : Bool → Prop) (H : spec_zeModulus m Q) (w : World)  :
    CallsTo Try.prog 77 #[I m] w fun v w' => ∃ r0, Q r0 ∧ v = .bool r0 ∧ Ext w w' := by
  refine enter (args := [I m]) 5 Try.func77 rfl rfl rfl ?_
  refine W_forget [(0, I m)] ⟨rfl, trivial⟩ fun ρ => ?_
  have X := But.refl emp w
  refine W_seq ?_
  refine W_region ?_
  refine LP_ev ok 0 [(2, .bool false)] 1 rfl rfl ?_
  refine LP_end _ rfl ?_
  refine W_seq ?_
  refine W_region ?_
  refine LP_ev ok 0 [(3, I m)] 1 rfl rfl ?_
  refine LP_call 1 rfl rfl rfl cal_76 rfl (spec_l1In_w _ _ _ _ H w ) ?_
  rintro _ wx ⟨r, H, rfl, x⟩
  refine LP_ev ok 2 [(2, .bool r)] 3 rfl rfl ?_
  refine LP_end _ rfl ?_
  refine W_ret ?_
  have X1 := (X.stepx x)
  exact ⟨_, Ret_of [.bool r] ⟨⟨rfl, rfl⟩, trivial⟩, _, H, rfl, X1.ext⟩

set_option maxRecDepth 8000 in
set_option maxHeartbeats 4000000 in
theorem spec_l1All_w (l : List Int) (lo : Int) (hi : Int) (Q : Bool → Prop) (H : spec_l1All l lo hi Q) (w : World) {vx : Value} {hx : PH} (r : RS hx vx l) (ex : Sub hx w) :
    CallsTo Try.prog 140 #[vx, I lo, I hi] w fun v w' => ∃ r0, Q r0 ∧ v = .bool r0 ∧ Ext w w' := by
  obtain ⟨a, c, rfl⟩ := r.shape
  refine enter (args := [.slice a (List.length l) c, I lo, I hi]) 21 Try.func140 rfl rfl rfl ?_
  refine W_forget [(0, .slice a (List.length l) c), (1, I lo), (2, I hi)] ⟨rfl, rfl, rfl, trivial⟩ fun ρ => ?_
  have X := But.refl emp w
  refine W_seq ?_
  refine W_region ?_
  refine LP_ev ok 0 [(6, .bool false)] 1 rfl rfl ?_
  refine LP_end _ rfl ?_
  refine W_seq ?_
  refine W_seq ?_
  refine W_region ?_
  refine LP_ev ok 0 [(9, .slice a (List.length l) c), (10, I (ln l)), (11, I 0)] 3 rfl rfl ?_
  refine LP_end _ rfl ?_
  refine W_block ?_
  obtain ⟨J, m, Hx, H⟩ := H
  refine W_loop (S := Int) (fun s ρ' w' => J s ∧ ∃ (ρ : Env), ρ' = setAll [(1, I lo), (2, I hi), (9, .slice a (List.length l) c), (10, I (ln l)), (11, I s)] ρ ∧ But emp w w' ∧ Sub hx w') (fun s => m s) 0 ⟨Hx, _, env_eq ⟨rfl, rfl, rfl, rfl, rfl, trivial⟩, X, ex⟩ ?_
  rintro x _ wx ⟨Hi, ρ, rfl, X2, ex1⟩
  have H := H x Hi
  refine W_seq ?_
  refine W_region ?_
  refine LP_ev ok 0 [(12, .bool (decide (x < (ln l))))] 1 rfl rfl ?_
  refine LP_end _ rfl ?_
  refine W_seq ?_
  refine W_cond (decide (x < (ln l))) rfl (fun hc => ?_) (fun hc => ?_)
  · have H := H.1 hc
    refine W_skip ?_
    refine W_seq ?_
    refine W_block ?_
    refine W_seq ?_
    refine W_region ?_
    obtain ⟨x3, hi4, hx5, H⟩ := H
    refine LP_index 0 rfl rfl rfl Try.underlying22 ti_3 rfl rfl r hi4 hx5 fun a6 cs r7 d => ?_
    refine LP_load 1 rfl rfl rfl ti_3 ag_3 rfl r7 d ex1 fun vx8 r9 => ?_
    obtain rfl := r9.int
    refine LP_ev ok 2 [(8, I x3)] 3 rfl rfl ?_
    refine LP_end _ rfl ?_
    refine W_seq ?_
    refine W_region ?_
    refine LP_ev ok 0 [(15, I x3), (16, I lo), (17, I hi)] 3 rfl rfl ?_
    refine LP_call 3 rfl rfl rfl cal_76 rfl (spec_l1In_w _ _ _ _ H wx ) ?_
    rintro _ wx11 ⟨r10, H, rfl, x12⟩
    refine LP_ev ok 4 [(19, .bool (!r10))] 5 rfl rfl ?_
    refine LP_end _ rfl ?_
    refine W_cond (!r10) rfl (fun hc13 => ?_) (fun hc13 => ?_)
    · have H := H.1 hc13
      refine W_seq ?_
      refine W_region ?_
      refine LP_ev ok 0 [(6, .bool false)] 1 rfl rfl ?_
      refine LP_end _ rfl ?_
      refine W_ret ?_
      have X14 := (X2.stepx x12)
      exact ⟨_, Ret_of [.bool false] ⟨⟨rfl, rfl⟩, trivial⟩, _, H, rfl, X14.ext⟩
    have H := H.2 hc13
    refine W_skip ?_
    refine W_region ?_
    refine LP_ev ok 0 [(20, I (wr (x + 1))), (11, I (wr (x + 1)))] 2 rfl rfl ?_
    refine LP_end _ rfl ?_
    have X15 := (X2.stepx x12)
    have ex16 := (ex1.ext x12)
    exact ⟨wr (x + 1), ⟨H.1, _, env_eq ⟨rfl, rfl, rfl, rfl, rfl, trivial⟩, X15, ex16⟩, H.2⟩
  have H := H.2 hc
  refine W_exit ?_
  refine (if_pos rfl).mpr ?_
  refine W_seq ?_
  refine W_region ?_
  refine LP_ev ok 0 [(6, .bool true)] 1 rfl rfl ?_
  refine LP_end _ rfl ?_
  refine W_ret ?_
  exact ⟨_, Ret_of [.bool true] ⟨⟨rfl, rfl⟩, trivial⟩, _, H, rfl, X2.ext⟩

set_option maxRecDepth 8000 in
set_option maxHeartbeats 4000000 in
theorem spec_zeValues_w (m : Int) (l : List Int) (Q : Bool → Prop) (H : spec_zeValues m l Q) (w : World) {vx : Value} {hx : PH} (r : RS hx vx l) (ex : Sub hx w) :
    CallsTo Try.prog 78 #[I m, vx] w fun v w' => ∃ r0, Q r0 ∧ v = .bool r0 ∧ Ext w w' := by
  obtain ⟨a, c, rfl⟩ := r.shape
  refine enter (args := [I m, .slice a (List.length l) c]) 14 Try.func78 rfl rfl rfl ?_
  refine W_forget [(0, I m), (1, .slice a (List.length l) c)] ⟨rfl, rfl, trivial⟩ fun ρ => ?_
  have X := But.refl emp w
  refine W_seq ?_
  refine W_region ?_
  refine LP_ev ok 0 [(4, .bool false)] 1 rfl rfl ?_
  refine LP_end _ rfl ?_
  obtain ⟨k, hk, H⟩ := jn_elim H
  refine W_join2 (S := Bool) (fun s ρ' w' => k s ∧ ∃ (ρ : Env), ρ' = setAll [(4, .bool s)] ρ ∧ But emp w w') ?_ ?_
  · refine W_region ?_
    refine LP_ev ok 0 [(5, .slice a (List.length l) c), (6, I (ln l)), (7, .bool (decide ((ln l) ≤ 600))), (8, .bool (decide ((ln l) ≤ 600)))] 4 rfl rfl ?_
    refine LP_split 8 (decide ((ln l) ≤ 600)) rfl (fun hc => ?_) (fun hc => ?_)
    · have H := H.1 hc
      refine LP_ev ok 4 [(9, .slice a (List.length l) c), (10, I m), (11, I (wr (m - 1)))] 7 rfl rfl ?_
      refine LP_call 7 rfl rfl rfl cal_140 rfl (spec_l1All_w _ _ _ _ H w r ex) ?_
      rintro _ wx3 ⟨r2, H, rfl, x4⟩
      refine LP_ev ok 8 [(13, .bool r2), (4, .bool r2)] 10 rfl rfl ?_
      refine LP_end _ rfl ?_
      have X5 := (X.stepx x4)
      exact ⟨r2, H, _, env_eq ⟨rfl, trivial⟩, X5⟩
    have H := H.2 hc
    refine LP_ev ok 4 [(9, undef), (10, undef), (11, undef), (12, undef), (13, .bool false), (4, .bool false)] 10 rfl rfl ?_
    refine LP_end _ rfl ?_
    exact ⟨false, H, _, env_eq ⟨rfl, trivial⟩, X⟩
  rintro x _ wx ⟨H, ρ, rfl, X1⟩
  subst hk
  refine W_ret ?_
  exact ⟨_, Ret_of [.bool x] ⟨⟨rfl, rfl⟩, trivial⟩, _, H, rfl, X1.ext⟩

set_option maxRecDepth 8000 in
set_option maxHeartbeats 4000000 in
theorem spec_SignedValues_w (m : Int) (l : List Int) (Q : (List Int) → Bool → Prop) (H : spec_SignedValues m l Q) (w : World) {vx : Value} {hx : PH} (r : RS hx vx l) (ex : Sub hx w) :
    CallsTo Try.prog 25 #[I m, vx] w fun v w' => ∃ r0 r1 u0 g0, Q r0 r1 ∧ v = .tuple #[u0, .bool r1] ∧ Ext w w' ∧ OS 3 g0 emp u0 r0 ∧ Sub g0 w' ∧ Fresh w.heap.size g0 := by
  obtain ⟨a, c, rfl⟩ := r.shape
  refine enter (args := [I m, .slice a (List.length l) c]) 37 Try.func25 rfl rfl rfl ?_
  refine W_forget [(0, I m), (1, .slice a (List.length l) c)] ⟨rfl, rfl, trivial⟩ fun ρ => ?_
  have X := But.refl emp w
  refine W_seq ?_
  refine W_region ?_
  refine LP_ev ok 0 [(4, .slice none 0 0), (5, .bool false)] 2 rfl rfl ?_
  refine LP_end _ rfl ?_
  refine W_seq ?_
  obtain ⟨k, hk, H⟩ := jn_elim H
  refine W_join2 (S := Bool) (fun s ρ' w' => k s ∧ ∃ (ρ : Env), ρ' = setAll [(0, I m), (1, .slice a (List.length l) c), (17, .bool s)] ρ ∧ But emp w w' ∧ Sub hx w') ?_ ?_
  · refine W_region ?_
    refine LP_ev ok 0 [(9, I m)] 1 rfl rfl ?_
    refine LP_call 1 rfl rfl rfl cal_77 rfl (spec_zeModulus_w _ _ H w ) ?_
    rintro _ wx4 ⟨r3, H, rfl, x5⟩
    refine LP_ev ok 2 [(11, .bool (!r3)), (12, .bool (!r3))] 4 rfl rfl ?_
    refine LP_split 12 (!r3) rfl (fun hc => ?_) (fun hc => ?_)
    · have H := H.1 hc
      refine LP_ev ok 4 [(13, undef), (14, undef), (15, undef), (16, undef), (17, .bool true)] 9 rfl rfl ?_
      refine LP_end _ rfl ?_
      have X6 := (X.stepx x5)
      have ex7 := (ex.ext x5)
      exact ⟨true, H, _, env_eq ⟨rfl, rfl, rfl, trivial⟩, X6, ex7⟩
    have H := H.2 hc
    refine LP_ev ok 4 [(13, I m), (14, .slice a (List.length l) c)] 6 rfl rfl ?_
    have ex9 := (ex.ext x5)
    refine LP_call 6 rfl rfl rfl cal_78 rfl (spec_zeValues_w _ _ _ H wx4 r ex9) ?_
    rintro _ wx10 ⟨r8, H, rfl, x11⟩
    refine LP_ev ok 7 [(16, .bool (!r8)), (17, .bool (!r8))] 9 rfl rfl ?_
    refine LP_end _ rfl ?_
    have X12 := ((X.stepx x5).stepx x11)
    have ex13 := (ex9.ext x11)
    exact ⟨!r8, H, _, env_eq ⟨rfl, rfl, rfl, trivial⟩, X12, ex13⟩
  rintro x _ wx ⟨H, ρ, rfl, X2, ex1⟩
  subst hk
  refine W_cond (x) rfl (fun hc14 => ?_) (fun hc14 => ?_)
  · have H := H.1 hc14
    refine W_seq ?_
    refine W_region ?_
    refine LP_ev ok 0 [(4, .slice none 0 0), (5, .bool false)] 2 rfl rfl ?_
    refine LP_end _ rfl ?_
    refine W_ret ?_
    exact ⟨_, Ret_of [.slice none 0 0, .bool false] ⟨⟨rfl, rfl⟩, ⟨rfl, rfl⟩, trivial⟩, _, _, _, emp, H, rfl, X2.ext, OS.nil, (emp_sub _), (emp_fresh _)⟩
  have H := H.2 hc14
  refine W_skip ?_
  refine W_seq ?_
  refine W_region ?_
  refine LP_ev ok 0 [(6, .slice none 0 0)] 1 rfl rfl ?_
  refine LP_end _ rfl ?_
  refine W_seq ?_
  refine W_seq ?_
  refine W_region ?_
  refine LP_ev ok 0 [(18, .slice a (List.length l) c), (19, I (ln l)), (20, I 0)] 3 rfl rfl ?_
  refine LP_end _ rfl ?_
  refine W_block ?_
  obtain ⟨J, m24, Hx, H⟩ := H
  refine W_loop (S := (List Int) × Int) (fun s ρ' w' => J s.1 s.2 ∧ ∃ (ρ : Env) (vx15 : Value) (hx16 : PH), ρ' = setAll [(0, I m), (6, vx15), (18, .slice a (List.length l) c), (19, I (ln l)), (20, I s.2)] ρ ∧ But emp w w' ∧ OS 3 hx16 emp vx15 s.1 ∧ Sub hx16 w' ∧ Fresh w.heap.size hx16 ∧ Sub hx w' ∧ Dj hx16 hx) (fun s => m24 s.1 s.2) ([], 0) ⟨Hx, _, .slice none 0 0, emp, env_eq ⟨rfl, rfl, rfl, rfl, rfl, trivial⟩, X2, OS.nil, (emp_sub _), (emp_fresh _), ex1, (fun _ => .inl rfl)⟩ ?_
  rintro ⟨out, x18⟩ _ wx19 ⟨Hi, ρ, vx15, hx16, rfl, X23, o, ex17, f, ex20, d⟩
  have H := H out x18 Hi
  obtain ⟨a21, c22, rfl⟩ := o.shape
  refine W_seq ?_
  refine W_region ?_
  refine LP_ev ok 0 [(21, .bool (decide (x18 < (ln l))))] 1 rfl rfl ?_
  refine LP_end _ rfl ?_
  refine W_seq ?_
  refine W_cond (decide (x18 < (ln l))) rfl (fun hc25 => ?_) (fun hc25 => ?_)
  · have H := H.1 hc25
    refine W_skip ?_
    refine W_seq ?_
    refine W_block ?_
    refine W_seq ?_
    refine W_region ?_
    obtain ⟨x26, hi, hx27, H⟩ := H
    refine LP_index 0 rfl rfl rfl Try.underlying22 ti_3 rfl rfl r hi hx27 fun a28 cs r29 d30 => ?_
    refine LP_load 1 rfl rfl rfl ti_3 ag_3 rfl r29 d30 ex20 fun vx31 r32 => ?_
    obtain rfl := r32.int
    refine LP_ev ok 2 [(8, I x26)] 3 rfl rfl ?_
    refine LP_end _ rfl ?_
    obtain ⟨k35, hk36, H⟩ := jn_elim H
    refine W_join2 (S := Int) (fun s ρ' w' => k35 s ∧ ∃ (ρ : Env), ρ' = setAll [(0, I m), (6, .slice a21 (List.length out) c22), (8, I s), (18, .slice a (List.length l) c), (19, I (ln l)), (20, I x18)] ρ ∧ wx19 = w') ?_ ?_
    · refine W_seq ?_
      refine W_region ?_
      refine LP_ev ok 0 [(24, I x26), (25, I (wr (2 * x26))), (26, I m), (27, .bool (decide ((wr (2 * x26)) > m)))] 4 rfl rfl ?_
      refine LP_end _ rfl ?_
      refine W_cond (decide ((wr (2 * x26)) > m)) rfl (fun hc37 => ?_) (fun hc37 => ?_)
      · have H := H.1 hc37
        refine W_region ?_
        refine LP_ev ok 0 [(28, I x26), (29, I m), (30, I (wr (x26 - m))), (8, I (wr (x26 - m)))] 4 rfl rfl ?_
        refine LP_end _ rfl ?_
        exact ⟨wr (x26 - m), H, _, env_eq ⟨rfl, rfl, rfl, rfl, rfl, rfl, trivial⟩, rfl⟩
      have H := H.2 hc37
      refine W_skip ?_
      exact ⟨x26, H, _, env_eq ⟨rfl, rfl, rfl, rfl, rfl, rfl, trivial⟩, rfl⟩
    rintro x33 _ _ ⟨H, ρ, rfl, rfl⟩
    subst hk36
    refine W_region ?_
    refine LP_ev ok 0 [(31, .slice a21 (List.length out) c22), (32, I x33)] 2 rfl rfl ?_
    refine LP_lit (α := Int) (g := emp) 2 (vs := [I x33]) (xs := [x33]) rfl rfl rfl Try.underlying22 ti_3 rfl rfl ⟨⟨_, rfl, rfl⟩, trivial⟩ rfl rfl fun hx38 vx39 wx40 x41 o42 ex43 f44 => ?_
    obtain ⟨a45, c46, rfl⟩ := o42.shape
    have ex47 := (ex17.ext x41)
    obtain ⟨hb, H⟩ := H
    refine LP_appendf (α := Int) 3 rfl rfl rfl Try.underlying22 ti_3 rfl rfl rfl o ex47 o42.readf ex43 (by first | omega | (simp only [ln] at *; omega)) (by first | omega | (simp only [ln] at *; omega)) fun hx48 vx49 wx50 o51 ex52 y dm => ?_
    obtain ⟨a53, c54, rfl⟩ := o51.shape
    refine LP_ev ok 4 [(6, .slice a53 (List.length (out ++ ([x33]))) c54)] 5 rfl rfl ?_
    refine LP_end _ rfl ?_
    refine W_region ?_
    refine LP_ev ok 0 [(35, I (wr (x18 + 1))), (20, I (wr (x18 + 1)))] 2 rfl rfl ?_
    refine LP_end _ rfl ?_
    have X55 := ((X23.stepx x41).step y (f.dom _))
    have X57 := (X23.stepx x41)
    have f56 := dm.fresh f X57.size
    have ex58 := ((ex20.ext x41).but y d)
    have ex59 := (ex20.ext x41)
    exact ⟨(out ++ ([x33]), wr (x18 + 1)), ⟨H.1, _, .slice a53 (List.length (out ++ ([x33]))) c54, hx48, env_eq ⟨rfl, rfl, rfl, rfl, rfl, trivial⟩, X55, o51, ex52, f56, ex58, (DomLe.dj dm d ex59)⟩, H.2⟩
  have H := H.2 hc25
  refine W_exit ?_
  refine (if_pos rfl).mpr ?_
  refine W_seq ?_
  refine W_region ?_
  refine LP_ev ok 0 [(36, .slice a21 (List.length out) c22), (4, .slice a21 (List.length out) c22), (5, .bool true)] 3 rfl rfl ?_
  refine LP_end _ rfl ?_
  refine W_ret ?_
  exact ⟨_, Ret_of [.slice a21 (List.length out) c22, .bool true] ⟨⟨rfl, rfl⟩, ⟨rfl, rfl⟩, trivial⟩, _, _, _, _, H, rfl, X23.ext, o, ex17, f⟩

set_option maxRecDepth 8000 in
set_option maxHeartbeats 4000000 in
theorem impl_isModulus_w (m : Int) (Q : Bool → Prop) (H : impl_isModulus m Q) (w : World)  :
    CallsTo Try.prog 79 #[I m] w fun v w' => ∃ r0, Q r0 ∧ v = .bool r0 ∧ Ext w w' := by
  refine enter (args := [I m]) 9 Try.func79 rfl rfl rfl ?_
  refine W_forget [(0, I m)] ⟨rfl, trivial⟩ fun ρ => ?_
  have X := But.refl emp w
  refine W_seq ?_
  refine W_region ?_
  refine LP_ev ok 0 [(2, .bool false)] 1 rfl rfl ?_
  refine LP_end _ rfl ?_
  obtain ⟨k, hk, H⟩ := jn_elim H
  refine W_join2 (S := Bool) (fun s ρ' w' => k s ∧ ∃ (ρ : Env), ρ' = setAll [(2, .bool s)] ρ ∧ w = w') ?_ ?_
  · refine W_region ?_
    refine LP_ev ok 0 [(3, I m), (4, .bool (decide (m ≥ 2))), (5, .bool (decide (m ≥ 2)))] 3 rfl rfl ?_
    refine LP_split 5 (decide (m ≥ 2)) rfl (fun hc => ?_) (fun hc => ?_)
    · have H := H.1 hc
      refine LP_ev ok 3 [(6, I m), (7, .bool (decide (m ≤ 1000000007))), (8, .bool (decide (m ≤ 1000000007))), (2, .bool (decide (m ≤ 1000000007)))] 7 rfl rfl ?_
      refine LP_end _ rfl ?_
      exact ⟨decide (m ≤ 1000000007), H, _, env_eq ⟨rfl, trivial⟩, rfl⟩
    have H := H.2 hc
    refine LP_ev ok 3 [(6, undef), (7, undef), (8, .bool false), (2, .bool false)] 7 rfl rfl ?_
    refine LP_end _ rfl ?_
    exact ⟨false, H, _, env_eq ⟨rfl, trivial⟩, rfl⟩
  rintro x _ _ ⟨H, ρ, rfl, rfl⟩
  subst hk
  refine W_ret ?_
  exact ⟨_, Ret_of [.bool x] ⟨⟨rfl, rfl⟩, trivial⟩, _, H, rfl, X.ext⟩

set_option maxRecDepth 8000 in
set_option maxHeartbeats 4000000 in
theorem impl_areWithin_w (l : List Int) (lo : Int) (hi : Int) (Q : Bool → Prop) (H : impl_areWithin l lo hi Q) (w : World) {vx : Value} {hx : PH} (r : RS hx vx l) (ex : Sub hx w) :
    CallsTo Try.prog 141 #[vx, I lo, I hi] w fun v w' => ∃ r0, Q r0 ∧ v = .bool r0 ∧ Ext w w' := by
  obtain ⟨a, c, rfl⟩ := r.shape
  refine enter (args := [.slice a (List.length l) c, I lo, I hi]) 24 Try.func141 rfl rfl rfl ?_
  refine W_forget [(0, .slice a (List.length l) c), (1, I lo), (2, I hi)] ⟨rfl, rfl, rfl, trivial⟩ fun ρ => ?_
  have X := But.refl emp w
  refine W_seq ?_
  refine W_region ?_
  refine LP_ev ok 0 [(6, .bool false)] 1 rfl rfl ?_
  refine LP_end _ rfl ?_
  refine W_seq ?_
  refine W_seq ?_
  refine W_region ?_
  refine LP_ev ok 0 [(9, .slice a (List.length l) c), (10, I (ln l)), (11, I 0)] 3 rfl rfl ?_
  refine LP_end _ rfl ?_
  refine W_block ?_
  obtain ⟨J, m, Hx, H⟩ := H
  refine W_loop (S := Int) (fun s ρ' w' => J s ∧ ∃ (ρ : Env), ρ' = setAll [(1, I lo), (2, I hi), (9, .slice a (List.length l) c), (10, I (ln l)), (11, I s)] ρ ∧ w = w') (fun s => m s) 0 ⟨Hx, _, env_eq ⟨rfl, rfl, rfl, rfl, rfl, trivial⟩, rfl⟩ ?_
  rintro x _ _ ⟨Hi, ρ, rfl, rfl⟩
  have H := H x Hi
  refine W_seq ?_
  refine W_region ?_
  refine LP_ev ok 0 [(12, .bool (decide (x < (ln l))))] 1 rfl rfl ?_
  refine LP_end _ rfl ?_
  refine W_seq ?_
  refine W_cond (decide (x < (ln l))) rfl (fun hc => ?_) (fun hc => ?_)
  · have H := H.1 hc
    refine W_skip ?_
    refine W_seq ?_
    refine W_block ?_
    refine W_seq ?_
    refine W_region ?_
    obtain ⟨x1, hi2, hx3, H⟩ := H
    refine LP_index 0 rfl rfl rfl Try.underlying22 ti_3 rfl rfl r hi2 hx3 fun a4 cs r5 d => ?_
    refine LP_load 1 rfl rfl rfl ti_3 ag_3 rfl r5 d ex fun vx6 r7 => ?_
    obtain rfl := r7.int
    refine LP_ev ok 2 [(8, I x1)] 3 rfl rfl ?_
    refine LP_end _ rfl ?_
    obtain ⟨k, hk, H⟩ := jn_elim H
    refine W_join2 (S := Bool) (fun s ρ' w' => k s ∧ ∃ (ρ : Env), ρ' = setAll [(1, I lo), (2, I hi), (9, .slice a (List.length l) c), (10, I (ln l)), (11, I x), (22, .bool s)] ρ ∧ w = w') ?_ ?_
    · refine W_region ?_
      refine LP_ev ok 0 [(15, I x1), (16, I lo), (17, .bool (decide (x1 < lo))), (18, .bool (decide (x1 < lo)))] 4 rfl rfl ?_
      refine LP_split 18 (decide (x1 < lo)) rfl (fun hc10 => ?_) (fun hc10 => ?_)
      · have H := H.1 hc10
        refine LP_ev ok 4 [(19, undef), (20, undef), (21, undef), (22, .bool true)] 8 rfl rfl ?_
        refine LP_end _ rfl ?_
        exact ⟨true, H, _, env_eq ⟨rfl, rfl, rfl, rfl, rfl, rfl, trivial⟩, rfl⟩
      have H := H.2 hc10
      refine LP_ev ok 4 [(19, I x1), (20, I hi), (21, .bool (decide (x1 > hi))), (22, .bool (decide (x1 > hi)))] 8 rfl rfl ?_
      refine LP_end _ rfl ?_
      exact ⟨decide (x1 > hi), H, _, env_eq ⟨rfl, rfl, rfl, rfl, rfl, rfl, trivial⟩, rfl⟩
    rintro x8 _ _ ⟨H, ρ, rfl, rfl⟩
    subst hk
    refine W_cond (x8) rfl (fun hc11 => ?_) (fun hc11 => ?_)
    · have H := H.1 hc11
      refine W_seq ?_
      refine W_region ?_
      refine LP_ev ok 0 [(6, .bool false)] 1 rfl rfl ?_
      refine LP_end _ rfl ?_
      refine W_ret ?_
      exact ⟨_, Ret_of [.bool false] ⟨⟨rfl, rfl⟩, trivial⟩, _, H, rfl, X.ext⟩
    have H := H.2 hc11
    refine W_skip ?_
    refine W_region ?_
    refine LP_ev ok 0 [(23, I (wr (x + 1))), (11, I (wr (x + 1)))] 2 rfl rfl ?_
    refine LP_end _ rfl ?_
    exact ⟨wr (x + 1), ⟨H.1, _, env_eq ⟨rfl, rfl, rfl, rfl, rfl, trivial⟩, rfl⟩, H.2⟩
  have H := H.2 hc
  refine W_exit ?_
  refine (if_pos rfl).mpr ?_
  refine W_seq ?_
  refine W_region ?_
  refine LP_ev ok 0 [(6, .bool true)] 1 rfl rfl ?_
  refine LP_end _ rfl ?_
  refine W_ret ?_
  exact ⟨_, Ret_of [.bool true] ⟨⟨rfl, rfl⟩, trivial⟩, _, H, rfl, X.ext⟩

set_option maxRecDepth 8000 in
set_option maxHeartbeats 4000000 in
theorem impl_areResidues_w (values : List Int) (m : Int) (Q : Bool → Prop) (H : impl_areResidues values m Q) (w : World) {vx : Value} {hx : PH} (r : RS hx vx values) (ex : Sub hx w) :
    CallsTo Try.prog 80 #[vx, I m] w fun v w' => ∃ r0, Q r0 ∧ v = .bool r0 ∧ Ext w w' := by
  obtain ⟨a, c, rfl⟩ := r.shape
  refine enter (args := [.slice a (List.length values) c, I m]) 14 Try.func80 rfl rfl rfl ?_
  refine W_forget [(0, .slice a (List.length values) c), (1, I m)] ⟨rfl, rfl, trivial⟩ fun ρ => ?_
  have X := But.refl emp w
  refine W_seq ?_
  refine W_region ?_
  refine LP_ev ok 0 [(4, .bool false)] 1 rfl rfl ?_
  refine LP_end _ rfl ?_
  obtain ⟨k, hk, H⟩ := jn_elim H
  refine W_join2 (S := Bool) (fun s ρ' w' => k s ∧ ∃ (ρ : Env), ρ' = setAll [(4, .bool s)] ρ ∧ But emp w w') ?_ ?_
  · refine W_region ?_
    refine LP_ev ok 0 [(5, .slice a (List.length values) c), (6, I (ln values)), (7, .bool (decide ((ln values) ≤ 600))), (8, .bool (decide ((ln values) ≤ 600)))] 4 rfl rfl ?_
    refine LP_split 8 (decide ((ln values) ≤ 600)) rfl (fun hc => ?_) (fun hc => ?_)
    · have H := H.1 hc
      refine LP_ev ok 4 [(9, .slice a (List.length values) c), (10, I m), (11, I (wr (m - 1)))] 7 rfl rfl ?_
      refine LP_call 7 rfl rfl rfl cal_141 rfl (impl_areWithin_w _ _ _ _ H w r ex) ?_
      rintro _ wx3 ⟨r2, H, rfl, x4⟩
      refine LP_ev ok 8 [(13, .bool r2), (4, .bool r2)] 10 rfl rfl ?_
      refine LP_end _ rfl ?_
      have X5 := (X.stepx x4)
      exact ⟨r2, H, _, env_eq ⟨rfl, trivial⟩, X5⟩
    have H := H.2 hc
    refine LP_ev ok 4 [(9, undef), (10, undef), (11, undef), (12, undef), (13, .bool false), (4, .bool false)] 10 rfl rfl ?_
    refine LP_end _ rfl ?_
    exact ⟨false, H, _, env_eq ⟨rfl, trivial⟩, X⟩
  rintro x _ wx ⟨H, ρ, rfl, X1⟩
  subst hk
  refine W_ret ?_
  exact ⟨_, Ret_of [.bool x] ⟨⟨rfl, rfl⟩, trivial⟩, _, H, rfl, X1.ext⟩

set_option maxRecDepth 8000 in
set_option maxHeartbeats 4000000 in
theorem impl_SignedValues_w (m : Int) (l : List Int) (Q : (List Int) → Bool → Prop) (H : impl_SignedValues m l Q) (w : World) {vx : Value} {hx : PH} (r : RS hx vx l) (ex : Sub hx w) :
    CallsTo Try.prog 27 #[I m, vx] w fun v w' => ∃ r0 r1 u0 g0, Q r0 r1 ∧ v = .tuple #[u0, .bool r1] ∧ Ext w w' ∧ OS 3 g0 emp u0 r0 ∧ Sub g0 w' ∧ Fresh w.heap.size g0 := by
  obtain ⟨a, c, rfl⟩ := r.shape
  refine enter (args := [I m, .slice a (List.length l) c]) 41 Try.func27 rfl rfl rfl ?_
  refine W_forget [(0, I m), (1, .slice a (List.length l) c)] ⟨rfl, rfl, trivial⟩ fun ρ => ?_
  have X := But.refl emp w
  refine W_seq ?_
  refine W_region ?_
  refine LP_ev ok 0 [(4, .slice none 0 0), (5, .bool false)] 2 rfl rfl ?_
  refine LP_end _ rfl ?_
  refine W_seq ?_
  obtain ⟨k, hk, H⟩ := jn_elim H
  refine W_join2 (S := Bool) (fun s ρ' w' => k s ∧ ∃ (ρ : Env), ρ' = setAll [(0, I m), (1, .slice a (List.length l) c), (17, .bool s)] ρ ∧ But emp w w' ∧ Sub hx w') ?_ ?_
  · refine W_region ?_
    refine LP_ev ok 0 [(9, I m)] 1 rfl rfl ?_
    refine LP_call 1 rfl rfl rfl cal_79 rfl (impl_isModulus_w _ _ H w ) ?_
    rintro _ wx4 ⟨r3, H, rfl, x5⟩
    refine LP_ev ok 2 [(11, .bool (!r3)), (12, .bool (!r3))] 4 rfl rfl ?_
    refine LP_split 12 (!r3) rfl (fun hc => ?_) (fun hc => ?_)
    · have H := H.1 hc
      refine LP_ev ok 4 [(13, undef), (14, undef), (15, undef), (16, undef), (17, .bool true)] 9 rfl rfl ?_
      refine LP_end _ rfl ?_
      have X6 := (X.stepx x5)
      have ex7 := (ex.ext x5)
      exact ⟨true, H, _, env_eq ⟨rfl, rfl, rfl, trivial⟩, X6, ex7⟩
    have H := H.2 hc
    refine LP_ev ok 4 [(13, .slice a (List.length l) c), (14, I m)] 6 rfl rfl ?_
    have ex9 := (ex.ext x5)
    refine LP_call 6 rfl rfl rfl cal_80 rfl (impl_areResidues_w _ _ _ H wx4 r ex9) ?_
    rintro _ wx10 ⟨r8, H, rfl, x11⟩
    refine LP_ev ok 7 [(16, .bool (!r8)), (17, .bool (!r8))] 9 rfl rfl ?_
    refine LP_end _ rfl ?_
    have X12 := ((X.stepx x5).stepx x11)
    have ex13 := (ex9.ext x11)
    exact ⟨!r8, H, _, env_eq ⟨rfl, rfl, rfl, trivial⟩, X12, ex13⟩
  rintro x _ wx ⟨H, ρ, rfl, X2, ex1⟩
  subst hk
  refine W_cond (x) rfl (fun hc14 => ?_) (fun hc14 => ?_)
  · have H := H.1 hc14
    refine W_seq ?_
    refine W_region ?_
    refine LP_ev ok 0 [(4, .slice none 0 0), (5, .bool false)] 2 rfl rfl ?_
    refine LP_end _ rfl ?_
    refine W_ret ?_
    exact ⟨_, Ret_of [.slice none 0 0, .bool false] ⟨⟨rfl, rfl⟩, ⟨rfl, rfl⟩, trivial⟩, _, _, _, emp, H, rfl, X2.ext, OS.nil, (emp_sub _), (emp_fresh _)⟩
  have H := H.2 hc14
  refine W_skip ?_
  refine W_seq ?_
  refine W_region ?_
  refine LP_ev ok 0 [(18, .slice a (List.length l) c), (19, I (ln l))] 2 rfl rfl ?_
  obtain ⟨hn, hb, H⟩ := H
  refine LP_make (α := Int) 2 rfl rfl rfl Try.underlying22 ti_3 (x0 := (0 : Int)) rfl rfl hn (by first | omega | (simp only [ln] at *; omega)) (by first | omega | (simp only [ln] at *; omega)) fun hx15 vx16 wx17 x18 o ex19 f => ?_
  obtain ⟨a20, c21, rfl⟩ := o.shape
  refine LP_ev ok 3 [(6, .slice a20 (List.length (List.replicate (Int.toNat (ln l)) ((0 : Int)))) c21)] 4 rfl rfl ?_
  refine LP_end _ rfl ?_
  refine W_seq ?_
  refine W_seq ?_
  refine W_region ?_
  refine LP_ev ok 0 [(21, .slice a (List.length l) c), (22, I (ln l)), (23, I 0)] 3 rfl rfl ?_
  refine LP_end _ rfl ?_
  refine W_block ?_
  obtain ⟨J, m31, Hx, H⟩ := H
  have X32 := (X2.stepx x18)
  have f33 := f.mono X2.size
  have ex34 := (ex1.ext x18)
  refine W_loop (S := (List Int) × Int) (fun s ρ' w' => J s.1 s.2 ∧ ∃ (ρ : Env) (hx23 : PH), ρ' = setAll [(0, I m), (6, .slice a20 (List.length (List.replicate (Int.toNat (ln l)) ((0 : Int)))) c21), (21, .slice a (List.length l) c), (22, I (ln l)), (23, I s.2)] ρ ∧ But emp w w' ∧ OS 3 hx23 emp (.slice a20 (List.length (List.replicate (Int.toNat (ln l)) ((0 : Int)))) c21) s.1 ∧ Sub hx23 w' ∧ Fresh w.heap.size hx23 ∧ Sub hx w' ∧ Dj hx23 hx) (fun s => m31 s.1 s.2) (List.replicate (Int.toNat (ln l)) ((0 : Int)), 0) ⟨Hx, _, hx15, env_eq ⟨rfl, rfl, rfl, rfl, rfl, trivial⟩, X32, o, ex19, f33, ex34, (Dj.of_fresh ex1 f).symm⟩ ?_
  rintro ⟨out, x27⟩ _ wx28 ⟨Hi, ρ, hx23, rfl, X30, o24, ex25, f26, ex29, d⟩
  have H := H out x27 Hi
  refine W_seq ?_
  refine W_region ?_
  refine LP_ev ok 0 [(24, .bool (decide (x27 < (ln l))))] 1 rfl rfl ?_
  refine LP_end _ rfl ?_
  refine W_seq ?_
  refine W_cond (decide (x27 < (ln l))) rfl (fun hc35 => ?_) (fun hc35 => ?_)
  · have H := H.1 hc35
    refine W_skip ?_
    refine W_seq ?_
    refine W_block ?_
    refine W_seq ?_
    refine W_region ?_
    refine LP_ev ok 0 [(25, I x27)] 1 rfl rfl ?_
    obtain ⟨x36, hi, hx37, H⟩ := H
    refine LP_index 1 rfl rfl rfl Try.underlying22 ti_3 rfl rfl r hi hx37 fun a38 cs r39 d40 => ?_
    refine LP_load 2 rfl rfl rfl ti_3 ag_3 rfl r39 d40 ex29 fun vx41 r42 => ?_
    obtain rfl := r42.int
    refine LP_ev ok 3 [(7, I x27), (8, I x36)] 5 rfl rfl ?_
    refine LP_end _ rfl ?_
    obtain ⟨k45, hk46, H⟩ := jn_elim H
    refine W_join2 (S := Int) (fun s ρ' w' => k45 s ∧ ∃ (ρ : Env), ρ' = setAll [(0, I m), (6, .slice a20 (List.length (List.replicate (Int.toNat (ln l)) ((0 : Int)))) c21), (7, I x27), (8, I s), (21, .slice a (List.length l) c), (22, I (ln l)), (23, I x27)] ρ ∧ wx28 = w') ?_ ?_
    · refine W_seq ?_
      refine W_region ?_
      refine LP_ev ok 0 [(28, I x36), (29, I (wr (2 * x36))), (30, I m), (31, .bool (decide ((wr (2 * x36)) > m)))] 4 rfl rfl ?_
      refine LP_end _ rfl ?_
      refine W_cond (decide ((wr (2 * x36)) > m)) rfl (fun hc47 => ?_) (fun hc47 => ?_)
      · have H := H.1 hc47
        refine W_region ?_
        refine LP_ev ok 0 [(32, I x36), (33, I m), (34, I (wr (x36 - m))), (8, I (wr (x36 - m)))] 4 rfl rfl ?_
        refine LP_end _ rfl ?_
        exact ⟨wr (x36 - m), H, _, env_eq ⟨rfl, rfl, rfl, rfl, rfl, rfl, rfl, trivial⟩, rfl⟩
      have H := H.2 hc47
      refine W_skip ?_
      exact ⟨x36, H, _, env_eq ⟨rfl, rfl, rfl, rfl, rfl, rfl, rfl, trivial⟩, rfl⟩
    rintro x43 _ _ ⟨H, ρ, rfl, rfl⟩
    subst hk46
    refine W_region ?_
    refine LP_ev ok 0 [(35, .slice a20 (List.length (List.replicate (Int.toNat (ln l)) ((0 : Int)))) c21), (36, I x27), (37, I x43)] 3 rfl rfl ?_
    obtain ⟨hi48, hl, H⟩ := H
    refine LP_indexw 3 rfl rfl rfl Try.underlying22 ti_3 rfl rfl o24 hi48 hl fun a49 wa => ?_
    refine LP_set 4 rfl rfl rfl rfl rfl wa (Le.refl emp) ⟨_, rfl, rfl⟩ ex25 fun hx50 wx51 o52 ex53 y dm => ?_
    refine LP_end _ rfl ?_
    refine W_region ?_
    refine LP_ev ok 0 [(39, I (wr (x27 + 1))), (23, I (wr (x27 + 1)))] 2 rfl rfl ?_
    refine LP_end _ rfl ?_
    have X54 := (X30.step y (f26.dom _))
    have f55 := (dm _).fresh f26 X30.size
    have ex56 := (ex29.but y d)
    exact ⟨(List.set out (Int.toNat x27) x43, wr (x27 + 1)), ⟨H.1, _, hx50, env_eq ⟨rfl, rfl, rfl, rfl, rfl, trivial⟩, X54, o52, ex53, f55, ex56, (DomLe.dj (dm _) d ex29)⟩, H.2⟩
  have H := H.2 hc35
  refine W_exit ?_
  refine (if_pos rfl).mpr ?_
  refine W_seq ?_
  refine W_region ?_
  refine LP_ev ok 0 [(40, .slice a20 (List.length (List.replicate (Int.toNat (ln l)) ((0 : Int)))) c21), (4, .slice a20 (List.length (List.replicate (Int.toNat (ln l)) ((0 : Int)))) c21), (5, .bool true)] 3 rfl rfl ?_
  refine LP_end _ rfl ?_
  refine W_ret ?_
  exact ⟨_, Ret_of [.slice a20 (List.length (List.replicate (Int.toNat (ln l)) ((0 : Int)))) c21, .bool true] ⟨⟨rfl, rfl⟩, ⟨rfl, rfl⟩, trivial⟩, _, _, _, _, H, rfl, X30.ext, o24, ex25, f26⟩

set_option maxRecDepth 8000 in
set_option maxHeartbeats 4000000 in
theorem laws_FnExactSignedValues_w (aM : Int) (aL : List Int) (Q : Bool → Prop) (H : laws_FnExactSignedValues aM aL Q) (w : World) {vx : Value} {hx : PH} (r : RS hx vx aL) (ex : Sub hx w) :
    CallsTo Try.prog 4 #[I aM, vx] w fun v w' => ∃ r0, Q r0 ∧ v = .bool r0 ∧ Ext w w' := by
  obtain ⟨a, c, rfl⟩ := r.shape
  refine enter (args := [I aM, .slice a (List.length aL) c]) 98 Try.func4 rfl rfl rfl ?_
  refine W_forget [(0, I aM), (1, .slice a (List.length aL) c)] ⟨rfl, rfl, trivial⟩ fun ρ => ?_
  have X := But.refl emp w
  refine W_seq ?_
  refine W_region ?_
  refine LP_ev ok 0 [(4, .bool false)] 1 rfl rfl ?_
  refine LP_end _ rfl ?_
  refine W_seq ?_
  refine W_seq ?_
  refine W_region ?_
  refine LP_ev ok 0 [(15, .slice a (List.length aL) c), (16, I (ln aL)), (17, .bool (decide ((ln aL) > 1048576)))] 3 rfl rfl ?_
  refine LP_end _ rfl ?_
  refine W_cond (decide ((ln aL) > 1048576)) rfl (fun hc => ?_) (fun hc => ?_)
  · have H := H.1 hc
    refine W_seq ?_
    refine W_region ?_
    refine LP_ev ok 0 [(4, .bool true)] 1 rfl rfl ?_
    refine LP_end _ rfl ?_
    refine W_ret ?_
    exact ⟨_, Ret_of [.bool true] ⟨⟨rfl, rfl⟩, trivial⟩, _, H, rfl, X.ext⟩
  have H := H.2 hc
  refine W_skip ?_
  refine W_seq ?_
  refine W_region ?_
  refine LP_ev ok 0 [(19, I aM), (20, .slice a (List.length aL) c)] 2 rfl rfl ?_
  refine LP_call 2 rfl rfl rfl cal_26 rfl (laws_toIntS_w _ _ H w r ex) ?_
  rintro _ wx ⟨r1, vx2, hx3, H, rfl, x, o, ex4, f⟩
  obtain ⟨a5, c6, rfl⟩ := o.shape
  refine LP_call 3 rfl rfl rfl cal_25 rfl (spec_SignedValues_w _ _ _ H wx o.readf ex4) ?_
  rintro _ wx9 ⟨r7, r8, vx11, hx12, H, rfl, x10, o13, ex14, f15⟩
  obtain ⟨a16, c17, rfl⟩ := o13.shape
  refine LP_ev ok 4 [(18, .tuple #[.slice a16 (List.length r7) c17, .bool r8]), (23, .slice a16 (List.length r7) c17), (24, .bool r8), (5, .slice a16 (List.length r7) c17), (6, .bool r8)] 9 rfl rfl ?_
  refine LP_end _ rfl ?_
  refine W_seq ?_
  refine W_region ?_
  refine LP_ev ok 0 [(25, .slice a (List.length aL) c)] 1 rfl rfl ?_
  have ex19 := ((ex.ext x).ext x10)
  refine LP_call 1 rfl rfl rfl cal_26 rfl (laws_toIntS_w _ _ H wx9 r ex19) ?_
  rintro _ wx20 ⟨r18, vx22, hx23, H, rfl, x21, o24, ex25, f26⟩
  obtain ⟨a27, c28, rfl⟩ := o24.shape
  refine LP_ev ok 2 [(7, .slice a27 (List.length r18) c28)] 3 rfl rfl ?_
  refine LP_end _ rfl ?_
  refine W_seq ?_
  refine W_region ?_
  refine LP_ev ok 0 [(28, I aM), (29, .slice a27 (List.length r18) c28)] 2 rfl rfl ?_
  refine LP_call 2 rfl rfl rfl cal_27 rfl (impl_SignedValues_w _ _ _ H wx20 o24.readf ex25) ?_
  rintro _ wx31 ⟨r29, r30, vx33, hx34, H, rfl, x32, o35, ex36, f37⟩
  obtain ⟨a38, c39, rfl⟩ := o35.shape
  refine LP_ev ok 3 [(27, .tuple #[.slice a38 (List.length r29) c39, .bool r30]), (31, .slice a38 (List.length r29) c39), (32, .bool r30), (8, .slice a38 (List.length r29) c39), (9, .bool r30)] 8 rfl rfl ?_
  refine LP_end _ rfl ?_
  refine W_seq ?_
  obtain ⟨k, hk, H⟩ := jn_elim H
  refine W_join2 (S := Bool) (fun s ρ' w' => k s ∧ ∃ (ρ : Env), ρ' = setAll [(0, I aM), (1, .slice a (List.length aL) c), (5, .slice a16 (List.length r7) c17), (6, .bool r8), (7, .slice a27 (List.length r18) c28), (8, .slice a38 (List.length r29) c39), (9, .bool r30), (41, .bool s)] ρ ∧ But emp w w' ∧ Sub hx w' ∧ Sub hx12 w' ∧ Sub hx23 w' ∧ Sub hx34 w') ?_ ?_
  · refine W_region ?_
    refine LP_ev ok 0 [(33, .slice a38 (List.length r29) c39), (34, .slice a16 (List.length r7) c17)] 2 rfl rfl ?_
    have ex48 := ((ex14.ext x21).ext x32)
    refine LP_call 2 rfl rfl rfl cal_22 rfl (laws_eqIntS_w _ _ _ H wx31 o35.readf ex36 o13.readf ex48) ?_
    rintro _ wx49 ⟨r47, H, rfl, x50⟩
    refine LP_ev ok 3 [(36, .bool (!r47)), (37, .bool (!r47))] 5 rfl rfl ?_
    refine LP_split 37 (!r47) rfl (fun hc51 => ?_) (fun hc51 => ?_)
    · have H := H.1 hc51
      refine LP_ev ok 5 [(38, undef), (39, undef), (40, undef), (41, .bool true)] 9 rfl rfl ?_
      refine LP_end _ rfl ?_
      try refine W_forget [(0, I aM), (1, .slice a (List.length aL) c), (5, .slice a16 (List.length r7) c17), (6, .bool r8), (7, .slice a27 (List.length r18) c28), (8, .slice a38 (List.length r29) c39), (9, .bool r30), (41, .bool true)] ⟨rfl, rfl, rfl, rfl, rfl, rfl, rfl, rfl, trivial⟩ fun ρ => ?_
      have X52 := (((((X.stepx x).stepx x10).stepx x21).stepx x32).stepx x50)
      have ex53 := (((ex19.ext x21).ext x32).ext x50)
      have ex54 := (ex48.ext x50)
      have ex55 := ((ex25.ext x32).ext x50)
      have ex56 := (ex36.ext x50)
      exact ⟨true, H, _, env_eq ⟨rfl, rfl, rfl, rfl, rfl, rfl, rfl, rfl, trivial⟩, X52, ex53, ex54, ex55, ex56⟩
    have H := H.2 hc51
    refine LP_ev ok 5 [(38, .bool r30), (39, .bool r8), (40, .bool (r30 != r8)), (41, .bool (r30 != r8))] 9 rfl rfl ?_
    refine LP_end _ rfl ?_
    try refine W_forget [(0, I aM), (1, .slice a (List.length aL) c), (5, .slice a16 (List.length r7) c17), (6, .bool r8), (7, .slice a27 (List.length r18) c28), (8, .slice a38 (List.length r29) c39), (9, .bool r30), (41, .bool (r30 != r8))] ⟨rfl, rfl, rfl, rfl, rfl, rfl, rfl, rfl, trivial⟩ fun ρ => ?_
    have X57 := (((((X.stepx x).stepx x10).stepx x21).stepx x32).stepx x50)
    have ex58 := (((ex19.ext x21).ext x32).ext x50)
    have ex59 := (ex48.ext x50)
    have ex60 := ((ex25.ext x32).ext x50)
    have ex61 := (ex36.ext x50)
    exact ⟨r30 != r8, H, _, env_eq ⟨rfl, rfl, rfl, rfl, rfl, rfl, rfl, rfl, trivial⟩, X57, ex58, ex59, ex60, ex61⟩
  rintro x40 _ wx41 ⟨H, ρ, rfl, X46, ex42, ex43, ex44, ex45⟩
  subst hk
  refine W_cond (x40) rfl (fun hc62 => ?_) (fun hc62 => ?_)
  · have H := H.1 hc62
    refine W_seq ?_
    refine W_region ?_
    refine LP_ev ok 0 [(4, .bool false)] 1 rfl rfl ?_
    refine LP_end _ rfl ?_
    refine W_ret ?_
    exact ⟨_, Ret_of [.bool false] ⟨⟨rfl, rfl⟩, trivial⟩, _, H, rfl, X46.ext⟩
  have H := H.2 hc62
  refine W_skip ?_
  refine W_seq ?_
  refine W_seq ?_
  refine W_region ?_
  refine LP_ev ok 0 [(42, .slice a27 (List.length r18) c28), (43, .slice a (List.length aL) c)] 2 rfl rfl ?_
  refine LP_call 2 rfl rfl rfl cal_26 rfl (laws_toIntS_w _ _ H wx41 r ex42) ?_
  rintro _ wx64 ⟨r63, vx66, hx67, H, rfl, x65, o68, ex69, f70⟩
  obtain ⟨a71, c72, rfl⟩ := o68.shape
  have ex74 := (ex44.ext x65)
  refine LP_call 3 rfl rfl rfl cal_22 rfl (laws_eqIntS_w _ _ _ H wx64 o24.readf ex74 o68.readf ex69) ?_
  rintro _ wx75 ⟨r73, H, rfl, x76⟩
  refine LP_ev ok 4 [(46, .bool (!r73))] 5 rfl rfl ?_
  refine LP_end _ rfl ?_
  refine W_cond (!r73) rfl (fun hc77 => ?_) (fun hc77 => ?_)
  · have H := H.1 hc77
    refine W_seq ?_
    refine W_region ?_
    refine LP_ev ok 0 [(4, .bool false)] 1 rfl rfl ?_
    refine LP_end _ rfl ?_
    refine W_ret ?_
    have X78 := ((X46.stepx x65).stepx x76)
    exact ⟨_, Ret_of [.bool false] ⟨⟨rfl, rfl⟩, trivial⟩, _, H, rfl, X78.ext⟩
  have H := H.2 hc77
  refine W_skip ?_
  refine W_seq ?_
  refine W_region ?_
  refine LP_ev ok 0 [(10, I 1)] 1 rfl rfl ?_
  refine LP_end _ rfl ?_
  refine W_seq ?_
  refine W_region ?_
  refine LP_ev ok 0 [(47, .slice a27 (List.length r18) c28), (48, I 1)] 2 rfl rfl ?_
  have ex81 := (ex74.ext x76)
  refine LP_call 2 rfl rfl rfl cal_23 rfl (laws_markIntS_w _ _ _ H wx75 o24 ex81) ?_
  rintro _ wx82 ⟨r79, r80, hx84, H, rfl, x83, o85, ex86, dm⟩
  refine LP_ev ok 3 [(10, I r79)] 4 rfl rfl ?_
  refine LP_end _ rfl ?_
  refine W_seq ?_
  obtain ⟨k95, hk96, H⟩ := jn_elim H
  refine W_join2 (S := Bool) (fun s ρ' w' => k95 s ∧ ∃ (ρ : Env), ρ' = setAll [(0, I aM), (1, .slice a (List.length aL) c), (5, .slice a16 (List.length r7) c17), (6, .bool r8), (8, .slice a38 (List.length r29) c39), (62, .bool s)] ρ ∧ But emp w w' ∧ Sub hx w' ∧ Sub hx12 w' ∧ Sub hx34 w') ?_ ?_
  · refine W_region ?_
    refine LP_ev ok 0 [(50, I r79), (51, .bool (decide (r79 < 0))), (52, .bool (decide (r79 < 0)))] 3 rfl rfl ?_
    refine LP_split 52 (decide (r79 < 0)) rfl (fun hc97 => ?_) (fun hc97 => ?_)
    · have H := H.1 hc97
      refine LP_ev ok 3 [(53, undef), (54, undef), (55, undef), (56, undef), (57, .bool true), (58, .bool true), (59, undef), (60, undef), (61, undef), (62, .bool true)] 13 rfl rfl ?_
      refine LP_end _ rfl ?_
      have X99 := ((X.stepx x).stepx x10)
      have f98 := f26.mono X99.size
      have X100 := (((X46.stepx x65).stepx x76).step x83 (f98.dom _))
      have ex101 := (((ex42.ext x65).ext x76).but x83 (Dj.of_fresh ex19 f26).symm)
      have ex102 := (((ex43.ext x65).ext x76).but x83 (Dj.of_fresh ex14 f26).symm)
      have ex103 := (((ex45.ext x65).ext x76).but x83 (Dj.of_fresh ex25 f37))
      exact ⟨true, H, _, env_eq ⟨rfl, rfl, rfl, rfl, rfl, rfl, trivial⟩, X100, ex101, ex102, ex103⟩
    have H := H.2 hc97
    refine LP_ev ok 3 [(53, .slice a38 (List.length r29) c39), (54, .slice a16 (List.length r7) c17)] 5 rfl rfl ?_
    have ex105 := (((ex45.ext x65).ext x76).but x83 (Dj.of_fresh ex25 f37))
    have ex106 := (((ex43.ext x65).ext x76).but x83 (Dj.of_fresh ex14 f26).symm)
    refine LP_call 5 rfl rfl rfl cal_22 rfl (laws_eqIntS_w _ _ _ H wx82 o35.readf ex105 o13.readf ex106) ?_
    rintro _ wx107 ⟨r104, H, rfl, x108⟩
    refine LP_ev ok 6 [(56, .bool (!r104)), (57, .bool (!r104)), (58, .bool (!r104))] 9 rfl rfl ?_
    refine LP_split 58 (!r104) rfl (fun hc109 => ?_) (fun hc109 => ?_)
    · have H := H.1 hc109
      refine LP_ev ok 9 [(59, undef), (60, undef), (61, undef), (62, .bool true)] 13 rfl rfl ?_
      refine LP_end _ rfl ?_
      have X111 := ((X.stepx x).stepx x10)
      have f110 := f26.mono X111.size
      have X112 := ((((X46.stepx x65).stepx x76).step x83 (f110.dom _)).stepx x108)
      have ex113 := ((((ex42.ext x65).ext x76).but x83 (Dj.of_fresh ex19 f26).symm).ext x108)
      have ex114 := (ex106.ext x108)
      have ex115 := (ex105.ext x108)
      exact ⟨true, H, _, env_eq ⟨rfl, rfl, rfl, rfl, rfl, rfl, trivial⟩, X112, ex113, ex114, ex115⟩
    have H := H.2 hc109
    refine LP_ev ok 9 [(59, .bool r30), (60, .bool r8), (61, .bool (r30 != r8)), (62, .bool (r30 != r8))] 13 rfl rfl ?_
    refine LP_end _ rfl ?_
    have X117 := ((X.stepx x).stepx x10)
    have f116 := f26.mono X117.size
    have X118 := ((((X46.stepx x65).stepx x76).step x83 (f116.dom _)).stepx x108)
    have ex119 := ((((ex42.ext x65).ext x76).but x83 (Dj.of_fresh ex19 f26).symm).ext x108)
    have ex120 := (ex106.ext x108)
    have ex121 := (ex105.ext x108)
    exact ⟨r30 != r8, H, _, env_eq ⟨rfl, rfl, rfl, rfl, rfl, rfl, trivial⟩, X118, ex119, ex120, ex121⟩
  rintro x89 _ wx90 ⟨H, ρ, rfl, X94, ex91, ex92, ex93⟩
  subst hk96
  refine W_cond (x89) rfl (fun hc122 => ?_) (fun hc122 => ?_)
  · have H := H.1 hc122
    refine W_seq ?_
    refine W_region ?_
    refine LP_ev ok 0 [(4, .bool false)] 1 rfl rfl ?_
    refine LP_end _ rfl ?_
    refine W_ret ?_
    exact ⟨_, Ret_of [.bool false] ⟨⟨rfl, rfl⟩, trivial⟩, _, H, rfl, X94.ext⟩
  have H := H.2 hc122
  refine W_skip ?_
  refine W_seq ?_
  refine W_region ?_
  refine LP_ev ok 0 [(11, I 1)] 1 rfl rfl ?_
  refine LP_end _ rfl ?_
  refine W_seq ?_
  refine W_region ?_
  refine LP_ev ok 0 [(63, .slice a38 (List.length r29) c39), (64, I 1)] 2 rfl rfl ?_
  refine LP_call 2 rfl rfl rfl cal_23 rfl (laws_markIntS_w _ _ _ H wx90 o35 ex93) ?_
  rintro _ wx125 ⟨r123, r124, hx127, H, rfl, x126, o128, ex129, dm130⟩
  refine LP_ev ok 3 [(11, I r123)] 4 rfl rfl ?_
  refine LP_end _ rfl ?_
  refine W_seq ?_
  refine W_region ?_
  refine LP_ev ok 0 [(12, I 1)] 1 rfl rfl ?_
  refine LP_end _ rfl ?_
  refine W_seq ?_
  refine W_region ?_
  refine LP_ev ok 0 [(66, .slice a38 (List.length r29) c39), (67, I 1)] 2 rfl rfl ?_
  refine LP_call 2 rfl rfl rfl cal_24 rfl (laws_heldIntS_w _ _ _ H wx125 o128.readf ex129) ?_
  rintro _ wx135 ⟨r134, H, rfl, x136⟩
  refine LP_ev ok 3 [(12, I r134)] 4 rfl rfl ?_
  refine LP_end _ rfl ?_
  refine W_seq ?_
  refine W_seq ?_
  refine W_region ?_
  refine LP_ev ok 0 [(69, I r134), (70, .bool (decide (r134 < 0)))] 2 rfl rfl ?_
  refine LP_end _ rfl ?_
  refine W_cond (decide (r134 < 0)) rfl (fun hc137 => ?_) (fun hc137 => ?_)
  · have H := H.1 hc137
    refine W_seq ?_
    refine W_region ?_
    refine LP_ev ok 0 [(4, .bool false)] 1 rfl rfl ?_
    refine LP_end _ rfl ?_
    refine W_ret ?_
    have X139 := (((X.stepx x).stepx x10).stepx x21)
    have f138 := f37.mono X139.size
    have X140 := ((X94.step x126 (f138.dom _)).stepx x136)
    exact ⟨_, Ret_of [.bool false] ⟨⟨rfl, rfl⟩, trivial⟩, _, H, rfl, X140.ext⟩
  have H := H.2 hc137
  refine W_skip ?_
  refine W_seq ?_
  refine W_seq ?_
  refine W_region ?_
  refine LP_ev ok 0 [(71, I r134), (72, I r123), (73, .bool (r134 != r123))] 3 rfl rfl ?_
  refine LP_end _ rfl ?_
  refine W_cond (r134 != r123) rfl (fun hc141 => ?_) (fun hc141 => ?_)
  · have H := H.1 hc141
    refine W_seq ?_
    refine W_region ?_
    refine LP_ev ok 0 [(4, .bool false)] 1 rfl rfl ?_
    refine LP_end _ rfl ?_
    refine W_ret ?_
    have X143 := (((X.stepx x).stepx x10).stepx x21)
    have f142 := f37.mono X143.size
    have X144 := ((X94.step x126 (f142.dom _)).stepx x136)
    exact ⟨_, Ret_of [.bool false] ⟨⟨rfl, rfl⟩, trivial⟩, _, H, rfl, X144.ext⟩
  have H := H.2 hc141
  refine W_skip ?_
  refine W_seq ?_
  refine W_region ?_
  refine LP_ev ok 0 [(75, I aM), (76, .slice a (List.length aL) c)] 2 rfl rfl ?_
  have ex146 := (ex19.ext x21)
  have ex147 := ((ex91.but x126 (Dj.of_fresh ex146 f37).symm).ext x136)
  refine LP_call 2 rfl rfl rfl cal_26 rfl (laws_toIntS_w _ _ H wx135 r ex147) ?_
  rintro _ wx148 ⟨r145, vx150, hx151, H, rfl, x149, o152, ex153, f154⟩
  obtain ⟨a155, c156, rfl⟩ := o152.shape
  refine LP_call 3 rfl rfl rfl cal_27 rfl (impl_SignedValues_w _ _ _ H wx148 o152.readf ex153) ?_
  rintro _ wx159 ⟨r157, r158, vx161, hx162, H, rfl, x160, o163, ex164, f165⟩
  obtain ⟨a166, c167, rfl⟩ := o163.shape
  refine LP_ev ok 4 [(74, .tuple #[.slice a166 (List.length r157) c167, .bool r158]), (79, .slice a166 (List.length r157) c167), (80, .bool r158), (13, .slice a166 (List.length r157) c167), (14, .bool r158)] 9 rfl rfl ?_
  refine LP_end _ rfl ?_
  refine W_seq ?_
  obtain ⟨k172, hk173, H⟩ := jn_elim H
  refine W_join2 (S := Bool) (fun s ρ' w' => k172 s ∧ ∃ (ρ : Env), ρ' = setAll [(8, .slice a38 (List.length r29) c39), (11, I r123), (89, .bool s)] ρ ∧ But emp w w' ∧ Sub hx127 w') ?_ ?_
  · refine W_region ?_
    refine LP_ev ok 0 [(81, .slice a166 (List.length r157) c167), (82, .slice a16 (List.length r7) c17)] 2 rfl rfl ?_
    have ex175 := (ex14.ext x21)
    have ex176 := ((((ex92.but x126 (Dj.of_fresh ex175 f37).symm).ext x136).ext x149).ext x160)
    refine LP_call 2 rfl rfl rfl cal_22 rfl (laws_eqIntS_w _ _ _ H wx159 o163.readf ex164 o13.readf ex176) ?_
    rintro _ wx177 ⟨r174, H, rfl, x178⟩
    refine LP_ev ok 3 [(84, .bool (!r174)), (85, .bool (!r174))] 5 rfl rfl ?_
    refine LP_split 85 (!r174) rfl (fun hc179 => ?_) (fun hc179 => ?_)
    · have H := H.1 hc179
      refine LP_ev ok 5 [(86, undef), (87, undef), (88, undef), (89, .bool true)] 9 rfl rfl ?_
      refine LP_end _ rfl ?_
      try refine W_forget [(8, .slice a38 (List.length r29) c39), (11, I r123), (89, .bool true)] ⟨rfl, rfl, rfl, trivial⟩ fun ρ => ?_
      have X181 := (((X.stepx x).stepx x10).stepx x21)
      have f180 := f37.mono X181.size
      have X182 := (((((X94.step x126 (f180.dom _)).stepx x136).stepx x149).stepx x160).stepx x178)
      have ex183 := ((((ex129.ext x136).ext x149).ext x160).ext x178)
      exact ⟨true, H, _, env_eq ⟨rfl, rfl, rfl, trivial⟩, X182, ex183⟩
    have H := H.2 hc179
    refine LP_ev ok 5 [(86, .bool r158), (87, .bool r8), (88, .bool (r158 != r8)), (89, .bool (r158 != r8))] 9 rfl rfl ?_
    refine LP_end _ rfl ?_
    try refine W_forget [(8, .slice a38 (List.length r29) c39), (11, I r123), (89, .bool (r158 != r8))] ⟨rfl, rfl, rfl, trivial⟩ fun ρ => ?_
    have X185 := (((X.stepx x).stepx x10).stepx x21)
    have f184 := f37.mono X185.size
    have X186 := (((((X94.step x126 (f184.dom _)).stepx x136).stepx x149).stepx x160).stepx x178)
    have ex187 := ((((ex129.ext x136).ext x149).ext x160).ext x178)
    exact ⟨r158 != r8, H, _, env_eq ⟨rfl, rfl, rfl, trivial⟩, X186, ex187⟩
  rintro x168 _ wx169 ⟨H, ρ, rfl, X171, ex170⟩
  subst hk173
  refine W_cond (x168) rfl (fun hc188 => ?_) (fun hc188 => ?_)
  · have H := H.1 hc188
    refine W_seq ?_
    refine W_region ?_
    refine LP_ev ok 0 [(4, .bool false)] 1 rfl rfl ?_
    refine LP_end _ rfl ?_
    refine W_ret ?_
    exact ⟨_, Ret_of [.bool false] ⟨⟨rfl, rfl⟩, trivial⟩, _, H, rfl, X171.ext⟩
  have H := H.2 hc188
  refine W_skip ?_
  refine W_seq ?_
  refine W_region ?_
  refine LP_ev ok 0 [(12, I 1)] 1 rfl rfl ?_
  refine LP_end _ rfl ?_
  refine W_seq ?_
  refine W_region ?_
  refine LP_ev ok 0 [(90, .slice a38 (List.length r29) c39), (91, I 1)] 2 rfl rfl ?_
  refine LP_call 2 rfl rfl rfl cal_24 rfl (laws_heldIntS_w _ _ _ H wx169 o128.readf ex170) ?_
  rintro _ wx190 ⟨r189, H, rfl, x191⟩
  refine LP_ev ok 3 [(12, I r189)] 4 rfl rfl ?_
  refine LP_end _ rfl ?_
  refine W_seq ?_
  refine W_seq ?_
  refine W_region ?_
  refine LP_ev ok 0 [(93, I r189), (94, .bool (decide (r189 < 0)))] 2 rfl rfl ?_
  refine LP_end _ rfl ?_
  refine W_cond (decide (r189 < 0)) rfl (fun hc192 => ?_) (fun hc192 => ?_)
  · have H := H.1 hc192
    refine W_seq ?_
    refine W_region ?_
    refine LP_ev ok 0 [(4, .bool false)] 1 rfl rfl ?_
    refine LP_end _ rfl ?_
    refine W_ret ?_
    have X193 := (X171.stepx x191)
    exact ⟨_, Ret_of [.bool false] ⟨⟨rfl, rfl⟩, trivial⟩, _, H, rfl, X193.ext⟩
  have H := H.2 hc192
  refine W_skip ?_
  refine W_seq ?_
  refine W_seq ?_
  refine W_region ?_
  refine LP_ev ok 0 [(95, I r189), (96, I r123), (97, .bool (r189 != r123))] 3 rfl rfl ?_
  refine LP_end _ rfl ?_
  refine W_cond (r189 != r123) rfl (fun hc194 => ?_) (fun hc194 => ?_)
  · have H := H.1 hc194
    refine W_seq ?_
    refine W_region ?_
    refine LP_ev ok 0 [(4, .bool false)] 1 rfl rfl ?_
    refine LP_end _ rfl ?_
    refine W_ret ?_
    have X195 := (X171.stepx x191)
    exact ⟨_, Ret_of [.bool false] ⟨⟨rfl, rfl⟩, trivial⟩, _, H, rfl, X195.ext⟩
  have H := H.2 hc194
  refine W_skip ?_
  refine W_seq ?_
  refine W_region ?_
  refine LP_ev ok 0 [(4, .bool true)] 1 rfl rfl ?_
  refine LP_end _ rfl ?_
  refine W_ret ?_
  have X196 := (X171.stepx x191)
  exact ⟨_, Ret_of [.bool true] ⟨⟨rfl, rfl⟩, trivial⟩, _, H, rfl, X196.ext⟩

set_option maxRecDepth 8000 in
set_option maxHeartbeats 4000000 in
theorem spec_tSum_w (l : List Int) (Q : Int → Prop) (H : spec_tSum l Q) (w : World) {vx : Value} {hx : PH} (r : RS hx vx l) (ex : Sub hx w) :
    CallsTo Try.prog 91 #[vx] w fun v w' => ∃ r0, Q r0 ∧ v = I r0 ∧ Ext w w' := by
  obtain ⟨a, c, rfl⟩ := r.shape
  refine enter (args := [.slice a (List.length l) c]) 17 Try.func91 rfl rfl rfl ?_
  refine W_forget [(0, .slice a (List.length l) c)] ⟨rfl, trivial⟩ fun ρ => ?_
  have X := But.refl emp w
  refine W_seq ?_
  refine W_region ?_
  refine LP_ev ok 0 [(2, I 0)] 1 rfl rfl ?_
  refine LP_end _ rfl ?_
  refine W_seq ?_
  refine W_region ?_
  refine LP_ev ok 0 [(3, I 0)] 1 rfl rfl ?_
  refine LP_end _ rfl ?_
  refine W_seq ?_
  refine W_seq ?_
  refine W_region ?_
  refine LP_ev ok 0 [(6, .slice a (List.length l) c), (7, I (ln l)), (8, I 0)] 3 rfl rfl ?_
  refine LP_end _ rfl ?_
  refine W_block ?_
  obtain ⟨J, m, Hx, H⟩ := H
  refine W_loop (S := Int × Int) (fun s ρ' w' => J s.1 s.2 ∧ ∃ (ρ : Env), ρ' = setAll [(3, I s.1), (6, .slice a (List.length l) c), (7, I (ln l)), (8, I s.2)] ρ ∧ w = w') (fun s => m s.1 s.2) (0, 0) ⟨Hx, _, env_eq ⟨rfl, rfl, rfl, rfl, trivial⟩, rfl⟩ ?_
  rintro ⟨sum, x⟩ _ _ ⟨Hi, ρ, rfl, rfl⟩
  have H := H sum x Hi
  refine W_seq ?_
  refine W_region ?_
  refine LP_ev ok 0 [(9, .bool (decide (x < (ln l))))] 1 rfl rfl ?_
  refine LP_end _ rfl ?_
  refine W_seq ?_
  refine W_cond (decide (x < (ln l))) rfl (fun hc => ?_) (fun hc => ?_)
  · have H := H.1 hc
    refine W_skip ?_
    refine W_seq ?_
    refine W_block ?_
    refine W_seq ?_
    refine W_region ?_
    obtain ⟨x1, hi, hx2, H⟩ := H
    refine LP_index 0 rfl rfl rfl Try.underlying22 ti_3 rfl rfl r hi hx2 fun a3 cs r4 d => ?_
    refine LP_load 1 rfl rfl rfl ti_3 ag_3 rfl r4 d ex fun vx5 r6 => ?_
    obtain rfl := r6.int
    refine LP_ev ok 2 [(5, I x1)] 3 rfl rfl ?_
    refine LP_end _ rfl ?_
    refine W_region ?_
    refine LP_ev ok 0 [(12, I sum), (13, I x1), (14, I (wr (sum + x1))), (3, I (wr (sum + x1)))] 4 rfl rfl ?_
    refine LP_end _ rfl ?_
    refine W_region ?_
    refine LP_ev ok 0 [(15, I (wr (x + 1))), (8, I (wr (x + 1)))] 2 rfl rfl ?_
    refine LP_end _ rfl ?_
    exact ⟨(wr (sum + x1), wr (x + 1)), ⟨H.1, _, env_eq ⟨rfl, rfl, rfl, rfl, trivial⟩, rfl⟩, H.2⟩
  have H := H.2 hc
  refine W_exit ?_
  refine (if_pos rfl).mpr ?_
  refine W_seq ?_
  refine W_region ?_
  refine LP_ev ok 0 [(16, I sum), (2, I sum)] 2 rfl rfl ?_
  refine LP_end _ rfl ?_
  refine W_ret ?_
  exact ⟨_, Ret_of [I sum] ⟨⟨rfl, rfl⟩, trivial⟩, _, H, rfl, X.ext⟩

set_option maxRecDepth 8000 in
set_option maxHeartbeats 4000000 in
theorem spec_oCounts_w (l : List Int) (Q : Bool → Prop) (H : spec_oCounts l Q) (w : World) {vx : Value} {hx : PH} (r : RS hx vx l) (ex : Sub hx w) :
    CallsTo Try.prog 88 #[vx] w fun v w' => ∃ r0, Q r0 ∧ v = .bool r0 ∧ Ext w w' := by
  obtain ⟨a, c, rfl⟩ := r.shape
  refine enter (args := [.slice a (List.length l) c]) 15 Try.func88 rfl rfl rfl ?_
  refine W_forget [(0, .slice a (List.length l) c)] ⟨rfl, trivial⟩ fun ρ => ?_
  have X := But.refl emp w
  refine W_seq ?_
  refine W_region ?_
  refine LP_ev ok 0 [(2, .bool false)] 1 rfl rfl ?_
  refine LP_end _ rfl ?_
  obtain ⟨k, hk, H⟩ := jn_elim H
  refine W_join2 (S := Bool) (fun s ρ' w' => k s ∧ ∃ (ρ : Env), ρ' = setAll [(2, .bool s)] ρ ∧ But emp w w') ?_ ?_
  · refine W_region ?_
    refine LP_ev ok 0 [(3, .slice a (List.length l) c), (4, I (ln l))] 2 rfl rfl ?_
    refine LP_call 2 rfl rfl rfl cal_76 rfl (spec_l1In_w _ _ _ _ H w ) ?_
    rintro _ wx3 ⟨r2, H, rfl, x4⟩
    refine LP_ev ok 3 [(6, .bool r2)] 4 rfl rfl ?_
    refine LP_split 6 (r2) rfl (fun hc => ?_) (fun hc => ?_)
    · have H := H.1 hc
      refine LP_ev ok 4 [(7, .slice a (List.length l) c)] 5 rfl rfl ?_
      have ex6 := (ex.ext x4)
      refine LP_call 5 rfl rfl rfl cal_140 rfl (spec_l1All_w _ _ _ _ H wx3 r ex6) ?_
      rintro _ wx7 ⟨r5, H, rfl, x8⟩
      refine LP_ev ok 6 [(9, .bool r5), (10, .bool r5)] 8 rfl rfl ?_
      refine LP_split 10 (r5) rfl (fun hc9 => ?_) (fun hc9 => ?_)
      · have H := H.1 hc9
        refine LP_ev ok 8 [(11, .slice a (List.length l) c)] 9 rfl rfl ?_
        have ex11 := (ex6.ext x8)
        refine LP_call 9 rfl rfl rfl cal_91 rfl (spec_tSum_w _ _ H wx7 r ex11) ?_
        rintro _ wx12 ⟨r10, H, rfl, x13⟩
        refine LP_ev ok 10 [(13, .bool (decide (r10 > 0))), (14, .bool (decide (r10 > 0))), (2, .bool (decide (r10 > 0)))] 13 rfl rfl ?_
        refine LP_end _ rfl ?_
        have X14 := (((X.stepx x4).stepx x8).stepx x13)
        exact ⟨decide (r10 > 0), H, _, env_eq ⟨rfl, trivial⟩, X14⟩
      have H := H.2 hc9
      refine LP_ev ok 8 [(11, undef), (12, undef), (13, undef), (14, .bool false), (2, .bool false)] 13 rfl rfl ?_
      refine LP_end _ rfl ?_
      have X15 := ((X.stepx x4).stepx x8)
      exact ⟨false, H, _, env_eq ⟨rfl, trivial⟩, X15⟩
    have H := H.2 hc
    refine LP_ev ok 4 [(7, undef), (8, undef), (9, .bool false), (10, .bool false), (11, undef), (12, undef), (13, undef), (14, .bool false), (2, .bool false)] 13 rfl rfl ?_
    refine LP_end _ rfl ?_
    have X16 := (X.stepx x4)
    exact ⟨false, H, _, env_eq ⟨rfl, trivial⟩, X16⟩
  rintro x _ wx ⟨H, ρ, rfl, X1⟩
  subst hk
  refine W_ret ?_
  exact ⟨_, Ret_of [.bool x] ⟨⟨rfl, rfl⟩, trivial⟩, _, H, rfl, X1.ext⟩

set_option maxRecDepth 8000 in
set_option maxHeartbeats 4000000 in
theorem spec_l1Most_w (a : Int) (b : Int) (Q : Int → Prop) (H : spec_l1Most a b Q) (w : World)  :
    CallsTo Try.prog 144 #[I a, I b] w fun v w' => ∃ r0, Q r0 ∧ v = I r0 ∧ Ext w w' := by
  refine enter (args := [I a, I b]) 10 Try.func144 rfl rfl rfl ?_
  refine W_forget [(0, I a), (1, I b)] ⟨rfl, rfl, trivial⟩ fun ρ => ?_
  have X := But.refl emp w
  refine W_seq ?_
  refine W_region ?_
  refine LP_ev ok 0 [(4, I 0)] 1 rfl rfl ?_
  refine LP_end _ rfl ?_
  refine W_seq ?_
  refine W_seq ?_
  refine W_region ?_
  refine LP_ev ok 0 [(5, I a), (6, I b), (7, .bool (decide (a > b)))] 3 rfl rfl ?_
  refine LP_end _ rfl ?_
  refine W_cond (decide (a > b)) rfl (fun hc => ?_) (fun hc => ?_)
  · have H := H.1 hc
    refine W_seq ?_
    refine W_region ?_
    refine LP_ev ok 0 [(8, I a), (4, I a)] 2 rfl rfl ?_
    refine LP_end _ rfl ?_
    refine W_ret ?_
    exact ⟨_, Ret_of [I a] ⟨⟨rfl, rfl⟩, trivial⟩, _, H, rfl, X.ext⟩
  have H := H.2 hc
  refine W_skip ?_
  refine W_seq ?_
  refine W_region ?_
  refine LP_ev ok 0 [(9, I b), (4, I b)] 2 rfl rfl ?_
  refine LP_end _ rfl ?_
  refine W_ret ?_
  exact ⟨_, Ret_of [I b] ⟨⟨rfl, rfl⟩, trivial⟩, _, H, rfl, X.ext⟩

set_option maxRecDepth 8000 in
set_option maxHeartbeats 4000000 in
theorem spec_l1Abs_w (n : Int) (Q : Int → Prop) (H : spec_l1Abs n Q) (w : World)  :
    CallsTo Try.prog 89 #[I n] w fun v w' => ∃ r0, Q r0 ∧ v = I r0 ∧ Ext w w' := by
  refine enter (args := [I n]) 7 Try.func89 rfl rfl rfl ?_
  refine W_forget [(0, I n)] ⟨rfl, trivial⟩ fun ρ => ?_
  have X := But.refl emp w
  refine W_seq ?_
  refine W_region ?_
  refine LP_ev ok 0 [(2, I 0)] 1 rfl rfl ?_
  refine LP_end _ rfl ?_
  refine W_seq ?_
  refine W_region ?_
  refine LP_ev ok 0 [(3, I n), (4, I n), (5, I (wr (0 - n)))] 3 rfl rfl ?_
  refine LP_call 3 rfl rfl rfl cal_144 rfl (spec_l1Most_w _ _ _ H w ) ?_
  rintro _ wx ⟨r, H, rfl, x⟩
  refine LP_ev ok 4 [(2, I r)] 5 rfl rfl ?_
  refine LP_end _ rfl ?_
  refine W_ret ?_
  have X1 := (X.stepx x)
  exact ⟨_, Ret_of [I r] ⟨⟨rfl, rfl⟩, trivial⟩, _, H, rfl, X1.ext⟩

set_option maxRecDepth 8000 in
set_option maxHeartbeats 4000000 in
theorem spec_fGcd_w (a : Int) (b : Int) (Q : Int → Prop) (H : spec_fGcd a b Q) (w : World)  :
    CallsTo Try.prog 145 #[I a, I b] w fun v w' => ∃ r0, Q r0 ∧ v = I r0 ∧ Ext w w' := by
  refine enter (args := [I a, I b]) 15 Try.func145 rfl rfl rfl ?_
  refine W_forget [(0, I a), (1, I b)] ⟨rfl, rfl, trivial⟩ fun ρ => ?_
  have X := But.refl emp w
  refine W_seq ?_
  refine W_region ?_
  refine LP_ev ok 0 [(4, I 0)] 1 rfl rfl ?_
  refine LP_end _ rfl ?_
  refine W_seq ?_
  refine W_block ?_
  obtain ⟨J, m, Hx, H⟩ := H
  refine W_loop (S := Int × Int) (fun s ρ' w' => J s.1 s.2 ∧ ∃ (ρ : Env), ρ' = setAll [(0, I s.1), (1, I s.2)] ρ ∧ w = w') (fun s => m s.1 s.2) (a, b) ⟨Hx, _, env_eq ⟨rfl, rfl, trivial⟩, rfl⟩ ?_
  rintro ⟨a1, b2⟩ _ _ ⟨Hi, ρ, rfl, rfl⟩
  have H := H a1 b2 Hi
  refine W_seq ?_
  refine W_seq ?_
  refine W_region ?_
  refine LP_ev ok 0 [(6, I b2), (7, .bool (b2 != 0))] 2 rfl rfl ?_
  refine LP_end _ rfl ?_
  refine W_cond (b2 != 0) rfl (fun hc => ?_) (fun hc => ?_)
  · have H := H.1 hc
    refine W_skip ?_
    refine W_block ?_
    refine W_seq ?_
    refine W_region ?_
    refine LP_ev ok 0 [(8, I a1), (9, I b2)] 2 rfl rfl ?_
    obtain ⟨hz, H⟩ := H
    refine LP_val 2 _ rfl rfl (ex_rem rfl rfl rfl hz _) ?_
    refine LP_ev ok 3 [(5, I (Int.tmod a1 b2))] 4 rfl rfl ?_
    refine LP_end _ rfl ?_
    refine W_seq ?_
    refine W_region ?_
    refine LP_ev ok 0 [(11, I b2), (0, I b2)] 2 rfl rfl ?_
    refine LP_end _ rfl ?_
    refine W_region ?_
    refine LP_ev ok 0 [(12, I (Int.tmod a1 b2)), (1, I (Int.tmod a1 b2))] 2 rfl rfl ?_
    refine LP_end _ rfl ?_
    exact ⟨(b2, Int.tmod a1 b2), ⟨H.1, _, env_eq ⟨rfl, rfl, trivial⟩, rfl⟩, H.2⟩
  have H := H.2 hc
  refine W_exit ?_
  refine (if_pos rfl).mpr ?_
  refine W_seq ?_
  refine W_region ?_
  refine LP_ev ok 0 [(13, I a1)] 1 rfl rfl ?_
  refine LP_call 1 rfl rfl rfl cal_89 rfl (spec_l1Abs_w _ _ H w ) ?_
  rintro _ wx3 ⟨r, H, rfl, x⟩
  refine LP_ev ok 2 [(4, I r)] 3 rfl rfl ?_
  refine LP_end _ rfl ?_
  refine W_ret ?_
  have X4 := (X.stepx x)
  exact ⟨_, Ret_of [I r] ⟨⟨rfl, rfl⟩, trivial⟩, _, H, rfl, X4.ext⟩

set_option maxRecDepth 8000 in
set_option maxHeartbeats 4000000 in
theorem spec_fGood_w (f : Frac) (Q : Bool → Prop) (H : spec_fGood f Q) (w : World)  :
    CallsTo Try.prog 96 #[.agg #[I f.Num, I f.Den]] w fun v w' => ∃ r0, Q r0 ∧ v = .bool r0 ∧ Ext w w' := by
  refine enter (args := [.agg #[I f.Num, I f.Den]]) 19 Try.func96 rfl rfl rfl ?_
  refine W_forget [(0, .agg #[I f.Num, I f.Den])] ⟨rfl, trivial⟩ fun ρ => ?_
  have X := But.refl emp w
  refine W_seq ?_
  refine W_region ?_
  refine LP_box 0 (cs := [I f.Num, I f.Den]) rfl rfl rfl rfl rfl fun b wx x ex f1 => ?_
  refine LP_ev ok 1 [(2, .bool false)] 2 rfl rfl ?_
  refine LP_end _ rfl ?_
  obtain ⟨k, hk, H⟩ := jn_elim H
  refine W_join2 (S := Bool) (fun s ρ' w' => k s ∧ ∃ (ρ : Env), ρ' = setAll [(2, .bool s)] ρ ∧ But emp w w') ?_ ?_
  · refine W_region ?_
    refine LP_ev ok 0 [(3, .pointer (some ⟨b, 1, none⟩))] 1 rfl rfl ?_
    refine LP_ldbox 1 (v := I f.Den) rfl rfl rfl ti_3 ag_3 (fun _ => rfl) rfl ex rfl rfl ?_
    refine LP_call 2 rfl rfl rfl cal_76 rfl (spec_l1In_w _ _ _ _ H wx ) ?_
    rintro _ wx5 ⟨r, H, rfl, x6⟩
    refine LP_ev ok 3 [(6, .bool r)] 4 rfl rfl ?_
    refine LP_split 6 (r) rfl (fun hc => ?_) (fun hc => ?_)
    · have H := H.1 hc
      refine LP_ev ok 4 [(7, .pointer (some ⟨b, 0, none⟩))] 5 rfl rfl ?_
      have ex7 := (ex.ext x6)
      refine LP_ldbox 5 (v := I f.Num) rfl rfl rfl ti_3 ag_3 (fun _ => rfl) rfl ex7 rfl rfl ?_
      refine LP_call 6 rfl rfl rfl cal_76 rfl (spec_l1In_w _ _ _ _ H wx5 ) ?_
      rintro _ wx9 ⟨r8, H, rfl, x10⟩
      refine LP_ev ok 7 [(10, .bool r8), (11, .bool r8)] 9 rfl rfl ?_
      refine LP_split 11 (r8) rfl (fun hc11 => ?_) (fun hc11 => ?_)
      · have H := H.1 hc11
        refine LP_ev ok 9 [(12, .pointer (some ⟨b, 0, none⟩))] 10 rfl rfl ?_
        have ex12 := (ex7.ext x10)
        refine LP_ldbox 10 (v := I f.Num) rfl rfl rfl ti_3 ag_3 (fun _ => rfl) rfl ex12 rfl rfl ?_
        refine LP_ev ok 11 [(14, .pointer (some ⟨b, 1, none⟩))] 12 rfl rfl ?_
        refine LP_ldbox 12 (v := I f.Den) rfl rfl rfl ti_3 ag_3 (fun _ => rfl) rfl ex12 rfl rfl ?_
        refine LP_call 13 rfl rfl rfl cal_145 rfl (spec_fGcd_w _ _ _ H wx9 ) ?_
        rintro _ wx14 ⟨r13, H, rfl, x15⟩
        refine LP_ev ok 14 [(17, .bool (r13 == 1)), (18, .bool (r13 == 1)), (2, .bool (r13 == 1))] 17 rfl rfl ?_
        refine LP_end _ rfl ?_
        have X16 := ((((X.stepx x).stepx x6).stepx x10).stepx x15)
        exact ⟨r13 == 1, H, _, env_eq ⟨rfl, trivial⟩, X16⟩
      have H := H.2 hc11
      refine LP_ev ok 9 [(12, undef), (13, undef), (14, undef), (15, undef), (16, undef), (17, undef), (18, .bool false), (2, .bool false)] 17 rfl rfl ?_
      refine LP_end _ rfl ?_
      have X17 := (((X.stepx x).stepx x6).stepx x10)
      exact ⟨false, H, _, env_eq ⟨rfl, trivial⟩, X17⟩
    have H := H.2 hc
    refine LP_ev ok 4 [(7, undef), (8, undef), (9, undef), (10, .bool false), (11, .bool false), (12, undef), (13, undef), (14, undef), (15, undef), (16, undef), (17, undef), (18, .bool false), (2, .bool false)] 17 rfl rfl ?_
    refine LP_end _ rfl ?_
    have X18 := ((X.stepx x).stepx x6)
    exact ⟨false, H, _, env_eq ⟨rfl, trivial⟩, X18⟩
  rintro x2 _ wx3 ⟨H, ρ, rfl, X4⟩
  subst hk
  refine W_ret ?_
  exact ⟨_, Ret_of [.bool x2] ⟨⟨rfl, rfl⟩, trivial⟩, _, H, rfl, X4.ext⟩

set_option maxRecDepth 8000 in
set_option maxHeartbeats 4000000 in
theorem spec_fMake_w (n : Int) (d : Int) (Q : Frac → Bool → Prop) (H : spec_fMake n d Q) (w : World)  :
    CallsTo Try.prog 90 #[I n, I d] w fun v w' => ∃ r0 r1, Q r0 r1 ∧ v = .tuple #[.agg #[I r0.Num, I r0.Den], .bool r1] ∧ Ext w w' := by
  refine enter (args := [I n, I d]) 30 Try.func90 rfl rfl rfl ?_
  refine W_forget [(0, I n), (1, I d)] ⟨rfl, rfl, trivial⟩ fun ρ => ?_
  have X := But.refl emp w
  refine W_seq ?_
  refine W_region ?_
  refine LP_alloc 0 rfl rfl rfl ti_34 rfl fun b wx x ex f => ?_
  refine LP_ev ok 1 [(5, .bool false)] 2 rfl rfl ?_
  refine LP_end _ rfl ?_
  refine W_seq ?_
  refine W_seq ?_
  refine W_region ?_
  refine LP_ev ok 0 [(8, I d), (9, .bool (d == 0))] 2 rfl rfl ?_
  refine LP_end _ rfl ?_
  refine W_cond (d == 0) rfl (fun hc => ?_) (fun hc => ?_)
  · have H := H.1 hc
    refine W_seq ?_
    refine W_region ?_
    refine LP_ev ok 0 [(10, .agg #[I 0, I 0])] 1 rfl rfl ?_
    refine LP_stbox 1 (vs := [I 0, I 0]) (cs' := [I 0, I 0]) rfl rfl rfl ti_34 rfl rfl rfl rfl rfl ex rfl rfl fun wx1 ex2 y => ?_
    refine LP_ev ok 2 [(5, .bool false)] 3 rfl rfl ?_
    refine LP_end _ rfl ?_
    refine W_ret ?_
    have f3 := f.mono X.size
    have X4 := ((X.stepx x).step y (f3.dom _))
    exact ⟨_, Ret_of [.agg #[I 0, I 0], .bool false] ⟨⟨_, rfl, rfl, ld_res ti_34 ag_34 (fun h => by cases h) ex2 rfl rfl⟩, ⟨rfl, rfl⟩, trivial⟩, _, _, H, rfl, X4.ext⟩
  have H := H.2 hc
  refine W_skip ?_
  refine W_seq ?_
  refine W_region ?_
  refine LP_ev ok 0 [(11, I n), (12, I d)] 2 rfl rfl ?_
  refine LP_call 2 rfl rfl rfl cal_145 rfl (spec_fGcd_w _ _ _ H wx ) ?_
  rintro _ wx5 ⟨r, H, rfl, x6⟩
  refine LP_ev ok 3 [(6, I r)] 4 rfl rfl ?_
  refine LP_end _ rfl ?_
  obtain ⟨k, hk, H⟩ := jn_elim H
  refine W_join2 (S := Int) (fun s ρ' w' => k s ∧ ∃ (ρ : Env), ρ' = setAll [(0, I n), (1, I d), (4, .pointer (some ⟨b, 0, none⟩)), (6, I s)] ρ ∧ wx5 = w') ?_ ?_
  · refine W_seq ?_
    refine W_region ?_
    refine LP_ev ok 0 [(14, I d), (15, .bool (decide (d < 0)))] 2 rfl rfl ?_
    refine LP_end _ rfl ?_
    refine W_cond (decide (d < 0)) rfl (fun hc8 => ?_) (fun hc8 => ?_)
    · have H := H.1 hc8
      refine W_region ?_
      refine LP_ev ok 0 [(16, I r), (17, I (wr (0 - r))), (6, I (wr (0 - r)))] 3 rfl rfl ?_
      refine LP_end _ rfl ?_
      exact ⟨wr (0 - r), H, _, env_eq ⟨rfl, rfl, rfl, rfl, trivial⟩, rfl⟩
    have H := H.2 hc8
    refine W_skip ?_
    exact ⟨r, H, _, env_eq ⟨rfl, rfl, rfl, rfl, trivial⟩, rfl⟩
  rintro g _ _ ⟨H, ρ, rfl, rfl⟩
  subst hk
  refine W_seq ?_
  obtain ⟨hz, H⟩ := H
  obtain ⟨hz9, H⟩ := H
  refine W_anyL 8 [[], [], [0, 1], [], [], [3, 4], [0, 1, 2, 3, 4, 5], [], [0, 1, 2, 3, 4, 5, 6, 7]] [[(0, none)], [(6, none)], [(18, some 0), (19, some 1)], [(1, none)], [(6, none)], [(21, some 3), (22, some 4)], [(20, some 2), (23, some 5)], []] [(4, none), (7, some 7), (24, some 6)] 34 [I 0, I 0] [I 0, I 0] [I n, I g, I (wr (Int.tdiv n g)), I d, I g, I (wr (Int.tdiv d g)), .agg #[I (wr (Int.tdiv n g)), I (wr (Int.tdiv d g))], undef] (some 7) none mix (by kernel_rfl) (fun _ h => by cases h) (fun _ h => by cases h; decide)
    ⟨K_ev ok [(0, I n)] (I n) (by decide) (by decide) (fun _ _ h => h) rfl (fun _ => rfl),
      K_ev ok [(6, I g)] (I g) (by decide) (by decide) (fun _ _ h => h) rfl (fun _ => rfl),
      K_run [(18, I n), (19, I g)] (I (wr (Int.tdiv n g))) (by decide) (by decide) (fun _ _ h => h) rfl (fun _ _ _ => ex_quo rfl rfl rfl hz _),
      K_ev ok [(1, I d)] (I d) (by decide) (by decide) (fun _ _ h => h) rfl (fun _ => rfl),
      K_ev ok [(6, I g)] (I g) (by decide) (by decide) (fun _ _ h => h) rfl (fun _ => rfl),
      K_run [(21, I d), (22, I g)] (I (wr (Int.tdiv d g))) (by decide) (by decide) (fun _ _ h => h) rfl (fun _ _ _ => ex_quo rfl rfl rfl hz9 _),
      K_ev ok [(20, I (wr (Int.tdiv n g))), (23, I (wr (Int.tdiv d g)))] (.agg #[I (wr (Int.tdiv n g)), I (wr (Int.tdiv d g))]) (by decide) (by decide) (fun _ _ h => h) rfl (fun _ => rfl),
      K_alloc rfl (by decide) rfl rfl ti_34 rfl, trivial⟩
    (fun b10 ρ wx11 x12 hn hA => ?_)
  obtain ⟨hb, hs, hs13⟩ := hA rfl
  have ex14 := hs13 rfl
  have f15 : Fresh wx5.heap.size (bx b10 34 [I 0, I 0]) := single_fresh hb
  refine LP_forget [(4, .pointer (some ⟨b, 0, none⟩)), (7, .pointer (some ⟨b10, 0, none⟩)), (24, .agg #[I (wr (Int.tdiv n g)), I (wr (Int.tdiv d g))])] (by exact hn) fun ρ => ?_
  refine LP_stbox 8 (vs := [I (wr (Int.tdiv n g)), I (wr (Int.tdiv d g))]) (cs' := [I (wr (Int.tdiv n g)), I (wr (Int.tdiv d g))]) rfl rfl rfl ti_34 rfl rfl rfl rfl rfl ex14 rfl rfl fun wx16 ex17 y18 => ?_
  refine LP_end _ rfl ?_
  refine W_seq ?_
  refine W_seq ?_
  refine W_region ?_
  refine LP_ldbox 0 (v := .agg #[I (wr (Int.tdiv n g)), I (wr (Int.tdiv d g))]) rfl rfl rfl ti_34 ag_34 (fun h => by cases h) rfl ex17 rfl rfl ?_
  refine LP_call 1 rfl rfl rfl cal_96 rfl (spec_fGood_w _ _ H wx16 ) ?_
  rintro _ wx20 ⟨r19, H, rfl, x21⟩
  refine LP_ev ok 2 [(27, .bool (!r19))] 3 rfl rfl ?_
  refine LP_end _ rfl ?_
  refine W_cond (!r19) rfl (fun hc22 => ?_) (fun hc22 => ?_)
  · have H := H.1 hc22
    refine W_seq ?_
    refine W_region ?_
    refine LP_ev ok 0 [(28, .agg #[I 0, I 0])] 1 rfl rfl ?_
    have ex26 := (ex.ext x6)
    have ex27 := ((((ex.ext x6).ext x12).but y18 (Dj.of_fresh ex26 f15).symm).ext x21)
    refine LP_stbox 1 (vs := [I 0, I 0]) (cs' := [I 0, I 0]) rfl rfl rfl ti_34 rfl rfl rfl rfl rfl ex27 rfl rfl fun wx23 ex24 y25 => ?_
    refine LP_ev ok 2 [(5, .bool false)] 3 rfl rfl ?_
    refine LP_end _ rfl ?_
    refine W_ret ?_
    have X29 := ((X.stepx x).stepx x6)
    have f28 := f15.mono X29.size
    have f30 := f.mono X.size
    have X31 := ((((((X.stepx x).stepx x6).stepx x12).step y18 (f28.dom _)).stepx x21).step y25 (f30.dom _))
    exact ⟨_, Ret_of [.agg #[I 0, I 0], .bool false] ⟨⟨_, rfl, rfl, ld_res ti_34 ag_34 (fun h => by cases h) ex24 rfl rfl⟩, ⟨rfl, rfl⟩, trivial⟩, _, _, H, rfl, X31.ext⟩
  have H := H.2 hc22
  refine W_skip ?_
  refine W_seq ?_
  refine W_region ?_
  have ex32 := (ex17.ext x21)
  refine LP_ldbox 0 (v := .agg #[I (wr (Int.tdiv n g)), I (wr (Int.tdiv d g))]) rfl rfl rfl ti_34 ag_34 (fun h => by cases h) rfl ex32 rfl rfl ?_
  have ex36 := (ex.ext x6)
  have ex37 := ((((ex.ext x6).ext x12).but y18 (Dj.of_fresh ex36 f15).symm).ext x21)
  refine LP_stbox 1 (vs := [I (wr (Int.tdiv n g)), I (wr (Int.tdiv d g))]) (cs' := [I (wr (Int.tdiv n g)), I (wr (Int.tdiv d g))]) rfl rfl rfl ti_34 rfl rfl rfl rfl rfl ex37 rfl rfl fun wx33 ex34 y35 => ?_
  refine LP_ev ok 2 [(5, .bool true)] 3 rfl rfl ?_
  refine LP_end _ rfl ?_
  refine W_ret ?_
  have X39 := ((X.stepx x).stepx x6)
  have f38 := f15.mono X39.size
  have f40 := f.mono X.size
  have X41 := ((((((X.stepx x).stepx x6).stepx x12).step y18 (f38.dom _)).stepx x21).step y35 (f40.dom _))
  exact ⟨_, Ret_of [.agg #[I (wr (Int.tdiv n g)), I (wr (Int.tdiv d g))], .bool true] ⟨⟨_, rfl, rfl, ld_res ti_34 ag_34 (fun h => by cases h) ex34 rfl rfl⟩, ⟨rfl, rfl⟩, trivial⟩, _, _, H, rfl, X41.ext⟩

set_option maxRecDepth 8000 in
set_option maxHeartbeats 4000000 in
theorem spec_GiniOf_w (counts : List Int) (Q : Frac → Bool → Prop) (H : spec_GiniOf counts Q) (w : World) {vx : Value} {hx : PH} (r : RS hx vx counts) (ex : Sub hx w) :
    CallsTo Try.prog 30 #[vx] w fun v w' => ∃ r0 r1, Q r0 r1 ∧ v = .tuple #[.agg #[I r0.Num, I r0.Den], .bool r1] ∧ Ext w w' := by
  obtain ⟨a, c, rfl⟩ := r.shape
  refine enter (args := [.slice a (List.length counts) c]) 43 Try.func30 rfl rfl rfl ?_
  refine W_forget [(0, .slice a (List.length counts) c)] ⟨rfl, trivial⟩ fun ρ => ?_
  have X := But.refl emp w
  refine W_seq ?_
  refine W_region ?_
  refine LP_alloc 0 rfl rfl rfl ti_34 rfl fun b wx x ex1 f => ?_
  refine LP_ev ok 1 [(3, .bool false)] 2 rfl rfl ?_
  refine LP_end _ rfl ?_
  refine W_seq ?_
  refine W_seq ?_
  refine W_region ?_
  refine LP_ev ok 0 [(9, .slice a (List.length counts) c)] 1 rfl rfl ?_
  have ex3 := (ex.ext x)
  refine LP_call 1 rfl rfl rfl cal_88 rfl (spec_oCounts_w _ _ H wx r ex3) ?_
  rintro _ wx4 ⟨r2, H, rfl, x5⟩
  refine LP_ev ok 2 [(11, .bool (!r2))] 3 rfl rfl ?_
  refine LP_end _ rfl ?_
  refine W_cond (!r2) rfl (fun hc => ?_) (fun hc => ?_)
  · have H := H.1 hc
    refine W_seq ?_
    refine W_region ?_
    refine LP_ev ok 0 [(12, .agg #[I 0, I 0])] 1 rfl rfl ?_
    have ex8 := (ex1.ext x5)
    refine LP_stbox 1 (vs := [I 0, I 0]) (cs' := [I 0, I 0]) rfl rfl rfl ti_34 rfl rfl rfl rfl rfl ex8 rfl rfl fun wx6 ex7 y => ?_
    refine LP_ev ok 2 [(3, .bool false)] 3 rfl rfl ?_
    refine LP_end _ rfl ?_
    refine W_ret ?_
    have f9 := f.mono X.size
    have X10 := (((X.stepx x).stepx x5).step y (f9.dom _))
    exact ⟨_, Ret_of [.agg #[I 0, I 0], .bool false] ⟨⟨_, rfl, rfl, ld_res ti_34 ag_34 (fun h => by cases h) ex7 rfl rfl⟩, ⟨rfl, rfl⟩, trivial⟩, _, _, H, rfl, X10.ext⟩
  have H := H.2 hc
  refine W_skip ?_
  refine W_seq ?_
  refine W_region ?_
  refine LP_ev ok 0 [(4, I 0)] 1 rfl rfl ?_
  refine LP_end _ rfl ?_
  refine W_seq ?_
  refine W_seq ?_
  refine W_region ?_
  refine LP_ev ok 0 [(13, .slice a (List.length counts) c), (14, I (ln counts)), (15, I 0)] 3 rfl rfl ?_
  refine LP_end _ rfl ?_
  refine W_block ?_
  obtain ⟨J, m, Hx, H⟩ := H
  have X16 := ((X.stepx x).stepx x5)
  have ex17 := (ex3.ext x5)
  have ex18 := (ex1.ext x5)
  refine W_loop (S := Int × Int) (fun s ρ' w' => J s.1 s.2 ∧ ∃ (ρ : Env), ρ' = setAll [(0, .slice a (List.length counts) c), (2, .pointer (some ⟨b, 0, none⟩)), (4, I s.1), (13, .slice a (List.length counts) c), (14, I (ln counts)), (15, I s.2)] ρ ∧ But emp w w' ∧ Sub hx w' ∧ Sub (bx b 34 [I 0, I 0]) w') (fun s => m s.1 s.2) (0, 0) ⟨Hx, _, env_eq ⟨rfl, rfl, rfl, rfl, rfl, rfl, trivial⟩, X16, ex17, ex18⟩ ?_
  rintro ⟨n, x11⟩ _ wx12 ⟨Hi, ρ, rfl, X15, ex13, ex14⟩
  have H := H n x11 Hi
  refine W_seq ?_
  refine W_region ?_
  refine LP_ev ok 0 [(16, .bool (decide (x11 < (ln counts))))] 1 rfl rfl ?_
  refine LP_end _ rfl ?_
  refine W_seq ?_
  refine W_cond (decide (x11 < (ln counts))) rfl (fun hc19 => ?_) (fun hc19 => ?_)
  · have H := H.1 hc19
    refine W_skip ?_
    refine W_seq ?_
    refine W_block ?_
    refine W_seq ?_
    refine W_region ?_
    obtain ⟨x20, hi, hx21, H⟩ := H
    refine LP_index 0 rfl rfl rfl Try.underlying22 ti_3 rfl rfl r hi hx21 fun a22 cs r23 d => ?_
    refine LP_load 1 rfl rfl rfl ti_3 ag_3 rfl r23 d ex13 fun vx24 r25 => ?_
    obtain rfl := r25.int
    refine LP_ev ok 2 [(6, I x20)] 3 rfl rfl ?_
    refine LP_end _ rfl ?_
    refine W_seq ?_
    refine W_region ?_
    refine LP_ev ok 0 [(19, .slice a (List.length counts) c), (20, I (ln counts)), (21, I 0)] 3 rfl rfl ?_
    refine LP_end _ rfl ?_
    refine W_block ?_
    obtain ⟨J32, m33, Hx34, H⟩ := H
    refine W_loop (S := Int × Int) (fun s ρ' w' => J32 s.1 s.2 ∧ ∃ (ρ : Env), ρ' = setAll [(0, .slice a (List.length counts) c), (2, .pointer (some ⟨b, 0, none⟩)), (4, I s.1), (6, I x20), (13, .slice a (List.length counts) c), (14, I (ln counts)), (15, I x11), (19, .slice a (List.length counts) c), (20, I (ln counts)), (21, I s.2)] ρ ∧ But emp w w' ∧ Sub hx w' ∧ Sub (bx b 34 [I 0, I 0]) w') (fun s => m33 s.1 s.2) (n, 0) ⟨Hx34, _, env_eq ⟨rfl, rfl, rfl, rfl, rfl, rfl, rfl, rfl, rfl, rfl, trivial⟩, X15, ex13, ex14⟩ ?_
    rintro ⟨n26, x27⟩ _ wx28 ⟨Hi, ρ, rfl, X31, ex29, ex30⟩
    have H := H n26 x27 Hi
    refine W_seq ?_
    refine W_region ?_
    refine LP_ev ok 0 [(22, .bool (decide (x27 < (ln counts))))] 1 rfl rfl ?_
    refine LP_end _ rfl ?_
    refine W_seq ?_
    refine W_cond (decide (x27 < (ln counts))) rfl (fun hc36 => ?_) (fun hc36 => ?_)
    · have H := H.1 hc36
      refine W_skip ?_
      refine W_seq ?_
      refine W_block ?_
      refine W_seq ?_
      refine W_region ?_
      obtain ⟨x37, hi38, hx39, H⟩ := H
      refine LP_index 0 rfl rfl rfl Try.underlying22 ti_3 rfl rfl r hi38 hx39 fun a40 cs41 r42 d43 => ?_
      refine LP_load 1 rfl rfl rfl ti_3 ag_3 rfl r42 d43 ex29 fun vx44 r45 => ?_
      obtain rfl := r45.int
      refine LP_ev ok 2 [(8, I x37)] 3 rfl rfl ?_
      refine LP_end _ rfl ?_
      refine W_region ?_
      refine LP_ev ok 0 [(25, I n26), (26, I x20), (27, I x37), (28, I (wr (x20 - x37)))] 4 rfl rfl ?_
      refine LP_call 4 rfl rfl rfl cal_89 rfl (spec_l1Abs_w _ _ H wx28 ) ?_
      rintro _ wx47 ⟨r46, H, rfl, x48⟩
      refine LP_ev ok 5 [(30, I (wr (n26 + r46))), (4, I (wr (n26 + r46)))] 7 rfl rfl ?_
      refine LP_end _ rfl ?_
      refine W_region ?_
      refine LP_ev ok 0 [(31, I (wr (x27 + 1))), (21, I (wr (x27 + 1)))] 2 rfl rfl ?_
      refine LP_end _ rfl ?_
      have X49 := (X31.stepx x48)
      have ex50 := (ex29.ext x48)
      have ex51 := (ex30.ext x48)
      exact ⟨(wr (n26 + r46), wr (x27 + 1)), ⟨H.1, _, env_eq ⟨rfl, rfl, rfl, rfl, rfl, rfl, rfl, rfl, rfl, rfl, trivial⟩, X49, ex50, ex51⟩, H.2⟩
    have H := H.2 hc36
    refine W_exit ?_
    refine (if_pos rfl).mpr ?_
    refine W_region ?_
    refine LP_ev ok 0 [(32, I (wr (x11 + 1))), (15, I (wr (x11 + 1)))] 2 rfl rfl ?_
    refine LP_end _ rfl ?_
    exact ⟨(n26, wr (x11 + 1)), ⟨H.1, _, env_eq ⟨rfl, rfl, rfl, rfl, rfl, rfl, trivial⟩, X31, ex29, ex30⟩, H.2⟩
  have H := H.2 hc19
  refine W_exit ?_
  refine (if_pos rfl).mpr ?_
  refine W_seq ?_
  refine W_region ?_
  refine LP_ev ok 0 [(33, I n), (34, .slice a (List.length counts) c), (35, I (ln counts)), (36, I (wr (2 * (ln counts)))), (37, .slice a (List.length counts) c)] 5 rfl rfl ?_
  refine LP_call 5 rfl rfl rfl cal_91 rfl (spec_tSum_w _ _ H wx12 r ex13) ?_
  rintro _ wx53 ⟨r52, H, rfl, x54⟩
  refine LP_ev ok 6 [(39, I (wr ((wr (2 * (ln counts))) * r52)))] 7 rfl rfl ?_
  refine LP_call 7 rfl rfl rfl cal_90 rfl (spec_fMake_w _ _ _ H wx53 ) ?_
  rintro _ wx57 ⟨r55, r56, H, rfl, x58⟩
  refine LP_ev ok 8 [(41, .agg #[I r55.Num, I r55.Den]), (42, .bool r56)] 10 rfl rfl ?_
  have ex62 := ((ex14.ext x54).ext x58)
  refine LP_stbox 10 (vs := [I r55.Num, I r55.Den]) (cs' := [I r55.Num, I r55.Den]) rfl rfl rfl ti_34 rfl rfl rfl rfl rfl ex62 rfl rfl fun wx59 ex60 y61 => ?_
  refine LP_ev ok 11 [(3, .bool r56)] 12 rfl rfl ?_
  refine LP_end _ rfl ?_
  refine W_ret ?_
  have f63 := f.mono X.size
  have X64 := (((X15.stepx x54).stepx x58).step y61 (f63.dom _))
  exact ⟨_, Ret_of [.agg #[I r55.Num, I r55.Den], .bool r56] ⟨⟨_, rfl, rfl, ld_res ti_34 ag_34 (fun h => by cases h) ex60 rfl rfl⟩, ⟨rfl, rfl⟩, trivial⟩, _, _, H, rfl, X64.ext⟩

set_option maxRecDepth 8000 in
set_option maxHeartbeats 4000000 in
theorem impl_total_w (l : List Int) (Q : Int → Prop) (H : impl_total l Q) (w : World) {vx : Value} {hx : PH} (r : RS hx vx l) (ex : Sub hx w) :
    CallsTo Try.prog 94 #[vx] w fun v w' => ∃ r0, Q r0 ∧ v = I r0 ∧ Ext w w' := by
  obtain ⟨a, c, rfl⟩ := r.shape
  refine enter (args := [.slice a (List.length l) c]) 17 Try.func94 rfl rfl rfl ?_
  refine W_forget [(0, .slice a (List.length l) c)] ⟨rfl, trivial⟩ fun ρ => ?_
  have X := But.refl emp w
  refine W_seq ?_
  refine W_region ?_
  refine LP_ev ok 0 [(2, I 0)] 1 rfl rfl ?_
  refine LP_end _ rfl ?_
  refine W_seq ?_
  refine W_region ?_
  refine LP_ev ok 0 [(3, I 0)] 1 rfl rfl ?_
  refine LP_end _ rfl ?_
  refine W_seq ?_
  refine W_seq ?_
  refine W_region ?_
  refine LP_ev ok 0 [(6, .slice a (List.length l) c), (7, I (ln l)), (8, I 0)] 3 rfl rfl ?_
  refine LP_end _ rfl ?_
  refine W_block ?_
  obtain ⟨J, m, Hx, H⟩ := H
  refine W_loop (S := Int × Int) (fun s ρ' w' => J s.1 s.2 ∧ ∃ (ρ : Env), ρ' = setAll [(3, I s.1), (6, .slice a (List.length l) c), (7, I (ln l)), (8, I s.2)] ρ ∧ w = w') (fun s => m s.1 s.2) (0, 0) ⟨Hx, _, env_eq ⟨rfl, rfl, rfl, rfl, trivial⟩, rfl⟩ ?_
  rintro ⟨sum, x⟩ _ _ ⟨Hi, ρ, rfl, rfl⟩
  have H := H sum x Hi
  refine W_seq ?_
  refine W_region ?_
  refine LP_ev ok 0 [(9, .bool (decide (x < (ln l))))] 1 rfl rfl ?_
  refine LP_end _ rfl ?_
  refine W_seq ?_
  refine W_cond (decide (x < (ln l))) rfl (fun hc => ?_) (fun hc => ?_)
  · have H := H.1 hc
    refine W_skip ?_
    refine W_seq ?_
    refine W_block ?_
    refine W_seq ?_
    refine W_region ?_
    obtain ⟨x1, hi, hx2, H⟩ := H
    refine LP_index 0 rfl rfl rfl Try.underlying22 ti_3 rfl rfl r hi hx2 fun a3 cs r4 d => ?_
    refine LP_load 1 rfl rfl rfl ti_3 ag_3 rfl r4 d ex fun vx5 r6 => ?_
    obtain rfl := r6.int
    refine LP_ev ok 2 [(5, I x1)] 3 rfl rfl ?_
    refine LP_end _ rfl ?_
    refine W_region ?_
    refine LP_ev ok 0 [(12, I sum), (13, I x1), (14, I (wr (sum + x1))), (3, I (wr (sum + x1)))] 4 rfl rfl ?_
    refine LP_end _ rfl ?_
    refine W_region ?_
    refine LP_ev ok 0 [(15, I (wr (x + 1))), (8, I (wr (x + 1)))] 2 rfl rfl ?_
    refine LP_end _ rfl ?_
    exact ⟨(wr (sum + x1), wr (x + 1)), ⟨H.1, _, env_eq ⟨rfl, rfl, rfl, rfl, trivial⟩, rfl⟩, H.2⟩
  have H := H.2 hc
  refine W_exit ?_
  refine (if_pos rfl).mpr ?_
  refine W_seq ?_
  refine W_region ?_
  refine LP_ev ok 0 [(16, I sum), (2, I sum)] 2 rfl rfl ?_
  refine LP_end _ rfl ?_
  refine W_ret ?_
  exact ⟨_, Ret_of [I sum] ⟨⟨rfl, rfl⟩, trivial⟩, _, H, rfl, X.ext⟩

set_option maxRecDepth 8000 in
set_option maxHeartbeats 4000000 in
theorem impl_areCounts_w (counts : List Int) (Q : Bool → Prop) (H : impl_areCounts counts Q) (w : World) {vx : Value} {hx : PH} (r : RS hx vx counts) (ex : Sub hx w) :
    CallsTo Try.prog 92 #[vx] w fun v w' => ∃ r0, Q r0 ∧ v = .bool r0 ∧ Ext w w' := by
  obtain ⟨a, c, rfl⟩ := r.shape
  refine enter (args := [.slice a (List.length counts) c]) 20 Try.func92 rfl rfl rfl ?_
  refine W_forget [(0, .slice a (List.length counts) c)] ⟨rfl, trivial⟩ fun ρ => ?_
  have X := But.refl emp w
  refine W_seq ?_
  refine W_region ?_
  refine LP_ev ok 0 [(2, .bool false)] 1 rfl rfl ?_
  refine LP_end _ rfl ?_
  obtain ⟨k, hk, H⟩ := jn_elim H
  refine W_join2 (S := Bool) (fun s ρ' w' => k s ∧ ∃ (ρ : Env), ρ' = setAll [(2, .bool s)] ρ ∧ But emp w w') ?_ ?_
  · refine W_region ?_
    refine LP_ev ok 0 [(3, .slice a (List.length counts) c), (4, I (ln counts)), (5, .bool (decide ((ln counts) ≥ 1))), (6, .bool (decide ((ln counts) ≥ 1)))] 4 rfl rfl ?_
    refine LP_split 6 (decide ((ln counts) ≥ 1)) rfl (fun hc => ?_) (fun hc => ?_)
    · have H := H.1 hc
      refine LP_ev ok 4 [(7, .slice a (List.length counts) c), (8, I (ln counts)), (9, .bool (decide ((ln counts) ≤ 100))), (10, .bool (decide ((ln counts) ≤ 100))), (11, .bool (decide ((ln counts) ≤ 100)))] 9 rfl rfl ?_
      refine LP_split 11 (decide ((ln counts) ≤ 100)) rfl (fun hc2 => ?_) (fun hc2 => ?_)
      · have H := H.1 hc2
        refine LP_ev ok 9 [(12, .slice a (List.length counts) c)] 10 rfl rfl ?_
        refine LP_call 10 rfl rfl rfl cal_141 rfl (impl_areWithin_w _ _ _ _ H w r ex) ?_
        rintro _ wx4 ⟨r3, H, rfl, x5⟩
        refine LP_ev ok 11 [(14, .bool r3), (15, .bool r3)] 13 rfl rfl ?_
        refine LP_split 15 (r3) rfl (fun hc6 => ?_) (fun hc6 => ?_)
        · have H := H.1 hc6
          refine LP_ev ok 13 [(16, .slice a (List.length counts) c)] 14 rfl rfl ?_
          have ex8 := (ex.ext x5)
          refine LP_call 14 rfl rfl rfl cal_94 rfl (impl_total_w _ _ H wx4 r ex8) ?_
          rintro _ wx9 ⟨r7, H, rfl, x10⟩
          refine LP_ev ok 15 [(18, .bool (decide (r7 > 0))), (19, .bool (decide (r7 > 0))), (2, .bool (decide (r7 > 0)))] 18 rfl rfl ?_
          refine LP_end _ rfl ?_
          have X11 := ((X.stepx x5).stepx x10)
          exact ⟨decide (r7 > 0), H, _, env_eq ⟨rfl, trivial⟩, X11⟩
        have H := H.2 hc6
        refine LP_ev ok 13 [(16, undef), (17, undef), (18, undef), (19, .bool false), (2, .bool false)] 18 rfl rfl ?_
        refine LP_end _ rfl ?_
        have X12 := (X.stepx x5)
        exact ⟨false, H, _, env_eq ⟨rfl, trivial⟩, X12⟩
      have H := H.2 hc2
      refine LP_ev ok 9 [(12, undef), (13, undef), (14, .bool false), (15, .bool false), (16, undef), (17, undef), (18, undef), (19, .bool false), (2, .bool false)] 18 rfl rfl ?_
      refine LP_end _ rfl ?_
      exact ⟨false, H, _, env_eq ⟨rfl, trivial⟩, X⟩
    have H := H.2 hc
    refine LP_ev ok 4 [(7, undef), (8, undef), (9, undef), (10, .bool false), (11, .bool false), (12, undef), (13, undef), (14, .bool false), (15, .bool false), (16, undef), (17, undef), (18, undef), (19, .bool false), (2, .bool false)] 18 rfl rfl ?_
    refine LP_end _ rfl ?_
    exact ⟨false, H, _, env_eq ⟨rfl, trivial⟩, X⟩
  rintro x _ wx ⟨H, ρ, rfl, X1⟩
  subst hk
  refine W_ret ?_
  exact ⟨_, Ret_of [.bool x] ⟨⟨rfl, rfl⟩, trivial⟩, _, H, rfl, X1.ext⟩

set_option maxRecDepth 8000 in
set_option maxHeartbeats 4000000 in
theorem impl_gcdOf_w (a : Int) (b : Int) (Q : Int → Prop) (H : impl_gcdOf a b Q) (w : World)  :
    CallsTo Try.prog 146 #[I a, I b] w fun v w' => ∃ r0, Q r0 ∧ v = I r0 ∧ Ext w w' := by
  refine enter (args := [I a, I b]) 20 Try.func146 rfl rfl rfl ?_
  refine W_forget [(0, I a), (1, I b)] ⟨rfl, rfl, trivial⟩ fun ρ => ?_
  have X := But.refl emp w
  refine W_seq ?_
  refine W_region ?_
  refine LP_ev ok 0 [(4, I 0)] 1 rfl rfl ?_
  refine LP_end _ rfl ?_
  obtain ⟨k, hk, H⟩ := jn_elim H
  refine W_join2 (S := Int) (fun s ρ' w' => k s ∧ ∃ (ρ : Env), ρ' = setAll [(0, I s), (1, I b)] ρ ∧ w = w') ?_ ?_
  · refine W_seq ?_
    refine W_region ?_
    refine LP_ev ok 0 [(5, I a), (6, .bool (decide (a < 0)))] 2 rfl rfl ?_
    refine LP_end _ rfl ?_
    refine W_cond (decide (a < 0)) rfl (fun hc => ?_) (fun hc => ?_)
    · have H := H.1 hc
      refine W_region ?_
      refine LP_ev ok 0 [(7, I a), (8, I (wr (0 - a))), (0, I (wr (0 - a)))] 3 rfl rfl ?_
      refine LP_end _ rfl ?_
      exact ⟨wr (0 - a), H, _, env_eq ⟨rfl, rfl, trivial⟩, rfl⟩
    have H := H.2 hc
    refine W_skip ?_
    exact ⟨a, H, _, env_eq ⟨rfl, rfl, trivial⟩, rfl⟩
  rintro a1 _ _ ⟨H, ρ, rfl, rfl⟩
  subst hk
  obtain ⟨k4, hk5, H⟩ := jn_elim H
  refine W_join2 (S := Int) (fun s ρ' w' => k4 s ∧ ∃ (ρ : Env), ρ' = setAll [(0, I a1), (1, I s)] ρ ∧ w = w') ?_ ?_
  · refine W_seq ?_
    refine W_region ?_
    refine LP_ev ok 0 [(9, I b), (10, .bool (decide (b < 0)))] 2 rfl rfl ?_
    refine LP_end _ rfl ?_
    refine W_cond (decide (b < 0)) rfl (fun hc6 => ?_) (fun hc6 => ?_)
    · have H := H.1 hc6
      refine W_region ?_
      refine LP_ev ok 0 [(11, I b), (12, I (wr (0 - b))), (1, I (wr (0 - b)))] 3 rfl rfl ?_
      refine LP_end _ rfl ?_
      exact ⟨wr (0 - b), H, _, env_eq ⟨rfl, rfl, trivial⟩, rfl⟩
    have H := H.2 hc6
    refine W_skip ?_
    exact ⟨b, H, _, env_eq ⟨rfl, rfl, trivial⟩, rfl⟩
  rintro b2 _ _ ⟨H, ρ, rfl, rfl⟩
  subst hk5
  refine W_seq ?_
  refine W_block ?_
  obtain ⟨J, m, Hx, H⟩ := H
  refine W_loop (S := Int × Int) (fun s ρ' w' => J s.1 s.2 ∧ ∃ (ρ : Env), ρ' = setAll [(0, I s.1), (1, I s.2)] ρ ∧ But emp w w') (fun s => m s.1 s.2) (a1, b2) ⟨Hx, _, env_eq ⟨rfl, rfl, trivial⟩, X⟩ ?_
  rintro ⟨a7, b8⟩ _ wx9 ⟨Hi, ρ, rfl, X10⟩
  have H := H a7 b8 Hi
  refine W_seq ?_
  refine W_seq ?_
  refine W_region ?_
  refine LP_ev ok 0 [(13, I b8), (14, .bool (b8 != 0))] 2 rfl rfl ?_
  refine LP_end _ rfl ?_
  refine W_cond (b8 != 0) rfl (fun hc11 => ?_) (fun hc11 => ?_)
  · have H := H.1 hc11
    refine W_skip ?_
    refine W_block ?_
    refine W_quiet mix (by kernel_rfl) ?_
    refine QP_ev ok 0 [(15, I b8), (16, I a7), (17, I b8)] 3 rfl rfl ?_
    obtain ⟨hz, H⟩ := H
    refine QP_val 3 _ rfl rfl (fun _ _ => ex_rem rfl rfl rfl hz _) ?_
    refine QP_ev ok 4 [(0, I b8), (1, I (Int.tmod a7 b8))] 6 rfl rfl ?_
    refine QP_end _ rfl fun wx12 x => ?_
    have X13 := (X10.stepx x)
    exact ⟨(b8, Int.tmod a7 b8), ⟨H.1, _, env_eq ⟨rfl, rfl, trivial⟩, X13⟩, H.2⟩
  have H := H.2 hc11
  refine W_exit ?_
  refine (if_pos rfl).mpr ?_
  refine W_seq ?_
  refine W_region ?_
  refine LP_ev ok 0 [(19, I a7), (4, I a7)] 2 rfl rfl ?_
  refine LP_end _ rfl ?_
  refine W_ret ?_
  exact ⟨_, Ret_of [I a7] ⟨⟨rfl, rfl⟩, trivial⟩, _, H, rfl, X10.ext⟩

set_option maxRecDepth 8000 in
set_option maxHeartbeats 4000000 in
theorem impl_reduced_w (n : Int) (d : Int) (Q : Frac → Bool → Prop) (H : impl_reduced n d Q) (w : World)  :
    CallsTo Try.prog 93 #[I n, I d] w fun v w' => ∃ r0 r1, Q r0 r1 ∧ v = .tuple #[.agg #[I r0.Num, I r0.Den], .bool r1] ∧ Ext w w' := by
  refine enter (args := [I n, I d]) 36 Try.func93 rfl rfl rfl ?_
  refine W_forget [(0, I n), (1, I d)] ⟨rfl, rfl, trivial⟩ fun ρ => ?_
  have X := But.refl emp w
  refine W_seq ?_
  refine W_region ?_
  refine LP_alloc 0 rfl rfl rfl ti_34 rfl fun b wx x ex f => ?_
  refine LP_ev ok 1 [(5, .bool false)] 2 rfl rfl ?_
  refine LP_end _ rfl ?_
  refine W_seq ?_
  refine W_region ?_
  refine LP_ev ok 0 [(7, I n), (8, I d)] 2 rfl rfl ?_
  refine LP_call 2 rfl rfl rfl cal_146 rfl (impl_gcdOf_w _ _ _ H wx ) ?_
  rintro _ wx1 ⟨r, H, rfl, x2⟩
  refine LP_ev ok 3 [(6, I r)] 4 rfl rfl ?_
  refine LP_end _ rfl ?_
  refine W_seq ?_
  refine W_quiet mix (by kernel_rfl) ?_
  refine QP_ev ok 0 [(10, I n), (11, I r)] 2 rfl rfl ?_
  obtain ⟨hz, H⟩ := H
  refine QP_val 2 _ rfl rfl (fun _ _ => ex_quo rfl rfl rfl hz _) ?_
  refine QP_ev ok 3 [(13, I d), (14, I r)] 5 rfl rfl ?_
  obtain ⟨hz3, H⟩ := H
  refine QP_val 5 _ rfl rfl (fun _ _ => ex_quo rfl rfl rfl hz3 _) ?_
  refine QP_ev ok 6 [(0, I (wr (Int.tdiv n r))), (1, I (wr (Int.tdiv d r)))] 8 rfl rfl ?_
  refine QP_end _ rfl fun wx4 x5 => ?_
  obtain ⟨k, hk, H⟩ := jn_elim H
  refine W_join2 (S := Int × Int) (fun s ρ' w' => k s.1 s.2 ∧ ∃ (ρ : Env), ρ' = setAll [(0, I s.1), (1, I s.2), (4, .pointer (some ⟨b, 0, none⟩))] ρ ∧ wx4 = w') ?_ ?_
  · refine W_seq ?_
    refine W_region ?_
    refine LP_ev ok 0 [(16, I (wr (Int.tdiv d r))), (17, .bool (decide ((wr (Int.tdiv d r)) < 0)))] 2 rfl rfl ?_
    refine LP_end _ rfl ?_
    refine W_cond (decide ((wr (Int.tdiv d r)) < 0)) rfl (fun hc => ?_) (fun hc => ?_)
    · have H := H.1 hc
      refine W_region ?_
      refine LP_ev ok 0 [(18, I (wr (Int.tdiv n r))), (19, I (wr (0 - (wr (Int.tdiv n r))))), (20, I (wr (Int.tdiv d r))), (21, I (wr (0 - (wr (Int.tdiv d r))))), (0, I (wr (0 - (wr (Int.tdiv n r))))), (1, I (wr (0 - (wr (Int.tdiv d r)))))] 6 rfl rfl ?_
      refine LP_end _ rfl ?_
      exact ⟨(wr (0 - (wr (Int.tdiv n r))), wr (0 - (wr (Int.tdiv d r)))), H, _, env_eq ⟨rfl, rfl, rfl, trivial⟩, rfl⟩
    have H := H.2 hc
    refine W_skip ?_
    exact ⟨(wr (Int.tdiv n r), wr (Int.tdiv d r)), H, _, env_eq ⟨rfl, rfl, rfl, trivial⟩, rfl⟩
  rintro ⟨n6, d7⟩ _ _ ⟨H, ρ, rfl, rfl⟩
  subst hk
  refine W_seq ?_
  obtain ⟨k11, hk12, H⟩ := jn_elim H
  refine W_join2 (S := Bool) (fun s ρ' w' => k11 s ∧ ∃ (ρ : Env), ρ' = setAll [(0, I n6), (1, I d7), (4, .pointer (some ⟨b, 0, none⟩)), (31, .bool s)] ρ ∧ wx4 = w') ?_ ?_
  · refine W_region ?_
    refine LP_ev ok 0 [(22, I n6), (23, .bool (decide (n6 > 1000000000))), (24, .bool (decide (n6 > 1000000000)))] 3 rfl rfl ?_
    refine LP_split 24 (decide (n6 > 1000000000)) rfl (fun hc13 => ?_) (fun hc13 => ?_)
    · have H := H.1 hc13
      refine LP_ev ok 3 [(25, undef), (26, undef), (27, .bool true), (28, .bool true), (29, undef), (30, undef), (31, .bool true)] 10 rfl rfl ?_
      refine LP_end _ rfl ?_
      exact ⟨true, H, _, env_eq ⟨rfl, rfl, rfl, rfl, trivial⟩, rfl⟩
    have H := H.2 hc13
    refine LP_ev ok 3 [(25, I n6), (26, .bool (decide (n6 < ((-1000000000))))), (27, .bool (decide (n6 < ((-1000000000))))), (28, .bool (decide (n6 < ((-1000000000)))))] 7 rfl rfl ?_
    refine LP_split 28 (decide (n6 < ((-1000000000)))) rfl (fun hc14 => ?_) (fun hc14 => ?_)
    · have H := H.1 hc14
      refine LP_ev ok 7 [(29, undef), (30, undef), (31, .bool true)] 10 rfl rfl ?_
      refine LP_end _ rfl ?_
      exact ⟨true, H, _, env_eq ⟨rfl, rfl, rfl, rfl, trivial⟩, rfl⟩
    have H := H.2 hc14
    refine LP_ev ok 7 [(29, I d7), (30, .bool (decide (d7 > 1000000000))), (31, .bool (decide (d7 > 1000000000)))] 10 rfl rfl ?_
    refine LP_end _ rfl ?_
    exact ⟨decide (d7 > 1000000000), H, _, env_eq ⟨rfl, rfl, rfl, rfl, trivial⟩, rfl⟩
  rintro x9 _ _ ⟨H, ρ, rfl, rfl⟩
  subst hk12
  refine W_cond (x9) rfl (fun hc15 => ?_) (fun hc15 => ?_)
  · have H := H.1 hc15
    refine W_seq ?_
    refine W_region ?_
    refine LP_ev ok 0 [(32, .agg #[I 0, I 0])] 1 rfl rfl ?_
    have ex18 := ((ex.ext x2).ext x5)
    refine LP_stbox 1 (vs := [I 0, I 0]) (cs' := [I 0, I 0]) rfl rfl rfl ti_34 rfl rfl rfl rfl rfl ex18 rfl rfl fun wx16 ex17 y => ?_
    refine LP_ev ok 2 [(5, .bool false)] 3 rfl rfl ?_
    refine LP_end _ rfl ?_
    refine W_ret ?_
    have f19 := f.mono X.size
    have X20 := ((((X.stepx x).stepx x2).stepx x5).step y (f19.dom _))
    exact ⟨_, Ret_of [.agg #[I 0, I 0], .bool false] ⟨⟨_, rfl, rfl, ld_res ti_34 ag_34 (fun h => by cases h) ex17 rfl rfl⟩, ⟨rfl, rfl⟩, trivial⟩, _, _, H, rfl, X20.ext⟩
  have H := H.2 hc15
  refine W_skip ?_
  refine W_seq ?_
  refine W_region ?_
  refine LP_ev ok 0 [(33, I n6), (34, I d7), (35, .agg #[I n6, I d7])] 3 rfl rfl ?_
  have ex24 := ((ex.ext x2).ext x5)
  refine LP_stbox 3 (vs := [I n6, I d7]) (cs' := [I n6, I d7]) rfl rfl rfl ti_34 rfl rfl rfl rfl rfl ex24 rfl rfl fun wx21 ex22 y23 => ?_
  refine LP_ev ok 4 [(5, .bool true)] 5 rfl rfl ?_
  refine LP_end _ rfl ?_
  refine W_ret ?_
  have f25 := f.mono X.size
  have X26 := ((((X.stepx x).stepx x2).stepx x5).step y23 (f25.dom _))
  exact ⟨_, Ret_of [.agg #[I n6, I d7], .bool true] ⟨⟨_, rfl, rfl, ld_res ti_34 ag_34 (fun h => by cases h) ex22 rfl rfl⟩, ⟨rfl, rfl⟩, trivial⟩, _, _, H, rfl, X26.ext⟩

set_option maxRecDepth 8000 in
set_option maxHeartbeats 4000000 in
theorem impl_GiniOf_w (counts : List Int) (Q : Frac → Bool → Prop) (H : impl_GiniOf counts Q) (w : World) {vx : Value} {hx : PH} (r : RS hx vx counts) (ex : Sub hx w) :
    CallsTo Try.prog 31 #[vx] w fun v w' => ∃ r0 r1, Q r0 r1 ∧ v = .tuple #[.agg #[I r0.Num, I r0.Den], .bool r1] ∧ Ext w w' := by
  obtain ⟨a, c, rfl⟩ := r.shape
  refine enter (args := [.slice a (List.length counts) c]) 46 Try.func31 rfl rfl rfl ?_
  refine W_forget [(0, .slice a (List.length counts) c)] ⟨rfl, trivial⟩ fun ρ => ?_
  have X := But.refl emp w
  refine W_seq ?_
  refine W_region ?_
  refine LP_alloc 0 rfl rfl rfl ti_34 rfl fun b wx x ex1 f => ?_
  refine LP_ev ok 1 [(3, .bool false)] 2 rfl rfl ?_
  refine LP_end _ rfl ?_
  refine W_seq ?_
  refine W_seq ?_
  refine W_region ?_
  refine LP_ev ok 0 [(9, .slice a (List.length counts) c)] 1 rfl rfl ?_
  have ex3 := (ex.ext x)
  refine LP_call 1 rfl rfl rfl cal_92 rfl (impl_areCounts_w _ _ H wx r ex3) ?_
  rintro _ wx4 ⟨r2, H, rfl, x5⟩
  refine LP_ev ok 2 [(11, .bool (!r2))] 3 rfl rfl ?_
  refine LP_end _ rfl ?_
  refine W_cond (!r2) rfl (fun hc => ?_) (fun hc => ?_)
  · have H := H.1 hc
    refine W_seq ?_
    refine W_region ?_
    refine LP_ev ok 0 [(12, .agg #[I 0, I 0])] 1 rfl rfl ?_
    have ex8 := (ex1.ext x5)
    refine LP_stbox 1 (vs := [I 0, I 0]) (cs' := [I 0, I 0]) rfl rfl rfl ti_34 rfl rfl rfl rfl rfl ex8 rfl rfl fun wx6 ex7 y => ?_
    refine LP_ev ok 2 [(3, .bool false)] 3 rfl rfl ?_
    refine LP_end _ rfl ?_
    refine W_ret ?_
    have f9 := f.mono X.size
    have X10 := (((X.stepx x).stepx x5).step y (f9.dom _))
    exact ⟨_, Ret_of [.agg #[I 0, I 0], .bool false] ⟨⟨_, rfl, rfl, ld_res ti_34 ag_34 (fun h => by cases h) ex7 rfl rfl⟩, ⟨rfl, rfl⟩, trivial⟩, _, _, H, rfl, X10.ext⟩
  have H := H.2 hc
  refine W_skip ?_
  refine W_seq ?_
  refine W_region ?_
  refine LP_ev ok 0 [(4, I 0)] 1 rfl rfl ?_
  refine LP_end _ rfl ?_
  refine W_seq ?_
  refine W_seq ?_
  refine W_region ?_
  refine LP_ev ok 0 [(13, .slice a (List.length counts) c), (14, I (ln counts)), (15, I 0)] 3 rfl rfl ?_
  refine LP_end _ rfl ?_
  refine W_block ?_
  obtain ⟨J, m, Hx, H⟩ := H
  refine W_loop (S := Int × Int) (fun s ρ' w' => J s.1 s.2 ∧ ∃ (ρ : Env), ρ' = setAll [(0, .slice a (List.length counts) c), (2, .pointer (some ⟨b, 0, none⟩)), (4, I s.1), (13, .slice a (List.length counts) c), (14, I (ln counts)), (15, I s.2)] ρ ∧ wx4 = w') (fun s => m s.1 s.2) (0, 0) ⟨Hx, _, env_eq ⟨rfl, rfl, rfl, rfl, rfl, rfl, trivial⟩, rfl⟩ ?_
  rintro ⟨sum, x11⟩ _ _ ⟨Hi, ρ, rfl, rfl⟩
  have H := H sum x11 Hi
  refine W_seq ?_
  refine W_region ?_
  refine LP_ev ok 0 [(16, .bool (decide (x11 < (ln counts))))] 1 rfl rfl ?_
  refine LP_end _ rfl ?_
  refine W_seq ?_
  refine W_cond (decide (x11 < (ln counts))) rfl (fun hc13 => ?_) (fun hc13 => ?_)
  · have H := H.1 hc13
    refine W_skip ?_
    refine W_seq ?_
    refine W_block ?_
    refine W_seq ?_
    refine W_region ?_
    obtain ⟨x14, hi, hx15, H⟩ := H
    refine LP_index 0 rfl rfl rfl Try.underlying22 ti_3 rfl rfl r hi hx15 fun a16 cs r17 d => ?_
    have ex18 := (ex3.ext x5)
    refine LP_load 1 rfl rfl rfl ti_3 ag_3 rfl r17 d ex18 fun vx19 r20 => ?_
    obtain rfl := r20.int
    refine LP_ev ok 2 [(6, I x14)] 3 rfl rfl ?_
    refine LP_end _ rfl ?_
    refine W_seq ?_
    refine W_region ?_
    refine LP_ev ok 0 [(19, .slice a (List.length counts) c), (20, I (ln counts)), (21, I 0)] 3 rfl rfl ?_
    refine LP_end _ rfl ?_
    refine W_block ?_
    obtain ⟨J24, m25, Hx26, H⟩ := H
    refine W_loop (S := Int × Int) (fun s ρ' w' => J24 s.1 s.2 ∧ ∃ (ρ : Env), ρ' = setAll [(0, .slice a (List.length counts) c), (2, .pointer (some ⟨b, 0, none⟩)), (4, I s.1), (6, I x14), (13, .slice a (List.length counts) c), (14, I (ln counts)), (15, I x11), (19, .slice a (List.length counts) c), (20, I (ln counts)), (21, I s.2)] ρ ∧ wx4 = w') (fun s => m25 s.1 s.2) (sum, 0) ⟨Hx26, _, env_eq ⟨rfl, rfl, rfl, rfl, rfl, rfl, rfl, rfl, rfl, rfl, trivial⟩, rfl⟩ ?_
    rintro ⟨sum21, x22⟩ _ _ ⟨Hi, ρ, rfl, rfl⟩
    have H := H sum21 x22 Hi
    refine W_seq ?_
    refine W_region ?_
    refine LP_ev ok 0 [(22, .bool (decide (x22 < (ln counts))))] 1 rfl rfl ?_
    refine LP_end _ rfl ?_
    refine W_seq ?_
    refine W_cond (decide (x22 < (ln counts))) rfl (fun hc28 => ?_) (fun hc28 => ?_)
    · have H := H.1 hc28
      refine W_skip ?_
      refine W_seq ?_
      refine W_block ?_
      refine W_seq ?_
      refine W_region ?_
      obtain ⟨x29, hi30, hx31, H⟩ := H
      refine LP_index 0 rfl rfl rfl Try.underlying22 ti_3 rfl rfl r hi30 hx31 fun a32 cs33 r34 d35 => ?_
      refine LP_load 1 rfl rfl rfl ti_3 ag_3 rfl r34 d35 ex18 fun vx36 r37 => ?_
      obtain rfl := r37.int
      refine LP_ev ok 2 [(8, I x29)] 3 rfl rfl ?_
      refine LP_end _ rfl ?_
      refine W_region ?_
      refine LP_ev ok 0 [(25, I sum21), (26, I x14), (27, I x29), (28, I (wr (x14 - x29))), (29, I x29), (30, I x14), (31, I (wr (x29 - x14))), (32, I (mx (wr (x14 - x29)) (wr (x29 - x14)))), (33, I (wr (sum21 + (mx (wr (x14 - x29)) (wr (x29 - x14)))))), (4, I (wr (sum21 + (mx (wr (x14 - x29)) (wr (x29 - x14))))))] 10 rfl rfl ?_
      refine LP_end _ rfl ?_
      refine W_region ?_
      refine LP_ev ok 0 [(34, I (wr (x22 + 1))), (21, I (wr (x22 + 1)))] 2 rfl rfl ?_
      refine LP_end _ rfl ?_
      exact ⟨(wr (sum21 + (mx (wr (x14 - x29)) (wr (x29 - x14)))), wr (x22 + 1)), ⟨H.1, _, env_eq ⟨rfl, rfl, rfl, rfl, rfl, rfl, rfl, rfl, rfl, rfl, trivial⟩, rfl⟩, H.2⟩
    have H := H.2 hc28
    refine W_exit ?_
    refine (if_pos rfl).mpr ?_
    refine W_region ?_
    refine LP_ev ok 0 [(35, I (wr (x11 + 1))), (15, I (wr (x11 + 1)))] 2 rfl rfl ?_
    refine LP_end _ rfl ?_
    exact ⟨(sum21, wr (x11 + 1)), ⟨H.1, _, env_eq ⟨rfl, rfl, rfl, rfl, rfl, rfl, trivial⟩, rfl⟩, H.2⟩
  have H := H.2 hc13
  refine W_exit ?_
  refine (if_pos rfl).mpr ?_
  refine W_seq ?_
  refine W_region ?_
  refine LP_ev ok 0 [(36, I sum), (37, .slice a (List.length counts) c), (38, I (ln counts)), (39, I (wr (2 * (ln counts)))), (40, .slice a (List.length counts) c)] 5 rfl rfl ?_
  have ex39 := (ex3.ext x5)
  refine LP_call 5 rfl rfl rfl cal_94 rfl (impl_total_w _ _ H wx4 r ex39) ?_
  rintro _ wx40 ⟨r38, H, rfl, x41⟩
  refine LP_ev ok 6 [(42, I (wr ((wr (2 * (ln counts))) * r38)))] 7 rfl rfl ?_
  refine LP_call 7 rfl rfl rfl cal_93 rfl (impl_reduced_w _ _ _ H wx40 ) ?_
  rintro _ wx44 ⟨r42, r43, H, rfl, x45⟩
  refine LP_ev ok 8 [(44, .agg #[I r42.Num, I r42.Den]), (45, .bool r43)] 10 rfl rfl ?_
  have ex49 := (((ex1.ext x5).ext x41).ext x45)
  refine LP_stbox 10 (vs := [I r42.Num, I r42.Den]) (cs' := [I r42.Num, I r42.Den]) rfl rfl rfl ti_34 rfl rfl rfl rfl rfl ex49 rfl rfl fun wx46 ex47 y48 => ?_
  refine LP_ev ok 11 [(3, .bool r43)] 12 rfl rfl ?_
  refine LP_end _ rfl ?_
  refine W_ret ?_
  have f50 := f.mono X.size
  have X51 := (((((X.stepx x).stepx x5).stepx x41).stepx x45).step y48 (f50.dom _))
  exact ⟨_, Ret_of [.agg #[I r42.Num, I r42.Den], .bool r43] ⟨⟨_, rfl, rfl, ld_res ti_34 ag_34 (fun h => by cases h) ex47 rfl rfl⟩, ⟨rfl, rfl⟩, trivial⟩, _, _, H, rfl, X51.ext⟩

set_option maxRecDepth 8000 in
set_option maxHeartbeats 4000000 in
theorem laws_eqFrac_w (a : Frac) (b : Frac) (Q : Bool → Prop) (H : laws_eqFrac a b Q) (w : World)  :
    CallsTo Try.prog 32 #[.agg #[I a.Num, I a.Den], .agg #[I b.Num, I b.Den]] w fun v w' => ∃ r0, Q r0 ∧ v = .bool r0 ∧ Ext w w' := by
  refine enter (args := [.agg #[I a.Num, I a.Den], .agg #[I b.Num, I b.Den]]) 15 Try.func32 rfl rfl rfl ?_
  refine W_forget [(0, .agg #[I a.Num, I a.Den]), (1, .agg #[I b.Num, I b.Den])] ⟨rfl, rfl, trivial⟩ fun ρ => ?_
  have X := But.refl emp w
  refine W_seq ?_
  refine W_region ?_
  refine LP_box 0 (cs := [I a.Num, I a.Den]) rfl rfl rfl rfl rfl fun b1 wx x ex f => ?_
  refine LP_box 1 (cs := [I b.Num, I b.Den]) rfl rfl rfl rfl rfl fun b2 wx3 x4 ex5 f6 => ?_
  refine LP_ev ok 2 [(4, .bool false)] 3 rfl rfl ?_
  refine LP_end _ rfl ?_
  refine W_seq ?_
  refine W_seq ?_
  refine W_region ?_
  refine LP_ev ok 0 [(5, .pointer (some ⟨b1, 0, none⟩))] 1 rfl rfl ?_
  have ex7 := (ex.ext x4)
  refine LP_ldbox 1 (v := I a.Num) rfl rfl rfl ti_3 ag_3 (fun _ => rfl) rfl ex7 rfl rfl ?_
  refine LP_ev ok 2 [(7, .pointer (some ⟨b2, 0, none⟩))] 3 rfl rfl ?_
  refine LP_ldbox 3 (v := I b.Num) rfl rfl rfl ti_3 ag_3 (fun _ => rfl) rfl ex5 rfl rfl ?_
  refine LP_ev ok 4 [(9, .bool (a.Num != b.Num))] 5 rfl rfl ?_
  refine LP_end _ rfl ?_
  refine W_cond (a.Num != b.Num) rfl (fun hc => ?_) (fun hc => ?_)
  · have H := H.1 hc
    refine W_seq ?_
    refine W_region ?_
    refine LP_ev ok 0 [(4, .bool false)] 1 rfl rfl ?_
    refine LP_end _ rfl ?_
    refine W_ret ?_
    have X8 := ((X.stepx x).stepx x4)
    exact ⟨_, Ret_of [.bool false] ⟨⟨rfl, rfl⟩, trivial⟩, _, H, rfl, X8.ext⟩
  have H := H.2 hc
  refine W_skip ?_
  refine W_seq ?_
  refine W_seq ?_
  refine W_region ?_
  refine LP_ev ok 0 [(10, .pointer (some ⟨b1, 1, none⟩))] 1 rfl rfl ?_
  refine LP_ldbox 1 (v := I a.Den) rfl rfl rfl ti_3 ag_3 (fun _ => rfl) rfl ex7 rfl rfl ?_
  refine LP_ev ok 2 [(12, .pointer (some ⟨b2, 1, none⟩))] 3 rfl rfl ?_
  refine LP_ldbox 3 (v := I b.Den) rfl rfl rfl ti_3 ag_3 (fun _ => rfl) rfl ex5 rfl rfl ?_
  refine LP_ev ok 4 [(14, .bool (a.Den != b.Den))] 5 rfl rfl ?_
  refine LP_end _ rfl ?_
  refine W_cond (a.Den != b.Den) rfl (fun hc9 => ?_) (fun hc9 => ?_)
  · have H := H.1 hc9
    refine W_seq ?_
    refine W_region ?_
    refine LP_ev ok 0 [(4, .bool false)] 1 rfl rfl ?_
    refine LP_end _ rfl ?_
    refine W_ret ?_
    have X10 := ((X.stepx x).stepx x4)
    exact ⟨_, Ret_of [.bool false] ⟨⟨rfl, rfl⟩, trivial⟩, _, H, rfl, X10.ext⟩
  have H := H.2 hc9
  refine W_skip ?_
  refine W_seq ?_
  refine W_region ?_
  refine LP_ev ok 0 [(4, .bool true)] 1 rfl rfl ?_
  refine LP_end _ rfl ?_
  refine W_ret ?_
  have X11 := ((X.stepx x).stepx x4)
  exact ⟨_, Ret_of [.bool true] ⟨⟨rfl, rfl⟩, trivial⟩, _, H, rfl, X11.ext⟩

set_option maxRecDepth 8000 in
set_option maxHeartbeats 4000000 in
theorem laws_FnExactGiniOf_w (aCounts : List Int) (Q : Bool → Prop) (H : laws_FnExactGiniOf aCounts Q) (w : World) {vx : Value} {hx : PH} (r : RS hx vx aCounts) (ex : Sub hx w) :
    CallsTo Try.prog 6 #[vx] w fun v w' => ∃ r0, Q r0 ∧ v = .bool r0 ∧ Ext w w' := by
  obtain ⟨a, c, rfl⟩ := r.shape
  refine enter (args := [.slice a (List.length aCounts) c]) 38 Try.func6 rfl rfl rfl ?_
  refine W_forget [(0, .slice a (List.length aCounts) c)] ⟨rfl, trivial⟩ fun ρ => ?_
  have X := But.refl emp w
  refine W_seq ?_
  refine W_region ?_
  refine LP_ev ok 0 [(2, .bool false)] 1 rfl rfl ?_
  refine LP_end _ rfl ?_
  refine W_seq ?_
  refine W_seq ?_
  refine W_region ?_
  refine LP_ev ok 0 [(8, .slice a (List.length aCounts) c), (9, I (ln aCounts)), (10, .bool (decide ((ln aCounts) > 1048576)))] 3 rfl rfl ?_
  refine LP_end _ rfl ?_
  refine W_cond (decide ((ln aCounts) > 1048576)) rfl (fun hc => ?_) (fun hc => ?_)
  · have H := H.1 hc
    refine W_seq ?_
    refine W_region ?_
    refine LP_ev ok 0 [(2, .bool true)] 1 rfl rfl ?_
    refine LP_end _ rfl ?_
    refine W_ret ?_
    exact ⟨_, Ret_of [.bool true] ⟨⟨rfl, rfl⟩, trivial⟩, _, H, rfl, X.ext⟩
  have H := H.2 hc
  refine W_skip ?_
  refine W_seq ?_
  refine W_region ?_
  refine LP_ev ok 0 [(12, .slice a (List.length aCounts) c)] 1 rfl rfl ?_
  refine LP_call 1 rfl rfl rfl cal_26 rfl (laws_toIntS_w _ _ H w r ex) ?_
  rintro _ wx ⟨r1, vx2, hx3, H, rfl, x, o, ex4, f⟩
  obtain ⟨a5, c6, rfl⟩ := o.shape
  refine LP_call 2 rfl rfl rfl cal_30 rfl (spec_GiniOf_w _ _ H wx o.readf ex4) ?_
  rintro _ wx9 ⟨r7, r8, H, rfl, x10⟩
  refine LP_ev ok 3 [(11, .tuple #[.agg #[I r7.Num, I r7.Den], .bool r8]), (15, .agg #[I r7.Num, I r7.Den]), (16, .bool r8)] 6 rfl rfl ?_
  refine LP_alloc 6 rfl rfl rfl ti_34 rfl fun b wx11 x12 ex13 f14 => ?_
  refine LP_stbox 7 (vs := [I r7.Num, I r7.Den]) (cs' := [I r7.Num, I r7.Den]) rfl rfl rfl ti_34 rfl rfl rfl rfl rfl ex13 rfl rfl fun wx15 ex16 y => ?_
  refine LP_ev ok 8 [(4, .bool r8)] 9 rfl rfl ?_
  refine LP_end _ rfl ?_
  refine W_seq ?_
  refine W_region ?_
  refine LP_ev ok 0 [(17, .slice a (List.length aCounts) c)] 1 rfl rfl ?_
  have ex18 := ((ex.ext x).ext x10)
  have ex19 := ((((ex.ext x).ext x10).ext x12).but y (Dj.of_fresh ex18 f14).symm)
  refine LP_call 1 rfl rfl rfl cal_26 rfl (laws_toIntS_w _ _ H wx15 r ex19) ?_
  rintro _ wx20 ⟨r17, vx22, hx23, H, rfl, x21, o24, ex25, f26⟩
  obtain ⟨a27, c28, rfl⟩ := o24.shape
  refine LP_ev ok 2 [(5, .slice a27 (List.length r17) c28)] 3 rfl rfl ?_
  refine LP_end _ rfl ?_
  refine W_seq ?_
  refine W_region ?_
  refine LP_ev ok 0 [(20, .slice a27 (List.length r17) c28)] 1 rfl rfl ?_
  refine LP_call 1 rfl rfl rfl cal_31 rfl (impl_GiniOf_w _ _ H wx20 o24.readf ex25) ?_
  rintro _ wx31 ⟨r29, r30, H, rfl, x32⟩
  refine LP_ev ok 2 [(19, .tuple #[.agg #[I r29.Num, I r29.Den], .bool r30]), (22, .agg #[I r29.Num, I r29.Den]), (23, .bool r30)] 5 rfl rfl ?_
  refine LP_alloc 5 rfl rfl rfl ti_34 rfl fun b33 wx34 x35 ex36 f37 => ?_
  refine LP_stbox 6 (vs := [I r29.Num, I r29.Den]) (cs' := [I r29.Num, I r29.Den]) rfl rfl rfl ti_34 rfl rfl rfl rfl rfl ex36 rfl rfl fun wx38 ex39 y40 => ?_
  refine LP_ev ok 7 [(7, .bool r30)] 8 rfl rfl ?_
  refine LP_end _ rfl ?_
  refine W_seq ?_
  obtain ⟨k, hk, H⟩ := jn_elim H
  refine W_join2 (S := Bool) (fun s ρ' w' => k s ∧ ∃ (ρ : Env), ρ' = setAll [(0, .slice a (List.length aCounts) c), (5, .slice a27 (List.length r17) c28), (32, .bool s)] ρ ∧ But emp w w' ∧ Sub hx w' ∧ Sub hx23 w') ?_ ?_
  · refine W_region ?_
    refine LP_ldbox 0 (v := .agg #[I r29.Num, I r29.Den]) rfl rfl rfl ti_34 ag_34 (fun h => by cases h) rfl ex39 rfl rfl ?_
    have ex46 := ((ex16.ext x21).ext x32)
    have ex47 := ((((ex16.ext x21).ext x32).ext x35).but y40 (Dj.of_fresh ex46 f37).symm)
    refine LP_ldbox 1 (v := .agg #[I r7.Num, I r7.Den]) rfl rfl rfl ti_34 ag_34 (fun h => by cases h) rfl ex47 rfl rfl ?_
    refine LP_call 2 rfl rfl rfl cal_32 rfl (laws_eqFrac_w _ _ _ H wx38 ) ?_
    rintro _ wx49 ⟨r48, H, rfl, x50⟩
    refine LP_ev ok 3 [(27, .bool (!r48)), (28, .bool (!r48))] 5 rfl rfl ?_
    refine LP_split 28 (!r48) rfl (fun hc51 => ?_) (fun hc51 => ?_)
    · have H := H.1 hc51
      refine LP_ev ok 5 [(29, undef), (30, undef), (31, undef), (32, .bool true)] 9 rfl rfl ?_
      refine LP_end _ rfl ?_
      try refine W_forget [(0, .slice a (List.length aCounts) c), (5, .slice a27 (List.length r17) c28), (32, .bool true)] ⟨rfl, rfl, rfl, trivial⟩ fun ρ => ?_
      have X53 := ((X.stepx x).stepx x10)
      have f52 := f14.mono X53.size
      have X55 := ((((X53.stepx x12).step y (f52.dom _)).stepx x21).stepx x32)
      have f54 := f37.mono X55.size
      have X56 := (((((((((X.stepx x).stepx x10).stepx x12).step y (f52.dom _)).stepx x21).stepx x32).stepx x35).step y40 (f54.dom _)).stepx x50)
      have ex57 := ((ex19.ext x21).ext x32)
      have ex58 := (((((ex19.ext x21).ext x32).ext x35).but y40 (Dj.of_fresh ex57 f37).symm).ext x50)
      have ex59 := (ex25.ext x32)
      have ex60 := ((((ex25.ext x32).ext x35).but y40 (Dj.of_fresh ex59 f37).symm).ext x50)
      exact ⟨true, H, _, env_eq ⟨rfl, rfl, rfl, trivial⟩, X56, ex58, ex60⟩
    have H := H.2 hc51
    refine LP_ev ok 5 [(29, .bool r30), (30, .bool r8), (31, .bool (r30 != r8)), (32, .bool (r30 != r8))] 9 rfl rfl ?_
    refine LP_end _ rfl ?_
    try refine W_forget [(0, .slice a (List.length aCounts) c), (5, .slice a27 (List.length r17) c28), (32, .bool (r30 != r8))] ⟨rfl, rfl, rfl, trivial⟩ fun ρ => ?_
    have X62 := ((X.stepx x).stepx x10)
    have f61 := f14.mono X62.size
    have X64 := ((((X62.stepx x12).step y (f61.dom _)).stepx x21).stepx x32)
    have f63 := f37.mono X64.size
    have X65 := (((((((((X.stepx x).stepx x10).stepx x12).step y (f61.dom _)).stepx x21).stepx x32).stepx x35).step y40 (f63.dom _)).stepx x50)
    have ex66 := ((ex19.ext x21).ext x32)
    have ex67 := (((((ex19.ext x21).ext x32).ext x35).but y40 (Dj.of_fresh ex66 f37).symm).ext x50)
    have ex68 := (ex25.ext x32)
    have ex69 := ((((ex25.ext x32).ext x35).but y40 (Dj.of_fresh ex68 f37).symm).ext x50)
    exact ⟨r30 != r8, H, _, env_eq ⟨rfl, rfl, rfl, trivial⟩, X65, ex67, ex69⟩
  rintro x41 _ wx42 ⟨H, ρ, rfl, X45, ex43, ex44⟩
  subst hk
  refine W_cond (x41) rfl (fun hc70 => ?_) (fun hc70 => ?_)
  · have H := H.1 hc70
    refine W_seq ?_
    refine W_region ?_
    refine LP_ev ok 0 [(2, .bool false)] 1 rfl rfl ?_
    refine LP_end _ rfl ?_
    refine W_ret ?_
    exact ⟨_, Ret_of [.bool false] ⟨⟨rfl, rfl⟩, trivial⟩, _, H, rfl, X45.ext⟩
  have H := H.2 hc70
  refine W_skip ?_
  refine W_seq ?_
  refine W_seq ?_
  refine W_region ?_
  refine LP_ev ok 0 [(33, .slice a27 (List.length r17) c28), (34, .slice a (List.length aCounts) c)] 2 rfl rfl ?_
  refine LP_call 2 rfl rfl rfl cal_26 rfl (laws_toIntS_w _ _ H wx42 r ex43) ?_
  rintro _ wx72 ⟨r71, vx74, hx75, H, rfl, x73, o76, ex77, f78⟩
  obtain ⟨a79, c80, rfl⟩ := o76.shape
  have ex82 := (ex44.ext x73)
  refine LP_call 3 rfl rfl rfl cal_22 rfl (laws_eqIntS_w _ _ _ H wx72 o24.readf ex82 o76.readf ex77) ?_
  rintro _ wx83 ⟨r81, H, rfl, x84⟩
  refine LP_ev ok 4 [(37, .bool (!r81))] 5 rfl rfl ?_
  refine LP_end _ rfl ?_
  refine W_cond (!r81) rfl (fun hc85 => ?_) (fun hc85 => ?_)
  · have H := H.1 hc85
    refine W_seq ?_
    refine W_region ?_
    refine LP_ev ok 0 [(2, .bool false)] 1 rfl rfl ?_
    refine LP_end _ rfl ?_
    refine W_ret ?_
    have X86 := ((X45.stepx x73).stepx x84)
    exact ⟨_, Ret_of [.bool false] ⟨⟨rfl, rfl⟩, trivial⟩, _, H, rfl, X86.ext⟩
  have H := H.2 hc85
  refine W_skip ?_
  refine W_seq ?_
  refine W_region ?_
  refine LP_ev ok 0 [(2, .bool true)] 1 rfl rfl ?_
  refine LP_end _ rfl ?_
  refine W_ret ?_
  have X87 := ((X45.stepx x73).stepx x84)
  exact ⟨_, Ret_of [.bool true] ⟨⟨rfl, rfl⟩, trivial⟩, _, H, rfl, X87.ext⟩

set_option maxRecDepth 8000 in
set_option maxHeartbeats 4000000 in
theorem spec_fDiv_w (a : Frac) (b : Frac) (Q : Frac → Bool → Prop) (H : spec_fDiv a b Q) (w : World)  :
    CallsTo Try.prog 107 #[.agg #[I a.Num, I a.Den], .agg #[I b.Num, I b.Den]] w fun v w' => ∃ r0 r1, Q r0 r1 ∧ v = .tuple #[.agg #[I r0.Num, I r0.Den], .bool r1] ∧ Ext w w' := by
  refine enter (args := [.agg #[I a.Num, I a.Den], .agg #[I b.Num, I b.Den]]) 23 Try.func107 rfl rfl rfl ?_
  refine W_forget [(0, .agg #[I a.Num, I a.Den]), (1, .agg #[I b.Num, I b.Den])] ⟨rfl, rfl, trivial⟩ fun ρ => ?_
  have X := But.refl emp w
  refine W_seq ?_
  refine W_region ?_
  refine LP_box 0 (cs := [I a.Num, I a.Den]) rfl rfl rfl rfl rfl fun b1 wx x ex f => ?_
  refine LP_box 1 (cs := [I b.Num, I b.Den]) rfl rfl rfl rfl rfl fun b2 wx3 x4 ex5 f6 => ?_
  refine LP_alloc 2 rfl rfl rfl ti_34 rfl fun b7 wx8 x9 ex10 f11 => ?_
  refine LP_ev ok 3 [(5, .bool false)] 4 rfl rfl ?_
  refine LP_end _ rfl ?_
  refine W_seq ?_
  refine W_seq ?_
  refine W_region ?_
  refine LP_ev ok 0 [(6, .pointer (some ⟨b2, 0, none⟩))] 1 rfl rfl ?_
  have ex12 := (ex5.ext x9)
  refine LP_ldbox 1 (v := I b.Num) rfl rfl rfl ti_3 ag_3 (fun _ => rfl) rfl ex12 rfl rfl ?_
  refine LP_ev ok 2 [(8, .bool (b.Num == 0))] 3 rfl rfl ?_
  refine LP_end _ rfl ?_
  refine W_cond (b.Num == 0) rfl (fun hc => ?_) (fun hc => ?_)
  · have H := H.1 hc
    refine W_seq ?_
    refine W_region ?_
    refine LP_ev ok 0 [(9, .agg #[I 0, I 0])] 1 rfl rfl ?_
    refine LP_stbox 1 (vs := [I 0, I 0]) (cs' := [I 0, I 0]) rfl rfl rfl ti_34 rfl rfl rfl rfl rfl ex10 rfl rfl fun wx13 ex14 y => ?_
    refine LP_ev ok 2 [(5, .bool false)] 3 rfl rfl ?_
    refine LP_end _ rfl ?_
    refine W_ret ?_
    have X16 := ((X.stepx x).stepx x4)
    have f15 := f11.mono X16.size
    have X17 := ((((X.stepx x).stepx x4).stepx x9).step y (f15.dom _))
    exact ⟨_, Ret_of [.agg #[I 0, I 0], .bool false] ⟨⟨_, rfl, rfl, ld_res ti_34 ag_34 (fun h => by cases h) ex14 rfl rfl⟩, ⟨rfl, rfl⟩, trivial⟩, _, _, H, rfl, X17.ext⟩
  have H := H.2 hc
  refine W_skip ?_
  refine W_seq ?_
  refine W_region ?_
  refine LP_ev ok 0 [(10, .pointer (some ⟨b1, 0, none⟩))] 1 rfl rfl ?_
  have ex18 := ((ex.ext x4).ext x9)
  refine LP_ldbox 1 (v := I a.Num) rfl rfl rfl ti_3 ag_3 (fun _ => rfl) rfl ex18 rfl rfl ?_
  refine LP_ev ok 2 [(12, .pointer (some ⟨b2, 1, none⟩))] 3 rfl rfl ?_
  refine LP_ldbox 3 (v := I b.Den) rfl rfl rfl ti_3 ag_3 (fun _ => rfl) rfl ex12 rfl rfl ?_
  refine LP_ev ok 4 [(14, I (wr (a.Num * b.Den))), (15, .pointer (some ⟨b1, 1, none⟩))] 6 rfl rfl ?_
  refine LP_ldbox 6 (v := I a.Den) rfl rfl rfl ti_3 ag_3 (fun _ => rfl) rfl ex18 rfl rfl ?_
  refine LP_ev ok 7 [(17, .pointer (some ⟨b2, 0, none⟩))] 8 rfl rfl ?_
  refine LP_ldbox 8 (v := I b.Num) rfl rfl rfl ti_3 ag_3 (fun _ => rfl) rfl ex12 rfl rfl ?_
  refine LP_ev ok 9 [(19, I (wr (a.Den * b.Num)))] 10 rfl rfl ?_
  refine LP_call 10 rfl rfl rfl cal_90 rfl (spec_fMake_w _ _ _ H wx8 ) ?_
  rintro _ wx20 ⟨r, r19, H, rfl, x21⟩
  refine LP_ev ok 11 [(21, .agg #[I r.Num, I r.Den]), (22, .bool r19)] 13 rfl rfl ?_
  have ex25 := (ex10.ext x21)
  refine LP_stbox 13 (vs := [I r.Num, I r.Den]) (cs' := [I r.Num, I r.Den]) rfl rfl rfl ti_34 rfl rfl rfl rfl rfl ex25 rfl rfl fun wx22 ex23 y24 => ?_
  refine LP_ev ok 14 [(5, .bool r19)] 15 rfl rfl ?_
  refine LP_end _ rfl ?_
  refine W_ret ?_
  have X27 := ((X.stepx x).stepx x4)
  have f26 := f11.mono X27.size
  have X28 := (((((X.stepx x).stepx x4).stepx x9).stepx x21).step y24 (f26.dom _))
  exact ⟨_, Ret_of [.agg #[I r.Num, I r.Den], .bool r19] ⟨⟨_, rfl, rfl, ld_res ti_34 ag_34 (fun h => by cases h) ex23 rfl rfl⟩, ⟨rfl, rfl⟩, trivial⟩, _, _, H, rfl, X28.ext⟩

set_option maxRecDepth 8000 in
set_option maxHeartbeats 4000000 in
theorem spec_QuotientOf_w (a : List Int) (b : List Int) (i : Int) (Q : Frac → Bool → Prop) (H : spec_QuotientOf a b i Q) (w : World) {vx : Value} {hx : PH} (r : RS hx vx a) (ex : Sub hx w) {vx2 : Value} {hx3 : PH} (r4 : RS hx3 vx2 b) (ex5 : Sub hx3 w) :
    CallsTo Try.prog 45 #[vx, vx2, I i] w fun v w' => ∃ r0 r1, Q r0 r1 ∧ v = .tuple #[.agg #[I r0.Num, I r0.Den], .bool r1] ∧ Ext w w' := by
  obtain ⟨a1, c, rfl⟩ := r.shape
  obtain ⟨a6, c7, rfl⟩ := r4.shape
  refine enter (args := [.slice a1 (List.length a) c, .slice a6 (List.length b) c7, I i]) 68 Try.func45 rfl rfl rfl ?_
  refine W_forget [(0, .slice a1 (List.length a) c), (1, .slice a6 (List.length b) c7), (2, I i)] ⟨rfl, rfl, rfl, trivial⟩ fun ρ => ?_
  have X := But.refl emp w
  refine W_seq ?_
  refine W_region ?_
  refine LP_alloc 0 rfl rfl rfl ti_34 rfl fun b8 wx x ex9 f => ?_
  refine LP_ev ok 1 [(7, .bool false)] 2 rfl rfl ?_
  refine LP_end _ rfl ?_
  refine W_seq ?_
  obtain ⟨k, hk, H⟩ := jn_elim H
  refine W_join2 (S := Bool) (fun s ρ' w' => k s ∧ ∃ (ρ : Env), ρ' = setAll [(0, .slice a1 (List.length a) c), (1, .slice a6 (List.length b) c7), (2, I i), (6, .pointer (some ⟨b8, 0, none⟩)), (34, .bool s)] ρ ∧ But emp w w' ∧ Sub hx w' ∧ Sub hx3 w' ∧ Sub (bx b8 34 [I 0, I 0]) w') ?_ ?_
  · refine W_region ?_
    refine LP_ev ok 0 [(12, .slice a1 (List.length a) c)] 1 rfl rfl ?_
    have ex17 := (ex.ext x)
    refine LP_call 1 rfl rfl rfl cal_88 rfl (spec_oCounts_w _ _ H wx r ex17) ?_
    rintro _ wx18 ⟨r16, H, rfl, x19⟩
    refine LP_ev ok 2 [(14, .bool (!r16)), (15, .bool (!r16))] 4 rfl rfl ?_
    refine LP_split 15 (!r16) rfl (fun hc => ?_) (fun hc => ?_)
    · have H := H.1 hc
      refine LP_ev ok 4 [(16, undef), (17, undef), (18, undef), (19, .bool true), (20, .bool true), (21, undef), (22, undef), (23, undef), (24, undef), (25, undef), (26, .bool true), (27, .bool true), (28, undef), (29, undef), (30, undef), (31, undef), (32, undef), (33, undef), (34, .bool true)] 23 rfl rfl ?_
      refine LP_end _ rfl ?_
      try refine W_forget [(0, .slice a1 (List.length a) c), (1, .slice a6 (List.length b) c7), (2, I i), (6, .pointer (some ⟨b8, 0, none⟩)), (34, .bool true)] ⟨rfl, rfl, rfl, rfl, rfl, trivial⟩ fun ρ => ?_
      have X20 := ((X.stepx x).stepx x19)
      have ex21 := (ex17.ext x19)
      have ex22 := ((ex5.ext x).ext x19)
      have ex23 := (ex9.ext x19)
      exact ⟨true, H, _, env_eq ⟨rfl, rfl, rfl, rfl, rfl, trivial⟩, X20, ex21, ex22, ex23⟩
    have H := H.2 hc
    refine LP_ev ok 4 [(16, .slice a6 (List.length b) c7)] 5 rfl rfl ?_
    have ex25 := ((ex5.ext x).ext x19)
    refine LP_call 5 rfl rfl rfl cal_88 rfl (spec_oCounts_w _ _ H wx18 r4 ex25) ?_
    rintro _ wx26 ⟨r24, H, rfl, x27⟩
    refine LP_ev ok 6 [(18, .bool (!r24)), (19, .bool (!r24)), (20, .bool (!r24))] 9 rfl rfl ?_
    refine LP_split 20 (!r24) rfl (fun hc28 => ?_) (fun hc28 => ?_)
    · have H := H.1 hc28
      refine LP_ev ok 9 [(21, undef), (22, undef), (23, undef), (24, undef), (25, undef), (26, .bool true), (27, .bool true), (28, undef), (29, undef), (30, undef), (31, undef), (32, undef), (33, undef), (34, .bool true)] 23 rfl rfl ?_
      refine LP_end _ rfl ?_
      try refine W_forget [(0, .slice a1 (List.length a) c), (1, .slice a6 (List.length b) c7), (2, I i), (6, .pointer (some ⟨b8, 0, none⟩)), (34, .bool true)] ⟨rfl, rfl, rfl, rfl, rfl, trivial⟩ fun ρ => ?_
      have X29 := (((X.stepx x).stepx x19).stepx x27)
      have ex30 := ((ex17.ext x19).ext x27)
      have ex31 := (ex25.ext x27)
      have ex32 := ((ex9.ext x19).ext x27)
      exact ⟨true, H, _, env_eq ⟨rfl, rfl, rfl, rfl, rfl, trivial⟩, X29, ex30, ex31, ex32⟩
    have H := H.2 hc28
    refine LP_ev ok 9 [(21, .slice a1 (List.length a) c), (22, I (ln a)), (23, .slice a6 (List.length b) c7), (24, I (ln b)), (25, .bool ((ln a) != (ln b))), (26, .bool ((ln a) != (ln b))), (27, .bool ((ln a) != (ln b)))] 16 rfl rfl ?_
    refine LP_split 27 ((ln a) != (ln b)) rfl (fun hc33 => ?_) (fun hc33 => ?_)
    · have H := H.1 hc33
      refine LP_ev ok 16 [(28, undef), (29, undef), (30, undef), (31, undef), (32, undef), (33, undef), (34, .bool true)] 23 rfl rfl ?_
      refine LP_end _ rfl ?_
      try refine W_forget [(0, .slice a1 (List.length a) c), (1, .slice a6 (List.length b) c7), (2, I i), (6, .pointer (some ⟨b8, 0, none⟩)), (34, .bool true)] ⟨rfl, rfl, rfl, rfl, rfl, trivial⟩ fun ρ => ?_
      have X34 := (((X.stepx x).stepx x19).stepx x27)
      have ex35 := ((ex17.ext x19).ext x27)
      have ex36 := (ex25.ext x27)
      have ex37 := ((ex9.ext x19).ext x27)
      exact ⟨true, H, _, env_eq ⟨rfl, rfl, rfl, rfl, rfl, trivial⟩, X34, ex35, ex36, ex37⟩
    have H := H.2 hc33
    refine LP_ev ok 16 [(28, I i), (29, .slice a1 (List.length a) c), (30, I (ln a)), (31, I (wr ((ln a) - 1)))] 20 rfl rfl ?_
    refine LP_call 20 rfl rfl rfl cal_76 rfl (spec_l1In_w _ _ _ _ H wx26 ) ?_
    rintro _ wx39 ⟨r38, H, rfl, x40⟩
    refine LP_ev ok 21 [(33, .bool (!r38)), (34, .bool (!r38))] 23 rfl rfl ?_
    refine LP_end _ rfl ?_
    try refine W_forget [(0, .slice a1 (List.length a) c), (1, .slice a6 (List.length b) c7), (2, I i), (6, .pointer (some ⟨b8, 0, none⟩)), (34, .bool (!r38))] ⟨rfl, rfl, rfl, rfl, rfl, trivial⟩ fun ρ => ?_
    have X41 := ((((X.stepx x).stepx x19).stepx x27).stepx x40)
    have ex42 := (((ex17.ext x19).ext x27).ext x40)
    have ex43 := ((ex25.ext x27).ext x40)
    have ex44 := (((ex9.ext x19).ext x27).ext x40)
    exact ⟨!r38, H, _, env_eq ⟨rfl, rfl, rfl, rfl, rfl, trivial⟩, X41, ex42, ex43, ex44⟩
  rintro x10 _ wx11 ⟨H, ρ, rfl, X15, ex12, ex13, ex14⟩
  subst hk
  refine W_cond (x10) rfl (fun hc45 => ?_) (fun hc45 => ?_)
  · have H := H.1 hc45
    refine W_seq ?_
    refine W_region ?_
    refine LP_ev ok 0 [(35, .agg #[I 0, I 0])] 1 rfl rfl ?_
    refine LP_stbox 1 (vs := [I 0, I 0]) (cs' := [I 0, I 0]) rfl rfl rfl ti_34 rfl rfl rfl rfl rfl ex14 rfl rfl fun wx46 ex47 y => ?_
    refine LP_ev ok 2 [(7, .bool false)] 3 rfl rfl ?_
    refine LP_end _ rfl ?_
    refine W_ret ?_
    have f48 := f.mono X.size
    have X49 := (X15.step y (f48.dom _))
    exact ⟨_, Ret_of [.agg #[I 0, I 0], .bool false] ⟨⟨_, rfl, rfl, ld_res ti_34 ag_34 (fun h => by cases h) ex47 rfl rfl⟩, ⟨rfl, rfl⟩, trivial⟩, _, _, H, rfl, X49.ext⟩
  have H := H.2 hc45
  refine W_skip ?_
  refine W_seq ?_
  obtain ⟨x50, hi, hx51, H⟩ := H
  obtain ⟨a52, cs, hx54, r53, d⟩ := run_indexAt Try.underlying22 ti_3 r .i64 _ x50 hi hx51
  obtain ⟨vx55, hx57, r56⟩ := run_loadAt ti_3 ag_3 r53 d
  obtain rfl := r56.int
  obtain ⟨r58, Hd, H⟩ := H
  obtain ⟨r59, r60, Hd61, H⟩ := H
  refine W_anyL 12 [[], [], [0, 1], [0, 1, 2], [], [4], [0, 1, 2, 3, 4, 5], [0, 1, 2, 3, 4, 5, 6], [0, 1, 2, 3, 4, 5, 6, 7], [0, 1, 2, 3, 4, 5, 6, 7], [], [0, 1, 2, 3, 4, 5, 6, 7, 8, 10], [0, 1, 2, 3, 4, 5, 6, 7, 8, 9, 10, 11]] [[(0, none)], [(2, none)], [(37, some 0), (38, some 1)], [(39, some 2)], [(0, none)], [(41, some 4)], [(40, some 3), (42, some 5)], [(43, some 6)], [(36, some 7)], [(36, some 7)], [], [(8, some 10), (44, some 8)]] [(1, none), (2, none), (6, none), (8, some 10), (45, some 9)] 34 [I 0, I 0] [I r59.Num, I r59.Den] [.slice a1 (List.length a) c, I i, .pointer (some a52), I x50, .slice a1 (List.length a) c, I r58, .tuple #[.agg #[I r59.Num, I r59.Den], .bool r60], .tuple #[.agg #[I r59.Num, I r59.Den], .bool r60], .agg #[I r59.Num, I r59.Den], .bool r60, undef, undef] (some 10) (some 11) mix (by kernel_rfl) (fun _ h => by cases h; exact ⟨_, rfl, by decide, by decide, by decide⟩) (fun _ h => by cases h; decide)
    ⟨K_ev ok [(0, .slice a1 (List.length a) c)] (.slice a1 (List.length a) c) (by decide) (by decide) (fun _ _ h => h) rfl (fun _ => rfl),
      K_ev ok [(2, I i)] (I i) (by decide) (by decide) (fun _ _ h => h) rfl (fun _ => rfl),
      K_run [(37, .slice a1 (List.length a) c), (38, I i)] (.pointer (some a52)) (by decide) (by decide) (fun _ _ h => h) rfl (fun _ _ _ => ex_index rfl rfl rfl (hx54 _)),
      K_run [(39, .pointer (some a52))] (I x50) (by decide) (by decide) (fun _ _ h => h) rfl (fun _ w x => ex_load rfl rfl (hx57 w (ex12.ext x))),
      K_ev ok [(0, .slice a1 (List.length a) c)] (.slice a1 (List.length a) c) (by decide) (by decide) (fun _ _ h => h) rfl (fun _ => rfl),
      K_call [(41, .slice a1 (List.length a) c)] (I r58) (by decide) (by decide) (fun _ _ h => h) rfl rfl cal_91 (fun _ => rfl) (fun w x => (spec_tSum_w _ _ Hd w r (ex12.ext x)).mono (fun _ _ h => by obtain ⟨_, rfl, rfl, x⟩ := h; exact ⟨rfl, x⟩)),
      K_call [(40, I x50), (42, I r58)] (.tuple #[.agg #[I r59.Num, I r59.Den], .bool r60]) (by decide) (by decide) (fun _ _ h => h) rfl rfl cal_90 (fun _ => rfl) (fun w x => (spec_fMake_w _ _ _ Hd61 w ).mono (fun _ _ h => by obtain ⟨_, _, ⟨rfl, rfl⟩, rfl, x⟩ := h; exact ⟨rfl, x⟩)),
      K_ev ok [(43, .tuple #[.agg #[I r59.Num, I r59.Den], .bool r60])] (.tuple #[.agg #[I r59.Num, I r59.Den], .bool r60]) (by decide) (by decide) (fun _ _ h => h) rfl (fun _ => rfl),
      K_ev ok [(36, .tuple #[.agg #[I r59.Num, I r59.Den], .bool r60])] (.agg #[I r59.Num, I r59.Den]) (by decide) (by decide) (fun _ _ h => h) rfl (fun _ => rfl),
      K_ev ok [(36, .tuple #[.agg #[I r59.Num, I r59.Den], .bool r60])] (.bool r60) (by decide) (by decide) (fun _ _ h => h) rfl (fun _ => rfl),
      K_alloc rfl (by decide) rfl rfl ti_34 rfl,
      K_store (off := 0) (fun b => [(8, .pointer (some ⟨b, 0, none⟩)), (44, .agg #[I r59.Num, I r59.Den])]) (by decide) rfl rfl (fun _ _ h => h) rfl ti_34 (fun _ _ => rfl) (fun _ _ => rfl) rfl rfl rfl rfl rfl, trivial⟩
    (fun b62 ρ wx63 x64 hn hA => ?_)
  obtain ⟨hb, hs, hs65⟩ := hA rfl
  have ex66 := hs rfl
  have f67 : Fresh wx11.heap.size (bx b62 34 [I r59.Num, I r59.Den]) := single_fresh hb
  refine LP_forget [(1, .slice a6 (List.length b) c7), (2, I i), (6, .pointer (some ⟨b8, 0, none⟩)), (8, .pointer (some ⟨b62, 0, none⟩)), (45, .bool r60)] (by exact hn) fun ρ => ?_
  refine LP_ev ok 12 [(9, .bool r60)] 13 rfl rfl ?_
  refine LP_end _ rfl ?_
  refine W_seq ?_
  obtain ⟨x68, hi69, hx70, H⟩ := H
  obtain ⟨a71, cs72, hx75, r73, d74⟩ := run_indexAt Try.underlying22 ti_3 r4 .i64 _ x68 hi69 hx70
  have ex76 := (ex13.ext x64)
  obtain ⟨vx77, hx79, r78⟩ := run_loadAt ti_3 ag_3 r73 d74
  obtain rfl := r78.int
  obtain ⟨r80, Hd81, H⟩ := H
  obtain ⟨r82, r83, Hd84, H⟩ := H
  refine W_anyL 12 [[], [], [0, 1], [0, 1, 2], [], [4], [0, 1, 2, 3, 4, 5], [0, 1, 2, 3, 4, 5, 6], [0, 1, 2, 3, 4, 5, 6, 7], [0, 1, 2, 3, 4, 5, 6, 7], [], [0, 1, 2, 3, 4, 5, 6, 7, 8, 10], [0, 1, 2, 3, 4, 5, 6, 7, 8, 9, 10, 11]] [[(1, none)], [(2, none)], [(47, some 0), (48, some 1)], [(49, some 2)], [(1, none)], [(51, some 4)], [(50, some 3), (52, some 5)], [(53, some 6)], [(46, some 7)], [(46, some 7)], [], [(10, some 10), (54, some 8)]] [(6, none), (8, none), (9, none), (10, some 10), (55, some 9)] 34 [I 0, I 0] [I r82.Num, I r82.Den] [.slice a6 (List.length b) c7, I i, .pointer (some a71), I x68, .slice a6 (List.length b) c7, I r80, .tuple #[.agg #[I r82.Num, I r82.Den], .bool r83], .tuple #[.agg #[I r82.Num, I r82.Den], .bool r83], .agg #[I r82.Num, I r82.Den], .bool r83, undef, undef] (some 10) (some 11) mix (by kernel_rfl) (fun _ h => by cases h; exact ⟨_, rfl, by decide, by decide, by decide⟩) (fun _ h => by cases h; decide)
    ⟨K_ev ok [(1, .slice a6 (List.length b) c7)] (.slice a6 (List.length b) c7) (by decide) (by decide) (fun _ _ h => h) rfl (fun _ => rfl),
      K_ev ok [(2, I i)] (I i) (by decide) (by decide) (fun _ _ h => h) rfl (fun _ => rfl),
      K_run [(47, .slice a6 (List.length b) c7), (48, I i)] (.pointer (some a71)) (by decide) (by decide) (fun _ _ h => h) rfl (fun _ _ _ => ex_index rfl rfl rfl (hx75 _)),
      K_run [(49, .pointer (some a71))] (I x68) (by decide) (by decide) (fun _ _ h => h) rfl (fun _ w x => ex_load rfl rfl (hx79 w (ex76.ext x))),
      K_ev ok [(1, .slice a6 (List.length b) c7)] (.slice a6 (List.length b) c7) (by decide) (by decide) (fun _ _ h => h) rfl (fun _ => rfl),
      K_call [(51, .slice a6 (List.length b) c7)] (I r80) (by decide) (by decide) (fun _ _ h => h) rfl rfl cal_91 (fun _ => rfl) (fun w x => (spec_tSum_w _ _ Hd81 w r4 (ex76.ext x)).mono (fun _ _ h => by obtain ⟨_, rfl, rfl, x⟩ := h; exact ⟨rfl, x⟩)),
      K_call [(50, I x68), (52, I r80)] (.tuple #[.agg #[I r82.Num, I r82.Den], .bool r83]) (by decide) (by decide) (fun _ _ h => h) rfl rfl cal_90 (fun _ => rfl) (fun w x => (spec_fMake_w _ _ _ Hd84 w ).mono (fun _ _ h => by obtain ⟨_, _, ⟨rfl, rfl⟩, rfl, x⟩ := h; exact ⟨rfl, x⟩)),
      K_ev ok [(53, .tuple #[.agg #[I r82.Num, I r82.Den], .bool r83])] (.tuple #[.agg #[I r82.Num, I r82.Den], .bool r83]) (by decide) (by decide) (fun _ _ h => h) rfl (fun _ => rfl),
      K_ev ok [(46, .tuple #[.agg #[I r82.Num, I r82.Den], .bool r83])] (.agg #[I r82.Num, I r82.Den]) (by decide) (by decide) (fun _ _ h => h) rfl (fun _ => rfl),
      K_ev ok [(46, .tuple #[.agg #[I r82.Num, I r82.Den], .bool r83])] (.bool r83) (by decide) (by decide) (fun _ _ h => h) rfl (fun _ => rfl),
      K_alloc rfl (by decide) rfl rfl ti_34 rfl,
      K_store (off := 0) (fun b => [(10, .pointer (some ⟨b, 0, none⟩)), (54, .agg #[I r82.Num, I r82.Den])]) (by decide) rfl rfl (fun _ _ h => h) rfl ti_34 (fun _ _ => rfl) (fun _ _ => rfl) rfl rfl rfl rfl rfl, trivial⟩
    (fun b85 ρ wx86 x87 hn88 hA89 => ?_)
  obtain ⟨hb90, hs91, hs92⟩ := hA89 rfl
  have ex93 := hs91 rfl
  have f94 : Fresh wx63.heap.size (bx b85 34 [I r82.Num, I r82.Den]) := single_fresh hb90
  refine LP_forget [(6, .pointer (some ⟨b8, 0, none⟩)), (8, .pointer (some ⟨b62, 0, none⟩)), (9, .bool r60), (10, .pointer (some ⟨b85, 0, none⟩)), (55, .bool r83)] (by exact hn88) fun ρ => ?_
  refine LP_ev ok 12 [(11, .bool r83)] 13 rfl rfl ?_
  refine LP_end _ rfl ?_
  refine W_seq ?_
  obtain ⟨k97, hk98, H⟩ := jn_elim H
  refine W_join2 (S := Bool) (fun s ρ' w' => k97 s ∧ ∃ (ρ : Env), ρ' = setAll [(6, .pointer (some ⟨b8, 0, none⟩)), (8, .pointer (some ⟨b62, 0, none⟩)), (10, .pointer (some ⟨b85, 0, none⟩)), (61, .bool s)] ρ ∧ wx86 = w') ?_ ?_
  · refine W_region ?_
    refine LP_ev ok 0 [(56, .bool r60), (57, .bool (!r60)), (58, .bool (!r60))] 3 rfl rfl ?_
    refine LP_split 58 (!r60) rfl (fun hc99 => ?_) (fun hc99 => ?_)
    · have H := H.1 hc99
      refine LP_ev ok 3 [(59, undef), (60, undef), (61, .bool true)] 6 rfl rfl ?_
      refine LP_end _ rfl ?_
      exact ⟨true, H, _, env_eq ⟨rfl, rfl, rfl, rfl, trivial⟩, rfl⟩
    have H := H.2 hc99
    refine LP_ev ok 3 [(59, .bool r83), (60, .bool (!r83)), (61, .bool (!r83))] 6 rfl rfl ?_
    refine LP_end _ rfl ?_
    exact ⟨!r83, H, _, env_eq ⟨rfl, rfl, rfl, rfl, trivial⟩, rfl⟩
  rintro x95 _ _ ⟨H, ρ, rfl, rfl⟩
  subst hk98
  refine W_cond (x95) rfl (fun hc100 => ?_) (fun hc100 => ?_)
  · have H := H.1 hc100
    refine W_seq ?_
    refine W_region ?_
    refine LP_ev ok 0 [(62, .agg #[I 0, I 0])] 1 rfl rfl ?_
    have ex104 := ((ex14.ext x64).ext x87)
    refine LP_stbox 1 (vs := [I 0, I 0]) (cs' := [I 0, I 0]) rfl rfl rfl ti_34 rfl rfl rfl rfl rfl ex104 rfl rfl fun wx101 ex102 y103 => ?_
    refine LP_ev ok 2 [(7, .bool false)] 3 rfl rfl ?_
    refine LP_end _ rfl ?_
    refine W_ret ?_
    have f105 := f.mono X.size
    have X106 := (((X15.stepx x64).stepx x87).step y103 (f105.dom _))
    exact ⟨_, Ret_of [.agg #[I 0, I 0], .bool false] ⟨⟨_, rfl, rfl, ld_res ti_34 ag_34 (fun h => by cases h) ex102 rfl rfl⟩, ⟨rfl, rfl⟩, trivial⟩, _, _, H, rfl, X106.ext⟩
  have H := H.2 hc100
  refine W_skip ?_
  refine W_seq ?_
  refine W_region ?_
  have ex107 := (ex66.ext x87)
  refine LP_ldbox 0 (v := .agg #[I r59.Num, I r59.Den]) rfl rfl rfl ti_34 ag_34 (fun h => by cases h) rfl ex107 rfl rfl ?_
  refine LP_ldbox 1 (v := .agg #[I r82.Num, I r82.Den]) rfl rfl rfl ti_34 ag_34 (fun h => by cases h) rfl ex93 rfl rfl ?_
  refine LP_call 2 rfl rfl rfl cal_107 rfl (spec_fDiv_w _ _ _ H wx86 ) ?_
  rintro _ wx110 ⟨r108, r109, H, rfl, x111⟩
  refine LP_ev ok 3 [(66, .agg #[I r108.Num, I r108.Den]), (67, .bool r109)] 5 rfl rfl ?_
  have ex115 := (((ex14.ext x64).ext x87).ext x111)
  refine LP_stbox 5 (vs := [I r108.Num, I r108.Den]) (cs' := [I r108.Num, I r108.Den]) rfl rfl rfl ti_34 rfl rfl rfl rfl rfl ex115 rfl rfl fun wx112 ex113 y114 => ?_
  refine LP_ev ok 6 [(7, .bool r109)] 7 rfl rfl ?_
  refine LP_end _ rfl ?_
  refine W_ret ?_
  have f116 := f.mono X.size
  have X117 := ((((X15.stepx x64).stepx x87).stepx x111).step y114 (f116.dom _))
  exact ⟨_, Ret_of [.agg #[I r108.Num, I r108.Den], .bool r109] ⟨⟨_, rfl, rfl, ld_res ti_34 ag_34 (fun h => by cases h) ex113 rfl rfl⟩, ⟨rfl, rfl⟩, trivial⟩, _, _, H, rfl, X117.ext⟩

set_option maxRecDepth 8000 in
set_option maxHeartbeats 4000000 in
theorem impl_IsFrac_w (f : Frac) (Q : Bool → Prop) (H : impl_IsFrac f Q) (w : World)  :
    CallsTo Try.prog 101 #[.agg #[I f.Num, I f.Den]] w fun v w' => ∃ r0, Q r0 ∧ v = .bool r0 ∧ Ext w w' := by
  refine enter (args := [.agg #[I f.Num, I f.Den]]) 29 Try.func101 rfl rfl rfl ?_
  refine W_forget [(0, .agg #[I f.Num, I f.Den])] ⟨rfl, trivial⟩ fun ρ => ?_
  have X := But.refl emp w
  refine W_seq ?_
  refine W_region ?_
  refine LP_box 0 (cs := [I f.Num, I f.Den]) rfl rfl rfl rfl rfl fun b wx x ex f1 => ?_
  refine LP_ev ok 1 [(2, .bool false)] 2 rfl rfl ?_
  refine LP_end _ rfl ?_
  obtain ⟨k, hk, H⟩ := jn_elim H
  refine W_join2 (S := Bool) (fun s ρ' w' => k s ∧ ∃ (ρ : Env), ρ' = setAll [(2, .bool s)] ρ ∧ But emp w w') ?_ ?_
  · refine W_region ?_
    refine LP_ev ok 0 [(3, .pointer (some ⟨b, 1, none⟩))] 1 rfl rfl ?_
    refine LP_ldbox 1 (v := I f.Den) rfl rfl rfl ti_3 ag_3 (fun _ => rfl) rfl ex rfl rfl ?_
    refine LP_ev ok 2 [(5, .bool (decide (f.Den ≥ 1))), (6, .bool (decide (f.Den ≥ 1)))] 4 rfl rfl ?_
    refine LP_split 6 (decide (f.Den ≥ 1)) rfl (fun hc => ?_) (fun hc => ?_)
    · have H := H.1 hc
      refine LP_ev ok 4 [(7, .pointer (some ⟨b, 1, none⟩))] 5 rfl rfl ?_
      refine LP_ldbox 5 (v := I f.Den) rfl rfl rfl ti_3 ag_3 (fun _ => rfl) rfl ex rfl rfl ?_
      refine LP_ev ok 6 [(9, .bool (decide (f.Den ≤ 1000000000))), (10, .bool (decide (f.Den ≤ 1000000000))), (11, .bool (decide (f.Den ≤ 1000000000)))] 9 rfl rfl ?_
      refine LP_split 11 (decide (f.Den ≤ 1000000000)) rfl (fun hc5 => ?_) (fun hc5 => ?_)
      · have H := H.1 hc5
        refine LP_ev ok 9 [(12, .pointer (some ⟨b, 0, none⟩))] 10 rfl rfl ?_
        refine LP_ldbox 10 (v := I f.Num) rfl rfl rfl ti_3 ag_3 (fun _ => rfl) rfl ex rfl rfl ?_
        refine LP_ev ok 11 [(14, .bool (decide (f.Num ≥ ((-1000000000))))), (15, .bool (decide (f.Num ≥ ((-1000000000))))), (16, .bool (decide (f.Num ≥ ((-1000000000)))))] 14 rfl rfl ?_
        refine LP_split 16 (decide (f.Num ≥ ((-1000000000)))) rfl (fun hc6 => ?_) (fun hc6 => ?_)
        · have H := H.1 hc6
          refine LP_ev ok 14 [(17, .pointer (some ⟨b, 0, none⟩))] 15 rfl rfl ?_
          refine LP_ldbox 15 (v := I f.Num) rfl rfl rfl ti_3 ag_3 (fun _ => rfl) rfl ex rfl rfl ?_
          refine LP_ev ok 16 [(19, .bool (decide (f.Num ≤ 1000000000))), (20, .bool (decide (f.Num ≤ 1000000000))), (21, .bool (decide (f.Num ≤ 1000000000)))] 19 rfl rfl ?_
          refine LP_split 21 (decide (f.Num ≤ 1000000000)) rfl (fun hc7 => ?_) (fun hc7 => ?_)
          · have H := H.1 hc7
            refine LP_ev ok 19 [(22, .pointer (some ⟨b, 0, none⟩))] 20 rfl rfl ?_
            refine LP_ldbox 20 (v := I f.Num) rfl rfl rfl ti_3 ag_3 (fun _ => rfl) rfl ex rfl rfl ?_
            refine LP_ev ok 21 [(24, .pointer (some ⟨b, 1, none⟩))] 22 rfl rfl ?_
            refine LP_ldbox 22 (v := I f.Den) rfl rfl rfl ti_3 ag_3 (fun _ => rfl) rfl ex rfl rfl ?_
            refine LP_call 23 rfl rfl rfl cal_146 rfl (impl_gcdOf_w _ _ _ H wx ) ?_
            rintro _ wx8 ⟨r, H, rfl, x9⟩
            refine LP_ev ok 24 [(27, .bool (r == 1)), (28, .bool (r == 1)), (2, .bool (r == 1))] 27 rfl rfl ?_
            refine LP_end _ rfl ?_
            try refine W_forget [(2, .bool (r == 1))] ⟨rfl, trivial⟩ fun ρ => ?_
            have X10 := ((X.stepx x).stepx x9)
            exact ⟨r == 1, H, _, env_eq ⟨rfl, trivial⟩, X10⟩
          have H := H.2 hc7
          refine LP_ev ok 19 [(22, undef), (23, undef), (24, undef), (25, undef), (26, undef), (27, undef), (28, .bool false), (2, .bool false)] 27 rfl rfl ?_
          refine LP_end _ rfl ?_
          try refine W_forget [(2, .bool false)] ⟨rfl, trivial⟩ fun ρ => ?_
          have X11 := (X.stepx x)
          exact ⟨false, H, _, env_eq ⟨rfl, trivial⟩, X11⟩
        have H := H.2 hc6
        refine LP_ev ok 14 [(17, undef), (18, undef), (19, undef), (20, .bool false), (21, .bool false), (22, undef), (23, undef), (24, undef), (25, undef), (26, undef), (27, undef), (28, .bool false), (2, .bool false)] 27 rfl rfl ?_
        refine LP_end _ rfl ?_
        try refine W_forget [(2, .bool false)] ⟨rfl, trivial⟩ fun ρ => ?_
        have X12 := (X.stepx x)
        exact ⟨false, H, _, env_eq ⟨rfl, trivial⟩, X12⟩
      have H := H.2 hc5
      refine LP_ev ok 9 [(12, undef), (13, undef), (14, undef), (15, .bool false), (16, .bool false), (17, undef), (18, undef), (19, undef), (20, .bool false), (21, .bool false), (22, undef), (23, undef), (24, undef), (25, undef), (26, undef), (27, undef), (28, .bool false), (2, .bool false)] 27 rfl rfl ?_
      refine LP_end _ rfl ?_
      try refine W_forget [(2, .bool false)] ⟨rfl, trivial⟩ fun ρ => ?_
      have X13 := (X.stepx x)
      exact ⟨false, H, _, env_eq ⟨rfl, trivial⟩, X13⟩
    have H := H.2 hc
    refine LP_ev ok 4 [(7, undef), (8, undef), (9, undef), (10, .bool false), (11, .bool false), (12, undef), (13, undef), (14, undef), (15, .bool false), (16, .bool false), (17, undef), (18, undef), (19, undef), (20, .bool false), (21, .bool false), (22, undef), (23, undef), (24, undef), (25, undef), (26, undef), (27, undef), (28, .bool false), (2, .bool false)] 27 rfl rfl ?_
    refine LP_end _ rfl ?_
    try refine W_forget [(2, .bool false)] ⟨rfl, trivial⟩ fun ρ => ?_
    have X14 := (X.stepx x)
    exact ⟨false, H, _, env_eq ⟨rfl, trivial⟩, X14⟩
  rintro x2 _ wx3 ⟨H, ρ, rfl, X4⟩
  subst hk
  refine W_ret ?_
  exact ⟨_, Ret_of [.bool x2] ⟨⟨rfl, rfl⟩, trivial⟩, _, H, rfl, X4.ext⟩

set_option maxRecDepth 8000 in
set_option maxHeartbeats 4000000 in
theorem impl_DivFrac_w (a : Frac) (b : Frac) (Q : Frac → Bool → Prop) (H : impl_DivFrac a b Q) (w : World)  :
    CallsTo Try.prog 108 #[.agg #[I a.Num, I a.Den], .agg #[I b.Num, I b.Den]] w fun v w' => ∃ r0 r1, Q r0 r1 ∧ v = .tuple #[.agg #[I r0.Num, I r0.Den], .bool r1] ∧ Ext w w' := by
  refine enter (args := [.agg #[I a.Num, I a.Den], .agg #[I b.Num, I b.Den]]) 33 Try.func108 rfl rfl rfl ?_
  refine W_forget [(0, .agg #[I a.Num, I a.Den]), (1, .agg #[I b.Num, I b.Den])] ⟨rfl, rfl, trivial⟩ fun ρ => ?_
  have X := But.refl emp w
  refine W_seq ?_
  refine W_region ?_
  refine LP_box 0 (cs := [I a.Num, I a.Den]) rfl rfl rfl rfl rfl fun b1 wx x ex f => ?_
  refine LP_box 1 (cs := [I b.Num, I b.Den]) rfl rfl rfl rfl rfl fun b2 wx3 x4 ex5 f6 => ?_
  refine LP_alloc 2 rfl rfl rfl ti_34 rfl fun b7 wx8 x9 ex10 f11 => ?_
  refine LP_ev ok 3 [(5, .bool false)] 4 rfl rfl ?_
  refine LP_end _ rfl ?_
  refine W_seq ?_
  obtain ⟨k, hk, H⟩ := jn_elim H
  refine W_join2 (S := Bool) (fun s ρ' w' => k s ∧ ∃ (ρ : Env), ρ' = setAll [(2, .pointer (some ⟨b1, 0, none⟩)), (3, .pointer (some ⟨b2, 0, none⟩)), (4, .pointer (some ⟨b7, 0, none⟩)), (18, .bool s)] ρ ∧ But emp w w' ∧ Sub (bx b1 34 [I a.Num, I a.Den]) w' ∧ Sub (bx b2 34 [I b.Num, I b.Den]) w' ∧ Sub (bx b7 34 [I 0, I 0]) w') ?_ ?_
  · refine W_region ?_
    have ex18 := ((ex.ext x4).ext x9)
    refine LP_ldbox 0 (v := .agg #[I a.Num, I a.Den]) rfl rfl rfl ti_34 ag_34 (fun h => by cases h) rfl ex18 rfl rfl ?_
    refine LP_call 1 rfl rfl rfl cal_101 rfl (impl_IsFrac_w _ _ H wx8 ) ?_
    rintro _ wx19 ⟨r, H, rfl, x20⟩
    refine LP_ev ok 2 [(8, .bool (!r)), (9, .bool (!r))] 4 rfl rfl ?_
    refine LP_split 9 (!r) rfl (fun hc => ?_) (fun hc => ?_)
    · have H := H.1 hc
      refine LP_ev ok 4 [(10, undef), (11, undef), (12, undef), (13, .bool true), (14, .bool true), (15, undef), (16, undef), (17, undef), (18, .bool true)] 13 rfl rfl ?_
      refine LP_end _ rfl ?_
      have X21 := ((((X.stepx x).stepx x4).stepx x9).stepx x20)
      have ex22 := (ex18.ext x20)
      have ex23 := ((ex5.ext x9).ext x20)
      have ex24 := (ex10.ext x20)
      exact ⟨true, H, _, env_eq ⟨rfl, rfl, rfl, rfl, trivial⟩, X21, ex22, ex23, ex24⟩
    have H := H.2 hc
    have ex25 := ((ex5.ext x9).ext x20)
    refine LP_ldbox 4 (v := .agg #[I b.Num, I b.Den]) rfl rfl rfl ti_34 ag_34 (fun h => by cases h) rfl ex25 rfl rfl ?_
    refine LP_call 5 rfl rfl rfl cal_101 rfl (impl_IsFrac_w _ _ H wx19 ) ?_
    rintro _ wx27 ⟨r26, H, rfl, x28⟩
    refine LP_ev ok 6 [(12, .bool (!r26)), (13, .bool (!r26)), (14, .bool (!r26))] 9 rfl rfl ?_
    refine LP_split 14 (!r26) rfl (fun hc29 => ?_) (fun hc29 => ?_)
    · have H := H.1 hc29
      refine LP_ev ok 9 [(15, undef), (16, undef), (17, undef), (18, .bool true)] 13 rfl rfl ?_
      refine LP_end _ rfl ?_
      have X30 := (((((X.stepx x).stepx x4).stepx x9).stepx x20).stepx x28)
      have ex31 := ((ex18.ext x20).ext x28)
      have ex32 := (ex25.ext x28)
      have ex33 := ((ex10.ext x20).ext x28)
      exact ⟨true, H, _, env_eq ⟨rfl, rfl, rfl, rfl, trivial⟩, X30, ex31, ex32, ex33⟩
    have H := H.2 hc29
    refine LP_ev ok 9 [(15, .pointer (some ⟨b2, 0, none⟩))] 10 rfl rfl ?_
    have ex34 := (ex25.ext x28)
    refine LP_ldbox 10 (v := I b.Num) rfl rfl rfl ti_3 ag_3 (fun _ => rfl) rfl ex34 rfl rfl ?_
    refine LP_ev ok 11 [(17, .bool (b.Num == 0)), (18, .bool (b.Num == 0))] 13 rfl rfl ?_
    refine LP_end _ rfl ?_
    have X35 := (((((X.stepx x).stepx x4).stepx x9).stepx x20).stepx x28)
    have ex36 := ((ex18.ext x20).ext x28)
    have ex37 := ((ex10.ext x20).ext x28)
    exact ⟨b.Num == 0, H, _, env_eq ⟨rfl, rfl, rfl, rfl, trivial⟩, X35, ex36, ex34, ex37⟩
  rintro x12 _ wx13 ⟨H, ρ, rfl, X17, ex14, ex15, ex16⟩
  subst hk
  refine W_cond (x12) rfl (fun hc38 => ?_) (fun hc38 => ?_)
  · have H := H.1 hc38
    refine W_seq ?_
    refine W_region ?_
    refine LP_ev ok 0 [(19, .agg #[I 0, I 0])] 1 rfl rfl ?_
    refine LP_stbox 1 (vs := [I 0, I 0]) (cs' := [I 0, I 0]) rfl rfl rfl ti_34 rfl rfl rfl rfl rfl ex16 rfl rfl fun wx39 ex40 y => ?_
    refine LP_ev ok 2 [(5, .bool false)] 3 rfl rfl ?_
    refine LP_end _ rfl ?_
    refine W_ret ?_
    have X42 := ((X.stepx x).stepx x4)
    have f41 := f11.mono X42.size
    have X43 := (X17.step y (f41.dom _))
    exact ⟨_, Ret_of [.agg #[I 0, I 0], .bool false] ⟨⟨_, rfl, rfl, ld_res ti_34 ag_34 (fun h => by cases h) ex40 rfl rfl⟩, ⟨rfl, rfl⟩, trivial⟩, _, _, H, rfl, X43.ext⟩
  have H := H.2 hc38
  refine W_skip ?_
  refine W_seq ?_
  refine W_region ?_
  refine LP_ev ok 0 [(20, .pointer (some ⟨b1, 0, none⟩))] 1 rfl rfl ?_
  refine LP_ldbox 1 (v := I a.Num) rfl rfl rfl ti_3 ag_3 (fun _ => rfl) rfl ex14 rfl rfl ?_
  refine LP_ev ok 2 [(22, .pointer (some ⟨b2, 1, none⟩))] 3 rfl rfl ?_
  refine LP_ldbox 3 (v := I b.Den) rfl rfl rfl ti_3 ag_3 (fun _ => rfl) rfl ex15 rfl rfl ?_
  refine LP_ev ok 4 [(24, I (wr (a.Num * b.Den))), (25, .pointer (some ⟨b1, 1, none⟩))] 6 rfl rfl ?_
  refine LP_ldbox 6 (v := I a.Den) rfl rfl rfl ti_3 ag_3 (fun _ => rfl) rfl ex14 rfl rfl ?_
  refine LP_ev ok 7 [(27, .pointer (some ⟨b2, 0, none⟩))] 8 rfl rfl ?_
  refine LP_ldbox 8 (v := I b.Num) rfl rfl rfl ti_3 ag_3 (fun _ => rfl) rfl ex15 rfl rfl ?_
  refine LP_ev ok 9 [(29, I (wr (a.Den * b.Num)))] 10 rfl rfl ?_
  refine LP_call 10 rfl rfl rfl cal_93 rfl (impl_reduced_w _ _ _ H wx13 ) ?_
  rintro _ wx46 ⟨r44, r45, H, rfl, x47⟩
  refine LP_ev ok 11 [(31, .agg #[I r44.Num, I r44.Den]), (32, .bool r45)] 13 rfl rfl ?_
  have ex51 := (ex16.ext x47)
  refine LP_stbox 13 (vs := [I r44.Num, I r44.Den]) (cs' := [I r44.Num, I r44.Den]) rfl rfl rfl ti_34 rfl rfl rfl rfl rfl ex51 rfl rfl fun wx48 ex49 y50 => ?_
  refine LP_ev ok 14 [(5, .bool r45)] 15 rfl rfl ?_
  refine LP_end _ rfl ?_
  refine W_ret ?_
  have X53 := ((X.stepx x).stepx x4)
  have f52 := f11.mono X53.size
  have X54 := ((X17.stepx x47).step y50 (f52.dom _))
  exact ⟨_, Ret_of [.agg #[I r44.Num, I r44.Den], .bool r45] ⟨⟨_, rfl, rfl, ld_res ti_34 ag_34 (fun h => by cases h) ex49 rfl rfl⟩, ⟨rfl, rfl⟩, trivial⟩, _, _, H, rfl, X54.ext⟩

set_option maxRecDepth 8000 in
set_option maxHeartbeats 4000000 in
theorem impl_QuotientOf_w (a : List Int) (b : List Int) (i : Int) (Q : Frac → Bool → Prop) (H : impl_QuotientOf a b i Q) (w : World) {vx : Value} {hx : PH} (r : RS hx vx a) (ex : Sub hx w) {vx2 : Value} {hx3 : PH} (r4 : RS hx3 vx2 b) (ex5 : Sub hx3 w) :
    CallsTo Try.prog 46 #[vx, vx2, I i] w fun v w' => ∃ r0 r1, Q r0 r1 ∧ v = .tuple #[.agg #[I r0.Num, I r0.Den], .bool r1] ∧ Ext w w' := by
  obtain ⟨a1, c, rfl⟩ := r.shape
  obtain ⟨a6, c7, rfl⟩ := r4.shape
  refine enter (args := [.slice a1 (List.length a) c, .slice a6 (List.length b) c7, I i]) 75 Try.func46 rfl rfl rfl ?_
  refine W_forget [(0, .slice a1 (List.length a) c), (1, .slice a6 (List.length b) c7), (2, I i)] ⟨rfl, rfl, rfl, trivial⟩ fun ρ => ?_
  have X := But.refl emp w
  refine W_seq ?_
  refine W_region ?_
  refine LP_alloc 0 rfl rfl rfl ti_34 rfl fun b8 wx x ex9 f => ?_
  refine LP_ev ok 1 [(7, .bool false)] 2 rfl rfl ?_
  refine LP_end _ rfl ?_
  refine W_seq ?_
  obtain ⟨k, hk, H⟩ := jn_elim H
  refine W_join2 (S := Bool) (fun s ρ' w' => k s ∧ ∃ (ρ : Env), ρ' = setAll [(0, .slice a1 (List.length a) c), (1, .slice a6 (List.length b) c7), (2, I i), (6, .pointer (some ⟨b8, 0, none⟩)), (42, .bool s)] ρ ∧ But emp w w' ∧ Sub hx w' ∧ Sub hx3 w' ∧ Sub (bx b8 34 [I 0, I 0]) w') ?_ ?_
  · refine W_region ?_
    refine LP_ev ok 0 [(11, .slice a1 (List.length a) c)] 1 rfl rfl ?_
    have ex17 := (ex.ext x)
    refine LP_call 1 rfl rfl rfl cal_92 rfl (impl_areCounts_w _ _ H wx r ex17) ?_
    rintro _ wx18 ⟨r16, H, rfl, x19⟩
    refine LP_ev ok 2 [(13, .bool (!r16)), (14, .bool (!r16))] 4 rfl rfl ?_
    refine LP_split 14 (!r16) rfl (fun hc => ?_) (fun hc => ?_)
    · have H := H.1 hc
      refine LP_ev ok 4 [(15, undef), (16, undef), (17, undef), (18, .bool true), (19, .bool true), (20, undef), (21, undef), (22, undef), (23, undef), (24, undef), (25, .bool true), (26, .bool true), (27, undef), (28, undef), (29, .bool true), (30, .bool true), (31, undef), (32, undef), (33, undef), (34, undef), (35, .bool true), (36, .bool true), (37, undef), (38, undef), (39, undef), (40, undef), (41, undef), (42, .bool true)] 32 rfl rfl ?_
      refine LP_end _ rfl ?_
      try refine W_forget [(0, .slice a1 (List.length a) c), (1, .slice a6 (List.length b) c7), (2, I i), (6, .pointer (some ⟨b8, 0, none⟩)), (42, .bool true)] ⟨rfl, rfl, rfl, rfl, rfl, trivial⟩ fun ρ => ?_
      have X20 := ((X.stepx x).stepx x19)
      have ex21 := (ex17.ext x19)
      have ex22 := ((ex5.ext x).ext x19)
      have ex23 := (ex9.ext x19)
      exact ⟨true, H, _, env_eq ⟨rfl, rfl, rfl, rfl, rfl, trivial⟩, X20, ex21, ex22, ex23⟩
    have H := H.2 hc
    refine LP_ev ok 4 [(15, .slice a6 (List.length b) c7)] 5 rfl rfl ?_
    have ex25 := ((ex5.ext x).ext x19)
    refine LP_call 5 rfl rfl rfl cal_92 rfl (impl_areCounts_w _ _ H wx18 r4 ex25) ?_
    rintro _ wx26 ⟨r24, H, rfl, x27⟩
    refine LP_ev ok 6 [(17, .bool (!r24)), (18, .bool (!r24)), (19, .bool (!r24))] 9 rfl rfl ?_
    refine LP_split 19 (!r24) rfl (fun hc28 => ?_) (fun hc28 => ?_)
    · have H := H.1 hc28
      refine LP_ev ok 9 [(20, undef), (21, undef), (22, undef), (23, undef), (24, undef), (25, .bool true), (26, .bool true), (27, undef), (28, undef), (29, .bool true), (30, .bool true), (31, undef), (32, undef), (33, undef), (34, undef), (35, .bool true), (36, .bool true), (37, undef), (38, undef), (39, undef), (40, undef), (41, undef), (42, .bool true)] 32 rfl rfl ?_
      refine LP_end _ rfl ?_
      try refine W_forget [(0, .slice a1 (List.length a) c), (1, .slice a6 (List.length b) c7), (2, I i), (6, .pointer (some ⟨b8, 0, none⟩)), (42, .bool true)] ⟨rfl, rfl, rfl, rfl, rfl, trivial⟩ fun ρ => ?_
      have X29 := (((X.stepx x).stepx x19).stepx x27)
      have ex30 := ((ex17.ext x19).ext x27)
      have ex31 := (ex25.ext x27)
      have ex32 := ((ex9.ext x19).ext x27)
      exact ⟨true, H, _, env_eq ⟨rfl, rfl, rfl, rfl, rfl, trivial⟩, X29, ex30, ex31, ex32⟩
    have H := H.2 hc28
    refine LP_ev ok 9 [(20, .slice a1 (List.length a) c), (21, I (ln a)), (22, .slice a6 (List.length b) c7), (23, I (ln b)), (24, .bool ((ln a) != (ln b))), (25, .bool ((ln a) != (ln b))), (26, .bool ((ln a) != (ln b)))] 16 rfl rfl ?_
    refine LP_split 26 ((ln a) != (ln b)) rfl (fun hc33 => ?_) (fun hc33 => ?_)
    · have H := H.1 hc33
      refine LP_ev ok 16 [(27, undef), (28, undef), (29, .bool true), (30, .bool true), (31, undef), (32, undef), (33, undef), (34, undef), (35, .bool true), (36, .bool true), (37, undef), (38, undef), (39, undef), (40, undef), (41, undef), (42, .bool true)] 32 rfl rfl ?_
      refine LP_end _ rfl ?_
      try refine W_forget [(0, .slice a1 (List.length a) c), (1, .slice a6 (List.length b) c7), (2, I i), (6, .pointer (some ⟨b8, 0, none⟩)), (42, .bool true)] ⟨rfl, rfl, rfl, rfl, rfl, trivial⟩ fun ρ => ?_
      have X34 := (((X.stepx x).stepx x19).stepx x27)
      have ex35 := ((ex17.ext x19).ext x27)
      have ex36 := (ex25.ext x27)
      have ex37 := ((ex9.ext x19).ext x27)
      exact ⟨true, H, _, env_eq ⟨rfl, rfl, rfl, rfl, rfl, trivial⟩, X34, ex35, ex36, ex37⟩
    have H := H.2 hc33
    refine LP_ev ok 16 [(27, I i), (28, .bool (decide (i < 0))), (29, .bool (decide (i < 0))), (30, .bool (decide (i < 0)))] 20 rfl rfl ?_
    refine LP_split 30 (decide (i < 0)) rfl (fun hc38 => ?_) (fun hc38 => ?_)
    · have H := H.1 hc38
      refine LP_ev ok 20 [(31, undef), (32, undef), (33, undef), (34, undef), (35, .bool true), (36, .bool true), (37, undef), (38, undef), (39, undef), (40, undef), (41, undef), (42, .bool true)] 32 rfl rfl ?_
      refine LP_end _ rfl ?_
      try refine W_forget [(0, .slice a1 (List.length a) c), (1, .slice a6 (List.length b) c7), (2, I i), (6, .pointer (some ⟨b8, 0, none⟩)), (42, .bool true)] ⟨rfl, rfl, rfl, rfl, rfl, trivial⟩ fun ρ => ?_
      have X39 := (((X.stepx x).stepx x19).stepx x27)
      have ex40 := ((ex17.ext x19).ext x27)
      have ex41 := (ex25.ext x27)
      have ex42 := ((ex9.ext x19).ext x27)
      exact ⟨true, H, _, env_eq ⟨rfl, rfl, rfl, rfl, rfl, trivial⟩, X39, ex40, ex41, ex42⟩
    have H := H.2 hc38
    refine LP_ev ok 20 [(31, I i), (32, .slice a1 (List.length a) c), (33, I (ln a)), (34, .bool (decide (i ≥ (ln a)))), (35, .bool (decide (i ≥ (ln a)))), (36, .bool (decide (i ≥ (ln a))))] 26 rfl rfl ?_
    refine LP_split 36 (decide (i ≥ (ln a))) rfl (fun hc43 => ?_) (fun hc43 => ?_)
    · have H := H.1 hc43
      refine LP_ev ok 26 [(37, undef), (38, undef), (39, undef), (40, undef), (41, undef), (42, .bool true)] 32 rfl rfl ?_
      refine LP_end _ rfl ?_
      try refine W_forget [(0, .slice a1 (List.length a) c), (1, .slice a6 (List.length b) c7), (2, I i), (6, .pointer (some ⟨b8, 0, none⟩)), (42, .bool true)] ⟨rfl, rfl, rfl, rfl, rfl, trivial⟩ fun ρ => ?_
      have X44 := (((X.stepx x).stepx x19).stepx x27)
      have ex45 := ((ex17.ext x19).ext x27)
      have ex46 := (ex25.ext x27)
      have ex47 := ((ex9.ext x19).ext x27)
      exact ⟨true, H, _, env_eq ⟨rfl, rfl, rfl, rfl, rfl, trivial⟩, X44, ex45, ex46, ex47⟩
    have H := H.2 hc43
    refine LP_ev ok 26 [(37, .slice a6 (List.length b) c7), (38, I i)] 28 rfl rfl ?_
    obtain ⟨x48, hi, hx49, H⟩ := H
    refine LP_index 28 rfl rfl rfl Try.underlying22 ti_3 rfl rfl r4 hi hx49 fun a50 cs r51 d => ?_
    have ex52 := (ex25.ext x27)
    refine LP_load 29 rfl rfl rfl ti_3 ag_3 rfl r51 d ex52 fun vx53 r54 => ?_
    obtain rfl := r54.int
    refine LP_ev ok 30 [(41, .bool (x48 == 0)), (42, .bool (x48 == 0))] 32 rfl rfl ?_
    refine LP_end _ rfl ?_
    try refine W_forget [(0, .slice a1 (List.length a) c), (1, .slice a6 (List.length b) c7), (2, I i), (6, .pointer (some ⟨b8, 0, none⟩)), (42, .bool (x48 == 0))] ⟨rfl, rfl, rfl, rfl, rfl, trivial⟩ fun ρ => ?_
    have X55 := (((X.stepx x).stepx x19).stepx x27)
    have ex56 := ((ex17.ext x19).ext x27)
    have ex57 := ((ex9.ext x19).ext x27)
    exact ⟨x48 == 0, H, _, env_eq ⟨rfl, rfl, rfl, rfl, rfl, trivial⟩, X55, ex56, ex52, ex57⟩
  rintro x10 _ wx11 ⟨H, ρ, rfl, X15, ex12, ex13, ex14⟩
  subst hk
  refine W_cond (x10) rfl (fun hc58 => ?_) (fun hc58 => ?_)
  · have H := H.1 hc58
    refine W_seq ?_
    refine W_region ?_
    refine LP_ev ok 0 [(43, .agg #[I 0, I 0])] 1 rfl rfl ?_
    refine LP_stbox 1 (vs := [I 0, I 0]) (cs' := [I 0, I 0]) rfl rfl rfl ti_34 rfl rfl rfl rfl rfl ex14 rfl rfl fun wx59 ex60 y => ?_
    refine LP_ev ok 2 [(7, .bool false)] 3 rfl rfl ?_
    refine LP_end _ rfl ?_
    refine W_ret ?_
    have f61 := f.mono X.size
    have X62 := (X15.step y (f61.dom _))
    exact ⟨_, Ret_of [.agg #[I 0, I 0], .bool false] ⟨⟨_, rfl, rfl, ld_res ti_34 ag_34 (fun h => by cases h) ex60 rfl rfl⟩, ⟨rfl, rfl⟩, trivial⟩, _, _, H, rfl, X62.ext⟩
  have H := H.2 hc58
  refine W_skip ?_
  refine W_seq ?_
  obtain ⟨x63, hi64, hx65, H⟩ := H
  obtain ⟨a66, cs67, hx70, r68, d69⟩ := run_indexAt Try.underlying22 ti_3 r .i64 _ x63 hi64 hx65
  obtain ⟨vx71, hx73, r72⟩ := run_loadAt ti_3 ag_3 r68 d69
  obtain rfl := r72.int
  obtain ⟨r74, Hd, H⟩ := H
  obtain ⟨r75, r76, Hd77, H⟩ := H
  refine W_anyL 12 [[], [], [0, 1], [0, 1, 2], [], [4], [0, 1, 2, 3, 4, 5], [0, 1, 2, 3, 4, 5, 6], [0, 1, 2, 3, 4, 5, 6, 7], [0, 1, 2, 3, 4, 5, 6, 7], [], [0, 1, 2, 3, 4, 5, 6, 7, 8, 10], [0, 1, 2, 3, 4, 5, 6, 7, 8, 9, 10, 11]] [[(0, none)], [(2, none)], [(45, some 0), (46, some 1)], [(47, some 2)], [(0, none)], [(49, some 4)], [(48, some 3), (50, some 5)], [(51, some 6)], [(44, some 7)], [(44, some 7)], [], [(8, some 10), (52, some 8)]] [(1, none), (2, none), (6, none), (8, some 10), (53, some 9)] 34 [I 0, I 0] [I r75.Num, I r75.Den] [.slice a1 (List.length a) c, I i, .pointer (some a66), I x63, .slice a1 (List.length a) c, I r74, .tuple #[.agg #[I r75.Num, I r75.Den], .bool r76], .tuple #[.agg #[I r75.Num, I r75.Den], .bool r76], .agg #[I r75.Num, I r75.Den], .bool r76, undef, undef] (some 10) (some 11) mix (by kernel_rfl) (fun _ h => by cases h; exact ⟨_, rfl, by decide, by decide, by decide⟩) (fun _ h => by cases h; decide)
    ⟨K_ev ok [(0, .slice a1 (List.length a) c)] (.slice a1 (List.length a) c) (by decide) (by decide) (fun _ _ h => h) rfl (fun _ => rfl),
      K_ev ok [(2, I i)] (I i) (by decide) (by decide) (fun _ _ h => h) rfl (fun _ => rfl),
      K_run [(45, .slice a1 (List.length a) c), (46, I i)] (.pointer (some a66)) (by decide) (by decide) (fun _ _ h => h) rfl (fun _ _ _ => ex_index rfl rfl rfl (hx70 _)),
      K_run [(47, .pointer (some a66))] (I x63) (by decide) (by decide) (fun _ _ h => h) rfl (fun _ w x => ex_load rfl rfl (hx73 w (ex12.ext x))),
      K_ev ok [(0, .slice a1 (List.length a) c)] (.slice a1 (List.length a) c) (by decide) (by decide) (fun _ _ h => h) rfl (fun _ => rfl),
      K_call [(49, .slice a1 (List.length a) c)] (I r74) (by decide) (by decide) (fun _ _ h => h) rfl rfl cal_94 (fun _ => rfl) (fun w x => (impl_total_w _ _ Hd w r (ex12.ext x)).mono (fun _ _ h => by obtain ⟨_, rfl, rfl, x⟩ := h; exact ⟨rfl, x⟩)),
      K_call [(48, I x63), (50, I r74)] (.tuple #[.agg #[I r75.Num, I r75.Den], .bool r76]) (by decide) (by decide) (fun _ _ h => h) rfl rfl cal_93 (fun _ => rfl) (fun w x => (impl_reduced_w _ _ _ Hd77 w ).mono (fun _ _ h => by obtain ⟨_, _, ⟨rfl, rfl⟩, rfl, x⟩ := h; exact ⟨rfl, x⟩)),
      K_ev ok [(51, .tuple #[.agg #[I r75.Num, I r75.Den], .bool r76])] (.tuple #[.agg #[I r75.Num, I r75.Den], .bool r76]) (by decide) (by decide) (fun _ _ h => h) rfl (fun _ => rfl),
      K_ev ok [(44, .tuple #[.agg #[I r75.Num, I r75.Den], .bool r76])] (.agg #[I r75.Num, I r75.Den]) (by decide) (by decide) (fun _ _ h => h) rfl (fun _ => rfl),
      K_ev ok [(44, .tuple #[.agg #[I r75.Num, I r75.Den], .bool r76])] (.bool r76) (by decide) (by decide) (fun _ _ h => h) rfl (fun _ => rfl),
      K_alloc rfl (by decide) rfl rfl ti_34 rfl,
      K_store (off := 0) (fun b => [(8, .pointer (some ⟨b, 0, none⟩)), (52, .agg #[I r75.Num, I r75.Den])]) (by decide) rfl rfl (fun _ _ h => h) rfl ti_34 (fun _ _ => rfl) (fun _ _ => rfl) rfl rfl rfl rfl rfl, trivial⟩
    (fun b78 ρ wx79 x80 hn hA => ?_)
  obtain ⟨hb, hs, hs81⟩ := hA rfl
  have ex82 := hs rfl
  have f83 : Fresh wx11.heap.size (bx b78 34 [I r75.Num, I r75.Den]) := single_fresh hb
  refine LP_forget [(1, .slice a6 (List.length b) c7), (2, I i), (6, .pointer (some ⟨b8, 0, none⟩)), (8, .pointer (some ⟨b78, 0, none⟩)), (53, .bool r76)] (by exact hn) fun ρ => ?_
  refine LP_ev ok 12 [(9, .bool r76)] 13 rfl rfl ?_
  refine LP_end _ rfl ?_
  refine W_seq ?_
  refine W_seq ?_
  refine W_region ?_
  refine LP_ev ok 0 [(54, .bool r76), (55, .bool (!r76))] 2 rfl rfl ?_
  refine LP_end _ rfl ?_
  refine W_cond (!r76) rfl (fun hc84 => ?_) (fun hc84 => ?_)
  · have H := H.1 hc84
    refine W_seq ?_
    refine W_region ?_
    refine LP_ev ok 0 [(56, .agg #[I 0, I 0])] 1 rfl rfl ?_
    have ex88 := (ex14.ext x80)
    refine LP_stbox 1 (vs := [I 0, I 0]) (cs' := [I 0, I 0]) rfl rfl rfl ti_34 rfl rfl rfl rfl rfl ex88 rfl rfl fun wx85 ex86 y87 => ?_
    refine LP_ev ok 2 [(7, .bool false)] 3 rfl rfl ?_
    refine LP_end _ rfl ?_
    refine W_ret ?_
    have f89 := f.mono X.size
    have X90 := ((X15.stepx x80).step y87 (f89.dom _))
    exact ⟨_, Ret_of [.agg #[I 0, I 0], .bool false] ⟨⟨_, rfl, rfl, ld_res ti_34 ag_34 (fun h => by cases h) ex86 rfl rfl⟩, ⟨rfl, rfl⟩, trivial⟩, _, _, H, rfl, X90.ext⟩
  have H := H.2 hc84
  refine W_skip ?_
  refine W_seq ?_
  obtain ⟨x91, hi92, hx93, H⟩ := H
  obtain ⟨a94, cs95, hx98, r96, d97⟩ := run_indexAt Try.underlying22 ti_3 r4 .i64 _ x91 hi92 hx93
  have ex99 := (ex13.ext x80)
  obtain ⟨vx100, hx102, r101⟩ := run_loadAt ti_3 ag_3 r96 d97
  obtain rfl := r101.int
  obtain ⟨r103, Hd104, H⟩ := H
  obtain ⟨r105, r106, Hd107, H⟩ := H
  refine W_anyL 12 [[], [], [0, 1], [0, 1, 2], [], [4], [0, 1, 2, 3, 4, 5], [0, 1, 2, 3, 4, 5, 6], [0, 1, 2, 3, 4, 5, 6, 7], [0, 1, 2, 3, 4, 5, 6, 7], [], [0, 1, 2, 3, 4, 5, 6, 7, 8, 10], [0, 1, 2, 3, 4, 5, 6, 7, 8, 9, 10, 11]] [[(1, none)], [(2, none)], [(58, some 0), (59, some 1)], [(60, some 2)], [(1, none)], [(62, some 4)], [(61, some 3), (63, some 5)], [(64, some 6)], [(57, some 7)], [(57, some 7)], [], [(10, some 10), (65, some 8)]] [(6, none), (8, none), (9, none), (10, some 10), (66, some 9)] 34 [I 0, I 0] [I r105.Num, I r105.Den] [.slice a6 (List.length b) c7, I i, .pointer (some a94), I x91, .slice a6 (List.length b) c7, I r103, .tuple #[.agg #[I r105.Num, I r105.Den], .bool r106], .tuple #[.agg #[I r105.Num, I r105.Den], .bool r106], .agg #[I r105.Num, I r105.Den], .bool r106, undef, undef] (some 10) (some 11) mix (by kernel_rfl) (fun _ h => by cases h; exact ⟨_, rfl, by decide, by decide, by decide⟩) (fun _ h => by cases h; decide)
    ⟨K_ev ok [(1, .slice a6 (List.length b) c7)] (.slice a6 (List.length b) c7) (by decide) (by decide) (fun _ _ h => h) rfl (fun _ => rfl),
      K_ev ok [(2, I i)] (I i) (by decide) (by decide) (fun _ _ h => h) rfl (fun _ => rfl),
      K_run [(58, .slice a6 (List.length b) c7), (59, I i)] (.pointer (some a94)) (by decide) (by decide) (fun _ _ h => h) rfl (fun _ _ _ => ex_index rfl rfl rfl (hx98 _)),
      K_run [(60, .pointer (some a94))] (I x91) (by decide) (by decide) (fun _ _ h => h) rfl (fun _ w x => ex_load rfl rfl (hx102 w (ex99.ext x))),
      K_ev ok [(1, .slice a6 (List.length b) c7)] (.slice a6 (List.length b) c7) (by decide) (by decide) (fun _ _ h => h) rfl (fun _ => rfl),
      K_call [(62, .slice a6 (List.length b) c7)] (I r103) (by decide) (by decide) (fun _ _ h => h) rfl rfl cal_94 (fun _ => rfl) (fun w x => (impl_total_w _ _ Hd104 w r4 (ex99.ext x)).mono (fun _ _ h => by obtain ⟨_, rfl, rfl, x⟩ := h; exact ⟨rfl, x⟩)),
      K_call [(61, I x91), (63, I r103)] (.tuple #[.agg #[I r105.Num, I r105.Den], .bool r106]) (by decide) (by decide) (fun _ _ h => h) rfl rfl cal_93 (fun _ => rfl) (fun w x => (impl_reduced_w _ _ _ Hd107 w ).mono (fun _ _ h => by obtain ⟨_, _, ⟨rfl, rfl⟩, rfl, x⟩ := h; exact ⟨rfl, x⟩)),
      K_ev ok [(64, .tuple #[.agg #[I r105.Num, I r105.Den], .bool r106])] (.tuple #[.agg #[I r105.Num, I r105.Den], .bool r106]) (by decide) (by decide) (fun _ _ h => h) rfl (fun _ => rfl),
      K_ev ok [(57, .tuple #[.agg #[I r105.Num, I r105.Den], .bool r106])] (.agg #[I r105.Num, I r105.Den]) (by decide) (by decide) (fun _ _ h => h) rfl (fun _ => rfl),
      K_ev ok [(57, .tuple #[.agg #[I r105.Num, I r105.Den], .bool r106])] (.bool r106) (by decide) (by decide) (fun _ _ h => h) rfl (fun _ => rfl),
      K_alloc rfl (by decide) rfl rfl ti_34 rfl,
      K_store (off := 0) (fun b => [(10, .pointer (some ⟨b, 0, none⟩)), (65, .agg #[I r105.Num, I r105.Den])]) (by decide) rfl rfl (fun _ _ h => h) rfl ti_34 (fun _ _ => rfl) (fun _ _ => rfl) rfl rfl rfl rfl rfl, trivial⟩
    (fun b108 ρ wx109 x110 hn111 hA112 => ?_)
  obtain ⟨hb113, hs114, hs115⟩ := hA112 rfl
  have ex116 := hs114 rfl
  have f117 : Fresh wx79.heap.size (bx b108 34 [I r105.Num, I r105.Den]) := single_fresh hb113
  refine LP_forget [(6, .pointer (some ⟨b8, 0, none⟩)), (8, .pointer (some ⟨b78, 0, none⟩)), (9, .bool r76), (10, .pointer (some ⟨b108, 0, none⟩)), (66, .bool r106)] (by exact hn111) fun ρ => ?_
  refine LP_ev ok 12 [(9, .bool r106)] 13 rfl rfl ?_
  refine LP_end _ rfl ?_
  refine W_seq ?_
  refine W_seq ?_
  refine W_region ?_
  refine LP_ev ok 0 [(67, .bool r106), (68, .bool (!r106))] 2 rfl rfl ?_
  refine LP_end _ rfl ?_
  refine W_cond (!r106) rfl (fun hc118 => ?_) (fun hc118 => ?_)
  · have H := H.1 hc118
    refine W_seq ?_
    refine W_region ?_
    refine LP_ev ok 0 [(69, .agg #[I 0, I 0])] 1 rfl rfl ?_
    have ex122 := ((ex14.ext x80).ext x110)
    refine LP_stbox 1 (vs := [I 0, I 0]) (cs' := [I 0, I 0]) rfl rfl rfl ti_34 rfl rfl rfl rfl rfl ex122 rfl rfl fun wx119 ex120 y121 => ?_
    refine LP_ev ok 2 [(7, .bool false)] 3 rfl rfl ?_
    refine LP_end _ rfl ?_
    refine W_ret ?_
    have f123 := f.mono X.size
    have X124 := (((X15.stepx x80).stepx x110).step y121 (f123.dom _))
    exact ⟨_, Ret_of [.agg #[I 0, I 0], .bool false] ⟨⟨_, rfl, rfl, ld_res ti_34 ag_34 (fun h => by cases h) ex120 rfl rfl⟩, ⟨rfl, rfl⟩, trivial⟩, _, _, H, rfl, X124.ext⟩
  have H := H.2 hc118
  refine W_skip ?_
  refine W_seq ?_
  refine W_region ?_
  have ex125 := (ex82.ext x110)
  refine LP_ldbox 0 (v := .agg #[I r75.Num, I r75.Den]) rfl rfl rfl ti_34 ag_34 (fun h => by cases h) rfl ex125 rfl rfl ?_
  refine LP_ldbox 1 (v := .agg #[I r105.Num, I r105.Den]) rfl rfl rfl ti_34 ag_34 (fun h => by cases h) rfl ex116 rfl rfl ?_
  refine LP_call 2 rfl rfl rfl cal_108 rfl (impl_DivFrac_w _ _ _ H wx109 ) ?_
  rintro _ wx128 ⟨r126, r127, H, rfl, x129⟩
  refine LP_ev ok 3 [(73, .agg #[I r126.Num, I r126.Den]), (74, .bool r127)] 5 rfl rfl ?_
  have ex133 := (((ex14.ext x80).ext x110).ext x129)
  refine LP_stbox 5 (vs := [I r126.Num, I r126.Den]) (cs' := [I r126.Num, I r126.Den]) rfl rfl rfl ti_34 rfl rfl rfl rfl rfl ex133 rfl rfl fun wx130 ex131 y132 => ?_
  refine LP_ev ok 6 [(7, .bool r127)] 7 rfl rfl ?_
  refine LP_end _ rfl ?_
  refine W_ret ?_
  have f134 := f.mono X.size
  have X135 := ((((X15.stepx x80).stepx x110).stepx x129).step y132 (f134.dom _))
  exact ⟨_, Ret_of [.agg #[I r126.Num, I r126.Den], .bool r127] ⟨⟨_, rfl, rfl, ld_res ti_34 ag_34 (fun h => by cases h) ex131 rfl rfl⟩, ⟨rfl, rfl⟩, trivial⟩, _, _, H, rfl, X135.ext⟩

set_option maxRecDepth 8000 in
set_option maxHeartbeats 4000000 in
theorem laws_FnExactQuotientOf_w (aA : List Int) (aB : List Int) (aI : Int) (Q : Bool → Prop) (H : laws_FnExactQuotientOf aA aB aI Q) (w : World) {vx : Value} {hx : PH} (r : RS hx vx aA) (ex : Sub hx w) {vx1 : Value} {hx2 : PH} (r3 : RS hx2 vx1 aB) (ex4 : Sub hx2 w) :
    CallsTo Try.prog 9 #[vx, vx1, I aI] w fun v w' => ∃ r0, Q r0 ∧ v = .bool r0 ∧ Ext w w' := by
  obtain ⟨a, c, rfl⟩ := r.shape
  obtain ⟨a5, c6, rfl⟩ := r3.shape
  refine enter (args := [.slice a (List.length aA) c, .slice a5 (List.length aB) c6, I aI]) 58 Try.func9 rfl rfl rfl ?_
  refine W_forget [(0, .slice a (List.length aA) c), (1, .slice a5 (List.length aB) c6), (2, I aI)] ⟨rfl, rfl, rfl, trivial⟩ fun ρ => ?_
  have X := But.refl emp w
  refine W_seq ?_
  refine W_region ?_
  refine LP_ev ok 0 [(6, .bool false)] 1 rfl rfl ?_
  refine LP_end _ rfl ?_
  refine W_seq ?_
  refine W_seq ?_
  refine W_region ?_
  refine LP_ev ok 0 [(13, .slice a (List.length aA) c), (14, I (ln aA)), (15, .bool (decide ((ln aA) > 1048576)))] 3 rfl rfl ?_
  refine LP_end _ rfl ?_
  refine W_cond (decide ((ln aA) > 1048576)) rfl (fun hc => ?_) (fun hc => ?_)
  · have H := H.1 hc
    refine W_seq ?_
    refine W_region ?_
    refine LP_ev ok 0 [(6, .bool true)] 1 rfl rfl ?_
    refine LP_end _ rfl ?_
    refine W_ret ?_
    exact ⟨_, Ret_of [.bool true] ⟨⟨rfl, rfl⟩, trivial⟩, _, H, rfl, X.ext⟩
  have H := H.2 hc
  refine W_skip ?_
  refine W_seq ?_
  refine W_seq ?_
  refine W_region ?_
  refine LP_ev ok 0 [(16, .slice a5 (List.length aB) c6), (17, I (ln aB)), (18, .bool (decide ((ln aB) > 1048576)))] 3 rfl rfl ?_
  refine LP_end _ rfl ?_
  refine W_cond (decide ((ln aB) > 1048576)) rfl (fun hc7 => ?_) (fun hc7 => ?_)
  · have H := H.1 hc7
    refine W_seq ?_
    refine W_region ?_
    refine LP_ev ok 0 [(6, .bool true)] 1 rfl rfl ?_
    refine LP_end _ rfl ?_
    refine W_ret ?_
    exact ⟨_, Ret_of [.bool true] ⟨⟨rfl, rfl⟩, trivial⟩, _, H, rfl, X.ext⟩
  have H := H.2 hc7
  refine W_skip ?_
  refine W_seq ?_
  refine W_region ?_
  refine LP_ev ok 0 [(20, .slice a (List.length aA) c)] 1 rfl rfl ?_
  refine LP_call 1 rfl rfl rfl cal_26 rfl (laws_toIntS_w _ _ H w r ex) ?_
  rintro _ wx ⟨r8, vx9, hx10, H, rfl, x, o, ex11, f⟩
  obtain ⟨a12, c13, rfl⟩ := o.shape
  refine LP_ev ok 2 [(22, .slice a5 (List.length aB) c6)] 3 rfl rfl ?_
  have ex15 := (ex4.ext x)
  refine LP_call 3 rfl rfl rfl cal_26 rfl (laws_toIntS_w _ _ H wx r3 ex15) ?_
  rintro _ wx16 ⟨r14, vx18, hx19, H, rfl, x17, o20, ex21, f22⟩
  obtain ⟨a23, c24, rfl⟩ := o20.shape
  refine LP_ev ok 4 [(24, I aI)] 5 rfl rfl ?_
  have ex27 := (ex11.ext x17)
  refine LP_call 5 rfl rfl rfl cal_45 rfl (spec_QuotientOf_w _ _ _ _ H wx16 o.readf ex27 o20.readf ex21) ?_
  rintro _ wx28 ⟨r25, r26, H, rfl, x29⟩
  refine LP_ev ok 6 [(19, .tuple #[.agg #[I r25.Num, I r25.Den], .bool r26]), (26, .agg #[I r25.Num, I r25.Den]), (27, .bool r26)] 9 rfl rfl ?_
  refine LP_alloc 9 rfl rfl rfl ti_34 rfl fun b wx30 x31 ex32 f33 => ?_
  refine LP_stbox 10 (vs := [I r25.Num, I r25.Den]) (cs' := [I r25.Num, I r25.Den]) rfl rfl rfl ti_34 rfl rfl rfl rfl rfl ex32 rfl rfl fun wx34 ex35 y => ?_
  refine LP_ev ok 11 [(8, .bool r26)] 12 rfl rfl ?_
  refine LP_end _ rfl ?_
  refine W_seq ?_
  refine W_region ?_
  refine LP_ev ok 0 [(28, .slice a (List.length aA) c)] 1 rfl rfl ?_
  have ex37 := (((ex.ext x).ext x17).ext x29)
  have ex38 := (((((ex.ext x).ext x17).ext x29).ext x31).but y (Dj.of_fresh ex37 f33).symm)
  refine LP_call 1 rfl rfl rfl cal_26 rfl (laws_toIntS_w _ _ H wx34 r ex38) ?_
  rintro _ wx39 ⟨r36, vx41, hx42, H, rfl, x40, o43, ex44, f45⟩
  obtain ⟨a46, c47, rfl⟩ := o43.shape
  refine LP_ev ok 2 [(9, .slice a46 (List.length r36) c47)] 3 rfl rfl ?_
  refine LP_end _ rfl ?_
  refine W_seq ?_
  refine W_region ?_
  refine LP_ev ok 0 [(30, .slice a5 (List.length aB) c6)] 1 rfl rfl ?_
  have ex49 := ((ex15.ext x17).ext x29)
  have ex50 := (((((ex15.ext x17).ext x29).ext x31).but y (Dj.of_fresh ex49 f33).symm).ext x40)
  refine LP_call 1 rfl rfl rfl cal_26 rfl (laws_toIntS_w _ _ H wx39 r3 ex50) ?_
  rintro _ wx51 ⟨r48, vx53, hx54, H, rfl, x52, o55, ex56, f57⟩
  obtain ⟨a58, c59, rfl⟩ := o55.shape
  refine LP_ev ok 2 [(10, .slice a58 (List.length r48) c59)] 3 rfl rfl ?_
  refine LP_end _ rfl ?_
  try refine W_forget [(0, .slice a (List.length aA) c), (1, .slice a5 (List.length aB) c6), (2, I aI), (7, .pointer (some ⟨b, 0, none⟩)), (8, .bool r26), (9, .slice a46 (List.length r36) c47), (10, .slice a58 (List.length r48) c59)] ⟨rfl, rfl, rfl, rfl, rfl, rfl, rfl, trivial⟩ fun ρ => ?_
  refine W_seq ?_
  refine W_region ?_
  refine LP_ev ok 0 [(33, .slice a46 (List.length r36) c47), (34, .slice a58 (List.length r48) c59), (35, I aI)] 3 rfl rfl ?_
  have ex62 := (ex44.ext x52)
  refine LP_call 3 rfl rfl rfl cal_46 rfl (impl_QuotientOf_w _ _ _ _ H wx51 o43.readf ex62 o55.readf ex56) ?_
  rintro _ wx63 ⟨r60, r61, H, rfl, x64⟩
  refine LP_ev ok 4 [(32, .tuple #[.agg #[I r60.Num, I r60.Den], .bool r61]), (37, .agg #[I r60.Num, I r60.Den]), (38, .bool r61)] 7 rfl rfl ?_
  refine LP_alloc 7 rfl rfl rfl ti_34 rfl fun b65 wx66 x67 ex68 f69 => ?_
  refine LP_stbox 8 (vs := [I r60.Num, I r60.Den]) (cs' := [I r60.Num, I r60.Den]) rfl rfl rfl ti_34 rfl rfl rfl rfl rfl ex68 rfl rfl fun wx70 ex71 y72 => ?_
  refine LP_ev ok 9 [(12, .bool r61)] 10 rfl rfl ?_
  refine LP_end _ rfl ?_
  refine W_seq ?_
  obtain ⟨k, hk, H⟩ := jn_elim H
  refine W_join2 (S := Bool) (fun s ρ' w' => k s ∧ ∃ (ρ : Env), ρ' = setAll [(0, .slice a (List.length aA) c), (1, .slice a5 (List.length aB) c6), (9, .slice a46 (List.length r36) c47), (10, .slice a58 (List.length r48) c59), (47, .bool s)] ρ ∧ But emp w w' ∧ Sub hx w' ∧ Sub hx2 w' ∧ Sub hx42 w' ∧ Sub hx54 w') ?_ ?_
  · refine W_region ?_
    refine LP_ldbox 0 (v := .agg #[I r60.Num, I r60.Den]) rfl rfl rfl ti_34 ag_34 (fun h => by cases h) rfl ex71 rfl rfl ?_
    have ex80 := (((ex35.ext x40).ext x52).ext x64)
    have ex81 := (((((ex35.ext x40).ext x52).ext x64).ext x67).but y72 (Dj.of_fresh ex80 f69).symm)
    refine LP_ldbox 1 (v := .agg #[I r25.Num, I r25.Den]) rfl rfl rfl ti_34 ag_34 (fun h => by cases h) rfl ex81 rfl rfl ?_
    refine LP_call 2 rfl rfl rfl cal_32 rfl (laws_eqFrac_w _ _ _ H wx70 ) ?_
    rintro _ wx83 ⟨r82, H, rfl, x84⟩
    refine LP_ev ok 3 [(42, .bool (!r82)), (43, .bool (!r82))] 5 rfl rfl ?_
    refine LP_split 43 (!r82) rfl (fun hc85 => ?_) (fun hc85 => ?_)
    · have H := H.1 hc85
      refine LP_ev ok 5 [(44, undef), (45, undef), (46, undef), (47, .bool true)] 9 rfl rfl ?_
      refine LP_end _ rfl ?_
      have X87 := (((X.stepx x).stepx x17).stepx x29)
      have f86 := f33.mono X87.size
      have X89 := (((((X87.stepx x31).step y (f86.dom _)).stepx x40).stepx x52).stepx x64)
      have f88 := f69.mono X89.size
      have X90 := (((((((((((X.stepx x).stepx x17).stepx x29).stepx x31).step y (f86.dom _)).stepx x40).stepx x52).stepx x64).stepx x67).step y72 (f88.dom _)).stepx x84)
      have ex91 := (((ex38.ext x40).ext x52).ext x64)
      have ex92 := ((((((ex38.ext x40).ext x52).ext x64).ext x67).but y72 (Dj.of_fresh ex91 f69).symm).ext x84)
      have ex93 := ((ex50.ext x52).ext x64)
      have ex94 := (((((ex50.ext x52).ext x64).ext x67).but y72 (Dj.of_fresh ex93 f69).symm).ext x84)
      have ex95 := (ex62.ext x64)
      have ex96 := ((((ex62.ext x64).ext x67).but y72 (Dj.of_fresh ex95 f69).symm).ext x84)
      have ex97 := (ex56.ext x64)
      have ex98 := ((((ex56.ext x64).ext x67).but y72 (Dj.of_fresh ex97 f69).symm).ext x84)
      exact ⟨true, H, _, env_eq ⟨rfl, rfl, rfl, rfl, rfl, trivial⟩, X90, ex92, ex94, ex96, ex98⟩
    have H := H.2 hc85
    refine LP_ev ok 5 [(44, .bool r61), (45, .bool r26), (46, .bool (r61 != r26)), (47, .bool (r61 != r26))] 9 rfl rfl ?_
    refine LP_end _ rfl ?_
    have X100 := (((X.stepx x).stepx x17).stepx x29)
    have f99 := f33.mono X100.size
    have X102 := (((((X100.stepx x31).step y (f99.dom _)).stepx x40).stepx x52).stepx x64)
    have f101 := f69.mono X102.size
    have X103 := (((((((((((X.stepx x).stepx x17).stepx x29).stepx x31).step y (f99.dom _)).stepx x40).stepx x52).stepx x64).stepx x67).step y72 (f101.dom _)).stepx x84)
    have ex104 := (((ex38.ext x40).ext x52).ext x64)
    have ex105 := ((((((ex38.ext x40).ext x52).ext x64).ext x67).but y72 (Dj.of_fresh ex104 f69).symm).ext x84)
    have ex106 := ((ex50.ext x52).ext x64)
    have ex107 := (((((ex50.ext x52).ext x64).ext x67).but y72 (Dj.of_fresh ex106 f69).symm).ext x84)
    have ex108 := (ex62.ext x64)
    have ex109 := ((((ex62.ext x64).ext x67).but y72 (Dj.of_fresh ex108 f69).symm).ext x84)
    have ex110 := (ex56.ext x64)
    have ex111 := ((((ex56.ext x64).ext x67).but y72 (Dj.of_fresh ex110 f69).symm).ext x84)
    exact ⟨r61 != r26, H, _, env_eq ⟨rfl, rfl, rfl, rfl, rfl, trivial⟩, X103, ex105, ex107, ex109, ex111⟩
  rintro x73 _ wx74 ⟨H, ρ, rfl, X79, ex75, ex76, ex77, ex78⟩
  subst hk
  refine W_cond (x73) rfl (fun hc112 => ?_) (fun hc112 => ?_)
  · have H := H.1 hc112
    refine W_seq ?_
    refine W_region ?_
    refine LP_ev ok 0 [(6, .bool false)] 1 rfl rfl ?_
    refine LP_end _ rfl ?_
    refine W_ret ?_
    exact ⟨_, Ret_of [.bool false] ⟨⟨rfl, rfl⟩, trivial⟩, _, H, rfl, X79.ext⟩
  have H := H.2 hc112
  refine W_skip ?_
  refine W_seq ?_
  refine W_seq ?_
  refine W_region ?_
  refine LP_ev ok 0 [(48, .slice a46 (List.length r36) c47), (49, .slice a (List.length aA) c)] 2 rfl rfl ?_
  refine LP_call 2 rfl rfl rfl cal_26 rfl (laws_toIntS_w _ _ H wx74 r ex75) ?_
  rintro _ wx114 ⟨r113, vx116, hx117, H, rfl, x115, o118, ex119, f120⟩
  obtain ⟨a121, c122, rfl⟩ := o118.shape
  have ex124 := (ex77.ext x115)
  refine LP_call 3 rfl rfl rfl cal_22 rfl (laws_eqIntS_w _ _ _ H wx114 o43.readf ex124 o118.readf ex119) ?_
  rintro _ wx125 ⟨r123, H, rfl, x126⟩
  refine LP_ev ok 4 [(52, .bool (!r123))] 5 rfl rfl ?_
  refine LP_end _ rfl ?_
  refine W_cond (!r123) rfl (fun hc127 => ?_) (fun hc127 => ?_)
  · have H := H.1 hc127
    refine W_seq ?_
    refine W_region ?_
    refine LP_ev ok 0 [(6, .bool false)] 1 rfl rfl ?_
    refine LP_end _ rfl ?_
    refine W_ret ?_
    have X128 := ((X79.stepx x115).stepx x126)
    exact ⟨_, Ret_of [.bool false] ⟨⟨rfl, rfl⟩, trivial⟩, _, H, rfl, X128.ext⟩
  have H := H.2 hc127
  refine W_skip ?_
  refine W_seq ?_
  refine W_seq ?_
  refine W_region ?_
  refine LP_ev ok 0 [(53, .slice a58 (List.length r48) c59), (54, .slice a5 (List.length aB) c6)] 2 rfl rfl ?_
  have ex130 := ((ex76.ext x115).ext x126)
  refine LP_call 2 rfl rfl rfl cal_26 rfl (laws_toIntS_w _ _ H wx125 r3 ex130) ?_
  rintro _ wx131 ⟨r129, vx133, hx134, H, rfl, x132, o135, ex136, f137⟩
  obtain ⟨a138, c139, rfl⟩ := o135.shape
  have ex141 := (((ex78.ext x115).ext x126).ext x132)
  refine LP_call 3 rfl rfl rfl cal_22 rfl (laws_eqIntS_w _ _ _ H wx131 o55.readf ex141 o135.readf ex136) ?_
  rintro _ wx142 ⟨r140, H, rfl, x143⟩
  refine LP_ev ok 4 [(57, .bool (!r140))] 5 rfl rfl ?_
  refine LP_end _ rfl ?_
  refine W_cond (!r140) rfl (fun hc144 => ?_) (fun hc144 => ?_)
  · have H := H.1 hc144
    refine W_seq ?_
    refine W_region ?_
    refine LP_ev ok 0 [(6, .bool false)] 1 rfl rfl ?_
    refine LP_end _ rfl ?_
    refine W_ret ?_
    have X145 := ((((X79.stepx x115).stepx x126).stepx x132).stepx x143)
    exact ⟨_, Ret_of [.bool false] ⟨⟨rfl, rfl⟩, trivial⟩, _, H, rfl, X145.ext⟩
  have H := H.2 hc144
  refine W_skip ?_
  refine W_seq ?_
  refine W_region ?_
  refine LP_ev ok 0 [(6, .bool true)] 1 rfl rfl ?_
  refine LP_end _ rfl ?_
  refine W_ret ?_
  have X146 := ((((X79.stepx x115).stepx x126).stepx x132).stepx x143)
  exact ⟨_, Ret_of [.bool true] ⟨⟨rfl, rfl⟩, trivial⟩, _, H, rfl, X146.ext⟩

set_option maxRecDepth 8000 in
set_option maxHeartbeats 4000000 in
theorem spec_oShares_w (l : List Int) (Q : (List Frac) → Bool → Prop) (H : spec_oShares l Q) (w : World) {vx : Value} {hx : PH} (r : RS hx vx l) (ex : Sub hx w) :
    CallsTo Try.prog 109 #[vx] w fun v w' => ∃ r0 r1 u0 g0, Q r0 r1 ∧ v = .tuple #[u0, .bool r1] ∧ Ext w w' ∧ OS 34 g0 emp u0 r0 ∧ Sub g0 w' ∧ Fresh w.heap.size g0 := by
  obtain ⟨a, c, rfl⟩ := r.shape
  refine enter (args := [.slice a (List.length l) c]) 30 Try.func109 rfl rfl rfl ?_
  refine W_forget [(0, .slice a (List.length l) c)] ⟨rfl, trivial⟩ fun ρ => ?_
  have X := But.refl emp w
  refine W_seq ?_
  refine W_region ?_
  refine LP_ev ok 0 [(2, .slice none 0 0), (3, .bool false)] 2 rfl rfl ?_
  refine LP_end _ rfl ?_
  refine W_seq ?_
  refine W_region ?_
  refine LP_ev ok 0 [(4, .slice none 0 0)] 1 rfl rfl ?_
  refine LP_end _ rfl ?_
  refine W_seq ?_
  refine W_seq ?_
  refine W_region ?_
  refine LP_ev ok 0 [(9, .slice a (List.length l) c), (10, I (ln l)), (11, I 0)] 3 rfl rfl ?_
  refine LP_end _ rfl ?_
  refine W_block ?_
  obtain ⟨J, m, Hx, H⟩ := H
  refine W_loop (S := (List Frac) × Int) (fun s ρ' w' => J s.1 s.2 ∧ ∃ (ρ : Env) (vx1 : Value) (hx2 : PH), ρ' = setAll [(0, .slice a (List.length l) c), (4, vx1), (9, .slice a (List.length l) c), (10, I (ln l)), (11, I s.2)] ρ ∧ But emp w w' ∧ OS 34 hx2 emp vx1 s.1 ∧ Sub hx2 w' ∧ Fresh w.heap.size hx2 ∧ Sub hx w' ∧ Dj hx2 hx) (fun s => m s.1 s.2) ([], 0) ⟨Hx, _, .slice none 0 0, emp, env_eq ⟨rfl, rfl, rfl, rfl, rfl, trivial⟩, X, OS.nil, (emp_sub _), (emp_fresh _), ex, (fun _ => .inl rfl)⟩ ?_
  rintro ⟨out, x⟩ _ wx ⟨Hi, ρ, vx1, hx2, rfl, X7, o, ex3, f, ex4, d⟩
  have H := H out x Hi
  obtain ⟨a5, c6, rfl⟩ := o.shape
  refine W_seq ?_
  refine W_region ?_
  refine LP_ev ok 0 [(12, .bool (decide (x < (ln l))))] 1 rfl rfl ?_
  refine LP_end _ rfl ?_
  refine W_seq ?_
  refine W_cond (decide (x < (ln l))) rfl (fun hc => ?_) (fun hc => ?_)
  · have H := H.1 hc
    refine W_skip ?_
    refine W_seq ?_
    refine W_block ?_
    refine W_seq ?_
    refine W_region ?_
    obtain ⟨x8, hi, hx9, H⟩ := H
    refine LP_index 0 rfl rfl rfl Try.underlying22 ti_3 rfl rfl r hi hx9 fun a10 cs r11 d12 => ?_
    refine LP_load 1 rfl rfl rfl ti_3 ag_3 rfl r11 d12 ex4 fun vx13 r14 => ?_
    obtain rfl := r14.int
    refine LP_ev ok 2 [(6, I x8)] 3 rfl rfl ?_
    refine LP_end _ rfl ?_
    refine W_seq ?_
    refine W_region ?_
    refine LP_ev ok 0 [(16, I x8), (17, .slice a (List.length l) c)] 2 rfl rfl ?_
    refine LP_call 2 rfl rfl rfl cal_91 rfl (spec_tSum_w _ _ H wx r ex4) ?_
    rintro _ wx16 ⟨r15, H, rfl, x17⟩
    refine LP_call 3 rfl rfl rfl cal_90 rfl (spec_fMake_w _ _ _ H wx16 ) ?_
    rintro _ wx20 ⟨r18, r19, H, rfl, x21⟩
    refine LP_ev ok 4 [(15, .tuple #[.agg #[I r18.Num, I r18.Den], .bool r19]), (20, .agg #[I r18.Num, I r18.Den]), (21, .bool r19)] 7 rfl rfl ?_
    refine LP_alloc 7 rfl rfl rfl ti_34 rfl fun b wx22 x23 ex24 f25 => ?_
    refine LP_stbox 8 (vs := [I r18.Num, I r18.Den]) (cs' := [I r18.Num, I r18.Den]) rfl rfl rfl ti_34 rfl rfl rfl rfl rfl ex24 rfl rfl fun wx26 ex27 y => ?_
    refine LP_ev ok 9 [(8, .bool r19)] 10 rfl rfl ?_
    refine LP_end _ rfl ?_
    refine W_seq ?_
    refine W_seq ?_
    refine W_region ?_
    refine LP_ev ok 0 [(22, .bool r19), (23, .bool (!r19))] 2 rfl rfl ?_
    refine LP_end _ rfl ?_
    refine W_cond (!r19) rfl (fun hc28 => ?_) (fun hc28 => ?_)
    · have H := H.1 hc28
      refine W_seq ?_
      refine W_region ?_
      refine LP_ev ok 0 [(2, .slice none 0 0), (3, .bool false)] 2 rfl rfl ?_
      refine LP_end _ rfl ?_
      refine W_ret ?_
      have X30 := ((X7.stepx x17).stepx x21)
      have f29 := f25.mono X30.size
      have X31 := ((((X7.stepx x17).stepx x21).stepx x23).step y (f29.dom _))
      exact ⟨_, Ret_of [.slice none 0 0, .bool false] ⟨⟨rfl, rfl⟩, ⟨rfl, rfl⟩, trivial⟩, _, _, _, emp, H, rfl, X31.ext, OS.nil, (emp_sub _), (emp_fresh _)⟩
    have H := H.2 hc28
    refine W_skip ?_
    refine W_region ?_
    refine LP_ev ok 0 [(24, .slice a5 (List.length out) c6)] 1 rfl rfl ?_
    refine LP_ldbox 1 (v := .agg #[I r18.Num, I r18.Den]) rfl rfl rfl ti_34 ag_34 (fun h => by cases h) rfl ex27 rfl rfl ?_
    refine LP_lit (α := Frac) (g := emp) 2 (vs := [.agg #[I r18.Num, I r18.Den]]) (xs := [(Frac.mk r18.Num r18.Den)]) rfl rfl rfl Try.underlying44 ti_34 rfl rfl ⟨⟨_, rfl, rfl⟩, trivial⟩ rfl rfl fun hx32 vx33 wx34 x35 o36 ex37 f38 => ?_
    obtain ⟨a39, c40, rfl⟩ := o36.shape
    have ex41 := ((ex3.ext x17).ext x21)
    have ex42 := (((((ex3.ext x17).ext x21).ext x23).but y (Dj.of_fresh ex41 f25).symm).ext x35)
    obtain ⟨hb, H⟩ := H
    refine LP_appendf (α := Frac) 3 rfl rfl rfl Try.underlying44 ti_34 rfl rfl rfl o ex42 o36.readf ex37 (by first | omega | (simp only [ln] at *; omega)) (by first | omega | (simp only [ln] at *; omega)) fun hx43 vx44 wx45 o46 ex47 y48 dm => ?_
    obtain ⟨a49, c50, rfl⟩ := o46.shape
    refine LP_ev ok 4 [(4, .slice a49 (List.length (out ++ ([(Frac.mk r18.Num r18.Den)]))) c50)] 5 rfl rfl ?_
    refine LP_end _ rfl ?_
    refine W_region ?_
    refine LP_ev ok 0 [(28, I (wr (x + 1))), (11, I (wr (x + 1)))] 2 rfl rfl ?_
    refine LP_end _ rfl ?_
    have X52 := ((X7.stepx x17).stepx x21)
    have f51 := f25.mono X52.size
    have X53 := ((((((X7.stepx x17).stepx x21).stepx x23).step y (f51.dom _)).stepx x35).step y48 (f.dom _))
    have X55 := (((X52.stepx x23).step y (f51.dom _)).stepx x35)
    have f54 := dm.fresh f X55.size
    have ex56 := ((ex4.ext x17).ext x21)
    have ex57 := ((((((ex4.ext x17).ext x21).ext x23).but y (Dj.of_fresh ex56 f25).symm).ext x35).but y48 d)
    have ex58 := (((ex56.ext x23).but y (Dj.of_fresh ex56 f25).symm).ext x35)
    exact ⟨(out ++ ([(Frac.mk r18.Num r18.Den)]), wr (x + 1)), ⟨H.1, _, .slice a49 (List.length (out ++ ([(Frac.mk r18.Num r18.Den)]))) c50, hx43, env_eq ⟨rfl, rfl, rfl, rfl, rfl, trivial⟩, X53, o46, ex47, f54, ex57, (DomLe.dj dm d ex58)⟩, H.2⟩
  have H := H.2 hc
  refine W_exit ?_
  refine (if_pos rfl).mpr ?_
  refine W_seq ?_
  refine W_region ?_
  refine LP_ev ok 0 [(29, .slice a5 (List.length out) c6), (2, .slice a5 (List.length out) c6), (3, .bool true)] 3 rfl rfl ?_
  refine LP_end _ rfl ?_
  refine W_ret ?_
  exact ⟨_, Ret_of [.slice a5 (List.length out) c6, .bool true] ⟨⟨rfl, rfl⟩, ⟨rfl, rfl⟩, trivial⟩, _, _, _, _, H, rfl, X7.ext, o, ex3, f⟩

set_option maxRecDepth 8000 in
set_option maxHeartbeats 4000000 in
theorem spec_CountShares_w (counts : List Int) (Q : (List Frac) → Bool → Prop) (H : spec_CountShares counts Q) (w : World) {vx : Value} {hx : PH} (r : RS hx vx counts) (ex : Sub hx w) :
    CallsTo Try.prog 50 #[vx] w fun v w' => ∃ r0 r1 u0 g0, Q r0 r1 ∧ v = .tuple #[u0, .bool r1] ∧ Ext w w' ∧ OS 34 g0 emp u0 r0 ∧ Sub g0 w' ∧ Fresh w.heap.size g0 := by
  obtain ⟨a, c, rfl⟩ := r.shape
  refine enter (args := [.slice a (List.length counts) c]) 11 Try.func50 rfl rfl rfl ?_
  refine W_forget [(0, .slice a (List.length counts) c)] ⟨rfl, trivial⟩ fun ρ => ?_
  have X := But.refl emp w
  refine W_seq ?_
  refine W_region ?_
  refine LP_ev ok 0 [(2, .slice none 0 0), (3, .bool false)] 2 rfl rfl ?_
  refine LP_end _ rfl ?_
  refine W_seq ?_
  refine W_seq ?_
  refine W_region ?_
  refine LP_ev ok 0 [(4, .slice a (List.length counts) c)] 1 rfl rfl ?_
  refine LP_call 1 rfl rfl rfl cal_88 rfl (spec_oCounts_w _ _ H w r ex) ?_
  rintro _ wx ⟨r1, H, rfl, x⟩
  refine LP_ev ok 2 [(6, .bool (!r1))] 3 rfl rfl ?_
  refine LP_end _ rfl ?_
  refine W_cond (!r1) rfl (fun hc => ?_) (fun hc => ?_)
  · have H := H.1 hc
    refine W_seq ?_
    refine W_region ?_
    refine LP_ev ok 0 [(2, .slice none 0 0), (3, .bool false)] 2 rfl rfl ?_
    refine LP_end _ rfl ?_
    refine W_ret ?_
    have X2 := (X.stepx x)
    exact ⟨_, Ret_of [.slice none 0 0, .bool false] ⟨⟨rfl, rfl⟩, ⟨rfl, rfl⟩, trivial⟩, _, _, _, emp, H, rfl, X2.ext, OS.nil, (emp_sub _), (emp_fresh _)⟩
  have H := H.2 hc
  refine W_skip ?_
  refine W_seq ?_
  refine W_region ?_
  refine LP_ev ok 0 [(7, .slice a (List.length counts) c)] 1 rfl rfl ?_
  have ex5 := (ex.ext x)
  refine LP_call 1 rfl rfl rfl cal_109 rfl (spec_oShares_w _ _ H wx r ex5) ?_
  rintro _ wx6 ⟨r3, r4, vx8, hx9, H, rfl, x7, o, ex10, f⟩
  obtain ⟨a11, c12, rfl⟩ := o.shape
  refine LP_ev ok 2 [(9, .slice a11 (List.length r3) c12), (10, .bool r4), (2, .slice a11 (List.length r3) c12), (3, .bool r4)] 6 rfl rfl ?_
  refine LP_end _ rfl ?_
  refine W_ret ?_
  have X14 := (X.stepx x)
  have f13 := f.mono X14.size
  have X15 := (X14.stepx x7)
  exact ⟨_, Ret_of [.slice a11 (List.length r3) c12, .bool r4] ⟨⟨rfl, rfl⟩, ⟨rfl, rfl⟩, trivial⟩, _, _, _, _, H, rfl, X15.ext, o, ex10, f13⟩

set_option maxRecDepth 8000 in
set_option maxHeartbeats 4000000 in
theorem impl_sharesOf_w (values : List Int) (Q : (List Frac) → Bool → Prop) (H : impl_sharesOf values Q) (w : World) {vx : Value} {hx : PH} (r : RS hx vx values) (ex : Sub hx w) :
    CallsTo Try.prog 110 #[vx] w fun v w' => ∃ r0 r1 u0 g0, Q r0 r1 ∧ v = .tuple #[u0, .bool r1] ∧ Ext w w' ∧ OS 34 g0 emp u0 r0 ∧ Sub g0 w' ∧ Fresh w.heap.size g0 := by
  obtain ⟨a, c, rfl⟩ := r.shape
  refine enter (args := [.slice a (List.length values) c]) 38 Try.func110 rfl rfl rfl ?_
  refine W_forget [(0, .slice a (List.length values) c)] ⟨rfl, trivial⟩ fun ρ => ?_
  have X := But.refl emp w
  refine W_seq ?_
  refine W_region ?_
  refine LP_ev ok 0 [(2, .slice none 0 0), (3, .bool false)] 2 rfl rfl ?_
  refine LP_end _ rfl ?_
  refine W_seq ?_
  refine W_region ?_
  refine LP_ev ok 0 [(10, .slice a (List.length values) c)] 1 rfl rfl ?_
  refine LP_call 1 rfl rfl rfl cal_94 rfl (impl_total_w _ _ H w r ex) ?_
  rintro _ wx ⟨r1, H, rfl, x⟩
  refine LP_ev ok 2 [(4, I r1)] 3 rfl rfl ?_
  refine LP_end _ rfl ?_
  refine W_seq ?_
  refine W_seq ?_
  refine W_region ?_
  refine LP_ev ok 0 [(12, I r1), (13, .bool (r1 == 0))] 2 rfl rfl ?_
  refine LP_end _ rfl ?_
  refine W_cond (r1 == 0) rfl (fun hc => ?_) (fun hc => ?_)
  · have H := H.1 hc
    refine W_seq ?_
    refine W_region ?_
    refine LP_ev ok 0 [(2, .slice none 0 0), (3, .bool false)] 2 rfl rfl ?_
    refine LP_end _ rfl ?_
    refine W_ret ?_
    have X2 := (X.stepx x)
    exact ⟨_, Ret_of [.slice none 0 0, .bool false] ⟨⟨rfl, rfl⟩, ⟨rfl, rfl⟩, trivial⟩, _, _, _, emp, H, rfl, X2.ext, OS.nil, (emp_sub _), (emp_fresh _)⟩
  have H := H.2 hc
  refine W_skip ?_
  refine W_seq ?_
  refine W_region ?_
  refine LP_ev ok 0 [(14, .slice a (List.length values) c), (15, I (ln values))] 2 rfl rfl ?_
  obtain ⟨hn, hb, H⟩ := H
  refine LP_make (α := Frac) 2 rfl rfl rfl Try.underlying44 ti_34 (x0 := (Frac.mk ((0 : Int)) ((0 : Int)))) rfl rfl hn (by first | omega | (simp only [ln] at *; omega)) (by first | omega | (simp only [ln] at *; omega)) fun hx3 vx4 wx5 x6 o ex7 f => ?_
  obtain ⟨a8, c9, rfl⟩ := o.shape
  refine LP_ev ok 3 [(5, .slice a8 (List.length (List.replicate (Int.toNat (ln values)) ((Frac.mk ((0 : Int)) ((0 : Int)))))) c9)] 4 rfl rfl ?_
  refine LP_end _ rfl ?_
  refine W_seq ?_
  refine W_seq ?_
  refine W_region ?_
  refine LP_ev ok 0 [(17, .slice a (List.length values) c), (18, I (ln values)), (19, I 0)] 3 rfl rfl ?_
  refine LP_end _ rfl ?_
  refine W_block ?_
  obtain ⟨J, m, Hx, H⟩ := H
  have X19 := ((X.stepx x).stepx x6)
  have X21 := (X.stepx x)
  have f20 := f.mono X21.size
  have ex22 := ((ex.ext x).ext x6)
  have ex23 := (ex.ext x)
  refine W_loop (S := (List Frac) × Int) (fun s ρ' w' => J s.1 s.2 ∧ ∃ (ρ : Env) (hx11 : PH), ρ' = setAll [(4, I r1), (5, .slice a8 (List.length (List.replicate (Int.toNat (ln values)) ((Frac.mk ((0 : Int)) ((0 : Int)))))) c9), (17, .slice a (List.length values) c), (18, I (ln values)), (19, I s.2)] ρ ∧ But emp w w' ∧ OS 34 hx11 emp (.slice a8 (List.length (List.replicate (Int.toNat (ln values)) ((Frac.mk ((0 : Int)) ((0 : Int)))))) c9) s.1 ∧ Sub hx11 w' ∧ Fresh w.heap.size hx11 ∧ Sub hx w' ∧ Dj hx11 hx) (fun s => m s.1 s.2) (List.replicate (Int.toNat (ln values)) ((Frac.mk ((0 : Int)) ((0 : Int)))), 0) ⟨Hx, _, hx3, env_eq ⟨rfl, rfl, rfl, rfl, rfl, trivial⟩, X19, o, ex7, f20, ex22, (Dj.of_fresh ex23 f).symm⟩ ?_
  rintro ⟨out, x15⟩ _ wx16 ⟨Hi, ρ, hx11, rfl, X18, o12, ex13, f14, ex17, d⟩
  have H := H out x15 Hi
  refine W_seq ?_
  refine W_region ?_
  refine LP_ev ok 0 [(20, .bool (decide (x15 < (ln values))))] 1 rfl rfl ?_
  refine LP_end _ rfl ?_
  refine W_seq ?_
  refine W_cond (decide (x15 < (ln values))) rfl (fun hc24 => ?_) (fun hc24 => ?_)
  · have H := H.1 hc24
    refine W_skip ?_
    refine W_seq ?_
    refine W_block ?_
    refine W_seq ?_
    refine W_region ?_
    refine LP_ev ok 0 [(21, I x15)] 1 rfl rfl ?_
    obtain ⟨x25, hi, hx26, H⟩ := H
    refine LP_index 1 rfl rfl rfl Try.underlying22 ti_3 rfl rfl r hi hx26 fun a27 cs r28 d29 => ?_
    refine LP_load 2 rfl rfl rfl ti_3 ag_3 rfl r28 d29 ex17 fun vx30 r31 => ?_
    obtain rfl := r31.int
    refine LP_ev ok 3 [(6, I x15), (7, I x25)] 5 rfl rfl ?_
    refine LP_end _ rfl ?_
    refine W_seq ?_
    refine W_region ?_
    refine LP_ev ok 0 [(25, I x25), (26, I r1)] 2 rfl rfl ?_
    refine LP_call 2 rfl rfl rfl cal_93 rfl (impl_reduced_w _ _ _ H wx16 ) ?_
    rintro _ wx34 ⟨r32, r33, H, rfl, x35⟩
    refine LP_ev ok 3 [(24, .tuple #[.agg #[I r32.Num, I r32.Den], .bool r33]), (28, .agg #[I r32.Num, I r32.Den]), (29, .bool r33)] 6 rfl rfl ?_
    refine LP_alloc 6 rfl rfl rfl ti_34 rfl fun b wx36 x37 ex38 f39 => ?_
    refine LP_stbox 7 (vs := [I r32.Num, I r32.Den]) (cs' := [I r32.Num, I r32.Den]) rfl rfl rfl ti_34 rfl rfl rfl rfl rfl ex38 rfl rfl fun wx40 ex41 y => ?_
    refine LP_ev ok 8 [(9, .bool r33)] 9 rfl rfl ?_
    refine LP_end _ rfl ?_
    refine W_seq ?_
    refine W_seq ?_
    refine W_region ?_
    refine LP_ev ok 0 [(30, .bool r33), (31, .bool (!r33))] 2 rfl rfl ?_
    refine LP_end _ rfl ?_
    refine W_cond (!r33) rfl (fun hc42 => ?_) (fun hc42 => ?_)
    · have H := H.1 hc42
      refine W_seq ?_
      refine W_region ?_
      refine LP_ev ok 0 [(2, .slice none 0 0), (3, .bool false)] 2 rfl rfl ?_
      refine LP_end _ rfl ?_
      refine W_ret ?_
      have X44 := (X18.stepx x35)
      have f43 := f39.mono X44.size
      have X45 := (((X18.stepx x35).stepx x37).step y (f43.dom _))
      exact ⟨_, Ret_of [.slice none 0 0, .bool false] ⟨⟨rfl, rfl⟩, ⟨rfl, rfl⟩, trivial⟩, _, _, _, emp, H, rfl, X45.ext, OS.nil, (emp_sub _), (emp_fresh _)⟩
    have H := H.2 hc42
    refine W_skip ?_
    refine W_region ?_
    refine LP_ev ok 0 [(32, .slice a8 (List.length (List.replicate (Int.toNat (ln values)) ((Frac.mk ((0 : Int)) ((0 : Int)))))) c9), (33, I x15)] 2 rfl rfl ?_
    refine LP_ldbox 2 (v := .agg #[I r32.Num, I r32.Den]) rfl rfl rfl ti_34 ag_34 (fun h => by cases h) rfl ex41 rfl rfl ?_
    obtain ⟨hi46, hl, H⟩ := H
    refine LP_indexw 3 rfl rfl rfl Try.underlying44 ti_34 rfl rfl o12 hi46 hl fun a47 wa => ?_
    have ex53 := (ex13.ext x35)
    have ex54 := (((ex13.ext x35).ext x37).but y (Dj.of_fresh ex53 f39).symm)
    refine LP_set 4 rfl rfl rfl rfl rfl wa (Le.refl emp) ⟨_, rfl, rfl⟩ ex54 fun hx48 wx49 o50 ex51 y52 dm => ?_
    refine LP_end _ rfl ?_
    refine W_region ?_
    refine LP_ev ok 0 [(36, I (wr (x15 + 1))), (19, I (wr (x15 + 1)))] 2 rfl rfl ?_
    refine LP_end _ rfl ?_
    have X56 := (X18.stepx x35)
    have f55 := f39.mono X56.size
    have X57 := ((((X18.stepx x35).stepx x37).step y (f55.dom _)).step y52 (f14.dom _))
    have X59 := ((X56.stepx x37).step y (f55.dom _))
    have f58 := (dm _).fresh f14 X59.size
    have ex60 := (ex17.ext x35)
    have ex61 := ((((ex17.ext x35).ext x37).but y (Dj.of_fresh ex60 f39).symm).but y52 d)
    have ex62 := ((ex60.ext x37).but y (Dj.of_fresh ex60 f39).symm)
    exact ⟨(List.set out (Int.toNat x15) ((Frac.mk r32.Num r32.Den)), wr (x15 + 1)), ⟨H.1, _, hx48, env_eq ⟨rfl, rfl, rfl, rfl, rfl, trivial⟩, X57, o50, ex51, f58, ex61, (DomLe.dj (dm _) d ex62)⟩, H.2⟩
  have H := H.2 hc24
  refine W_exit ?_
  refine (if_pos rfl).mpr ?_
  refine W_seq ?_
  refine W_region ?_
  refine LP_ev ok 0 [(37, .slice a8 (List.length (List.replicate (Int.toNat (ln values)) ((Frac.mk ((0 : Int)) ((0 : Int)))))) c9), (2, .slice a8 (List.length (List.replicate (Int.toNat (ln values)) ((Frac.mk ((0 : Int)) ((0 : Int)))))) c9), (3, .bool true)] 3 rfl rfl ?_
  refine LP_end _ rfl ?_
  refine W_ret ?_
  exact ⟨_, Ret_of [.slice a8 (List.length (List.replicate (Int.toNat (ln values)) ((Frac.mk ((0 : Int)) ((0 : Int)))))) c9, .bool true] ⟨⟨rfl, rfl⟩, ⟨rfl, rfl⟩, trivial⟩, _, _, _, _, H, rfl, X18.ext, o12, ex13, f14⟩

set_option maxRecDepth 8000 in
set_option maxHeartbeats 4000000 in
theorem impl_CountShares_w (counts : List Int) (Q : (List Frac) → Bool → Prop) (H : impl_CountShares counts Q) (w : World) {vx : Value} {hx : PH} (r : RS hx vx counts) (ex : Sub hx w) :
    CallsTo Try.prog 51 #[vx] w fun v w' => ∃ r0 r1 u0 g0, Q r0 r1 ∧ v = .tuple #[u0, .bool r1] ∧ Ext w w' ∧ OS 34 g0 emp u0 r0 ∧ Sub g0 w' ∧ Fresh w.heap.size g0 := by
  obtain ⟨a, c, rfl⟩ := r.shape
  refine enter (args := [.slice a (List.length counts) c]) 11 Try.func51 rfl rfl rfl ?_
  refine W_forget [(0, .slice a (List.length counts) c)] ⟨rfl, trivial⟩ fun ρ => ?_
  have X := But.refl emp w
  refine W_seq ?_
  refine W_region ?_
  refine LP_ev ok 0 [(2, .slice none 0 0), (3, .bool false)] 2 rfl rfl ?_
  refine LP_end _ rfl ?_
  refine W_seq ?_
  refine W_seq ?_
  refine W_region ?_
  refine LP_ev ok 0 [(4, .slice a (List.length counts) c)] 1 rfl rfl ?_
  refine LP_call 1 rfl rfl rfl cal_92 rfl (impl_areCounts_w _ _ H w r ex) ?_
  rintro _ wx ⟨r1, H, rfl, x⟩
  refine LP_ev ok 2 [(6, .bool (!r1))] 3 rfl rfl ?_
  refine LP_end _ rfl ?_
  refine W_cond (!r1) rfl (fun hc => ?_) (fun hc => ?_)
  · have H := H.1 hc
    refine W_seq ?_
    refine W_region ?_
    refine LP_ev ok 0 [(2, .slice none 0 0), (3, .bool false)] 2 rfl rfl ?_
    refine LP_end _ rfl ?_
    refine W_ret ?_
    have X2 := (X.stepx x)
    exact ⟨_, Ret_of [.slice none 0 0, .bool false] ⟨⟨rfl, rfl⟩, ⟨rfl, rfl⟩, trivial⟩, _, _, _, emp, H, rfl, X2.ext, OS.nil, (emp_sub _), (emp_fresh _)⟩
  have H := H.2 hc
  refine W_skip ?_
  refine W_seq ?_
  refine W_region ?_
  refine LP_ev ok 0 [(7, .slice a (List.length counts) c)] 1 rfl rfl ?_
  have ex5 := (ex.ext x)
  refine LP_call 1 rfl rfl rfl cal_110 rfl (impl_sharesOf_w _ _ H wx r ex5) ?_
  rintro _ wx6 ⟨r3, r4, vx8, hx9, H, rfl, x7, o, ex10, f⟩
  obtain ⟨a11, c12, rfl⟩ := o.shape
  refine LP_ev ok 2 [(9, .slice a11 (List.length r3) c12), (10, .bool r4), (2, .slice a11 (List.length r3) c12), (3, .bool r4)] 6 rfl rfl ?_
  refine LP_end _ rfl ?_
  refine W_ret ?_
  have X14 := (X.stepx x)
  have f13 := f.mono X14.size
  have X15 := (X14.stepx x7)
  exact ⟨_, Ret_of [.slice a11 (List.length r3) c12, .bool r4] ⟨⟨rfl, rfl⟩, ⟨rfl, rfl⟩, trivial⟩, _, _, _, _, H, rfl, X15.ext, o, ex10, f13⟩

set_option maxRecDepth 8000 in
set_option maxHeartbeats 4000000 in
theorem laws_eqFracS_w (a : List Frac) (b : List Frac) (Q : Bool → Prop) (H : laws_eqFracS a b Q) (w : World) {vx : Value} {hx : PH} (r : RS hx vx a) (ex : Sub hx w) {vx2 : Value} {hx3 : PH} (r4 : RS hx3 vx2 b) (ex5 : Sub hx3 w) :
    CallsTo Try.prog 38 #[vx, vx2] w fun v w' => ∃ r0, Q r0 ∧ v = .bool r0 ∧ Ext w w' := by
  obtain ⟨a1, c, rfl⟩ := r.shape
  obtain ⟨a6, c7, rfl⟩ := r4.shape
  refine enter (args := [.slice a1 (List.length a) c, .slice a6 (List.length b) c7]) 27 Try.func38 rfl rfl rfl ?_
  refine W_forget [(0, .slice a1 (List.length a) c), (1, .slice a6 (List.length b) c7)] ⟨rfl, rfl, trivial⟩ fun ρ => ?_
  have X := But.refl emp w
  refine W_seq ?_
  refine W_region ?_
  refine LP_ev ok 0 [(4, .bool false)] 1 rfl rfl ?_
  refine LP_end _ rfl ?_
  refine W_seq ?_
  refine W_seq ?_
  refine W_region ?_
  refine LP_ev ok 0 [(6, .slice a1 (List.length a) c), (7, I (ln a)), (8, .slice a6 (List.length b) c7), (9, I (ln b)), (10, .bool ((ln a) != (ln b)))] 5 rfl rfl ?_
  refine LP_end _ rfl ?_
  refine W_cond ((ln a) != (ln b)) rfl (fun hc => ?_) (fun hc => ?_)
  · have H := H.1 hc
    refine W_seq ?_
    refine W_region ?_
    refine LP_ev ok 0 [(4, .bool false)] 1 rfl rfl ?_
    refine LP_end _ rfl ?_
    refine W_ret ?_
    exact ⟨_, Ret_of [.bool false] ⟨⟨rfl, rfl⟩, trivial⟩, _, H, rfl, X.ext⟩
  have H := H.2 hc
  refine W_skip ?_
  refine W_seq ?_
  refine W_seq ?_
  refine W_region ?_
  refine LP_ev ok 0 [(5, I 0)] 1 rfl rfl ?_
  refine LP_end _ rfl ?_
  refine W_block ?_
  obtain ⟨J, m, Hx, H⟩ := H
  refine W_loop (S := Int) (fun s ρ' w' => J s ∧ ∃ (ρ : Env), ρ' = setAll [(0, .slice a1 (List.length a) c), (1, .slice a6 (List.length b) c7), (5, I s)] ρ ∧ But emp w w' ∧ Sub hx w' ∧ Sub hx3 w') (fun s => m s) 0 ⟨Hx, _, env_eq ⟨rfl, rfl, rfl, trivial⟩, X, ex, ex5⟩ ?_
  rintro i _ wx ⟨Hi, ρ, rfl, X10, ex8, ex9⟩
  have H := H i Hi
  refine W_seq ?_
  refine W_seq ?_
  refine W_region ?_
  refine LP_ev ok 0 [(11, I i), (12, .slice a1 (List.length a) c), (13, I (ln a)), (14, .bool (decide (i < (ln a))))] 4 rfl rfl ?_
  refine LP_end _ rfl ?_
  refine W_cond (decide (i < (ln a))) rfl (fun hc11 => ?_) (fun hc11 => ?_)
  · have H := H.1 hc11
    refine W_skip ?_
    refine W_seq ?_
    refine W_block ?_
    refine W_seq ?_
    refine W_quiet mix (by kernel_rfl) ?_
    refine QP_ev ok 0 [(17, .slice a1 (List.length a) c), (18, I i)] 2 rfl rfl ?_
    obtain ⟨x, hi, hx12, H⟩ := H
    refine QP_index 2 rfl rfl rfl Try.underlying44 ti_34 rfl rfl r hi hx12 fun a13 cs r14 d => ?_
    refine QP_load 3 rfl rfl rfl ti_34 ag_34 rfl r14 d ex8 fun vx15 r16 => ?_
    obtain rfl := Frac_rv r16
    refine QP_ev ok 4 [(21, .slice a6 (List.length b) c7), (22, I i)] 6 rfl rfl ?_
    obtain ⟨x17, hi18, hx19, H⟩ := H
    refine QP_index 6 rfl rfl rfl Try.underlying44 ti_34 rfl rfl r4 hi18 hx19 fun a20 cs21 r22 d23 => ?_
    refine QP_load 7 rfl rfl rfl ti_34 ag_34 rfl r22 d23 ex9 fun vx24 r25 => ?_
    obtain rfl := Frac_rv r25
    obtain ⟨r26, Hd, H⟩ := H
    refine QP_call (.bool r26) 8 rfl rfl rfl cal_32 rfl (fun wx27 x28 => (laws_eqFrac_w _ _ _ Hd wx27 ).mono ?_) ?_
    · rintro _ _ ⟨_, rfl, rfl, x⟩; exact ⟨rfl, x⟩
    refine QP_ev ok 9 [(26, .bool (!r26))] 10 rfl rfl ?_
    refine QP_end _ rfl fun wx29 x30 => ?_
    refine W_cond (!r26) rfl (fun hc31 => ?_) (fun hc31 => ?_)
    · have H := H.1 hc31
      refine W_seq ?_
      refine W_region ?_
      refine LP_ev ok 0 [(4, .bool false)] 1 rfl rfl ?_
      refine LP_end _ rfl ?_
      refine W_ret ?_
      have X32 := (X10.stepx x30)
      exact ⟨_, Ret_of [.bool false] ⟨⟨rfl, rfl⟩, trivial⟩, _, H, rfl, X32.ext⟩
    have H := H.2 hc31
    refine W_skip ?_
    refine W_region ?_
    refine LP_ev ok 0 [(15, I i), (16, I (wr (i + 1))), (5, I (wr (i + 1)))] 3 rfl rfl ?_
    refine LP_end _ rfl ?_
    have X33 := (X10.stepx x30)
    have ex34 := (ex8.ext x30)
    have ex35 := (ex9.ext x30)
    exact ⟨wr (i + 1), ⟨H.1, _, env_eq ⟨rfl, rfl, rfl, trivial⟩, X33, ex34, ex35⟩, H.2⟩
  have H := H.2 hc11
  refine W_exit ?_
  refine (if_pos rfl).mpr ?_
  refine W_seq ?_
  refine W_region ?_
  refine LP_ev ok 0 [(4, .bool true)] 1 rfl rfl ?_
  refine LP_end _ rfl ?_
  refine W_ret ?_
  exact ⟨_, Ret_of [.bool true] ⟨⟨rfl, rfl⟩, trivial⟩, _, H, rfl, X10.ext⟩

set_option maxRecDepth 8000 in
set_option maxHeartbeats 4000000 in
theorem laws_markFracS_w (a : List Frac) (k : Int) (Q : Int → (List Frac) → Prop) (H : laws_markFracS a k Q) (w : World) {vx : Value} {hx : PH} (r : OS 34 hx emp vx a) (ex : Sub hx w) :
    CallsTo Try.prog 49 #[vx, I k] w fun v w' => ∃ r0 m0 g0, Q r0 m0 ∧ v = I r0 ∧ But hx w w' ∧ OS 34 g0 emp vx m0 ∧ Sub g0 w' ∧ (∀ n, DomLe hx n g0) := by
  obtain ⟨a1, c, rfl⟩ := r.shape
  refine enter (args := [.slice a1 (List.length a) c, I k]) 27 Try.func49 rfl rfl rfl ?_
  refine W_forget [(0, .slice a1 (List.length a) c), (1, I k)] ⟨rfl, rfl, trivial⟩ fun ρ => ?_
  have X := But.refl hx w
  refine W_seq ?_
  refine W_region ?_
  refine LP_ev ok 0 [(4, I 0)] 1 rfl rfl ?_
  refine LP_end _ rfl ?_
  refine W_seq ?_
  refine W_seq ?_
  refine W_region ?_
  refine LP_ev ok 0 [(5, I 0)] 1 rfl rfl ?_
  refine LP_end _ rfl ?_
  refine W_block ?_
  obtain ⟨J, m, Hx, H⟩ := H
  refine W_loop (S := (List Frac) × Int × Int) (fun s ρ' w' => J s.1 s.2.1 s.2.2 ∧ ∃ (ρ : Env) (hx4 : PH), ρ' = setAll [(0, .slice a1 (List.length a) c), (1, I s.2.1), (5, I s.2.2)] ρ ∧ But hx w w' ∧ OS 34 hx4 emp (.slice a1 (List.length a) c) s.1 ∧ Sub hx4 w' ∧ (∀ n, DomLe hx n hx4)) (fun s => m s.1 s.2.1 s.2.2) (a, k, 0) ⟨Hx, _, hx, env_eq ⟨rfl, rfl, rfl, trivial⟩, X, r, ex, (fun _ => DomLe.refl _ _)⟩ ?_
  rintro ⟨a2, k6, i⟩ _ wx ⟨Hi, ρ, hx4, rfl, X7, o, ex5, f⟩
  have H := H a2 k6 i Hi
  refine W_seq ?_
  refine W_seq ?_
  refine W_region ?_
  refine LP_ev ok 0 [(6, I i), (7, .slice a1 (List.length a) c), (8, I (ln a)), (9, .bool (decide (i < (ln a))))] 4 rfl rfl ?_
  refine LP_end _ rfl ?_
  refine W_cond (decide (i < (ln a))) rfl (fun hc => ?_) (fun hc => ?_)
  · have H := H.1 hc
    refine W_skip ?_
    refine W_seq ?_
    refine W_block ?_
    refine W_seq ?_
    refine W_region ?_
    refine LP_ev ok 0 [(12, .slice a1 (List.length a) c), (13, I i), (14, I k6)] 3 rfl rfl ?_
    obtain ⟨x, hi, hx8, H⟩ := H
    refine LP_indexf 3 rfl rfl rfl Try.underlying44 ti_34 rfl rfl o hi hx8 fun a9 wa => ?_
    refine LP_ev ok 4 [(16, .pointer (some (Addr.add a9 0)))] 5 rfl rfl ?_
    refine LP_setf 5 (x := x) (vs := [I k6]) (y := ({x with Num := k6} : Frac)) rfl rfl rfl ti_3 rfl rfl rfl rfl rfl rfl wa ex5 rfl fun hx10 wx11 o12 ex13 y dm => ?_
    refine LP_end _ rfl ?_
    refine W_seq ?_
    refine W_region ?_
    refine LP_ev ok 0 [(17, I k6), (18, I (wr (k6 + 1))), (1, I (wr (k6 + 1)))] 3 rfl rfl ?_
    refine LP_end _ rfl ?_
    refine W_seq ?_
    refine W_region ?_
    refine LP_ev ok 0 [(19, .slice a1 (List.length a) c), (20, I i), (21, I (wr (k6 + 1)))] 3 rfl rfl ?_
    obtain ⟨x14, hi15, hx16, H⟩ := H
    refine LP_indexf 3 rfl rfl rfl Try.underlying44 ti_34 rfl rfl o12 hi15 hx16 fun a17 wa18 => ?_
    refine LP_ev ok 4 [(23, .pointer (some (Addr.add a17 1)))] 5 rfl rfl ?_
    refine LP_setf 5 (x := x14) (vs := [I (wr (k6 + 1))]) (y := ({x14 with Den := wr (k6 + 1)} : Frac)) rfl rfl rfl ti_3 rfl rfl rfl rfl rfl rfl wa18 ex13 rfl fun hx19 wx20 o21 ex22 y23 dm24 => ?_
    refine LP_end _ rfl ?_
    refine W_region ?_
    refine LP_ev ok 0 [(24, I (wr (k6 + 1))), (25, I (wr ((wr (k6 + 1)) + 1))), (1, I (wr ((wr (k6 + 1)) + 1)))] 3 rfl rfl ?_
    refine LP_end _ rfl ?_
    refine W_region ?_
    refine LP_ev ok 0 [(10, I i), (11, I (wr (i + 1))), (5, I (wr (i + 1)))] 3 rfl rfl ?_
    refine LP_end _ rfl ?_
    try refine W_forget [(0, .slice a1 (List.length a) c), (1, I (wr ((wr (k6 + 1)) + 1))), (5, I (wr (i + 1)))] ⟨rfl, rfl, rfl, trivial⟩ fun ρ => ?_
    have X25 := ((X7.step y (f _)).step y23 (DomLe.trans (f _) (dm _) X7.size))
    exact ⟨(List.set (List.set a2 (Int.toNat i) ({x with Num := k6} : Frac)) (Int.toNat i) ({x14 with Den := wr (k6 + 1)} : Frac), wr ((wr (k6 + 1)) + 1), wr (i + 1)), ⟨H.1, _, hx19, env_eq ⟨rfl, rfl, rfl, trivial⟩, X25, o21, ex22, (fun _ => DomLe.trans (DomLe.trans (f _) ((dm _)) (Nat.le_refl _)) ((dm24 _)) (Nat.le_refl _))⟩, H.2⟩
  have H := H.2 hc
  refine W_exit ?_
  refine (if_pos rfl).mpr ?_
  refine W_seq ?_
  refine W_region ?_
  refine LP_ev ok 0 [(26, I k6), (4, I k6)] 2 rfl rfl ?_
  refine LP_end _ rfl ?_
  refine W_ret ?_
  exact ⟨_, Ret_of [I k6] ⟨⟨rfl, rfl⟩, trivial⟩, _, _, _, H, rfl, X7, o, ex5, (fun _ => f _)⟩

set_option maxRecDepth 8000 in
set_option maxHeartbeats 4000000 in
theorem laws_heldFracS_w (a : List Frac) (k : Int) (Q : Int → Prop) (H : laws_heldFracS a k Q) (w : World) {vx : Value} {hx : PH} (r : RS hx vx a) (ex : Sub hx w) :
    CallsTo Try.prog 52 #[vx, I k] w fun v w' => ∃ r0, Q r0 ∧ v = I r0 ∧ Ext w w' := by
  obtain ⟨a1, c, rfl⟩ := r.shape
  refine enter (args := [.slice a1 (List.length a) c, I k]) 31 Try.func52 rfl rfl rfl ?_
  refine W_forget [(0, .slice a1 (List.length a) c), (1, I k)] ⟨rfl, rfl, trivial⟩ fun ρ => ?_
  have X := But.refl emp w
  refine W_seq ?_
  refine W_region ?_
  refine LP_ev ok 0 [(4, I 0)] 1 rfl rfl ?_
  refine LP_end _ rfl ?_
  refine W_seq ?_
  refine W_seq ?_
  refine W_region ?_
  refine LP_ev ok 0 [(5, I 0)] 1 rfl rfl ?_
  refine LP_end _ rfl ?_
  refine W_block ?_
  obtain ⟨J, m, Hx, H⟩ := H
  refine W_loop (S := Int × Int) (fun s ρ' w' => J s.1 s.2 ∧ ∃ (ρ : Env), ρ' = setAll [(0, .slice a1 (List.length a) c), (1, I s.1), (5, I s.2)] ρ ∧ w = w') (fun s => m s.1 s.2) (k, 0) ⟨Hx, _, env_eq ⟨rfl, rfl, rfl, trivial⟩, rfl⟩ ?_
  rintro ⟨k2, i⟩ _ _ ⟨Hi, ρ, rfl, rfl⟩
  have H := H k2 i Hi
  refine W_seq ?_
  refine W_seq ?_
  refine W_region ?_
  refine LP_ev ok 0 [(6, I i), (7, .slice a1 (List.length a) c), (8, I (ln a)), (9, .bool (decide (i < (ln a))))] 4 rfl rfl ?_
  refine LP_end _ rfl ?_
  refine W_cond (decide (i < (ln a))) rfl (fun hc => ?_) (fun hc => ?_)
  · have H := H.1 hc
    refine W_skip ?_
    refine W_seq ?_
    refine W_block ?_
    refine W_seq ?_
    refine W_seq ?_
    refine W_region ?_
    refine LP_ev ok 0 [(12, .slice a1 (List.length a) c), (13, I i)] 2 rfl rfl ?_
    obtain ⟨x, hi, hx3, H⟩ := H
    refine LP_index 2 rfl rfl rfl Try.underlying44 ti_34 rfl rfl r hi hx3 fun a4 cs r5 d => ?_
    refine LP_ev ok 3 [(15, .pointer (some (Addr.add a4 0)))] 4 rfl rfl ?_
    refine LP_ldfld (x := x) (off := 0) 4 (v := I x.Num) rfl rfl rfl ti_3 ag_3 (fun _ => rfl) rfl r5 d ex rfl rfl ?_
    refine LP_ev ok 5 [(17, I k2), (18, .bool (x.Num != k2))] 7 rfl rfl ?_
    refine LP_end _ rfl ?_
    refine W_cond (x.Num != k2) rfl (fun hc6 => ?_) (fun hc6 => ?_)
    · have H := H.1 hc6
      refine W_seq ?_
      refine W_region ?_
      refine LP_ev ok 0 [(4, I ((-1)))] 1 rfl rfl ?_
      refine LP_end _ rfl ?_
      refine W_ret ?_
      exact ⟨_, Ret_of [I ((-1))] ⟨⟨rfl, rfl⟩, trivial⟩, _, H, rfl, X.ext⟩
    have H := H.2 hc6
    refine W_skip ?_
    refine W_seq ?_
    refine W_region ?_
    refine LP_ev ok 0 [(19, I k2), (20, I (wr (k2 + 1))), (1, I (wr (k2 + 1)))] 3 rfl rfl ?_
    refine LP_end _ rfl ?_
    refine W_seq ?_
    refine W_seq ?_
    refine W_region ?_
    refine LP_ev ok 0 [(21, .slice a1 (List.length a) c), (22, I i)] 2 rfl rfl ?_
    obtain ⟨x7, hi8, hx9, H⟩ := H
    refine LP_index 2 rfl rfl rfl Try.underlying44 ti_34 rfl rfl r hi8 hx9 fun a10 cs11 r12 d13 => ?_
    refine LP_ev ok 3 [(24, .pointer (some (Addr.add a10 1)))] 4 rfl rfl ?_
    refine LP_ldfld (x := x7) (off := 1) 4 (v := I x7.Den) rfl rfl rfl ti_3 ag_3 (fun _ => rfl) rfl r12 d13 ex rfl rfl ?_
    refine LP_ev ok 5 [(26, I (wr (k2 + 1))), (27, .bool (x7.Den != (wr (k2 + 1))))] 7 rfl rfl ?_
    refine LP_end _ rfl ?_
    refine W_cond (x7.Den != (wr (k2 + 1))) rfl (fun hc14 => ?_) (fun hc14 => ?_)
    · have H := H.1 hc14
      refine W_seq ?_
      refine W_region ?_
      refine LP_ev ok 0 [(4, I ((-1)))] 1 rfl rfl ?_
      refine LP_end _ rfl ?_
      refine W_ret ?_
      exact ⟨_, Ret_of [I ((-1))] ⟨⟨rfl, rfl⟩, trivial⟩, _, H, rfl, X.ext⟩
    have H := H.2 hc14
    refine W_skip ?_
    refine W_region ?_
    refine LP_ev ok 0 [(28, I (wr (k2 + 1))), (29, I (wr ((wr (k2 + 1)) + 1))), (1, I (wr ((wr (k2 + 1)) + 1)))] 3 rfl rfl ?_
    refine LP_end _ rfl ?_
    refine W_region ?_
    refine LP_ev ok 0 [(10, I i), (11, I (wr (i + 1))), (5, I (wr (i + 1)))] 3 rfl rfl ?_
    refine LP_end _ rfl ?_
    try refine W_forget [(0, .slice a1 (List.length a) c), (1, I (wr ((wr (k2 + 1)) + 1))), (5, I (wr (i + 1)))] ⟨rfl, rfl, rfl, trivial⟩ fun ρ => ?_
    exact ⟨(wr ((wr (k2 + 1)) + 1), wr (i + 1)), ⟨H.1, _, env_eq ⟨rfl, rfl, rfl, trivial⟩, rfl⟩, H.2⟩
  have H := H.2 hc
  refine W_exit ?_
  refine (if_pos rfl).mpr ?_
  refine W_seq ?_
  refine W_region ?_
  refine LP_ev ok 0 [(30, I k2), (4, I k2)] 2 rfl rfl ?_
  refine LP_end _ rfl ?_
  refine W_ret ?_
  exact ⟨_, Ret_of [I k2] ⟨⟨rfl, rfl⟩, trivial⟩, _, H, rfl, X.ext⟩

set_option maxRecDepth 8000 in
set_option maxHeartbeats 4000000 in
theorem laws_FnExactCountShares_w (aCounts : List Int) (Q : Bool → Prop) (H : laws_FnExactCountShares aCounts Q) (w : World) {vx : Value} {hx : PH} (r : RS hx vx aCounts) (ex : Sub hx w) :
    CallsTo Try.prog 11 #[vx] w fun v w' => ∃ r0, Q r0 ∧ v = .bool r0 ∧ Ext w w' := by
  obtain ⟨a, c, rfl⟩ := r.shape
  refine enter (args := [.slice a (List.length aCounts) c]) 93 Try.func11 rfl rfl rfl ?_
  refine W_forget [(0, .slice a (List.length aCounts) c)] ⟨rfl, trivial⟩ fun ρ => ?_
  have X := But.refl emp w
  refine W_seq ?_
  refine W_region ?_
  refine LP_ev ok 0 [(2, .bool false)] 1 rfl rfl ?_
  refine LP_end _ rfl ?_
  refine W_seq ?_
  refine W_seq ?_
  refine W_region ?_
  refine LP_ev ok 0 [(13, .slice a (List.length aCounts) c), (14, I (ln aCounts)), (15, .bool (decide ((ln aCounts) > 1048576)))] 3 rfl rfl ?_
  refine LP_end _ rfl ?_
  refine W_cond (decide ((ln aCounts) > 1048576)) rfl (fun hc => ?_) (fun hc => ?_)
  · have H := H.1 hc
    refine W_seq ?_
    refine W_region ?_
    refine LP_ev ok 0 [(2, .bool true)] 1 rfl rfl ?_
    refine LP_end _ rfl ?_
    refine W_ret ?_
    exact ⟨_, Ret_of [.bool true] ⟨⟨rfl, rfl⟩, trivial⟩, _, H, rfl, X.ext⟩
  have H := H.2 hc
  refine W_skip ?_
  refine W_seq ?_
  refine W_region ?_
  refine LP_ev ok 0 [(17, .slice a (List.length aCounts) c)] 1 rfl rfl ?_
  refine LP_call 1 rfl rfl rfl cal_26 rfl (laws_toIntS_w _ _ H w r ex) ?_
  rintro _ wx ⟨r1, vx2, hx3, H, rfl, x, o, ex4, f⟩
  obtain ⟨a5, c6, rfl⟩ := o.shape
  refine LP_call 2 rfl rfl rfl cal_50 rfl (spec_CountShares_w _ _ H wx o.readf ex4) ?_
  rintro _ wx9 ⟨r7, r8, vx11, hx12, H, rfl, x10, o13, ex14, f15⟩
  obtain ⟨a16, c17, rfl⟩ := o13.shape
  refine LP_ev ok 3 [(16, .tuple #[.slice a16 (List.length r7) c17, .bool r8]), (20, .slice a16 (List.length r7) c17), (21, .bool r8), (3, .slice a16 (List.length r7) c17), (4, .bool r8)] 8 rfl rfl ?_
  refine LP_end _ rfl ?_
  refine W_seq ?_
  refine W_region ?_
  refine LP_ev ok 0 [(22, .slice a (List.length aCounts) c)] 1 rfl rfl ?_
  have ex19 := ((ex.ext x).ext x10)
  refine LP_call 1 rfl rfl rfl cal_26 rfl (laws_toIntS_w _ _ H wx9 r ex19) ?_
  rintro _ wx20 ⟨r18, vx22, hx23, H, rfl, x21, o24, ex25, f26⟩
  obtain ⟨a27, c28, rfl⟩ := o24.shape
  refine LP_ev ok 2 [(5, .slice a27 (List.length r18) c28)] 3 rfl rfl ?_
  refine LP_end _ rfl ?_
  refine W_seq ?_
  refine W_region ?_
  refine LP_ev ok 0 [(25, .slice a27 (List.length r18) c28)] 1 rfl rfl ?_
  refine LP_call 1 rfl rfl rfl cal_51 rfl (impl_CountShares_w _ _ H wx20 o24.readf ex25) ?_
  rintro _ wx31 ⟨r29, r30, vx33, hx34, H, rfl, x32, o35, ex36, f37⟩
  obtain ⟨a38, c39, rfl⟩ := o35.shape
  refine LP_ev ok 2 [(24, .tuple #[.slice a38 (List.length r29) c39, .bool r30]), (27, .slice a38 (List.length r29) c39), (28, .bool r30), (6, .slice a38 (List.length r29) c39), (7, .bool r30)] 7 rfl rfl ?_
  refine LP_end _ rfl ?_
  refine W_seq ?_
  obtain ⟨k, hk, H⟩ := jn_elim H
  refine W_join2 (S := Bool) (fun s ρ' w' => k s ∧ ∃ (ρ : Env), ρ' = setAll [(0, .slice a (List.length aCounts) c), (3, .slice a16 (List.length r7) c17), (4, .bool r8), (5, .slice a27 (List.length r18) c28), (6, .slice a38 (List.length r29) c39), (7, .bool r30), (37, .bool s)] ρ ∧ But emp w w' ∧ Sub hx w' ∧ Sub hx12 w' ∧ Sub hx23 w' ∧ Sub hx34 w') ?_ ?_
  · refine W_region ?_
    refine LP_ev ok 0 [(29, .slice a38 (List.length r29) c39), (30, .slice a16 (List.length r7) c17)] 2 rfl rfl ?_
    have ex48 := ((ex14.ext x21).ext x32)
    refine LP_call 2 rfl rfl rfl cal_38 rfl (laws_eqFracS_w _ _ _ H wx31 o35.readf ex36 o13.readf ex48) ?_
    rintro _ wx49 ⟨r47, H, rfl, x50⟩
    refine LP_ev ok 3 [(32, .bool (!r47)), (33, .bool (!r47))] 5 rfl rfl ?_
    refine LP_split 33 (!r47) rfl (fun hc51 => ?_) (fun hc51 => ?_)
    · have H := H.1 hc51
      refine LP_ev ok 5 [(34, undef), (35, undef), (36, undef), (37, .bool true)] 9 rfl rfl ?_
      refine LP_end _ rfl ?_
      try refine W_forget [(0, .slice a (List.length aCounts) c), (3, .slice a16 (List.length r7) c17), (4, .bool r8), (5, .slice a27 (List.length r18) c28), (6, .slice a38 (List.length r29) c39), (7, .bool r30), (37, .bool true)] ⟨rfl, rfl, rfl, rfl, rfl, rfl, rfl, trivial⟩ fun ρ => ?_
      have X52 := (((((X.stepx x).stepx x10).stepx x21).stepx x32).stepx x50)
      have ex53 := (((ex19.ext x21).ext x32).ext x50)
      have ex54 := (ex48.ext x50)
      have ex55 := ((ex25.ext x32).ext x50)
      have ex56 := (ex36.ext x50)
      exact ⟨true, H, _, env_eq ⟨rfl, rfl, rfl, rfl, rfl, rfl, rfl, trivial⟩, X52, ex53, ex54, ex55, ex56⟩
    have H := H.2 hc51
    refine LP_ev ok 5 [(34, .bool r30), (35, .bool r8), (36, .bool (r30 != r8)), (37, .bool (r30 != r8))] 9 rfl rfl ?_
    refine LP_end _ rfl ?_
    try refine W_forget [(0, .slice a (List.length aCounts) c), (3, .slice a16 (List.length r7) c17), (4, .bool r8), (5, .slice a27 (List.length r18) c28), (6, .slice a38 (List.length r29) c39), (7, .bool r30), (37, .bool (r30 != r8))] ⟨rfl, rfl, rfl, rfl, rfl, rfl, rfl, trivial⟩ fun ρ => ?_
    have X57 := (((((X.stepx x).stepx x10).stepx x21).stepx x32).stepx x50)
    have ex58 := (((ex19.ext x21).ext x32).ext x50)
    have ex59 := (ex48.ext x50)
    have ex60 := ((ex25.ext x32).ext x50)
    have ex61 := (ex36.ext x50)
    exact ⟨r30 != r8, H, _, env_eq ⟨rfl, rfl, rfl, rfl, rfl, rfl, rfl, trivial⟩, X57, ex58, ex59, ex60, ex61⟩
  rintro x40 _ wx41 ⟨H, ρ, rfl, X46, ex42, ex43, ex44, ex45⟩
  subst hk
  refine W_cond (x40) rfl (fun hc62 => ?_) (fun hc62 => ?_)
  · have H := H.1 hc62
    refine W_seq ?_
    refine W_region ?_
    refine LP_ev ok 0 [(2, .bool false)] 1 rfl rfl ?_
    refine LP_end _ rfl ?_
    refine W_ret ?_
    exact ⟨_, Ret_of [.bool false] ⟨⟨rfl, rfl⟩, trivial⟩, _, H, rfl, X46.ext⟩
  have H := H.2 hc62
  refine W_skip ?_
  refine W_seq ?_
  refine W_seq ?_
  refine W_region ?_
  refine LP_ev ok 0 [(38, .slice a27 (List.length r18) c28), (39, .slice a (List.length aCounts) c)] 2 rfl rfl ?_
  refine LP_call 2 rfl rfl rfl cal_26 rfl (laws_toIntS_w _ _ H wx41 r ex42) ?_
  rintro _ wx64 ⟨r63, vx66, hx67, H, rfl, x65, o68, ex69, f70⟩
  obtain ⟨a71, c72, rfl⟩ := o68.shape
  have ex74 := (ex44.ext x65)
  refine LP_call 3 rfl rfl rfl cal_22 rfl (laws_eqIntS_w _ _ _ H wx64 o24.readf ex74 o68.readf ex69) ?_
  rintro _ wx75 ⟨r73, H, rfl, x76⟩
  refine LP_ev ok 4 [(42, .bool (!r73))] 5 rfl rfl ?_
  refine LP_end _ rfl ?_
  refine W_cond (!r73) rfl (fun hc77 => ?_) (fun hc77 => ?_)
  · have H := H.1 hc77
    refine W_seq ?_
    refine W_region ?_
    refine LP_ev ok 0 [(2, .bool false)] 1 rfl rfl ?_
    refine LP_end _ rfl ?_
    refine W_ret ?_
    have X78 := ((X46.stepx x65).stepx x76)
    exact ⟨_, Ret_of [.bool false] ⟨⟨rfl, rfl⟩, trivial⟩, _, H, rfl, X78.ext⟩
  have H := H.2 hc77
  refine W_skip ?_
  refine W_seq ?_
  refine W_region ?_
  refine LP_ev ok 0 [(8, I 1)] 1 rfl rfl ?_
  refine LP_end _ rfl ?_
  refine W_seq ?_
  refine W_region ?_
  refine LP_ev ok 0 [(43, .slice a27 (List.length r18) c28), (44, I 1)] 2 rfl rfl ?_
  have ex81 := (ex74.ext x76)
  refine LP_call 2 rfl rfl rfl cal_23 rfl (laws_markIntS_w _ _ _ H wx75 o24 ex81) ?_
  rintro _ wx82 ⟨r79, r80, hx84, H, rfl, x83, o85, ex86, dm⟩
  refine LP_ev ok 3 [(8, I r79)] 4 rfl rfl ?_
  refine LP_end _ rfl ?_
  refine W_seq ?_
  obtain ⟨k95, hk96, H⟩ := jn_elim H
  refine W_join2 (S := Bool) (fun s ρ' w' => k95 s ∧ ∃ (ρ : Env), ρ' = setAll [(0, .slice a (List.length aCounts) c), (3, .slice a16 (List.length r7) c17), (4, .bool r8), (6, .slice a38 (List.length r29) c39), (58, .bool s)] ρ ∧ But emp w w' ∧ Sub hx w' ∧ Sub hx12 w' ∧ Sub hx34 w') ?_ ?_
  · refine W_region ?_
    refine LP_ev ok 0 [(46, I r79), (47, .bool (decide (r79 < 0))), (48, .bool (decide (r79 < 0)))] 3 rfl rfl ?_
    refine LP_split 48 (decide (r79 < 0)) rfl (fun hc97 => ?_) (fun hc97 => ?_)
    · have H := H.1 hc97
      refine LP_ev ok 3 [(49, undef), (50, undef), (51, undef), (52, undef), (53, .bool true), (54, .bool true), (55, undef), (56, undef), (57, undef), (58, .bool true)] 13 rfl rfl ?_
      refine LP_end _ rfl ?_
      have X99 := ((X.stepx x).stepx x10)
      have f98 := f26.mono X99.size
      have X100 := (((X46.stepx x65).stepx x76).step x83 (f98.dom _))
      have ex101 := (((ex42.ext x65).ext x76).but x83 (Dj.of_fresh ex19 f26).symm)
      have ex102 := (((ex43.ext x65).ext x76).but x83 (Dj.of_fresh ex14 f26).symm)
      have ex103 := (((ex45.ext x65).ext x76).but x83 (Dj.of_fresh ex25 f37))
      exact ⟨true, H, _, env_eq ⟨rfl, rfl, rfl, rfl, rfl, trivial⟩, X100, ex101, ex102, ex103⟩
    have H := H.2 hc97
    refine LP_ev ok 3 [(49, .slice a38 (List.length r29) c39), (50, .slice a16 (List.length r7) c17)] 5 rfl rfl ?_
    have ex105 := (((ex45.ext x65).ext x76).but x83 (Dj.of_fresh ex25 f37))
    have ex106 := (((ex43.ext x65).ext x76).but x83 (Dj.of_fresh ex14 f26).symm)
    refine LP_call 5 rfl rfl rfl cal_38 rfl (laws_eqFracS_w _ _ _ H wx82 o35.readf ex105 o13.readf ex106) ?_
    rintro _ wx107 ⟨r104, H, rfl, x108⟩
    refine LP_ev ok 6 [(52, .bool (!r104)), (53, .bool (!r104)), (54, .bool (!r104))] 9 rfl rfl ?_
    refine LP_split 54 (!r104) rfl (fun hc109 => ?_) (fun hc109 => ?_)
    · have H := H.1 hc109
      refine LP_ev ok 9 [(55, undef), (56, undef), (57, undef), (58, .bool true)] 13 rfl rfl ?_
      refine LP_end _ rfl ?_
      have X111 := ((X.stepx x).stepx x10)
      have f110 := f26.mono X111.size
      have X112 := ((((X46.stepx x65).stepx x76).step x83 (f110.dom _)).stepx x108)
      have ex113 := ((((ex42.ext x65).ext x76).but x83 (Dj.of_fresh ex19 f26).symm).ext x108)
      have ex114 := (ex106.ext x108)
      have ex115 := (ex105.ext x108)
      exact ⟨true, H, _, env_eq ⟨rfl, rfl, rfl, rfl, rfl, trivial⟩, X112, ex113, ex114, ex115⟩
    have H := H.2 hc109
    refine LP_ev ok 9 [(55, .bool r30), (56, .bool r8), (57, .bool (r30 != r8)), (58, .bool (r30 != r8))] 13 rfl rfl ?_
    refine LP_end _ rfl ?_
    have X117 := ((X.stepx x).stepx x10)
    have f116 := f26.mono X117.size
    have X118 := ((((X46.stepx x65).stepx x76).step x83 (f116.dom _)).stepx x108)
    have ex119 := ((((ex42.ext x65).ext x76).but x83 (Dj.of_fresh ex19 f26).symm).ext x108)
    have ex120 := (ex106.ext x108)
    have ex121 := (ex105.ext x108)
    exact ⟨r30 != r8, H, _, env_eq ⟨rfl, rfl, rfl, rfl, rfl, trivial⟩, X118, ex119, ex120, ex121⟩
  rintro x89 _ wx90 ⟨H, ρ, rfl, X94, ex91, ex92, ex93⟩
  subst hk96
  refine W_cond (x89) rfl (fun hc122 => ?_) (fun hc122 => ?_)
  · have H := H.1 hc122
    refine W_seq ?_
    refine W_region ?_
    refine LP_ev ok 0 [(2, .bool false)] 1 rfl rfl ?_
    refine LP_end _ rfl ?_
    refine W_ret ?_
    exact ⟨_, Ret_of [.bool false] ⟨⟨rfl, rfl⟩, trivial⟩, _, H, rfl, X94.ext⟩
  have H := H.2 hc122
  refine W_skip ?_
  refine W_seq ?_
  refine W_region ?_
  refine LP_ev ok 0 [(9, I 1)] 1 rfl rfl ?_
  refine LP_end _ rfl ?_
  refine W_seq ?_
  refine W_region ?_
  refine LP_ev ok 0 [(59, .slice a38 (List.length r29) c39), (60, I 1)] 2 rfl rfl ?_
  refine LP_call 2 rfl rfl rfl cal_49 rfl (laws_markFracS_w _ _ _ H wx90 o35 ex93) ?_
  rintro _ wx125 ⟨r123, r124, hx127, H, rfl, x126, o128, ex129, dm130⟩
  refine LP_ev ok 3 [(9, I r123)] 4 rfl rfl ?_
  refine LP_end _ rfl ?_
  refine W_seq ?_
  refine W_region ?_
  refine LP_ev ok 0 [(10, I 1)] 1 rfl rfl ?_
  refine LP_end _ rfl ?_
  refine W_seq ?_
  refine W_region ?_
  refine LP_ev ok 0 [(62, .slice a38 (List.length r29) c39), (63, I 1)] 2 rfl rfl ?_
  refine LP_call 2 rfl rfl rfl cal_52 rfl (laws_heldFracS_w _ _ _ H wx125 o128.readf ex129) ?_
  rintro _ wx135 ⟨r134, H, rfl, x136⟩
  refine LP_ev ok 3 [(10, I r134)] 4 rfl rfl ?_
  refine LP_end _ rfl ?_
  refine W_seq ?_
  refine W_seq ?_
  refine W_region ?_
  refine LP_ev ok 0 [(65, I r134), (66, .bool (decide (r134 < 0)))] 2 rfl rfl ?_
  refine LP_end _ rfl ?_
  refine W_cond (decide (r134 < 0)) rfl (fun hc137 => ?_) (fun hc137 => ?_)
  · have H := H.1 hc137
    refine W_seq ?_
    refine W_region ?_
    refine LP_ev ok 0 [(2, .bool false)] 1 rfl rfl ?_
    refine LP_end _ rfl ?_
    refine W_ret ?_
    have X139 := (((X.stepx x).stepx x10).stepx x21)
    have f138 := f37.mono X139.size
    have X140 := ((X94.step x126 (f138.dom _)).stepx x136)
    exact ⟨_, Ret_of [.bool false] ⟨⟨rfl, rfl⟩, trivial⟩, _, H, rfl, X140.ext⟩
  have H := H.2 hc137
  refine W_skip ?_
  refine W_seq ?_
  refine W_seq ?_
  refine W_region ?_
  refine LP_ev ok 0 [(67, I r134), (68, I r123), (69, .bool (r134 != r123))] 3 rfl rfl ?_
  refine LP_end _ rfl ?_
  refine W_cond (r134 != r123) rfl (fun hc141 => ?_) (fun hc141 => ?_)
  · have H := H.1 hc141
    refine W_seq ?_
    refine W_region ?_
    refine LP_ev ok 0 [(2, .bool false)] 1 rfl rfl ?_
    refine LP_end _ rfl ?_
    refine W_ret ?_
    have X143 := (((X.stepx x).stepx x10).stepx x21)
    have f142 := f37.mono X143.size
    have X144 := ((X94.step x126 (f142.dom _)).stepx x136)
    exact ⟨_, Ret_of [.bool false] ⟨⟨rfl, rfl⟩, trivial⟩, _, H, rfl, X144.ext⟩
  have H := H.2 hc141
  refine W_skip ?_
  refine W_seq ?_
  refine W_region ?_
  refine LP_ev ok 0 [(71, .slice a (List.length aCounts) c)] 1 rfl rfl ?_
  have ex146 := (ex19.ext x21)
  have ex147 := ((ex91.but x126 (Dj.of_fresh ex146 f37).symm).ext x136)
  refine LP_call 1 rfl rfl rfl cal_26 rfl (laws_toIntS_w _ _ H wx135 r ex147) ?_
  rintro _ wx148 ⟨r145, vx150, hx151, H, rfl, x149, o152, ex153, f154⟩
  obtain ⟨a155, c156, rfl⟩ := o152.shape
  refine LP_call 2 rfl rfl rfl cal_51 rfl (impl_CountShares_w _ _ H wx148 o152.readf ex153) ?_
  rintro _ wx159 ⟨r157, r158, vx161, hx162, H, rfl, x160, o163, ex164, f165⟩
  obtain ⟨a166, c167, rfl⟩ := o163.shape
  refine LP_ev ok 3 [(70, .tuple #[.slice a166 (List.length r157) c167, .bool r158]), (74, .slice a166 (List.length r157) c167), (75, .bool r158), (11, .slice a166 (List.length r157) c167), (12, .bool r158)] 8 rfl rfl ?_
  refine LP_end _ rfl ?_
  refine W_seq ?_
  obtain ⟨k172, hk173, H⟩ := jn_elim H
  refine W_join2 (S := Bool) (fun s ρ' w' => k172 s ∧ ∃ (ρ : Env), ρ' = setAll [(6, .slice a38 (List.length r29) c39), (9, I r123), (84, .bool s)] ρ ∧ But emp w w' ∧ Sub hx127 w') ?_ ?_
  · refine W_region ?_
    refine LP_ev ok 0 [(76, .slice a166 (List.length r157) c167), (77, .slice a16 (List.length r7) c17)] 2 rfl rfl ?_
    have ex175 := (ex14.ext x21)
    have ex176 := ((((ex92.but x126 (Dj.of_fresh ex175 f37).symm).ext x136).ext x149).ext x160)
    refine LP_call 2 rfl rfl rfl cal_38 rfl (laws_eqFracS_w _ _ _ H wx159 o163.readf ex164 o13.readf ex176) ?_
    rintro _ wx177 ⟨r174, H, rfl, x178⟩
    refine LP_ev ok 3 [(79, .bool (!r174)), (80, .bool (!r174))] 5 rfl rfl ?_
    refine LP_split 80 (!r174) rfl (fun hc179 => ?_) (fun hc179 => ?_)
    · have H := H.1 hc179
      refine LP_ev ok 5 [(81, undef), (82, undef), (83, undef), (84, .bool true)] 9 rfl rfl ?_
      refine LP_end _ rfl ?_
      try refine W_forget [(6, .slice a38 (List.length r29) c39), (9, I r123), (84, .bool true)] ⟨rfl, rfl, rfl, trivial⟩ fun ρ => ?_
      have X181 := (((X.stepx x).stepx x10).stepx x21)
      have f180 := f37.mono X181.size
      have X182 := (((((X94.step x126 (f180.dom _)).stepx x136).stepx x149).stepx x160).stepx x178)
      have ex183 := ((((ex129.ext x136).ext x149).ext x160).ext x178)
      exact ⟨true, H, _, env_eq ⟨rfl, rfl, rfl, trivial⟩, X182, ex183⟩
    have H := H.2 hc179
    refine LP_ev ok 5 [(81, .bool r158), (82, .bool r8), (83, .bool (r158 != r8)), (84, .bool (r158 != r8))] 9 rfl rfl ?_
    refine LP_end _ rfl ?_
    try refine W_forget [(6, .slice a38 (List.length r29) c39), (9, I r123), (84, .bool (r158 != r8))] ⟨rfl, rfl, rfl, trivial⟩ fun ρ => ?_
    have X185 := (((X.stepx x).stepx x10).stepx x21)
    have f184 := f37.mono X185.size
    have X186 := (((((X94.step x126 (f184.dom _)).stepx x136).stepx x149).stepx x160).stepx x178)
    have ex187 := ((((ex129.ext x136).ext x149).ext x160).ext x178)
    exact ⟨r158 != r8, H, _, env_eq ⟨rfl, rfl, rfl, trivial⟩, X186, ex187⟩
  rintro x168 _ wx169 ⟨H, ρ, rfl, X171, ex170⟩
  subst hk173
  refine W_cond (x168) rfl (fun hc188 => ?_) (fun hc188 => ?_)
  · have H := H.1 hc188
    refine W_seq ?_
    refine W_region ?_
    refine LP_ev ok 0 [(2, .bool false)] 1 rfl rfl ?_
    refine LP_end _ rfl ?_
    refine W_ret ?_
    exact ⟨_, Ret_of [.bool false] ⟨⟨rfl, rfl⟩, trivial⟩, _, H, rfl, X171.ext⟩
  have H := H.2 hc188
  refine W_skip ?_
  refine W_seq ?_
  refine W_region ?_
  refine LP_ev ok 0 [(10, I 1)] 1 rfl rfl ?_
  refine LP_end _ rfl ?_
  refine W_seq ?_
  refine W_region ?_
  refine LP_ev ok 0 [(85, .slice a38 (List.length r29) c39), (86, I 1)] 2 rfl rfl ?_
  refine LP_call 2 rfl rfl rfl cal_52 rfl (laws_heldFracS_w _ _ _ H wx169 o128.readf ex170) ?_
  rintro _ wx190 ⟨r189, H, rfl, x191⟩
  refine LP_ev ok 3 [(10, I r189)] 4 rfl rfl ?_
  refine LP_end _ rfl ?_
  refine W_seq ?_
  refine W_seq ?_
  refine W_region ?_
  refine LP_ev ok 0 [(88, I r189), (89, .bool (decide (r189 < 0)))] 2 rfl rfl ?_
  refine LP_end _ rfl ?_
  refine W_cond (decide (r189 < 0)) rfl (fun hc192 => ?_) (fun hc192 => ?_)
  · have H := H.1 hc192
    refine W_seq ?_
    refine W_region ?_
    refine LP_ev ok 0 [(2, .bool false)] 1 rfl rfl ?_
    refine LP_end _ rfl ?_
    refine W_ret ?_
    have X193 := (X171.stepx x191)
    exact ⟨_, Ret_of [.bool false] ⟨⟨rfl, rfl⟩, trivial⟩, _, H, rfl, X193.ext⟩
  have H := H.2 hc192
  refine W_skip ?_
  refine W_seq ?_
  refine W_seq ?_
  refine W_region ?_
  refine LP_ev ok 0 [(90, I r189), (91, I r123), (92, .bool (r189 != r123))] 3 rfl rfl ?_
  refine LP_end _ rfl ?_
  refine W_cond (r189 != r123) rfl (fun hc194 => ?_) (fun hc194 => ?_)
  · have H := H.1 hc194
    refine W_seq ?_
    refine W_region ?_
    refine LP_ev ok 0 [(2, .bool false)] 1 rfl rfl ?_
    refine LP_end _ rfl ?_
    refine W_ret ?_
    have X195 := (X171.stepx x191)
    exact ⟨_, Ret_of [.bool false] ⟨⟨rfl, rfl⟩, trivial⟩, _, H, rfl, X195.ext⟩
  have H := H.2 hc194
  refine W_skip ?_
  refine W_seq ?_
  refine W_region ?_
  refine LP_ev ok 0 [(2, .bool true)] 1 rfl rfl ?_
  refine LP_end _ rfl ?_
  refine W_ret ?_
  have X196 := (X171.stepx x191)
  exact ⟨_, Ret_of [.bool true] ⟨⟨rfl, rfl⟩, trivial⟩, _, H, rfl, X196.ext⟩

set_option maxRecDepth 8000 in
set_option maxHeartbeats 4000000 in
theorem spec_fInt_w (n : Int) (Q : Frac → Prop) (H : spec_fInt n Q) (w : World)  :
    CallsTo Try.prog 111 #[I n] w fun v w' => ∃ r0, Q r0 ∧ v = .agg #[I r0.Num, I r0.Den] ∧ Ext w w' := by
  refine enter (args := [I n]) 5 Try.func111 rfl rfl rfl ?_
  refine W_forget [(0, I n)] ⟨rfl, trivial⟩ fun ρ => ?_
  have X := But.refl emp w
  refine W_seq ?_
  refine W_region ?_
  refine LP_alloc 0 rfl rfl rfl ti_34 rfl fun b wx x ex f => ?_
  refine LP_end _ rfl ?_
  refine W_seq ?_
  refine W_region ?_
  refine LP_ev ok 0 [(3, I n), (4, .agg #[I n, I 1])] 2 rfl rfl ?_
  refine LP_stbox 2 (vs := [I n, I 1]) (cs' := [I n, I 1]) rfl rfl rfl ti_34 rfl rfl rfl rfl rfl ex rfl rfl fun wx1 ex2 y => ?_
  refine LP_end _ rfl ?_
  refine W_ret ?_
  have f3 := f.mono X.size
  have X4 := ((X.stepx x).step y (f3.dom _))
  exact ⟨_, Ret_of [.agg #[I n, I 1]] ⟨⟨_, rfl, rfl, ld_res ti_34 ag_34 (fun h => by cases h) ex2 rfl rfl⟩, trivial⟩, _, H, rfl, X4.ext⟩

end Go.Proofs.Ytbegmfmabcpofaa
