/- The walks: each Go function does what its meaning says. -/
import Derived.Test.YtommbnkecafodaaRDefs
import Derived.Test.YtommbnkecafodaaProg
import Derived.KernelRfl
set_option linter.unusedVariables false
set_option autoImplicit false
namespace Go.Proofs.Ytommbnkecafodaa
open Go Go.RowKit Go.Gv

open Go.Proofs
set_option maxRecDepth 8000
set_option maxHeartbeats 4000000
def ty : Ty := Ty.of [(4, .bool), (22, .slice 3), (23, .slice 22)] [((29, 0), 0), ((29, 1), 1), ((29, 2), 2), ((29, 3), 3), ((55, 0), 0), ((55, 1), 1), ((85, 0), 0), ((85, 1), 4), ((85, 2), 5), ((85, 3), 6), ((93, 1), 1), ((93, 2), 2), ((93, 3), 3)] [(29, [.slice none 0 0, .slice none 0 0, .slice none 0 0, .slice none 0 0], [(0, 1), (1, 1), (2, 1), (3, 1)]), (55, [.int .i64 0, .int .i64 0], [(0, 1), (1, 1)]), (85, [.slice none 0 0, .slice none 0 0, .slice none 0 0, .slice none 0 0, .slice none 0 0, .slice none 0 0, .slice none 0 0], [(0, 4), (4, 1), (5, 1), (6, 1)]), (93, [.slice none 0 0, .slice none 0 0, .slice none 0 0, .int .i64 0], [(0, 1), (1, 1), (2, 1), (3, 1)])]
theorem fa29_0 : FldOk Try.prog 29 0 0 := fun _ _ => by kernel_rfl
theorem fa29_1 : FldOk Try.prog 29 1 1 := fun _ _ => by kernel_rfl
theorem fa29_2 : FldOk Try.prog 29 2 2 := fun _ _ => by kernel_rfl
theorem fa29_3 : FldOk Try.prog 29 3 3 := fun _ _ => by kernel_rfl
theorem fa55_0 : FldOk Try.prog 55 0 0 := fun _ _ => by kernel_rfl
theorem fa55_1 : FldOk Try.prog 55 1 1 := fun _ _ => by kernel_rfl
theorem fa85_0 : FldOk Try.prog 85 0 0 := fun _ _ => by kernel_rfl
theorem fa85_1 : FldOk Try.prog 85 1 4 := fun _ _ => by kernel_rfl
theorem fa85_2 : FldOk Try.prog 85 2 5 := fun _ _ => by kernel_rfl
theorem fa85_3 : FldOk Try.prog 85 3 6 := fun _ _ => by kernel_rfl
theorem fa93_1 : FldOk Try.prog 93 1 1 := fun _ _ => by kernel_rfl
theorem fa93_2 : FldOk Try.prog 93 2 2 := fun _ _ => by kernel_rfl
theorem fa93_3 : FldOk Try.prog 93 3 3 := fun _ _ => by kernel_rfl
theorem so29 : StrOk Try.prog 29 [.slice none 0 0, .slice none 0 0, .slice none 0 0, .slice none 0 0] [(0, 1), (1, 1), (2, 1), (3, 1)] := StrOk.of (zc := #[.slice none 0 0, .slice none 0 0, .slice none 0 0, .slice none 0 0]) Try.underlying29 (fun _ => by kernel_rfl) rfl (fun _ => by kernel_rfl)
theorem so55 : StrOk Try.prog 55 [.int .i64 0, .int .i64 0] [(0, 1), (1, 1)] := StrOk.of (zc := #[.int .i64 0, .int .i64 0]) Try.underlying55 (fun _ => by kernel_rfl) rfl (fun _ => by kernel_rfl)
theorem so85 : StrOk Try.prog 85 [.slice none 0 0, .slice none 0 0, .slice none 0 0, .slice none 0 0, .slice none 0 0, .slice none 0 0, .slice none 0 0] [(0, 4), (4, 1), (5, 1), (6, 1)] := StrOk.of (zc := #[.slice none 0 0, .slice none 0 0, .slice none 0 0, .slice none 0 0, .slice none 0 0, .slice none 0 0, .slice none 0 0]) Try.underlying85 (fun _ => by kernel_rfl) rfl (fun _ => by kernel_rfl)
theorem so93 : StrOk Try.prog 93 [.slice none 0 0, .slice none 0 0, .slice none 0 0, .int .i64 0] [(0, 1), (1, 1), (2, 1), (3, 1)] := StrOk.of (zc := #[.slice none 0 0, .slice none 0 0, .slice none 0 0, .int .i64 0]) Try.underlying93 (fun _ => by kernel_rfl) rfl (fun _ => by kernel_rfl)
theorem ok : TyOk Try.prog ty := .of ⟨Try.underlying4, Try.underlying22, Try.underlying23, trivial⟩ ⟨fa29_0, fa29_1, fa29_2, fa29_3, fa55_0, fa55_1, fa85_0, fa85_1, fa85_2, fa85_3, fa93_1, fa93_2, fa93_3, trivial⟩ ⟨so29, so55, so85, so93, trivial⟩
theorem ti_3 : TyI Try.prog 3 1 8 (.int .i64 0) := .mk' (by kernel_rfl) rfl
theorem ti_22 : TyI Try.prog 22 1 24 (.slice none 0 0) := .mk' (by kernel_rfl) rfl
theorem ti_23 : TyI Try.prog 23 1 24 (.slice none 0 0) := .mk' (by kernel_rfl) rfl
theorem ti_29 : TyI Try.prog 29 4 96 (.agg #[.slice none 0 0, .slice none 0 0, .slice none 0 0, .slice none 0 0]) := .mk' (by kernel_rfl) rfl
theorem ti_93 : TyI Try.prog 93 4 80 (.agg #[.slice none 0 0, .slice none 0 0, .slice none 0 0, .int .i64 0]) := .mk' (by kernel_rfl) rfl
theorem ag_3 : AggT Try.prog 3 false := ⟨_, Try.underlying3, by simp⟩
theorem ag_22 : AggT Try.prog 22 false := ⟨_, Try.underlying22, by simp⟩
theorem ag_23 : AggT Try.prog 23 false := ⟨_, Try.underlying23, by simp⟩
theorem ag_29 : AggT Try.prog 29 true := ⟨_, Try.underlying29, by simp⟩
theorem ag_93 : AggT Try.prog 93 true := ⟨_, Try.underlying93, by simp⟩
theorem mix : Try.prog.follows .mixedOrders = true := by kernel_rfl
theorem cal_8 : Callable Try.prog 8 := .mk Try.func8 rfl (by decide)
theorem cal_12 : Callable Try.prog 12 := .mk Try.func12 rfl (by decide)
theorem cal_14 : Callable Try.prog 14 := .mk Try.func14 rfl (by decide)
theorem cal_16 : Callable Try.prog 16 := .mk Try.func16 rfl (by decide)
theorem cal_17 : Callable Try.prog 17 := .mk Try.func17 rfl (by decide)
theorem cal_18 : Callable Try.prog 18 := .mk Try.func18 rfl (by decide)
theorem cal_31 : Callable Try.prog 31 := .mk Try.func31 rfl (by decide)
theorem cal_32 : Callable Try.prog 32 := .mk Try.func32 rfl (by decide)
theorem cal_33 : Callable Try.prog 33 := .mk Try.func33 rfl (by decide)
theorem cal_34 : Callable Try.prog 34 := .mk Try.func34 rfl (by decide)
theorem cal_35 : Callable Try.prog 35 := .mk Try.func35 rfl (by decide)
theorem cal_37 : Callable Try.prog 37 := .mk Try.func37 rfl (by decide)
theorem cal_38 : Callable Try.prog 38 := .mk Try.func38 rfl (by decide)
theorem cal_43 : Callable Try.prog 43 := .mk Try.func43 rfl (by decide)
theorem cal_44 : Callable Try.prog 44 := .mk Try.func44 rfl (by decide)
theorem cal_45 : Callable Try.prog 45 := .mk Try.func45 rfl (by decide)
theorem cal_46 : Callable Try.prog 46 := .mk Try.func46 rfl (by decide)
theorem cal_47 : Callable Try.prog 47 := .mk Try.func47 rfl (by decide)
theorem cal_49 : Callable Try.prog 49 := .mk Try.func49 rfl (by decide)
theorem cal_51 : Callable Try.prog 51 := .mk Try.func51 rfl (by decide)
theorem cal_54 : Callable Try.prog 54 := .mk Try.func54 rfl (by decide)
theorem cal_56 : Callable Try.prog 56 := .mk Try.func56 rfl (by decide)
theorem cal_59 : Callable Try.prog 59 := .mk Try.func59 rfl (by decide)
theorem cal_60 : Callable Try.prog 60 := .mk Try.func60 rfl (by decide)
theorem cal_63 : Callable Try.prog 63 := .mk Try.func63 rfl (by decide)
theorem cal_64 : Callable Try.prog 64 := .mk Try.func64 rfl (by decide)
theorem cal_65 : Callable Try.prog 65 := .mk Try.func65 rfl (by decide)
theorem cal_66 : Callable Try.prog 66 := .mk Try.func66 rfl (by decide)
theorem cal_67 : Callable Try.prog 67 := .mk Try.func67 rfl (by decide)
theorem cal_68 : Callable Try.prog 68 := .mk Try.func68 rfl (by decide)
theorem cal_69 : Callable Try.prog 69 := .mk Try.func69 rfl (by decide)
theorem cal_70 : Callable Try.prog 70 := .mk Try.func70 rfl (by decide)
theorem cal_72 : Callable Try.prog 72 := .mk Try.func72 rfl (by decide)
theorem cal_75 : Callable Try.prog 75 := .mk Try.func75 rfl (by decide)
theorem cal_78 : Callable Try.prog 78 := .mk Try.func78 rfl (by decide)
theorem cal_79 : Callable Try.prog 79 := .mk Try.func79 rfl (by decide)
theorem cal_80 : Callable Try.prog 80 := .mk Try.func80 rfl (by decide)
theorem cal_81 : Callable Try.prog 81 := .mk Try.func81 rfl (by decide)
theorem cal_82 : Callable Try.prog 82 := .mk Try.func82 rfl (by decide)
theorem cal_83 : Callable Try.prog 83 := .mk Try.func83 rfl (by decide)
theorem cal_84 : Callable Try.prog 84 := .mk Try.func84 rfl (by decide)
theorem cal_85 : Callable Try.prog 85 := .mk Try.func85 rfl (by decide)
theorem cal_86 : Callable Try.prog 86 := .mk Try.func86 rfl (by decide)
theorem cal_87 : Callable Try.prog 87 := .mk Try.func87 rfl (by decide)
theorem cal_88 : Callable Try.prog 88 := .mk Try.func88 rfl (by decide)
theorem cal_89 : Callable Try.prog 89 := .mk Try.func89 rfl (by decide)
theorem cal_90 : Callable Try.prog 90 := .mk Try.func90 rfl (by decide)
theorem cal_91 : Callable Try.prog 91 := .mk Try.func91 rfl (by decide)
theorem cal_97 : Callable Try.prog 97 := .mk Try.func97 rfl (by decide)
theorem cal_98 : Callable Try.prog 98 := .mk Try.func98 rfl (by decide)
theorem cal_99 : Callable Try.prog 99 := .mk Try.func99 rfl (by decide)
theorem cal_101 : Callable Try.prog 101 := .mk Try.func101 rfl (by decide)
theorem cal_102 : Callable Try.prog 102 := .mk Try.func102 rfl (by decide)
theorem cal_104 : Callable Try.prog 104 := .mk Try.func104 rfl (by decide)
theorem cal_105 : Callable Try.prog 105 := .mk Try.func105 rfl (by decide)
theorem cal_106 : Callable Try.prog 106 := .mk Try.func106 rfl (by decide)

theorem laws_szIntS_w (a : List Int) (left : Int) (Q : Int → Prop) (H : laws_szIntS a left Q) (w : World) {vx : Value} {hx : PH} (r : RS hx vx a) (ex : Sub hx w) :
  CallsTo Try.prog 31 #[vx, I left] w fun v w' => ∃ aB, Q aB ∧ v = I aB ∧ Ext w w' := by
 obtain ⟨aA, c, rfl⟩ := r.shape
 refine enter (args := [sl aA a c, I left]) 12 Try.func31 rfl rfl rfl ?_
 refine Wo [(0, sl aA a c), (1, I left)] ⟨rfl, rfl, trivial⟩ fun ρ => ?_
 have X := Br emp w
 refine Wq (Wg (Lv ok 0 [(4, I 0)] 1 rfl rfl (Ln _ rfl (Wq (Wg (Lv ok 0 [(5, I left), (6, sl aA a c), (7, I (ln a)), (8, I (wr (left - (ln a)))), (1, I (wr (left - (ln a))))] 5 rfl rfl (Ln _ rfl (Wq (Wq (Wg (Lv ok 0 [(9, I (wr (left - (ln a)))), (10, .bool (decide ((wr (left - (ln a))) < 0)))] 2 rfl rfl ?_)))))))))))
 refine Ln _ rfl ?_
 refine Wc (decide ((wr (left - (ln a))) < 0)) rfl (fun hc => ?_) (fun hc => ?_)
 ·have H := H.1 hc
  refine Wq (Wg (Lv ok 0 [(4, I ((-1)))] 1 rfl rfl (Ln _ rfl (W_ret ?_))))
  exact ⟨_, Ret_of [I ((-1))] ⟨⟨rfl, rfl⟩, trivial⟩, _, H, rfl, X.ext⟩
 have H := H.2 hc
 refine Wk (Wq (Wg (Lv ok 0 [(11, I (wr (left - (ln a)))), (4, I (wr (left - (ln a))))] 2 rfl rfl (Ln _ rfl (W_ret ?_)))))
 exact ⟨_, Ret_of [I (wr (left - (ln a)))] ⟨⟨rfl, rfl⟩, trivial⟩, _, H, rfl, X.ext⟩

theorem laws_szIntSS_w (a : List (List Int)) (left : Int) (Q : Int → Prop) (H : laws_szIntSS a left Q) (w : World) {vx : Value} {hx : PH} (r : RS hx vx a) (ex : Sub hx w) :
  CallsTo Try.prog 12 #[vx, I left] w fun v w' => ∃ aF, Q aF ∧ v = I aF ∧ Ext w w' := by
 obtain ⟨aA, c, rfl⟩ := r.shape
 refine enter (args := [sl aA a c, I left]) 27 Try.func12 rfl rfl rfl ?_
 refine Wo [(0, sl aA a c), (1, I left)] ⟨rfl, rfl, trivial⟩ fun ρ => ?_
 have X := Br emp w
 refine Wq (Wg (Lv ok 0 [(4, I 0)] 1 rfl rfl (Ln _ rfl (Wq (Wg (Lv ok 0 [(6, I left), (7, sl aA a c), (8, I (ln a)), (9, I (wr (left - (ln a)))), (1, I (wr (left - (ln a))))] 5 rfl rfl (Ln _ rfl (Wq (Wq (Wg (Lv ok 0 [(10, I (wr (left - (ln a)))), (11, .bool (decide ((wr (left - (ln a))) < 0)))] 2 rfl rfl ?_)))))))))))
 refine Ln _ rfl ?_
 refine Wc (decide ((wr (left - (ln a))) < 0)) rfl (fun hc => ?_) (fun hc => ?_)
 ·have H := H.1 hc
  refine Wq (Wg (Lv ok 0 [(4, I ((-1)))] 1 rfl rfl (Ln _ rfl (W_ret ?_))))
  exact ⟨_, Ret_of [I ((-1))] ⟨⟨rfl, rfl⟩, trivial⟩, _, H, rfl, X.ext⟩
 have H := H.2 hc
 refine Wk (Wq (Wq (Wg (Lv ok 0 [(5, I 0)] 1 rfl rfl (Ln _ rfl (W_block ?_))))))
 obtain ⟨J, m, Hx, H⟩ := H
 refine W_loop (S := Int × Int) (fun s ρ' w' => J s.1 s.2 ∧ ∃ (ρ : Env), ρ' = setAll [(0, sl aA a c), (1, I s.1), (5, I s.2)] ρ ∧ Ext w w') (fun s => m s.1 s.2) (wr (left - (ln a)), 0) ⟨Hx, _, Ee ⟨rfl, rfl, rfl, trivial⟩, (Ext.refl _)⟩ ?_
 rintro ⟨aB, i⟩ _ wx ⟨Hi, ρ, rfl, X3⟩
 have H := H aB i Hi
 refine Wq (Wq (Wg (Lv ok 0 [(12, I i), (13, sl aA a c), (14, I (ln a)), (15, .bool (decide (i < (ln a))))] 4 rfl rfl (Ln _ rfl ?_))))
 refine Wc (decide (i < (ln a))) rfl (fun aD => ?_) (fun aD => ?_)
 ·have H := H.1 aD
  refine Wk (Wq (W_block (Wq (Wg (Lv ok 0 [(18, sl aA a c), (19, I i)] 2 rfl rfl ?_)))))
  obtain ⟨x, hi, aJ, H⟩ := H
  refine Li 2 rfl rfl rfl Try.underlying23 ti_22 rfl rfl r hi aJ fun aM cs aK d => ?_
  have aG := (ex.ext X3)
  refine Lo 3 rfl rfl rfl ti_22 ag_22 rfl aK d aG fun aN aL => ?_
  have aH := aL.slice
  obtain ⟨aO, aP, rfl⟩ := aH.shape
  refine Lv ok 4 [(22, I aB)] 5 rfl rfl (Lc 5 rfl rfl rfl cal_31 rfl (laws_szIntS_w _ _ _ H wx aH aG) ?_)
  rintro _ aQ ⟨aC, H, rfl, aI⟩
  refine Lv ok 6 [(1, I aC)] 7 rfl rfl (Ln _ rfl (Wq (Wg (Lv ok 0 [(24, I aC), (25, .bool (decide (aC < 0)))] 2 rfl rfl (Ln _ rfl ?_)))))
  refine Wc (decide (aC < 0)) rfl (fun aE => ?_) (fun aE => ?_)
  ·have H := H.1 aE
   refine Wq (Wg (Lv ok 0 [(4, I ((-1)))] 1 rfl rfl (Ln _ rfl (W_ret ?_))))
   exact ⟨_, Ret_of [I ((-1))] ⟨⟨rfl, rfl⟩, trivial⟩, _, H, rfl, (X.stepx (X3.trans aI)).ext⟩
  have H := H.2 aE
  refine Wk (Wg (Lv ok 0 [(16, I i), (17, I (wr (i + 1))), (5, I (wr (i + 1)))] 3 rfl rfl ?_))
  exact Ln _ rfl ⟨(aC, wr (i + 1)), ⟨H.1, _, Ee ⟨rfl, rfl, rfl, trivial⟩, (X3.trans aI)⟩, H.2⟩
 have H := H.2 aD
 refine W_exit ?_
 refine (if_pos rfl).mpr ?_
 refine Wq (Wg (Lv ok 0 [(26, I aB), (4, I aB)] 2 rfl rfl (Ln _ rfl (W_ret ?_))))
 exact ⟨_, Ret_of [I aB] ⟨⟨rfl, rfl⟩, trivial⟩, _, H, rfl, (X.stepx X3).ext⟩

theorem laws_toIntS_w (a : List Int) (Q : (List Int) → Prop) (H : laws_toIntS a Q) (w : World) {vx : Value} {hx : PH} (r : RS hx vx a) (ex : Sub hx w) :
  CallsTo Try.prog 35 #[vx] w fun v w' => ∃ aG aH aF, Q aG ∧ v = aH ∧ Ext w w' ∧ OS 3 aF emp aH aG ∧ Sub aF w' ∧ Fresh w.heap.size aF := by
 obtain ⟨aC, c, rfl⟩ := r.shape
 refine enter (args := [sl aC a c]) 22 Try.func35 rfl rfl rfl ?_
 refine Wo [(0, sl aC a c)] ⟨rfl, trivial⟩ fun ρ => ?_
 have X := Br emp w
 refine Wq (Wg (Lv ok 0 [(2, .slice none 0 0)] 1 rfl rfl (Ln _ rfl (Wq (Wg (Lv ok 0 [(5, sl aC a c), (6, I (ln a))] 2 rfl rfl ?_))))))
 obtain ⟨hn, hb, H⟩ := H
 refine LP_make (α := Int) 2 rfl rfl rfl Try.underlying22 ti_3 (x0 := (0 : Int)) rfl rfl hn (by first | omega | (simp only [ln] at *; omega)) (by first | omega | (simp only [ln] at *; omega)) fun aD aW wx x o aM f => ?_
 obtain ⟨aA, aB, rfl⟩ := o.shape
 refine Lv ok 3 [(3, .slice aA (List.length (List.replicate (Int.toNat (ln a)) ((0 : Int)))) aB)] 4 rfl rfl (Ln _ rfl (Wq (Wq (Wg (Lv ok 0 [(4, I 0)] 1 rfl rfl (Ln _ rfl (W_block ?_)))))))
 obtain ⟨J, m, Hx, H⟩ := H
 refine W_loop (S := (List Int) × Int) (fun s ρ' w' => J s.1 s.2 ∧ ∃ (ρ : Env) (aE : PH), ρ' = setAll [(0, sl aC a c), (3, .slice aA (List.length (List.replicate (Int.toNat (ln a)) ((0 : Int)))) aB), (4, I s.2)] ρ ∧ But aD wx w' ∧ OS 3 aE emp (.slice aA (List.length (List.replicate (Int.toNat (ln a)) ((0 : Int)))) aB) s.1 ∧ Sub aE w' ∧ DomLe aD wx.heap.size aE) (fun s => m s.1 s.2) (List.replicate (Int.toNat (ln a)) ((0 : Int)), 0) ⟨Hx, _, aD, Ee ⟨rfl, rfl, rfl, trivial⟩, (Br _ _), o, aM, (Oe (Or _) _)⟩ ?_
 rintro ⟨out, i⟩ _ aX ⟨Hi, ρ, aE, rfl, X13, aI, aJ, aK⟩
 have H := H out i Hi
 refine Wq (Wq (Wg (Lv ok 0 [(8, I i), (9, sl aC a c), (10, I (ln a)), (11, .bool (decide (i < (ln a))))] 4 rfl rfl (Ln _ rfl ?_))))
 refine Wc (decide (i < (ln a))) rfl (fun hc => ?_) (fun hc => ?_)
 ·have H := H.1 hc
  refine Wk (Wq (W_block (Wg (Lv ok 0 [(14, .slice aA (List.length (List.replicate (Int.toNat (ln a)) ((0 : Int)))) aB), (15, I i), (16, sl aC a c), (17, I i)] 4 rfl rfl ?_))))
  obtain ⟨aN, hi, aO, H⟩ := H
  refine Li 4 rfl rfl rfl Try.underlying22 ti_3 rfl rfl r hi aO fun aY cs aP d => (Lo 5 rfl rfl rfl ti_3 ag_3 rfl aP d ((ex.ext x).but X13 (Df ex f).symm) fun aZ aQ => ?_)
  obtain rfl := aQ.int
  obtain ⟨aR, hl, H⟩ := H
  refine LP_indexw (v := .slice aA (List.length (List.replicate (Int.toNat (ln a)) ((0 : Int)))) aB) 6 rfl rfl rfl Try.underlying22 ti_3 rfl rfl aI aR hl fun a0 wa => (LP_set 7 rfl rfl rfl rfl rfl wa (Le.refl emp) ⟨_, rfl, rfl⟩ aJ fun aS a1 aT aU y dm => (Ln _ rfl (Wg (Lv ok 0 [(12, I i), (13, I (wr (i + 1))), (4, I (wr (i + 1)))] 3 rfl rfl (Ln _ rfl ?_)))))
  have dl : DomLe aD wx.heap.size aE := (Mt (Oe (Or _) _) aK (Nat.le_refl _))
  exact ⟨(List.set out (Int.toNat i) aN, wr (i + 1)), ⟨H.1, _, aS, Ee ⟨rfl, rfl, rfl, trivial⟩, (((Br aD _).step X13 (Oe (Or _) _)).step y dl), aT, aU, (Mt dl (dm _) X13.size)⟩, H.2⟩
 have H := H.2 hc
 refine W_exit ?_
 refine (if_pos rfl).mpr ?_
 refine Wq (Wg (Lv ok 0 [(21, .slice aA (List.length (List.replicate (Int.toNat (ln a)) ((0 : Int)))) aB), (2, .slice aA (List.length (List.replicate (Int.toNat (ln a)) ((0 : Int)))) aB)] 2 rfl rfl (Ln _ rfl (W_ret ?_))))
 have aL := f.mono X.size
 have X30 := (X.stepx x)
 have aV := DomLe.fresh aK aL X30.size
 exact ⟨_, Ret_of [.slice aA (List.length (List.replicate (Int.toNat (ln a)) ((0 : Int)))) aB] ⟨⟨rfl, rfl⟩, trivial⟩, _, _, _, H, rfl, (X30.step X13 (aL.dom _)).ext, aI, aJ, aV⟩

theorem laws_toIntSS_w (a : List (List Int)) (Q : (List (List Int)) → Prop) (H : laws_toIntSS a Q) (w : World) {vx : Value} {hx : PH} (r : RS hx vx a) (ex : Sub hx w) :
  CallsTo Try.prog 14 #[vx] w fun v w' => ∃ aH aI aF, Q aH ∧ v = aI ∧ Ext w w' ∧ OD aF aI aH ∧ Sub aF w' ∧ Fresh w.heap.size aF := by
 obtain ⟨aC, c, rfl⟩ := r.shape
 refine enter (args := [sl aC a c]) 23 Try.func14 rfl rfl rfl ?_
 refine Wo [(0, sl aC a c)] ⟨rfl, trivial⟩ fun ρ => ?_
 have X := Br emp w
 refine Wq (Wg (Lv ok 0 [(2, .slice none 0 0)] 1 rfl rfl (Ln _ rfl (Wq (Wg (Lv ok 0 [(5, sl aC a c), (6, I (ln a))] 2 rfl rfl ?_))))))
 obtain ⟨hn, hb, H⟩ := H
 refine LP_maked (β := Int) 2 rfl rfl rfl Try.underlying23 ti_22 rfl hn (by first | omega | (simp only [ln] at *; omega)) (by first | omega | (simp only [ln] at *; omega)) fun aD a3 wx x o aS f => ?_
 obtain ⟨aA, aB, rfl⟩ := o.shape
 refine Lv ok 3 [(3, .slice aA (List.length (List.replicate (Int.toNat (ln a)) (([] : List Int)))) aB)] 4 rfl rfl (Ln _ rfl (Wq (Wq (Wg (Lv ok 0 [(4, I 0)] 1 rfl rfl (Ln _ rfl (W_block ?_)))))))
 obtain ⟨J, m, Hx, H⟩ := H
 refine W_loop (S := (List (List Int)) × Int) (fun s ρ' w' => J s.1 s.2 ∧ ∃ (ρ : Env) (aE : PH), ρ' = setAll [(0, sl aC a c), (3, .slice aA (List.length (List.replicate (Int.toNat (ln a)) (([] : List Int)))) aB), (4, I s.2)] ρ ∧ But aD wx w' ∧ OD aE (.slice aA (List.length (List.replicate (Int.toNat (ln a)) (([] : List Int)))) aB) s.1 ∧ Sub aE w' ∧ DomLe aD wx.heap.size aE) (fun s => m s.1 s.2) (List.replicate (Int.toNat (ln a)) (([] : List Int)), 0) ⟨Hx, _, aD, Ee ⟨rfl, rfl, rfl, trivial⟩, (Br _ _), o, aS, (Oe (Or _) _)⟩ ?_
 rintro ⟨out, i⟩ _ aT ⟨Hi, ρ, aE, rfl, X13, aJ, aG, aK⟩
 have H := H out i Hi
 refine Wq (Wq (Wg (Lv ok 0 [(8, I i), (9, sl aC a c), (10, I (ln a)), (11, .bool (decide (i < (ln a))))] 4 rfl rfl (Ln _ rfl ?_))))
 refine Wc (decide (i < (ln a))) rfl (fun hc => ?_) (fun hc => ?_)
 ·have H := H.1 hc
  refine Wk (Wq (W_block (Wg (Lv ok 0 [(14, .slice aA (List.length (List.replicate (Int.toNat (ln a)) (([] : List Int)))) aB), (15, I i), (16, sl aC a c), (17, I i)] 4 rfl rfl ?_))))
  obtain ⟨a4, hi, aU, H⟩ := H
  refine Li 4 rfl rfl rfl Try.underlying23 ti_22 rfl rfl r hi aU fun a5 cs aV d => ?_
  have aL := ((ex.ext x).but X13 (Df ex f).symm)
  refine Lo 5 rfl rfl rfl ti_22 ag_22 rfl aV d aL fun a6 aW => ?_
  have aM := aW.slice
  obtain ⟨a7, a8, rfl⟩ := aM.shape
  refine Lc 6 rfl rfl rfl cal_35 rfl (laws_toIntS_w _ _ H aT aM aL) ?_
  rintro _ a9 ⟨aN, bA, bB, H, rfl, aO, aP, aX, aQ⟩
  obtain ⟨bC, bD, rfl⟩ := aP.shape
  obtain ⟨aY, hl, H⟩ := H
  refine LP_indexd (v := .slice aA (List.length (List.replicate (Int.toNat (ln a)) (([] : List Int)))) aB) 7 rfl rfl rfl Try.underlying23 ti_22 rfl rfl aJ aY hl fun bE wa => (LP_setD (y := aN) 8 rfl rfl rfl rfl rfl wa (OD.rvo (OS.od aP)) (aG.ext aO) aX (Df aG aQ) fun aZ hw bF a0 a1 y dh dq bG => (Ln _ rfl (Wg (Lv ok 0 [(12, I i), (13, I (wr (i + 1))), (4, I (wr (i + 1)))] 3 rfl rfl ?_))))
  refine Ln _ rfl ?_
  have dl : DomLe aD wx.heap.size aE := (Mt (Oe (Or _) _) aK (Nat.le_refl _))
  exact ⟨(List.set out (Int.toNat i) aN, wr (i + 1)), ⟨H.1, _, aZ, Ee ⟨rfl, rfl, rfl, trivial⟩, ((((Br aD _).step X13 (Oe (Or _) _)).stepx aO).step (But.dom y dh) dl), a0, a1, (Mt (Mu dl ((aQ.mono X13.size).dom _)) (Oe dq _) (Nat.le_refl _))⟩, H.2⟩
 have H := H.2 hc
 refine W_exit ?_
 refine (if_pos rfl).mpr ?_
 refine Wq (Wg (Lv ok 0 [(22, .slice aA (List.length (List.replicate (Int.toNat (ln a)) (([] : List Int)))) aB), (2, .slice aA (List.length (List.replicate (Int.toNat (ln a)) (([] : List Int)))) aB)] 2 rfl rfl (Ln _ rfl (W_ret ?_))))
 have aR := f.mono X.size
 have X46 := (X.stepx x)
 have a2 := DomLe.fresh aK aR X46.size
 exact ⟨_, Ret_of [.slice aA (List.length (List.replicate (Int.toNat (ln a)) (([] : List Int)))) aB] ⟨⟨rfl, rfl⟩, trivial⟩, _, _, _, H, rfl, (X46.step X13 (aR.dom _)).ext, aJ, aG, a2⟩

theorem spec_l1In_w (n : Int) (lo : Int) (hi : Int) (Q : Bool → Prop) (H : spec_l1In n lo hi Q) (w : World)  :
  CallsTo Try.prog 56 #[I n, I lo, I hi] w fun v w' => ∃ aA, Q aA ∧ v = .bool aA ∧ Ext w w' := by
 refine enter (args := [I n, I lo, I hi]) 15 Try.func56 rfl rfl rfl ?_
 refine Wo [(0, I n), (1, I lo), (2, I hi)] ⟨rfl, rfl, rfl, trivial⟩ fun ρ => ?_
 have X := Br emp w
 refine Wq (Wg (Lv ok 0 [(6, .bool false)] 1 rfl rfl (Ln _ rfl ?_)))
 obtain ⟨k, hk, H⟩ := jn_elim H
 refine W_join2 (S := Bool) (fun s ρ' w' => k s ∧ ∃ (ρ : Env), ρ' = setAll [(6, .bool s)] ρ ∧ w = w') ?_ ?_
 ·refine Wg (Lv ok 0 [(7, I n), (8, I lo), (9, .bool (decide (n ≥ lo))), (10, .bool (decide (n ≥ lo)))] 4 rfl rfl ?_)
  refine LP_split 10 (decide (n ≥ lo)) rfl (fun hc => ?_) (fun hc => ?_)
  ·have H := H.1 hc
   refine Lv ok 4 [(11, I n), (12, I hi), (13, .bool (decide (n ≤ hi))), (14, .bool (decide (n ≤ hi))), (6, .bool (decide (n ≤ hi)))] 9 rfl rfl ?_
   exact Ln _ rfl ⟨decide (n ≤ hi), H, _, Ee ⟨rfl, trivial⟩, rfl⟩
  have H := H.2 hc
  refine Lv ok 4 [(11, undef), (12, undef), (13, undef), (14, .bool false), (6, .bool false)] 9 rfl rfl ?_
  exact Ln _ rfl ⟨false, H, _, Ee ⟨rfl, trivial⟩, rfl⟩
 rintro x _ _ ⟨H, ρ, rfl, rfl⟩
 subst hk
 refine W_ret ?_
 exact ⟨_, Ret_of [.bool x] ⟨⟨rfl, rfl⟩, trivial⟩, _, H, rfl, X.ext⟩

theorem spec_l1All_w (l : List Int) (lo : Int) (hi : Int) (Q : Bool → Prop) (H : spec_l1All l lo hi Q) (w : World) {vx : Value} {hx : PH} (r : RS hx vx l) (ex : Sub hx w) :
  CallsTo Try.prog 68 #[vx, I lo, I hi] w fun v w' => ∃ aB, Q aB ∧ v = .bool aB ∧ Ext w w' := by
 obtain ⟨a, c, rfl⟩ := r.shape
 refine enter (args := [sl a l c, I lo, I hi]) 21 Try.func68 rfl rfl rfl ?_
 refine Wo [(0, sl a l c), (1, I lo), (2, I hi)] ⟨rfl, rfl, rfl, trivial⟩ fun ρ => ?_
 have X := Br emp w
 refine Wq (Wg (Lv ok 0 [(6, .bool false)] 1 rfl rfl (Ln _ rfl (Wq (Wq (Wg (Lv ok 0 [(9, sl a l c), (10, I (ln l)), (11, I 0)] 3 rfl rfl (Ln _ rfl (W_block ?_)))))))))
 obtain ⟨J, m, Hx, H⟩ := H
 refine W_loop (S := Int) (fun s ρ' w' => J s ∧ ∃ (ρ : Env), ρ' = setAll [(1, I lo), (2, I hi), (9, sl a l c), (10, I (ln l)), (11, I s)] ρ ∧ Ext w w') (fun s => m s) 0 ⟨Hx, _, Ee ⟨rfl, rfl, rfl, rfl, rfl, trivial⟩, (Ext.refl _)⟩ ?_
 rintro x _ wx ⟨Hi, ρ, rfl, X1⟩
 have H := H x Hi
 refine Wq (Wg (Lv ok 0 [(12, .bool (decide (x < (ln l))))] 1 rfl rfl (Ln _ rfl (Wq ?_))))
 refine Wc (decide (x < (ln l))) rfl (fun hc => ?_) (fun hc => ?_)
 ·have H := H.1 hc
  refine Wk (Wq (W_block (Wq (Wg ?_))))
  obtain ⟨aC, aF, aG, H⟩ := H
  refine Li 0 rfl rfl rfl Try.underlying22 ti_3 rfl rfl r aF aG fun aJ cs aH d => (Lo 1 rfl rfl rfl ti_3 ag_3 rfl aH d (ex.ext X1) fun aK aI => ?_)
  obtain rfl := aI.int
  refine Lv ok 2 [(8, I aC)] 3 rfl rfl (Ln _ rfl (Wq (Wg (Lv ok 0 [(15, I aC), (16, I lo), (17, I hi)] 3 rfl rfl (Lc 3 rfl rfl rfl cal_56 rfl (spec_l1In_w _ _ _ _ H wx ) ?_)))))
  rintro _ aL ⟨aD, H, rfl, aE⟩
  refine Lv ok 4 [(19, .bool (!aD))] 5 rfl rfl (Ln _ rfl ?_)
  refine Wc (!aD) rfl (fun aA => ?_) (fun aA => ?_)
  ·have H := H.1 aA
   refine Wq (Wg (Lv ok 0 [(6, .bool false)] 1 rfl rfl (Ln _ rfl (W_ret ?_))))
   exact ⟨_, Ret_of [.bool false] ⟨⟨rfl, rfl⟩, trivial⟩, _, H, rfl, (X.stepx (X1.trans aE)).ext⟩
  have H := H.2 aA
  refine Wk (Wg (Lv ok 0 [(20, I (wr (x + 1))), (11, I (wr (x + 1)))] 2 rfl rfl ?_))
  exact Ln _ rfl ⟨wr (x + 1), ⟨H.1, _, Ee ⟨rfl, rfl, rfl, rfl, rfl, trivial⟩, (X1.trans aE)⟩, H.2⟩
 have H := H.2 hc
 refine W_exit ?_
 refine (if_pos rfl).mpr ?_
 refine Wq (Wg (Lv ok 0 [(6, .bool true)] 1 rfl rfl (Ln _ rfl (W_ret ?_))))
 exact ⟨_, Ret_of [.bool true] ⟨⟨rfl, rfl⟩, trivial⟩, _, H, rfl, (X.stepx X1).ext⟩

theorem spec_oMatrix_w (x : List (List Int)) (Q : Bool → Prop) (H : spec_oMatrix x Q) (w : World) {vx : Value} {hx : PH} (r : RS hx vx x) (ex : Sub hx w) :
  CallsTo Try.prog 80 #[vx] w fun v w' => ∃ aO, Q aO ∧ v = .bool aO ∧ Ext w w' := by
 obtain ⟨a, c, rfl⟩ := r.shape
 refine enter (args := [sl a x c]) 36 Try.func80 rfl rfl rfl ?_
 refine Wo [(0, sl a x c)] ⟨rfl, trivial⟩ fun ρ => ?_
 have X := Br emp w
 refine Wq (Wg (Lv ok 0 [(2, .bool false)] 1 rfl rfl (Ln _ rfl (Wq ?_))))
 obtain ⟨k, hk, H⟩ := jn_elim H
 refine W_join2 (S := Bool) (fun s ρ' w' => k s ∧ ∃ (ρ : Env), ρ' = setAll [(0, sl a x c), (16, .bool s)] ρ ∧ Ext w w') ?_ ?_
 ·refine Wg (Lv ok 0 [(5, sl a x c), (6, I (ln x))] 2 rfl rfl (Lc 2 rfl rfl rfl cal_56 rfl (spec_l1In_w _ _ _ _ H w ) ?_))
  rintro _ aS ⟨aD, H, rfl, aE⟩
  refine Lv ok 3 [(8, .bool (!aD)), (9, .bool (!aD))] 5 rfl rfl ?_
  refine LP_split 9 (!aD) rfl (fun hc => ?_) (fun hc => ?_)
  ·have H := H.1 hc
   refine Lv ok 5 [(10, undef), (11, undef), (12, undef), (13, undef), (14, undef), (15, undef), (16, .bool true)] 12 rfl rfl ?_
   exact Ln _ rfl ⟨true, H, _, Ee ⟨rfl, rfl, trivial⟩, aE⟩
  have H := H.2 hc
  refine Lv ok 5 [(10, sl a x c)] 6 rfl rfl ?_
  obtain ⟨aT, hi, aU, H⟩ := H
  refine Li 6 rfl rfl rfl Try.underlying23 ti_22 rfl rfl r hi aU fun bF cs aV d => (Lo 7 rfl rfl rfl ti_22 ag_22 rfl aV d (ex.ext aE) fun bG aW => ?_)
  have aX := aW.slice
  obtain ⟨bH, bI, rfl⟩ := aX.shape
  refine Lv ok 8 [(13, I (ln aT))] 9 rfl rfl (Lc 9 rfl rfl rfl cal_56 rfl (spec_l1In_w _ _ _ _ H aS ) ?_)
  rintro _ bJ ⟨aF, H, rfl, aY⟩
  refine Lv ok 10 [(15, .bool (!aF)), (16, .bool (!aF))] 12 rfl rfl ?_
  exact Ln _ rfl ⟨!aF, H, _, Ee ⟨rfl, rfl, trivial⟩, (aE.trans aY)⟩
 rintro aZ _ wx ⟨H, ρ, rfl, X2⟩
 subst hk
 refine Wc (aZ) rfl (fun aG => ?_) (fun aG => ?_)
 ·have H := H.1 aG
  refine Wq (Wg (Lv ok 0 [(2, .bool false)] 1 rfl rfl (Ln _ rfl (W_ret ?_))))
  exact ⟨_, Ret_of [.bool false] ⟨⟨rfl, rfl⟩, trivial⟩, _, H, rfl, (X.stepx X2).ext⟩
 have H := H.2 aG
 refine Wk (Wq (Wq (Wg (Lv ok 0 [(17, sl a x c), (18, I (ln x)), (19, I 0)] 3 rfl rfl (Ln _ rfl (W_block ?_))))))
 obtain ⟨J, m, Hx, H⟩ := H
 refine W_loop (S := Int) (fun s ρ' w' => J s ∧ ∃ (ρ : Env), ρ' = setAll [(0, sl a x c), (17, sl a x c), (18, I (ln x)), (19, I s)] ρ ∧ Ext wx w') (fun s => m s) 0 ⟨Hx, _, Ee ⟨rfl, rfl, rfl, rfl, trivial⟩, (Ext.refl _)⟩ ?_
 rintro aA _ aP ⟨Hi, ρ, rfl, X23⟩
 have H := H aA Hi
 refine Wq (Wg (Lv ok 0 [(20, .bool (decide (aA < (ln x))))] 1 rfl rfl (Ln _ rfl (Wq ?_))))
 refine Wc (decide (aA < (ln x))) rfl (fun aH => ?_) (fun aH => ?_)
 ·have H := H.1 aH
  refine Wk (Wq (W_block (Wq (Wg ?_))))
  obtain ⟨aB, a0, a1, H⟩ := H
  refine Li 0 rfl rfl rfl Try.underlying23 ti_22 rfl rfl r a0 a1 fun bK bL a2 a3 => ?_
  have aQ := (X2.trans X23)
  have aI := (ex.ext aQ)
  refine Lo 1 rfl rfl rfl ti_22 ag_22 rfl a2 a3 aI fun bM a4 => ?_
  have aR := a4.slice
  obtain ⟨aJ, aK, rfl⟩ := aR.shape
  refine Lv ok 2 [(4, sl aJ aB aK)] 3 rfl rfl (Ln _ rfl ?_)
  obtain ⟨a5, a6, H⟩ := jn_elim H
  refine W_join2 (S := Bool) (fun s ρ' w' => a5 s ∧ ∃ (ρ : Env), ρ' = setAll [(0, sl a x c), (17, sl a x c), (18, I (ln x)), (19, I aA), (34, .bool s)] ρ ∧ Ext aP w') ?_ ?_
  ·refine Wg (Lv ok 0 [(23, sl aJ aB aK), (24, I (ln aB)), (25, sl a x c)] 3 rfl rfl ?_)
   obtain ⟨aC, a7, a8, H⟩ := H
   refine Li 3 rfl rfl rfl Try.underlying23 ti_22 rfl rfl r a7 a8 fun bN bO a9 bA => (Lo 4 rfl rfl rfl ti_22 ag_22 rfl a9 bA aI fun bP bB => ?_)
   have bC := bB.slice
   obtain ⟨bQ, bR, rfl⟩ := bC.shape
   refine Lv ok 5 [(28, I (ln aC)), (29, .bool ((ln aB) != (ln aC))), (30, .bool ((ln aB) != (ln aC)))] 8 rfl rfl ?_
   refine LP_split 30 ((ln aB) != (ln aC)) rfl (fun aL => ?_) (fun aL => ?_)
   ·have H := H.1 aL
    refine Lv ok 8 [(31, undef), (32, undef), (33, undef), (34, .bool true)] 12 rfl rfl ?_
    exact Ln _ rfl ⟨true, H, _, Ee ⟨rfl, rfl, rfl, rfl, rfl, trivial⟩, (Ext.refl _)⟩
   have H := H.2 aL
   refine Lv ok 8 [(31, sl aJ aB aK)] 9 rfl rfl (Lc 9 rfl rfl rfl cal_68 rfl (spec_l1All_w _ _ _ _ H aP aR aI) ?_)
   rintro _ bS ⟨aM, H, rfl, bD⟩
   refine Lv ok 10 [(33, .bool (!aM)), (34, .bool (!aM))] 12 rfl rfl ?_
   exact Ln _ rfl ⟨!aM, H, _, Ee ⟨rfl, rfl, rfl, rfl, rfl, trivial⟩, bD⟩
  rintro bE _ bT ⟨H, ρ, rfl, X42⟩
  subst a6
  refine Wc (bE) rfl (fun aN => ?_) (fun aN => ?_)
  ·have H := H.1 aN
   refine Wq (Wg (Lv ok 0 [(2, .bool false)] 1 rfl rfl (Ln _ rfl (W_ret ?_))))
   exact ⟨_, Ret_of [.bool false] ⟨⟨rfl, rfl⟩, trivial⟩, _, H, rfl, ((X.stepx aQ).stepx X42).ext⟩
  have H := H.2 aN
  refine Wk (Wg (Lv ok 0 [(35, I (wr (aA + 1))), (19, I (wr (aA + 1)))] 2 rfl rfl ?_))
  exact Ln _ rfl ⟨wr (aA + 1), ⟨H.1, _, Ee ⟨rfl, rfl, rfl, rfl, trivial⟩, (X23.trans X42)⟩, H.2⟩
 have H := H.2 aH
 refine W_exit ?_
 refine (if_pos rfl).mpr ?_
 refine Wq (Wg (Lv ok 0 [(2, .bool true)] 1 rfl rfl (Ln _ rfl (W_ret ?_))))
 exact ⟨_, Ret_of [.bool true] ⟨⟨rfl, rfl⟩, trivial⟩, _, H, rfl, (X.stepx (X2.trans X23)).ext⟩

theorem spec_oGood_w (x : List (List Int)) (base : Int) (Q : Bool → Prop) (H : spec_oGood x base Q) (w : World) {vx : Value} {hx : PH} (r : RS hx vx x) (ex : Sub hx w) :
  CallsTo Try.prog 43 #[vx, I base] w fun v w' => ∃ aC, Q aC ∧ v = .bool aC ∧ Ext w w' := by
 obtain ⟨a, c, rfl⟩ := r.shape
 refine enter (args := [sl a x c, I base]) 11 Try.func43 rfl rfl rfl ?_
 refine Wo [(0, sl a x c), (1, I base)] ⟨rfl, rfl, trivial⟩ fun ρ => ?_
 have X := Br emp w
 refine Wq (Wg (Lv ok 0 [(4, .bool false)] 1 rfl rfl (Ln _ rfl ?_)))
 obtain ⟨k, hk, H⟩ := jn_elim H
 refine W_join2 (S := Bool) (fun s ρ' w' => k s ∧ ∃ (ρ : Env), ρ' = setAll [(4, .bool s)] ρ ∧ Ext w w') ?_ ?_
 ·refine Wg (Lv ok 0 [(5, I base)] 1 rfl rfl (Lc 1 rfl rfl rfl cal_56 rfl (spec_l1In_w _ _ _ _ H w ) ?_))
  rintro _ aE ⟨aD, H, rfl, aA⟩
  refine Lv ok 2 [(7, .bool aD)] 3 rfl rfl ?_
  refine LP_split 7 (aD) rfl (fun hc => ?_) (fun hc => ?_)
  ·have H := H.1 hc
   refine Lv ok 3 [(8, sl a x c)] 4 rfl rfl (Lc 4 rfl rfl rfl cal_80 rfl (spec_oMatrix_w _ _ H aE r (ex.ext aA)) ?_)
   rintro _ aH ⟨aB, H, rfl, aF⟩
   refine Lv ok 5 [(10, .bool aB), (4, .bool aB)] 7 rfl rfl ?_
   exact Ln _ rfl ⟨aB, H, _, Ee ⟨rfl, trivial⟩, (aA.trans aF)⟩
  have H := H.2 hc
  refine Lv ok 3 [(8, undef), (9, undef), (10, .bool false), (4, .bool false)] 7 rfl rfl ?_
  exact Ln _ rfl ⟨false, H, _, Ee ⟨rfl, trivial⟩, aA⟩
 rintro aG _ wx ⟨H, ρ, rfl, X2⟩
 subst hk
 refine W_ret ?_
 exact ⟨_, Ret_of [.bool aG] ⟨⟨rfl, rfl⟩, trivial⟩, _, H, rfl, (X.stepx X2).ext⟩

theorem spec_l1Own_w (l : List Int) (Q : (List Int) → Prop) (H : spec_l1Own l Q) (w : World) {vx : Value} {hx : PH} (r : RS hx vx l) (ex : Sub hx w) :
  CallsTo Try.prog 97 #[vx] w fun v w' => ∃ aB aC aA, Q aB ∧ v = aC ∧ Ext w w' ∧ OS 3 aA emp aC aB ∧ Sub aA w' ∧ Fresh w.heap.size aA := by
 obtain ⟨a, c, rfl⟩ := r.shape
 refine enter (args := [sl a l c]) 6 Try.func97 rfl rfl rfl ?_
 refine Wo [(0, sl a l c)] ⟨rfl, trivial⟩ fun ρ => ?_
 have X := Br emp w
 refine Wq (Wg (Lv ok 0 [(2, .slice none 0 0)] 1 rfl rfl (Ln _ rfl (Wq (Wg (LP_lit (α := Int) (g := emp) 0 (vs := []) (xs := []) rfl rfl rfl Try.underlying22 ti_3 rfl rfl trivial rfl rfl fun aK aL wx x o aH f => ?_))))))
 obtain ⟨aM, aN, rfl⟩ := o.shape
 refine Lv ok 1 [(4, sl a l c)] 2 rfl rfl ?_
 obtain ⟨hb, H⟩ := H
 refine LP_appendf (α := Int) 2 rfl rfl rfl Try.underlying22 ti_3 rfl rfl rfl o aH r (ex.ext x) (by first | omega | (simp only [ln] at *; omega)) (by first | omega | (simp only [ln] at *; omega)) fun aO aP aQ aD aI y dm => ?_
 obtain ⟨aE, aF, rfl⟩ := aD.shape
 refine Lv ok 3 [(2, .slice aE (List.length ((([] : List Int)) ++ l)) aF)] 4 rfl rfl (Ln _ rfl (W_ret ?_))
 have aG := f.mono X.size
 have X16 := (X.stepx x)
 have aJ := dm.fresh aG X16.size
 exact ⟨_, Ret_of [.slice aE (List.length ((([] : List Int)) ++ l)) aF] ⟨⟨rfl, rfl⟩, trivial⟩, _, _, _, H, rfl, (X16.step y (aG.dom _)).ext, aD, aI, aJ⟩

theorem spec_tOwn_w (x : List (List Int)) (Q : (List (List Int)) → Prop) (H : spec_tOwn x Q) (w : World) {vx : Value} {hx : PH} (r : RS hx vx x) (ex : Sub hx w) :
  CallsTo Try.prog 59 #[vx] w fun v w' => ∃ aJ aK aH, Q aJ ∧ v = aK ∧ Ext w w' ∧ OD aH aK aJ ∧ Sub aH w' ∧ Fresh w.heap.size aH := by
 obtain ⟨a, c, rfl⟩ := r.shape
 refine enter (args := [sl a x c]) 19 Try.func59 rfl rfl rfl ?_
 refine Wo [(0, sl a x c)] ⟨rfl, trivial⟩ fun ρ => ?_
 have X := Br emp w
 refine Wq (Wg (Lv ok 0 [(2, .slice none 0 0)] 1 rfl rfl (Ln _ rfl (Wq (Wg (Lv ok 0 [(3, .slice none 0 0)] 1 rfl rfl (Ln _ rfl (Wq (Wq (Wg (Lv ok 0 [(6, sl a x c), (7, I (ln x)), (8, I 0)] 3 rfl rfl ?_)))))))))))
 refine Ln _ rfl (W_block ?_)
 obtain ⟨J, m, Hx, H⟩ := H
 refine W_loop (S := (List (List Int)) × Int) (fun s ρ' w' => J s.1 s.2 ∧ ∃ (ρ : Env) (aI : Value) (aB : PH), ρ' = setAll [(3, aI), (6, sl a x c), (7, I (ln x)), (8, I s.2)] ρ ∧ Ext w w' ∧ OD aB aI s.1 ∧ Sub aB w' ∧ DomLe emp w.heap.size aB) (fun s => m s.1 s.2) ([], 0) ⟨Hx, _, .slice none 0 0, emp, Ee ⟨rfl, rfl, rfl, rfl, trivial⟩, (Ext.refl _), OD.nil, (emp_sub _), (fun _ _ _ => rfl)⟩ ?_
 rintro ⟨out, aA⟩ _ wx ⟨Hi, ρ, aI, aB, rfl, X7, o, aD, f⟩
 have H := H out aA Hi
 obtain ⟨aE, aF, rfl⟩ := o.shape
 refine Wq (Wg (Lv ok 0 [(9, .bool (decide (aA < (ln x))))] 1 rfl rfl (Ln _ rfl (Wq ?_))))
 refine Wc (decide (aA < (ln x))) rfl (fun hc => ?_) (fun hc => ?_)
 ·have H := H.1 hc
  refine Wk (Wq (W_block (Wq (Wg ?_))))
  obtain ⟨aL, hi, aY, H⟩ := H
  refine Li 0 rfl rfl rfl Try.underlying23 ti_22 rfl rfl r hi aY fun bA cs aZ d => ?_
  have aM := (ex.ext X7)
  refine Lo 1 rfl rfl rfl ti_22 ag_22 rfl aZ d aM fun bB a0 => ?_
  have aN := a0.slice
  obtain ⟨aO, aP, rfl⟩ := aN.shape
  refine Lv ok 2 [(5, sl aO aL aP)] 3 rfl rfl (Ln _ rfl (Wg (Lv ok 0 [(12, sl aE out aF), (13, sl aO aL aP)] 2 rfl rfl (Lc 2 rfl rfl rfl cal_97 rfl (spec_l1Own_w _ _ H wx aN aM) ?_))))
  rintro _ bC ⟨aC, bD, bE, H, rfl, aG, aQ, a1, aR⟩
  obtain ⟨a2, a3, rfl⟩ := aQ.shape
  refine LP_litD (α := List Int) 3 (vs := [sl a2 aC a3]) (xs := [aC]) rfl rfl rfl Try.underlying23 ti_22 rfl rfl (allO.one (OD.rvo (OS.od aQ))) a1 rfl rfl fun bF bG bH aS aT a4 dm => ?_
  obtain ⟨bI, bJ, rfl⟩ := aT.shape
  have dj := (Df aD aR).symm
  have a5 := (Mj dm dj (aD.ext aG)).symm
  obtain ⟨hb, H⟩ := H
  refine LP_appendD (α := List Int) 4 rfl rfl rfl Try.underlying23 ti_22 rfl rfl rfl o (aD.ext (aG.trans aS)) aT a4 a5 (by first | omega | (simp only [ln] at *; omega)) (by first | omega | (simp only [ln] at *; omega)) fun a6 bK bL hw aU a7 y dh a8 => ?_
  obtain ⟨aV, aW, rfl⟩ := aU.shape
  refine Lv ok 5 [(3, .slice aV (List.length (out ++ ([aC]))) aW)] 6 rfl rfl (Ln _ rfl (Wg (Lv ok 0 [(17, I (wr (aA + 1))), (8, I (wr (aA + 1)))] 2 rfl rfl (Ln _ rfl ?_))))
  have aX := ((X7.trans aG).trans aS)
  have dl : Fresh w.heap.size aB := (DomLe.fresh f (emp_fresh _) (Nat.le_refl _))
  exact ⟨(out ++ ([aC]), wr (aA + 1)), ⟨H.1, _, .slice aV (List.length (out ++ ([aC]))) aW, a6, Ee ⟨rfl, rfl, rfl, rfl, trivial⟩, But.ext (((Br emp _).stepx aX).step (But.dom y dh) (dl.dom _)), aU, a7, ((DomLe.fresh a8 (Fresh.un dl (DomLe.fresh dm (aR.mono X7.size) (X7.trans aG).size)) aX.size).dom _)⟩, H.2⟩
 have H := H.2 hc
 refine W_exit ?_
 refine (if_pos rfl).mpr ?_
 refine Wq (Wg (Lv ok 0 [(18, sl aE out aF), (2, sl aE out aF)] 2 rfl rfl (Ln _ rfl (W_ret ?_))))
 have a9 := DomLe.fresh f (emp_fresh _) X.size
 exact ⟨_, Ret_of [sl aE out aF] ⟨⟨rfl, rfl⟩, trivial⟩, _, _, _, H, rfl, (X.stepx X7).ext, o, aD, a9⟩

theorem spec_tSum_w (l : List Int) (Q : Int → Prop) (H : spec_tSum l Q) (w : World) {vx : Value} {hx : PH} (r : RS hx vx l) (ex : Sub hx w) :
  CallsTo Try.prog 67 #[vx] w fun v w' => ∃ aB, Q aB ∧ v = I aB ∧ Ext w w' := by
 obtain ⟨a, c, rfl⟩ := r.shape
 refine enter (args := [sl a l c]) 17 Try.func67 rfl rfl rfl ?_
 refine Wo [(0, sl a l c)] ⟨rfl, trivial⟩ fun ρ => ?_
 have X := Br emp w
 refine Wq (Wg (Lv ok 0 [(2, I 0)] 1 rfl rfl (Ln _ rfl (Wq (Wg (Lv ok 0 [(3, I 0)] 1 rfl rfl (Ln _ rfl (Wq (Wq (Wg (Lv ok 0 [(6, sl a l c), (7, I (ln l)), (8, I 0)] 3 rfl rfl ?_)))))))))))
 refine Ln _ rfl (W_block ?_)
 obtain ⟨J, m, Hx, H⟩ := H
 refine W_loop (S := Int × Int) (fun s ρ' w' => J s.1 s.2 ∧ ∃ (ρ : Env), ρ' = setAll [(3, I s.1), (6, sl a l c), (7, I (ln l)), (8, I s.2)] ρ ∧ w = w') (fun s => m s.1 s.2) (0, 0) ⟨Hx, _, Ee ⟨rfl, rfl, rfl, rfl, trivial⟩, rfl⟩ ?_
 rintro ⟨sum, x⟩ _ _ ⟨Hi, ρ, rfl, rfl⟩
 have H := H sum x Hi
 refine Wq (Wg (Lv ok 0 [(9, .bool (decide (x < (ln l))))] 1 rfl rfl (Ln _ rfl (Wq ?_))))
 refine Wc (decide (x < (ln l))) rfl (fun hc => ?_) (fun hc => ?_)
 ·have H := H.1 hc
  refine Wk (Wq (W_block (Wq (Wg ?_))))
  obtain ⟨aA, hi, aC, H⟩ := H
  refine Li 0 rfl rfl rfl Try.underlying22 ti_3 rfl rfl r hi aC fun aF cs aD d => (Lo 1 rfl rfl rfl ti_3 ag_3 rfl aD d ex fun aG aE => ?_)
  obtain rfl := aE.int
  refine Lv ok 2 [(5, I aA)] 3 rfl rfl (Ln _ rfl (Wg (Lv ok 0 [(12, I sum), (13, I aA), (14, I (wr (sum + aA))), (3, I (wr (sum + aA)))] 4 rfl rfl (Ln _ rfl (Wg (Lv ok 0 [(15, I (wr (x + 1))), (8, I (wr (x + 1)))] 2 rfl rfl ?_))))))
  exact Ln _ rfl ⟨(wr (sum + aA), wr (x + 1)), ⟨H.1, _, Ee ⟨rfl, rfl, rfl, rfl, trivial⟩, rfl⟩, H.2⟩
 have H := H.2 hc
 refine W_exit ?_
 refine (if_pos rfl).mpr ?_
 refine Wq (Wg (Lv ok 0 [(16, I sum), (2, I sum)] 2 rfl rfl (Ln _ rfl (W_ret ?_))))
 exact ⟨_, Ret_of [I sum] ⟨⟨rfl, rfl⟩, trivial⟩, _, H, rfl, X.ext⟩

theorem spec_tColumn_w (x : List (List Int)) (j : Int) (Q : (List Int) → Prop) (H : spec_tColumn x j Q) (w : World) {vx : Value} {hx : PH} (r : RS hx vx x) (ex : Sub hx w) :
  CallsTo Try.prog 75 #[vx, I j] w fun v w' => ∃ aH aI aF, Q aH ∧ v = aI ∧ Ext w w' ∧ OS 3 aF emp aI aH ∧ Sub aF w' ∧ Fresh w.heap.size aF := by
 obtain ⟨a, c, rfl⟩ := r.shape
 refine enter (args := [sl a x c, I j]) 23 Try.func75 rfl rfl rfl ?_
 refine Wo [(0, sl a x c), (1, I j)] ⟨rfl, rfl, trivial⟩ fun ρ => ?_
 have X := Br emp w
 refine Wq (Wg (Lv ok 0 [(4, .slice none 0 0)] 1 rfl rfl (Ln _ rfl (Wq (Wg (Lv ok 0 [(5, .slice none 0 0)] 1 rfl rfl (Ln _ rfl (Wq (Wq (Wg (Lv ok 0 [(8, sl a x c), (9, I (ln x)), (10, I 0)] 3 rfl rfl ?_)))))))))))
 refine Ln _ rfl (W_block ?_)
 obtain ⟨J, m, Hx, H⟩ := H
 refine W_loop (S := (List Int) × Int) (fun s ρ' w' => J s.1 s.2 ∧ ∃ (ρ : Env) (aG : Value) (aB : PH), ρ' = setAll [(1, I j), (5, aG), (8, sl a x c), (9, I (ln x)), (10, I s.2)] ρ ∧ Ext w w' ∧ OS 3 aB emp aG s.1 ∧ Sub aB w' ∧ DomLe emp w.heap.size aB) (fun s => m s.1 s.2) ([], 0) ⟨Hx, _, .slice none 0 0, emp, Ee ⟨rfl, rfl, rfl, rfl, rfl, trivial⟩, (Ext.refl _), OS.nil, (emp_sub _), (fun _ _ _ => rfl)⟩ ?_
 rintro ⟨out, aA⟩ _ wx ⟨Hi, ρ, aG, aB, rfl, X7, o, aJ, f⟩
 have H := H out aA Hi
 obtain ⟨aD, aE, rfl⟩ := o.shape
 refine Wq (Wg (Lv ok 0 [(11, .bool (decide (aA < (ln x))))] 1 rfl rfl (Ln _ rfl (Wq ?_))))
 refine Wc (decide (aA < (ln x))) rfl (fun hc => ?_) (fun hc => ?_)
 ·have H := H.1 hc
  refine Wk (Wq (W_block (Wq (Wg ?_))))
  obtain ⟨aK, hi, aU, H⟩ := H
  refine Li 0 rfl rfl rfl Try.underlying23 ti_22 rfl rfl r hi aU fun a6 cs aV d => ?_
  have aL := (ex.ext X7)
  refine Lo 1 rfl rfl rfl ti_22 ag_22 rfl aV d aL fun a7 aW => ?_
  have aM := aW.slice
  obtain ⟨aN, aO, rfl⟩ := aM.shape
  refine Lv ok 2 [(7, sl aN aK aO)] 3 rfl rfl (Ln _ rfl (Wg (Lv ok 0 [(14, sl aD out aE), (15, sl aN aK aO), (16, I j)] 3 rfl rfl ?_)))
  obtain ⟨aC, aX, aY, H⟩ := H
  refine Li 3 rfl rfl rfl Try.underlying22 ti_3 rfl rfl aM aX aY fun a8 a9 aZ a0 => (Lo 4 rfl rfl rfl ti_3 ag_3 rfl aZ a0 aL fun bA a1 => ?_)
  obtain rfl := a1.int
  refine LP_lit (α := Int) (g := emp) 5 (vs := [I aC]) (xs := [aC]) rfl rfl rfl Try.underlying22 ti_3 rfl rfl ⟨⟨_, rfl, rfl⟩, trivial⟩ rfl rfl fun bB bC bD aP aQ a2 bE => ?_
  obtain ⟨bF, bG, rfl⟩ := aQ.shape
  obtain ⟨hb, H⟩ := H
  refine LP_appendf (α := Int) 6 rfl rfl rfl Try.underlying22 ti_3 rfl rfl rfl o (aJ.ext aP) aQ.readf a2 (by first | omega | (simp only [ln] at *; omega)) (by first | omega | (simp only [ln] at *; omega)) fun a3 bH bI aR a4 y dm => ?_
  obtain ⟨aS, aT, rfl⟩ := aR.shape
  refine Lv ok 7 [(5, .slice aS (List.length (out ++ ([aC]))) aT)] 8 rfl rfl (Ln _ rfl (Wg (Lv ok 0 [(21, I (wr (aA + 1))), (10, I (wr (aA + 1)))] 2 rfl rfl (Ln _ rfl ?_))))
  have xc := (X7.trans aP)
  have dl : Fresh w.heap.size aB := (DomLe.fresh f (emp_fresh _) (Nat.le_refl _))
  exact ⟨(out ++ ([aC]), wr (aA + 1)), ⟨H.1, _, .slice aS (List.length (out ++ ([aC]))) aT, a3, Ee ⟨rfl, rfl, rfl, rfl, rfl, trivial⟩, But.ext (((Br emp _).stepx xc).step y (dl.dom _)), aR, a4, ((dm.fresh dl xc.size).dom _)⟩, H.2⟩
 have H := H.2 hc
 refine W_exit ?_
 refine (if_pos rfl).mpr ?_
 refine Wq (Wg (Lv ok 0 [(22, sl aD out aE), (4, sl aD out aE)] 2 rfl rfl (Ln _ rfl (W_ret ?_))))
 have a5 := DomLe.fresh f (emp_fresh _) X.size
 exact ⟨_, Ret_of [sl aD out aE] ⟨⟨rfl, rfl⟩, trivial⟩, _, _, _, H, rfl, (X.stepx X7).ext, o, aJ, a5⟩

theorem spec_oMargins_w (x : List (List Int)) (Q : Rounding → Prop) (H : spec_oMargins x Q) (w : World) {vx : Value} {hx : PH} (r : RS hx vx x) (ex : Sub hx w) :
  CallsTo Try.prog 81 #[vx] w fun v w' => ∃ aU u0_0 g0_0 u0_1 g0_1 u0_2 g0_2, Q aU ∧ v = .agg #[u0_0, u0_1, u0_2, I aU.Total] ∧ Ext w w' ∧ OD g0_0 u0_0 aU.Cells ∧ Sub g0_0 w' ∧ Fresh w.heap.size g0_0 ∧ OS 3 g0_1 emp u0_1 aU.Rows ∧ Sub g0_1 w' ∧ Fresh w.heap.size g0_1 ∧ OS 3 g0_2 emp u0_2 aU.Cols ∧ Sub g0_2 w' ∧ Fresh w.heap.size g0_2 ∧ Dj g0_0 g0_1 ∧ Dj g0_0 g0_2 ∧ Dj g0_1 g0_2 := by
 obtain ⟨a, c, rfl⟩ := r.shape
 refine enter (args := [sl a x c]) 46 Try.func81 rfl rfl rfl ?_
 refine Wo [(0, sl a x c)] ⟨rfl, trivial⟩ fun ρ => ?_
 have X := Br emp w
 refine Wq (Wg (La 0 rfl rfl rfl ti_93 rfl fun b wx b2 bG f => (Ln _ rfl (Wq (Wg (Lv ok 0 [(7, sl a x c)] 1 rfl rfl ?_))))))
 have aV := (ex.ext b2)
 refine Lc 1 rfl rfl rfl cal_59 rfl (spec_tOwn_w _ _ H wx r aV) ?_
 rintro _ eK ⟨aB, eL, bH, H, rfl, aN, o, aO, b3⟩
 obtain ⟨aC, aD, rfl⟩ := o.shape
 refine Lv ok 2 [(9, .agg #[sl aC aB aD, .slice none 0 0, .slice none 0 0, I 0])] 3 rfl rfl (La 3 rfl rfl rfl ti_93 rfl fun aA eM aP c6 aG => (Lx 4 (vs := [sl aC aB aD, .slice none 0 0, .slice none 0 0, I 0]) (cs' := [sl aC aB aD, .slice none 0 0, .slice none 0 0, I 0]) rfl rfl rfl ti_93 rfl rfl rfl rfl rfl c6 rfl rfl fun bI c7 y => (Ln _ rfl (Wq (Wq (Wg ?_))))))
 refine Lv ok 0 [(10, sl a x c), (11, I (ln x)), (12, I 0)] 3 rfl rfl (Ln _ rfl (W_block ?_))
 obtain ⟨J, m, Hx, H⟩ := H
 refine W_loop (S := Int × (List Int)) (fun s ρ' w' => J s.1 s.2 ∧ ∃ (ρ : Env) (a3 : Value) (aQ : PH), ρ' = setAll [(0, sl a x c), (2, pb b), (3, pb aA), (10, sl a x c), (11, I (ln x)), (12, I s.1)] ρ ∧ But (bx aA 93 [sl aC aB aD, .slice none 0 0, .slice none 0 0, I 0]) bI w' ∧ OS 3 aQ emp a3 s.2 ∧ Sub aQ w' ∧ DomLe (bx aA 93 [sl aC aB aD, .slice none 0 0, .slice none 0 0, I 0]) bI.heap.size aQ ∧ Sub (bx aA 93 [sl aC aB aD, a3, .slice none 0 0, I 0]) w' ∧ Dj aQ (bx aA 93 [sl aC aB aD, a3, .slice none 0 0, I 0])) (fun s => m s.1 s.2) (0, []) ⟨Hx, _, .slice none 0 0, emp, Ee ⟨rfl, rfl, rfl, rfl, rfl, rfl, trivial⟩, (Br _ _), OS.nil, (emp_sub _), (fun _ _ _ => rfl), c7, (fun _ => .inl rfl)⟩ ?_
 rintro ⟨aM, rows⟩ _ bJ ⟨Hi, ρ, a3, aQ, rfl, HF⟩
 revert HF
 refine bb6 fun X30 a4 bK a5 b4 d => ?_
 have H := H aM rows Hi
 obtain ⟨aE, aF, rfl⟩ := a4.shape
 refine Wq (Wg (Lv ok 0 [(13, .bool (decide (aM < (ln x))))] 1 rfl rfl (Ln _ rfl (Wq ?_))))
 refine Wc (decide (aM < (ln x))) rfl (fun hc => ?_) (fun hc => ?_)
 ·have H := H.1 hc
  refine Wk (Wq (W_block (Wq (Wg ?_))))
  obtain ⟨aW, hi, c8, H⟩ := H
  refine Li 0 rfl rfl rfl Try.underlying23 ti_22 rfl rfl r hi c8 fun eN cs c9 dA => ?_
  have b5 := (aV.ext aN)
  have dj := (Df b5 aG).symm
  have dB : Dj (bx aA 93 [sl aC aB aD, .slice none 0 0, .slice none 0 0, I 0]) hx := (Db (Df b5 aG).symm)
  have b6 := (((aV.ext (aN.trans aP)).but y dj).but X30 dB)
  refine Lo 1 rfl rfl rfl ti_22 ag_22 rfl c9 dA b6 fun eO dC => ?_
  have b7 := dC.slice
  obtain ⟨aX, aY, rfl⟩ := b7.shape
  refine Lv ok 2 [(5, sl aX aW aY)] 3 rfl rfl (Ln _ rfl ?_)
  refine W_open mix fun eP bL => ?_
  refine AP_game 5 [[], [0], [], [2], [2, 3], [0, 1, 2, 3, 4], [0, 1, 2, 3, 4, 5], [0, 1, 2, 3, 4, 5, 6]] [[(3, none)], [(16, some 0)], [(5, none)], [(18, some 2)], [(19, some 3)]] [(0, none), (2, none), (3, none), (10, none), (11, none), (12, none), (17, some 1), (20, some 4)] [(0, false), (1, false), (2, false), (3, false), (4, true)] (by kernel_rfl) (by kernel_rfl) ?_
  refine GS_ev ok [(3, pb aA)] (.pointer (some ⟨aA, 1, none⟩)) rfl rfl (fun _ h => h) (fun _ => rfl) ?_
  have a6 := (b4.ext bL)
  refine GS_r1 [(16, .pointer (some ⟨aA, 1, none⟩))] (sl aE rows aF) rfl rfl (fun _ h => h) (fun _ w e => ex_ldbox rfl ti_22 ag_22 (fun _ => rfl) rfl e rfl rfl) a6 ?_
  refine GS_ev ok [(5, sl aX aW aY)] (sl aX aW aY) rfl rfl (fun _ h => h) (fun _ => rfl) ?_
  obtain ⟨aI, Hd, H⟩ := H
  refine GS_q [(18, sl aX aW aY)] (I aI) [hx] [sl aX aW aY] rfl rfl (fun _ h => h) rfl cal_67 (fun _ => rfl) (fun w e => (spec_tSum_w _ _ Hd w b7 e.1).mono (fun _ _ h => by obtain ⟨_, rfl, rfl, x⟩ := h; exact ⟨rfl, x⟩)) ⟨(b6.ext bL), trivial⟩ ?_
  refine GS_lp [(19, I aI)] rfl rfl (fun _ h => h) rfl fun ρ eQ b8 => ?_
  refine LP_lit (α := Int) (g := emp) 0 (vs := [I aI]) (xs := [aI]) rfl rfl rfl Try.underlying22 ti_3 rfl rfl ⟨⟨_, rfl, rfl⟩, trivial⟩ rfl rfl fun eR eS eT b9 cA dD eU => ?_
  obtain ⟨dE, dF, rfl⟩ := cA.shape
  have cB := (b8.trans b9)
  refine LP_gs ⟨⟨.inl rfl, .inr (a6.ext cB), trivial⟩, ?_⟩
  intro eV bM ρ hn
  refine AP_forget [(0, sl a x c), (2, pb b), (3, pb aA), (10, sl a x c), (11, I (ln x)), (12, I aM), (17, sl aE rows aF), (20, .slice dE (List.length ([aI])) dF)] (by exact hn) fun ρ => ?_
  refine AP_tail 5 [[], [0], [], [2], [2, 3], [0, 1, 2, 3, 4], [0, 1, 2, 3, 4, 5], [0, 1, 2, 3, 4, 5, 6]] (by kernel_rfl) ?_
  have bN := (((bL.trans b8).trans b9).trans bM)
  obtain ⟨hb, H⟩ := H
  refine LP_appendf (α := Int) 5 rfl rfl rfl Try.underlying22 ti_3 rfl rfl rfl a4 (bK.ext bN) cA.readf (dD.ext bM) (by first | omega | (simp only [ln] at *; omega)) (by first | omega | (simp only [ln] at *; omega)) fun cC eW eX cD dG cE dm => ?_
  obtain ⟨a7, a8, rfl⟩ := cD.shape
  refine Lv ok 6 [(22, .pointer (some ⟨aA, 1, none⟩))] 7 rfl rfl ?_
  have cF := (cB.trans bM)
  refine Lx 7 (vs := [.slice a7 (List.length (rows ++ ([aI]))) a8]) (cs' := [sl aC aB aD, .slice a7 (List.length (rows ++ ([aI]))) a8, .slice none 0 0, I 0]) rfl rfl rfl ti_22 rfl rfl rfl rfl rfl ((a6.ext cF).but cE d) rfl rfl fun eY dH cG => (Ln _ rfl (Wg (Lv ok 0 [(23, I (wr (aM + 1))), (12, I (wr (aM + 1)))] 2 rfl rfl (Ln _ rfl ?_))))
  have dl : DomLe (bx aA 93 [sl aC aB aD, .slice none 0 0, .slice none 0 0, I 0]) bI.heap.size aQ := (Mt (Oe (Or _) _) a5 (Nat.le_refl _))
  have cH := (a6.ext cF)
  have dI := (Mj dm d cH).symm
  have dJ : Dj cC (bx aA 93 [sl aC aB aD, .slice a7 (List.length (rows ++ ([aI]))) a8, .slice none 0 0, I 0]) := (Db (Mj dm d cH).symm).symm
  exact ⟨(wr (aM + 1), rows ++ ([aI])), ⟨H.1, _, .slice a7 (List.length (rows ++ ([aI]))) a8, cC, Ee ⟨rfl, rfl, rfl, rfl, rfl, rfl, trivial⟩, (((((Br (bx aA 93 [sl aC aB aD, .slice none 0 0, .slice none 0 0, I 0]) _).step X30 (Oe (Or _) _)).stepx bN).step cE dl).step cG (Md (Or _) Sd)), cD, (dG.but cG dI), (Mt dl dm (Nat.le_trans X30.size bN.size)), dH, dJ⟩, H.2⟩
 have H := H.2 hc
 refine W_exit ?_
 refine (if_pos rfl).mpr ?_
 refine Wq (Wq (Wg (Lv ok 0 [(24, sl a x c)] 1 rfl rfl ?_)))
 obtain ⟨aZ, dK, dL, H⟩ := H
 refine Li 1 rfl rfl rfl Try.underlying23 ti_22 rfl rfl r dK dL fun eZ e0 dM dN => ?_
 have cI := (aN.trans aP)
 have bO := (aV.ext aN)
 have dO := (Df bO aG).symm
 have dP : Dj (bx aA 93 [sl aC aB aD, .slice none 0 0, .slice none 0 0, I 0]) hx := (Db (Df bO aG).symm)
 have cJ := (((aV.ext cI).but y dO).but X30 dP)
 refine Lo 2 rfl rfl rfl ti_22 ag_22 rfl dM dN cJ fun e1 dQ => ?_
 have dR := dQ.slice
 obtain ⟨e2, e3, rfl⟩ := dR.shape
 refine Lv ok 3 [(27, I (ln aZ)), (28, I 0)] 5 rfl rfl (Ln _ rfl (W_block ?_))
 obtain ⟨J115, dS, Hx117, H⟩ := H
 refine W_loop (S := Int × (List Int)) (fun s ρ' w' => J115 s.1 s.2 ∧ ∃ (ρ : Env) (a9 : Value) (aR : PH), ρ' = setAll [(0, sl a x c), (2, pb b), (3, pb aA), (27, I (ln aZ)), (28, I s.1)] ρ ∧ But (bx aA 93 [sl aC aB aD, sl aE rows aF, .slice none 0 0, I 0]) bJ w' ∧ OS 3 aR emp a9 s.2 ∧ Sub aR w' ∧ DomLe (bx aA 93 [sl aC aB aD, sl aE rows aF, .slice none 0 0, I 0]) bJ.heap.size aR ∧ Sub (bx aA 93 [sl aC aB aD, sl aE rows aF, a9, I 0]) w' ∧ Dj aR (bx aA 93 [sl aC aB aD, sl aE rows aF, a9, I 0])) (fun s => dS s.1 s.2) (0, []) ⟨Hx117, _, .slice none 0 0, emp, Ee ⟨rfl, rfl, rfl, rfl, rfl, trivial⟩, (Br _ _), OS.nil, (emp_sub _), (fun _ _ _ => rfl), b4, (fun _ => .inl rfl)⟩ ?_
 rintro ⟨aH, cols⟩ _ dT ⟨Hi, ρ, a9, aR, rfl, HF⟩
 revert HF
 refine bb6 fun X114 bP cK a0 bQ bA => ?_
 have H := H aH cols Hi
 obtain ⟨aK, aL, rfl⟩ := bP.shape
 refine Wq (Wg (Lv ok 0 [(29, .bool (decide (aH < (ln aZ))))] 1 rfl rfl (Ln _ rfl (Wq ?_))))
 refine Wc (decide (aH < (ln aZ))) rfl (fun bR => ?_) (fun bR => ?_)
 ·have H := H.1 bR
  refine Wk (Wq (W_block (Wq (Wg (Lv ok 0 [(30, I aH), (6, I aH)] 2 rfl rfl (Ln _ rfl ?_))))))
  refine W_open mix fun e4 bS => ?_
  refine AP_game 7 [[], [0], [], [], [2, 3], [2, 3, 4], [2, 3, 4, 5], [0, 1, 2, 3, 4, 5, 6], [0, 1, 2, 3, 4, 5, 6, 7], [0, 1, 2, 3, 4, 5, 6, 7, 8]] [[(3, none)], [(31, some 0)], [(0, none)], [(6, none)], [(33, some 2), (34, some 3)], [(35, some 4)], [(36, some 5)]] [(0, none), (2, none), (3, none), (27, none), (28, none), (32, some 1), (37, some 6)] [(0, false), (1, false), (2, false), (3, false), (4, true), (5, false), (6, true)] (by kernel_rfl) (by kernel_rfl) ?_
  refine GS_ev ok [(3, pb aA)] (.pointer (some ⟨aA, 2, none⟩)) rfl rfl (fun _ h => h) (fun _ => rfl) ?_
  have bB := (bQ.ext bS)
  refine GS_r1 [(31, .pointer (some ⟨aA, 2, none⟩))] (sl aK cols aL) rfl rfl (fun _ h => h) (fun _ w e => ex_ldbox rfl ti_22 ag_22 (fun _ => rfl) rfl e rfl rfl) bB ?_
  refine GS_ev ok [(0, sl a x c)] (sl a x c) rfl rfl (fun _ h => h) (fun _ => rfl) ?_
  refine GS_ev ok [(6, I aH)] (I aH) rfl rfl (fun _ h => h) (fun _ => rfl) ?_
  refine GS_lp [(33, sl a x c), (34, I aH)] rfl rfl (fun _ h => h) rfl fun ρ dU bC => ?_
  have dV : Dj (bx aA 93 [sl aC aB aD, sl aE rows aF, .slice none 0 0, I 0]) hx := (Db (Df bO aG).symm)
  refine Lc 0 rfl rfl rfl cal_75 rfl (spec_tColumn_w _ _ _ H dU r ((cJ.but X114 dV).ext (bS.trans bC))) ?_
  rintro _ e5 ⟨cL, e6, dW, H, rfl, bT, cM, dX, e7⟩
  obtain ⟨cN, cO, rfl⟩ := cM.shape
  have cP := (bB.ext (bC.trans bT))
  refine LP_gs ⟨⟨.inr cP, trivial⟩, ?_⟩
  obtain ⟨aJ, Hd141, H⟩ := H
  refine GS_q [(35, sl cN cL cO)] (I aJ) [dW] [sl cN cL cO] rfl rfl (fun _ h => h) rfl cal_67 (fun _ => rfl) (fun w e => (spec_tSum_w _ _ Hd141 w cM.readf e.1).mono (fun _ _ h => by obtain ⟨_, rfl, rfl, x⟩ := h; exact ⟨rfl, x⟩)) ⟨dX, trivial⟩ ?_
  refine GS_lp [(36, I aJ)] rfl rfl (fun _ h => h) rfl fun ρ e8 bU => ?_
  refine LP_lit (α := Int) (g := emp) 0 (vs := [I aJ]) (xs := [aJ]) rfl rfl rfl Try.underlying22 ti_3 rfl rfl ⟨⟨_, rfl, rfl⟩, trivial⟩ rfl rfl fun e9 fA fB bV cQ dY fC => ?_
  obtain ⟨dZ, d0, rfl⟩ := cQ.shape
  refine LP_gs ⟨⟨.inl rfl, .inr (cP.ext (bU.trans bV)), trivial⟩, ?_⟩
  intro fD bW ρ d1
  refine AP_forget [(0, sl a x c), (2, pb b), (3, pb aA), (27, I (ln aZ)), (28, I aH), (32, sl aK cols aL), (37, .slice dZ (List.length ([aJ])) d0)] (by exact d1) fun ρ => ?_
  refine AP_tail 7 [[], [0], [], [], [2, 3], [2, 3, 4], [2, 3, 4, 5], [0, 1, 2, 3, 4, 5, 6], [0, 1, 2, 3, 4, 5, 6, 7], [0, 1, 2, 3, 4, 5, 6, 7, 8]] (by kernel_rfl) ?_
  have bX := (((((bS.trans bC).trans bT).trans bU).trans bV).trans bW)
  obtain ⟨fE, H⟩ := H
  refine LP_appendf (α := Int) 7 rfl rfl rfl Try.underlying22 ti_3 rfl rfl rfl bP (cK.ext bX) cQ.readf (dY.ext bW) (by first | omega | (simp only [ln] at *; omega)) (by first | omega | (simp only [ln] at *; omega)) fun cR fF fG cS d2 cT bY => ?_
  obtain ⟨bD, bE, rfl⟩ := cS.shape
  refine Lv ok 8 [(39, .pointer (some ⟨aA, 2, none⟩))] 9 rfl rfl ?_
  have cU := ((((bC.trans bT).trans bU).trans bV).trans bW)
  refine Lx 9 (vs := [.slice bD (List.length (cols ++ ([aJ]))) bE]) (cs' := [sl aC aB aD, sl aE rows aF, .slice bD (List.length (cols ++ ([aJ]))) bE, I 0]) rfl rfl rfl ti_22 rfl rfl rfl rfl rfl ((bB.ext cU).but cT bA) rfl rfl fun fH d3 cV => (Ln _ rfl (Wg (Lv ok 0 [(40, I (wr (aH + 1))), (28, I (wr (aH + 1)))] 2 rfl rfl (Ln _ rfl ?_))))
  have cW : DomLe (bx aA 93 [sl aC aB aD, sl aE rows aF, .slice none 0 0, I 0]) bJ.heap.size aR := (Mt (Oe (Or _) _) a0 (Nat.le_refl _))
  have cX := (bB.ext cU)
  have d4 := (Mj bY bA cX).symm
  have d5 : Dj cR (bx aA 93 [sl aC aB aD, sl aE rows aF, .slice bD (List.length (cols ++ ([aJ]))) bE, I 0]) := (Db (Mj bY bA cX).symm).symm
  exact ⟨(wr (aH + 1), cols ++ ([aJ])), ⟨H.1, _, .slice bD (List.length (cols ++ ([aJ]))) bE, cR, Ee ⟨rfl, rfl, rfl, rfl, rfl, trivial⟩, (((((Br (bx aA 93 [sl aC aB aD, sl aE rows aF, .slice none 0 0, I 0]) _).step X114 (Oe (Or _) _)).stepx bX).step cT cW).step cV (Md (Or _) Sd)), cS, (d2.but cV d4), (Mt cW bY (Nat.le_trans X114.size bX.size)), d3, d5⟩, H.2⟩
 have H := H.2 bR
 refine W_exit ?_
 refine (if_pos rfl).mpr ?_
 refine Wq (Wg (Lv ok 0 [(41, .pointer (some ⟨aA, 1, none⟩))] 1 rfl rfl (Lb 1 (v := sl aE rows aF) rfl rfl rfl ti_22 ag_22 (fun _ => rfl) rfl bQ rfl rfl ?_)))
 have cY := (bK.but X114 d.symm)
 refine Lc 2 rfl rfl rfl cal_67 rfl (spec_tSum_w _ _ H dT a4.readf cY) ?_
 rintro _ fI ⟨aS, H, rfl, aT⟩
 refine Lv ok 3 [(44, .pointer (some ⟨aA, 3, none⟩))] 4 rfl rfl (Lx 4 (vs := [I aS]) (cs' := [sl aC aB aD, sl aE rows aF, sl aK cols aL, I aS]) rfl rfl rfl ti_3 rfl rfl rfl rfl rfl (bQ.ext aT) rfl rfl fun fJ d6 a1 => (Ln _ rfl (Wq (Wg (Lb 0 (v := .agg #[sl aC aB aD, sl aE rows aF, sl aK cols aL, I aS]) rfl rfl rfl ti_93 ag_93 (fun h => by cases h) rfl d6 rfl rfl ?_)))))
 have a2 := (bG.ext aN)
 have cZ := (Df a2 aG).symm
 have bZ : Dj (bx aA 93 [sl aC aB aD, .slice none 0 0, .slice none 0 0, I 0]) (bx b 93 [.slice none 0 0, .slice none 0 0, .slice none 0 0, I 0]) := (Db (Df a2 aG).symm)
 have c0 : Dj (bx aA 93 [sl aC aB aD, sl aE rows aF, .slice none 0 0, I 0]) (bx b 93 [.slice none 0 0, .slice none 0 0, .slice none 0 0, I 0]) := (Db (Df a2 aG).symm)
 have d7 : Dj (bx aA 93 [sl aC aB aD, sl aE rows aF, sl aK cols aL, I 0]) (bx b 93 [.slice none 0 0, .slice none 0 0, .slice none 0 0, I 0]) := (Db (Df a2 aG).symm)
 refine Lx 1 (vs := [sl aC aB aD, sl aE rows aF, sl aK cols aL, I aS]) (cs' := [sl aC aB aD, sl aE rows aF, sl aK cols aL, I aS]) rfl rfl rfl ti_93 rfl rfl rfl rfl rfl ((((((bG.ext cI).but y cZ).but X30 bZ).but X114 c0).ext aT).but a1 d7) rfl rfl fun fK d8 bF => (Ln _ rfl (W_ret ?_))
 have c1 := (Df aO aG).symm
 have b0 : Dj (bx aA 93 [sl aC aB aD, .slice none 0 0, .slice none 0 0, I 0]) bH := (Db (Df aO aG).symm)
 have c2 : Dj (bx aA 93 [sl aC aB aD, sl aE rows aF, .slice none 0 0, I 0]) bH := (Db (Df aO aG).symm)
 have d9 : Dj (bx aA 93 [sl aC aB aD, sl aE rows aF, sl aK cols aL, I 0]) bH := (Db (Df aO aG).symm)
 have X207 := (X.stepx b2)
 have eA := b3.mono X207.size
 have c3 := ((a2.ext aP).but y cZ)
 have eB := (Mj a5 bZ c3).symm
 have X212 := (X207.stepx aN)
 have c4 := aG.mono X212.size
 have eC := aG.mono X212.size
 have X215 := ((X212.stepx aP).step y (eC.dom _))
 have eD := DomLe.fresh a5 (Fresh.box c4) X215.size
 have eE := (Mj a0 c0 (c3.but X30 bZ)).symm
 have b1 := aG.mono X212.size
 have X221 := (X215.step X30 ((Fresh.box c4).dom _))
 have eF := DomLe.fresh a0 (Fresh.box b1) X221.size
 have c5 := ((aO.ext aP).but y c1)
 have eG := (Mj a5 b0 c5).symm
 have eH := (Mj a0 c2 (c5.but X30 b0)).symm
 have eI := (Mj a0 d.symm bK).symm
 have eJ := f.mono X.size
 exact ⟨_, Ret_of [.agg #[sl aC aB aD, sl aE rows aF, sl aK cols aL, I aS]] ⟨⟨_, rfl, rfl, ld_res ti_93 ag_93 (fun h => by cases h) d8 rfl rfl⟩, trivial⟩, _, _, _, _, _, _, _, H, rfl, ((((X221.step X114 ((Fresh.box b1).dom _)).stepx aT).step a1 ((Fresh.box b1).dom _)).step bF (eJ.dom _)).ext, o, (((((((aO.ext aP).but y c1).but X30 b0).but X114 c2).ext aT).but a1 d9).but bF (Df bG b3)), eA, a4, (((cY.ext aT).but a1 (Db d.symm)).but bF eB), eD, bP, (((cK.ext aT).but a1 bA.symm).but bF eE), eF, eG, eH, eI⟩

theorem spec_oDown_w (n : Int) (base : Int) (Q : Int → Prop) (H : spec_oDown n base Q) (w : World)  :
  CallsTo Try.prog 82 #[I n, I base] w fun v w' => ∃ aA, Q aA ∧ v = I aA ∧ Ext w w' := by
 refine enter (args := [I n, I base]) 8 Try.func82 rfl rfl rfl ?_
 refine Wo [(0, I n), (1, I base)] ⟨rfl, rfl, trivial⟩ fun ρ => ?_
 have X := Br emp w
 refine Wq (Wg (Lv ok 0 [(4, I 0)] 1 rfl rfl (Ln _ rfl (Wq (Wg (Lv ok 0 [(5, I n), (6, I base)] 2 rfl rfl ?_))))))
 obtain ⟨hz, H⟩ := H
 refine LP_val 2 _ rfl rfl (ex_quo rfl rfl rfl hz _) (Lv ok 3 [(4, I (wr (Int.tdiv n base)))] 4 rfl rfl (Ln _ rfl (W_ret ?_)))
 exact ⟨_, Ret_of [I (wr (Int.tdiv n base))] ⟨⟨rfl, rfl⟩, trivial⟩, _, H, rfl, X.ext⟩

theorem spec_oUp_w (n : Int) (base : Int) (Q : Int → Prop) (H : spec_oUp n base Q) (w : World)  :
  CallsTo Try.prog 83 #[I n, I base] w fun v w' => ∃ aA, Q aA ∧ v = I aA ∧ Ext w w' := by
 refine enter (args := [I n, I base]) 11 Try.func83 rfl rfl rfl ?_
 refine Wo [(0, I n), (1, I base)] ⟨rfl, rfl, trivial⟩ fun ρ => ?_
 have X := Br emp w
 refine Wq (Wg (Lv ok 0 [(4, I 0)] 1 rfl rfl (Ln _ rfl (Wq (Wg (Lv ok 0 [(5, I n), (6, I base), (7, I (wr (n + base))), (8, I (wr ((wr (n + base)) - 1))), (9, I base)] 5 rfl rfl ?_))))))
 obtain ⟨hz, H⟩ := H
 refine LP_val 5 _ rfl rfl (ex_quo rfl rfl rfl hz _) (Lv ok 6 [(4, I (wr (Int.tdiv (wr ((wr (n + base)) - 1)) base)))] 7 rfl rfl (Ln _ rfl (W_ret ?_)))
 exact ⟨_, Ret_of [I (wr (Int.tdiv (wr ((wr (n + base)) - 1)) base))] ⟨⟨rfl, rfl⟩, trivial⟩, _, H, rfl, X.ext⟩

theorem spec_oNetwork_w (x : List (List Int)) (base : Int) (Q : Transport → Prop) (H : spec_oNetwork x base Q) (w : World) {vx : Value} {hx : PH} (r : RS hx vx x) (ex : Sub hx w) :
  CallsTo Try.prog 44 #[vx, I base] w fun v w' => ∃ eP u0_0 g0_0 u0_1 g0_1 u0_2 g0_2 u0_3 g0_3, Q eP ∧ v = .agg #[u0_0, u0_1, u0_2, u0_3] ∧ Ext w w' ∧ OS 3 g0_0 emp u0_0 eP.Rows ∧ Sub g0_0 w' ∧ Fresh w.heap.size g0_0 ∧ OS 3 g0_1 emp u0_1 eP.Cols ∧ Sub g0_1 w' ∧ Fresh w.heap.size g0_1 ∧ OD g0_2 u0_2 eP.Lo ∧ Sub g0_2 w' ∧ Fresh w.heap.size g0_2 ∧ OD g0_3 u0_3 eP.Hi ∧ Sub g0_3 w' ∧ Fresh w.heap.size g0_3 ∧ Dj g0_0 g0_1 ∧ Dj g0_0 g0_2 ∧ Dj g0_0 g0_3 ∧ Dj g0_1 g0_2 ∧ Dj g0_1 g0_3 ∧ Dj g0_2 g0_3 := by
 obtain ⟨a, c, rfl⟩ := r.shape
 refine enter (args := [sl a x c, I base]) 175 Try.func44 rfl rfl rfl ?_
 refine Wo [(0, sl a x c), (1, I base)] ⟨rfl, rfl, trivial⟩ fun ρ => ?_
 have X := Br emp w
 refine Wq (Wg (La 0 rfl rfl rfl ti_29 rfl fun b wx gQ i3 f => (Ln _ rfl (Wq (Wg (Lv ok 0 [(20, sl a x c)] 1 rfl rfl ?_))))))
 have gR := (ex.ext gQ)
 refine Lc 1 rfl rfl rfl cal_81 rfl (spec_oMargins_w _ _ H wx r gR) ?_
 rintro _ tS ⟨aB, tT, tU, tV, o5, tW, i4, H, rfl, dS, HF⟩
 revert HF
 refine bb9 fun o tX tY i5 gS tZ i6 gT => ?_
 refine bb4 fun t0 d t1 t2 => ?_
 obtain ⟨dT, dU, rfl⟩ := o.shape
 obtain ⟨c7, c8, rfl⟩ := i5.shape
 obtain ⟨b6, b7, rfl⟩ := i6.shape
 refine La 2 rfl rfl rfl ti_93 rfl fun aL t3 b8 o6 eQ => (Lx 3 (vs := [sl dT aB.Cells dU, sl c7 aB.Rows c8, sl b6 aB.Cols b7, I aB.Total]) (cs' := [sl dT aB.Cells dU, sl c7 aB.Rows c8, sl b6 aB.Cols b7, I aB.Total]) rfl rfl rfl ti_93 rfl rfl rfl rfl rfl o6 rfl rfl fun t4 c9 y => (Ln _ rfl (Wq (Wg (Lv ok 0 [(22, .agg #[.slice none 0 0, .slice none 0 0, .slice none 0 0, .slice none 0 0])] 1 rfl rfl ?_)))))
 refine La 1 rfl rfl rfl ti_29 rfl fun aA t5 bU o7 aN => (Lx 2 (vs := [.slice none 0 0, .slice none 0 0, .slice none 0 0, .slice none 0 0]) (cs' := [.slice none 0 0, .slice none 0 0, .slice none 0 0, .slice none 0 0]) rfl rfl rfl ti_29 rfl rfl rfl rfl rfl o7 rfl rfl fun t6 b9 bV => (Ln _ rfl (Wq (Wg (LP_lit (α := Int) (g := emp) 0 (vs := []) (xs := []) rfl rfl rfl Try.underlying22 ti_3 rfl rfl trivial rfl rfl fun fJ t7 t8 cK i7 gU cA => ?_)))))
 obtain ⟨cL, cM, rfl⟩ := i7.shape
 refine LP_lit (α := Int) (g := emp) 1 (vs := []) (xs := []) rfl rfl rfl Try.underlying22 ti_3 rfl rfl trivial rfl rfl fun fK t9 uA gV i9 jA bW => ?_
 obtain ⟨cN, cO, rfl⟩ := i9.shape
 refine Lv ok 2 [(7, .slice cL (List.length (([] : List Int))) cM), (8, .slice cN (List.length (([] : List Int))) cO)] 4 rfl rfl (Ln _ rfl (Wq ?_))
 refine W_quiet mix (by kernel_rfl) ?_
 refine QP_ev ok 0 [(25, .pointer (some ⟨aL, 3, none⟩))] 1 rfl rfl ?_
 have dj := (Df c9 aN).symm
 have xc := (cK.trans gV)
 have eR := (((c9.ext bU).but bV dj).ext xc)
 refine QP_ldbox 1 (v := I aB.Total) rfl rfl rfl ti_3 ag_3 (fun _ => rfl) rfl eR rfl rfl ?_
 refine QP_ev ok 2 [(27, I base)] 3 rfl rfl ?_
 obtain ⟨bX, Hd, H⟩ := H
 refine QP_call (I bX) 3 rfl rfl rfl cal_82 rfl (fun o8 uB => (spec_oDown_w _ _ _ Hd o8 ).mono ?_) ?_
 ·rintro _ _ ⟨_, rfl, rfl, x⟩; exact ⟨rfl, x⟩
 refine QP_ev ok 4 [(29, I (wr (0 - bX))), (30, .pointer (some ⟨aL, 3, none⟩))] 6 rfl rfl ?_
 refine QP_ldbox 6 (v := I aB.Total) rfl rfl rfl ti_3 ag_3 (fun _ => rfl) rfl eR rfl rfl ?_
 refine QP_ev ok 7 [(32, I base)] 8 rfl rfl ?_
 obtain ⟨eS, Hd67, H⟩ := H
 refine QP_call (I eS) 8 rfl rfl rfl cal_82 rfl (fun o9 uC => (spec_oDown_w _ _ _ Hd67 o9 ).mono ?_) ?_
 ·rintro _ _ ⟨_, rfl, rfl, x⟩; exact ⟨rfl, x⟩
 refine QP_ev ok 9 [(34, I (wr (0 - eS))), (9, I (wr (0 - bX))), (10, I (wr (0 - eS)))] 12 rfl rfl ?_
 refine QP_end _ rfl fun cB bP => ?_
 refine Wq (Wq (Wg (Lv ok 0 [(35, sl a x c), (36, I (ln x)), (37, I 0)] 3 rfl rfl (Ln _ rfl ?_))))
 try refine Wo [(1, I base), (4, pb b), (5, pb aL), (6, pb aA), (7, .slice cL (List.length (([] : List Int))) cM), (8, .slice cN (List.length (([] : List Int))) cO), (9, I (wr (0 - bX))), (10, I (wr (0 - eS))), (35, sl a x c), (36, I (ln x)), (37, I 0)] ⟨rfl, rfl, rfl, rfl, rfl, rfl, rfl, rfl, rfl, rfl, rfl, trivial⟩ fun ρ => ?_
 refine W_block ?_
 obtain ⟨J, m, Hx, H⟩ := H
 refine W_loop (S := Int × Int × (List Int) × (List (List Int)) × (List (List Int))) (fun s ρ' w' => J s.1 s.2.1 s.2.2.1 s.2.2.2.1 s.2.2.2.2 ∧ ∃ (ρ : Env) (dV : Value) (cP : PH) (dW : Value) (cQ : PH) (dX : Value) (cR : PH), ρ' = setAll [(1, I base), (4, pb b), (5, pb aL), (6, pb aA), (7, .slice cL (List.length (([] : List Int))) cM), (8, .slice cN (List.length (([] : List Int))) cO), (9, I (wr (0 - bX))), (10, I s.1), (35, sl a x c), (36, I (ln x)), (37, I s.2.1)] ρ ∧ But (bx aA 29 [.slice none 0 0, .slice none 0 0, .slice none 0 0, .slice none 0 0]) cB w' ∧ OS 3 cP emp dV s.2.2.1 ∧ Sub cP w' ∧ DomLe (bx aA 29 [.slice none 0 0, .slice none 0 0, .slice none 0 0, .slice none 0 0]) cB.heap.size cP ∧ OD cQ dW s.2.2.2.1 ∧ Sub cQ w' ∧ DomLe (bx aA 29 [.slice none 0 0, .slice none 0 0, .slice none 0 0, .slice none 0 0]) cB.heap.size cQ ∧ OD cR dX s.2.2.2.2 ∧ Sub cR w' ∧ DomLe (bx aA 29 [.slice none 0 0, .slice none 0 0, .slice none 0 0, .slice none 0 0]) cB.heap.size cR ∧ Sub (bx aA 29 [dV, .slice none 0 0, dW, dX]) w' ∧ Dj cP (bx aA 29 [dV, .slice none 0 0, dW, dX]) ∧ Dj cQ (bx aA 29 [dV, .slice none 0 0, dW, dX]) ∧ Dj cQ cP ∧ Dj cR (bx aA 29 [dV, .slice none 0 0, dW, dX]) ∧ Dj cR cP ∧ Dj cR cQ) (fun s => m s.1 s.2.1 s.2.2.1 s.2.2.2.1 s.2.2.2.2) (wr (0 - eS), 0, [], [], []) ⟨Hx, _, .slice none 0 0, emp, .slice none 0 0, emp, .slice none 0 0, emp, Ee ⟨rfl, rfl, rfl, rfl, rfl, rfl, rfl, rfl, rfl, rfl, rfl, trivial⟩, (Br _ _), OS.nil, (emp_sub _), (fun _ _ _ => rfl), OD.nil, (emp_sub _), (fun _ _ _ => rfl), OD.nil, (emp_sub _), (fun _ _ _ => rfl), (b9.ext (xc.trans bP)), (fun _ => .inl rfl), (fun _ => .inl rfl), (fun _ => .inl rfl), (fun _ => .inl rfl), (fun _ => .inl rfl), (fun _ => .inl rfl)⟩ ?_
 rintro ⟨cols, a8, rows, lo, hi⟩ _ bG ⟨Hi, ρ, dV, cP, dW, cQ, dX, cR, rfl, HF⟩
 revert HF
 refine bb9 fun X102 gW cC eT gX cD dA gY => ?_
 refine bb9 fun bQ dY eU bC cS dZ bD fL d0 => ?_
 have H := H cols a8 rows lo hi Hi
 obtain ⟨aC, aD, rfl⟩ := gW.shape
 obtain ⟨aO, aP, rfl⟩ := gX.shape
 obtain ⟨aF, aG, rfl⟩ := gY.shape
 refine Wq (Wg (Lv ok 0 [(38, .bool (decide (a8 < (ln x))))] 1 rfl rfl (Ln _ rfl (Wq ?_))))
 refine Wc (decide (a8 < (ln x))) rfl (fun hc => ?_) (fun hc => ?_)
 ·have H := H.1 hc
  refine Wk (Wq (W_block (Wq (Wg (Lv ok 0 [(39, I a8)] 1 rfl rfl ?_)))))
  obtain ⟨dB, pA, pB, H⟩ := H
  refine Li 1 rfl rfl rfl Try.underlying23 ti_22 rfl rfl r pA pB fun uD cs pC pD => ?_
  have jB := (gR.ext dS)
  have jC := (Df jB eQ).symm
  have jD := ((jB.ext b8).but y jC)
  have pE := (Df jD aN).symm
  have jE := (xc.trans bP)
  have pF : Dj (bx aA 29 [.slice none 0 0, .slice none 0 0, .slice none 0 0, .slice none 0 0]) hx := (Db (Df jD aN).symm)
  have jF := ((((((gR.ext (dS.trans b8)).but y jC).ext bU).but bV pE).ext jE).but X102 pF)
  refine Lo 2 rfl rfl rfl ti_22 ag_22 rfl pC pD jF fun uE pG => ?_
  have jG := pG.slice
  obtain ⟨gZ, g0, rfl⟩ := jG.shape
  refine Lv ok 3 [(11, I a8), (12, sl gZ dB g0)] 5 rfl rfl (Ln _ rfl (Wq (Wg (Lv ok 0 [(13, .slice none 0 0), (14, .slice none 0 0)] 2 rfl rfl (Ln _ rfl (Wq (Wq (Wg (Lv ok 0 [(42, sl gZ dB g0), (43, I (ln dB)), (44, I 0)] 3 rfl rfl (Ln _ rfl ?_))))))))))
  refine W_block ?_
  obtain ⟨J144, pH, Hx146, H⟩ := H
  refine W_loop (S := (List Int) × (List Int) × Int) (fun s ρ' w' => J144 s.1 s.2.1 s.2.2 ∧ ∃ (ρ : Env) (g1 : Value) (dC : PH) (g2 : Value) (cT : PH), ρ' = setAll [(1, I base), (4, pb b), (5, pb aL), (6, pb aA), (7, .slice cL (List.length (([] : List Int))) cM), (8, .slice cN (List.length (([] : List Int))) cO), (9, I (wr (0 - bX))), (10, I cols), (11, I a8), (13, g1), (14, g2), (35, sl a x c), (36, I (ln x)), (37, I a8), (42, sl gZ dB g0), (43, I (ln dB)), (44, I s.2.2)] ρ ∧ Ext bG w' ∧ OS 3 dC emp g1 s.1 ∧ Sub dC w' ∧ DomLe emp bG.heap.size dC ∧ OS 3 cT emp g2 s.2.1 ∧ Sub cT w' ∧ DomLe emp bG.heap.size cT ∧ Dj cT dC) (fun s => pH s.1 s.2.1 s.2.2) ([], [], 0) ⟨Hx146, _, .slice none 0 0, emp, .slice none 0 0, emp, Ee ⟨rfl, rfl, rfl, rfl, rfl, rfl, rfl, rfl, rfl, rfl, rfl, rfl, rfl, rfl, rfl, rfl, rfl, trivial⟩, (Ext.refl _), OS.nil, (emp_sub _), (fun _ _ _ => rfl), OS.nil, (emp_sub _), (fun _ _ _ => rfl), (fun _ => .inl rfl)⟩ ?_
  rintro ⟨aJ, aK, d1⟩ _ pI ⟨Hi, ρ, g1, dC, g2, cT, rfl, HF⟩
  revert HF
  refine bb8 fun X143 g3 jH d2 g4 fM dD eV => ?_
  have H := H aJ aK d1 Hi
  obtain ⟨fN, fO, rfl⟩ := g3.shape
  obtain ⟨eW, eX, rfl⟩ := g4.shape
  refine Wq (Wg (Lv ok 0 [(45, .bool (decide (d1 < (ln dB))))] 1 rfl rfl (Ln _ rfl (Wq ?_))))
  refine Wc (decide (d1 < (ln dB))) rfl (fun g5 => ?_) (fun g5 => ?_)
  ·have H := H.1 g5
   refine Wk (Wq (W_block (Wq (Wg ?_))))
   obtain ⟨g6, pJ, pK, H⟩ := H
   refine Li 0 rfl rfl rfl Try.underlying22 ti_3 rfl rfl jG pJ pK fun uF uG pL pM => (Lo 1 rfl rfl rfl ti_3 ag_3 rfl pL pM (jF.ext X143) fun uH pN => ?_)
   obtain rfl := pN.int
   refine Lv ok 2 [(16, I g6)] 3 rfl rfl (Ln _ rfl (Wq (Wg (Lv ok 0 [(48, sl fN aJ fO), (49, I g6), (50, I base)] 3 rfl rfl (Lc 3 rfl rfl rfl cal_82 rfl (spec_oDown_w _ _ _ H pI ) ?_)))))
   rintro _ uI ⟨eY, H, rfl, jI⟩
   refine LP_lit (α := Int) (g := emp) 4 (vs := [I eY]) (xs := [eY]) rfl rfl rfl Try.underlying22 ti_3 rfl rfl ⟨⟨_, rfl, rfl⟩, trivial⟩ rfl rfl fun uJ uK uL jJ jK pO uM => ?_
   obtain ⟨uN, uO, rfl⟩ := jK.shape
   have g7 := (jI.trans jJ)
   obtain ⟨hb, H⟩ := H
   refine LP_appendf (α := Int) 5 rfl rfl rfl Try.underlying22 ti_3 rfl rfl rfl g3 (jH.ext g7) jK.readf pO (by first | omega | (simp only [ln] at *; omega)) (by first | omega | (simp only [ln] at *; omega)) fun pP uP pQ jL jM g8 dm => ?_
   obtain ⟨jN, jO, rfl⟩ := jL.shape
   refine Lv ok 6 [(13, .slice jN (List.length (aJ ++ ([eY]))) jO)] 7 rfl rfl (Ln _ rfl (Wg (Lv ok 0 [(54, sl eW aK eX), (55, I g6), (56, I base)] 3 rfl rfl (Lc 3 rfl rfl rfl cal_83 rfl (spec_oUp_w _ _ _ H pQ ) ?_))))
   rintro _ uQ ⟨eZ, H, rfl, pR⟩
   refine LP_lit (α := Int) (g := emp) 4 (vs := [I eZ]) (xs := [eZ]) rfl rfl rfl Try.underlying22 ti_3 rfl rfl ⟨⟨_, rfl, rfl⟩, trivial⟩ rfl rfl fun uR uS uT pS jP pT uU => ?_
   obtain ⟨uV, uW, rfl⟩ := jP.shape
   have e0 := (pR.trans pS)
   obtain ⟨uX, H⟩ := H
   refine LP_appendf (α := Int) 5 rfl rfl rfl Try.underlying22 ti_3 rfl rfl rfl g4 (((fM.ext g7).but g8 eV.symm).ext e0) jP.readf pT (by first | omega | (simp only [ln] at *; omega)) (by first | omega | (simp only [ln] at *; omega)) fun pU uY uZ jQ pV jR jS => ?_
   obtain ⟨jT, jU, rfl⟩ := jQ.shape
   refine Lv ok 6 [(14, .slice jT (List.length (aK ++ ([eZ]))) jU)] 7 rfl rfl (Ln _ rfl (Wg (Lv ok 0 [(60, I (wr (d1 + 1))), (44, I (wr (d1 + 1)))] 2 rfl rfl (Ln _ rfl ?_))))
   have g9 := ((X143.trans jI).trans jJ)
   have dl : Fresh bG.heap.size dC := (DomLe.fresh d2 (emp_fresh _) (Nat.le_refl _))
   have jV : Fresh bG.heap.size cT := (DomLe.fresh dD (emp_fresh _) (Nat.le_refl _))
   have jW := (Mj dm eV.symm (fM.ext g7)).symm
   exact ⟨(aJ ++ ([eY]), aK ++ ([eZ]), wr (d1 + 1)), ⟨H.1, _, .slice jN (List.length (aJ ++ ([eY]))) jO, pP, .slice jT (List.length (aK ++ ([eZ]))) jU, pU, Ee ⟨rfl, rfl, rfl, rfl, rfl, rfl, rfl, rfl, rfl, rfl, rfl, rfl, rfl, rfl, rfl, rfl, rfl, trivial⟩, But.ext (((((Br emp _).stepx g9).step g8 (dl.dom _)).stepx e0).step jR (jV.dom _)), jL, ((jM.ext e0).but jR jW), ((dm.fresh dl g9.size).dom _), jQ, pV, ((jS.fresh jV (Nat.le_trans (Nat.le_trans g9.size g8.size) e0.size)).dom _), (Mj jS jW (jM.ext e0))⟩, H.2⟩
  have H := H.2 g5
  refine W_exit ?_
  refine (if_pos rfl).mpr ?_
  refine Wq (Wg (Lv ok 0 [(61, .pointer (some ⟨aL, 1, none⟩))] 1 rfl rfl ?_))
  have pW : Dj (bx aA 29 [.slice none 0 0, .slice none 0 0, .slice none 0 0, .slice none 0 0]) (bx aL 93 [sl dT aB.Cells dU, sl c7 aB.Rows c8, sl b6 aB.Cols b7, I aB.Total]) := (Db (Df c9 aN).symm)
  refine Lb 1 (v := sl c7 aB.Rows c8) rfl rfl rfl ti_22 ag_22 (fun _ => rfl) rfl (((eR.ext bP).but X102 pW).ext X143) rfl rfl (Lv ok 2 [(63, I a8)] 3 rfl rfl ?_)
  obtain ⟨a0, pX, pY, H⟩ := H
  refine Li 3 rfl rfl rfl Try.underlying22 ti_3 rfl rfl i5.readf pX pY fun u0 u1 pZ p0 => ?_
  have jX := (Df gS eQ).symm
  have jY := ((gS.ext b8).but y jX)
  have p1 := (Df jY aN).symm
  have p2 : Dj (bx aA 29 [.slice none 0 0, .slice none 0 0, .slice none 0 0, .slice none 0 0]) o5 := (Db (Df jY aN).symm)
  refine Lo 4 rfl rfl rfl ti_3 ag_3 rfl pZ p0 (((((((gS.ext b8).but y jX).ext bU).but bV p1).ext jE).but X102 p2).ext X143) fun u2 p3 => ?_
  obtain rfl := p3.int
  refine Lv ok 5 [(17, I a0)] 6 rfl rfl (Ln _ rfl (Wq ?_))
  refine W_open mix fun u3 hA => ?_
  refine AP_game 6 [[], [0], [], [], [2, 3], [2, 3, 4], [0, 1, 2, 3, 4, 5], [0, 1, 2, 3, 4, 5, 6], [0, 1, 2, 3, 4, 5, 6, 7]] [[(6, none)], [(66, some 0)], [(13, none)], [], [(68, some 2), (69, some 3)], [(70, some 4)]] [(1, none), (4, none), (5, none), (6, none), (7, none), (8, none), (9, none), (10, none), (14, none), (17, none), (35, none), (36, none), (37, none), (67, some 1), (71, some 5)] [(0, false), (1, false), (2, false), (3, true), (4, true), (5, true)] (by kernel_rfl) (by kernel_rfl) ?_
  refine GS_ev ok [(6, pb aA)] (.pointer (some ⟨aA, 2, none⟩)) rfl rfl (fun _ h => h) (fun _ => rfl) ?_
  have fP := (eU.ext (X143.trans hA))
  refine GS_r1 [(66, .pointer (some ⟨aA, 2, none⟩))] (sl aO lo aP) rfl rfl (fun _ h => h) (fun _ w e => ex_ldbox rfl ti_23 ag_23 (fun _ => rfl) rfl e rfl rfl) fP ?_
  refine GS_ev ok [(13, sl fN aJ fO)] (sl fN aJ fO) rfl rfl (fun _ h => h) (fun _ => rfl) ?_
  refine GS_lp [] rfl rfl (fun _ h => h) rfl fun ρ u4 hB => ?_
  refine LP_lit (α := Int) (g := emp) 0 (vs := [I 0]) (xs := [0]) rfl rfl rfl Try.underlying22 ti_3 rfl rfl ⟨⟨_, rfl, rfl⟩, trivial⟩ rfl rfl fun u5 u6 u7 hC jZ p4 u9 => ?_
  obtain ⟨p5, p6, rfl⟩ := jZ.shape
  have j0 := (hB.trans hC)
  have j1 := (fP.ext j0)
  refine LP_gs ⟨⟨.inr j1, trivial⟩, ?_⟩
  refine GS_lp [(68, sl fN aJ fO), (69, .slice p5 (List.length ([0])) p6)] rfl rfl (fun _ h => h) rfl fun ρ vA e1 => ?_
  have hD := (((hA.trans hB).trans hC).trans e1)
  obtain ⟨vB, H⟩ := H
  refine LP_appendf (α := Int) 0 rfl rfl rfl Try.underlying22 ti_3 rfl rfl rfl g3 (jH.ext hD) jZ.readf (p4.ext e1) (by first | omega | (simp only [ln] at *; omega)) (by first | omega | (simp only [ln] at *; omega)) fun vC vD vE j2 p7 aX d3 => ?_
  obtain ⟨j3, j4, rfl⟩ := j2.shape
  have fQ := (Mj d2 (Dj.emp_l _) eU)
  have j5 := ((j1.ext e1).but aX fQ)
  refine LP_gs ⟨⟨.inr j5, trivial⟩, ?_⟩
  refine GS_lp [(70, .slice j3 (List.length (aJ ++ ([0]))) j4)] rfl rfl (fun _ h => h) rfl fun ρ vF cU => ?_
  refine LP_litD (α := List Int) 0 (vs := [.slice j3 (List.length (aJ ++ ([0]))) j4]) (xs := [aJ ++ ([0])]) rfl rfl rfl Try.underlying23 ti_22 rfl rfl (allO.one (OD.rvo (OS.od j2))) (p7.ext cU) rfl rfl fun vG vH vI j6 j7 p8 d4 => ?_
  obtain ⟨p9, qA, rfl⟩ := j7.shape
  have j8 := (cU.trans j6)
  refine LP_gs ⟨⟨.inr (j5.ext j8), trivial⟩, ?_⟩
  intro vJ hE ρ hn
  refine AP_forget [(1, I base), (4, pb b), (5, pb aL), (6, pb aA), (7, .slice cL (List.length (([] : List Int))) cM), (8, .slice cN (List.length (([] : List Int))) cO), (9, I (wr (0 - bX))), (10, I cols), (14, sl eW aK eX), (17, I a0), (35, sl a x c), (36, I (ln x)), (37, I a8), (67, sl aO lo aP), (71, .slice p9 (List.length ([aJ ++ ([0])])) qA)] (by exact hn) fun ρ => ?_
  refine AP_tail 6 [[], [0], [], [], [2, 3], [2, 3, 4], [0, 1, 2, 3, 4, 5], [0, 1, 2, 3, 4, 5, 6], [0, 1, 2, 3, 4, 5, 6, 7]] (by kernel_rfl) ?_
  have a5 := ((((X143.trans hA).trans hB).trans hC).trans e1)
  have hF := (Mj d2 (Dj.emp_l _) cD)
  have bH := (j8.trans hE)
  have j9 := (cD.ext a5)
  have qB := (Mj d4 (Mj d3 hF j9) ((j9.but aX hF).ext cU)).symm
  obtain ⟨vK, H⟩ := H
  refine LP_appendD (α := List Int) 6 rfl rfl rfl Try.underlying23 ti_22 rfl rfl rfl gX (((cD.ext a5).but aX hF).ext bH) j7 (p8.ext hE) qB (by first | omega | (simp only [ln] at *; omega)) (by first | omega | (simp only [ln] at *; omega)) fun fR vL vM hw kA hG bR dh cV => ?_
  obtain ⟨a9, bA, rfl⟩ := kA.shape
  refine Lv ok 7 [(73, .pointer (some ⟨aA, 2, none⟩))] 8 rfl rfl ?_
  have kB := (j0.trans e1)
  refine Lx 8 (vs := [.slice a9 (List.length (lo ++ ([aJ ++ ([0])]))) bA]) (cs' := [sl aC rows aD, .slice none 0 0, .slice a9 (List.length (lo ++ ([aJ ++ ([0])]))) bA, sl aF hi aG]) rfl rfl rfl ti_23 rfl rfl rfl rfl rfl ((((fP.ext kB).but aX fQ).ext bH).but (But.dom bR dh) cS) rfl rfl fun vN qC bE => (Ln _ rfl (Wq ?_))
  refine W_open mix fun vO kC => ?_
  refine AP_game 13 [[], [0], [], [], [], [3, 4], [], [], [3, 4, 5, 6, 7], [3, 4, 5, 6, 7, 8], [3, 4, 5, 6, 7, 8, 9], [2, 3, 4, 5, 6, 7, 8, 9, 10], [2, 3, 4, 5, 6, 7, 8, 9, 10, 11], [0, 1, 2, 3, 4, 5, 6, 7, 8, 9, 10, 11, 12], [0, 1, 2, 3, 4, 5, 6, 7, 8, 9, 10, 11, 12, 13], [0, 1, 2, 3, 4, 5, 6, 7, 8, 9, 10, 11, 12, 13, 14]] [[(6, none)], [(74, some 0)], [(14, none)], [(17, none)], [(1, none)], [(77, some 3), (78, some 4)], [(17, none)], [(1, none)], [(80, some 6), (81, some 7)], [(79, some 5), (82, some 8)], [(83, some 9)], [(76, some 2), (84, some 10)], [(85, some 11)]] [(1, none), (4, none), (5, none), (6, none), (7, none), (8, none), (9, none), (10, none), (17, none), (35, none), (36, none), (37, none), (75, some 1), (86, some 12)] [(0, false), (1, false), (2, false), (3, false), (4, false), (5, false), (6, false), (7, false), (8, false), (9, false), (10, true), (11, true), (12, true)] (by kernel_rfl) (by kernel_rfl) ?_
  refine GS_ev ok [(6, pb aA)] (.pointer (some ⟨aA, 3, none⟩)) rfl rfl (fun _ h => h) (fun _ => rfl) ?_
  have fS := (qC.ext kC)
  refine GS_r1 [(74, .pointer (some ⟨aA, 3, none⟩))] (sl aF hi aG) rfl rfl (fun _ h => h) (fun _ w e => ex_ldbox rfl ti_23 ag_23 (fun _ => rfl) rfl e rfl rfl) fS ?_
  refine GS_ev ok [(14, sl eW aK eX)] (sl eW aK eX) rfl rfl (fun _ h => h) (fun _ => rfl) ?_
  refine GS_ev ok [(17, I a0)] (I a0) rfl rfl (fun _ h => h) (fun _ => rfl) ?_
  refine GS_ev ok [(1, I base)] (I base) rfl rfl (fun _ h => h) (fun _ => rfl) ?_
  obtain ⟨aQ, Hd307, H⟩ := H
  refine GS_q [(77, I a0), (78, I base)] (I aQ) [] [I a0, I base] rfl rfl (fun _ h => h) rfl cal_83 (fun _ => rfl) (fun w e => (spec_oUp_w _ _ _ Hd307 w ).mono (fun _ _ h => by obtain ⟨_, rfl, rfl, x⟩ := h; exact ⟨rfl, x⟩)) trivial ?_
  refine GS_ev ok [(17, I a0)] (I a0) rfl rfl (fun _ h => h) (fun _ => rfl) ?_
  refine GS_ev ok [(1, I base)] (I base) rfl rfl (fun _ h => h) (fun _ => rfl) ?_
  obtain ⟨aR, Hd309, H⟩ := H
  refine GS_q [(80, I a0), (81, I base)] (I aR) [] [I a0, I base] rfl rfl (fun _ h => h) rfl cal_82 (fun _ => rfl) (fun w e => (spec_oDown_w _ _ _ Hd309 w ).mono (fun _ _ h => by obtain ⟨_, rfl, rfl, x⟩ := h; exact ⟨rfl, x⟩)) trivial ?_
  refine GS_ev ok [(79, I aQ), (82, I aR)] (I (wr (aQ - aR))) rfl rfl (fun _ h => h) (fun _ => rfl) ?_
  refine GS_lp [(83, I (wr (aQ - aR)))] rfl rfl (fun _ h => h) rfl fun ρ vP kD => ?_
  refine LP_lit (α := Int) (g := emp) 0 (vs := [I (wr (aQ - aR))]) (xs := [wr (aQ - aR)]) rfl rfl rfl Try.underlying22 ti_3 rfl rfl ⟨⟨_, rfl, rfl⟩, trivial⟩ rfl rfl fun vQ vR vS kE kF qD vT => ?_
  obtain ⟨qE, qF, rfl⟩ := kF.shape
  have kG := (kD.trans kE)
  have kH := (fS.ext kG)
  refine LP_gs ⟨⟨.inr kH, trivial⟩, ?_⟩
  refine GS_lp [(76, sl eW aK eX), (84, .slice qE (List.length ([wr (aQ - aR)])) qF)] rfl rfl (fun _ h => h) rfl fun ρ vU fT => ?_
  have kI := (Mj dD (Dj.emp_l _) cD).symm
  have qG := (Mj dD (Dj.emp_l _) eU).symm
  have bF := (((kC.trans kD).trans kE).trans fT)
  obtain ⟨vV, H⟩ := H
  refine LP_appendf (α := Int) 0 rfl rfl rfl Try.underlying22 ti_3 rfl rfl rfl g4 ((((((fM.ext hD).but aX eV.symm).ext bH).but (But.dom bR dh) kI).but bE qG).ext bF) kF.readf (qD.ext fT) (by first | omega | (simp only [ln] at *; omega)) (by first | omega | (simp only [ln] at *; omega)) fun vW vX vY kJ qH bB e2 => ?_
  obtain ⟨kK, kL, rfl⟩ := kJ.shape
  have fU : Dj cT (bx aA 29 [sl aC rows aD, .slice none 0 0, .slice a9 (List.length (lo ++ ([aJ ++ ([0])]))) bA, sl aF hi aG]) := (Db (Mj dD (Dj.emp_l _) eU).symm).symm
  have kM := ((kH.ext fT).but bB fU)
  refine LP_gs ⟨⟨.inr kM, trivial⟩, ?_⟩
  refine GS_lp [(85, .slice kK (List.length (aK ++ ([wr (aQ - aR)]))) kL)] rfl rfl (fun _ h => h) rfl fun ρ vZ dE => ?_
  refine LP_litD (α := List Int) 0 (vs := [.slice kK (List.length (aK ++ ([wr (aQ - aR)]))) kL]) (xs := [aK ++ ([wr (aQ - aR)])]) rfl rfl rfl Try.underlying23 ti_22 rfl rfl (allO.one (OD.rvo (OS.od kJ))) (qH.ext dE) rfl rfl fun v0 v1 v2 kN kO qI e3 => ?_
  obtain ⟨qJ, qK, rfl⟩ := kO.shape
  have kP := (dE.trans kN)
  refine LP_gs ⟨⟨.inr (kM.ext kP), trivial⟩, ?_⟩
  intro v3 hH ρ qL
  refine AP_forget [(1, I base), (4, pb b), (5, pb aL), (6, pb aA), (7, .slice cL (List.length (([] : List Int))) cM), (8, .slice cN (List.length (([] : List Int))) cO), (9, I (wr (0 - bX))), (10, I cols), (17, I a0), (35, sl a x c), (36, I (ln x)), (37, I a8), (75, sl aF hi aG), (86, .slice qJ (List.length ([aK ++ ([wr (aQ - aR)])])) qK)] (by exact qL) fun ρ => ?_
  refine AP_tail 13 [[], [0], [], [], [], [3, 4], [], [], [3, 4, 5, 6, 7], [3, 4, 5, 6, 7, 8], [3, 4, 5, 6, 7, 8, 9], [2, 3, 4, 5, 6, 7, 8, 9, 10], [2, 3, 4, 5, 6, 7, 8, 9, 10, 11], [0, 1, 2, 3, 4, 5, 6, 7, 8, 9, 10, 11, 12], [0, 1, 2, 3, 4, 5, 6, 7, 8, 9, 10, 11, 12, 13], [0, 1, 2, 3, 4, 5, 6, 7, 8, 9, 10, 11, 12, 13, 14]] (by kernel_rfl) ?_
  have fV := (Mj d2 (Dj.emp_l _) bQ)
  have hI := (Mj dD (Dj.emp_l _) bQ)
  have cW := (kP.trans hH)
  have kQ := ((((((bQ.ext a5).but aX fV).ext bH).but (But.dom bR dh) d0.symm).but bE bD.symm).ext bF)
  have qM := (Mj e3 (Mj e2 hI kQ) ((kQ.but bB hI).ext dE)).symm
  obtain ⟨v4, H⟩ := H
  refine LP_appendD (α := List Int) 13 rfl rfl rfl Try.underlying23 ti_22 rfl rfl rfl gY ((((((((bQ.ext a5).but aX fV).ext bH).but (But.dom bR dh) d0.symm).but bE bD.symm).ext bF).but bB hI).ext cW) kO (qI.ext hH) qM (by first | omega | (simp only [ln] at *; omega)) (by first | omega | (simp only [ln] at *; omega)) fun fW v5 v6 v7 kR kS d5 d6 d7 => ?_
  obtain ⟨bY, bZ, rfl⟩ := kR.shape
  refine Lv ok 14 [(88, .pointer (some ⟨aA, 3, none⟩))] 15 rfl rfl ?_
  have kT := (kG.trans fT)
  refine Lx 15 (vs := [.slice bY (List.length (hi ++ ([aK ++ ([wr (aQ - aR)])]))) bZ]) (cs' := [sl aC rows aD, .slice none 0 0, .slice a9 (List.length (lo ++ ([aJ ++ ([0])]))) bA, .slice bY (List.length (hi ++ ([aK ++ ([wr (aQ - aR)])]))) bZ]) rfl rfl rfl ti_23 rfl rfl rfl rfl rfl ((((fS.ext kT).but bB fU).ext cW).but (But.dom d5 d6) (Db bD.symm).symm) rfl rfl fun v8 qN dF => ?_
  refine Ln _ rfl (Wq ?_)
  refine W_open mix fun v9 kU => ?_
  refine AP_game 6 [[], [0], [], [], [2, 3], [2, 3, 4], [0, 1, 2, 3, 4, 5], [0, 1, 2, 3, 4, 5, 6], [0, 1, 2, 3, 4, 5, 6, 7]] [[(6, none)], [(89, some 0)], [(17, none)], [(1, none)], [(91, some 2), (92, some 3)], [(93, some 4)]] [(1, none), (4, none), (5, none), (6, none), (7, none), (8, none), (9, none), (10, none), (17, none), (35, none), (36, none), (37, none), (90, some 1), (94, some 5)] [(0, false), (1, false), (2, false), (3, false), (4, false), (5, true)] (by kernel_rfl) (by kernel_rfl) ?_
  refine GS_ev ok [(6, pb aA)] (pb aA) rfl rfl (fun _ h => h) (fun _ => rfl) ?_
  have fX := (qN.ext kU)
  refine GS_r1 [(89, pb aA)] (sl aC rows aD) rfl rfl (fun _ h => h) (fun _ w e => ex_ldbox rfl ti_22 ag_22 (fun _ => rfl) rfl e rfl rfl) fX ?_
  refine GS_ev ok [(17, I a0)] (I a0) rfl rfl (fun _ h => h) (fun _ => rfl) ?_
  refine GS_ev ok [(1, I base)] (I base) rfl rfl (fun _ h => h) (fun _ => rfl) ?_
  obtain ⟨bI, Hd389, H⟩ := H
  refine GS_q [(91, I a0), (92, I base)] (I bI) [] [I a0, I base] rfl rfl (fun _ h => h) rfl cal_83 (fun _ => rfl) (fun w e => (spec_oUp_w _ _ _ Hd389 w ).mono (fun _ _ h => by obtain ⟨_, rfl, rfl, x⟩ := h; exact ⟨rfl, x⟩)) trivial ?_
  refine GS_lp [(93, I bI)] rfl rfl (fun _ h => h) rfl fun ρ wA kV => ?_
  refine LP_lit (α := Int) (g := emp) 0 (vs := [I bI]) (xs := [bI]) rfl rfl rfl Try.underlying22 ti_3 rfl rfl ⟨⟨_, rfl, rfl⟩, trivial⟩ rfl rfl fun wB wC wD kW kX qO wE => ?_
  obtain ⟨qP, qQ, rfl⟩ := kX.shape
  have kY := (kV.trans kW)
  refine LP_gs ⟨⟨.inr (fX.ext kY), trivial⟩, ?_⟩
  intro wF hJ ρ qR
  refine AP_forget [(1, I base), (4, pb b), (5, pb aL), (6, pb aA), (7, .slice cL (List.length (([] : List Int))) cM), (8, .slice cN (List.length (([] : List Int))) cO), (9, I (wr (0 - bX))), (10, I cols), (17, I a0), (35, sl a x c), (36, I (ln x)), (37, I a8), (90, sl aC rows aD), (94, .slice qP (List.length ([bI])) qQ)] (by exact qR) fun ρ => ?_
  refine AP_tail 6 [[], [0], [], [], [2, 3], [2, 3, 4], [0, 1, 2, 3, 4, 5], [0, 1, 2, 3, 4, 5, 6], [0, 1, 2, 3, 4, 5, 6, 7]] (by kernel_rfl) ?_
  have hK := (Mj d2 (Dj.emp_l _) cC)
  have hL := (Mj dD (Dj.emp_l _) cC)
  have dG := (((kU.trans kV).trans kW).trans hJ)
  obtain ⟨wG, H⟩ := H
  refine LP_appendf (α := Int) 6 rfl rfl rfl Try.underlying22 ti_3 rfl rfl rfl gW (((((((((((cC.ext a5).but aX hK).ext bH).but (But.dom bR dh) dZ).but bE bC.symm).ext bF).but bB hL).ext cW).but (But.dom d5 d6) fL).but dF (Db bC.symm)).ext dG) kX.readf (qO.ext hJ) (by first | omega | (simp only [ln] at *; omega)) (by first | omega | (simp only [ln] at *; omega)) fun hM wH wI kZ qS fY e4 => ?_
  obtain ⟨d8, d9, rfl⟩ := kZ.shape
  refine Lv ok 7 [(96, pb aA)] 8 rfl rfl ?_
  have k0 := (kY.trans hJ)
  refine Lx 8 (vs := [.slice d8 (List.length (rows ++ ([bI]))) d9]) (cs' := [.slice d8 (List.length (rows ++ ([bI]))) d9, .slice none 0 0, .slice a9 (List.length (lo ++ ([aJ ++ ([0])]))) bA, .slice bY (List.length (hi ++ ([aK ++ ([wr (aQ - aR)])]))) bZ]) rfl rfl rfl ti_22 rfl rfl rfl rfl rfl ((fX.ext k0).but fY (Db bC.symm).symm) rfl rfl fun qT qU fZ => ?_
  refine Ln _ rfl (Wg (Lv ok 0 [(97, I cols), (98, I a0), (99, I base)] 3 rfl rfl (Lc 3 rfl rfl rfl cal_83 rfl (spec_oUp_w _ _ _ H qT ) ?_)))
  rintro _ wJ ⟨hN, H, rfl, e5⟩
  refine Lv ok 4 [(101, I (wr (cols + hN))), (10, I (wr (cols + hN)))] 6 rfl rfl (Ln _ rfl (Wg (Lv ok 0 [(102, I (wr (a8 + 1))), (37, I (wr (a8 + 1)))] 2 rfl rfl (Ln _ rfl ?_))))
  have k1 : Fresh cB.heap.size dC := (DomLe.fresh d2 (emp_fresh _) X102.size)
  have k2 : DomLe (bx aA 29 [.slice none 0 0, .slice none 0 0, .slice none 0 0, .slice none 0 0]) cB.heap.size cQ := (Mt (Oe (Or _) _) dA (Nat.le_refl _))
  have k3 : Fresh cB.heap.size cT := (DomLe.fresh dD (emp_fresh _) X102.size)
  have k4 : DomLe (bx aA 29 [.slice none 0 0, .slice none 0 0, .slice none 0 0, .slice none 0 0]) cB.heap.size cR := (Mt (Oe (Or _) _) dY (Nat.le_refl _))
  have k5 : DomLe (bx aA 29 [.slice none 0 0, .slice none 0 0, .slice none 0 0, .slice none 0 0]) cB.heap.size cP := (Mt (Oe (Or _) _) eT (Nat.le_refl _))
  have k6 := (fX.ext k0)
  have qV : Dj (bx aA 29 [sl aC rows aD, .slice none 0 0, .slice a9 (List.length (lo ++ ([aJ ++ ([0])]))) bA, .slice bY (List.length (hi ++ ([aK ++ ([wr (aQ - aR)])]))) bZ]) hM := (Mj e4 (Db bC.symm).symm k6).symm
  have k7 := (fP.ext kB)
  have k8 := ((k7.but aX fQ).ext cU)
  have f0 := (Dl cS (Mj d4 (Mj d3 fQ k7) k8))
  have f1 := (j6.trans hE)
  have f2 := (k8.ext f1)
  have hO := (Mj cV f0 f2).symm
  have k9 := (fM.ext hD)
  have lA := ((k9.but aX eV.symm).ext cU)
  have f3 := (Mj cV (Dl kI (Mj d4 (Mj d3 eV.symm k9) lA)) (lA.ext f1)).symm
  have lB := (bQ.ext a5)
  have lC := ((lB.but aX fV).ext cU)
  have hP := (Mj cV (Dl d0.symm (Mj d4 (Mj d3 fV lB) lC)) (lC.ext f1)).symm
  have lD : Dj (bx aA 29 [sl aC rows aD, .slice none 0 0, .slice a9 (List.length (lo ++ ([aJ ++ ([0])]))) bA, sl aF hi aG]) fR := (Db (Mj cV f0 f2).symm)
  have lE := (cC.ext a5)
  have lF := ((lE.but aX hK).ext cU)
  have lG := (lF.ext f1)
  have lH := (Mj cV (Dl dZ (Mj d4 (Mj d3 hK lE) lF)) lG).symm
  have qW : Dj (bx aA 29 [sl aC rows aD, .slice none 0 0, .slice a9 (List.length (lo ++ ([aJ ++ ([0])]))) bA, .slice bY (List.length (hi ++ ([aK ++ ([wr (aQ - aR)])]))) bZ]) fR := (Db (Mj cV f0 f2).symm)
  have lI := (fS.ext kT)
  have lJ := ((lI.but bB fU).ext dE)
  have hQ := (Mj e3 (Mj e2 fU lI) lJ)
  have hR := (kN.trans hH)
  have hS := (lJ.ext hR)
  have lK : Dj (bx aA 29 [sl aC rows aD, .slice none 0 0, .slice a9 (List.length (lo ++ ([aJ ++ ([0])]))) bA, sl aF hi aG]) fW := (Mj d7 (Dl (Db bD.symm).symm hQ) hS).symm
  have lL := (((lG.but (But.dom bR dh) dZ).but bE bC.symm).ext bF)
  have lM := ((lL.but bB hL).ext dE)
  have lN := (Mj d7 (Dl fL (Mj e3 (Mj e2 hL lL) lM)) (lM.ext hR)).symm
  have qX : Dj (bx aA 29 [sl aC rows aD, .slice none 0 0, .slice a9 (List.length (lo ++ ([aJ ++ ([0])]))) bA, .slice bY (List.length (hi ++ ([aK ++ ([wr (aQ - aR)])]))) bZ]) fW := (Db (Mj d7 (Dl (Db bD.symm).symm hQ) hS).symm)
  have qY : Dj hM (bx aA 29 [.slice d8 (List.length (rows ++ ([bI]))) d9, .slice none 0 0, .slice a9 (List.length (lo ++ ([aJ ++ ([0])]))) bA, .slice bY (List.length (hi ++ ([aK ++ ([wr (aQ - aR)])]))) bZ]) := (Db (Mj e4 (Db bC.symm).symm k6).symm).symm
  have qZ : Dj fR (bx aA 29 [.slice d8 (List.length (rows ++ ([bI]))) d9, .slice none 0 0, .slice a9 (List.length (lo ++ ([aJ ++ ([0])]))) bA, .slice bY (List.length (hi ++ ([aK ++ ([wr (aQ - aR)])]))) bZ]) := (Db (Mj cV f0 f2).symm).symm
  have q0 := (Mj e4 lH (((((((hG.but bE hO).ext bF).but bB f3).ext cW).but (But.dom d5 d6) hP).but dF lD).ext dG)).symm
  have q1 : Dj fW (bx aA 29 [.slice d8 (List.length (rows ++ ([bI]))) d9, .slice none 0 0, .slice a9 (List.length (lo ++ ([aJ ++ ([0])]))) bA, .slice bY (List.length (hi ++ ([aK ++ ([wr (aQ - aR)])]))) bZ]) := (Db (Mj d7 (Dl (Db bD.symm).symm hQ) hS).symm).symm
  have q2 := (Mj e4 lN ((kS.but dF lK).ext dG)).symm
  have lO := ((hG.but bE hO).ext bF)
  have lP := ((lO.but bB f3).ext dE)
  exact ⟨(wr (cols + hN), wr (a8 + 1), rows ++ ([bI]), lo ++ ([aJ ++ ([0])]), hi ++ ([aK ++ ([wr (aQ - aR)])])), ⟨H.1, _, .slice d8 (List.length (rows ++ ([bI]))) d9, hM, .slice a9 (List.length (lo ++ ([aJ ++ ([0])]))) bA, fR, .slice bY (List.length (hi ++ ([aK ++ ([wr (aQ - aR)])]))) bZ, fW, Ee ⟨rfl, rfl, rfl, rfl, rfl, rfl, rfl, rfl, rfl, rfl, rfl, trivial⟩, ((((((((((((((((Br (bx aA 29 [.slice none 0 0, .slice none 0 0, .slice none 0 0, .slice none 0 0]) _).step X102 (Oe (Or _) _)).stepx a5).step aX (k1.dom _)).stepx bH).step (But.dom bR dh) k2).step bE (Md (Or _) Sd)).stepx bF).step bB (k3.dom _)).stepx cW).step (But.dom d5 d6) k4).step dF (Md (Or _) Sd)).stepx dG).step fY k5).step fZ (Md (Or _) Sd)).stepx e5), kZ, ((qS.but fZ qV).ext e5), (Mt k5 e4 (Nat.le_trans (Nat.le_trans (Nat.le_trans (Nat.le_trans (Nat.le_trans (Nat.le_trans (Nat.le_trans (Nat.le_trans (Nat.le_trans (Nat.le_trans (Nat.le_trans X102.size a5.size) aX.size) bH.size) (But.dom bR dh).size) bE.size) bF.size) bB.size) cW.size) (But.dom d5 d6).size) dF.size) dG.size)), kA, ((((((((((hG.but bE hO).ext bF).but bB f3).ext cW).but (But.dom d5 d6) hP).but dF lD).ext dG).but fY lH).but fZ qW).ext e5), (Mt (Mu k2 ((DomLe.fresh d4 (d3.fresh k1 (Nat.le_trans X102.size a5.size)) (Nat.le_trans (Nat.le_trans (Nat.le_trans X102.size a5.size) aX.size) cU.size)).dom _)) cV (Nat.le_trans (Nat.le_trans (Nat.le_trans X102.size a5.size) aX.size) bH.size)), kR, (((((kS.but dF lK).ext dG).but fY lN).but fZ qX).ext e5), (Mt (Mu k4 ((DomLe.fresh e3 (e2.fresh k3 (Nat.le_trans (Nat.le_trans (Nat.le_trans (Nat.le_trans (Nat.le_trans (Nat.le_trans X102.size a5.size) aX.size) bH.size) (But.dom bR dh).size) bE.size) bF.size)) (Nat.le_trans (Nat.le_trans (Nat.le_trans (Nat.le_trans (Nat.le_trans (Nat.le_trans (Nat.le_trans (Nat.le_trans X102.size a5.size) aX.size) bH.size) (But.dom bR dh).size) bE.size) bF.size) bB.size) dE.size)).dom _)) d7 (Nat.le_trans (Nat.le_trans (Nat.le_trans (Nat.le_trans (Nat.le_trans (Nat.le_trans (Nat.le_trans (Nat.le_trans X102.size a5.size) aX.size) bH.size) (But.dom bR dh).size) bE.size) bF.size) bB.size) cW.size)), (qU.ext e5), qY, qZ, q0, q1, q2, (Mj d7 (Dl hP (Mj e3 (Mj e2 f3 lO) lP)) (lP.ext hR))⟩, H.2⟩
 have H := H.2 hc
 refine W_exit ?_
 refine (if_pos rfl).mpr ?_
 refine Wq (Wq (Wg (Lv ok 0 [(103, .pointer (some ⟨aL, 2, none⟩))] 1 rfl rfl ?_)))
 have lQ : Dj (bx aA 29 [.slice none 0 0, .slice none 0 0, .slice none 0 0, .slice none 0 0]) (bx aL 93 [sl dT aB.Cells dU, sl c7 aB.Rows c8, sl b6 aB.Cols b7, I aB.Total]) := (Db (Df c9 aN).symm)
 have hT := ((eR.ext bP).but X102 lQ)
 refine Lb 1 (v := sl b6 aB.Cols b7) rfl rfl rfl ti_22 ag_22 (fun _ => rfl) rfl hT rfl rfl (Lv ok 2 [(105, I (ln aB.Cols)), (106, I 0)] 4 rfl rfl (Ln _ rfl (W_block ?_)))
 obtain ⟨U, hU⟩ : ∃ U : PH, U = (un (bx aA 29 [sl aC rows aD, .slice none 0 0, sl aO lo aP, sl aF hi aG]) (un fJ fK)) := ⟨_, rfl⟩
 have D : Dom U (bx aA 29 [sl aC rows aD, .slice none 0 0, sl aO lo aP, sl aF hi aG]) := Dom.eqv hU (Dom.l _ _)
 have D536 : Dom U fJ := Dom.eqv hU (Ot (Dom.r _ _) (Dom.l _ _))
 have D537 : Dom U fK := Dom.eqv hU (Ot (Dom.r _ _) (Ot (Dom.r _ _) (Or _)))
 have q3 : Dj fJ (bx aA 29 [sl aC rows aD, .slice none 0 0, sl aO lo aP, sl aF hi aG]) := (Db (Df b9 cA).symm.symm).symm
 have q4 : Dj fK (bx aA 29 [sl aC rows aD, .slice none 0 0, sl aO lo aP, sl aF hi aG]) := (Db (Df (b9.ext cK) bW).symm.symm).symm
 have q5 := (Df gU bW).symm
 obtain ⟨J552, q6, Hx554, H⟩ := H
 refine W_loop (S := (List Int) × (List Int) × Int × Int × (List Int)) (fun s ρ' w' => J552 s.1 s.2.1 s.2.2.1 s.2.2.2.1 s.2.2.2.2 ∧ ∃ (ρ : Env) (hV : Value) (cX : PH) (hW : Value) (cY : PH) (eA : Value) (cZ : PH), ρ' = setAll [(1, I base), (4, pb b), (5, pb aL), (6, pb aA), (7, hV), (8, hW), (9, I s.2.2.1), (10, I cols), (104, sl b6 aB.Cols b7), (105, I (ln aB.Cols)), (106, I s.2.2.2.1)] ρ ∧ But U bG w' ∧ OS 3 cX emp hV s.1 ∧ Sub cX w' ∧ DomLe U bG.heap.size cX ∧ OS 3 cY emp hW s.2.1 ∧ Sub cY w' ∧ DomLe U bG.heap.size cY ∧ OS 3 cZ emp eA s.2.2.2.2 ∧ Sub cZ w' ∧ DomLe U bG.heap.size cZ ∧ Sub (bx aA 29 [sl aC rows aD, eA, sl aO lo aP, sl aF hi aG]) w' ∧ Dj cX (bx aA 29 [sl aC rows aD, eA, sl aO lo aP, sl aF hi aG]) ∧ Dj cY (bx aA 29 [sl aC rows aD, eA, sl aO lo aP, sl aF hi aG]) ∧ Dj cY cX ∧ Dj cZ (bx aA 29 [sl aC rows aD, eA, sl aO lo aP, sl aF hi aG]) ∧ Dj cZ cX ∧ Dj cZ cY) (fun s => q6 s.1 s.2.1 s.2.2.1 s.2.2.2.1 s.2.2.2.2) (([] : List Int), ([] : List Int), wr (0 - bX), 0, []) ⟨Hx554, _, .slice cL (List.length (([] : List Int))) cM, fJ, .slice cN (List.length (([] : List Int))) cO, fK, .slice none 0 0, emp, Ee ⟨rfl, rfl, rfl, rfl, rfl, rfl, rfl, rfl, rfl, rfl, rfl, trivial⟩, (Br _ _), i7, ((gU.ext (gV.trans bP)).but X102 (Df b9 cA)), (Oe D536 _), i9, ((jA.ext bP).but X102 (Df (b9.ext cK) bW)), (Oe D537 _), OS.nil, (emp_sub _), (fun _ _ _ => rfl), eU, q3, q4, q5, (fun _ => .inl rfl), (fun _ => .inl rfl), (fun _ => .inl rfl)⟩ ?_
 rintro ⟨lastLo, lastHi, aM, dH, aE⟩ _ wK ⟨Hi, ρ, hV, cX, hW, cY, eA, cZ, rfl, HF⟩
 revert HF
 refine bb9 fun X551 hX lR dI hY f4 eB hZ => ?_
 refine bb9 fun e6 eC h0 c0 c1 e7 bS dJ eD => ?_
 have H := H lastLo lastHi aM dH aE Hi
 obtain ⟨f5, f6, rfl⟩ := hX.shape
 obtain ⟨e8, e9, rfl⟩ := hY.shape
 obtain ⟨aS, aT, rfl⟩ := hZ.shape
 refine Wq (Wg (Lv ok 0 [(107, .bool (decide (dH < (ln aB.Cols))))] 1 rfl rfl (Ln _ rfl (Wq ?_))))
 refine Wc (decide (dH < (ln aB.Cols))) rfl (fun h1 => ?_) (fun h1 => ?_)
 ·have H := H.1 h1
  refine Wk (Wq (W_block (Wq (Wg ?_))))
  obtain ⟨cE, q7, q8, H⟩ := H
  refine Li 0 rfl rfl rfl Try.underlying22 ti_3 rfl rfl i6.readf q7 q8 fun wL wM q9 rA => ?_
  have lS := (Df gT eQ).symm
  have f7 := ((gT.ext b8).but y lS)
  have lT := (Df f7 aN).symm
  have rB : Dj (bx aA 29 [.slice none 0 0, .slice none 0 0, .slice none 0 0, .slice none 0 0]) i4 := (Db (Df f7 aN).symm)
  have rC : Dj (bx aA 29 [sl aC rows aD, .slice none 0 0, sl aO lo aP, sl aF hi aG]) i4 := (Db (Df f7 aN).symm)
  have lU := ((f7.ext bU).but bV lT)
  have rD := (Df lU cA).symm
  have rE := (Df (lU.ext cK) bW).symm
  refine Lo 1 rfl rfl rfl ti_3 ag_3 rfl q9 rA (((((((gT.ext b8).but y lS).ext bU).but bV lT).ext (xc.trans bP)).but X102 rB).but X551 (Dj.eqv hU (Dl rC (Dl rD rE)))) fun wN rF => ?_
  obtain rfl := rF.int
  refine Lv ok 2 [(19, I cE)] 3 rfl rfl (Ln _ rfl (Wq (Wg (Lv ok 0 [(110, sl f5 lastLo f6)] 1 rfl rfl (LP_lit (α := Int) (g := emp) 1 (vs := [I 0]) (xs := [0]) rfl rfl rfl Try.underlying22 ti_3 rfl rfl ⟨⟨_, rfl, rfl⟩, trivial⟩ rfl rfl fun wO wP wQ bT lV rG wR => ?_)))))
  obtain ⟨wS, wT, rfl⟩ := lV.shape
  obtain ⟨wU, H⟩ := H
  refine LP_appendf (α := Int) 2 rfl rfl rfl Try.underlying22 ti_3 rfl rfl rfl hX (lR.ext bT) lV.readf rG (by first | omega | (simp only [ln] at *; omega)) (by first | omega | (simp only [ln] at *; omega)) fun lW wV rH lX lY c2 fA => ?_
  obtain ⟨h2, h3, rfl⟩ := lX.shape
  refine Lv ok 3 [(7, .slice h2 (List.length (lastLo ++ ([0]))) h3)] 4 rfl rfl (Ln _ rfl (Wq (Wg (Lv ok 0 [(113, sl e8 lastHi e9), (114, I cE), (115, I base)] 3 rfl rfl (Lc 3 rfl rfl rfl cal_83 rfl (spec_oUp_w _ _ _ H rH ) ?_)))))
  rintro _ rI ⟨dK, H, rfl, rJ⟩
  refine Lv ok 4 [(117, I cE), (118, I base)] 6 rfl rfl (Lc 6 rfl rfl rfl cal_82 rfl (spec_oDown_w _ _ _ H rI ) ?_)
  rintro _ wW ⟨dL, H, rfl, rK⟩
  refine Lv ok 7 [(120, I (wr (dK - dL)))] 8 rfl rfl (LP_lit (α := Int) (g := emp) 8 (vs := [I (wr (dK - dL))]) (xs := [wr (dK - dL)]) rfl rfl rfl Try.underlying22 ti_3 rfl rfl ⟨⟨_, rfl, rfl⟩, trivial⟩ rfl rfl fun wX wY wZ rL lZ rM w0 => ?_)
  obtain ⟨w1, w2, rfl⟩ := lZ.shape
  have b0 := ((rJ.trans rK).trans rL)
  obtain ⟨w3, H⟩ := H
  refine LP_appendf (α := Int) 9 rfl rfl rfl Try.underlying22 ti_3 rfl rfl rfl hY (((f4.ext bT).but c2 e7.symm).ext b0) lZ.readf rM (by first | omega | (simp only [ln] at *; omega)) (by first | omega | (simp only [ln] at *; omega)) fun l0 w4 w5 l1 l2 eE fB => ?_
  obtain ⟨h4, h5, rfl⟩ := l1.shape
  refine Lv ok 10 [(8, .slice h4 (List.length (lastHi ++ ([wr (dK - dL)]))) h5)] 11 rfl rfl (Ln _ rfl (Wq ?_))
  refine W_open mix fun w6 l3 => ?_
  refine AP_game 6 [[], [0], [], [], [2, 3], [2, 3, 4], [0, 1, 2, 3, 4, 5], [0, 1, 2, 3, 4, 5, 6], [0, 1, 2, 3, 4, 5, 6, 7]] [[(6, none)], [(123, some 0)], [(19, none)], [(1, none)], [(125, some 2), (126, some 3)], [(127, some 4)]] [(1, none), (4, none), (5, none), (6, none), (7, none), (8, none), (9, none), (10, none), (19, none), (104, none), (105, none), (106, none), (124, some 1), (128, some 5)] [(0, false), (1, false), (2, false), (3, false), (4, false), (5, true)] (by kernel_rfl) (by kernel_rfl) ?_
  refine GS_ev ok [(6, pb aA)] (.pointer (some ⟨aA, 1, none⟩)) rfl rfl (fun _ h => h) (fun _ => rfl) ?_
  have f8 := (((((h0.ext bT).but c2 c0).ext b0).but eE c1).ext l3)
  refine GS_r1 [(123, .pointer (some ⟨aA, 1, none⟩))] (sl aS aE aT) rfl rfl (fun _ h => h) (fun _ w e => ex_ldbox rfl ti_22 ag_22 (fun _ => rfl) rfl e rfl rfl) f8 ?_
  refine GS_ev ok [(19, I cE)] (I cE) rfl rfl (fun _ h => h) (fun _ => rfl) ?_
  refine GS_ev ok [(1, I base)] (I base) rfl rfl (fun _ h => h) (fun _ => rfl) ?_
  obtain ⟨bJ, Hd638, H⟩ := H
  refine GS_q [(125, I cE), (126, I base)] (I bJ) [] [I cE, I base] rfl rfl (fun _ h => h) rfl cal_83 (fun _ => rfl) (fun w e => (spec_oUp_w _ _ _ Hd638 w ).mono (fun _ _ h => by obtain ⟨_, rfl, rfl, x⟩ := h; exact ⟨rfl, x⟩)) trivial ?_
  refine GS_lp [(127, I bJ)] rfl rfl (fun _ h => h) rfl fun ρ w7 l4 => ?_
  refine LP_lit (α := Int) (g := emp) 0 (vs := [I bJ]) (xs := [bJ]) rfl rfl rfl Try.underlying22 ti_3 rfl rfl ⟨⟨_, rfl, rfl⟩, trivial⟩ rfl rfl fun w8 w9 xA l5 l6 rN xB => ?_
  obtain ⟨rO, rP, rfl⟩ := l6.shape
  have l7 := (l4.trans l5)
  refine LP_gs ⟨⟨.inr (f8.ext l7), trivial⟩, ?_⟩
  intro xC h6 ρ rQ
  refine AP_forget [(1, I base), (4, pb b), (5, pb aL), (6, pb aA), (7, .slice h2 (List.length (lastLo ++ ([0]))) h3), (8, .slice h4 (List.length (lastHi ++ ([wr (dK - dL)]))) h5), (9, I aM), (10, I cols), (19, I cE), (104, sl b6 aB.Cols b7), (105, I (ln aB.Cols)), (106, I dH), (124, sl aS aE aT), (128, .slice rO (List.length ([bJ])) rP)] (by exact rQ) fun ρ => ?_
  refine AP_tail 6 [[], [0], [], [], [2, 3], [2, 3, 4], [0, 1, 2, 3, 4, 5], [0, 1, 2, 3, 4, 5, 6], [0, 1, 2, 3, 4, 5, 6, 7]] (by kernel_rfl) ?_
  have dM := (((l3.trans l4).trans l5).trans h6)
  obtain ⟨xD, H⟩ := H
  refine LP_appendf (α := Int) 6 rfl rfl rfl Try.underlying22 ti_3 rfl rfl rfl hZ (((((e6.ext bT).but c2 dJ.symm).ext b0).but eE eD.symm).ext dM) l6.readf (rN.ext h6) (by first | omega | (simp only [ln] at *; omega)) (by first | omega | (simp only [ln] at *; omega)) fun l8 xE xF l9 rR f9 fC => ?_
  obtain ⟨eF, eG, rfl⟩ := l9.shape
  refine Lv ok 7 [(130, .pointer (some ⟨aA, 1, none⟩))] 8 rfl rfl ?_
  have mA := (l7.trans h6)
  refine Lx 8 (vs := [.slice eF (List.length (aE ++ ([bJ]))) eG]) (cs' := [sl aC rows aD, .slice eF (List.length (aE ++ ([bJ]))) eG, sl aO lo aP, sl aF hi aG]) rfl rfl rfl ti_22 rfl rfl rfl rfl rfl ((f8.ext mA).but f9 bS) rfl rfl fun rS rT gA => (Ln _ rfl (Wg (Lv ok 0 [(131, I aM), (132, I cE), (133, I base)] 3 rfl rfl (Lc 3 rfl rfl rfl cal_83 rfl (spec_oUp_w _ _ _ H rS ) ?_))))
  rintro _ xG ⟨h7, H, rfl, fD⟩
  refine Lv ok 4 [(135, I (wr (aM + h7))), (9, I (wr (aM + h7)))] 6 rfl rfl (Ln _ rfl (Wg (Lv ok 0 [(136, I (wr (dH + 1))), (106, I (wr (dH + 1)))] 2 rfl rfl (Ln _ rfl ?_))))
  have mB : DomLe U bG.heap.size cX := (Mt (Oe (Or _) _) dI (Nat.le_refl _))
  have mC : DomLe U bG.heap.size cY := (Mt (Oe (Or _) _) eB (Nat.le_refl _))
  have mD : DomLe U bG.heap.size cZ := (Mt (Oe (Or _) _) eC (Nat.le_refl _))
  have h8 := (Mj fA e7.symm (f4.ext bT)).symm
  have mE := (e6.ext bT)
  have mF := (Mj fA dJ.symm mE).symm
  have h9 := (h0.ext bT)
  have rU := (Mj fA c0 h9).symm
  have mG := (Mj fB eD.symm ((mE.but c2 dJ.symm).ext b0)).symm
  have mH := ((h9.but c2 c0).ext b0)
  have rV := (Mj fB c1 mH).symm
  have mI := (f8.ext mA)
  have rW := (Mj fC bS mI).symm
  have rX : Dj lW (bx aA 29 [sl aC rows aD, .slice eF (List.length (aE ++ ([bJ]))) eG, sl aO lo aP, sl aF hi aG]) := (Db (Mj fA c0 h9).symm).symm
  have rY : Dj l0 (bx aA 29 [sl aC rows aD, .slice eF (List.length (aE ++ ([bJ]))) eG, sl aO lo aP, sl aF hi aG]) := (Db (Mj fB c1 mH).symm).symm
  have mJ := (lY.ext b0)
  have rZ : Dj l8 (bx aA 29 [sl aC rows aD, .slice eF (List.length (aE ++ ([bJ]))) eG, sl aO lo aP, sl aF hi aG]) := (Db (Mj fC bS mI).symm).symm
  exact ⟨(lastLo ++ ([0]), lastHi ++ ([wr (dK - dL)]), wr (aM + h7), wr (dH + 1), aE ++ ([bJ])), ⟨H.1, _, .slice h2 (List.length (lastLo ++ ([0]))) h3, lW, .slice h4 (List.length (lastHi ++ ([wr (dK - dL)]))) h5, l0, .slice eF (List.length (aE ++ ([bJ]))) eG, l8, Ee ⟨rfl, rfl, rfl, rfl, rfl, rfl, rfl, rfl, rfl, rfl, rfl, trivial⟩, ((((((((((Br U _).step X551 (Oe (Or _) _)).stepx bT).step c2 mB).stepx b0).step eE mC).stepx dM).step f9 mD).step gA (Md D Sd)).stepx fD), lX, ((((((lY.ext b0).but eE h8).ext dM).but f9 mF).but gA rU).ext fD), (Mt mB fA (Nat.le_trans X551.size bT.size)), l1, ((((l2.ext dM).but f9 mG).but gA rV).ext fD), (Mt mC fB (Nat.le_trans (Nat.le_trans (Nat.le_trans X551.size bT.size) c2.size) b0.size)), l9, ((rR.but gA rW).ext fD), (Mt mD fC (Nat.le_trans (Nat.le_trans (Nat.le_trans (Nat.le_trans (Nat.le_trans X551.size bT.size) c2.size) b0.size) eE.size) dM.size)), (rT.ext fD), rX, rY, (Mj fB h8 mJ), rZ, (Mj fC mF ((mJ.but eE h8).ext dM)), (Mj fC mG (l2.ext dM))⟩, H.2⟩
 have H := H.2 h1
 refine W_exit ?_
 refine (if_pos rfl).mpr ?_
 refine Wq ?_
 refine W_open mix fun xH mK => ?_
 refine AP_game 6 [[], [0], [], [], [2, 3], [2, 3, 4], [0, 1, 2, 3, 4, 5], [0, 1, 2, 3, 4, 5, 6], [0, 1, 2, 3, 4, 5, 6, 7]] [[(6, none)], [(137, some 0)], [(7, none)], [], [(139, some 2), (140, some 3)], [(141, some 4)]] [(1, none), (4, none), (5, none), (6, none), (8, none), (9, none), (10, none), (138, some 1), (142, some 5)] [(0, false), (1, false), (2, false), (3, true), (4, true), (5, true)] (by kernel_rfl) (by kernel_rfl) ?_
 refine GS_ev ok [(6, pb aA)] (.pointer (some ⟨aA, 2, none⟩)) rfl rfl (fun _ h => h) (fun _ => rfl) ?_
 have gB := (h0.ext mK)
 refine GS_r1 [(137, .pointer (some ⟨aA, 2, none⟩))] (sl aO lo aP) rfl rfl (fun _ h => h) (fun _ w e => ex_ldbox rfl ti_23 ag_23 (fun _ => rfl) rfl e rfl rfl) gB ?_
 refine GS_ev ok [(7, sl f5 lastLo f6)] (sl f5 lastLo f6) rfl rfl (fun _ h => h) (fun _ => rfl) ?_
 refine GS_lp [] rfl rfl (fun _ h => h) rfl fun ρ xI mL => ?_
 refine LP_lit (α := Int) (g := emp) 0 (vs := [I 0]) (xs := [0]) rfl rfl rfl Try.underlying22 ti_3 rfl rfl ⟨⟨_, rfl, rfl⟩, trivial⟩ rfl rfl fun xJ xK xL mM mN r0 xM => ?_
 obtain ⟨r1, r2, rfl⟩ := mN.shape
 have mO := (mL.trans mM)
 have mP := (gB.ext mO)
 refine LP_gs ⟨⟨.inr mP, trivial⟩, ?_⟩
 refine GS_lp [(139, sl f5 lastLo f6), (140, .slice r1 (List.length ([0])) r2)] rfl rfl (fun _ h => h) rfl fun ρ xN gC => ?_
 have aY := (((mK.trans mL).trans mM).trans gC)
 obtain ⟨xO, H⟩ := H
 refine LP_appendf (α := Int) 0 rfl rfl rfl Try.underlying22 ti_3 rfl rfl rfl hX (lR.ext aY) mN.readf (r0.ext gC) (by first | omega | (simp only [ln] at *; omega)) (by first | omega | (simp only [ln] at *; omega)) fun xP xQ xR mQ r3 aW c3 => ?_
 obtain ⟨mR, mS, rfl⟩ := mQ.shape
 have mT := ((mP.ext gC).but aW c0)
 refine LP_gs ⟨⟨.inr mT, trivial⟩, ?_⟩
 refine GS_lp [(141, .slice mR (List.length (lastLo ++ ([0]))) mS)] rfl rfl (fun _ h => h) rfl fun ρ xS b1 => ?_
 refine LP_litD (α := List Int) 0 (vs := [.slice mR (List.length (lastLo ++ ([0]))) mS]) (xs := [lastLo ++ ([0])]) rfl rfl rfl Try.underlying23 ti_22 rfl rfl (allO.one (OD.rvo (OS.od mQ))) (r3.ext b1) rfl rfl fun xT xU xV mU mV r4 c4 => ?_
 obtain ⟨r5, r6, rfl⟩ := mV.shape
 have mW := (b1.trans mU)
 refine LP_gs ⟨⟨.inr (mT.ext mW), trivial⟩, ?_⟩
 intro xW iA ρ r7
 refine AP_forget [(1, I base), (4, pb b), (5, pb aL), (6, pb aA), (8, sl e8 lastHi e9), (9, I aM), (10, I cols), (138, sl aO lo aP), (142, .slice r5 (List.length ([lastLo ++ ([0])])) r6)] (by exact r7) fun ρ => ?_
 refine AP_tail 6 [[], [0], [], [], [2, 3], [2, 3, 4], [0, 1, 2, 3, 4, 5], [0, 1, 2, 3, 4, 5, 6], [0, 1, 2, 3, 4, 5, 6, 7]] (by kernel_rfl) ?_
 have iB := (gV.trans bP)
 have iC := (gU.ext iB)
 have r8 := (Mj dA (Df b9 cA) iC).symm
 have iD := (b9.ext cK)
 have iE := (jA.ext bP)
 have r9 := (Mj dA (Df iD bW) iE).symm
 have fE := (Dl cS.symm (Dl r8 r9))
 have iF := (Mj dI (Dj.eqv hU fE) cD)
 have bK := (mW.trans iA)
 have mX := ((cD.but X551 (Dj.eqv hU fE)).ext aY)
 have sA := (Mj c4 (Mj c3 iF mX) ((mX.but aW iF).ext b1)).symm
 obtain ⟨xX, H⟩ := H
 refine LP_appendD (α := List Int) 6 rfl rfl rfl Try.underlying23 ti_22 rfl rfl rfl gX ((((cD.but X551 (Dj.eqv hU fE)).ext aY).but aW iF).ext bK) mV (r4.ext iA) sA (by first | omega | (simp only [ln] at *; omega)) (by first | omega | (simp only [ln] at *; omega)) fun gD xY xZ x0 mY iG a6 a7 b2 => ?_
 obtain ⟨aU, aV, rfl⟩ := mY.shape
 refine Lv ok 7 [(144, .pointer (some ⟨aA, 2, none⟩))] 8 rfl rfl ?_
 have mZ := (mO.trans gC)
 refine Lx 8 (vs := [.slice aU (List.length (lo ++ ([lastLo ++ ([0])]))) aV]) (cs' := [sl aC rows aD, sl aS aE aT, .slice aU (List.length (lo ++ ([lastLo ++ ([0])]))) aV, sl aF hi aG]) rfl rfl rfl ti_23 rfl rfl rfl rfl rfl ((((gB.ext mZ).but aW c0).ext bK).but (But.dom a6 a7) (Db cS.symm).symm) rfl rfl fun x1 sB a1 => (Ln _ rfl (Wq ?_))
 refine W_open mix fun x2 iH => ?_
 refine AP_game 15 [[], [0], [], [], [3], [], [3, 4, 5], [], [7], [], [3, 4, 5, 6, 7, 8, 9], [3, 4, 5, 6, 7, 8, 9, 10], [3, 4, 5, 6, 7, 8, 9, 10, 11], [2, 3, 4, 5, 6, 7, 8, 9, 10, 11, 12], [2, 3, 4, 5, 6, 7, 8, 9, 10, 11, 12, 13], [0, 1, 2, 3, 4, 5, 6, 7, 8, 9, 10, 11, 12, 13, 14], [0, 1, 2, 3, 4, 5, 6, 7, 8, 9, 10, 11, 12, 13, 14, 15], [0, 1, 2, 3, 4, 5, 6, 7, 8, 9, 10, 11, 12, 13, 14, 15, 16]] [[(6, none)], [(145, some 0)], [(8, none)], [(5, none)], [(148, some 3)], [(1, none)], [(149, some 4), (150, some 5)], [(5, none)], [(152, some 7)], [(1, none)], [(153, some 8), (154, some 9)], [(151, some 6), (155, some 10)], [(156, some 11)], [(147, some 2), (157, some 12)], [(158, some 13)]] [(4, none), (6, none), (9, none), (10, none), (146, some 1), (159, some 14)] [(0, false), (1, false), (2, false), (3, false), (4, false), (5, false), (6, false), (7, false), (8, false), (9, false), (10, false), (11, false), (12, true), (13, true), (14, true)] (by kernel_rfl) (by kernel_rfl) ?_
 refine GS_ev ok [(6, pb aA)] (.pointer (some ⟨aA, 3, none⟩)) rfl rfl (fun _ h => h) (fun _ => rfl) ?_
 have gE := (sB.ext iH)
 refine GS_r1 [(145, .pointer (some ⟨aA, 3, none⟩))] (sl aF hi aG) rfl rfl (fun _ h => h) (fun _ w e => ex_ldbox rfl ti_23 ag_23 (fun _ => rfl) rfl e rfl rfl) gE ?_
 refine GS_ev ok [(8, sl e8 lastHi e9)] (sl e8 lastHi e9) rfl rfl (fun _ h => h) (fun _ => rfl) ?_
 refine GS_ev ok [(5, pb aL)] (.pointer (some ⟨aL, 3, none⟩)) rfl rfl (fun _ h => h) (fun _ => rfl) ?_
 have sC : Dj (bx aA 29 [sl aC rows aD, .slice none 0 0, sl aO lo aP, sl aF hi aG]) (bx aL 93 [sl dT aB.Cells dU, sl c7 aB.Rows c8, sl b6 aB.Cols b7, I aB.Total]) := (Db (Df c9 aN).symm)
 have m0 := ((c9.ext bU).but bV dj)
 have sD := (Df m0 cA).symm
 have sE := (Df (m0.ext cK) bW).symm
 have m1 := (Dl sC (Dl sD sE))
 have sF : Dj (bx aA 29 [sl aC rows aD, sl aS aE aT, sl aO lo aP, sl aF hi aG]) (bx aL 93 [sl dT aB.Cells dU, sl c7 aB.Rows c8, sl b6 aB.Cols b7, I aB.Total]) := (Db (Df c9 aN).symm)
 have m2 := (((((((hT.but X551 (Dj.eqv hU m1)).ext aY).but aW (Mj dI (Dj.eqv hU m1) hT)).ext bK).but (But.dom a6 a7) (Mj dA lQ (eR.ext bP))).but a1 sF).ext iH)
 refine GS_r1 [(148, .pointer (some ⟨aL, 3, none⟩))] (I aB.Total) rfl rfl (fun _ h => h) (fun _ w e => ex_ldbox rfl ti_3 ag_3 (fun _ => rfl) rfl e rfl rfl) m2 ?_
 refine GS_ev ok [(1, I base)] (I base) rfl rfl (fun _ h => h) (fun _ => rfl) ?_
 obtain ⟨aH, Hd806, H⟩ := H
 refine GS_q [(149, I aB.Total), (150, I base)] (I aH) [] [I aB.Total, I base] rfl rfl (fun _ h => h) rfl cal_83 (fun _ => rfl) (fun w e => (spec_oUp_w _ _ _ Hd806 w ).mono (fun _ _ h => by obtain ⟨_, rfl, rfl, x⟩ := h; exact ⟨rfl, x⟩)) trivial ?_
 refine GS_ev ok [(5, pb aL)] (.pointer (some ⟨aL, 3, none⟩)) rfl rfl (fun _ h => h) (fun _ => rfl) ?_
 refine GS_r1 [(152, .pointer (some ⟨aL, 3, none⟩))] (I aB.Total) rfl rfl (fun _ h => h) (fun _ w e => ex_ldbox rfl ti_3 ag_3 (fun _ => rfl) rfl e rfl rfl) m2 ?_
 refine GS_ev ok [(1, I base)] (I base) rfl rfl (fun _ h => h) (fun _ => rfl) ?_
 obtain ⟨aI, Hd808, H⟩ := H
 refine GS_q [(153, I aB.Total), (154, I base)] (I aI) [] [I aB.Total, I base] rfl rfl (fun _ h => h) rfl cal_82 (fun _ => rfl) (fun w e => (spec_oDown_w _ _ _ Hd808 w ).mono (fun _ _ h => by obtain ⟨_, rfl, rfl, x⟩ := h; exact ⟨rfl, x⟩)) trivial ?_
 refine GS_ev ok [(151, I aH), (155, I aI)] (I (wr (aH - aI))) rfl rfl (fun _ h => h) (fun _ => rfl) ?_
 refine GS_lp [(156, I (wr (aH - aI)))] rfl rfl (fun _ h => h) rfl fun ρ x3 m3 => ?_
 refine LP_lit (α := Int) (g := emp) 0 (vs := [I (wr (aH - aI))]) (xs := [wr (aH - aI)]) rfl rfl rfl Try.underlying22 ti_3 rfl rfl ⟨⟨_, rfl, rfl⟩, trivial⟩ rfl rfl fun x4 x5 x6 m4 m5 sG x7 => ?_
 obtain ⟨sH, sI, rfl⟩ := m5.shape
 have m6 := (m3.trans m4)
 have m7 := (gE.ext m6)
 refine LP_gs ⟨⟨.inl rfl, .inl rfl, .inr m7, trivial⟩, ?_⟩
 refine GS_lp [(147, sl e8 lastHi e9), (157, .slice sH (List.length ([wr (aH - aI)])) sI)] rfl rfl (fun _ h => h) rfl fun ρ x8 gF => ?_
 have m8 := (Mj eB (Dj.eqv hU fE) cD).symm
 have a4 := (((iH.trans m3).trans m4).trans gF)
 obtain ⟨x9, H⟩ := H
 refine LP_appendf (α := Int) 0 rfl rfl rfl Try.underlying22 ti_3 rfl rfl rfl hY ((((((f4.ext aY).but aW e7.symm).ext bK).but (But.dom a6 a7) m8).but a1 c1.symm).ext a4) m5.readf (sG.ext gF) (by first | omega | (simp only [ln] at *; omega)) (by first | omega | (simp only [ln] at *; omega)) fun sJ yA yB m9 sK aZ dN => ?_
 obtain ⟨nA, nB, rfl⟩ := m9.shape
 have nC := ((m7.ext gF).but aZ (Db c1.symm).symm)
 refine LP_gs ⟨⟨.inl rfl, .inl rfl, .inr nC, trivial⟩, ?_⟩
 refine GS_lp [(158, .slice nA (List.length (lastHi ++ ([wr (aH - aI)]))) nB)] rfl rfl (fun _ h => h) rfl fun ρ yC cF => ?_
 refine LP_litD (α := List Int) 0 (vs := [.slice nA (List.length (lastHi ++ ([wr (aH - aI)]))) nB]) (xs := [lastHi ++ ([wr (aH - aI)])]) rfl rfl rfl Try.underlying23 ti_22 rfl rfl (allO.one (OD.rvo (OS.od m9))) (sK.ext cF) rfl rfl fun yD yE yF nD nE sL dO => ?_
 obtain ⟨sM, sN, rfl⟩ := nE.shape
 have nF := (cF.trans nD)
 refine LP_gs ⟨⟨.inl rfl, .inl rfl, .inr (nC.ext nF), trivial⟩, ?_⟩
 intro yG iI ρ sO
 refine AP_forget [(4, pb b), (6, pb aA), (9, I aM), (10, I cols), (146, sl aF hi aG), (159, .slice sM (List.length ([lastHi ++ ([wr (aH - aI)])])) sN)] (by exact sO) fun ρ => ?_
 refine AP_tail 15 [[], [0], [], [], [3], [], [3, 4, 5], [], [7], [], [3, 4, 5, 6, 7, 8, 9], [3, 4, 5, 6, 7, 8, 9, 10], [3, 4, 5, 6, 7, 8, 9, 10, 11], [2, 3, 4, 5, 6, 7, 8, 9, 10, 11, 12], [2, 3, 4, 5, 6, 7, 8, 9, 10, 11, 12, 13], [0, 1, 2, 3, 4, 5, 6, 7, 8, 9, 10, 11, 12, 13, 14], [0, 1, 2, 3, 4, 5, 6, 7, 8, 9, 10, 11, 12, 13, 14, 15], [0, 1, 2, 3, 4, 5, 6, 7, 8, 9, 10, 11, 12, 13, 14, 15, 16]] (by kernel_rfl) ?_
 have sP := (Mj dY (Df b9 cA) iC).symm
 have sQ := (Mj dY (Df iD bW) iE).symm
 have eH := (Dl bD.symm (Dl sP sQ))
 have gG := (Mj dI (Dj.eqv hU eH) bQ)
 have iJ := (Mj eB (Dj.eqv hU eH) bQ)
 have b3 := (nF.trans iI)
 have nG := (((((((bQ.but X551 (Dj.eqv hU eH)).ext aY).but aW gG).ext bK).but (But.dom a6 a7) d0.symm).but a1 (Db bD.symm)).ext a4)
 have sR := (Mj dO (Mj dN iJ nG) ((nG.but aZ iJ).ext cF)).symm
 obtain ⟨yH, H⟩ := H
 refine LP_appendD (α := List Int) 15 rfl rfl rfl Try.underlying23 ti_22 rfl rfl rfl gY (((((((((bQ.but X551 (Dj.eqv hU eH)).ext aY).but aW gG).ext bK).but (But.dom a6 a7) d0.symm).but a1 (Db bD.symm)).ext a4).but aZ iJ).ext b3) nE (sL.ext iI) sR (by first | omega | (simp only [ln] at *; omega)) (by first | omega | (simp only [ln] at *; omega)) fun iK yI yJ yK nH nI cG cH c5 => ?_
 obtain ⟨a2, a3, rfl⟩ := nH.shape
 refine Lv ok 16 [(161, .pointer (some ⟨aA, 3, none⟩))] 17 rfl rfl ?_
 have nJ := (m6.trans gF)
 refine Lx 17 (vs := [.slice a2 (List.length (hi ++ ([lastHi ++ ([wr (aH - aI)])]))) a3]) (cs' := [sl aC rows aD, sl aS aE aT, .slice aU (List.length (lo ++ ([lastLo ++ ([0])]))) aV, .slice a2 (List.length (hi ++ ([lastHi ++ ([wr (aH - aI)])]))) a3]) rfl rfl rfl ti_23 rfl rfl rfl rfl rfl ((((gE.ext nJ).but aZ (Db c1.symm).symm).ext b3).but (But.dom cG cH) (Db bD.symm).symm) rfl rfl fun yL iL b4 => ?_
 refine Ln _ rfl (Wq (Wg (Lv ok 0 [(162, pb aA)] 1 rfl rfl (Lb 1 (v := sl aC rows aD) rfl rfl rfl ti_22 ag_22 (fun _ => rfl) rfl iL rfl rfl (Lv ok 2 [(164, I aM)] 3 rfl rfl (LP_lit (α := Int) (g := emp) 3 (vs := [I aM]) (xs := [aM]) rfl rfl rfl Try.underlying22 ti_3 rfl rfl ⟨⟨_, rfl, rfl⟩, trivial⟩ rfl rfl fun yM yN yO bL nK sS yP => ?_))))))
 obtain ⟨yQ, yR, rfl⟩ := nK.shape
 have sT := (Mj eT (Df b9 cA) iC).symm
 have sU := (Mj eT (Df iD bW) iE).symm
 have fF := (Dl bC.symm (Dl sT sU))
 have iM := (Mj dI (Dj.eqv hU fF) cC)
 have iN := (Mj eB (Dj.eqv hU fF) cC)
 obtain ⟨yS, H⟩ := H
 refine LP_appendf (α := Int) 4 rfl rfl rfl Try.underlying22 ti_3 rfl rfl rfl gW ((((((((((((cC.but X551 (Dj.eqv hU fF)).ext aY).but aW iM).ext bK).but (But.dom a6 a7) dZ).but a1 (Db bC.symm)).ext a4).but aZ iN).ext b3).but (But.dom cG cH) fL).but b4 (Db bC.symm)).ext bL) nK.readf sS (by first | omega | (simp only [ln] at *; omega)) (by first | omega | (simp only [ln] at *; omega)) fun nL yT yU nM nN cI dP => ?_
 obtain ⟨bM, bN, rfl⟩ := nM.shape
 refine Lv ok 5 [(167, pb aA)] 6 rfl rfl (Lx 6 (vs := [.slice bM (List.length (rows ++ ([aM]))) bN]) (cs' := [.slice bM (List.length (rows ++ ([aM]))) bN, sl aS aE aT, .slice aU (List.length (lo ++ ([lastLo ++ ([0])]))) aV, .slice a2 (List.length (hi ++ ([lastHi ++ ([wr (aH - aI)])]))) a3]) rfl rfl rfl ti_22 rfl rfl rfl rfl rfl ((iL.ext bL).but cI (Db bC.symm).symm) rfl rfl fun yV iO b5 => ?_)
 refine Ln _ rfl (Wq (Wg (Lv ok 0 [(168, .pointer (some ⟨aA, 1, none⟩))] 1 rfl rfl (Lb 1 (v := sl aS aE aT) rfl rfl rfl ti_22 ag_22 (fun _ => rfl) rfl iO rfl rfl (Lv ok 2 [(170, I cols)] 3 rfl rfl (LP_lit (α := Int) (g := emp) 3 (vs := [I cols]) (xs := [cols]) rfl rfl rfl Try.underlying22 ti_3 rfl rfl ⟨⟨_, rfl, rfl⟩, trivial⟩ rfl rfl fun yW yX yY bO nO sV yZ => ?_))))))
 obtain ⟨y0, y1, rfl⟩ := nO.shape
 have gH := (Mj eC (Dj.eqv hU fE) cD).symm
 have iP := (Mj eC (Dj.eqv hU eH) bQ).symm
 have nP := (Mj eC (Dj.eqv hU fF) cC).symm
 obtain ⟨y2, H⟩ := H
 refine LP_appendf (α := Int) 4 rfl rfl rfl Try.underlying22 ti_3 rfl rfl rfl hZ ((((((((((((((e6.ext aY).but aW dJ.symm).ext bK).but (But.dom a6 a7) gH).but a1 bS.symm).ext a4).but aZ eD.symm).ext b3).but (But.dom cG cH) iP).but b4 (Db bS.symm)).ext bL).but cI nP).but b5 (Db bS.symm)).ext bO) nO.readf sV (by first | omega | (simp only [ln] at *; omega)) (by first | omega | (simp only [ln] at *; omega)) fun sW y3 y4 nQ sX eI eJ => ?_
 obtain ⟨eK, eL, rfl⟩ := nQ.shape
 refine Lv ok 5 [(173, .pointer (some ⟨aA, 1, none⟩))] 6 rfl rfl (Lx 6 (vs := [.slice eK (List.length (aE ++ ([cols]))) eL]) (cs' := [.slice bM (List.length (rows ++ ([aM]))) bN, .slice eK (List.length (aE ++ ([cols]))) eL, .slice aU (List.length (lo ++ ([lastLo ++ ([0])]))) aV, .slice a2 (List.length (hi ++ ([lastHi ++ ([wr (aH - aI)])]))) a3]) rfl rfl rfl ti_22 rfl rfl rfl rfl rfl ((iO.ext bO).but eI (Db bS.symm).symm) rfl rfl fun y5 sY eM => ?_)
 refine Ln _ rfl (Wq (Wg (Lb 0 (v := .agg #[.slice bM (List.length (rows ++ ([aM]))) bN, .slice eK (List.length (aE ++ ([cols]))) eL, .slice aU (List.length (lo ++ ([lastLo ++ ([0])]))) aV, .slice a2 (List.length (hi ++ ([lastHi ++ ([wr (aH - aI)])]))) a3]) rfl rfl rfl ti_29 ag_29 (fun h => by cases h) rfl sY rfl rfl ?_)))
 have nR := (i3.ext dS)
 have nS := (Df nR eQ).symm
 have c6 := ((nR.ext b8).but y nS)
 have nT := (Df c6 aN).symm
 have nU := (xc.trans bP)
 have fG : Dj (bx aA 29 [.slice none 0 0, .slice none 0 0, .slice none 0 0, .slice none 0 0]) (bx b 29 [.slice none 0 0, .slice none 0 0, .slice none 0 0, .slice none 0 0]) := (Db (Df c6 aN).symm)
 have sZ : Dj (bx aA 29 [sl aC rows aD, .slice none 0 0, sl aO lo aP, sl aF hi aG]) (bx b 29 [.slice none 0 0, .slice none 0 0, .slice none 0 0, .slice none 0 0]) := (Db (Df c6 aN).symm)
 have nV := ((c6.ext bU).but bV nT)
 have s0 := (Df nV cA).symm
 have iQ := (nV.ext cK)
 have s1 := (Df iQ bW).symm
 have eN := (Dl sZ (Dl s0 s1))
 have fH := ((iQ.ext iB).but X102 fG)
 have gI := (Mj dI (Dj.eqv hU eN) fH)
 have iR := (iQ.ext iB)
 have gJ := (Mj dA fG iR)
 have iS : Dj (bx aA 29 [sl aC rows aD, sl aS aE aT, sl aO lo aP, sl aF hi aG]) (bx b 29 [.slice none 0 0, .slice none 0 0, .slice none 0 0, .slice none 0 0]) := (Db (Df c6 aN).symm)
 have gK := (Mj eB (Dj.eqv hU eN) fH)
 have iT := (Mj dY fG iR)
 have nW : Dj (bx aA 29 [sl aC rows aD, sl aS aE aT, .slice aU (List.length (lo ++ ([lastLo ++ ([0])]))) aV, sl aF hi aG]) (bx b 29 [.slice none 0 0, .slice none 0 0, .slice none 0 0, .slice none 0 0]) := (Db (Df c6 aN).symm)
 have iU := (Mj eT fG iR)
 have nX : Dj (bx aA 29 [sl aC rows aD, sl aS aE aT, .slice aU (List.length (lo ++ ([lastLo ++ ([0])]))) aV, .slice a2 (List.length (hi ++ ([lastHi ++ ([wr (aH - aI)])]))) a3]) (bx b 29 [.slice none 0 0, .slice none 0 0, .slice none 0 0, .slice none 0 0]) := (Db (Df c6 aN).symm)
 have nY := (Mj eC (Dj.eqv hU eN) fH)
 have s2 : Dj (bx aA 29 [.slice bM (List.length (rows ++ ([aM]))) bN, sl aS aE aT, .slice aU (List.length (lo ++ ([lastLo ++ ([0])]))) aV, .slice a2 (List.length (hi ++ ([lastHi ++ ([wr (aH - aI)])]))) a3]) (bx b 29 [.slice none 0 0, .slice none 0 0, .slice none 0 0, .slice none 0 0]) := (Db (Df c6 aN).symm)
 refine Lx 1 (vs := [.slice bM (List.length (rows ++ ([aM]))) bN, .slice eK (List.length (aE ++ ([cols]))) eL, .slice aU (List.length (lo ++ ([lastLo ++ ([0])]))) aV, .slice a2 (List.length (hi ++ ([lastHi ++ ([wr (aH - aI)])]))) a3]) (cs' := [.slice bM (List.length (rows ++ ([aM]))) bN, .slice eK (List.length (aE ++ ([cols]))) eL, .slice aU (List.length (lo ++ ([lastLo ++ ([0])]))) aV, .slice a2 (List.length (hi ++ ([lastHi ++ ([wr (aH - aI)])]))) a3]) rfl rfl rfl ti_29 rfl rfl rfl rfl rfl (((((((((((((((((((((((i3.ext (dS.trans b8)).but y nS).ext bU).but bV nT).ext nU).but X102 fG).but X551 (Dj.eqv hU eN)).ext aY).but aW gI).ext bK).but (But.dom a6 a7) gJ).but a1 iS).ext a4).but aZ gK).ext b3).but (But.dom cG cH) iT).but b4 nW).ext bL).but cI iU).but b5 nX).ext bO).but eI nY).but eM s2) rfl rfl fun y6 s3 fI => ?_
 refine Ln _ rfl (W_ret ?_)
 have nZ := (iL.ext bL)
 have n0 : Dj (bx aA 29 [sl aC rows aD, sl aS aE aT, .slice aU (List.length (lo ++ ([lastLo ++ ([0])]))) aV, .slice a2 (List.length (hi ++ ([lastHi ++ ([wr (aH - aI)])]))) a3]) nL := (Mj dP (Db bC.symm).symm nZ).symm
 have n1 := (Mj dP nP (((((((((((e6.ext aY).but aW dJ.symm).ext bK).but (But.dom a6 a7) gH).but a1 bS.symm).ext a4).but aZ eD.symm).ext b3).but (But.dom cG cH) iP).but b4 (Db bS.symm)).ext bL)).symm
 have s4 : Dj (bx aA 29 [.slice bM (List.length (rows ++ ([aM]))) bN, sl aS aE aT, .slice aU (List.length (lo ++ ([lastLo ++ ([0])]))) aV, .slice a2 (List.length (hi ++ ([lastHi ++ ([wr (aH - aI)])]))) a3]) nL := (Db (Mj dP (Db bC.symm).symm nZ).symm)
 have n2 := ((((((((((((fH.but X551 (Dj.eqv hU eN)).ext aY).but aW gI).ext bK).but (But.dom a6 a7) gJ).but a1 iS).ext a4).but aZ gK).ext b3).but (But.dom cG cH) iT).but b4 nW).ext bL)
 have s5 := (Mj dP iU n2).symm
 have s6 := eQ.mono (X.stepx (gQ.trans dS)).size
 have X987 := ((X.stepx ((gQ.trans dS).trans b8)).step y (s6.dom _))
 have dQ := aN.mono X987.size
 have n3 := aN.mono X987.size
 have X990 := (((X987.stepx bU).step bV (n3.dom _)).stepx nU)
 have n4 := DomLe.fresh eT (Fresh.box dQ) X990.size
 have cJ := aN.mono X987.size
 have X993 := ((X987.stepx bU).step bV (n3.dom _))
 have gL := cA.mono X993.size
 have gM := bW.mono (X993.stepx cK).size
 have n5 : DomLe emp w.heap.size U := (DomLe.eqv hU (Mu ((Fresh.box cJ).dom _) (Mu (gL.dom _) (gM.dom _))))
 have X998 := (X990.step X102 ((Fresh.box dQ).dom _))
 have iV := DomLe.fresh dI (Fresh.eqv hU (Fresh.un (Fresh.box cJ) (Fresh.un gL gM))) X998.size
 have n6 := DomLe.fresh dA (Fresh.box dQ) X990.size
 have iW := DomLe.fresh eB (Fresh.eqv hU (Fresh.un (Fresh.box cJ) (Fresh.un gL gM))) X998.size
 have s7 := DomLe.fresh dY (Fresh.box dQ) X990.size
 have X1002 := (((((((((((((X990.step X102 ((Fresh.box dQ).dom _)).step X551 n5).stepx aY).step aW (iV.dom _)).stepx bK).step (But.dom a6 a7) (n6.dom _)).step a1 ((Fresh.box cJ).dom _)).stepx a4).step aZ (iW.dom _)).stepx b3).step (But.dom cG cH) (s7.dom _)).step b4 ((Fresh.box cJ).dom _)).stepx bL)
 have s8 := dP.fresh n4 X1002.size
 have s9 : Dj (bx aA 29 [.slice bM (List.length (rows ++ ([aM]))) bN, sl aS aE aT, .slice aU (List.length (lo ++ ([lastLo ++ ([0])]))) aV, .slice a2 (List.length (hi ++ ([lastHi ++ ([wr (aH - aI)])]))) a3]) sW := (Mj eJ (Db bS.symm).symm (iO.ext bO)).symm
 have tA := (Mj eJ nY (((n2.but cI iU).but b5 nX).ext bO)).symm
 have n7 := DomLe.fresh eC (Fresh.eqv hU (Fresh.un (Fresh.box cJ) (Fresh.un gL gM))) X998.size
 have X1010 := (((X1002.step cI (n4.dom _)).step b5 ((Fresh.box cJ).dom _)).stepx bO)
 have tB := eJ.fresh n7 X1010.size
 have n8 := (gB.ext mZ)
 have n9 := ((n8.but aW c0).ext b1)
 have gN := (Mj c4 (Mj c3 c0 n8) n9)
 have dR := (mU.trans iA)
 have gO := (n9.ext dR)
 have iX : Dj (bx aA 29 [sl aC rows aD, sl aS aE aT, sl aO lo aP, sl aF hi aG]) gD := (Mj b2 (Dl (Db cS.symm).symm gN) gO).symm
 have oA := (f4.ext aY)
 have oB := ((oA.but aW e7.symm).ext b1)
 have gP := (Mj b2 (Dl m8 (Mj c4 (Mj c3 e7.symm oA) oB)) (oB.ext dR)).symm
 have oC := ((bQ.but X551 (Dj.eqv hU eH)).ext aY)
 have oD := ((oC.but aW gG).ext b1)
 have iY := (Mj b2 (Dl d0.symm (Mj c4 (Mj c3 gG oC) oD)) (oD.ext dR)).symm
 have oE : Dj (bx aA 29 [sl aC rows aD, sl aS aE aT, .slice aU (List.length (lo ++ ([lastLo ++ ([0])]))) aV, sl aF hi aG]) gD := (Db (Mj b2 (Dl (Db cS.symm).symm gN) gO).symm)
 have oF := ((cC.but X551 (Dj.eqv hU fF)).ext aY)
 have oG := ((oF.but aW iM).ext b1)
 have oH := (oG.ext dR)
 have iZ := (Mj b2 (Dl dZ (Mj c4 (Mj c3 iM oF) oG)) oH).symm
 have oI : Dj (bx aA 29 [sl aC rows aD, sl aS aE aT, .slice aU (List.length (lo ++ ([lastLo ++ ([0])]))) aV, .slice a2 (List.length (hi ++ ([lastHi ++ ([wr (aH - aI)])]))) a3]) gD := (Db (Mj b2 (Dl (Db cS.symm).symm gN) gO).symm)
 have oJ := (e6.ext aY)
 have oK := ((oJ.but aW dJ.symm).ext b1)
 have oL := (oK.ext dR)
 have oM := (Mj b2 (Dl gH (Mj c4 (Mj c3 dJ.symm oJ) oK)) oL).symm
 have tC : Dj (bx aA 29 [.slice bM (List.length (rows ++ ([aM]))) bN, sl aS aE aT, .slice aU (List.length (lo ++ ([lastLo ++ ([0])]))) aV, .slice a2 (List.length (hi ++ ([lastHi ++ ([wr (aH - aI)])]))) a3]) gD := (Db (Mj b2 (Dl (Db cS.symm).symm gN) gO).symm)
 have oN := ((fH.but X551 (Dj.eqv hU eN)).ext aY)
 have oO := ((oN.but aW gI).ext b1)
 have oP := (oO.ext dR)
 have tD := (Mj b2 (Dl gJ (Mj c4 (Mj c3 gI oN) oO)) oP).symm
 have tE := DomLe.fresh dA (Fresh.box dQ) X990.size
 have X1059 := ((X998.step X551 n5).stepx aY)
 have tF := c3.fresh iV X1059.size
 have X1061 := ((X1059.step aW (iV.dom _)).stepx b1)
 have tG := DomLe.fresh c4 tF X1061.size
 have X1063 := (X1061.stepx dR)
 have tH := DomLe.fresh b2 (Fresh.un tE tG) X1063.size
 have oQ := (gE.ext nJ)
 have tI : Dj sJ (bx aA 29 [sl aC rows aD, sl aS aE aT, .slice aU (List.length (lo ++ ([lastLo ++ ([0])]))) aV, sl aF hi aG]) := (Mj dN (Db c1.symm).symm oQ)
 have oR := ((oQ.but aZ (Db c1.symm).symm).ext cF)
 have i0 := (Mj dO tI oR)
 have eO := (nD.trans iI)
 have i1 := (oR.ext eO)
 have oS : Dj (bx aA 29 [sl aC rows aD, sl aS aE aT, .slice aU (List.length (lo ++ ([lastLo ++ ([0])]))) aV, sl aF hi aG]) iK := (Mj c5 (Dl (Db bD.symm).symm i0) i1).symm
 have oT := (((oH.but (But.dom a6 a7) dZ).but a1 (Db bC.symm)).ext a4)
 have oU := ((oT.but aZ iN).ext cF)
 have i2 := (Mj c5 (Dl fL (Mj dO (Mj dN iN oT) oU)) (oU.ext eO)).symm
 have oV : Dj (bx aA 29 [sl aC rows aD, sl aS aE aT, .slice aU (List.length (lo ++ ([lastLo ++ ([0])]))) aV, .slice a2 (List.length (hi ++ ([lastHi ++ ([wr (aH - aI)])]))) a3]) iK := (Db (Mj c5 (Dl (Db bD.symm).symm i0) i1).symm)
 have oW := (((oL.but (But.dom a6 a7) gH).but a1 bS.symm).ext a4)
 have oX := ((oW.but aZ eD.symm).ext cF)
 have oY := (Mj c5 (Dl iP (Mj dO (Mj dN eD.symm oW) oX)) (oX.ext eO)).symm
 have tJ : Dj (bx aA 29 [.slice bM (List.length (rows ++ ([aM]))) bN, sl aS aE aT, .slice aU (List.length (lo ++ ([lastLo ++ ([0])]))) aV, .slice a2 (List.length (hi ++ ([lastHi ++ ([wr (aH - aI)])]))) a3]) iK := (Db (Mj c5 (Dl (Db bD.symm).symm i0) i1).symm)
 have oZ := (((oP.but (But.dom a6 a7) gJ).but a1 iS).ext a4)
 have o0 := ((oZ.but aZ gK).ext cF)
 have tK := (Mj c5 (Dl iT (Mj dO (Mj dN gK oZ) o0)) (o0.ext eO)).symm
 have tL := DomLe.fresh dY (Fresh.box dQ) X990.size
 have X1097 := (((X1063.step (But.dom a6 a7) (n6.dom _)).step a1 ((Fresh.box cJ).dom _)).stepx a4)
 have tM := dN.fresh iW X1097.size
 have X1099 := ((X1097.step aZ (iW.dom _)).stepx cF)
 have tN := DomLe.fresh dO tM X1099.size
 have tO := DomLe.fresh c5 (Fresh.un tL tN) (X1099.stepx eO).size
 have tP := (Mj eJ n1 ((nN.but b5 n0).ext bO)).symm
 have o1 := (((((((iG.but a1 iX).ext a4).but aZ gP).ext b3).but (But.dom cG cH) iY).but b4 oE).ext bL)
 have o2 := ((nI.but b4 oS).ext bL)
 have o3 := ((iG.but a1 iX).ext a4)
 have o4 := ((o3.but aZ gP).ext cF)
 have tQ := (Mj c5 (Dl iY (Mj dO (Mj dN gP o3) o4)) (o4.ext eO)).symm
 have tR := f.mono X.size
 exact ⟨_, Ret_of [.agg #[.slice bM (List.length (rows ++ ([aM]))) bN, .slice eK (List.length (aE ++ ([cols]))) eL, .slice aU (List.length (lo ++ ([lastLo ++ ([0])]))) aV, .slice a2 (List.length (hi ++ ([lastHi ++ ([wr (aH - aI)])]))) a3]] ⟨⟨_, rfl, rfl, ld_res ti_29 ag_29 (fun h => by cases h) s3 rfl rfl⟩, trivial⟩, _, _, _, _, _, _, _, _, _, H, rfl, (((X1010.step eI (n7.dom _)).step eM ((Fresh.box cJ).dom _)).step fI (tR.dom _)).ext, nM, (((((nN.but b5 n0).ext bO).but eI n1).but eM s4).but fI s5), s8, nQ, ((sX.but eM s9).but fI tA), tB, mY, (((((((((((((iG.but a1 iX).ext a4).but aZ gP).ext b3).but (But.dom cG cH) iY).but b4 oE).ext bL).but cI iZ).but b5 oI).ext bO).but eI oM).but eM tC).but fI tD), tH, nH, ((((((((nI.but b4 oS).ext bL).but cI i2).but b5 oV).ext bO).but eI oY).but eM tJ).but fI tK), tO, tP, (Mj dP iZ o1), (Mj dP i2 o2), (Mj eJ oM (((o1.but cI iZ).but b5 oI).ext bO)), (Mj eJ oY (((o2.but cI i2).but b5 oV).ext bO)), tQ⟩

theorem spec_tSize_w (t : Transport) (x : List (List Int)) (Q : Bool → Prop) (H : spec_tSize t x Q) (w : World) {vx : Value} {hx : PH} (r : RS hx vx t.Rows) (ex : Sub hx w) {aN : Value} {aO : PH} (a0 : RS aO aN t.Cols) (a8 : Sub aO w) {aP : Value} {aQ : PH} (a1 : RS aQ aP t.Lo) (a9 : Sub aQ w) {aR : Value} {aS : PH} (a2 : RS aS aR t.Hi) (bA : Sub aS w) {aT : Value} {aU : PH} (aV : RS aU aT x) (a3 : Sub aU w) :
  CallsTo Try.prog 69 #[.agg #[vx, aN, aP, aR], aT] w fun v w' => ∃ aW, Q aW ∧ v = .bool aW ∧ Ext w w' := by
 obtain ⟨a, c, rfl⟩ := r.shape
 obtain ⟨aE, aF, rfl⟩ := a0.shape
 obtain ⟨aH, aI, rfl⟩ := a1.shape
 obtain ⟨aJ, aK, rfl⟩ := a2.shape
 obtain ⟨aB, aC, rfl⟩ := aV.shape
 refine enter (args := [.agg #[sl a t.Rows c, sl aE t.Cols aF, sl aH t.Lo aI, sl aJ t.Hi aK], sl aB x aC]) 26 Try.func69 rfl rfl rfl ?_
 refine Wo [(0, .agg #[sl a t.Rows c, sl aE t.Cols aF, sl aH t.Lo aI, sl aJ t.Hi aK]), (1, sl aB x aC)] ⟨rfl, rfl, trivial⟩ fun ρ => ?_
 have X := Br emp w
 refine Wq (Wg (Ly 0 (cs := [sl a t.Rows c, sl aE t.Cols aF, sl aH t.Lo aI, sl aJ t.Hi aK]) rfl rfl rfl rfl rfl fun b wx aG aX f => (Lv ok 1 [(4, .bool false)] 2 rfl rfl (Ln _ rfl (Wq (Wq (Wg (Lv ok 0 [(7, sl aB x aC), (8, I (ln x)), (9, pb b)] 3 rfl rfl (Lb 3 (v := sl a t.Rows c) rfl rfl rfl ti_22 ag_22 (fun _ => rfl) rfl aX rfl rfl ?_)))))))))
 refine Lv ok 4 [(11, I (ln t.Rows)), (12, .bool ((ln x) != (ln t.Rows)))] 6 rfl rfl (Ln _ rfl ?_)
 refine Wc ((ln x) != (ln t.Rows)) rfl (fun hc => ?_) (fun hc => ?_)
 ·have H := H.1 hc
  refine Wq (Wg (Lv ok 0 [(4, .bool false)] 1 rfl rfl (Ln _ rfl (W_ret ?_))))
  exact ⟨_, Ret_of [.bool false] ⟨⟨rfl, rfl⟩, trivial⟩, _, H, rfl, (X.stepx aG).ext⟩
 have H := H.2 hc
 refine Wk (Wq (Wq (Wg (Lv ok 0 [(13, sl aB x aC), (14, I (ln x)), (15, I 0)] 3 rfl rfl (Ln _ rfl (W_block ?_))))))
 obtain ⟨J, m, Hx, H⟩ := H
 refine W_loop (S := Int) (fun s ρ' w' => J s ∧ ∃ (ρ : Env), ρ' = setAll [(2, pb b), (13, sl aB x aC), (14, I (ln x)), (15, I s)] ρ ∧ wx = w') (fun s => m s) 0 ⟨Hx, _, Ee ⟨rfl, rfl, rfl, rfl, trivial⟩, rfl⟩ ?_
 rintro aA _ _ ⟨Hi, ρ, rfl, rfl⟩
 have H := H aA Hi
 refine Wq (Wg (Lv ok 0 [(16, .bool (decide (aA < (ln x))))] 1 rfl rfl (Ln _ rfl (Wq ?_))))
 refine Wc (decide (aA < (ln x))) rfl (fun aL => ?_) (fun aL => ?_)
 ·have H := H.1 aL
  refine Wk (Wq (W_block (Wq (Wg ?_))))
  obtain ⟨aD, hi, a4, H⟩ := H
  refine Li 0 rfl rfl rfl Try.underlying23 ti_22 rfl rfl aV hi a4 fun bB cs a5 d => (Lo 1 rfl rfl rfl ti_22 ag_22 rfl a5 d (a3.ext aG) fun bC a6 => ?_)
  have a7 := a6.slice
  obtain ⟨aY, aZ, rfl⟩ := a7.shape
  refine Lv ok 2 [(6, sl aY aD aZ)] 3 rfl rfl (Ln _ rfl (Wq (Wg (Lv ok 0 [(19, sl aY aD aZ), (20, I (ln aD)), (21, .pointer (some ⟨b, 1, none⟩))] 3 rfl rfl (Lb 3 (v := sl aE t.Cols aF) rfl rfl rfl ti_22 ag_22 (fun _ => rfl) rfl aX rfl rfl (Lv ok 4 [(23, I (ln t.Cols)), (24, .bool ((ln aD) != (ln t.Cols)))] 6 rfl rfl (Ln _ rfl ?_)))))))
  refine Wc ((ln aD) != (ln t.Cols)) rfl (fun aM => ?_) (fun aM => ?_)
  ·have H := H.1 aM
   refine Wq (Wg (Lv ok 0 [(4, .bool false)] 1 rfl rfl (Ln _ rfl (W_ret ?_))))
   exact ⟨_, Ret_of [.bool false] ⟨⟨rfl, rfl⟩, trivial⟩, _, H, rfl, (X.stepx aG).ext⟩
  have H := H.2 aM
  refine Wk (Wg (Lv ok 0 [(25, I (wr (aA + 1))), (15, I (wr (aA + 1)))] 2 rfl rfl ?_))
  exact Ln _ rfl ⟨wr (aA + 1), ⟨H.1, _, Ee ⟨rfl, rfl, rfl, rfl, trivial⟩, rfl⟩, H.2⟩
 have H := H.2 aL
 refine W_exit ?_
 refine (if_pos rfl).mpr ?_
 refine Wq (Wg (Lv ok 0 [(4, .bool true)] 1 rfl rfl (Ln _ rfl (W_ret ?_))))
 exact ⟨_, Ret_of [.bool true] ⟨⟨rfl, rfl⟩, trivial⟩, _, H, rfl, (X.stepx aG).ext⟩

theorem spec_tGood_w (t : Transport) (Q : Bool → Prop) (H : spec_tGood t Q) (w : World) {vx : Value} {hx : PH} (r : RS hx vx t.Rows) (ex : Sub hx w) {bG : Value} {bH : PH} (aQ : RS bH bG t.Cols) (b8 : Sub bH w) {bI : Value} {bJ : PH} (aL : RS bJ bI t.Lo) (b9 : Sub bJ w) {bK : Value} {bL : PH} (aM : RS bL bK t.Hi) (cA : Sub bL w) :
  CallsTo Try.prog 32 #[.agg #[vx, bG, bI, bK]] w fun v w' => ∃ bM, Q bM ∧ v = .bool bM ∧ Ext w w' := by
 obtain ⟨a, c, rfl⟩ := r.shape
 obtain ⟨aG, aH, rfl⟩ := aQ.shape
 obtain ⟨aC, aD, rfl⟩ := aL.shape
 obtain ⟨aE, aF, rfl⟩ := aM.shape
 refine enter (args := [.agg #[sl a t.Rows c, sl aG t.Cols aH, sl aC t.Lo aD, sl aE t.Hi aF]]) 90 Try.func32 rfl rfl rfl ?_
 refine Wo [(0, .agg #[sl a t.Rows c, sl aG t.Cols aH, sl aC t.Lo aD, sl aE t.Hi aF])] ⟨rfl, trivial⟩ fun ρ => ?_
 have X := Br emp w
 refine Wq (Wg (Ly 0 (cs := [sl a t.Rows c, sl aG t.Cols aH, sl aC t.Lo aD, sl aE t.Hi aF]) rfl rfl rfl rfl rfl fun b wx x aZ f => (Lv ok 1 [(2, .bool false)] 2 rfl rfl (Ln _ rfl (Wq ?_)))))
 have X20 := (X.stepx x)
 have bN := (b9.ext x)
 have bO := (cA.ext x)
 obtain ⟨k, hk, H⟩ := jn_elim H
 refine W_join2 (S := Bool) (fun s ρ' w' => k s ∧ ∃ (ρ : Env), ρ' = setAll [(1, pb b), (42, .bool s)] ρ ∧ Ext wx w') ?_ ?_
 ·refine Wg (Lv ok 0 [(5, pb b)] 1 rfl rfl (Lb 1 (v := sl a t.Rows c) rfl rfl rfl ti_22 ag_22 (fun _ => rfl) rfl aZ rfl rfl (Lv ok 2 [(7, I (ln t.Rows))] 3 rfl rfl (Lc 3 rfl rfl rfl cal_56 rfl (spec_l1In_w _ _ _ _ H wx ) ?_))))
  rintro _ cB ⟨a0, H, rfl, aO⟩
  refine Lv ok 4 [(9, .bool (!a0)), (10, .bool (!a0))] 6 rfl rfl ?_
  refine LP_split 10 (!a0) rfl (fun hc => ?_) (fun hc => ?_)
  ·have H := H.1 hc
   refine Lv ok 6 [(11, undef), (12, undef), (13, undef), (14, undef), (15, undef), (16, .bool true), (17, .bool true), (18, undef), (19, undef), (20, undef), (21, undef), (22, .bool true), (23, .bool true), (24, undef), (25, undef), (26, undef), (27, undef), (28, .bool true), (29, .bool true), (30, undef), (31, undef), (32, undef), (33, undef), (34, undef), (35, .bool true), (36, .bool true), (37, undef), (38, undef), (39, undef), (40, undef), (41, undef), (42, .bool true)] 38 rfl rfl ?_
   refine Ln _ rfl ?_
   try refine Wo [(1, pb b), (42, .bool true)] ⟨rfl, rfl, trivial⟩ fun ρ => ?_
   exact ⟨true, H, _, Ee ⟨rfl, rfl, trivial⟩, aO⟩
  have H := H.2 hc
  refine Lv ok 6 [(11, .pointer (some ⟨b, 1, none⟩))] 7 rfl rfl ?_
  have bP := (aZ.ext aO)
  refine Lb 7 (v := sl aG t.Cols aH) rfl rfl rfl ti_22 ag_22 (fun _ => rfl) rfl bP rfl rfl (Lv ok 8 [(13, I (ln t.Cols))] 9 rfl rfl (Lc 9 rfl rfl rfl cal_56 rfl (spec_l1In_w _ _ _ _ H cB ) ?_))
  rintro _ cC ⟨aR, H, rfl, aS⟩
  refine Lv ok 10 [(15, .bool (!aR)), (16, .bool (!aR)), (17, .bool (!aR))] 13 rfl rfl ?_
  refine LP_split 17 (!aR) rfl (fun a1 => ?_) (fun a1 => ?_)
  ·have H := H.1 a1
   refine Lv ok 13 [(18, undef), (19, undef), (20, undef), (21, undef), (22, .bool true), (23, .bool true), (24, undef), (25, undef), (26, undef), (27, undef), (28, .bool true), (29, .bool true), (30, undef), (31, undef), (32, undef), (33, undef), (34, undef), (35, .bool true), (36, .bool true), (37, undef), (38, undef), (39, undef), (40, undef), (41, undef), (42, .bool true)] 38 rfl rfl (Ln _ rfl ?_)
   try refine Wo [(1, pb b), (42, .bool true)] ⟨rfl, rfl, trivial⟩ fun ρ => ?_
   exact ⟨true, H, _, Ee ⟨rfl, rfl, trivial⟩, (aO.trans aS)⟩
  have H := H.2 a1
  refine Lv ok 13 [(18, pb b)] 14 rfl rfl ?_
  have bQ := (bP.ext aS)
  refine Lb 14 (v := sl a t.Rows c) rfl rfl rfl ti_22 ag_22 (fun _ => rfl) rfl bQ rfl rfl ?_
  have a2 := (aO.trans aS)
  have bR := ((ex.ext x).ext a2)
  refine Lc 15 rfl rfl rfl cal_68 rfl (spec_l1All_w _ _ _ _ H cC r bR) ?_
  rintro _ cD ⟨aT, H, rfl, aP⟩
  refine Lv ok 16 [(21, .bool (!aT)), (22, .bool (!aT)), (23, .bool (!aT))] 19 rfl rfl ?_
  refine LP_split 23 (!aT) rfl (fun a3 => ?_) (fun a3 => ?_)
  ·have H := H.1 a3
   refine Lv ok 19 [(24, undef), (25, undef), (26, undef), (27, undef), (28, .bool true), (29, .bool true), (30, undef), (31, undef), (32, undef), (33, undef), (34, undef), (35, .bool true), (36, .bool true), (37, undef), (38, undef), (39, undef), (40, undef), (41, undef), (42, .bool true)] 38 rfl rfl (Ln _ rfl ?_)
   try refine Wo [(1, pb b), (42, .bool true)] ⟨rfl, rfl, trivial⟩ fun ρ => ?_
   exact ⟨true, H, _, Ee ⟨rfl, rfl, trivial⟩, (a2.trans aP)⟩
  have H := H.2 a3
  refine Lv ok 19 [(24, .pointer (some ⟨b, 1, none⟩))] 20 rfl rfl ?_
  have bS := (bQ.ext aP)
  refine Lb 20 (v := sl aG t.Cols aH) rfl rfl rfl ti_22 ag_22 (fun _ => rfl) rfl bS rfl rfl ?_
  have a4 := (a2.trans aP)
  have bT := ((b8.ext x).ext a4)
  refine Lc 21 rfl rfl rfl cal_68 rfl (spec_l1All_w _ _ _ _ H cD aQ bT) ?_
  rintro _ cE ⟨aU, H, rfl, aN⟩
  refine Lv ok 22 [(27, .bool (!aU)), (28, .bool (!aU)), (29, .bool (!aU))] 25 rfl rfl ?_
  refine LP_split 29 (!aU) rfl (fun a5 => ?_) (fun a5 => ?_)
  ·have H := H.1 a5
   refine Lv ok 25 [(30, undef), (31, undef), (32, undef), (33, undef), (34, undef), (35, .bool true), (36, .bool true), (37, undef), (38, undef), (39, undef), (40, undef), (41, undef), (42, .bool true)] 38 rfl rfl (Ln _ rfl ?_)
   try refine Wo [(1, pb b), (42, .bool true)] ⟨rfl, rfl, trivial⟩ fun ρ => ?_
   exact ⟨true, H, _, Ee ⟨rfl, rfl, trivial⟩, (a4.trans aN)⟩
  have H := H.2 a5
  have a6 := (bS.ext aN)
  refine Lb 25 (v := .agg #[sl a t.Rows c, sl aG t.Cols aH, sl aC t.Lo aD, sl aE t.Hi aF]) rfl rfl rfl ti_29 ag_29 (fun h => by cases h) rfl a6 rfl rfl (Lv ok 26 [(31, .pointer (some ⟨b, 2, none⟩))] 27 rfl rfl (Lb 27 (v := sl aC t.Lo aD) rfl rfl rfl ti_23 ag_23 (fun _ => rfl) rfl a6 rfl rfl ?_))
  have bU := (bR.ext (aP.trans aN))
  have bV := (bT.ext aN)
  have a7 := (a4.trans aN)
  have a8 := (bN.ext a7)
  have bW := (bO.ext a7)
  refine Lc 28 rfl rfl rfl cal_69 rfl (spec_tSize_w _ _ _ H cE r bU aQ bV aL a8 aM bW aL a8) ?_
  rintro _ cF ⟨aV, H, rfl, aI⟩
  refine Lv ok 29 [(34, .bool (!aV)), (35, .bool (!aV)), (36, .bool (!aV))] 32 rfl rfl ?_
  refine LP_split 36 (!aV) rfl (fun a9 => ?_) (fun a9 => ?_)
  ·have H := H.1 a9
   refine Lv ok 32 [(37, undef), (38, undef), (39, undef), (40, undef), (41, undef), (42, .bool true)] 38 rfl rfl (Ln _ rfl ?_)
   try refine Wo [(1, pb b), (42, .bool true)] ⟨rfl, rfl, trivial⟩ fun ρ => ?_
   exact ⟨true, H, _, Ee ⟨rfl, rfl, trivial⟩, (a7.trans aI)⟩
  have H := H.2 a9
  have bX := (a6.ext aI)
  refine Lb 32 (v := .agg #[sl a t.Rows c, sl aG t.Cols aH, sl aC t.Lo aD, sl aE t.Hi aF]) rfl rfl rfl ti_29 ag_29 (fun h => by cases h) rfl bX rfl rfl (Lv ok 33 [(38, .pointer (some ⟨b, 3, none⟩))] 34 rfl rfl (Lb 34 (v := sl aE t.Hi aF) rfl rfl rfl ti_23 ag_23 (fun _ => rfl) rfl bX rfl rfl ?_))
  have bY := (bW.ext aI)
  refine Lc 35 rfl rfl rfl cal_69 rfl (spec_tSize_w _ _ _ H cF r (bU.ext aI) aQ (bV.ext aI) aL (a8.ext aI) aM bY aM bY) ?_
  rintro _ d3 ⟨aW, H, rfl, cG⟩
  refine Lv ok 36 [(41, .bool (!aW)), (42, .bool (!aW))] 38 rfl rfl (Ln _ rfl ?_)
  try refine Wo [(1, pb b), (42, .bool (!aW))] ⟨rfl, rfl, trivial⟩ fun ρ => ?_
  exact ⟨!aW, H, _, Ee ⟨rfl, rfl, trivial⟩, (((((aO.trans aS).trans aP).trans aN).trans aI).trans cG)⟩
 rintro cH _ cI ⟨H, ρ, rfl, X28⟩
 subst hk
 refine Wc (cH) rfl (fun bA => ?_) (fun bA => ?_)
 ·have H := H.1 bA
  refine Wq (Wg (Lv ok 0 [(2, .bool false)] 1 rfl rfl (Ln _ rfl (W_ret ?_))))
  exact ⟨_, Ret_of [.bool false] ⟨⟨rfl, rfl⟩, trivial⟩, _, H, rfl, (X20.stepx X28).ext⟩
 have H := H.2 bA
 refine Wk (Wq (Wq (Wg (Lv ok 0 [(43, .pointer (some ⟨b, 2, none⟩))] 1 rfl rfl ?_))))
 have bZ := (aZ.ext X28)
 refine Lb 1 (v := sl aC t.Lo aD) rfl rfl rfl ti_23 ag_23 (fun _ => rfl) rfl bZ rfl rfl (Lv ok 2 [(45, I (ln t.Lo)), (46, I 0)] 4 rfl rfl (Ln _ rfl (W_block ?_)))
 obtain ⟨J, m, Hx, H⟩ := H
 refine W_loop (S := Int) (fun s ρ' w' => J s ∧ ∃ (ρ : Env), ρ' = setAll [(1, pb b), (45, I (ln t.Lo)), (46, I s)] ρ ∧ Ext cI w') (fun s => m s) 0 ⟨Hx, _, Ee ⟨rfl, rfl, rfl, trivial⟩, (Ext.refl _)⟩ ?_
 rintro aA _ cJ ⟨Hi, ρ, rfl, X79⟩
 have H := H aA Hi
 refine Wq (Wg (Lv ok 0 [(47, .bool (decide (aA < (ln t.Lo))))] 1 rfl rfl (Ln _ rfl (Wq ?_))))
 refine Wc (decide (aA < (ln t.Lo))) rfl (fun bB => ?_) (fun bB => ?_)
 ·have H := H.1 bB
  refine Wk (Wq (W_block (Wq (Wg (Lv ok 0 [(48, I aA), (3, I aA)] 2 rfl rfl (Ln _ rfl (Wq (Wg (Lv ok 0 [(49, .pointer (some ⟨b, 2, none⟩))] 1 rfl rfl ?_)))))))))
  have b0 := (bZ.ext X79)
  refine Lb 1 (v := sl aC t.Lo aD) rfl rfl rfl ti_23 ag_23 (fun _ => rfl) rfl b0 rfl rfl (Lv ok 2 [(51, I aA)] 3 rfl rfl ?_)
  obtain ⟨aJ, hi, cK, H⟩ := H
  refine Li 3 rfl rfl rfl Try.underlying23 ti_22 rfl rfl aL hi cK fun d4 cs cL d => ?_
  have b1 := (X28.trans X79)
  have b2 := (bN.ext b1)
  refine Lo 4 rfl rfl rfl ti_22 ag_22 rfl cL d b2 fun d5 cM => ?_
  have cN := cM.slice
  obtain ⟨d6, d7, rfl⟩ := cN.shape
  refine Lv ok 5 [(54, I (ln aJ)), (55, I 0)] 7 rfl rfl (Ln _ rfl (W_block ?_))
  obtain ⟨J96, cO, Hx98, H⟩ := H
  refine W_loop (S := Int) (fun s ρ' w' => J96 s ∧ ∃ (ρ : Env), ρ' = setAll [(1, pb b), (3, I aA), (45, I (ln t.Lo)), (46, I aA), (54, I (ln aJ)), (55, I s)] ρ ∧ Ext cJ w') (fun s => cO s) 0 ⟨Hx98, _, Ee ⟨rfl, rfl, rfl, rfl, rfl, rfl, trivial⟩, (Ext.refl _)⟩ ?_
  rintro aB _ cP ⟨Hi, ρ, rfl, X95⟩
  have H := H aB Hi
  refine Wq (Wg (Lv ok 0 [(56, .bool (decide (aB < (ln aJ))))] 1 rfl rfl (Ln _ rfl (Wq ?_))))
  refine Wc (decide (aB < (ln aJ))) rfl (fun bC => ?_) (fun bC => ?_)
  ·have H := H.1 bC
   refine Wk (Wq (W_block (Wq (Wg (Lv ok 0 [(57, I aB), (4, I aB)] 2 rfl rfl (Ln _ rfl ?_))))))
   have b3 := (b1.trans X95)
   have b4 := (b2.ext X95)
   have aX := (bO.ext b3)
   have bD := (b0.ext X95)
   obtain ⟨cQ, cR, H⟩ := jn_elim H
   refine W_join2 (S := Bool) (fun s ρ' w' => cQ s ∧ ∃ (ρ : Env), ρ' = setAll [(1, pb b), (3, I aA), (45, I (ln t.Lo)), (46, I aA), (54, I (ln aJ)), (55, I aB), (87, .bool s)] ρ ∧ Ext cP w') ?_ ?_
   ·refine W_quiet mix (by kernel_rfl) ?_
    refine QP_ev ok 0 [(58, .pointer (some ⟨b, 3, none⟩))] 1 rfl rfl ?_
    refine QP_ldbox 1 (v := sl aE t.Hi aF) rfl rfl rfl ti_23 ag_23 (fun _ => rfl) rfl bD rfl rfl ?_
    refine QP_ev ok 2 [(60, I aA)] 3 rfl rfl ?_
    obtain ⟨d8, cS, cT, H⟩ := H
    refine QP_index 3 rfl rfl rfl Try.underlying23 ti_22 rfl rfl aM cS cT fun d9 eA cU cV => ?_
    refine QP_load 4 rfl rfl rfl ti_22 ag_22 rfl cU cV aX fun eB cW => ?_
    have b5 := cW.slice
    obtain ⟨eC, eD, rfl⟩ := b5.shape
    refine QP_ev ok 5 [(63, I aB)] 6 rfl rfl ?_
    obtain ⟨eE, cX, cY, H⟩ := H
    refine QP_index 6 rfl rfl rfl Try.underlying22 ti_3 rfl rfl b5 cX cY fun eF eG cZ c0 => ?_
    refine QP_load 7 rfl rfl rfl ti_3 ag_3 rfl cZ c0 aX fun eH c1 => ?_
    obtain rfl := c1.int
    obtain ⟨aY, Hd, H⟩ := H
    refine QP_call (.bool aY) 8 rfl rfl rfl cal_56 rfl (fun c2 eI => (spec_l1In_w _ _ _ _ Hd c2 ).mono ?_) ?_
    ·rintro _ _ ⟨_, rfl, rfl, x⟩; exact ⟨rfl, x⟩
    refine QP_ev ok 9 [(67, .bool (!aY)), (68, .bool (!aY))] 11 rfl rfl ?_
    refine QP_split 68 (!aY) rfl (fun bE => ?_) (fun bE => ?_)
    ·have H := H.1 bE
     refine QP_ev ok 11 [(69, undef), (70, undef), (71, undef), (72, undef), (73, undef), (74, undef), (75, undef), (76, undef), (77, undef), (78, undef), (79, undef), (80, undef), (81, undef), (82, undef), (83, undef), (84, undef), (85, undef), (86, undef), (87, .bool true)] 30 rfl rfl ?_
     refine QP_end _ rfl fun eJ c3 => ?_
     try refine Wo [(1, pb b), (3, I aA), (45, I (ln t.Lo)), (46, I aA), (54, I (ln aJ)), (55, I aB), (87, .bool true)] ⟨rfl, rfl, rfl, rfl, rfl, rfl, rfl, trivial⟩ fun ρ => ?_
     exact ⟨true, H, _, Ee ⟨rfl, rfl, rfl, rfl, rfl, rfl, rfl, trivial⟩, c3⟩
    have H := H.2 bE
    refine QP_ev ok 11 [(69, .pointer (some ⟨b, 2, none⟩))] 12 rfl rfl ?_
    refine QP_ldbox 12 (v := sl aC t.Lo aD) rfl rfl rfl ti_23 ag_23 (fun _ => rfl) rfl bD rfl rfl ?_
    refine QP_ev ok 13 [(71, I aA)] 14 rfl rfl ?_
    obtain ⟨c4, c5, c6, H⟩ := H
    refine QP_index 14 rfl rfl rfl Try.underlying23 ti_22 rfl rfl aL c5 c6 fun c7 eK c8 c9 => ?_
    refine QP_load 15 rfl rfl rfl ti_22 ag_22 rfl c8 c9 b4 fun eL dA => ?_
    have b6 := dA.slice
    obtain ⟨dB, dC, rfl⟩ := b6.shape
    refine QP_ev ok 16 [(74, I aB)] 17 rfl rfl ?_
    obtain ⟨dD, dE, dF, H⟩ := H
    refine QP_index 17 rfl rfl rfl Try.underlying22 ti_3 rfl rfl b6 dE dF fun dG eM dH dI => ?_
    refine QP_load 18 rfl rfl rfl ti_3 ag_3 rfl dH dI b4 fun eN dJ => ?_
    obtain rfl := dJ.int
    refine QP_ev ok 19 [(77, .pointer (some ⟨b, 3, none⟩))] 20 rfl rfl ?_
    refine QP_ldbox 20 (v := sl aE t.Hi aF) rfl rfl rfl ti_23 ag_23 (fun _ => rfl) rfl bD rfl rfl ?_
    refine QP_ev ok 21 [(79, I aA)] 22 rfl rfl ?_
    obtain ⟨dK, dL, dM, H⟩ := H
    refine QP_index 22 rfl rfl rfl Try.underlying23 ti_22 rfl rfl aM dL dM fun dN eO dO dP => ?_
    refine QP_load 23 rfl rfl rfl ti_22 ag_22 rfl dO dP aX fun eP dQ => ?_
    have b7 := dQ.slice
    obtain ⟨dR, dS, rfl⟩ := b7.shape
    refine QP_ev ok 24 [(82, I aB)] 25 rfl rfl ?_
    obtain ⟨dT, dU, dV, H⟩ := H
    refine QP_index 25 rfl rfl rfl Try.underlying22 ti_3 rfl rfl b7 dU dV fun dW eQ dX dY => ?_
    refine QP_load 26 rfl rfl rfl ti_3 ag_3 rfl dX dY aX fun eR dZ => ?_
    obtain rfl := dZ.int
    obtain ⟨aK, Hd183, H⟩ := H
    refine QP_call (.bool aK) 27 rfl rfl rfl cal_56 rfl (fun d0 eS => (spec_l1In_w _ _ _ _ Hd183 d0 ).mono ?_) ?_
    ·rintro _ _ ⟨_, rfl, rfl, x⟩; exact ⟨rfl, x⟩
    refine QP_ev ok 28 [(86, .bool (!aK)), (87, .bool (!aK))] 30 rfl rfl ?_
    refine QP_end _ rfl fun eT d1 => ?_
    try refine Wo [(1, pb b), (3, I aA), (45, I (ln t.Lo)), (46, I aA), (54, I (ln aJ)), (55, I aB), (69, .pointer (some ⟨b, 2, none⟩)), (70, sl aC t.Lo aD), (71, I aA), (72, .pointer (some c7)), (73, sl dB c4 dC), (74, I aB), (75, .pointer (some dG)), (76, I dD), (77, .pointer (some ⟨b, 3, none⟩)), (78, sl aE t.Hi aF), (79, I aA), (80, .pointer (some dN)), (81, sl dR dK dS), (82, I aB), (83, .pointer (some dW)), (84, I dT), (85, .bool aK), (86, .bool (!aK)), (87, .bool (!aK))] ⟨rfl, rfl, rfl, rfl, rfl, rfl, rfl, rfl, rfl, rfl, rfl, rfl, rfl, rfl, rfl, rfl, rfl, rfl, rfl, rfl, rfl, rfl, rfl, rfl, rfl, trivial⟩ fun ρ => ?_
    exact ⟨!aK, H, _, Ee ⟨rfl, rfl, rfl, rfl, rfl, rfl, rfl, trivial⟩, d1⟩
   rintro d2 _ eU ⟨H, ρ, rfl, X110⟩
   subst cR
   refine Wc (d2) rfl (fun bF => ?_) (fun bF => ?_)
   ·have H := H.1 bF
    refine Wq (Wg (Lv ok 0 [(2, .bool false)] 1 rfl rfl (Ln _ rfl (W_ret ?_))))
    exact ⟨_, Ret_of [.bool false] ⟨⟨rfl, rfl⟩, trivial⟩, _, H, rfl, ((X20.stepx b3).stepx X110).ext⟩
   have H := H.2 bF
   refine Wk (Wg (Lv ok 0 [(88, I (wr (aB + 1))), (55, I (wr (aB + 1)))] 2 rfl rfl ?_))
   exact Ln _ rfl ⟨wr (aB + 1), ⟨H.1, _, Ee ⟨rfl, rfl, rfl, rfl, rfl, rfl, trivial⟩, (X95.trans X110)⟩, H.2⟩
  have H := H.2 bC
  refine W_exit ?_
  refine (if_pos rfl).mpr ?_
  refine Wg (Lv ok 0 [(89, I (wr (aA + 1))), (46, I (wr (aA + 1)))] 2 rfl rfl ?_)
  exact Ln _ rfl ⟨wr (aA + 1), ⟨H.1, _, Ee ⟨rfl, rfl, rfl, trivial⟩, (X79.trans X95)⟩, H.2⟩
 have H := H.2 bB
 refine W_exit ?_
 refine (if_pos rfl).mpr ?_
 refine Wq (Wg (Lv ok 0 [(2, .bool true)] 1 rfl rfl (Ln _ rfl (W_ret ?_))))
 exact ⟨_, Ret_of [.bool true] ⟨⟨rfl, rfl⟩, trivial⟩, _, H, rfl, (X20.stepx (X28.trans X79)).ext⟩

theorem spec_tStart_w (t : Transport) (Q : TFill → Bool → Prop) (H : spec_tStart t Q) (w : World) {vx : Value} {hx : PH} (r : RS hx vx t.Rows) (ex : Sub hx w) {cV : Value} {aR : PH} (b1 : RS aR cV t.Cols) (bA : Sub aR w) {cW : Value} {aO : PH} (bB : RS aO cW t.Lo) (d9 : Sub aO w) {cX : Value} {aU : PH} (cY : RS aU cX t.Hi) (b2 : Sub aU w) :
  CallsTo Try.prog 98 #[.agg #[vx, cV, cW, cX]] w fun v w' => ∃ a0 cZ u0_0 g0_0 u0_1 g0_1 u0_2 g0_2 u0_3 g0_3 u0_4 g0_4 u0_5 g0_5 u0_6 g0_6 b0_, Q a0 cZ ∧ v = .tuple #[pb b0_, .bool cZ] ∧ Ext w w' ∧ RS g0_0 u0_0 a0.T.Rows ∧ Sub g0_0 w' ∧ DomLe (un hx (un aR (un aO aU))) w.heap.size g0_0 ∧ RS g0_1 u0_1 a0.T.Cols ∧ Sub g0_1 w' ∧ DomLe (un hx (un aR (un aO aU))) w.heap.size g0_1 ∧ RS g0_2 u0_2 a0.T.Lo ∧ Sub g0_2 w' ∧ DomLe (un hx (un aR (un aO aU))) w.heap.size g0_2 ∧ RS g0_3 u0_3 a0.T.Hi ∧ Sub g0_3 w' ∧ DomLe (un hx (un aR (un aO aU))) w.heap.size g0_3 ∧ OD g0_4 u0_4 a0.X ∧ Sub g0_4 w' ∧ Fresh w.heap.size g0_4 ∧ OS 3 g0_5 emp u0_5 a0.Rows ∧ Sub g0_5 w' ∧ Fresh w.heap.size g0_5 ∧ OS 3 g0_6 emp u0_6 a0.Cols ∧ Sub g0_6 w' ∧ Fresh w.heap.size g0_6 ∧ Sub (bx b0_ 85 [u0_0, u0_1, u0_2, u0_3, u0_4, u0_5, u0_6]) w' ∧ Fresh w.heap.size (bx b0_ 85 [u0_0, u0_1, u0_2, u0_3, u0_4, u0_5, u0_6]) ∧ Dj g0_0 g0_4 ∧ Dj g0_0 g0_5 ∧ Dj g0_0 g0_6 ∧ Dj g0_0 (bx b0_ 85 [u0_0, u0_1, u0_2, u0_3, u0_4, u0_5, u0_6]) ∧ Dj g0_1 g0_4 ∧ Dj g0_1 g0_5 ∧ Dj g0_1 g0_6 ∧ Dj g0_1 (bx b0_ 85 [u0_0, u0_1, u0_2, u0_3, u0_4, u0_5, u0_6]) ∧ Dj g0_2 g0_4 ∧ Dj g0_2 g0_5 ∧ Dj g0_2 g0_6 ∧ Dj g0_2 (bx b0_ 85 [u0_0, u0_1, u0_2, u0_3, u0_4, u0_5, u0_6]) ∧ Dj g0_3 g0_4 ∧ Dj g0_3 g0_5 ∧ Dj g0_3 g0_6 ∧ Dj g0_3 (bx b0_ 85 [u0_0, u0_1, u0_2, u0_3, u0_4, u0_5, u0_6]) ∧ Dj g0_4 g0_5 ∧ Dj g0_4 g0_6 ∧ Dj g0_4 (bx b0_ 85 [u0_0, u0_1, u0_2, u0_3, u0_4, u0_5, u0_6]) ∧ Dj g0_5 g0_6 ∧ Dj g0_5 (bx b0_ 85 [u0_0, u0_1, u0_2, u0_3, u0_4, u0_5, u0_6]) ∧ Dj g0_6 (bx b0_ 85 [u0_0, u0_1, u0_2, u0_3, u0_4, u0_5, u0_6]) := by
 obtain ⟨a, c, rfl⟩ := r.shape
 obtain ⟨aD, aE, rfl⟩ := b1.shape
 obtain ⟨aB, aC, rfl⟩ := bB.shape
 obtain ⟨aF, aG, rfl⟩ := cY.shape
 refine enter (args := [.agg #[sl a t.Rows c, sl aD t.Cols aE, sl aB t.Lo aC, sl aF t.Hi aG]]) 79 Try.func98 rfl rfl rfl ?_
 refine Wo [(0, .agg #[sl a t.Rows c, sl aD t.Cols aE, sl aB t.Lo aC, sl aF t.Hi aG])] ⟨rfl, trivial⟩ fun ρ => ?_
 have D : Dom (un hx (un aR (un aO aU))) hx := (Dom.l _ _)
 have D19 : Dom (un hx (un aR (un aO aU))) aR := (Ot (Dom.r _ _) (Dom.l _ _))
 have D20 : Dom (un hx (un aR (un aO aU))) aO := (Ot (Dom.r _ _) (Ot (Dom.r _ _) (Dom.l _ _)))
 have D21 : Dom (un hx (un aR (un aO aU))) aU := (Ot (Dom.r _ _) (Ot (Dom.r _ _) (Ot (Dom.r _ _) (Or _))))
 have X := Br emp w
 refine Wq (Wg (Ly 0 (cs := [sl a t.Rows c, sl aD t.Cols aE, sl aB t.Lo aC, sl aF t.Hi aG]) rfl rfl rfl rfl rfl fun b wx x eA f => (Lv ok 1 [(2, .pointer none), (3, .bool false)] 3 rfl rfl (Ln _ rfl (Wq ?_)))))
 refine W_open mix fun f7 a1 => ?_
 refine AP_game 4 [[], [], [1], [1, 2], [0, 1, 2, 3], [0, 1, 2, 3, 4], [0, 1, 2, 3, 4, 5]] [[(1, none)], [(1, none)], [(10, some 1)], [(11, some 2)]] [(1, none), (9, some 0), (12, some 3)] [(0, false), (1, false), (2, false), (3, true)] (by kernel_rfl) (by kernel_rfl) ?_
 have a7 := (eA.ext a1)
 refine GS_r1 [(1, pb b)] (.agg #[sl a t.Rows c, sl aD t.Cols aE, sl aB t.Lo aC, sl aF t.Hi aG]) rfl rfl (fun _ h => h) (fun _ w e => ex_ldbox rfl ti_29 ag_29 (fun h => by cases h) rfl e rfl rfl) a7 ?_
 refine GS_ev ok [(1, pb b)] (.pointer (some ⟨b, 2, none⟩)) rfl rfl (fun _ h => h) (fun _ => rfl) ?_
 refine GS_r1 [(10, .pointer (some ⟨b, 2, none⟩))] (sl aB t.Lo aC) rfl rfl (fun _ h => h) (fun _ w e => ex_ldbox rfl ti_23 ag_23 (fun _ => rfl) rfl e rfl rfl) a7 ?_
 refine GS_lp [(11, sl aB t.Lo aC)] rfl rfl (fun _ h => h) rfl fun ρ eB aZ => ?_
 have xc := ((x.trans a1).trans aZ)
 have a2 := (d9.ext xc)
 refine Lc 0 rfl rfl rfl cal_59 rfl (spec_tOwn_w _ _ H eB bB a2) ?_
 rintro _ f8 ⟨aH, f9, c0, H, rfl, aS, o, c1, bC⟩
 obtain ⟨aI, aJ, rfl⟩ := o.shape
 have b3 := (aZ.trans aS)
 refine LP_gs ⟨⟨.inl rfl, .inr (a7.ext b3), trivial⟩, ?_⟩
 intro gA aN ρ hn
 refine AP_forget [(1, pb b), (9, .agg #[sl a t.Rows c, sl aD t.Cols aE, sl aB t.Lo aC, sl aF t.Hi aG]), (12, sl aI aH aJ)] (by exact hn) fun ρ => ?_
 refine AP_tail 4 [[], [], [1], [1, 2], [0, 1, 2, 3], [0, 1, 2, 3, 4], [0, 1, 2, 3, 4, 5]] (by kernel_rfl) ?_
 refine Lv ok 4 [(13, .agg #[sl a t.Rows c, sl aD t.Cols aE, sl aB t.Lo aC, sl aF t.Hi aG, sl aI aH aJ, .slice none 0 0, .slice none 0 0])] 5 rfl rfl (Ly 5 (cs := [sl a t.Rows c, sl aD t.Cols aE, sl aB t.Lo aC, sl aF t.Hi aG, sl aI aH aJ, .slice none 0 0, .slice none 0 0]) rfl rfl rfl rfl rfl fun aA b4 aT eC aK => (Lv ok 6 [(4, pb aA)] 7 rfl rfl (Ln _ rfl (Wq ?_))))
 refine Wq (Wg (Lv ok 0 [(15, pb b)] 1 rfl rfl ?_))
 have b5 := (a7.ext (((aZ.trans aS).trans aN).trans aT))
 refine Lb 1 (v := sl a t.Rows c) rfl rfl rfl ti_22 ag_22 (fun _ => rfl) rfl b5 rfl rfl (Lv ok 2 [(17, I (ln t.Rows)), (18, I 0)] 4 rfl rfl (Ln _ rfl (W_block ?_)))
 obtain ⟨J, m, Hx, H⟩ := H
 refine W_loop (S := Int × (List Int)) (fun s ρ' w' => J s.1 s.2 ∧ ∃ (ρ : Env) (bH : Value) (a8 : PH), ρ' = setAll [(1, pb b), (4, pb aA), (16, sl a t.Rows c), (17, I (ln t.Rows)), (18, I s.1)] ρ ∧ But (bx aA 85 [sl a t.Rows c, sl aD t.Cols aE, sl aB t.Lo aC, sl aF t.Hi aG, sl aI aH aJ, .slice none 0 0, .slice none 0 0]) b4 w' ∧ OS 3 a8 emp bH s.2 ∧ Sub a8 w' ∧ DomLe (bx aA 85 [sl a t.Rows c, sl aD t.Cols aE, sl aB t.Lo aC, sl aF t.Hi aG, sl aI aH aJ, .slice none 0 0, .slice none 0 0]) b4.heap.size a8 ∧ Sub (bx aA 85 [sl a t.Rows c, sl aD t.Cols aE, sl aB t.Lo aC, sl aF t.Hi aG, sl aI aH aJ, bH, .slice none 0 0]) w' ∧ Dj a8 (bx aA 85 [sl a t.Rows c, sl aD t.Cols aE, sl aB t.Lo aC, sl aF t.Hi aG, sl aI aH aJ, bH, .slice none 0 0])) (fun s => m s.1 s.2) (0, []) ⟨Hx, _, .slice none 0 0, emp, Ee ⟨rfl, rfl, rfl, rfl, rfl, trivial⟩, (Br _ _), OS.nil, (emp_sub _), (fun _ _ _ => rfl), eC, (fun _ => .inl rfl)⟩ ?_
 rintro ⟨aX, rows⟩ _ b6 ⟨Hi, ρ, bH, a8, rfl, HF⟩
 revert HF
 refine bb6 fun X59 bI b7 a6 c2 d => ?_
 have H := H aX rows Hi
 obtain ⟨aL, aM, rfl⟩ := bI.shape
 refine Wq (Wg (Lv ok 0 [(19, .bool (decide (aX < (ln t.Rows))))] 1 rfl rfl (Ln _ rfl (Wq ?_))))
 refine Wc (decide (aX < (ln t.Rows))) rfl (fun hc => ?_) (fun hc => ?_)
 ·have H := H.1 hc
  refine Wk (Wq (W_block (Wq (Wg (Lv ok 0 [(20, I aX)] 1 rfl rfl ?_)))))
  obtain ⟨aP, hi, eD, H⟩ := H
  refine Li 1 rfl rfl rfl Try.underlying22 ti_3 rfl rfl r hi eD fun gB cs eE eF => ?_
  have dj := (Df (ex.ext ((((x.trans a1).trans aZ).trans aS).trans aN)) aK).symm
  refine Lo 2 rfl rfl rfl ti_3 ag_3 rfl eE eF ((ex.ext (((((x.trans a1).trans aZ).trans aS).trans aN).trans aT)).but X59 dj) fun gC eG => ?_
  obtain rfl := eG.int
  refine Lv ok 3 [(5, I aX), (6, I aP)] 5 rfl rfl (Ln _ rfl ?_)
  refine W_open mix fun gD bJ => ?_
  refine AP_game 15 [[], [], [1], [1, 2], [1, 2, 3], [], [], [6], [], [6, 7, 8], [6, 7, 8, 9], [6, 7, 8, 9, 10], [5, 6, 7, 8, 9, 10, 11], [5, 6, 7, 8, 9, 10, 11, 12], [1, 2, 3, 4, 5, 6, 7, 8, 9, 10, 11, 12, 13], [0, 1, 2, 3, 4, 5, 6, 7, 8, 9, 10, 11, 12, 13, 14], [0, 1, 2, 3, 4, 5, 6, 7, 8, 9, 10, 11, 12, 13, 14, 15], [0, 1, 2, 3, 4, 5, 6, 7, 8, 9, 10, 11, 12, 13, 14, 15, 16]] [[(4, none)], [(4, none)], [(24, some 1)], [(25, some 2)], [(26, some 3)], [(6, none)], [(1, none)], [(29, some 6)], [(5, none)], [(30, some 7), (31, some 8)], [(32, some 9)], [(33, some 10)], [(28, some 5), (34, some 11)], [(35, some 12)], [(27, some 4), (36, some 13)]] [(1, none), (4, none), (16, none), (17, none), (18, none), (23, some 0), (37, some 14)] [(0, false), (1, false), (2, false), (3, false), (4, false), (5, false), (6, false), (7, false), (8, false), (9, false), (10, false), (11, false), (12, false), (13, true), (14, true)] (by kernel_rfl) (by kernel_rfl) ?_
  refine GS_ev ok [(4, pb aA)] (pb aA) rfl rfl (fun _ h => h) (fun _ => rfl) ?_
  refine GS_ev ok [(4, pb aA)] (pb aA) rfl rfl (fun _ h => h) (fun _ => rfl) ?_
  refine GS_ev ok [(24, pb aA)] (pb aA) rfl rfl (fun _ h => h) (fun _ => rfl) ?_
  refine GS_ev ok [(25, pb aA)] (.pointer (some ⟨aA, 5, none⟩)) rfl rfl (fun _ h => h) (fun _ => rfl) ?_
  have bK := (c2.ext bJ)
  refine GS_r1 [(26, .pointer (some ⟨aA, 5, none⟩))] (sl aL rows aM) rfl rfl (fun _ h => h) (fun _ w e => ex_ldbox rfl ti_22 ag_22 (fun _ => rfl) rfl e rfl rfl) bK ?_
  refine GS_ev ok [(6, I aP)] (I aP) rfl rfl (fun _ h => h) (fun _ => rfl) ?_
  refine GS_ev ok [(1, pb b)] (.pointer (some ⟨b, 2, none⟩)) rfl rfl (fun _ h => h) (fun _ => rfl) ?_
  have eH := (Df (a7.ext (b3.trans aN)) aK).symm
  refine GS_r1 [(29, .pointer (some ⟨b, 2, none⟩))] (sl aB t.Lo aC) rfl rfl (fun _ h => h) (fun _ w e => ex_ldbox rfl ti_23 ag_23 (fun _ => rfl) rfl e rfl rfl) ((b5.but X59 eH).ext bJ) ?_
  refine GS_ev ok [(5, I aX)] (I aX) rfl rfl (fun _ h => h) (fun _ => rfl) ?_
  obtain ⟨bL, eI, eJ, H⟩ := H
  obtain ⟨c3, gE, eK, eL, eM⟩ := run_indexAt Try.underlying23 ti_22 bB .i64 _ bL eI eJ
  refine GS_r0 [(30, sl aB t.Lo aC), (31, I aX)] (.pointer (some c3)) rfl rfl (fun _ h => h) (fun _ _ => ex_index rfl rfl rfl (eK _)) ?_
  obtain ⟨gF, eN, eO⟩ := run_loadAt ti_22 ag_22 eL eM
  have c4 := eO.slice
  obtain ⟨b8, b9, rfl⟩ := c4.shape
  have eP := (Df (a2.ext (aS.trans aN)) aK).symm
  have c5 := (((a2.ext ((aS.trans aN).trans aT)).but X59 eP).ext bJ)
  refine GS_r1 [(32, .pointer (some c3))] (sl b8 bL b9) rfl rfl (fun _ h => h) (fun _ w e => ex_load rfl rfl (eN w e)) c5 ?_
  obtain ⟨aV, Hd, H⟩ := H
  refine GS_q [(33, sl b8 bL b9)] (I aV) [aO] [sl b8 bL b9] rfl rfl (fun _ h => h) rfl cal_67 (fun _ => rfl) (fun w e => (spec_tSum_w _ _ Hd w c4 e.1).mono (fun _ _ h => by obtain ⟨_, rfl, rfl, x⟩ := h; exact ⟨rfl, x⟩)) ⟨c5, trivial⟩ ?_
  refine GS_ev ok [(28, I aP), (34, I aV)] (I (wr (aP - aV))) rfl rfl (fun _ h => h) (fun _ => rfl) ?_
  refine GS_lp [(35, I (wr (aP - aV)))] rfl rfl (fun _ h => h) rfl fun ρ gG c6 => ?_
  refine LP_lit (α := Int) (g := emp) 0 (vs := [I (wr (aP - aV))]) (xs := [wr (aP - aV)]) rfl rfl rfl Try.underlying22 ti_3 rfl rfl ⟨⟨_, rfl, rfl⟩, trivial⟩ rfl rfl fun gH gI gJ c7 c8 eQ gK => ?_
  obtain ⟨eR, eS, rfl⟩ := c8.shape
  have c9 := (c6.trans c7)
  refine LP_gs ⟨⟨.inl rfl, .inl rfl, .inl rfl, .inr (bK.ext c9), trivial⟩, ?_⟩
  refine GS_lp [(27, sl aL rows aM), (36, .slice eR (List.length ([wr (aP - aV)])) eS)] rfl rfl (fun _ h => h) rfl fun ρ gL cA => ?_
  have cB := (((bJ.trans c6).trans c7).trans cA)
  obtain ⟨hb, H⟩ := H
  refine LP_appendf (α := Int) 0 rfl rfl rfl Try.underlying22 ti_3 rfl rfl rfl bI (b7.ext cB) c8.readf (eQ.ext cA) (by first | omega | (simp only [ln] at *; omega)) (by first | omega | (simp only [ln] at *; omega)) fun dA gM gN dB eT y dm => ?_
  obtain ⟨bD, bE, rfl⟩ := dB.shape
  refine LP_gs ⟨⟨.inl rfl, .inl rfl, .inl rfl, .inl rfl, trivial⟩, ?_⟩
  intro gO cC ρ eU
  refine AP_forget [(1, pb b), (4, pb aA), (16, sl a t.Rows c), (17, I (ln t.Rows)), (18, I aX), (23, pb aA), (37, .slice bD (List.length (rows ++ ([wr (aP - aV)]))) bE)] (by exact eU) fun ρ => ?_
  refine AP_tail 15 [[], [], [1], [1, 2], [1, 2, 3], [], [], [6], [], [6, 7, 8], [6, 7, 8, 9], [6, 7, 8, 9, 10], [5, 6, 7, 8, 9, 10, 11], [5, 6, 7, 8, 9, 10, 11, 12], [1, 2, 3, 4, 5, 6, 7, 8, 9, 10, 11, 12, 13], [0, 1, 2, 3, 4, 5, 6, 7, 8, 9, 10, 11, 12, 13, 14], [0, 1, 2, 3, 4, 5, 6, 7, 8, 9, 10, 11, 12, 13, 14, 15], [0, 1, 2, 3, 4, 5, 6, 7, 8, 9, 10, 11, 12, 13, 14, 15, 16]] (by kernel_rfl) ?_
  refine Lv ok 15 [(38, pb aA), (39, .pointer (some ⟨aA, 5, none⟩))] 17 rfl rfl ?_
  have dC := (c9.trans cA)
  refine Lx 17 (vs := [.slice bD (List.length (rows ++ ([wr (aP - aV)]))) bE]) (cs' := [sl a t.Rows c, sl aD t.Cols aE, sl aB t.Lo aC, sl aF t.Hi aG, sl aI aH aJ, .slice bD (List.length (rows ++ ([wr (aP - aV)]))) bE, .slice none 0 0]) rfl rfl rfl ti_22 rfl rfl rfl rfl rfl (((bK.ext dC).but y d).ext cC) rfl rfl fun gP eV dD => (Ln _ rfl (Wg (Lv ok 0 [(40, I (wr (aX + 1))), (18, I (wr (aX + 1)))] 2 rfl rfl ?_)))
  refine Ln _ rfl ?_
  have dl : DomLe (bx aA 85 [sl a t.Rows c, sl aD t.Cols aE, sl aB t.Lo aC, sl aF t.Hi aG, sl aI aH aJ, .slice none 0 0, .slice none 0 0]) b4.heap.size a8 := (Mt (Oe (Or _) _) a6 (Nat.le_refl _))
  have dE := (bK.ext dC)
  have eW := (Mj dm d dE).symm
  have eX : Dj dA (bx aA 85 [sl a t.Rows c, sl aD t.Cols aE, sl aB t.Lo aC, sl aF t.Hi aG, sl aI aH aJ, .slice bD (List.length (rows ++ ([wr (aP - aV)]))) bE, .slice none 0 0]) := (Db (Mj dm d dE).symm).symm
  exact ⟨(wr (aX + 1), rows ++ ([wr (aP - aV)])), ⟨H.1, _, .slice bD (List.length (rows ++ ([wr (aP - aV)]))) bE, dA, Ee ⟨rfl, rfl, rfl, rfl, rfl, trivial⟩, ((((((Br (bx aA 85 [sl a t.Rows c, sl aD t.Cols aE, sl aB t.Lo aC, sl aF t.Hi aG, sl aI aH aJ, .slice none 0 0, .slice none 0 0]) _).step X59 (Oe (Or _) _)).stepx cB).step y dl).stepx cC).step dD (Md (Or _) Sd)), dB, ((eT.ext cC).but dD eW), (Mt dl dm (Nat.le_trans X59.size cB.size)), eV, eX⟩, H.2⟩
 have H := H.2 hc
 refine W_exit ?_
 refine (if_pos rfl).mpr ?_
 refine Wq (Wq (Wg (Lv ok 0 [(41, .pointer (some ⟨b, 1, none⟩))] 1 rfl rfl ?_)))
 have dF := (a7.ext (b3.trans aN))
 have eY := (Df dF aK).symm
 have dG := (b5.but X59 eY)
 refine Lb 1 (v := sl aD t.Cols aE) rfl rfl rfl ti_22 ag_22 (fun _ => rfl) rfl dG rfl rfl (Lv ok 2 [(43, I (ln t.Cols)), (44, I 0)] 4 rfl rfl (Ln _ rfl (W_block ?_)))
 obtain ⟨J153, eZ, Hx155, H⟩ := H
 refine W_loop (S := Int × (List Int)) (fun s ρ' w' => J153 s.1 s.2 ∧ ∃ (ρ : Env) (bM : Value) (a9 : PH), ρ' = setAll [(1, pb b), (4, pb aA), (42, sl aD t.Cols aE), (43, I (ln t.Cols)), (44, I s.1)] ρ ∧ But (bx aA 85 [sl a t.Rows c, sl aD t.Cols aE, sl aB t.Lo aC, sl aF t.Hi aG, sl aI aH aJ, sl aL rows aM, .slice none 0 0]) b6 w' ∧ OS 3 a9 emp bM s.2 ∧ Sub a9 w' ∧ DomLe (bx aA 85 [sl a t.Rows c, sl aD t.Cols aE, sl aB t.Lo aC, sl aF t.Hi aG, sl aI aH aJ, sl aL rows aM, .slice none 0 0]) b6.heap.size a9 ∧ Sub (bx aA 85 [sl a t.Rows c, sl aD t.Cols aE, sl aB t.Lo aC, sl aF t.Hi aG, sl aI aH aJ, sl aL rows aM, bM]) w' ∧ Dj a9 (bx aA 85 [sl a t.Rows c, sl aD t.Cols aE, sl aB t.Lo aC, sl aF t.Hi aG, sl aI aH aJ, sl aL rows aM, bM])) (fun s => eZ s.1 s.2) (0, []) ⟨Hx155, _, .slice none 0 0, emp, Ee ⟨rfl, rfl, rfl, rfl, rfl, trivial⟩, (Br _ _), OS.nil, (emp_sub _), (fun _ _ _ => rfl), c2, (fun _ => .inl rfl)⟩ ?_
 rintro ⟨aY, cols⟩ _ dH ⟨Hi, ρ, bM, a9, rfl, HF⟩
 revert HF
 refine bb6 fun X152 bN cD a3 bO bP => ?_
 have H := H aY cols Hi
 obtain ⟨a4, a5, rfl⟩ := bN.shape
 refine Wq (Wg (Lv ok 0 [(45, .bool (decide (aY < (ln t.Cols))))] 1 rfl rfl (Ln _ rfl (Wq ?_))))
 refine Wc (decide (aY < (ln t.Cols))) rfl (fun cE => ?_) (fun cE => ?_)
 ·have H := H.1 cE
  refine Wk (Wq (W_block (Wq (Wg (Lv ok 0 [(46, I aY)] 1 rfl rfl ?_)))))
  obtain ⟨aQ, e0, e1, H⟩ := H
  refine Li 1 rfl rfl rfl Try.underlying22 ti_3 rfl rfl b1 e0 e1 fun gQ gR e2 e3 => ?_
  have dI := (bA.ext ((((x.trans a1).trans aZ).trans aS).trans aN))
  have e4 := (Df dI aK).symm
  have e5 : Dj (bx aA 85 [sl a t.Rows c, sl aD t.Cols aE, sl aB t.Lo aC, sl aF t.Hi aG, sl aI aH aJ, sl aL rows aM, .slice none 0 0]) aR := (Db (Df dI aK).symm)
  refine Lo 2 rfl rfl rfl ti_3 ag_3 rfl e2 e3 (((bA.ext (((((x.trans a1).trans aZ).trans aS).trans aN).trans aT)).but X59 e4).but X152 e5) fun gS e6 => ?_
  obtain rfl := e6.int
  refine Lv ok 3 [(7, I aY), (8, I aQ)] 5 rfl rfl (Ln _ rfl ?_)
  refine W_open mix fun gT bQ => ?_
  refine AP_game 14 [[], [], [1], [1, 2], [1, 2, 3], [], [], [6], [], [6, 7, 8], [6, 7, 8, 9], [5, 6, 7, 8, 9, 10], [5, 6, 7, 8, 9, 10, 11], [1, 2, 3, 4, 5, 6, 7, 8, 9, 10, 11, 12], [0, 1, 2, 3, 4, 5, 6, 7, 8, 9, 10, 11, 12, 13], [0, 1, 2, 3, 4, 5, 6, 7, 8, 9, 10, 11, 12, 13, 14], [0, 1, 2, 3, 4, 5, 6, 7, 8, 9, 10, 11, 12, 13, 14, 15]] [[(4, none)], [(4, none)], [(50, some 1)], [(51, some 2)], [(52, some 3)], [(8, none)], [(1, none)], [(55, some 6)], [(7, none)], [(56, some 7), (57, some 8)], [(58, some 9)], [(54, some 5), (59, some 10)], [(60, some 11)], [(53, some 4), (61, some 12)]] [(1, none), (4, none), (42, none), (43, none), (44, none), (49, some 0), (62, some 13)] [(0, false), (1, false), (2, false), (3, false), (4, false), (5, false), (6, false), (7, false), (8, false), (9, true), (10, false), (11, false), (12, true), (13, true)] (by kernel_rfl) (by kernel_rfl) ?_
  refine GS_ev ok [(4, pb aA)] (pb aA) rfl rfl (fun _ h => h) (fun _ => rfl) ?_
  refine GS_ev ok [(4, pb aA)] (pb aA) rfl rfl (fun _ h => h) (fun _ => rfl) ?_
  refine GS_ev ok [(50, pb aA)] (pb aA) rfl rfl (fun _ h => h) (fun _ => rfl) ?_
  refine GS_ev ok [(51, pb aA)] (.pointer (some ⟨aA, 6, none⟩)) rfl rfl (fun _ h => h) (fun _ => rfl) ?_
  have bR := (bO.ext bQ)
  refine GS_r1 [(52, .pointer (some ⟨aA, 6, none⟩))] (sl a4 cols a5) rfl rfl (fun _ h => h) (fun _ w e => ex_ldbox rfl ti_22 ag_22 (fun _ => rfl) rfl e rfl rfl) bR ?_
  refine GS_ev ok [(8, I aQ)] (I aQ) rfl rfl (fun _ h => h) (fun _ => rfl) ?_
  refine GS_ev ok [(1, pb b)] (.pointer (some ⟨b, 2, none⟩)) rfl rfl (fun _ h => h) (fun _ => rfl) ?_
  have e7 : Dj (bx aA 85 [sl a t.Rows c, sl aD t.Cols aE, sl aB t.Lo aC, sl aF t.Hi aG, sl aI aH aJ, sl aL rows aM, .slice none 0 0]) (bx b 29 [sl a t.Rows c, sl aD t.Cols aE, sl aB t.Lo aC, sl aF t.Hi aG]) := (Db (Df dF aK).symm)
  refine GS_r1 [(55, .pointer (some ⟨b, 2, none⟩))] (sl aB t.Lo aC) rfl rfl (fun _ h => h) (fun _ w e => ex_ldbox rfl ti_23 ag_23 (fun _ => rfl) rfl e rfl rfl) ((dG.but X152 e7).ext bQ) ?_
  refine GS_ev ok [(7, I aY)] (I aY) rfl rfl (fun _ h => h) (fun _ => rfl) ?_
  refine GS_lp [(56, sl aB t.Lo aC), (57, I aY)] rfl rfl (fun _ h => h) rfl fun ρ e8 bS => ?_
  have dJ := (a2.ext (aS.trans aN))
  have e9 := (Df dJ aK).symm
  have fA : Dj (bx aA 85 [sl a t.Rows c, sl aD t.Cols aE, sl aB t.Lo aC, sl aF t.Hi aG, sl aI aH aJ, sl aL rows aM, .slice none 0 0]) aO := (Db (Df dJ aK).symm)
  refine Lc 0 rfl rfl rfl cal_75 rfl (spec_tColumn_w _ _ _ H e8 bB ((((a2.ext ((aS.trans aN).trans aT)).but X59 e9).but X152 fA).ext (bQ.trans bS))) ?_
  rintro _ gU ⟨dK, gV, fB, H, rfl, cF, dL, fC, gW⟩
  obtain ⟨dM, dN, rfl⟩ := dL.shape
  have dO := (bR.ext (bS.trans cF))
  refine LP_gs ⟨⟨.inl rfl, .inr dO, trivial⟩, ?_⟩
  obtain ⟨aW, Hd200, H⟩ := H
  refine GS_q [(58, sl dM dK dN)] (I aW) [fB] [sl dM dK dN] rfl rfl (fun _ h => h) rfl cal_67 (fun _ => rfl) (fun w e => (spec_tSum_w _ _ Hd200 w dL.readf e.1).mono (fun _ _ h => by obtain ⟨_, rfl, rfl, x⟩ := h; exact ⟨rfl, x⟩)) ⟨fC, trivial⟩ ?_
  refine GS_ev ok [(54, I aQ), (59, I aW)] (I (wr (aQ - aW))) rfl rfl (fun _ h => h) (fun _ => rfl) ?_
  refine GS_lp [(60, I (wr (aQ - aW)))] rfl rfl (fun _ h => h) rfl fun ρ gX cG => ?_
  refine LP_lit (α := Int) (g := emp) 0 (vs := [I (wr (aQ - aW))]) (xs := [wr (aQ - aW)]) rfl rfl rfl Try.underlying22 ti_3 rfl rfl ⟨⟨_, rfl, rfl⟩, trivial⟩ rfl rfl fun gY gZ g0 cH dP fD g1 => ?_
  obtain ⟨fE, fF, rfl⟩ := dP.shape
  refine LP_gs ⟨⟨.inl rfl, .inl rfl, .inr (dO.ext (cG.trans cH)), trivial⟩, ?_⟩
  refine GS_lp [(53, sl a4 cols a5), (61, .slice fE (List.length ([wr (aQ - aW)])) fF)] rfl rfl (fun _ h => h) rfl fun ρ g2 cI => ?_
  have cJ := (((((bQ.trans bS).trans cF).trans cG).trans cH).trans cI)
  obtain ⟨g3, H⟩ := H
  refine LP_appendf (α := Int) 0 rfl rfl rfl Try.underlying22 ti_3 rfl rfl rfl bN (cD.ext cJ) dP.readf (fD.ext cI) (by first | omega | (simp only [ln] at *; omega)) (by first | omega | (simp only [ln] at *; omega)) fun dQ g4 g5 dR fG dS cK => ?_
  obtain ⟨bF, bG, rfl⟩ := dR.shape
  refine LP_gs ⟨⟨.inl rfl, .inl rfl, .inl rfl, trivial⟩, ?_⟩
  intro g6 cL ρ fH
  refine AP_forget [(1, pb b), (4, pb aA), (42, sl aD t.Cols aE), (43, I (ln t.Cols)), (44, I aY), (49, pb aA), (62, .slice bF (List.length (cols ++ ([wr (aQ - aW)]))) bG)] (by exact fH) fun ρ => ?_
  refine AP_tail 14 [[], [], [1], [1, 2], [1, 2, 3], [], [], [6], [], [6, 7, 8], [6, 7, 8, 9], [5, 6, 7, 8, 9, 10], [5, 6, 7, 8, 9, 10, 11], [1, 2, 3, 4, 5, 6, 7, 8, 9, 10, 11, 12], [0, 1, 2, 3, 4, 5, 6, 7, 8, 9, 10, 11, 12, 13], [0, 1, 2, 3, 4, 5, 6, 7, 8, 9, 10, 11, 12, 13, 14], [0, 1, 2, 3, 4, 5, 6, 7, 8, 9, 10, 11, 12, 13, 14, 15]] (by kernel_rfl) ?_
  refine Lv ok 14 [(63, pb aA), (64, .pointer (some ⟨aA, 6, none⟩))] 16 rfl rfl ?_
  have dT := ((((bS.trans cF).trans cG).trans cH).trans cI)
  refine Lx 16 (vs := [.slice bF (List.length (cols ++ ([wr (aQ - aW)]))) bG]) (cs' := [sl a t.Rows c, sl aD t.Cols aE, sl aB t.Lo aC, sl aF t.Hi aG, sl aI aH aJ, sl aL rows aM, .slice bF (List.length (cols ++ ([wr (aQ - aW)]))) bG]) rfl rfl rfl ti_22 rfl rfl rfl rfl rfl (((bR.ext dT).but dS bP).ext cL) rfl rfl fun g7 fI dU => (Ln _ rfl (Wg ?_))
  refine Lv ok 0 [(65, I (wr (aY + 1))), (44, I (wr (aY + 1)))] 2 rfl rfl (Ln _ rfl ?_)
  have dV : DomLe (bx aA 85 [sl a t.Rows c, sl aD t.Cols aE, sl aB t.Lo aC, sl aF t.Hi aG, sl aI aH aJ, sl aL rows aM, .slice none 0 0]) b6.heap.size a9 := (Mt (Oe (Or _) _) a3 (Nat.le_refl _))
  have dW := (bR.ext dT)
  have fJ := (Mj cK bP dW).symm
  have fK : Dj dQ (bx aA 85 [sl a t.Rows c, sl aD t.Cols aE, sl aB t.Lo aC, sl aF t.Hi aG, sl aI aH aJ, sl aL rows aM, .slice bF (List.length (cols ++ ([wr (aQ - aW)]))) bG]) := (Db (Mj cK bP dW).symm).symm
  exact ⟨(wr (aY + 1), cols ++ ([wr (aQ - aW)])), ⟨H.1, _, .slice bF (List.length (cols ++ ([wr (aQ - aW)]))) bG, dQ, Ee ⟨rfl, rfl, rfl, rfl, rfl, trivial⟩, ((((((Br (bx aA 85 [sl a t.Rows c, sl aD t.Cols aE, sl aB t.Lo aC, sl aF t.Hi aG, sl aI aH aJ, sl aL rows aM, .slice none 0 0]) _).step X152 (Oe (Or _) _)).stepx cJ).step dS dV).stepx cL).step dU (Md (Or _) Sd)), dR, ((fG.ext cL).but dU fJ), (Mt dV cK (Nat.le_trans X152.size cJ.size)), fI, fK⟩, H.2⟩
 have H := H.2 cE
 refine W_exit ?_
 refine (if_pos rfl).mpr ?_
 have bT := (((((x.trans a1).trans aZ).trans aS).trans aN).trans aT)
 have bU := ((((x.trans a1).trans aZ).trans aS).trans aN)
 have X248 := (X.stepx bU)
 have cM := aK.mono X248.size
 have cN := aK.mono X248.size
 have bV := (ex.ext bU)
 have cO := (Df bV aK).symm
 have dX : Dj (bx aA 85 [sl a t.Rows c, sl aD t.Cols aE, sl aB t.Lo aC, sl aF t.Hi aG, sl aI aH aJ, sl aL rows aM, .slice none 0 0]) hx := (Db (Df bV aK).symm)
 have bW := (bA.ext bU)
 have cP := (Df bW aK).symm
 have dY : Dj (bx aA 85 [sl a t.Rows c, sl aD t.Cols aE, sl aB t.Lo aC, sl aF t.Hi aG, sl aI aH aJ, sl aL rows aM, .slice none 0 0]) aR := (Db (Df bW aK).symm)
 have bX := (a2.ext (aS.trans aN))
 have cQ := (Df bX aK).symm
 have dZ : Dj (bx aA 85 [sl a t.Rows c, sl aD t.Cols aE, sl aB t.Lo aC, sl aF t.Hi aG, sl aI aH aJ, sl aL rows aM, .slice none 0 0]) aO := (Db (Df bX aK).symm)
 have bY := (b2.ext bU)
 have cR := (Df bY aK).symm
 have d0 : Dj (bx aA 85 [sl a t.Rows c, sl aD t.Cols aE, sl aB t.Lo aC, sl aF t.Hi aG, sl aI aH aJ, sl aL rows aM, .slice none 0 0]) aU := (Db (Df bY aK).symm)
 have bZ := (c1.ext aN)
 have cS := (Df bZ aK).symm
 have d1 : Dj (bx aA 85 [sl a t.Rows c, sl aD t.Cols aE, sl aB t.Lo aC, sl aF t.Hi aG, sl aI aH aJ, sl aL rows aM, .slice none 0 0]) c0 := (Db (Df bZ aK).symm)
 have fL := bC.mono (X.stepx xc).size
 have d2 := (b7.but X152 d.symm)
 have X278 := (X248.stepx aT)
 have fM := DomLe.fresh a6 cM X278.size
 have fN := DomLe.fresh a3 (Fresh.box cN) (X278.step X59 (cM.dom _)).size
 obtain ⟨k, hk, H⟩ := jn_elim H
 refine W_join2 (S := Bool) (fun s ρ' w' => k s ∧ ∃ (ρ : Env), ρ' = setAll [(2, pb aA), (3, .bool s)] ρ ∧ Ext dH w') ?_ ?_
 ·refine Wg (Lv ok 0 [(66, pb aA), (67, pb aA), (68, pb aA), (69, .pointer (some ⟨aA, 5, none⟩))] 4 rfl rfl (Lb 4 (v := sl aL rows aM) rfl rfl rfl ti_22 ag_22 (fun _ => rfl) rfl bO rfl rfl (Lc 5 rfl rfl rfl cal_68 rfl (spec_l1All_w _ _ _ _ H dH bI.readf d2) ?_)))
  rintro _ fO ⟨d3, H, rfl, b0⟩
  refine Lv ok 6 [(72, .bool d3)] 7 rfl rfl ?_
  refine LP_split 72 (d3) rfl (fun cT => ?_) (fun cT => ?_)
  ·have H := H.1 cT
   refine Lv ok 7 [(73, pb aA), (74, pb aA), (75, .pointer (some ⟨aA, 6, none⟩))] 10 rfl rfl (Lb 10 (v := sl a4 cols a5) rfl rfl rfl ti_22 ag_22 (fun _ => rfl) rfl (bO.ext b0) rfl rfl (Lc 11 rfl rfl rfl cal_68 rfl (spec_l1All_w _ _ _ _ H fO bN.readf (cD.ext b0)) ?_))
   rintro _ g8 ⟨cU, H, rfl, fP⟩
   refine Lv ok 12 [(78, .bool cU), (2, pb aA), (3, .bool cU)] 15 rfl rfl ?_
   exact Ln _ rfl ⟨cU, H, _, Ee ⟨rfl, rfl, trivial⟩, (b0.trans fP)⟩
  have H := H.2 cT
  refine Lv ok 7 [(73, undef), (74, undef), (75, undef), (76, undef), (77, undef), (78, .bool false), (2, pb aA), (3, .bool false)] 15 rfl rfl ?_
  exact Ln _ rfl ⟨false, H, _, Ee ⟨rfl, rfl, trivial⟩, b0⟩
 rintro fQ _ g9 ⟨H, ρ, rfl, X283⟩
 subst hk
 refine W_ret ?_
 have d4 := (bV.ext aT)
 have fR := (Mj a6 cO d4).symm
 have fS := (Mj a3 dX (d4.but X59 cO)).symm
 have fT : Dj hx (bx aA 85 [sl a t.Rows c, sl aD t.Cols aE, sl aB t.Lo aC, sl aF t.Hi aG, sl aI aH aJ, sl aL rows aM, sl a4 cols a5]) := (Db (Df bV aK).symm).symm
 have d5 := (bW.ext aT)
 have fU := (Mj a6 cP d5).symm
 have fV := (Mj a3 dY (d5.but X59 cP)).symm
 have fW : Dj aR (bx aA 85 [sl a t.Rows c, sl aD t.Cols aE, sl aB t.Lo aC, sl aF t.Hi aG, sl aI aH aJ, sl aL rows aM, sl a4 cols a5]) := (Db (Df bW aK).symm).symm
 have d6 := (bX.ext aT)
 have fX := (Mj a6 cQ d6).symm
 have fY := (Mj a3 dZ (d6.but X59 cQ)).symm
 have fZ : Dj aO (bx aA 85 [sl a t.Rows c, sl aD t.Cols aE, sl aB t.Lo aC, sl aF t.Hi aG, sl aI aH aJ, sl aL rows aM, sl a4 cols a5]) := (Db (Df bX aK).symm).symm
 have d7 := (bY.ext aT)
 have f0 := (Mj a6 cR d7).symm
 have f1 := (Mj a3 d0 (d7.but X59 cR)).symm
 have f2 : Dj aU (bx aA 85 [sl a t.Rows c, sl aD t.Cols aE, sl aB t.Lo aC, sl aF t.Hi aG, sl aI aH aJ, sl aL rows aM, sl a4 cols a5]) := (Db (Df bY aK).symm).symm
 have d8 := (bZ.ext aT)
 have f3 := (Mj a6 cS d8).symm
 have f4 := (Mj a3 d1 (d8.but X59 cS)).symm
 have f5 : Dj c0 (bx aA 85 [sl a t.Rows c, sl aD t.Cols aE, sl aB t.Lo aC, sl aF t.Hi aG, sl aI aH aJ, sl aL rows aM, sl a4 cols a5]) := (Db (Df bZ aK).symm).symm
 have f6 := (Mj a3 d.symm b7).symm
 exact ⟨_, Ret_of [pb aA, .bool fQ] ⟨⟨rfl, rfl⟩, ⟨rfl, rfl⟩, trivial⟩, _, _, _, _, _, _, _, _, _, _, _, _, _, _, _, _, _, H, rfl, ((((X.stepx bT).step X59 (cM.dom _)).step X152 ((Fresh.box cN).dom _)).stepx X283).ext, r, ((((ex.ext bT).but X59 cO).but X152 dX).ext X283), (Oe D _), b1, ((((bA.ext bT).but X59 cP).but X152 dY).ext X283), (Oe D19 _), bB, ((((a2.ext ((aS.trans aN).trans aT)).but X59 cQ).but X152 dZ).ext X283), (Oe D20 _), cY, ((((b2.ext bT).but X59 cR).but X152 d0).ext X283), (Oe D21 _), o, ((((c1.ext (aN.trans aT)).but X59 cS).but X152 d1).ext X283), fL, bI, (d2.ext X283), fM, bN, (cD.ext X283), fN, (bO.ext X283), (Fresh.box cN), (Df (ex.ext xc) bC), fR, fS, fT, (Df (bA.ext xc) bC), fU, fV, fW, (Df a2 bC), fX, fY, fZ, (Df (b2.ext xc) bC), f0, f1, f2, f3, f4, f5, f6, (Db d.symm).symm, bP⟩

theorem spec_tFill_room_w (f : TFill) (aA : Int) (k : Int) (Q : Int → Prop) (H : spec_tFill_room f aA k Q) (w : World) {vx : Value} {hx : PH} (r : RS hx vx f.T.Rows) (ex : Sub hx w) {aL : Value} {aM : PH} (a8 : RS aM aL f.T.Cols) (cP : Sub aM w) {aN : Value} {aO : PH} (aP : RS aO aN f.T.Lo) (aQ : Sub aO w) {aR : Value} {aS : PH} (aT : RS aS aR f.T.Hi) (aU : Sub aS w) {aV : Value} {aW : PH} (aH : RS aW aV f.X) (aC : Sub aW w) {aX : Value} {aY : PH} (a9 : RS aY aX f.Rows) (cQ : Sub aY w) {aZ : Value} {a0 : PH} (bA : RS a0 aZ f.Cols) (cR : Sub a0 w) {b : Nat} (aB : Sub (bx b 85 [vx, aL, aN, aR, aV, aX, aZ]) w) :
  CallsTo Try.prog 105 #[pb b, I aA, I k] w fun v w' => ∃ a1, Q a1 ∧ v = I a1 ∧ Ext w w' := by
 obtain ⟨a, c, rfl⟩ := r.shape
 obtain ⟨cS, cT, rfl⟩ := a8.shape
 obtain ⟨bB, bC, rfl⟩ := aP.shape
 obtain ⟨bD, bE, rfl⟩ := aT.shape
 obtain ⟨a2, a3, rfl⟩ := aH.shape
 obtain ⟨bF, bG, rfl⟩ := a9.shape
 obtain ⟨cU, cV, rfl⟩ := bA.shape
 refine enter (args := [pb b, I aA, I k]) 83 Try.func105 rfl rfl rfl ?_
 refine Wo [(0, pb b), (1, I aA), (2, I k)] ⟨rfl, rfl, rfl, trivial⟩ fun ρ => ?_
 have X := Br emp w
 refine Wq (Wg (Lv ok 0 [(6, I 0)] 1 rfl rfl (Ln _ rfl (Wq (Wg (Lv ok 0 [(8, pb b), (9, pb b), (10, .pointer (some ⟨b, 5, none⟩))] 3 rfl rfl (Lb 3 (v := sl bF f.Rows bG) rfl rfl rfl ti_22 ag_22 (fun _ => rfl) rfl aB rfl rfl (Lv ok 4 [(12, I (ln f.Rows)), (7, I (ln f.Rows))] 6 rfl rfl (Ln _ rfl (Wq ?_))))))))))
 refine W_block ?_
 obtain ⟨bH, hk, H⟩ := jn_elim H
 refine W_join2 (S := Bool) (fun s ρ' w' => bH s ∧ ∃ (ρ : Env), ρ' = setAll [(0, pb b), (1, I aA), (2, I k), (7, I (ln f.Rows)), (13, .bool s)] ρ ∧ w = w') ?_ ?_
 ·refine Wg (Lv ok 0 [(14, I aA), (15, I (ln f.Rows)), (16, .bool (decide (aA < (ln f.Rows)))), (17, .bool (decide (aA < (ln f.Rows))))] 4 rfl rfl ?_)
  refine LP_split 17 (decide (aA < (ln f.Rows))) rfl (fun hc => ?_) (fun hc => ?_)
  ·have H := H.1 hc
   refine Lv ok 4 [(18, I k), (19, I (ln f.Rows)), (20, .bool (decide (k ≥ (ln f.Rows)))), (21, .bool (decide (k ≥ (ln f.Rows)))), (13, .bool (decide (k ≥ (ln f.Rows))))] 9 rfl rfl ?_
   exact Ln _ rfl ⟨decide (k ≥ (ln f.Rows)), H, _, Ee ⟨rfl, rfl, rfl, rfl, rfl, trivial⟩, rfl⟩
  have H := H.2 hc
  refine Lv ok 4 [(18, undef), (19, undef), (20, undef), (21, .bool false), (13, .bool false)] 9 rfl rfl ?_
  exact Ln _ rfl ⟨false, H, _, Ee ⟨rfl, rfl, rfl, rfl, rfl, trivial⟩, rfl⟩
 rintro x _ _ ⟨H, ρ, rfl, rfl⟩
 subst hk
 refine Wc (x) rfl (fun aI => ?_) (fun aI => ?_)
 ·have H := H.1 aI
  refine Wq ?_
  refine W_quiet mix (by kernel_rfl) ?_
  refine QP_ev ok 0 [(22, pb b), (23, pb b), (24, pb b), (25, .pointer (some ⟨b, 3, none⟩))] 4 rfl rfl ?_
  refine QP_ldbox 4 (v := sl bD f.T.Hi bE) rfl rfl rfl ti_23 ag_23 (fun _ => rfl) rfl aB rfl rfl ?_
  refine QP_ev ok 5 [(27, I aA)] 6 rfl rfl ?_
  obtain ⟨cW, hi, bI, H⟩ := H
  refine QP_index 6 rfl rfl rfl Try.underlying23 ti_22 rfl rfl aT hi bI fun cX cs bJ d => ?_
  refine QP_load 7 rfl rfl rfl ti_22 ag_22 rfl bJ d aU fun cY bK => ?_
  have a4 := bK.slice
  obtain ⟨cZ, c0, rfl⟩ := a4.shape
  refine QP_ev ok 8 [(30, I k), (31, I (ln f.Rows)), (32, I (wr (k - (ln f.Rows))))] 11 rfl rfl ?_
  obtain ⟨aD, bL, bM, H⟩ := H
  refine QP_index 11 rfl rfl rfl Try.underlying22 ti_3 rfl rfl a4 bL bM fun c1 c2 bN bO => ?_
  refine QP_load 12 rfl rfl rfl ti_3 ag_3 rfl bN bO aU fun c3 bP => ?_
  obtain rfl := bP.int
  refine QP_ev ok 13 [(35, pb b), (36, pb b), (37, .pointer (some ⟨b, 4, none⟩))] 16 rfl rfl ?_
  refine QP_ldbox 16 (v := sl a2 f.X a3) rfl rfl rfl ti_23 ag_23 (fun _ => rfl) rfl aB rfl rfl ?_
  refine QP_ev ok 17 [(39, I aA)] 18 rfl rfl ?_
  obtain ⟨c4, bQ, bR, H⟩ := H
  refine QP_index 18 rfl rfl rfl Try.underlying23 ti_22 rfl rfl aH bQ bR fun c5 c6 bS bT => ?_
  refine QP_load 19 rfl rfl rfl ti_22 ag_22 rfl bS bT aC fun c7 bU => ?_
  have a5 := bU.slice
  obtain ⟨c8, c9, rfl⟩ := a5.shape
  refine QP_ev ok 20 [(42, I k), (43, I (ln f.Rows)), (44, I (wr (k - (ln f.Rows))))] 23 rfl rfl ?_
  obtain ⟨aE, bV, bW, H⟩ := H
  refine QP_index 23 rfl rfl rfl Try.underlying22 ti_3 rfl rfl a5 bV bW fun dA dB bX bY => ?_
  refine QP_load 24 rfl rfl rfl ti_3 ag_3 rfl bX bY aC fun dC bZ => ?_
  obtain rfl := bZ.int
  refine QP_ev ok 25 [(47, I (wr (aD - aE))), (6, I (wr (aD - aE)))] 27 rfl rfl ?_
  refine QP_end _ rfl fun dD b0 => ?_
  try refine Wo [(6, I (wr (aD - aE)))] ⟨rfl, trivial⟩ fun ρ => ?_
  refine W_ret ?_
  exact ⟨_, Ret_of [I (wr (aD - aE))] ⟨⟨rfl, rfl⟩, trivial⟩, _, H, rfl, (X.stepx b0).ext⟩
 have H := H.2 aI
 obtain ⟨b1, b2, H⟩ := jn_elim H
 refine W_join2 (S := Bool) (fun s ρ' w' => b1 s ∧ ∃ (ρ : Env), ρ' = setAll [(0, pb b), (1, I aA), (2, I k), (7, I (ln f.Rows)), (48, .bool s)] ρ ∧ w = w') ?_ ?_
 ·refine Wg (Lv ok 0 [(49, I aA), (50, I (ln f.Rows)), (51, .bool (decide (aA ≥ (ln f.Rows)))), (52, .bool (decide (aA ≥ (ln f.Rows))))] 4 rfl rfl ?_)
  refine LP_split 52 (decide (aA ≥ (ln f.Rows))) rfl (fun aJ => ?_) (fun aJ => ?_)
  ·have H := H.1 aJ
   refine Lv ok 4 [(53, I k), (54, I (ln f.Rows)), (55, .bool (decide (k < (ln f.Rows)))), (56, .bool (decide (k < (ln f.Rows)))), (48, .bool (decide (k < (ln f.Rows))))] 9 rfl rfl ?_
   exact Ln _ rfl ⟨decide (k < (ln f.Rows)), H, _, Ee ⟨rfl, rfl, rfl, rfl, rfl, trivial⟩, rfl⟩
  have H := H.2 aJ
  refine Lv ok 4 [(53, undef), (54, undef), (55, undef), (56, .bool false), (48, .bool false)] 9 rfl rfl ?_
  exact Ln _ rfl ⟨false, H, _, Ee ⟨rfl, rfl, rfl, rfl, rfl, trivial⟩, rfl⟩
 rintro b3 _ _ ⟨H, ρ, rfl, rfl⟩
 subst b2
 refine Wc (b3) rfl (fun aK => ?_) (fun aK => ?_)
 ·have H := H.1 aK
  refine Wq ?_
  refine W_quiet mix (by kernel_rfl) ?_
  refine QP_ev ok 0 [(57, pb b), (58, pb b), (59, .pointer (some ⟨b, 4, none⟩))] 3 rfl rfl ?_
  refine QP_ldbox 3 (v := sl a2 f.X a3) rfl rfl rfl ti_23 ag_23 (fun _ => rfl) rfl aB rfl rfl ?_
  refine QP_ev ok 4 [(61, I k)] 5 rfl rfl ?_
  obtain ⟨dE, b4, b5, H⟩ := H
  refine QP_index 5 rfl rfl rfl Try.underlying23 ti_22 rfl rfl aH b4 b5 fun dF dG b6 b7 => ?_
  refine QP_load 6 rfl rfl rfl ti_22 ag_22 rfl b6 b7 aC fun dH b8 => ?_
  have a6 := b8.slice
  obtain ⟨dI, dJ, rfl⟩ := a6.shape
  refine QP_ev ok 7 [(64, I aA), (65, I (ln f.Rows)), (66, I (wr (aA - (ln f.Rows))))] 10 rfl rfl ?_
  obtain ⟨aF, b9, cA, H⟩ := H
  refine QP_index 10 rfl rfl rfl Try.underlying22 ti_3 rfl rfl a6 b9 cA fun dK dL cB cC => ?_
  refine QP_load 11 rfl rfl rfl ti_3 ag_3 rfl cB cC aC fun dM cD => ?_
  obtain rfl := cD.int
  refine QP_ev ok 12 [(69, pb b), (70, pb b), (71, pb b), (72, .pointer (some ⟨b, 2, none⟩))] 16 rfl rfl ?_
  refine QP_ldbox 16 (v := sl bB f.T.Lo bC) rfl rfl rfl ti_23 ag_23 (fun _ => rfl) rfl aB rfl rfl ?_
  refine QP_ev ok 17 [(74, I k)] 18 rfl rfl ?_
  obtain ⟨dN, cE, cF, H⟩ := H
  refine QP_index 18 rfl rfl rfl Try.underlying23 ti_22 rfl rfl aP cE cF fun dO dP cG cH => ?_
  refine QP_load 19 rfl rfl rfl ti_22 ag_22 rfl cG cH aQ fun dQ cI => ?_
  have a7 := cI.slice
  obtain ⟨dR, dS, rfl⟩ := a7.shape
  refine QP_ev ok 20 [(77, I aA), (78, I (ln f.Rows)), (79, I (wr (aA - (ln f.Rows))))] 23 rfl rfl ?_
  obtain ⟨aG, cJ, cK, H⟩ := H
  refine QP_index 23 rfl rfl rfl Try.underlying22 ti_3 rfl rfl a7 cJ cK fun dT dU cL cM => ?_
  refine QP_load 24 rfl rfl rfl ti_3 ag_3 rfl cL cM aQ fun dV cN => ?_
  obtain rfl := cN.int
  refine QP_ev ok 25 [(82, I (wr (aF - aG))), (6, I (wr (aF - aG)))] 27 rfl rfl ?_
  refine QP_end _ rfl fun dW cO => ?_
  try refine Wo [(6, I (wr (aF - aG)))] ⟨rfl, trivial⟩ fun ρ => ?_
  refine W_ret ?_
  exact ⟨_, Ret_of [I (wr (aF - aG))] ⟨⟨rfl, rfl⟩, trivial⟩, _, H, rfl, (X.stepx cO).ext⟩
 have H := H.2 aK
 refine Wk (Wq (Wg (Lv ok 0 [(6, I 0)] 1 rfl rfl (Ln _ rfl (W_ret ?_)))))
 exact ⟨_, Ret_of [I 0] ⟨⟨rfl, rfl⟩, trivial⟩, _, H, rfl, X.ext⟩

theorem spec_l1Least_w (a : Int) (b : Int) (Q : Int → Prop) (H : spec_l1Least a b Q) (w : World)  :
  CallsTo Try.prog 106 #[I a, I b] w fun v w' => ∃ aA, Q aA ∧ v = I aA ∧ Ext w w' := by
 refine enter (args := [I a, I b]) 10 Try.func106 rfl rfl rfl ?_
 refine Wo [(0, I a), (1, I b)] ⟨rfl, rfl, trivial⟩ fun ρ => ?_
 have X := Br emp w
 refine Wq (Wg (Lv ok 0 [(4, I 0)] 1 rfl rfl (Ln _ rfl (Wq (Wq (Wg (Lv ok 0 [(5, I a), (6, I b), (7, .bool (decide (a < b)))] 3 rfl rfl (Ln _ rfl ?_))))))))
 refine Wc (decide (a < b)) rfl (fun hc => ?_) (fun hc => ?_)
 ·have H := H.1 hc
  refine Wq (Wg (Lv ok 0 [(8, I a), (4, I a)] 2 rfl rfl (Ln _ rfl (W_ret ?_))))
  exact ⟨_, Ret_of [I a] ⟨⟨rfl, rfl⟩, trivial⟩, _, H, rfl, X.ext⟩
 have H := H.2 hc
 refine Wk (Wq (Wg (Lv ok 0 [(9, I b), (4, I b)] 2 rfl rfl (Ln _ rfl (W_ret ?_)))))
 exact ⟨_, Ret_of [I b] ⟨⟨rfl, rfl⟩, trivial⟩, _, H, rfl, X.ext⟩

theorem spec_tFill_push_w (f : TFill) (fromx : List Int) (endx : Int) (Q : (List (List Int)) → (List Int) → (List Int) → Prop) (H : spec_tFill_push f fromx endx Q) (w : World) {vx : Value} {hx : PH} (r : RS hx vx f.T.Rows) (ex : Sub hx w) {aD : Value} {a6 : PH} (cJ : RS a6 aD f.T.Cols) (dU : Sub a6 w) {aE : Value} {a7 : PH} (cK : RS a7 aE f.T.Lo) (dV : Sub a7 w) {aF : Value} {a8 : PH} (cL : RS a8 aF f.T.Hi) (dW : Sub a8 w) {aO : Value} {aB : PH} (b3 : OD aB aO f.X) (cM : Sub aB w) {aP : Value} {aK : PH} (bD : OS 3 aK emp aP f.Rows) (cN : Sub aK w) {aQ : Value} {aL : PH} (bE : OS 3 aL emp aQ f.Cols) (bU : Sub aL w) {b : Nat} (bV : Sub (bx b 85 [vx, aD, aE, aF, aO, aP, aQ]) w) {cO : Value} {a0 : PH} (aZ : RS a0 cO fromx) (dX : Sub a0 w) (d : Dj aB aK) (dY : Dj aB aL) (dZ : Dj aB (bx b 85 [vx, aD, aE, aF, aO, aP, aQ])) (cP : Dj aK aL) (b4 : Dj aK (bx b 85 [vx, aD, aE, aF, aO, aP, aQ])) (b5 : Dj aL (bx b 85 [vx, aD, aE, aF, aO, aP, aQ])) (hJ : Dj aB hx) (hK : Dj aB a6) (hL : Dj aB a7) (hN : Dj aB a8) (d0 : Dj aB a0) (hO : Dj aK hx) (hP : Dj aK a6) (hQ : Dj aK a7) (hR : Dj aK a8) (hS : Dj aK a0) (hT : Dj aL hx) (hV : Dj aL a6) (hW : Dj aL a7) (hX : Dj aL a8) (hY : Dj aL a0) (hZ : Dj (bx b 85 [vx, aD, aE, aF, aO, aP, aQ]) hx) (h0 : Dj (bx b 85 [vx, aD, aE, aF, aO, aP, aQ]) a6) (h1 : Dj (bx b 85 [vx, aD, aE, aF, aO, aP, aQ]) a7) (h2 : Dj (bx b 85 [vx, aD, aE, aF, aO, aP, aQ]) a8) (cQ : Dj (bx b 85 [vx, aD, aE, aF, aO, aP, aQ]) a0) :
  CallsTo Try.prog 104 #[pb b, cO, I endx] w fun v w' => ∃ cR cS cT v1_ a9 v2_ bA v3_ bB, Q cR cS cT ∧ v = .tuple #[] ∧ But (un aB (un aK (un aL (bx b 85 [vx, aD, aE, aF, aO, aP, aQ])))) w w' ∧ OD a9 v1_ cR ∧ Sub a9 w' ∧ DomLe (un aB (un aK (un aL (bx b 85 [vx, aD, aE, aF, aO, aP, aQ])))) w.heap.size a9 ∧ OS 3 bA emp v2_ cS ∧ Sub bA w' ∧ DomLe (un aB (un aK (un aL (bx b 85 [vx, aD, aE, aF, aO, aP, aQ])))) w.heap.size bA ∧ OS 3 bB emp v3_ cT ∧ Sub bB w' ∧ DomLe (un aB (un aK (un aL (bx b 85 [vx, aD, aE, aF, aO, aP, aQ])))) w.heap.size bB ∧ Sub (bx b 85 [vx, aD, aE, aF, v1_, v2_, v3_]) w' ∧ Dj a9 bA ∧ Dj a9 bB ∧ Dj a9 (bx b 85 [vx, aD, aE, aF, v1_, v2_, v3_]) ∧ Dj bA bB ∧ Dj bA (bx b 85 [vx, aD, aE, aF, v1_, v2_, v3_]) ∧ Dj bB (bx b 85 [vx, aD, aE, aF, v1_, v2_, v3_]) := by
 obtain ⟨a, c, rfl⟩ := r.shape
 obtain ⟨aT, aU, rfl⟩ := cJ.shape
 obtain ⟨aV, aW, rfl⟩ := cK.shape
 obtain ⟨aX, aY, rfl⟩ := cL.shape
 obtain ⟨aI, aJ, rfl⟩ := b3.shape
 obtain ⟨aM, aN, rfl⟩ := bD.shape
 obtain ⟨aR, aS, rfl⟩ := bE.shape
 obtain ⟨aG, aH, rfl⟩ := aZ.shape
 refine enter (args := [pb b, sl aG fromx aH, I endx]) 123 Try.func104 rfl rfl rfl ?_
 refine Wo [(0, pb b), (1, sl aG fromx aH), (2, I endx)] ⟨rfl, rfl, rfl, trivial⟩ fun ρ => ?_
 obtain ⟨M, hM⟩ : ∃ M : PH, M = (un aB (un aK (un aL (bx b 85 [sl a f.T.Rows c, sl aT f.T.Cols aU, sl aV f.T.Lo aW, sl aX f.T.Hi aY, sl aI f.X aJ, sl aM f.Rows aN, sl aR f.Cols aS])))) := ⟨_, rfl⟩
 have D : Dom M aB := Dom.eqv hM (Dom.l _ _)
 have D69 : Dom M aK := Dom.eqv hM (Ot (Dom.r _ _) (Dom.l _ _))
 have D70 : Dom M aL := Dom.eqv hM (Ot (Dom.r _ _) (Ot (Dom.r _ _) (Dom.l _ _)))
 have D71 : Dom M (bx b 85 [sl a f.T.Rows c, sl aT f.T.Cols aU, sl aV f.T.Lo aW, sl aX f.T.Hi aY, sl aI f.X aJ, sl aM f.Rows aN, sl aR f.Cols aS]) := Dom.eqv hM (Ot (Dom.r _ _) (Ot (Dom.r _ _) (Ot (Dom.r _ _) (Or _))))
 have X := Br M w
 refine Wq (Wg (Lv ok 0 [(10, pb b), (11, pb b), (12, .pointer (some ⟨b, 5, none⟩))] 3 rfl rfl (Lb 3 (v := sl aM f.Rows aN) rfl rfl rfl ti_22 ag_22 (fun _ => rfl) rfl bV rfl rfl (Lv ok 4 [(14, I (ln f.Rows)), (6, I (ln f.Rows))] 6 rfl rfl (Ln _ rfl (Wq (Wg (Lv ok 0 [(15, pb b), (16, pb b), (17, .pointer (some ⟨b, 6, none⟩))] 3 rfl rfl (Lb 3 (v := sl aR f.Cols aS) rfl rfl rfl ti_22 ag_22 (fun _ => rfl) rfl bV rfl rfl ?_)))))))))
 refine Lv ok 4 [(19, I endx), (20, I (ln f.Rows)), (21, I (wr (endx - (ln f.Rows))))] 7 rfl rfl ?_
 obtain ⟨x, hi, d1, H⟩ := H
 refine Li 7 rfl rfl rfl Try.underlying22 ti_3 rfl rfl bE.readf hi d1 fun h3 cs d2 d3 => (Lo 8 rfl rfl rfl ti_3 ag_3 rfl d2 d3 bU fun h4 d4 => ?_)
 obtain rfl := d4.int
 refine Lv ok 9 [(7, I x)] 10 rfl rfl (Ln _ rfl (Wq (Wg (Lv ok 0 [(24, I endx), (8, I endx)] 2 rfl rfl (Ln _ rfl (Wq (W_block ?_)))))))
 obtain ⟨J, m, Hx, H⟩ := H
 refine W_loop (S := Int × Int) (fun s ρ' w' => J s.1 s.2 ∧ ∃ (ρ : Env), ρ' = setAll [(0, pb b), (1, sl aG fromx aH), (2, I endx), (6, I (ln f.Rows)), (7, I s.1), (8, I s.2)] ρ ∧ Ext w w') (fun s => m s.1 s.2) (x, endx) ⟨Hx, _, Ee ⟨rfl, rfl, rfl, rfl, rfl, rfl, trivial⟩, (Ext.refl _)⟩ ?_
 rintro ⟨most, start⟩ _ wx ⟨Hi, ρ, rfl, X78⟩
 have H := H most start Hi
 refine Wq (Wq (Wg (Lv ok 0 [(25, sl aG fromx aH), (26, I start)] 2 rfl rfl ?_)))
 obtain ⟨cU, d5, d6, H⟩ := H
 refine Li 2 rfl rfl rfl Try.underlying22 ti_3 rfl rfl aZ d5 d6 fun h5 h6 d7 d8 => ?_
 have bF := (dX.ext X78)
 refine Lo 3 rfl rfl rfl ti_3 ag_3 rfl d7 d8 bF fun h7 d9 => ?_
 obtain rfl := d9.int
 refine Lv ok 4 [(29, .bool (decide (cU ≥ 0)))] 5 rfl rfl (Ln _ rfl ?_)
 refine Wc (decide (cU ≥ 0)) rfl (fun hc => ?_) (fun hc => ?_)
 ·have H := H.1 hc
  refine Wk (W_block (Wq (Wg (Lv ok 0 [(30, I most), (31, pb b), (32, sl aG fromx aH), (33, I start)] 4 rfl rfl ?_))))
  obtain ⟨h8, eA, eB, H⟩ := H
  refine Li 4 rfl rfl rfl Try.underlying22 ti_3 rfl rfl aZ eA eB fun h9 iA eC eD => (Lo 5 rfl rfl rfl ti_3 ag_3 rfl eC eD bF fun iB eE => ?_)
  obtain rfl := eE.int
  refine Lv ok 6 [(36, I start)] 7 rfl rfl (Lc 7 rfl rfl rfl cal_105 rfl (spec_tFill_room_w _ _ _ _ H wx r (ex.ext X78) cJ (dU.ext X78) cK (dV.ext X78) cL (dW.ext X78) b3.readf (cM.ext X78) bD.readf (cN.ext X78) bE.readf (bU.ext X78) (bV.ext X78)) ?_)
  rintro _ eF ⟨iC, H, rfl, cV⟩
  refine Lc 8 rfl rfl rfl cal_106 rfl (spec_l1Least_w _ _ _ H eF ) ?_
  rintro _ iD ⟨cW, H, rfl, cX⟩
  refine Lv ok 9 [(7, I cW)] 10 rfl rfl (Ln _ rfl (Wg (Lv ok 0 [(39, sl aG fromx aH), (40, I start)] 2 rfl rfl ?_)))
  obtain ⟨cY, eG, eH, H⟩ := H
  refine Li 2 rfl rfl rfl Try.underlying22 ti_3 rfl rfl aZ eG eH fun iE iF eI eJ => (Lo 3 rfl rfl rfl ti_3 ag_3 rfl eI eJ (bF.ext (cV.trans cX)) fun iG eK => ?_)
  obtain rfl := eK.int
  refine Lv ok 4 [(8, I cY)] 5 rfl rfl ?_
  exact Ln _ rfl ⟨(cW, cY), ⟨H.1, _, Ee ⟨rfl, rfl, rfl, rfl, rfl, rfl, trivial⟩, ((X78.trans cV).trans cX)⟩, H.2⟩
 have H := H.2 hc
 refine W_exit ?_
 refine (if_pos rfl).mpr ?_
 refine Wq (Wg (Lv ok 0 [(43, I most), (44, pb b), (45, pb b), (46, .pointer (some ⟨b, 5, none⟩))] 4 rfl rfl ?_))
 have cZ := (bV.ext X78)
 refine Lb 4 (v := sl aM f.Rows aN) rfl rfl rfl ti_22 ag_22 (fun _ => rfl) rfl cZ rfl rfl (Lv ok 5 [(48, I start)] 6 rfl rfl ?_)
 obtain ⟨iH, eL, eM, H⟩ := H
 refine Li 6 rfl rfl rfl Try.underlying22 ti_3 rfl rfl bD.readf eL eM fun iI iJ eN eO => ?_
 have b6 := (cN.ext X78)
 refine Lo 7 rfl rfl rfl ti_3 ag_3 rfl eN eO b6 fun iK eP => ?_
 obtain rfl := eP.int
 refine Lc 8 rfl rfl rfl cal_106 rfl (spec_l1Least_w _ _ _ H wx ) ?_
 rintro _ b7 ⟨aC, H, rfl, a1⟩
 refine Lv ok 9 [(7, I aC)] 10 rfl rfl (Ln _ rfl (Wq (Wq (Wg (Lv ok 0 [(52, I endx), (9, I endx)] 2 rfl rfl (Ln _ rfl (W_block ?_)))))))
 obtain ⟨U, hU⟩ : ∃ U : PH, U = (un aB (bx b 85 [sl a f.T.Rows c, sl aT f.T.Cols aU, sl aV f.T.Lo aW, sl aX f.T.Hi aY, sl aI f.X aJ, sl aM f.Rows aN, sl aR f.Cols aS])) := ⟨_, rfl⟩
 have D144 : Dom U aB := Dom.eqv hU (Dom.l _ _)
 have D145 : Dom U (bx b 85 [sl a f.T.Rows c, sl aT f.T.Cols aU, sl aV f.T.Lo aW, sl aX f.T.Hi aY, sl aI f.X aJ, sl aM f.Rows aN, sl aR f.Cols aS]) := Dom.eqv hU (Ot (Dom.r _ _) (Or _))
 obtain ⟨J149, eQ, Hx151, H⟩ := H
 refine W_loop (S := Int × (List (List Int))) (fun s ρ' w' => J149 s.1 s.2 ∧ ∃ (ρ : Env) (a2 : PH), ρ' = setAll [(0, pb b), (1, sl aG fromx aH), (2, I endx), (6, I (ln f.Rows)), (7, I aC), (8, I start), (9, I s.1)] ρ ∧ But U b7 w' ∧ OD a2 (sl aI f.X aJ) s.2 ∧ Sub a2 w' ∧ DomLe U b7.heap.size a2 ∧ Sub (bx b 85 [sl a f.T.Rows c, sl aT f.T.Cols aU, sl aV f.T.Lo aW, sl aX f.T.Hi aY, sl aI f.X aJ, sl aM f.Rows aN, sl aR f.Cols aS]) w' ∧ Dj a2 (bx b 85 [sl a f.T.Rows c, sl aT f.T.Cols aU, sl aV f.T.Lo aW, sl aX f.T.Hi aY, sl aI f.X aJ, sl aM f.Rows aN, sl aR f.Cols aS])) (fun s => eQ s.1 s.2) (endx, f.X) ⟨Hx151, _, aB, Ee ⟨rfl, rfl, rfl, rfl, rfl, rfl, rfl, trivial⟩, (Br _ _), b3, (cM.ext (X78.trans a1)), (Oe D144 _), (cZ.ext a1), dZ⟩ ?_
 rintro ⟨aA, b8⟩ _ c0 ⟨Hi, ρ, a2, rfl, HF⟩
 revert HF
 refine bb6 fun X148 o bG bH bI bJ => ?_
 have H := H aA b8 Hi
 refine Wq (Wq (Wg (Lv ok 0 [(53, sl aG fromx aH), (54, I aA)] 2 rfl rfl ?_)))
 obtain ⟨c1, eR, eS, H⟩ := H
 refine Li 2 rfl rfl rfl Try.underlying22 ti_3 rfl rfl aZ eR eS fun iL iM eT eU => ?_
 have dj := (Dl d0 cQ)
 have bW := ((bF.ext a1).but X148 (Dj.eqv hU dj))
 refine Lo 3 rfl rfl rfl ti_3 ag_3 rfl eT eU bW fun iN eV => ?_
 obtain rfl := eV.int
 refine Lv ok 4 [(57, .bool (decide (c1 ≥ 0)))] 5 rfl rfl (Ln _ rfl ?_)
 refine Wc (decide (c1 ≥ 0)) rfl (fun b9 => ?_) (fun b9 => ?_)
 ·have H := H.1 b9
  refine Wk ?_
  obtain ⟨U188, hU189⟩ : ∃ U : PH, U = (un a2 (bx b 85 [sl a f.T.Rows c, sl aT f.T.Cols aU, sl aV f.T.Lo aW, sl aX f.T.Hi aY, sl aI f.X aJ, sl aM f.Rows aN, sl aR f.Cols aS])) := ⟨_, rfl⟩
  have D190 : Dom U188 a2 := Dom.eqv hU189 (Dom.l _ _)
  obtain ⟨k, hk, H⟩ := jn_elim H
  refine W_join2 (S := (List (List Int))) (fun s ρ' w' => k s ∧ ∃ (ρ : Env) (bC : PH), ρ' = setAll [(0, pb b), (1, sl aG fromx aH), (2, I endx), (6, I (ln f.Rows)), (7, I aC), (8, I start), (9, I aA)] ρ ∧ But U188 c0 w' ∧ OD bC (sl aI f.X aJ) s ∧ Sub bC w' ∧ DomLe U188 c0.heap.size bC ∧ Sub (bx b 85 [sl a f.T.Rows c, sl aT f.T.Cols aU, sl aV f.T.Lo aW, sl aX f.T.Hi aY, sl aI f.X aJ, sl aM f.Rows aN, sl aR f.Cols aS]) w' ∧ Dj bC (bx b 85 [sl a f.T.Rows c, sl aT f.T.Cols aU, sl aV f.T.Lo aW, sl aX f.T.Hi aY, sl aI f.X aJ, sl aM f.Rows aN, sl aR f.Cols aS])) ?_ ?_
  ·refine W_block (Wq (Wg (Lv ok 0 [(62, I aA), (63, I (ln f.Rows)), (64, .bool (decide (aA ≥ (ln f.Rows))))] 3 rfl rfl (Ln _ rfl ?_))))
   refine Wc (decide (aA ≥ (ln f.Rows))) rfl (fun cA => ?_) (fun cA => ?_)
   ·have H := H.1 cA
    refine W_open mix fun iO bX => ?_
    refine AP_game 16 [[], [0], [0, 1], [0, 1, 2], [], [], [4, 5], [4, 5, 6], [0, 1, 2, 3, 4, 5, 6, 7], [0, 1, 2, 3, 4, 5, 6, 7, 8], [], [], [10, 11], [0, 1, 2, 3, 4, 5, 6, 7, 8, 9, 10, 11, 12], [0, 1, 2, 3, 4, 5, 6, 7, 8, 9, 10, 11, 12, 13], [], [0, 1, 2, 3, 4, 5, 6, 7, 8, 9, 10, 11, 12, 13, 14, 15], [0, 1, 2, 3, 4, 5, 6, 7, 8, 9, 10, 11, 12, 13, 14, 15, 16], [0, 1, 2, 3, 4, 5, 6, 7, 8, 9, 10, 11, 12, 13, 14, 15, 16, 17]] [[(0, none)], [(65, some 0)], [(66, some 1)], [(67, some 2)], [(1, none)], [(9, none)], [(69, some 4), (70, some 5)], [(71, some 6)], [(68, some 3), (72, some 7)], [(73, some 8)], [(9, none)], [(6, none)], [(75, some 10), (76, some 11)], [(74, some 9), (77, some 12)], [(78, some 13)], [(7, none)]] [(0, none), (1, none), (2, none), (6, none), (7, none), (8, none), (9, none), (74, some 9), (77, some 12), (79, some 14), (80, some 15)] [(0, false), (1, false), (2, false), (3, false), (4, false), (5, false), (6, false), (7, false), (8, false), (9, false), (10, false), (11, false), (12, false), (13, false), (14, false), (15, false)] (by kernel_rfl) (by kernel_rfl) ?_
    refine GS_ev ok [(0, pb b)] (pb b) rfl rfl (fun _ h => h) (fun _ => rfl) ?_
    refine GS_ev ok [(65, pb b)] (pb b) rfl rfl (fun _ h => h) (fun _ => rfl) ?_
    refine GS_ev ok [(66, pb b)] (.pointer (some ⟨b, 4, none⟩)) rfl rfl (fun _ h => h) (fun _ => rfl) ?_
    have cB := (bI.ext bX)
    refine GS_r1 [(67, .pointer (some ⟨b, 4, none⟩))] (sl aI f.X aJ) rfl rfl (fun _ h => h) (fun _ w e => ex_ldbox rfl ti_23 ag_23 (fun _ => rfl) rfl e rfl rfl) cB ?_
    refine GS_ev ok [(1, sl aG fromx aH)] (sl aG fromx aH) rfl rfl (fun _ h => h) (fun _ => rfl) ?_
    refine GS_ev ok [(9, I aA)] (I aA) rfl rfl (fun _ h => h) (fun _ => rfl) ?_
    obtain ⟨bY, eW, eX, H⟩ := H
    obtain ⟨c2, iP, eY, eZ, e0⟩ := run_indexAt Try.underlying22 ti_3 aZ .i64 _ bY eW eX
    refine GS_r0 [(69, sl aG fromx aH), (70, I aA)] (.pointer (some c2)) rfl rfl (fun _ h => h) (fun _ _ => ex_index rfl rfl rfl (eY _)) ?_
    obtain ⟨iQ, e1, e2⟩ := run_loadAt ti_3 ag_3 eZ e0
    obtain rfl := e2.int
    refine GS_r1 [(71, .pointer (some c2))] (I bY) rfl rfl (fun _ h => h) (fun _ w e => ex_load rfl rfl (e1 w e)) (bW.ext bX) ?_
    obtain ⟨a3, e3, e4, H⟩ := H
    obtain ⟨c3, u, e5, rest, e6, e7, bw⟩ := run_indexb Try.underlying23 ti_22 o _ e3 e4
    refine GS_r0 [(68, sl aI f.X aJ), (72, I bY)] (.pointer (some c3)) rfl rfl (fun _ h => h) (fun _ _ => ex_index rfl rfl rfl (e6 _)) ?_
    have c4 := bw.od
    obtain ⟨bK, bL, rfl⟩ := c4.shape
    have cC := (bG.ext bX)
    have c5 := Sub.le cC bw.le
    have c6 : OS 3 e5 emp (sl bK a3 bL) a3 := OD.flat c4
    refine GS_r1 [(73, .pointer (some c3))] (sl bK a3 bL) rfl rfl (fun _ h => h) (fun _ w e => ex_ldcell rfl ti_22 ag_22 rfl e7 e) cC ?_
    refine GS_ev ok [(9, I aA)] (I aA) rfl rfl (fun _ h => h) (fun _ => rfl) ?_
    refine GS_ev ok [(6, I (ln f.Rows))] (I (ln f.Rows)) rfl rfl (fun _ h => h) (fun _ => rfl) ?_
    refine GS_ev ok [(75, I aA), (76, I (ln f.Rows))] (I (wr (aA - (ln f.Rows)))) rfl rfl (fun _ h => h) (fun _ => rfl) ?_
    obtain ⟨bM, e8, e9, H⟩ := H
    obtain ⟨c7, iR, fA, fB, fC⟩ := run_indexAt Try.underlying22 ti_3 c6.readf .i64 _ bM e8 e9
    refine GS_r0 [(74, sl bK a3 bL), (77, I (wr (aA - (ln f.Rows))))] (.pointer (some c7)) rfl rfl (fun _ h => h) (fun _ _ => ex_index rfl rfl rfl (fA _)) ?_
    obtain ⟨iS, fD, fE⟩ := run_loadAt ti_3 ag_3 fB fC
    obtain rfl := fE.int
    refine GS_r1 [(78, .pointer (some c7))] (I bM) rfl rfl (fun _ h => h) (fun _ w e => ex_load rfl rfl (fD w e)) c5 ?_
    refine GS_ev ok [(7, I aC)] (I aC) rfl rfl (fun _ h => h) (fun _ => rfl) ?_
    intro iT bN ρ hn
    refine AP_forget [(0, pb b), (1, sl aG fromx aH), (2, I endx), (6, I (ln f.Rows)), (7, I aC), (8, I start), (9, I aA), (74, sl bK a3 bL), (77, I (wr (aA - (ln f.Rows)))), (79, I bM), (80, I aC)] (by exact hn) fun ρ => ?_
    refine AP_tail 16 [[], [0], [0, 1], [0, 1, 2], [], [], [4, 5], [4, 5, 6], [0, 1, 2, 3, 4, 5, 6, 7], [0, 1, 2, 3, 4, 5, 6, 7, 8], [], [], [10, 11], [0, 1, 2, 3, 4, 5, 6, 7, 8, 9, 10, 11, 12], [0, 1, 2, 3, 4, 5, 6, 7, 8, 9, 10, 11, 12, 13], [], [0, 1, 2, 3, 4, 5, 6, 7, 8, 9, 10, 11, 12, 13, 14, 15], [0, 1, 2, 3, 4, 5, 6, 7, 8, 9, 10, 11, 12, 13, 14, 15, 16], [0, 1, 2, 3, 4, 5, 6, 7, 8, 9, 10, 11, 12, 13, 14, 15, 16, 17]] (by kernel_rfl) ?_
    refine Lv ok 16 [(81, I (wr (bM + aC)))] 17 rfl rfl ?_
    obtain ⟨fF, hl, H⟩ := H
    refine LP_indexw (v := sl bK a3 bL) 17 rfl rfl rfl Try.underlying22 ti_3 rfl rfl c6 fF hl fun iU wa => (LP_set 18 rfl rfl rfl rfl rfl wa (Le.refl emp) ⟨_, rfl, rfl⟩ (c5.ext bN) fun fG iV fH fI y dm => ?_)
    obtain ⟨iW, fJ, dd⟩ := BwL.turn bw (OS.od fH) (Dom.of dm)
    have fK := BwL.sub bw (cC.ext bN) fI y
    have c8 := BwL.but bw y
    refine Ln _ rfl ?_
    have c9 := (bX.trans bN)
    exact ⟨List.set b8 (Int.toNat bY) (List.set a3 (Int.toNat (wr (aA - (ln f.Rows)))) (wr (bM + aC))), H, _, (un fG rest), Ee ⟨rfl, rfl, rfl, rfl, rfl, rfl, rfl, trivial⟩, (((Br U188 _).stepx c9).step c8 (Oe D190 _)), fJ, fK, (Mt (Oe D190 _) ((fun n => Oe dd n) _) c9.size), ((cB.ext bN).but c8 bJ), (Mj ((fun n => Oe dd n) _) bJ (cB.ext bN))⟩
   have H := H.2 cA
   refine W_open mix fun iX bZ => ?_
   refine AP_game 16 [[], [0], [0, 1], [0, 1, 2], [], [0, 1, 2, 3, 4], [0, 1, 2, 3, 4, 5], [], [], [7, 8], [7, 8, 9], [], [7, 8, 9, 10, 11], [0, 1, 2, 3, 4, 5, 6, 7, 8, 9, 10, 11, 12], [0, 1, 2, 3, 4, 5, 6, 7, 8, 9, 10, 11, 12, 13], [], [0, 1, 2, 3, 4, 5, 6, 7, 8, 9, 10, 11, 12, 13, 14, 15], [0, 1, 2, 3, 4, 5, 6, 7, 8, 9, 10, 11, 12, 13, 14, 15, 16], [0, 1, 2, 3, 4, 5, 6, 7, 8, 9, 10, 11, 12, 13, 14, 15, 16, 17]] [[(0, none)], [(83, some 0)], [(84, some 1)], [(85, some 2)], [(9, none)], [(86, some 3), (87, some 4)], [(88, some 5)], [(1, none)], [(9, none)], [(90, some 7), (91, some 8)], [(92, some 9)], [(6, none)], [(93, some 10), (94, some 11)], [(89, some 6), (95, some 12)], [(96, some 13)], [(7, none)]] [(0, none), (1, none), (2, none), (6, none), (7, none), (8, none), (9, none), (89, some 6), (95, some 12), (97, some 14), (98, some 15)] [(0, false), (1, false), (2, false), (3, false), (4, false), (5, false), (6, false), (7, false), (8, false), (9, false), (10, false), (11, false), (12, false), (13, false), (14, false), (15, false)] (by kernel_rfl) (by kernel_rfl) ?_
   refine GS_ev ok [(0, pb b)] (pb b) rfl rfl (fun _ h => h) (fun _ => rfl) ?_
   refine GS_ev ok [(83, pb b)] (pb b) rfl rfl (fun _ h => h) (fun _ => rfl) ?_
   refine GS_ev ok [(84, pb b)] (.pointer (some ⟨b, 4, none⟩)) rfl rfl (fun _ h => h) (fun _ => rfl) ?_
   have cD := (bI.ext bZ)
   refine GS_r1 [(85, .pointer (some ⟨b, 4, none⟩))] (sl aI f.X aJ) rfl rfl (fun _ h => h) (fun _ w e => ex_ldbox rfl ti_23 ag_23 (fun _ => rfl) rfl e rfl rfl) cD ?_
   refine GS_ev ok [(9, I aA)] (I aA) rfl rfl (fun _ h => h) (fun _ => rfl) ?_
   obtain ⟨a4, fL, fM, H⟩ := H
   obtain ⟨dA, iY, fN, fO, fP, fQ, bO⟩ := run_indexb Try.underlying23 ti_22 o _ fL fM
   refine GS_r0 [(86, sl aI f.X aJ), (87, I aA)] (.pointer (some dA)) rfl rfl (fun _ h => h) (fun _ _ => ex_index rfl rfl rfl (fP _)) ?_
   have dB := bO.od
   obtain ⟨bP, bQ, rfl⟩ := dB.shape
   have cE := (bG.ext bZ)
   have dC := Sub.le cE bO.le
   have dD : OS 3 fN emp (sl bP a4 bQ) a4 := OD.flat dB
   refine GS_r1 [(88, .pointer (some dA))] (sl bP a4 bQ) rfl rfl (fun _ h => h) (fun _ w e => ex_ldcell rfl ti_22 ag_22 rfl fQ e) cE ?_
   refine GS_ev ok [(1, sl aG fromx aH)] (sl aG fromx aH) rfl rfl (fun _ h => h) (fun _ => rfl) ?_
   refine GS_ev ok [(9, I aA)] (I aA) rfl rfl (fun _ h => h) (fun _ => rfl) ?_
   obtain ⟨a5, fR, fS, H⟩ := H
   obtain ⟨dE, iZ, fT, fU, fV⟩ := run_indexAt Try.underlying22 ti_3 aZ .i64 _ a5 fR fS
   refine GS_r0 [(90, sl aG fromx aH), (91, I aA)] (.pointer (some dE)) rfl rfl (fun _ h => h) (fun _ _ => ex_index rfl rfl rfl (fT _)) ?_
   obtain ⟨i0, fW, fX⟩ := run_loadAt ti_3 ag_3 fU fV
   obtain rfl := fX.int
   refine GS_r1 [(92, .pointer (some dE))] (I a5) rfl rfl (fun _ h => h) (fun _ w e => ex_load rfl rfl (fW w e)) (bW.ext bZ) ?_
   refine GS_ev ok [(6, I (ln f.Rows))] (I (ln f.Rows)) rfl rfl (fun _ h => h) (fun _ => rfl) ?_
   refine GS_ev ok [(93, I a5), (94, I (ln f.Rows))] (I (wr (a5 - (ln f.Rows)))) rfl rfl (fun _ h => h) (fun _ => rfl) ?_
   obtain ⟨bR, fY, fZ, H⟩ := H
   obtain ⟨dF, i1, f0, f1, f2⟩ := run_indexAt Try.underlying22 ti_3 dD.readf .i64 _ bR fY fZ
   refine GS_r0 [(89, sl bP a4 bQ), (95, I (wr (a5 - (ln f.Rows))))] (.pointer (some dF)) rfl rfl (fun _ h => h) (fun _ _ => ex_index rfl rfl rfl (f0 _)) ?_
   obtain ⟨i2, f3, f4⟩ := run_loadAt ti_3 ag_3 f1 f2
   obtain rfl := f4.int
   refine GS_r1 [(96, .pointer (some dF))] (I bR) rfl rfl (fun _ h => h) (fun _ w e => ex_load rfl rfl (f3 w e)) dC ?_
   refine GS_ev ok [(7, I aC)] (I aC) rfl rfl (fun _ h => h) (fun _ => rfl) ?_
   intro i3 bS ρ f5
   refine AP_forget [(0, pb b), (1, sl aG fromx aH), (2, I endx), (6, I (ln f.Rows)), (7, I aC), (8, I start), (9, I aA), (89, sl bP a4 bQ), (95, I (wr (a5 - (ln f.Rows)))), (97, I bR), (98, I aC)] (by exact f5) fun ρ => ?_
   refine AP_tail 16 [[], [0], [0, 1], [0, 1, 2], [], [0, 1, 2, 3, 4], [0, 1, 2, 3, 4, 5], [], [], [7, 8], [7, 8, 9], [], [7, 8, 9, 10, 11], [0, 1, 2, 3, 4, 5, 6, 7, 8, 9, 10, 11, 12], [0, 1, 2, 3, 4, 5, 6, 7, 8, 9, 10, 11, 12, 13], [], [0, 1, 2, 3, 4, 5, 6, 7, 8, 9, 10, 11, 12, 13, 14, 15], [0, 1, 2, 3, 4, 5, 6, 7, 8, 9, 10, 11, 12, 13, 14, 15, 16], [0, 1, 2, 3, 4, 5, 6, 7, 8, 9, 10, 11, 12, 13, 14, 15, 16, 17]] (by kernel_rfl) ?_
   refine Lv ok 16 [(99, I (wr (bR - aC)))] 17 rfl rfl ?_
   obtain ⟨f6, f7, H⟩ := H
   refine LP_indexw (v := sl bP a4 bQ) 17 rfl rfl rfl Try.underlying22 ti_3 rfl rfl dD f6 f7 fun i4 f8 => (LP_set 18 rfl rfl rfl rfl rfl f8 (Le.refl emp) ⟨_, rfl, rfl⟩ (dC.ext bS) fun f9 i5 gA gB dG gC => ?_)
   obtain ⟨i6, gD, dH⟩ := BwL.turn bO (OS.od gA) (Dom.of gC)
   have gE := BwL.sub bO (cE.ext bS) gB dG
   have dI := BwL.but bO dG
   refine Ln _ rfl ?_
   have dJ := (bZ.trans bS)
   exact ⟨List.set b8 (Int.toNat aA) (List.set a4 (Int.toNat (wr (a5 - (ln f.Rows)))) (wr (bR - aC))), H, _, (un f9 fO), Ee ⟨rfl, rfl, rfl, rfl, rfl, rfl, rfl, trivial⟩, (((Br U188 _).stepx dJ).step dI (Oe D190 _)), gD, gE, (Mt (Oe D190 _) ((fun n => Oe dH n) _) dJ.size), ((cD.ext bS).but dI bJ), (Mj ((fun n => Oe dH n) _) bJ (cD.ext bS))⟩
  rintro gF _ i7 ⟨H, ρ, bC, rfl, HF⟩
  revert HF
  refine bb6 fun X194 gG gH gI gJ gK => ?_
  subst hk
  refine Wg (Lv ok 0 [(58, sl aG fromx aH), (59, I aA)] 2 rfl rfl ?_)
  obtain ⟨dK, gL, gM, H⟩ := H
  refine Li 2 rfl rfl rfl Try.underlying22 ti_3 rfl rfl aZ gL gM fun i9 jA gN gO => ?_
  have gP : Dj U188 a0 := (Dj.eqv hU189 (Dl (Mj bH (Dj.eqv hU dj) (bF.ext a1)) (Db cQ)))
  refine Lo 3 rfl rfl rfl ti_3 ag_3 rfl gN gO (bW.but X194 gP) fun jB gQ => ?_
  obtain rfl := gQ.int
  refine Lv ok 4 [(9, I dK)] 5 rfl rfl (Ln _ rfl ?_)
  have dL : DomLe U b7.heap.size U188 := (DomLe.eqv hU189 (Mu (Mt (Oe (Or _) _) bH (Nat.le_refl _)) (Md D145 Sd)))
  exact ⟨(dK, gF), ⟨H.1, _, bC, Ee ⟨rfl, rfl, rfl, rfl, rfl, rfl, rfl, trivial⟩, (((Br U _).step X148 (Oe (Or _) _)).step X194 dL), gG, gH, (Mt dL gI X148.size), gJ, gK⟩, H.2⟩
 have H := H.2 b9
 refine W_exit ?_
 refine (if_pos rfl).mpr ?_
 refine Wq (Wg (Lv ok 0 [(101, pb b), (102, pb b), (103, .pointer (some ⟨b, 5, none⟩))] 3 rfl rfl (Lb 3 (v := sl aM f.Rows aN) rfl rfl rfl ti_22 ag_22 (fun _ => rfl) rfl bI rfl rfl (Lv ok 4 [(105, I start)] 5 rfl rfl ?_))))
 obtain ⟨gR, gS, gT, H⟩ := H
 refine Li 5 rfl rfl rfl Try.underlying22 ti_3 rfl rfl bD.readf gS gT fun jC jD gU gV => ?_
 have dM := (Dl d b4.symm)
 have dN := ((b6.ext a1).but X148 (Dj.eqv hU dM))
 refine Lo 6 rfl rfl rfl ti_3 ag_3 rfl gU gV dN fun jE gW => ?_
 obtain rfl := gW.int
 refine Lv ok 7 [(108, I aC), (109, I (wr (gR - aC)))] 9 rfl rfl ?_
 obtain ⟨gX, gY, H⟩ := H
 refine LP_indexw (v := sl aM f.Rows aN) 9 rfl rfl rfl Try.underlying22 ti_3 rfl rfl bD gX gY fun jF gZ => (LP_set 10 rfl rfl rfl rfl rfl gZ (Le.refl emp) ⟨_, rfl, rfl⟩ dN fun g0 jG g1 dO bT b0 => (Ln _ rfl (Wg (Lv ok 0 [(111, pb b), (112, pb b), (113, .pointer (some ⟨b, 6, none⟩))] 3 rfl rfl ?_))))
 have cF := (bI.but bT (Db b4.symm).symm)
 refine Lb 3 (v := sl aR f.Cols aS) rfl rfl rfl ti_22 ag_22 (fun _ => rfl) rfl cF rfl rfl (Lv ok 4 [(115, I endx), (116, I (ln f.Rows)), (117, I (wr (endx - (ln f.Rows))))] 7 rfl rfl ?_)
 obtain ⟨g2, g3, g4, H⟩ := H
 refine Li 7 rfl rfl rfl Try.underlying22 ti_3 rfl rfl bE.readf g3 g4 fun jH jI g5 g6 => ?_
 have cG := (X78.trans a1)
 have cH := (Dl dY b5.symm)
 have dP := (((bU.ext cG).but X148 (Dj.eqv hU cH)).but bT cP)
 refine Lo 8 rfl rfl rfl ti_3 ag_3 rfl g5 g6 dP fun jJ g7 => ?_
 obtain rfl := g7.int
 refine Lv ok 9 [(120, I aC), (121, I (wr (g2 - aC)))] 11 rfl rfl ?_
 obtain ⟨g8, g9, H⟩ := H
 refine LP_indexw (v := sl aR f.Cols aS) 11 rfl rfl rfl Try.underlying22 ti_3 rfl rfl bE g8 g9 fun jK hA => (LP_set 12 rfl rfl rfl rfl rfl hA (Le.refl emp) ⟨_, rfl, rfl⟩ dP fun hB jL hC hD b1 b2 => (Ln _ rfl ?_))
 try refine Wo [] ⟨trivial⟩ fun ρ => ?_
 have cI := (Mj bH (Dj.eqv hU dM) (b6.ext a1)).symm
 have dQ := (bU.ext cG)
 have dR := (Mj bH (Dj.eqv hU cH) dQ).symm
 have dS : DomLe M w.heap.size U := (DomLe.eqv hU (Mu (Oe D _) (Oe D71 _)))
 have X386 := (X.stepx cG)
 have dT := (Mj (b0 _) cP (dQ.but X148 (Dj.eqv hU cH))).symm
 have X391 := (X386.step X148 dS)
 have X393 := (X391.step bT (Oe D69 _))
 have hE := (Mj (b0 _) cI bG).symm
 have hF := (Mj (b2 _) dR (bG.but bT cI)).symm
 have hG := (Mj (b2 _) dT dO).symm
 have hH : Dj g0 (bx b 85 [sl a f.T.Rows c, sl aT f.T.Cols aU, sl aV f.T.Lo aW, sl aX f.T.Hi aY, sl aI f.X aJ, sl aM f.Rows aN, sl aR f.Cols aS]) := (Mj (b0 _) (Db b4.symm).symm bI)
 have hI : Dj hB (bx b 85 [sl a f.T.Rows c, sl aT f.T.Cols aU, sl aV f.T.Lo aW, sl aX f.T.Hi aY, sl aI f.X aJ, sl aM f.Rows aN, sl aR f.Cols aS]) := (Mj (b2 _) (Db b5.symm).symm cF)
 subst hM
 exact ⟨_, Ret_of [] trivial, _, _, _, _, _, _, _, _, _, H, rfl, (X393.step b1 (Oe D70 _)), o, ((bG.but bT cI).but b1 dR), (Mt dS bH X386.size), g1, (dO.but b1 dT), (Mt (Oe D69 _) (b0 _) X391.size), hC, hD, (Mt (Oe D70 _) (b2 _) X393.size), (cF.but b1 (Db b5.symm).symm), hE, hF, bJ, hG, hH, hI⟩

theorem spec_tFill_augment_w (f : TFill) (Q : Bool → (List (List Int)) → (List Int) → (List Int) → Prop) (H : spec_tFill_augment f Q) (w : World) {vx : Value} {hx : PH} (r : RS hx vx f.T.Rows) (ex : Sub hx w) {aG : Value} {a5 : PH} (cR : RS a5 aG f.T.Cols) (dW : Sub a5 w) {aH : Value} {a6 : PH} (cS : RS a6 aH f.T.Lo) (dX : Sub a6 w) {aI : Value} {a7 : PH} (cT : RS a7 aI f.T.Hi) (dY : Sub a7 w) {aP : Value} {aK : PH} (bS : OD aK aP f.X) (bT : Sub aK w) {aQ : Value} {aL : PH} (bI : OS 3 aL emp aQ f.Rows) (a8 : Sub aL w) {aR : Value} {aM : PH} (bJ : OS 3 aM emp aR f.Cols) (bU : Sub aM w) {b : Nat} (a1 : Sub (bx b 85 [vx, aG, aH, aI, aP, aQ, aR]) w) (d : Dj aK aL) (dZ : Dj aK aM) (d0 : Dj aK (bx b 85 [vx, aG, aH, aI, aP, aQ, aR])) (d1 : Dj aL aM) (d2 : Dj aL (bx b 85 [vx, aG, aH, aI, aP, aQ, aR])) (d3 : Dj aM (bx b 85 [vx, aG, aH, aI, aP, aQ, aR])) (gH : Dj aK hx) (gI : Dj aK a5) (gJ : Dj aK a6) (gK : Dj aK a7) (gL : Dj aL hx) (gM : Dj aL a5) (gN : Dj aL a6) (gO : Dj aL a7) (gP : Dj aM hx) (gQ : Dj aM a5) (gR : Dj aM a6) (gS : Dj aM a7) (gT : Dj (bx b 85 [vx, aG, aH, aI, aP, aQ, aR]) hx) (gU : Dj (bx b 85 [vx, aG, aH, aI, aP, aQ, aR]) a5) (gV : Dj (bx b 85 [vx, aG, aH, aI, aP, aQ, aR]) a6) (gW : Dj (bx b 85 [vx, aG, aH, aI, aP, aQ, aR]) a7) :
  CallsTo Try.prog 99 #[pb b] w fun v w' => ∃ d4 d5 d6 d7 v1_ a9 v2_ bA v3_ bB, Q d4 d5 d6 d7 ∧ v = .bool d4 ∧ But (un aK (un aL (un aM (bx b 85 [vx, aG, aH, aI, aP, aQ, aR])))) w w' ∧ OD a9 v1_ d5 ∧ Sub a9 w' ∧ DomLe (un aK (un aL (un aM (bx b 85 [vx, aG, aH, aI, aP, aQ, aR])))) w.heap.size a9 ∧ OS 3 bA emp v2_ d6 ∧ Sub bA w' ∧ DomLe (un aK (un aL (un aM (bx b 85 [vx, aG, aH, aI, aP, aQ, aR])))) w.heap.size bA ∧ OS 3 bB emp v3_ d7 ∧ Sub bB w' ∧ DomLe (un aK (un aL (un aM (bx b 85 [vx, aG, aH, aI, aP, aQ, aR])))) w.heap.size bB ∧ Sub (bx b 85 [vx, aG, aH, aI, v1_, v2_, v3_]) w' ∧ Dj a9 bA ∧ Dj a9 bB ∧ Dj a9 (bx b 85 [vx, aG, aH, aI, v1_, v2_, v3_]) ∧ Dj bA bB ∧ Dj bA (bx b 85 [vx, aG, aH, aI, v1_, v2_, v3_]) ∧ Dj bB (bx b 85 [vx, aG, aH, aI, v1_, v2_, v3_]) := by
 obtain ⟨a, c, rfl⟩ := r.shape
 obtain ⟨d8, d9, rfl⟩ := cR.shape
 obtain ⟨eA, eB, rfl⟩ := cS.shape
 obtain ⟨eC, eD, rfl⟩ := cT.shape
 obtain ⟨eE, eF, rfl⟩ := bS.shape
 obtain ⟨bV, bW, rfl⟩ := bI.shape
 obtain ⟨bX, bY, rfl⟩ := bJ.shape
 refine enter (args := [pb b]) 110 Try.func99 rfl rfl rfl ?_
 refine Wo [(0, pb b)] ⟨rfl, trivial⟩ fun ρ => ?_
 obtain ⟨M, hM⟩ : ∃ M : PH, M = (un aK (un aL (un aM (bx b 85 [sl a f.T.Rows c, sl d8 f.T.Cols d9, sl eA f.T.Lo eB, sl eC f.T.Hi eD, sl eE f.X eF, sl bV f.Rows bW, sl bX f.Cols bY])))) := ⟨_, rfl⟩
 have D : Dom M aK := Dom.eqv hM (Dom.l _ _)
 have D59 : Dom M aL := Dom.eqv hM (Ot (Dom.r _ _) (Dom.l _ _))
 have D60 : Dom M aM := Dom.eqv hM (Ot (Dom.r _ _) (Ot (Dom.r _ _) (Dom.l _ _)))
 have D61 : Dom M (bx b 85 [sl a f.T.Rows c, sl d8 f.T.Cols d9, sl eA f.T.Lo eB, sl eC f.T.Hi eD, sl eE f.X eF, sl bV f.Rows bW, sl bX f.Cols bY]) := Dom.eqv hM (Ot (Dom.r _ _) (Ot (Dom.r _ _) (Ot (Dom.r _ _) (Or _))))
 have X := Br M w
 refine Wq (Wg (Lv ok 0 [(2, .bool false)] 1 rfl rfl (Ln _ rfl (Wq ?_))))
 refine W_quiet mix (by kernel_rfl) ?_
 refine QP_ev ok 0 [(11, pb b), (12, pb b), (13, .pointer (some ⟨b, 5, none⟩))] 3 rfl rfl ?_
 refine QP_ldbox 3 (v := sl bV f.Rows bW) rfl rfl rfl ti_22 ag_22 (fun _ => rfl) rfl a1 rfl rfl ?_
 refine QP_ev ok 4 [(15, I (ln f.Rows)), (16, pb b), (17, pb b), (18, .pointer (some ⟨b, 6, none⟩))] 8 rfl rfl ?_
 refine QP_ldbox 8 (v := sl bX f.Cols bY) rfl rfl rfl ti_22 ag_22 (fun _ => rfl) rfl a1 rfl rfl ?_
 refine QP_ev ok 9 [(20, I (ln f.Cols)), (3, I (ln f.Rows)), (4, I (ln f.Cols))] 12 rfl rfl ?_
 refine QP_end _ rfl fun wx x => ?_
 refine Wq (Wg (Lv ok 0 [(21, I (ln f.Rows)), (22, I (ln f.Cols)), (23, I (wr ((ln f.Rows) + (ln f.Cols))))] 3 rfl rfl ?_))
 obtain ⟨hn, hb, H⟩ := H
 refine LP_make (α := Int) 3 rfl rfl rfl Try.underlying22 ti_3 (x0 := (0 : Int)) rfl rfl hn (by first | omega | (simp only [ln] at *; omega)) (by first | omega | (simp only [ln] at *; omega)) fun bC jO bZ aE o gX aF => ?_
 obtain ⟨aB, aC, rfl⟩ := o.shape
 refine Lv ok 4 [(5, .slice aB (List.length (List.replicate (Int.toNat (wr ((ln f.Rows) + (ln f.Cols)))) ((0 : Int)))) aC)] 5 rfl rfl (Ln _ rfl (Wq (Wg (Lv ok 0 [(6, .slice none 0 0)] 1 rfl rfl (Ln _ rfl (Wq (Wq (Wg (Lv ok 0 [(25, .slice aB (List.length (List.replicate (Int.toNat (wr ((ln f.Rows) + (ln f.Cols)))) ((0 : Int)))) aC), (26, I (ln (List.replicate (Int.toNat (wr ((ln f.Rows) + (ln f.Cols)))) ((0 : Int))))), (27, I 0)] 3 rfl rfl ?_)))))))))
 refine Ln _ rfl (W_block ?_)
 obtain ⟨J, m, Hx, H⟩ := H
 refine W_loop (S := (List Int) × (List Int) × Int) (fun s ρ' w' => J s.1 s.2.1 s.2.2 ∧ ∃ (ρ : Env) (aU : PH) (cU : Value) (aT : PH), ρ' = setAll [(0, pb b), (3, I (ln f.Rows)), (4, I (ln f.Cols)), (5, .slice aB (List.length (List.replicate (Int.toNat (wr ((ln f.Rows) + (ln f.Cols)))) ((0 : Int)))) aC), (6, cU), (26, I (ln (List.replicate (Int.toNat (wr ((ln f.Rows) + (ln f.Cols)))) ((0 : Int))))), (27, I s.2.2)] ρ ∧ But bC bZ w' ∧ OS 3 aU emp (.slice aB (List.length (List.replicate (Int.toNat (wr ((ln f.Rows) + (ln f.Cols)))) ((0 : Int)))) aC) s.1 ∧ Sub aU w' ∧ DomLe bC bZ.heap.size aU ∧ OS 3 aT emp cU s.2.1 ∧ Sub aT w' ∧ DomLe bC bZ.heap.size aT ∧ Dj aT aU) (fun s => m s.1 s.2.1 s.2.2) (List.replicate (Int.toNat (wr ((ln f.Rows) + (ln f.Cols)))) ((0 : Int)), [], 0) ⟨Hx, _, bC, .slice none 0 0, emp, Ee ⟨rfl, rfl, rfl, rfl, rfl, rfl, rfl, trivial⟩, (Br _ _), o, gX, (Oe (Or _) _), OS.nil, (emp_sub _), (fun _ _ _ => rfl), (fun _ => .inl rfl)⟩ ?_
 rintro ⟨fromx, queue, aA⟩ _ a2 ⟨Hi, ρ, aU, cU, aT, rfl, HF⟩
 revert HF
 refine bb8 fun X85 eG eH aJ b0 b1 aN b2 => ?_
 have H := H fromx queue aA Hi
 obtain ⟨b3, b4, rfl⟩ := b0.shape
 refine Wq (Wg (Lv ok 0 [(28, .bool (decide (aA < (ln (List.replicate (Int.toNat (wr ((ln f.Rows) + (ln f.Cols)))) ((0 : Int)))))))] 1 rfl rfl (Ln _ rfl (Wq ?_))))
 refine Wc (decide (aA < (ln (List.replicate (Int.toNat (wr ((ln f.Rows) + (ln f.Cols)))) ((0 : Int)))))) rfl (fun hc => ?_) (fun hc => ?_)
 ·have H := H.1 hc
  refine Wk ?_
  have xc := (x.trans aE)
  have dj := (Df (ex.ext x) aF).symm
  have eI := (a8.ext x)
  have eJ := (Df eI aF).symm
  have eK := (a1.ext x)
  have eL := (Df eK aF).symm
  obtain ⟨U, hU⟩ : ∃ U : PH, U = (un aU aT) := ⟨_, rfl⟩
  have D128 : Dom U aU := Dom.eqv hU (Dom.l _ _)
  have D129 : Dom U aT := Dom.eqv hU (Ot (Dom.r _ _) (Or _))
  obtain ⟨k, hk, H⟩ := jn_elim H
  refine W_join2 (S := (List Int) × (List Int)) (fun s ρ' w' => k s.1 s.2 ∧ ∃ (ρ : Env) (bD : PH) (cV : Value) (bE : PH), ρ' = setAll [(0, pb b), (3, I (ln f.Rows)), (4, I (ln f.Cols)), (5, .slice aB (List.length (List.replicate (Int.toNat (wr ((ln f.Rows) + (ln f.Cols)))) ((0 : Int)))) aC), (6, cV), (26, I (ln (List.replicate (Int.toNat (wr ((ln f.Rows) + (ln f.Cols)))) ((0 : Int))))), (27, I aA)] ρ ∧ But U a2 w' ∧ OS 3 bD emp (.slice aB (List.length (List.replicate (Int.toNat (wr ((ln f.Rows) + (ln f.Cols)))) ((0 : Int)))) aC) s.1 ∧ Sub bD w' ∧ DomLe U a2.heap.size bD ∧ OS 3 bE emp cV s.2 ∧ Sub bE w' ∧ DomLe U a2.heap.size bE ∧ Dj bE bD) ?_ ?_
  ·refine W_block (Wq (Wg (Lv ok 0 [(29, I aA), (7, I aA)] 2 rfl rfl (Ln _ rfl (Wq (Wg (Lv ok 0 [(30, .slice aB (List.length (List.replicate (Int.toNat (wr ((ln f.Rows) + (ln f.Cols)))) ((0 : Int)))) aC), (31, I aA)] 2 rfl rfl ?_)))))))
   obtain ⟨hi, hl, H⟩ := H
   refine LP_indexw (v := .slice aB (List.length (List.replicate (Int.toNat (wr ((ln f.Rows) + (ln f.Cols)))) ((0 : Int)))) aC) 2 rfl rfl rfl Try.underlying22 ti_3 rfl rfl eG hi hl fun jP wa => (LP_set 3 rfl rfl rfl rfl rfl wa (Le.refl emp) ⟨_, rfl, rfl⟩ eH fun eM gY eN eO y dm => (Ln _ rfl ?_))
   have cW := (b1.but y b2.symm)
   obtain ⟨gZ, g0, H⟩ := jn_elim H
   refine W_join2 (S := Bool) (fun s ρ' w' => gZ s ∧ ∃ (ρ : Env), ρ' = setAll [(0, pb b), (3, I (ln f.Rows)), (4, I (ln f.Cols)), (5, .slice aB (List.length (List.replicate (Int.toNat (wr ((ln f.Rows) + (ln f.Cols)))) ((0 : Int)))) aC), (6, sl b3 queue b4), (7, I aA), (26, I (ln (List.replicate (Int.toNat (wr ((ln f.Rows) + (ln f.Cols)))) ((0 : Int))))), (27, I aA), (45, .bool s)] ρ ∧ gY = w') ?_ ?_
   ·refine Wg (Lv ok 0 [(33, I aA), (34, I (ln f.Rows)), (35, .bool (decide (aA < (ln f.Rows)))), (36, .bool (decide (aA < (ln f.Rows))))] 4 rfl rfl ?_)
    refine LP_split 36 (decide (aA < (ln f.Rows))) rfl (fun cX => ?_) (fun cX => ?_)
    ·have H := H.1 cX
     refine Lv ok 4 [(37, pb b), (38, pb b), (39, .pointer (some ⟨b, 5, none⟩))] 7 rfl rfl (Lb 7 (v := sl bV f.Rows bW) rfl rfl rfl ti_22 ag_22 (fun _ => rfl) rfl (((a1.ext xc).but X85 eL).but y (Mj aJ eL (eK.ext aE))) rfl rfl (Lv ok 8 [(41, I aA)] 9 rfl rfl ?_))
     obtain ⟨cY, g1, g2, H⟩ := H
     refine Li 9 rfl rfl rfl Try.underlying22 ti_3 rfl rfl bI.readf g1 g2 fun jQ cs g3 g4 => (Lo 10 rfl rfl rfl ti_3 ag_3 rfl g3 g4 (((a8.ext xc).but X85 eJ).but y (Mj aJ eJ (eI.ext aE))) fun jR g5 => ?_)
     obtain rfl := g5.int
     refine Lv ok 11 [(44, .bool (decide (cY > 0))), (45, .bool (decide (cY > 0)))] 13 rfl rfl ?_
     exact Ln _ rfl ⟨decide (cY > 0), H, _, Ee ⟨rfl, rfl, rfl, rfl, rfl, rfl, rfl, rfl, rfl, trivial⟩, rfl⟩
    have H := H.2 cX
    refine Lv ok 4 [(37, undef), (38, undef), (39, undef), (40, undef), (41, undef), (42, undef), (43, undef), (44, undef), (45, .bool false)] 13 rfl rfl ?_
    exact Ln _ rfl ⟨false, H, _, Ee ⟨rfl, rfl, rfl, rfl, rfl, rfl, rfl, rfl, rfl, trivial⟩, rfl⟩
   rintro g6 _ _ ⟨H, ρ, rfl, rfl⟩
   subst g0
   refine Wc (g6) rfl (fun cZ => ?_) (fun cZ => ?_)
   ·have H := H.1 cZ
    refine Wq (Wg (Lv ok 0 [(46, .slice aB (List.length (List.replicate (Int.toNat (wr ((ln f.Rows) + (ln f.Cols)))) ((0 : Int)))) aC), (47, I aA)] 2 rfl rfl ?_))
    obtain ⟨g7, g8, H⟩ := H
    refine LP_indexw (v := .slice aB (List.length (List.replicate (Int.toNat (wr ((ln f.Rows) + (ln f.Cols)))) ((0 : Int)))) aC) 2 rfl rfl rfl Try.underlying22 ti_3 rfl rfl eN g7 g8 fun jS g9 => (LP_set 3 rfl rfl rfl rfl rfl g9 (Le.refl emp) ⟨_, rfl, rfl⟩ eO fun hA jT hB eP c0 eQ => (Ln _ rfl (Wg (Lv ok 0 [(49, sl b3 queue b4), (50, I aA)] 2 rfl rfl ?_))))
    refine LP_lit (α := Int) (g := emp) 2 (vs := [I aA]) (xs := [aA]) rfl rfl rfl Try.underlying22 ti_3 rfl rfl ⟨⟨_, rfl, rfl⟩, trivial⟩ rfl rfl fun jU jV jW bK eR hC jX => ?_
    obtain ⟨jY, jZ, rfl⟩ := eR.shape
    have eS := (Mj (dm _) b2.symm b1)
    obtain ⟨j0, H⟩ := H
    refine LP_appendf (α := Int) 3 rfl rfl rfl Try.underlying22 ti_3 rfl rfl rfl b0 ((cW.but c0 eS).ext bK) eR.readf hC (by first | omega | (simp only [ln] at *; omega)) (by first | omega | (simp only [ln] at *; omega)) fun hD j1 j2 eT hE eU eV => ?_
    obtain ⟨eW, eX, rfl⟩ := eT.shape
    refine Lv ok 4 [(6, .slice eW (List.length (queue ++ ([aA]))) eX)] 5 rfl rfl (Ln _ rfl ?_)
    have dl : DomLe U a2.heap.size eM := (Mt (Oe D128 _) (dm _) (Nat.le_refl _))
    have eY := (Mj (eQ _) eS cW).symm
    exact ⟨(List.set (List.set fromx (Int.toNat aA) ((-2))) (Int.toNat aA) ((-1)), queue ++ ([aA])), H, _, hA, .slice eW (List.length (queue ++ ([aA]))) eX, hD, Ee ⟨rfl, rfl, rfl, rfl, rfl, rfl, rfl, trivial⟩, (((((Br U _).step y (Oe D128 _)).step c0 dl).stepx bK).step eU (Oe D129 _)), hB, ((eP.ext bK).but eU eY), (Mt dl (eQ _) y.size), eT, hE, (Mt (Oe D129 _) eV (Nat.le_trans (Nat.le_trans y.size c0.size) bK.size)), (Mj eV eY (eP.ext bK))⟩
   have H := H.2 cZ
   refine Wk ?_
   have hF := (Mj (dm _) b2.symm b1).symm
   exact ⟨(List.set fromx (Int.toNat aA) ((-2)), queue), H, _, eM, sl b3 queue b4, aT, Ee ⟨rfl, rfl, rfl, rfl, rfl, rfl, rfl, trivial⟩, ((Br U _).step y (Oe D128 _)), eN, eO, (Mt (Oe D128 _) (dm _) (Nat.le_refl _)), b0, cW, (Oe D129 _), hF⟩
  rintro ⟨hG, eZ⟩ _ j3 ⟨H, ρ, bD, cV, bE, rfl, HF⟩
  revert HF
  refine bb8 fun X133 hH hI hJ e0 hK hL hN => ?_
  subst hk
  obtain ⟨hO, hP, rfl⟩ := e0.shape
  refine Wg (Lv ok 0 [(53, I (wr (aA + 1))), (27, I (wr (aA + 1)))] 2 rfl rfl (Ln _ rfl ?_))
  have c1 : DomLe bC bZ.heap.size U := (DomLe.eqv hU (Mu (Mt (Oe (Or _) _) aJ (Nat.le_refl _)) (Mt (Oe (Or _) _) aN (Nat.le_refl _))))
  exact ⟨(hG, eZ, wr (aA + 1)), ⟨H.1, _, bD, sl hO eZ hP, bE, Ee ⟨rfl, rfl, rfl, rfl, rfl, rfl, rfl, trivial⟩, (((Br bC _).step X85 (Oe (Or _) _)).step X133 c1), hH, hI, (Mt c1 hJ X85.size), e0, hK, (Mt c1 hL X85.size), hN⟩, H.2⟩
 have H := H.2 hc
 refine W_exit ?_
 refine (if_pos rfl).mpr ?_
 refine Wq (Wq (Wg (Lv ok 0 [(8, I 0)] 1 rfl rfl (Ln _ rfl (W_block ?_)))))
 obtain ⟨U236, hU237⟩ : ∃ U : PH, U = (un aU aT) := ⟨_, rfl⟩
 have D238 : Dom U236 aU := Dom.eqv hU237 (Dom.l _ _)
 have D239 : Dom U236 aT := Dom.eqv hU237 (Ot (Dom.r _ _) (Or _))
 obtain ⟨J244, hQ, Hx246, H⟩ := H
 refine W_loop (S := (List Int) × (List Int) × Int) (fun s ρ' w' => J244 s.1 s.2.1 s.2.2 ∧ ∃ (ρ : Env) (a3 : PH) (c2 : Value) (a4 : PH), ρ' = setAll [(0, pb b), (3, I (ln f.Rows)), (4, I (ln f.Cols)), (5, .slice aB (List.length (List.replicate (Int.toNat (wr ((ln f.Rows) + (ln f.Cols)))) ((0 : Int)))) aC), (6, c2), (8, I s.2.2)] ρ ∧ But U236 a2 w' ∧ OS 3 a3 emp (.slice aB (List.length (List.replicate (Int.toNat (wr ((ln f.Rows) + (ln f.Cols)))) ((0 : Int)))) aC) s.1 ∧ Sub a3 w' ∧ DomLe U236 a2.heap.size a3 ∧ OS 3 a4 emp c2 s.2.1 ∧ Sub a4 w' ∧ DomLe U236 a2.heap.size a4 ∧ Dj a4 a3) (fun s => hQ s.1 s.2.1 s.2.2) (fromx, queue, 0) ⟨Hx246, _, aU, sl b3 queue b4, aT, Ee ⟨rfl, rfl, rfl, rfl, rfl, rfl, trivial⟩, (Br _ _), eG, eH, (Oe D238 _), b0, b1, (Oe D239 _), b2⟩ ?_
 rintro ⟨e1, aW, atx⟩ _ bF ⟨Hi, ρ, a3, c2, a4, rfl, HF⟩
 revert HF
 refine bb8 fun X243 e2 e3 aS c3 e4 aX hR => ?_
 have H := H e1 aW atx Hi
 obtain ⟨b5, b6, rfl⟩ := c3.shape
 refine Wq (Wq (Wg (Lv ok 0 [(54, I atx), (55, sl b5 aW b6), (56, I (ln aW)), (57, .bool (decide (atx < (ln aW))))] 4 rfl rfl (Ln _ rfl ?_))))
 refine Wc (decide (atx < (ln aW))) rfl (fun c4 => ?_) (fun c4 => ?_)
 ·have H := H.1 c4
  refine Wk (Wq (W_block (Wq (Wg (Lv ok 0 [(60, sl b5 aW b6), (61, I atx)] 2 rfl rfl ?_)))))
  obtain ⟨aO, hS, hT, H⟩ := H
  refine Li 2 rfl rfl rfl Try.underlying22 ti_3 rfl rfl c3.readf hS hT fun j4 j5 hV hW => (Lo 3 rfl rfl rfl ti_3 ag_3 rfl hV hW e4 fun j6 hX => ?_)
  obtain rfl := hX.int
  refine Lv ok 4 [(9, I aO)] 5 rfl rfl (Ln _ rfl (Wq ?_))
  have aY := (x.trans aE)
  have X260 := (X.stepx x)
  have hY := aF.mono X260.size
  have e5 := aF.mono X260.size
  have X263 := (X260.stepx aE)
  have hZ := DomLe.fresh aJ e5 X263.size
  have h0 := DomLe.fresh aN e5 X263.size
  have X266 := (((X.stepx aY).step X85 (hY.dom _)).step X243 (DomLe.eqv hU237 (Mu (hZ.dom _) (h0.dom _))))
  have e6 := (ex.ext x)
  have b7 := (Df e6 aF).symm
  have c5 := (e6.ext aE)
  have c6 := (Dl (Mj aJ b7 c5) (Mj aN b7 c5))
  have e7 := (((ex.ext aY).but X85 b7).but X243 (Dj.eqv hU237 c6))
  have e8 := (dW.ext x)
  have b8 := (Df e8 aF).symm
  have c7 := (e8.ext aE)
  have c8 := (Dl (Mj aJ b8 c7) (Mj aN b8 c7))
  have e9 := (((dW.ext aY).but X85 b8).but X243 (Dj.eqv hU237 c8))
  have fA := (dX.ext x)
  have b9 := (Df fA aF).symm
  have c9 := (fA.ext aE)
  have dA := (Dl (Mj aJ b9 c9) (Mj aN b9 c9))
  have fB := (((dX.ext aY).but X85 b9).but X243 (Dj.eqv hU237 dA))
  have fC := (dY.ext x)
  have cA := (Df fC aF).symm
  have dB := (fC.ext aE)
  have dC := (Dl (Mj aJ cA dB) (Mj aN cA dB))
  have fD := (((dY.ext aY).but X85 cA).but X243 (Dj.eqv hU237 dC))
  have fE := (bT.ext x)
  have bL := (Df fE aF).symm
  have cB := (fE.ext aE)
  have cC := (Dl (Mj aJ bL cB) (Mj aN bL cB))
  have fF := (((bT.ext aY).but X85 bL).but X243 (Dj.eqv hU237 cC))
  have fG := (a8.ext x)
  have bM := (Df fG aF).symm
  have cD := (fG.ext aE)
  have cE := (Dl (Mj aJ bM cD) (Mj aN bM cD))
  have fH := (((a8.ext aY).but X85 bM).but X243 (Dj.eqv hU237 cE))
  have fI := (bU.ext x)
  have bN := (Df fI aF).symm
  have cF := (fI.ext aE)
  have cG := (Dl (Mj aJ bN cF) (Mj aN bN cF))
  have dD := (((bU.ext aY).but X85 bN).but X243 (Dj.eqv hU237 cG))
  have fJ := (a1.ext x)
  have bO := (Df fJ aF).symm
  have cH := (fJ.ext aE)
  have cI := (Dl (Mj aJ bO cH) (Mj aN bO cH))
  have dE := (((a1.ext aY).but X85 bO).but X243 (Dj.eqv hU237 cI))
  obtain ⟨h1, h2, H⟩ := jn_elim H
  refine W_join2 (S := Bool) (fun s ρ' w' => h1 s ∧ ∃ (ρ : Env), ρ' = setAll [(0, pb b), (3, I (ln f.Rows)), (4, I (ln f.Cols)), (5, .slice aB (List.length (List.replicate (Int.toNat (wr ((ln f.Rows) + (ln f.Cols)))) ((0 : Int)))) aC), (6, sl b5 aW b6), (8, I atx), (9, I aO), (78, .bool s)] ρ ∧ bF = w') ?_ ?_
  ·refine Wg (Lv ok 0 [(64, I aO), (65, I (ln f.Rows)), (66, .bool (decide (aO ≥ (ln f.Rows)))), (67, .bool (decide (aO ≥ (ln f.Rows))))] 4 rfl rfl ?_)
   refine LP_split 67 (decide (aO ≥ (ln f.Rows))) rfl (fun dF => ?_) (fun dF => ?_)
   ·have H := H.1 dF
    refine Lv ok 4 [(68, pb b), (69, pb b), (70, .pointer (some ⟨b, 6, none⟩))] 7 rfl rfl (Lb 7 (v := sl bX f.Cols bY) rfl rfl rfl ti_22 ag_22 (fun _ => rfl) rfl dE rfl rfl (Lv ok 8 [(72, I aO), (73, I (ln f.Rows)), (74, I (wr (aO - (ln f.Rows))))] 11 rfl rfl ?_))
    obtain ⟨dG, h3, h4, H⟩ := H
    refine Li 11 rfl rfl rfl Try.underlying22 ti_3 rfl rfl bJ.readf h3 h4 fun j7 j8 h5 h6 => (Lo 12 rfl rfl rfl ti_3 ag_3 rfl h5 h6 dD fun j9 h7 => ?_)
    obtain rfl := h7.int
    refine Lv ok 13 [(77, .bool (decide (dG > 0))), (78, .bool (decide (dG > 0)))] 15 rfl rfl ?_
    exact Ln _ rfl ⟨decide (dG > 0), H, _, Ee ⟨rfl, rfl, rfl, rfl, rfl, rfl, rfl, rfl, trivial⟩, rfl⟩
   have H := H.2 dF
   refine Lv ok 4 [(68, undef), (69, undef), (70, undef), (71, undef), (72, undef), (73, undef), (74, undef), (75, undef), (76, undef), (77, undef), (78, .bool false)] 15 rfl rfl ?_
   exact Ln _ rfl ⟨false, H, _, Ee ⟨rfl, rfl, rfl, rfl, rfl, rfl, rfl, rfl, trivial⟩, rfl⟩
  rintro h8 _ _ ⟨H, ρ, rfl, rfl⟩
  subst h2
  refine Wc (h8) rfl (fun dH => ?_) (fun dH => ?_)
  ·have H := H.1 dH
   refine Wq (Wg (Lv ok 0 [(79, pb b), (80, .slice aB (List.length (List.replicate (Int.toNat (wr ((ln f.Rows) + (ln f.Cols)))) ((0 : Int)))) aC), (81, I aO)] 3 rfl rfl ?_))
   have h9 := (Mj aS (Dj.eqv hU237 cC) (cB.but X85 bL)).symm
   have iA := (Mj aS (Dj.eqv hU237 cE) (cD.but X85 bM)).symm
   have iB := (Mj aS (Dj.eqv hU237 cG) (cF.but X85 bN)).symm
   have iC := (Mj aS (Dj.eqv hU237 cI) (cH.but X85 bO)).symm
   refine Lc 3 rfl rfl rfl cal_104 rfl (spec_tFill_push_w _ _ _ _ H bF r e7 cR e9 cS fB cT fD bS fF bI fH bJ dD dE e2.readf e3 d dZ d0 d1 d2 d3 gH gI gJ gK h9 gL gM gN gO iA gP gQ gR gS iB gT gU gV gW iC) ?_
   rintro _ kA ⟨kB, kC, kD, kE, kF, kG, kH, kI, kJ, H, rfl, iD, HF⟩
   revert HF
   refine bb9 fun fK iE iF fL iG iH fM iI => ?_
   refine bb8 fun iJ iK iL iM iN iO iP iQ => ?_
   obtain ⟨kK, kL, rfl⟩ := fK.shape
   obtain ⟨kM, kN, rfl⟩ := fL.shape
   obtain ⟨kO, kP, rfl⟩ := fM.shape
   refine Ln _ rfl (Wq (Wg (Lv ok 0 [(2, .bool true)] 1 rfl rfl (Ln _ rfl (W_ret ?_)))))
   subst hM
   exact ⟨_, Ret_of [.bool true] ⟨⟨rfl, rfl⟩, trivial⟩, _, _, _, _, _, _, _, _, _, _, H, rfl, (X266.step iD (Mu (Oe D _) (Mu (Oe D59 _) (Mu (Oe D60 _) (Oe D61 _))))), fK, iE, (Mt (Mu (Oe D _) (Mu (Oe D59 _) (Mu (Oe D60 _) (Oe D61 _)))) iF X266.size), fL, iG, (Mt (Mu (Oe D _) (Mu (Oe D59 _) (Mu (Oe D60 _) (Oe D61 _)))) iH X266.size), fM, iI, (Mt (Mu (Oe D _) (Mu (Oe D59 _) (Mu (Oe D60 _) (Oe D61 _)))) iJ X266.size), iK, iL, iM, iN, iO, iP, iQ⟩
  have H := H.2 dH
  refine Wk (Wq (Wg (Lv ok 0 [(10, I 0)] 1 rfl rfl (Ln _ rfl (W_block ?_)))))
  obtain ⟨U400, hU401⟩ : ∃ U : PH, U = (un a3 a4) := ⟨_, rfl⟩
  have D402 : Dom U400 a3 := Dom.eqv hU401 (Dom.l _ _)
  have D403 : Dom U400 a4 := Dom.eqv hU401 (Ot (Dom.r _ _) (Or _))
  obtain ⟨J408, iR, Hx410, H⟩ := H
  refine W_loop (S := (List Int) × (List Int) × Int) (fun s ρ' w' => J408 s.1 s.2.1 s.2.2 ∧ ∃ (ρ : Env) (aZ : PH) (dI : Value) (a0 : PH), ρ' = setAll [(0, pb b), (3, I (ln f.Rows)), (4, I (ln f.Cols)), (5, .slice aB (List.length (List.replicate (Int.toNat (wr ((ln f.Rows) + (ln f.Cols)))) ((0 : Int)))) aC), (6, dI), (8, I atx), (9, I aO), (10, I s.2.2)] ρ ∧ But U400 bF w' ∧ OS 3 aZ emp (.slice aB (List.length (List.replicate (Int.toNat (wr ((ln f.Rows) + (ln f.Cols)))) ((0 : Int)))) aC) s.1 ∧ Sub aZ w' ∧ DomLe U400 bF.heap.size aZ ∧ OS 3 a0 emp dI s.2.1 ∧ Sub a0 w' ∧ DomLe U400 bF.heap.size a0 ∧ Dj a0 aZ) (fun s => iR s.1 s.2.1 s.2.2) (e1, aW, 0) ⟨Hx410, _, a3, sl b5 aW b6, a4, Ee ⟨rfl, rfl, rfl, rfl, rfl, rfl, rfl, rfl, trivial⟩, (Br _ _), e2, e3, (Oe D402 _), c3, e4, (Oe D403 _), hR⟩ ?_
  rintro ⟨cJ, aV, aD⟩ _ bP ⟨Hi, ρ, aZ, dI, a0, rfl, HF⟩
  revert HF
  refine bb8 fun X407 cK cL fN cM cN fO cO => ?_
  have H := H cJ aV aD Hi
  obtain ⟨cP, cQ, rfl⟩ := cM.shape
  refine Wq (Wq (Wg (Lv ok 0 [(83, I aD), (84, I (ln f.Rows)), (85, I (ln f.Cols)), (86, I (wr ((ln f.Rows) + (ln f.Cols)))), (87, .bool (decide (aD < (wr ((ln f.Rows) + (ln f.Cols))))))] 5 rfl rfl (Ln _ rfl ?_))))
  refine Wc (decide (aD < (wr ((ln f.Rows) + (ln f.Cols))))) rfl (fun dJ => ?_) (fun dJ => ?_)
  ·have H := H.1 dJ
   refine Wk ?_
   have fP := (c5.but X85 b7)
   have fQ := (c7.but X85 b8)
   have fR := (c9.but X85 b9)
   have fS := (dB.but X85 cA)
   have fT := (cB.but X85 bL)
   have fU := (cD.but X85 bM)
   have fV := (cF.but X85 bN)
   have fW := (cH.but X85 bO)
   obtain ⟨U470, hU471⟩ : ∃ U : PH, U = (un aZ a0) := ⟨_, rfl⟩
   have D472 : Dom U470 aZ := Dom.eqv hU471 (Dom.l _ _)
   have D473 : Dom U470 a0 := Dom.eqv hU471 (Ot (Dom.r _ _) (Or _))
   obtain ⟨iS, iT, H⟩ := jn_elim H
   refine W_join2 (S := (List Int) × (List Int)) (fun s ρ' w' => iS s.1 s.2 ∧ ∃ (ρ : Env) (bG : PH) (dK : Value) (bH : PH), ρ' = setAll [(0, pb b), (3, I (ln f.Rows)), (4, I (ln f.Cols)), (5, .slice aB (List.length (List.replicate (Int.toNat (wr ((ln f.Rows) + (ln f.Cols)))) ((0 : Int)))) aC), (6, dK), (8, I atx), (9, I aO), (10, I aD)] ρ ∧ But U470 bP w' ∧ OS 3 bG emp (.slice aB (List.length (List.replicate (Int.toNat (wr ((ln f.Rows) + (ln f.Cols)))) ((0 : Int)))) aC) s.1 ∧ Sub bG w' ∧ DomLe U470 bP.heap.size bG ∧ OS 3 bH emp dK s.2 ∧ Sub bH w' ∧ DomLe U470 bP.heap.size bH ∧ Dj bH bG) ?_ ?_
   ·refine W_block ?_
    obtain ⟨iU, iV, H⟩ := jn_elim H
    refine W_join2 (S := Bool) (fun s ρ' w' => iU s ∧ ∃ (ρ : Env), ρ' = setAll [(0, pb b), (3, I (ln f.Rows)), (4, I (ln f.Cols)), (5, .slice aB (List.length (List.replicate (Int.toNat (wr ((ln f.Rows) + (ln f.Cols)))) ((0 : Int)))) aC), (6, sl cP aV cQ), (8, I atx), (9, I aO), (10, I aD), (101, .bool s)] ρ ∧ Ext bP w') ?_ ?_
    ·refine Wg (Lv ok 0 [(90, .slice aB (List.length (List.replicate (Int.toNat (wr ((ln f.Rows) + (ln f.Cols)))) ((0 : Int)))) aC), (91, I aD)] 2 rfl rfl ?_)
     obtain ⟨dL, iW, iX, H⟩ := H
     refine Li 2 rfl rfl rfl Try.underlying22 ti_3 rfl rfl cK.readf iW iX fun kQ kR iY iZ => (Lo 3 rfl rfl rfl ti_3 ag_3 rfl iY iZ cL fun kS i0 => ?_)
     obtain rfl := i0.int
     refine Lv ok 4 [(94, .bool (dL == ((-2)))), (95, .bool (dL == ((-2))))] 6 rfl rfl ?_
     refine LP_split 95 (dL == ((-2))) rfl (fun dM => ?_) (fun dM => ?_)
     ·have H := H.1 dM
      refine Lv ok 6 [(96, pb b), (97, I aO), (98, I aD)] 9 rfl rfl (Lc 9 rfl rfl rfl cal_105 rfl (spec_tFill_room_w _ _ _ _ H bP r (e7.but X407 (Dj.eqv hU401 (Dl (Mj aS (Dj.eqv hU237 c6) fP) (Mj aX (Dj.eqv hU237 c6) fP)))) cR (e9.but X407 (Dj.eqv hU401 (Dl (Mj aS (Dj.eqv hU237 c8) fQ) (Mj aX (Dj.eqv hU237 c8) fQ)))) cS (fB.but X407 (Dj.eqv hU401 (Dl (Mj aS (Dj.eqv hU237 dA) fR) (Mj aX (Dj.eqv hU237 dA) fR)))) cT (fD.but X407 (Dj.eqv hU401 (Dl (Mj aS (Dj.eqv hU237 dC) fS) (Mj aX (Dj.eqv hU237 dC) fS)))) bS.readf (fF.but X407 (Dj.eqv hU401 (Dl (Mj aS (Dj.eqv hU237 cC) fT) (Mj aX (Dj.eqv hU237 cC) fT)))) bI.readf (fH.but X407 (Dj.eqv hU401 (Dl (Mj aS (Dj.eqv hU237 cE) fU) (Mj aX (Dj.eqv hU237 cE) fU)))) bJ.readf (dD.but X407 (Dj.eqv hU401 (Dl (Mj aS (Dj.eqv hU237 cG) fV) (Mj aX (Dj.eqv hU237 cG) fV)))) (dE.but X407 (Dj.eqv hU401 (Dl (Mj aS (Dj.eqv hU237 cI) fW) (Mj aX (Dj.eqv hU237 cI) fW))))) ?_)
      rintro _ kT ⟨dN, H, rfl, i1⟩
      refine Lv ok 10 [(100, .bool (decide (dN > 0))), (101, .bool (decide (dN > 0)))] 12 rfl rfl ?_
      exact Ln _ rfl ⟨decide (dN > 0), H, _, Ee ⟨rfl, rfl, rfl, rfl, rfl, rfl, rfl, rfl, rfl, trivial⟩, i1⟩
     have H := H.2 dM
     refine Lv ok 6 [(96, undef), (97, undef), (98, undef), (99, undef), (100, undef), (101, .bool false)] 12 rfl rfl ?_
     exact Ln _ rfl ⟨false, H, _, Ee ⟨rfl, rfl, rfl, rfl, rfl, rfl, rfl, rfl, rfl, trivial⟩, (Ext.refl _)⟩
    rintro i2 _ kU ⟨H, ρ, rfl, X482⟩
    subst iV
    refine Wc (i2) rfl (fun dO => ?_) (fun dO => ?_)
    ·have H := H.1 dO
     refine Wq (Wg (Lv ok 0 [(102, .slice aB (List.length (List.replicate (Int.toNat (wr ((ln f.Rows) + (ln f.Cols)))) ((0 : Int)))) aC), (103, I aD), (104, I aO)] 3 rfl rfl ?_))
     obtain ⟨i3, i4, H⟩ := H
     refine LP_indexw (v := .slice aB (List.length (List.replicate (Int.toNat (wr ((ln f.Rows) + (ln f.Cols)))) ((0 : Int)))) aC) 3 rfl rfl rfl Try.underlying22 ti_3 rfl rfl cK i3 i4 fun kV i5 => (LP_set 4 rfl rfl rfl rfl rfl i5 (Le.refl emp) ⟨_, rfl, rfl⟩ (cL.ext X482) fun i6 kW i7 fX dP fY => (Ln _ rfl (Wg (Lv ok 0 [(106, sl cP aV cQ), (107, I aD)] 2 rfl rfl ?_))))
     refine LP_lit (α := Int) (g := emp) 2 (vs := [I aD]) (xs := [aD]) rfl rfl rfl Try.underlying22 ti_3 rfl rfl ⟨⟨_, rfl, rfl⟩, trivial⟩ rfl rfl fun kX kY kZ bQ fZ i9 k0 => ?_
     obtain ⟨k1, k2, rfl⟩ := fZ.shape
     obtain ⟨k3, H⟩ := H
     refine LP_appendf (α := Int) 3 rfl rfl rfl Try.underlying22 ti_3 rfl rfl rfl cM (((cN.ext X482).but dP cO.symm).ext bQ) fZ.readf i9 (by first | omega | (simp only [ln] at *; omega)) (by first | omega | (simp only [ln] at *; omega)) fun jA k4 k5 f0 jB f1 f2 => ?_
     obtain ⟨f3, f4, rfl⟩ := f0.shape
     refine Lv ok 4 [(6, .slice f3 (List.length (aV ++ ([aD]))) f4)] 5 rfl rfl (Ln _ rfl ?_)
     have f5 := (Mj (fY _) cO.symm (cN.ext X482)).symm
     exact ⟨(List.set cJ (Int.toNat aD) aO, aV ++ ([aD])), H, _, i6, .slice f3 (List.length (aV ++ ([aD]))) f4, jA, Ee ⟨rfl, rfl, rfl, rfl, rfl, rfl, rfl, rfl, trivial⟩, (((((Br U470 _).stepx X482).step dP (Oe D472 _)).stepx bQ).step f1 (Oe D473 _)), i7, ((fX.ext bQ).but f1 f5), (Mt (Oe D472 _) (fY _) X482.size), f0, jB, (Mt (Oe D473 _) f2 (Nat.le_trans (Nat.le_trans X482.size dP.size) bQ.size)), (Mj f2 f5 (fX.ext bQ))⟩
    have H := H.2 dO
    exact Wk ⟨(cJ, aV), H, _, aZ, sl cP aV cQ, a0, Ee ⟨rfl, rfl, rfl, rfl, rfl, rfl, rfl, rfl, trivial⟩, ((Br U470 _).stepx X482), cK, (cL.ext X482), (Oe D472 _), cM, (cN.ext X482), (Oe D473 _), cO⟩
   rintro ⟨jC, f6⟩ _ k6 ⟨H, ρ, bG, dK, bH, rfl, HF⟩
   revert HF
   refine bb8 fun X477 jD jE jF f7 jG jH jI => ?_
   subst iT
   obtain ⟨jJ, jK, rfl⟩ := f7.shape
   refine Wg (Lv ok 0 [(88, I aD), (89, I (wr (aD + 1))), (10, I (wr (aD + 1)))] 3 rfl rfl (Ln _ rfl ?_))
   have dQ : DomLe U400 bF.heap.size U470 := (DomLe.eqv hU471 (Mu (Mt (Oe (Or _) _) fN (Nat.le_refl _)) (Mt (Oe (Or _) _) fO (Nat.le_refl _))))
   exact ⟨(jC, f6, wr (aD + 1)), ⟨H.1, _, bG, sl jJ f6 jK, bH, Ee ⟨rfl, rfl, rfl, rfl, rfl, rfl, rfl, rfl, trivial⟩, (((Br U400 _).step X407 (Oe (Or _) _)).step X477 dQ), jD, jE, (Mt dQ jF X407.size), f7, jG, (Mt dQ jH X407.size), jI⟩, H.2⟩
  have H := H.2 dJ
  refine W_exit ?_
  refine (if_pos rfl).mpr ?_
  refine Wg (Lv ok 0 [(58, I atx), (59, I (wr (atx + 1))), (8, I (wr (atx + 1)))] 3 rfl rfl (Ln _ rfl ?_))
  have dR : DomLe U236 a2.heap.size U400 := (DomLe.eqv hU401 (Mu (Mt (Oe (Or _) _) aS (Nat.le_refl _)) (Mt (Oe (Or _) _) aX (Nat.le_refl _))))
  exact ⟨(cJ, aV, wr (atx + 1)), ⟨H.1, _, aZ, sl cP aV cQ, a0, Ee ⟨rfl, rfl, rfl, rfl, rfl, rfl, trivial⟩, (((Br U236 _).step X243 (Oe (Or _) _)).step X407 dR), cK, cL, (Mt dR fN X243.size), cM, cN, (Mt dR fO X243.size), cO⟩, H.2⟩
 have H := H.2 c4
 refine W_exit ?_
 refine (if_pos rfl).mpr ?_
 refine Wq (Wg (Lv ok 0 [(2, .bool false)] 1 rfl rfl (Ln _ rfl (W_ret ?_))))
 have bR := (x.trans aE)
 have f8 := (bT.ext x)
 have dS := (Df f8 aF).symm
 have f9 := (f8.ext aE)
 have gA := (a8.ext x)
 have dT := (Df gA aF).symm
 have gB := (gA.ext aE)
 have gC := (bU.ext x)
 have dU := (Df gC aF).symm
 have gD := (gC.ext aE)
 have gE := (a1.ext x)
 have dV := (Df gE aF).symm
 have gF := (gE.ext aE)
 have X584 := (X.stepx x)
 have jL := aF.mono X584.size
 have gG := aF.mono X584.size
 have X587 := (X584.stepx aE)
 have jM := DomLe.fresh aJ gG X587.size
 have jN := DomLe.fresh aN gG X587.size
 subst hM
 exact ⟨_, Ret_of [.bool false] ⟨⟨rfl, rfl⟩, trivial⟩, _, _, _, _, _, _, _, _, _, _, H, rfl, (((X.stepx bR).step X85 (jL.dom _)).step X243 (DomLe.eqv hU237 (Mu (jM.dom _) (jN.dom _)))), bS, (((bT.ext bR).but X85 dS).but X243 (Dj.eqv hU237 (Dl (Mj aJ dS f9) (Mj aN dS f9)))), (Oe D _), bI, (((a8.ext bR).but X85 dT).but X243 (Dj.eqv hU237 (Dl (Mj aJ dT gB) (Mj aN dT gB)))), (Oe D59 _), bJ, (((bU.ext bR).but X85 dU).but X243 (Dj.eqv hU237 (Dl (Mj aJ dU gD) (Mj aN dU gD)))), (Oe D60 _), (((a1.ext bR).but X85 dV).but X243 (Dj.eqv hU237 (Dl (Mj aJ dV gF) (Mj aN dV gF)))), d, dZ, d0, d1, d2, d3⟩

theorem spec_tFilled_w (t : Transport) (Q : TFill → Bool → Prop) (H : spec_tFilled t Q) (w : World) {vx : Value} {hx : PH} (r : RS hx vx t.Rows) (ex : Sub hx w) {c1 : Value} {aC : PH} (c2 : RS aC c1 t.Cols) (eH : Sub aC w) {c3 : Value} {aD : PH} (c4 : RS aD c3 t.Lo) (eI : Sub aD w) {c5 : Value} {aE : PH} (c6 : RS aE c5 t.Hi) (eJ : Sub aE w) :
  CallsTo Try.prog 66 #[.agg #[vx, c1, c3, c5]] w fun v w' => ∃ aF c7 u0_0 g0_0 u0_1 g0_1 u0_2 g0_2 u0_3 g0_3 u0_4 g0_4 u0_5 g0_5 u0_6 g0_6 b0_, Q aF c7 ∧ v = .tuple #[pb b0_, .bool c7] ∧ Ext w w' ∧ RS g0_0 u0_0 aF.T.Rows ∧ Sub g0_0 w' ∧ DomLe (un hx (un aC (un aD aE))) w.heap.size g0_0 ∧ RS g0_1 u0_1 aF.T.Cols ∧ Sub g0_1 w' ∧ DomLe (un hx (un aC (un aD aE))) w.heap.size g0_1 ∧ RS g0_2 u0_2 aF.T.Lo ∧ Sub g0_2 w' ∧ DomLe (un hx (un aC (un aD aE))) w.heap.size g0_2 ∧ RS g0_3 u0_3 aF.T.Hi ∧ Sub g0_3 w' ∧ DomLe (un hx (un aC (un aD aE))) w.heap.size g0_3 ∧ OD g0_4 u0_4 aF.X ∧ Sub g0_4 w' ∧ Fresh w.heap.size g0_4 ∧ OS 3 g0_5 emp u0_5 aF.Rows ∧ Sub g0_5 w' ∧ Fresh w.heap.size g0_5 ∧ OS 3 g0_6 emp u0_6 aF.Cols ∧ Sub g0_6 w' ∧ Fresh w.heap.size g0_6 ∧ Sub (bx b0_ 85 [u0_0, u0_1, u0_2, u0_3, u0_4, u0_5, u0_6]) w' ∧ Fresh w.heap.size (bx b0_ 85 [u0_0, u0_1, u0_2, u0_3, u0_4, u0_5, u0_6]) ∧ Dj g0_0 g0_4 ∧ Dj g0_0 g0_5 ∧ Dj g0_0 g0_6 ∧ Dj g0_0 (bx b0_ 85 [u0_0, u0_1, u0_2, u0_3, u0_4, u0_5, u0_6]) ∧ Dj g0_1 g0_4 ∧ Dj g0_1 g0_5 ∧ Dj g0_1 g0_6 ∧ Dj g0_1 (bx b0_ 85 [u0_0, u0_1, u0_2, u0_3, u0_4, u0_5, u0_6]) ∧ Dj g0_2 g0_4 ∧ Dj g0_2 g0_5 ∧ Dj g0_2 g0_6 ∧ Dj g0_2 (bx b0_ 85 [u0_0, u0_1, u0_2, u0_3, u0_4, u0_5, u0_6]) ∧ Dj g0_3 g0_4 ∧ Dj g0_3 g0_5 ∧ Dj g0_3 g0_6 ∧ Dj g0_3 (bx b0_ 85 [u0_0, u0_1, u0_2, u0_3, u0_4, u0_5, u0_6]) ∧ Dj g0_4 g0_5 ∧ Dj g0_4 g0_6 ∧ Dj g0_4 (bx b0_ 85 [u0_0, u0_1, u0_2, u0_3, u0_4, u0_5, u0_6]) ∧ Dj g0_5 g0_6 ∧ Dj g0_5 (bx b0_ 85 [u0_0, u0_1, u0_2, u0_3, u0_4, u0_5, u0_6]) ∧ Dj g0_6 (bx b0_ 85 [u0_0, u0_1, u0_2, u0_3, u0_4, u0_5, u0_6]) := by
 obtain ⟨a, c, rfl⟩ := r.shape
 obtain ⟨bU, bV, rfl⟩ := c2.shape
 obtain ⟨bW, bX, rfl⟩ := c4.shape
 obtain ⟨bY, bZ, rfl⟩ := c6.shape
 refine enter (args := [.agg #[sl a t.Rows c, sl bU t.Cols bV, sl bW t.Lo bX, sl bY t.Hi bZ]]) 17 Try.func66 rfl rfl rfl ?_
 refine Wo [(0, .agg #[sl a t.Rows c, sl bU t.Cols bV, sl bW t.Lo bX, sl bY t.Hi bZ])] ⟨rfl, trivial⟩ fun ρ => ?_
 have D : Dom (un hx (un aC (un aD aE))) hx := (Dom.l _ _)
 have D19 : Dom (un hx (un aC (un aD aE))) aC := (Ot (Dom.r _ _) (Dom.l _ _))
 have D20 : Dom (un hx (un aC (un aD aE))) aD := (Ot (Dom.r _ _) (Ot (Dom.r _ _) (Dom.l _ _)))
 have D21 : Dom (un hx (un aC (un aD aE))) aE := (Ot (Dom.r _ _) (Ot (Dom.r _ _) (Ot (Dom.r _ _) (Or _))))
 have X := Br emp w
 refine Wq (Wg (Ly 0 (cs := [sl a t.Rows c, sl bU t.Cols bV, sl bW t.Lo bX, sl bY t.Hi bZ]) rfl rfl rfl rfl rfl fun b wx x eK f => (Lv ok 1 [(2, .pointer none), (3, .bool false)] 3 rfl rfl (Ln _ rfl (Wq (Wg (Lb 0 (v := .agg #[sl a t.Rows c, sl bU t.Cols bV, sl bW t.Lo bX, sl bY t.Hi bZ]) rfl rfl rfl ti_29 ag_29 (fun h => by cases h) rfl eK rfl rfl ?_)))))))
 refine Lc 1 rfl rfl rfl cal_98 rfl (spec_tStart_w _ _ H wx r (ex.ext x) c2 (eH.ext x) c4 (eI.ext x) c6 (eJ.ext x)) ?_
 rintro _ aN ⟨aA, aO, fN, cG, fO, cH, fP, cI, fQ, cJ, fR, cK, fS, cL, fT, cM, aB, H, rfl, c8, HF⟩
 revert HF
 refine bb9 fun o a6 c9 b0 a7 dA b1 a8 => ?_
 refine bb9 fun dB b2 a9 dC cN dD dE cO => ?_
 refine bb9 fun dF dG cP dH dI dJ cQ d => ?_
 refine bb9 fun dK dL aG dM dN dO aH dP => ?_
 refine bb9 fun dQ dR aI dS dT dU aJ dV => ?_
 refine bb5 fun dW dX dY dZ d0 => ?_
 obtain ⟨aP, aQ, rfl⟩ := o.shape
 obtain ⟨aR, aS, rfl⟩ := b0.shape
 obtain ⟨aT, aU, rfl⟩ := b1.shape
 obtain ⟨aV, aW, rfl⟩ := b2.shape
 obtain ⟨cR, cS, rfl⟩ := cN.shape
 obtain ⟨cT, cU, rfl⟩ := cO.shape
 obtain ⟨cV, cW, rfl⟩ := cP.shape
 refine Lv ok 2 [(6, .tuple #[pb aB, .bool aO]), (9, pb aB), (10, .bool aO), (4, pb aB), (5, .bool aO)] 7 rfl rfl (Ln _ rfl (Wq (Wq (Wg (Lv ok 0 [(11, .bool aO), (12, .bool (!aO))] 2 rfl rfl (Ln _ rfl ?_))))))
 refine Wc (!aO) rfl (fun hc => ?_) (fun hc => ?_)
 ·have H := H.1 hc
  refine Wq (Wg (Lv ok 0 [(13, pb aB), (2, pb aB), (3, .bool false)] 3 rfl rfl (Ln _ rfl (W_ret ?_))))
  have X103 := (X.stepx x)
  have eL := dE.mono X103.size
  have eM := dG.mono X103.size
  have eN := dI.mono X103.size
  have eO := cQ.mono X103.size
  exact ⟨_, Ret_of [pb aB, .bool false] ⟨⟨rfl, rfl⟩, ⟨rfl, rfl⟩, trivial⟩, _, _, _, _, _, _, _, _, _, _, _, _, _, _, _, _, _, H, rfl, (X103.stepx c8).ext, o, a6, (Mt (Mu (Oe D _) (Mu (Oe D19 _) (Mu (Oe D20 _) (Oe D21 _)))) c9 X103.size), b0, a7, (Mt (Mu (Oe D _) (Mu (Oe D19 _) (Mu (Oe D20 _) (Oe D21 _)))) dA X103.size), b1, a8, (Mt (Mu (Oe D _) (Mu (Oe D19 _) (Mu (Oe D20 _) (Oe D21 _)))) dB X103.size), b2, a9, (Mt (Mu (Oe D _) (Mu (Oe D19 _) (Mu (Oe D20 _) (Oe D21 _)))) dC X103.size), cN, dD, eL, cO, dF, eM, cP, dH, eN, dJ, eO, d, dK, dL, aG, dM, dN, dO, aH, dP, dQ, dR, aI, dS, dT, dU, aJ, dV, dW, dX, dY, dZ, d0⟩
 have H := H.2 hc
 refine Wk (Wq (W_block ?_))
 obtain ⟨U, hU⟩ : ∃ U : PH, U = (un cK (un cL (un cM (bx aB 85 [sl aP aA.T.Rows aQ, sl aR aA.T.Cols aS, sl aT aA.T.Lo aU, sl aV aA.T.Hi aW, sl cR aA.X cS, sl cT aA.Rows cU, sl cV aA.Cols cW])))) := ⟨_, rfl⟩
 have D126 : Dom U cK := Dom.eqv hU (Dom.l _ _)
 have D127 : Dom U cL := Dom.eqv hU (Ot (Dom.r _ _) (Dom.l _ _))
 have D128 : Dom U cM := Dom.eqv hU (Ot (Dom.r _ _) (Ot (Dom.r _ _) (Dom.l _ _)))
 have D129 : Dom U (bx aB 85 [sl aP aA.T.Rows aQ, sl aR aA.T.Cols aS, sl aT aA.T.Lo aU, sl aV aA.T.Hi aW, sl cR aA.X cS, sl cT aA.Rows cU, sl cV aA.Cols cW]) := Dom.eqv hU (Ot (Dom.r _ _) (Ot (Dom.r _ _) (Ot (Dom.r _ _) (Or _))))
 obtain ⟨J, m, Hx, H⟩ := H
 refine W_loop (S := (List (List Int)) × (List Int) × (List Int)) (fun s ρ' w' => J s.1 s.2.1 s.2.2 ∧ ∃ (ρ : Env) (aX : Value) (aK : PH) (aY : Value) (aL : PH) (aZ : Value) (aM : PH), ρ' = setAll [(4, pb aB)] ρ ∧ But U aN w' ∧ OD aK aX s.1 ∧ Sub aK w' ∧ DomLe U aN.heap.size aK ∧ OS 3 aL emp aY s.2.1 ∧ Sub aL w' ∧ DomLe U aN.heap.size aL ∧ OS 3 aM emp aZ s.2.2 ∧ Sub aM w' ∧ DomLe U aN.heap.size aM ∧ Sub (bx aB 85 [sl aP aA.T.Rows aQ, sl aR aA.T.Cols aS, sl aT aA.T.Lo aU, sl aV aA.T.Hi aW, aX, aY, aZ]) w' ∧ Dj aK (bx aB 85 [sl aP aA.T.Rows aQ, sl aR aA.T.Cols aS, sl aT aA.T.Lo aU, sl aV aA.T.Hi aW, aX, aY, aZ]) ∧ Dj aL (bx aB 85 [sl aP aA.T.Rows aQ, sl aR aA.T.Cols aS, sl aT aA.T.Lo aU, sl aV aA.T.Hi aW, aX, aY, aZ]) ∧ Dj aL aK ∧ Dj aM (bx aB 85 [sl aP aA.T.Rows aQ, sl aR aA.T.Cols aS, sl aT aA.T.Lo aU, sl aV aA.T.Hi aW, aX, aY, aZ]) ∧ Dj aM aK ∧ Dj aM aL) (fun s => m s.1 s.2.1 s.2.2) (aA.X, aA.Rows, aA.Cols) ⟨Hx, _, sl cR aA.X cS, cK, sl cT aA.Rows cU, cL, sl cV aA.Cols cW, cM, Ee ⟨rfl, trivial⟩, (Br _ _), cN, dD, (Oe D126 _), cO, dF, (Oe D127 _), cP, dH, (Oe D128 _), dJ, dX, dZ, dV.symm, d0, dW.symm, dY.symm⟩ ?_
 rintro ⟨eP, rows, cols⟩ _ eQ ⟨Hi, ρ, aX, aK, aY, aL, aZ, aM, rfl, HF⟩
 revert HF
 refine bb9 fun X143 d1 eR a0 d2 eS a1 d3 => ?_
 refine bb9 fun eT a2 eU eV eW eX eY eZ e0 => ?_
 have H := H eP rows cols Hi
 obtain ⟨fU, fV, rfl⟩ := d1.shape
 obtain ⟨fW, fX, rfl⟩ := d2.shape
 obtain ⟨fY, fZ, rfl⟩ := d3.shape
 refine Wq (Wq (Wg (Lv ok 0 [(14, pb aB)] 1 rfl rfl ?_)))
 have dj := (Dl dL.symm aG.symm)
 have b3 := (Dl d.symm (Dl dK.symm dj))
 have bA := (Mj a0 (Dj.eqv hU b3) a6)
 have b4 := (Dl dM.symm (Dl dN.symm (Dl dO.symm aH.symm)))
 have bB := (Mj a0 (Dj.eqv hU b4) a7)
 have b5 := (Dl dP.symm (Dl dQ.symm (Dl dR.symm aI.symm)))
 have bC := (Mj a0 (Dj.eqv hU b5) a8)
 have b6 := (Dl dS.symm (Dl dT.symm (Dl dU.symm aJ.symm)))
 have bD := (Mj a0 (Dj.eqv hU b6) a9)
 have bE := (Mj a1 (Dj.eqv hU b3) a6)
 have bF := (Mj a1 (Dj.eqv hU b4) a7)
 have bG := (Mj a1 (Dj.eqv hU b5) a8)
 have bH := (Mj a1 (Dj.eqv hU b6) a9)
 have bI := (Mj a2 (Dj.eqv hU b3) a6)
 have bJ := (Mj a2 (Dj.eqv hU b4) a7)
 have bK := (Mj a2 (Dj.eqv hU b5) a8)
 have bL := (Mj a2 (Dj.eqv hU b6) a9)
 have bM := (a6.but X143 (Dj.eqv hU b3))
 have bN := (a7.but X143 (Dj.eqv hU b4))
 have bO := (a8.but X143 (Dj.eqv hU b5))
 have bP := (a9.but X143 (Dj.eqv hU b6))
 refine Lc 1 rfl rfl rfl cal_99 rfl (spec_tFill_augment_w _ _ H eQ o bM b0 bN b1 bO b2 bP d1 eR d2 eS d3 eT eU eX.symm eZ.symm eV e0.symm eW eY bA bB bC bD bE bF bG bH bI bJ bK bL (Db aG.symm) (Db aH.symm) (Db aI.symm) (Db aJ.symm)) ?_
 rintro _ f0 ⟨e1, d4, d5, d6, f1, bQ, f2, bR, f3, bS, H, rfl, a3, HF⟩
 revert HF
 refine bb9 fun cX d7 dm cY d8 a4 cZ d9 => ?_
 refine bb8 fun a5 eA eB eC eD eE eF eG => ?_
 obtain ⟨e2, e3, rfl⟩ := cX.shape
 obtain ⟨e4, e5, rfl⟩ := cY.shape
 obtain ⟨e6, e7, rfl⟩ := cZ.shape
 refine Ln _ rfl ?_
 refine Wc (e1) rfl (fun c0 => ?_) (fun c0 => ?_)
 ·have H := H.1 c0
  refine Wk (W_block (Wk ?_))
  have dl : DomLe U aN.heap.size aK := (Mt (Oe (Or _) _) a0 (Nat.le_refl _))
  have b7 : DomLe U aN.heap.size aL := (Mt (Oe (Or _) _) a1 (Nat.le_refl _))
  have b8 : DomLe U aN.heap.size aM := (Mt (Oe (Or _) _) a2 (Nat.le_refl _))
  exact ⟨(d4, d5, d6), ⟨H.1, _, sl e2 d4 e3, bQ, sl e4 d5 e5, bR, sl e6 d6 e7, bS, Ee ⟨rfl, trivial⟩, (((Br U _).step X143 (Oe (Or _) _)).step a3 (Mu dl (Mu b7 (Mu b8 (Md D129 Sd))))), cX, d7, (Mt (Mu dl (Mu b7 (Mu b8 (Md D129 Sd)))) dm X143.size), cY, d8, (Mt (Mu dl (Mu b7 (Mu b8 (Md D129 Sd)))) a4 X143.size), cZ, d9, (Mt (Mu dl (Mu b7 (Mu b8 (Md D129 Sd)))) a5 X143.size), eA, eD, eF, eB.symm, eG, eC.symm, eE.symm⟩, H.2⟩
 have H := H.2 c0
 refine W_exit ?_
 refine (if_pos rfl).mpr ?_
 refine Wq (Wg (Lv ok 0 [(16, pb aB), (2, pb aB), (3, .bool true)] 3 rfl rfl (Ln _ rfl (W_ret ?_))))
 have X212 := (X.stepx x)
 have b9 := dE.mono X212.size
 have cA := dG.mono X212.size
 have cB := dI.mono X212.size
 have cC := cQ.mono X212.size
 have X221 := (X212.stepx c8)
 have cD := DomLe.fresh a0 (Fresh.eqv hU (Fresh.un b9 (Fresh.un cA (Fresh.un cB cC)))) X221.size
 have cE := DomLe.fresh a1 (Fresh.eqv hU (Fresh.un b9 (Fresh.un cA (Fresh.un cB cC)))) X221.size
 have cF := DomLe.fresh a2 (Fresh.eqv hU (Fresh.un b9 (Fresh.un cA (Fresh.un cB cC)))) X221.size
 have bT := cQ.mono X212.size
 have X227 := (X221.step X143 (DomLe.eqv hU (Mu (b9.dom _) (Mu (cA.dom _) (Mu (cB.dom _) (cC.dom _))))))
 have e8 := DomLe.fresh dm (Fresh.un cD (Fresh.un cE (Fresh.un cF (Fresh.box bT)))) X227.size
 have e9 := DomLe.fresh a4 (Fresh.un cD (Fresh.un cE (Fresh.un cF (Fresh.box bT)))) X227.size
 have fA := DomLe.fresh a5 (Fresh.un cD (Fresh.un cE (Fresh.un cF (Fresh.box bT)))) X227.size
 have fB : Dj cG bQ := (Mj dm (Dl bA (Dl bE (Dl bI (Db aG.symm)))) bM).symm
 have fC : Dj cG bR := (Mj a4 (Dl bA (Dl bE (Dl bI (Db aG.symm)))) bM).symm
 have fD : Dj cG bS := (Mj a5 (Dl bA (Dl bE (Dl bI (Db aG.symm)))) bM).symm
 have fE : Dj cH bQ := (Mj dm (Dl bB (Dl bF (Dl bJ (Db aH.symm)))) bN).symm
 have fF : Dj cH bR := (Mj a4 (Dl bB (Dl bF (Dl bJ (Db aH.symm)))) bN).symm
 have fG : Dj cH bS := (Mj a5 (Dl bB (Dl bF (Dl bJ (Db aH.symm)))) bN).symm
 have fH : Dj cI bQ := (Mj dm (Dl bC (Dl bG (Dl bK (Db aI.symm)))) bO).symm
 have fI : Dj cI bR := (Mj a4 (Dl bC (Dl bG (Dl bK (Db aI.symm)))) bO).symm
 have fJ : Dj cI bS := (Mj a5 (Dl bC (Dl bG (Dl bK (Db aI.symm)))) bO).symm
 have fK : Dj cJ bQ := (Mj dm (Dl bD (Dl bH (Dl bL (Db aJ.symm)))) bP).symm
 have fL : Dj cJ bR := (Mj a4 (Dl bD (Dl bH (Dl bL (Db aJ.symm)))) bP).symm
 have fM : Dj cJ bS := (Mj a5 (Dl bD (Dl bH (Dl bL (Db aJ.symm)))) bP).symm
 exact ⟨_, Ret_of [pb aB, .bool true] ⟨⟨rfl, rfl⟩, ⟨rfl, rfl⟩, trivial⟩, _, _, _, _, _, _, _, _, _, _, _, _, _, _, _, _, _, H, rfl, (X227.step a3 (Mu (cD.dom _) (Mu (cE.dom _) (Mu (cF.dom _) ((Fresh.box bT).dom _))))).ext, o, (bM.but a3 (Dl bA (Dl bE (Dl bI (Db aG.symm))))), (Mt (Mu (Oe D _) (Mu (Oe D19 _) (Mu (Oe D20 _) (Oe D21 _)))) c9 X212.size), b0, (bN.but a3 (Dl bB (Dl bF (Dl bJ (Db aH.symm))))), (Mt (Mu (Oe D _) (Mu (Oe D19 _) (Mu (Oe D20 _) (Oe D21 _)))) dA X212.size), b1, (bO.but a3 (Dl bC (Dl bG (Dl bK (Db aI.symm))))), (Mt (Mu (Oe D _) (Mu (Oe D19 _) (Mu (Oe D20 _) (Oe D21 _)))) dB X212.size), b2, (bP.but a3 (Dl bD (Dl bH (Dl bL (Db aJ.symm))))), (Mt (Mu (Oe D _) (Mu (Oe D19 _) (Mu (Oe D20 _) (Oe D21 _)))) dC X212.size), cX, d7, e8, cY, d8, e9, cZ, d9, fA, eA, (Fresh.box bT), fB, fC, fD, (Db aG.symm).symm, fE, fF, fG, (Db aH.symm).symm, fH, fI, fJ, (Db aI.symm).symm, fK, fL, fM, (Db aJ.symm).symm, eB, eC, eD, eE, eF, eG⟩

theorem spec_tFeasible_w (t : Transport) (Q : (List (List Int)) → Bool → Prop) (H : spec_tFeasible t Q) (w : World) {vx : Value} {hx : PH} (r : RS hx vx t.Rows) (ex : Sub hx w) {aV : Value} {aW : PH} (aM : RS aW aV t.Cols) (bC : Sub aW w) {aX : Value} {aY : PH} (aZ : RS aY aX t.Lo) (bD : Sub aY w) {a0 : Value} {a1 : PH} (a2 : RS a1 a0 t.Hi) (bE : Sub a1 w) :
  CallsTo Try.prog 33 #[.agg #[vx, aV, aX, a0]] w fun v w' => ∃ a3 a4 a5 aN, Q a3 a4 ∧ v = .tuple #[a5, .bool a4] ∧ Ext w w' ∧ OD aN a5 a3 ∧ Sub aN w' ∧ Fresh w.heap.size aN := by
 obtain ⟨a, c, rfl⟩ := r.shape
 obtain ⟨aC, aD, rfl⟩ := aM.shape
 obtain ⟨aF, aG, rfl⟩ := aZ.shape
 obtain ⟨aH, aI, rfl⟩ := a2.shape
 refine enter (args := [.agg #[sl a t.Rows c, sl aC t.Cols aD, sl aF t.Lo aG, sl aH t.Hi aI]]) 32 Try.func33 rfl rfl rfl ?_
 refine Wo [(0, .agg #[sl a t.Rows c, sl aC t.Cols aD, sl aF t.Lo aG, sl aH t.Hi aI])] ⟨rfl, trivial⟩ fun ρ => ?_
 have X := Br emp w
 refine Wq (Wg (Ly 0 (cs := [sl a t.Rows c, sl aC t.Cols aD, sl aF t.Lo aG, sl aH t.Hi aI]) rfl rfl rfl rfl rfl fun b wx x aO f => (Lv ok 1 [(2, .slice none 0 0), (3, .bool false)] 3 rfl rfl (Ln _ rfl (Wq (Wq ?_))))))
 refine W_quiet mix (by kernel_rfl) ?_
 refine QP_ev ok 0 [(6, pb b)] 1 rfl rfl ?_
 refine QP_ldbox 1 (v := sl a t.Rows c) rfl rfl rfl ti_22 ag_22 (fun _ => rfl) rfl aO rfl rfl ?_
 obtain ⟨aP, Hd, H⟩ := H
 have a6 := (ex.ext x)
 refine QP_call (I aP) 2 rfl rfl rfl cal_67 rfl (fun bF bG => (spec_tSum_w _ _ Hd bF r (a6.ext bG)).mono ?_) ?_
 ·rintro _ _ ⟨_, rfl, rfl, x⟩; exact ⟨rfl, x⟩
 refine QP_ev ok 3 [(9, .pointer (some ⟨b, 1, none⟩))] 4 rfl rfl ?_
 refine QP_ldbox 4 (v := sl aC t.Cols aD) rfl rfl rfl ti_22 ag_22 (fun _ => rfl) rfl aO rfl rfl ?_
 obtain ⟨aQ, Hd25, H⟩ := H
 have a7 := (bC.ext x)
 refine QP_call (I aQ) 5 rfl rfl rfl cal_67 rfl (fun bH bI => (spec_tSum_w _ _ Hd25 bH aM (a7.ext bI)).mono ?_) ?_
 ·rintro _ _ ⟨_, rfl, rfl, x⟩; exact ⟨rfl, x⟩
 refine QP_ev ok 6 [(12, .bool (aP != aQ))] 7 rfl rfl ?_
 refine QP_end _ rfl fun bJ aE => ?_
 refine Wc (aP != aQ) rfl (fun hc => ?_) (fun hc => ?_)
 ·have H := H.1 hc
  refine Wq (Wg (Lv ok 0 [(2, .slice none 0 0), (3, .bool false)] 2 rfl rfl (Ln _ rfl (W_ret ?_))))
  exact ⟨_, Ret_of [.slice none 0 0, .bool false] ⟨⟨rfl, rfl⟩, ⟨rfl, rfl⟩, trivial⟩, _, _, _, emp, H, rfl, (X.stepx (x.trans aE)).ext, OD.nil, (emp_sub _), (emp_fresh _)⟩
 have H := H.2 hc
 refine Wk (Wq (Wg (Lb 0 (v := .agg #[sl a t.Rows c, sl aC t.Cols aD, sl aF t.Lo aG, sl aH t.Hi aI]) rfl rfl rfl ti_29 ag_29 (fun h => by cases h) rfl (aO.ext aE) rfl rfl ?_)))
 have aJ := (x.trans aE)
 refine Lc 1 rfl rfl rfl cal_66 rfl (spec_tFilled_w _ _ H bJ r (a6.ext aE) aM (a7.ext aE) aZ (bD.ext aJ) a2 (bE.ext aJ)) ?_
 rintro _ a8 ⟨aK, aB, bX, bY, bZ, b0, b1, b2, b3, b4, b5, b6, b7, b8, b9, cA, aA, H, rfl, bK, HF⟩
 revert HF
 refine bb9 fun o cB cC bL cD cE bM cF => ?_
 refine bb9 fun cG bN cH cI a9 bO bP bA => ?_
 refine bb9 fun bQ cJ bR cK cL bB cM d => ?_
 refine bb9 fun cN cO cP cQ cR cS cT cU => ?_
 refine bb9 fun cV cW cX cY cZ c0 c1 c2 => ?_
 refine bb5 fun c3 c4 c5 c6 c7 => ?_
 obtain ⟨c8, c9, rfl⟩ := o.shape
 obtain ⟨dA, dB, rfl⟩ := bL.shape
 obtain ⟨dC, dD, rfl⟩ := bM.shape
 obtain ⟨dE, dF, rfl⟩ := bN.shape
 obtain ⟨aR, aS, rfl⟩ := a9.shape
 obtain ⟨bS, bT, rfl⟩ := bA.shape
 obtain ⟨dG, dH, rfl⟩ := bR.shape
 refine Lv ok 2 [(13, .tuple #[pb aA, .bool aB]), (16, pb aA), (17, .bool aB), (4, pb aA), (5, .bool aB)] 7 rfl rfl (Ln _ rfl (Wq ?_))
 have X115 := (X.stepx (aJ.trans bK))
 have bU := bP.mono (X.stepx aJ).size
 obtain ⟨k, hk, H⟩ := jn_elim H
 refine W_join2 (S := Bool) (fun s ρ' w' => k s ∧ ∃ (ρ : Env), ρ' = setAll [(4, pb aA), (27, .bool s)] ρ ∧ Ext a8 w') ?_ ?_
 ·refine Wg (Lv ok 0 [(18, .bool aB), (19, .bool (!aB)), (20, .bool (!aB))] 3 rfl rfl ?_)
  refine LP_split 20 (!aB) rfl (fun aT => ?_) (fun aT => ?_)
  ·have H := H.1 aT
   refine Lv ok 3 [(21, undef), (22, undef), (23, undef), (24, undef), (25, undef), (26, undef), (27, .bool true)] 10 rfl rfl (Ln _ rfl ?_)
   try refine Wo [(4, pb aA), (27, .bool true)] ⟨rfl, rfl, trivial⟩ fun ρ => ?_
   exact ⟨true, H, _, Ee ⟨rfl, rfl, trivial⟩, (Ext.refl _)⟩
  have H := H.2 aT
  refine Lv ok 3 [(21, pb aA), (22, pb aA), (23, .pointer (some ⟨aA, 5, none⟩))] 6 rfl rfl (Lb 6 (v := sl bS aK.Rows bT) rfl rfl rfl ti_22 ag_22 (fun _ => rfl) rfl bB rfl rfl (Lc 7 rfl rfl rfl cal_67 rfl (spec_tSum_w _ _ H a8 bA.readf bQ) ?_))
  rintro _ dI ⟨aL, H, rfl, bV⟩
  refine Lv ok 8 [(26, .bool (decide (aL > 0))), (27, .bool (decide (aL > 0)))] 10 rfl rfl (Ln _ rfl ?_)
  try refine Wo [(4, pb aA), (27, .bool (decide (aL > 0)))] ⟨rfl, rfl, trivial⟩ fun ρ => ?_
  exact ⟨decide (aL > 0), H, _, Ee ⟨rfl, rfl, trivial⟩, bV⟩
 rintro bW _ dJ ⟨H, ρ, rfl, X123⟩
 subst hk
 refine Wc (bW) rfl (fun aU => ?_) (fun aU => ?_)
 ·have H := H.1 aU
  refine Wq (Wg (Lv ok 0 [(2, .slice none 0 0), (3, .bool false)] 2 rfl rfl (Ln _ rfl (W_ret ?_))))
  exact ⟨_, Ret_of [.slice none 0 0, .bool false] ⟨⟨rfl, rfl⟩, ⟨rfl, rfl⟩, trivial⟩, _, _, _, emp, H, rfl, (X115.stepx X123).ext, OD.nil, (emp_sub _), (emp_fresh _)⟩
 have H := H.2 aU
 refine Wk (Wq (Wg (Lv ok 0 [(28, pb aA), (29, pb aA), (30, .pointer (some ⟨aA, 4, none⟩))] 3 rfl rfl (Lb 3 (v := sl aR aK.X aS) rfl rfl rfl ti_23 ag_23 (fun _ => rfl) rfl (bB.ext X123) rfl rfl (Lv ok 4 [(2, sl aR aK.X aS), (3, .bool true)] 6 rfl rfl (Ln _ rfl (W_ret ?_)))))))
 exact ⟨_, Ret_of [sl aR aK.X aS, .bool true] ⟨⟨rfl, rfl⟩, ⟨rfl, rfl⟩, trivial⟩, _, _, _, _, H, rfl, (X115.stepx X123).ext, a9, (bO.ext X123), bU⟩

theorem spec_tWith_w (t : Transport) (i : Int) (j : Int) (lo : Int) (hi : Int) (Q : Transport → Prop) (H : spec_tWith t i j lo hi Q) (w : World) {vx : Value} {hx : PH} (r : RS hx vx t.Rows) (ex : Sub hx w) {dZ : Value} {aF : PH} (cG : RS aF dZ t.Cols) (cH : Sub aF w) {d0 : Value} {aZ : PH} (cZ : RS aZ d0 t.Lo) (fS : Sub aZ w) {d1 : Value} {a0 : PH} (cI : RS a0 d1 t.Hi) (fT : Sub a0 w) :
  CallsTo Try.prog 70 #[.agg #[vx, dZ, d0, d1], I i, I j, I lo, I hi] w fun v w' => ∃ b4 u0_0 g0_0 u0_1 g0_1 u0_2 g0_2 u0_3 g0_3, Q b4 ∧ v = .agg #[u0_0, u0_1, u0_2, u0_3] ∧ Ext w w' ∧ RS g0_0 u0_0 b4.Rows ∧ Sub g0_0 w' ∧ DomLe (un hx (un aF (un aZ a0))) w.heap.size g0_0 ∧ RS g0_1 u0_1 b4.Cols ∧ Sub g0_1 w' ∧ DomLe (un hx (un aF (un aZ a0))) w.heap.size g0_1 ∧ OD g0_2 u0_2 b4.Lo ∧ Sub g0_2 w' ∧ Fresh w.heap.size g0_2 ∧ OD g0_3 u0_3 b4.Hi ∧ Sub g0_3 w' ∧ Fresh w.heap.size g0_3 ∧ Dj g0_0 g0_2 ∧ Dj g0_0 g0_3 ∧ Dj g0_1 g0_2 ∧ Dj g0_1 g0_3 ∧ Dj g0_2 g0_3 := by
 obtain ⟨a, c, rfl⟩ := r.shape
 obtain ⟨aA, aB, rfl⟩ := cG.shape
 obtain ⟨bK, bL, rfl⟩ := cZ.shape
 obtain ⟨bD, bE, rfl⟩ := cI.shape
 refine enter (args := [.agg #[sl a t.Rows c, sl aA t.Cols aB, sl bK t.Lo bL, sl bD t.Hi bE], I i, I j, I lo, I hi]) 40 Try.func70 rfl rfl rfl ?_
 refine Wo [(0, .agg #[sl a t.Rows c, sl aA t.Cols aB, sl bK t.Lo bL, sl bD t.Hi bE]), (1, I i), (2, I j), (3, I lo), (4, I hi)] ⟨rfl, rfl, rfl, rfl, rfl, trivial⟩ fun ρ => ?_
 have D : Dom (un hx (un aF (un aZ a0))) hx := (Dom.l _ _)
 have D19 : Dom (un hx (un aF (un aZ a0))) aF := (Ot (Dom.r _ _) (Dom.l _ _))
 have X := Br emp w
 refine Wq (Wg (Ly 0 (cs := [sl a t.Rows c, sl aA t.Cols aB, sl bK t.Lo bL, sl bD t.Hi bE]) rfl rfl rfl rfl rfl fun b wx x fU f => (La 1 rfl rfl rfl ti_29 rfl fun bM cJ d2 cK bF => (Ln _ rfl ?_))))
 have xc := (x.trans d2)
 have X28 := (X.stepx xc)
 have a1 := (ex.ext xc)
 have a2 := (cH.ext xc)
 have d3 := (fS.ext xc)
 have c0 := (fT.ext xc)
 have fV := bF.mono (X.stepx x).size
 obtain ⟨k, hk, H⟩ := jn_elim H
 refine W_join2 (S := (List Int) × (List Int) × (List (List Int)) × (List (List Int))) (fun s ρ' w' => k s.1 s.2.1 s.2.2.1 s.2.2.2 ∧ ∃ (ρ : Env) (a3 : Value) (a4 : PH) (a5 : Value) (a6 : PH) (a7 : Value) (a8 : PH) (a9 : Value) (bA : PH) (aM : Nat), ρ' = setAll [(1, I i), (2, I j), (3, I lo), (4, I hi), (10, pb bM), (11, pb aM)] ρ ∧ Ext cJ w' ∧ OD a4 a3 s.2.2.1 ∧ Sub a4 w' ∧ DomLe emp cJ.heap.size a4 ∧ OD a6 a5 s.2.2.2 ∧ Sub a6 w' ∧ DomLe emp cJ.heap.size a6 ∧ RS a8 a7 s.1 ∧ Sub a8 w' ∧ DomLe (un hx (un aF (un aZ a0))) w.heap.size a8 ∧ RS bA a9 s.2.1 ∧ Sub bA w' ∧ DomLe (un hx (un aF (un aZ a0))) w.heap.size bA ∧ Sub (bx aM 29 [a7, a9, a3, a5]) w' ∧ Fresh cJ.heap.size (bx aM 29 [a7, a9, a3, a5]) ∧ Dj a4 a8 ∧ Dj a4 bA ∧ Dj a4 (bx aM 29 [a7, a9, a3, a5]) ∧ Dj a6 a8 ∧ Dj a6 bA ∧ Dj a6 (bx aM 29 [a7, a9, a3, a5]) ∧ Dj a6 a4 ∧ Dj a8 (bx bM 29 [.slice none 0 0, .slice none 0 0, .slice none 0 0, .slice none 0 0]) ∧ Dj a8 (bx aM 29 [a7, a9, a3, a5]) ∧ Dj bA (bx bM 29 [.slice none 0 0, .slice none 0 0, .slice none 0 0, .slice none 0 0]) ∧ Dj bA (bx aM 29 [a7, a9, a3, a5])) ?_ ?_
 ·refine W_open mix fun h5 aH => ?_
  refine AP_gameT 12 [[], [0], [], [2], [], [4], [4, 5], [], [7], [4, 5, 6, 7, 8], [0, 1, 2, 3, 4, 5, 6, 7, 8, 9], [], [0, 1, 2, 3, 4, 5, 6, 7, 8, 9, 10, 11]] [[(5, none)], [(12, some 0)], [(5, none)], [(14, some 2)], [(5, none)], [(16, some 4)], [(17, some 5)], [(5, none)], [(19, some 7)], [(20, some 8)], [(13, some 1), (15, some 3), (18, some 6), (21, some 9)], []] [(1, none), (2, none), (3, none), (4, none), (10, none), (11, some 11), (22, some 10)] [0, 1, 2, 3, 4, 5, 6, 7, 8, 9, 10, 11] (by kernel_rfl) (by kernel_rfl) 12 ?_
  refine GT_ev 0 ok [(5, pb b)] (pb b) rfl (by kernel_rfl) rfl (fun _ h => h) (fun _ => rfl) ?_
  have aG := ((fU.ext d2).ext aH)
  refine GT_r1 1 [(12, pb b)] (sl a t.Rows c) rfl (by kernel_rfl) rfl (fun _ h => h) (fun _ w e => ex_ldbox rfl ti_22 ag_22 (fun _ => rfl) rfl e rfl rfl) aG ?_
  refine GT_ev 2 ok [(5, pb b)] (.pointer (some ⟨b, 1, none⟩)) rfl (by kernel_rfl) rfl (fun _ h => h) (fun _ => rfl) ?_
  refine GT_r1 3 [(14, .pointer (some ⟨b, 1, none⟩))] (sl aA t.Cols aB) rfl (by kernel_rfl) rfl (fun _ h => h) (fun _ w e => ex_ldbox rfl ti_22 ag_22 (fun _ => rfl) rfl e rfl rfl) aG ?_
  refine GT_ev 4 ok [(5, pb b)] (.pointer (some ⟨b, 2, none⟩)) rfl (by kernel_rfl) rfl (fun _ h => h) (fun _ => rfl) ?_
  refine GT_r1 5 [(16, .pointer (some ⟨b, 2, none⟩))] (sl bK t.Lo bL) rfl (by kernel_rfl) rfl (fun _ h => h) (fun _ w e => ex_ldbox rfl ti_23 ag_23 (fun _ => rfl) rfl e rfl rfl) aG ?_
  refine GT_ev 7 ok [(5, pb b)] (.pointer (some ⟨b, 3, none⟩)) rfl (by kernel_rfl) rfl (fun _ h => h) (fun _ => rfl) ?_
  refine GT_r1 8 [(19, .pointer (some ⟨b, 3, none⟩))] (sl bD t.Hi bE) rfl (by kernel_rfl) rfl (fun _ h => h) (fun _ w e => ex_ldbox rfl ti_23 ag_23 (fun _ => rfl) rfl e rfl rfl) aG ?_
  refine GT_hd [6, 11] (by kernel_rfl) ⟨?_, ?_, trivial⟩
  ·have H := H.1
   refine GT_lp [(17, sl bK t.Lo bL)] rfl (by kernel_rfl) rfl (fun _ h => h) rfl fun ρ fW aN => ?_
   have bG := (aH.trans aN)
   refine Lc 0 rfl rfl rfl cal_59 rfl (spec_tOwn_w _ _ H fW cZ (d3.ext bG)) ?_
   rintro _ h6 ⟨aC, h7, cL, H, rfl, aO, c1, b5, bN⟩
   obtain ⟨aD, aE, rfl⟩ := c1.shape
   have c2 := (aN.trans aO)
   have c3 := (aG.ext c2)
   have c4 := (aG.ext c2)
   have c5 := (aG.ext c2)
   refine LP_gs ⟨⟨.inr c3, .inl rfl, .inr c4, .inr c5, trivial⟩, ?_⟩
   refine GT_hd [9, 11] (by kernel_rfl) ⟨?_, ?_, trivial⟩
   ·have H := H.1
    refine GT_lp [(20, sl bD t.Hi bE)] rfl (by kernel_rfl) rfl (fun _ h => h) rfl fun ρ fX bB => ?_
    have d4 := (((aH.trans aN).trans aO).trans bB)
    refine Lc 0 rfl rfl rfl cal_59 rfl (spec_tOwn_w _ _ H fX cI (c0.ext d4)) ?_
    rintro _ h8 ⟨aI, h9, d5, H, rfl, b6, d6, d7, cM⟩
    obtain ⟨aP, aQ, rfl⟩ := d6.shape
    have c6 := (bB.trans b6)
    have d8 := (c4.ext c6)
    have d9 := (c5.ext c6)
    refine LP_gs ⟨⟨.inl rfl, .inl rfl, .inr d8, .inr d9, trivial⟩, ?_⟩
    refine GT_ev 10 ok [(13, sl a t.Rows c), (15, sl aA t.Cols aB), (18, sl aD aC aE), (21, sl aP aI aQ)] (.agg #[sl a t.Rows c, sl aA t.Cols aB, sl aD aC aE, sl aP aI aQ]) rfl (by kernel_rfl) rfl (fun _ h => h) (fun _ => rfl) ?_
    refine GT_hd [11] (by kernel_rfl) ⟨GT_lp [] rfl (by kernel_rfl) rfl (fun _ h => h) rfl fun ρ iA bH => ?_, trivial⟩
    refine La 0 rfl rfl rfl ti_29 rfl fun bO iB cN fY aR => ?_
    have eA := (((bB.trans b6).trans bH).trans cN)
    have c7 := (bH.trans cN)
    refine LP_gs ⟨⟨.inr (c3.ext eA), .inr (aG.ext (((((aN.trans aO).trans bB).trans b6).trans bH).trans cN)), .inr (d8.ext c7), .inr (d9.ext c7), trivial⟩, ?_⟩
    refine GT_end (by kernel_rfl) ?_
    intro iC cO ρ hn
    refine AP_forget [(1, I i), (2, I j), (3, I lo), (4, I hi), (10, pb bM), (11, pb bO), (22, .agg #[sl a t.Rows c, sl aA t.Cols aB, sl aD aC aE, sl aP aI aQ])] (by exact hn) fun ρ => ?_
    refine AP_tail 12 [[], [0], [], [2], [], [4], [4, 5], [], [7], [4, 5, 6, 7, 8], [0, 1, 2, 3, 4, 5, 6, 7, 8, 9], [], [0, 1, 2, 3, 4, 5, 6, 7, 8, 9, 10, 11]] (by kernel_rfl) ?_
    refine Lx 12 (vs := [sl a t.Rows c, sl aA t.Cols aB, sl aD aC aE, sl aP aI aQ]) (cs' := [sl a t.Rows c, sl aA t.Cols aB, sl aD aC aE, sl aP aI aQ]) rfl rfl rfl ti_29 rfl rfl rfl rfl rfl (fY.ext cO) rfl rfl fun iD fZ y => (Ln _ rfl ?_)
    have c8 := (((((((aH.trans aN).trans aO).trans bB).trans b6).trans bH).trans cN).trans cO)
    have cP := (((((aH.trans aN).trans aO).trans bB).trans b6).trans bH)
    have eB := (b5.ext (c6.trans bH))
    have dj := (Df eB aR).symm
    have eC := (d7.ext bH)
    have f0 := (Df eC aR).symm
    have eD := (a1.ext cP)
    have f1 := (Df eD aR).symm
    have eE := (a2.ext cP)
    have f2 := (Df eE aR).symm
    have eF := (a1.ext bG)
    have f3 := (Df eF bN).symm
    have eG := (a2.ext bG)
    have f4 := (Df eG bN).symm
    have f5 : Dj cL (bx bO 29 [sl a t.Rows c, sl aA t.Cols aB, sl aD aC aE, sl aP aI aQ]) := (Db (Df eB aR).symm).symm
    have eH := (aO.trans bB)
    have f6 := (Df (eF.ext eH) cM).symm
    have f7 := (Df (eG.ext eH) cM).symm
    have f8 : Dj d5 (bx bO 29 [sl a t.Rows c, sl aA t.Cols aB, sl aD aC aE, sl aP aI aQ]) := (Db (Df eC aR).symm).symm
    have f9 := (Df (b5.ext bB) cM).symm
    have gA : Dj hx (bx bO 29 [sl a t.Rows c, sl aA t.Cols aB, sl aD aC aE, sl aP aI aQ]) := (Db (Df eD aR).symm).symm
    have gB : Dj aF (bx bO 29 [sl a t.Rows c, sl aA t.Cols aB, sl aD aC aE, sl aP aI aQ]) := (Db (Df eE aR).symm).symm
    exact ⟨(t.Rows, t.Cols, aC, aI), H, _, sl aD aC aE, cL, sl aP aI aQ, d5, sl a t.Rows c, hx, sl aA t.Cols aB, aF, bO, Ee ⟨rfl, rfl, rfl, rfl, rfl, rfl, trivial⟩, But.ext (((Br emp _).stepx c8).step y ((aR.mono cP.size).dom _)), c1, ((b5.ext (eA.trans cO)).but y dj), ((bN.mono bG.size).dom _), d6, ((d7.ext (c7.trans cO)).but y f0), ((cM.mono d4.size).dom _), r, ((a1.ext c8).but y f1), (Oe D _), cG, ((a2.ext c8).but y f2), (Oe D19 _), fZ, (Fresh.box (aR.mono cP.size)), f3, f4, f5, f6, f7, f8, f9, (Df (ex.ext x) bF), gA, (Df (cH.ext x) bF), gB⟩
   ·have H := H.2
    refine GT_lp [] rfl (by kernel_rfl) rfl (fun _ h => h) rfl fun ρ iE bI => ?_
    refine La 0 rfl rfl rfl ti_29 rfl fun bP iF bQ eI bC => ?_
    have c9 := (bI.trans bQ)
    have eJ := (c4.ext c9)
    have eK := (c5.ext c9)
    refine LP_gs ⟨⟨.inr (c3.ext c9), .inr (aG.ext (((aN.trans aO).trans bI).trans bQ)), .inr eJ, .inr eK, trivial⟩, ?_⟩
    refine GT_hd [9] (by kernel_rfl) ⟨GT_lp [(20, sl bD t.Hi bE)] rfl (by kernel_rfl) rfl (fun _ h => h) rfl fun ρ gC bR => ?_, trivial⟩
    have eL := (((((aH.trans aN).trans aO).trans bI).trans bQ).trans bR)
    refine Lc 0 rfl rfl rfl cal_59 rfl (spec_tOwn_w _ _ H gC cI (c0.ext eL)) ?_
    rintro _ iG ⟨aJ, iH, eM, H, rfl, dA, eN, gD, bS⟩
    obtain ⟨aS, aT, rfl⟩ := eN.shape
    have dB := (bR.trans dA)
    refine LP_gs ⟨⟨.inl rfl, .inl rfl, .inr (eJ.ext dB), .inr (eK.ext dB), trivial⟩, ?_⟩
    refine GT_ev 10 ok [(13, sl a t.Rows c), (15, sl aA t.Cols aB), (18, sl aD aC aE), (21, sl aS aJ aT)] (.agg #[sl a t.Rows c, sl aA t.Cols aB, sl aD aC aE, sl aS aJ aT]) rfl (by kernel_rfl) rfl (fun _ h => h) (fun _ => rfl) ?_
    refine GT_end (by kernel_rfl) ?_
    intro iI cQ ρ gE
    refine AP_forget [(1, I i), (2, I j), (3, I lo), (4, I hi), (10, pb bM), (11, pb bP), (22, .agg #[sl a t.Rows c, sl aA t.Cols aB, sl aD aC aE, sl aS aJ aT])] (by exact gE) fun ρ => ?_
    refine AP_tail 12 [[], [0], [], [2], [], [4], [4, 5], [], [7], [4, 5, 6, 7, 8], [0, 1, 2, 3, 4, 5, 6, 7, 8, 9], [], [0, 1, 2, 3, 4, 5, 6, 7, 8, 9, 10, 11]] (by kernel_rfl) ?_
    refine Lx 12 (vs := [sl a t.Rows c, sl aA t.Cols aB, sl aD aC aE, sl aS aJ aT]) (cs' := [sl a t.Rows c, sl aA t.Cols aB, sl aD aC aE, sl aS aJ aT]) rfl rfl rfl ti_29 rfl rfl rfl rfl rfl (eI.ext (dB.trans cQ)) rfl rfl fun iJ gF b7 => (Ln _ rfl ?_)
    have dC := (((((((aH.trans aN).trans aO).trans bI).trans bQ).trans bR).trans dA).trans cQ)
    have cR := (((aH.trans aN).trans aO).trans bI)
    have dD := (b5.ext bI)
    have gG := (Df dD bC).symm
    have eO := (eI.ext bR)
    have dE := (a1.ext cR)
    have gH := (Df dE bC).symm
    have dF := (a2.ext cR)
    have gI := (Df dF bC).symm
    have gJ := (Df (a1.ext bG) bN).symm
    have gK := (Df (a2.ext bG) bN).symm
    have gL : Dj cL (bx bP 29 [sl a t.Rows c, sl aA t.Cols aB, sl aD aC aE, sl aS aJ aT]) := (Db (Df dD bC).symm).symm
    have dG := (bQ.trans bR)
    have gM := (Df (dE.ext dG) bS).symm
    have gN := (Df (dF.ext dG) bS).symm
    have gO : Dj eM (bx bP 29 [sl a t.Rows c, sl aA t.Cols aB, sl aD aC aE, sl aS aJ aT]) := (Db (Df eO bS).symm.symm).symm
    have gP := (Df (dD.ext dG) bS).symm
    have gQ : Dj hx (bx bP 29 [sl a t.Rows c, sl aA t.Cols aB, sl aD aC aE, sl aS aJ aT]) := (Db (Df dE bC).symm).symm
    have gR : Dj aF (bx bP 29 [sl a t.Rows c, sl aA t.Cols aB, sl aD aC aE, sl aS aJ aT]) := (Db (Df dF bC).symm).symm
    exact ⟨(t.Rows, t.Cols, aC, aJ), H, _, sl aD aC aE, cL, sl aS aJ aT, eM, sl a t.Rows c, hx, sl aA t.Cols aB, aF, bP, Ee ⟨rfl, rfl, rfl, rfl, rfl, rfl, trivial⟩, But.ext (((Br emp _).stepx dC).step b7 ((bC.mono cR.size).dom _)), c1, ((b5.ext ((((bI.trans bQ).trans bR).trans dA).trans cQ)).but b7 gG), ((bN.mono bG.size).dom _), eN, ((gD.ext cQ).but b7 (Df eO bS)), ((bS.mono eL.size).dom _), r, ((a1.ext dC).but b7 gH), (Oe D _), cG, ((a2.ext dC).but b7 gI), (Oe D19 _), gF, (Fresh.box (bC.mono cR.size)), gJ, gK, gL, gM, gN, gO, gP, (Df (ex.ext x) bF), gQ, (Df (cH.ext x) bF), gR⟩
  ·have H := H.2
   refine GT_lp [] rfl (by kernel_rfl) rfl (fun _ h => h) rfl fun ρ iK b8 => ?_
   refine La 0 rfl rfl rfl ti_29 rfl fun bT iL b9 eP bU => ?_
   have cS := (b8.trans b9)
   have eQ := (aG.ext cS)
   have eR := (aG.ext cS)
   have eS := (aG.ext cS)
   refine LP_gs ⟨⟨.inr eQ, .inr (aG.ext cS), .inr eR, .inr eS, trivial⟩, ?_⟩
   refine GT_hd [6] (by kernel_rfl) ⟨GT_lp [(17, sl bK t.Lo bL)] rfl (by kernel_rfl) rfl (fun _ h => h) rfl fun ρ gS bJ => ?_, trivial⟩
   have eT := (((aH.trans b8).trans b9).trans bJ)
   refine Lc 0 rfl rfl rfl cal_59 rfl (spec_tOwn_w _ _ H gS cZ (d3.ext eT)) ?_
   rintro _ iM ⟨aK, iN, eU, H, rfl, cA, eV, eW, cB⟩
   obtain ⟨aU, aV, rfl⟩ := eV.shape
   have dH := (bJ.trans cA)
   have eX := (eR.ext dH)
   have eY := (eS.ext dH)
   refine LP_gs ⟨⟨.inr (eQ.ext dH), .inl rfl, .inr eX, .inr eY, trivial⟩, ?_⟩
   refine GT_hd [9] (by kernel_rfl) ⟨GT_lp [(20, sl bD t.Hi bE)] rfl (by kernel_rfl) rfl (fun _ h => h) rfl fun ρ gT bV => ?_, trivial⟩
   have eZ := (((((aH.trans b8).trans b9).trans bJ).trans cA).trans bV)
   refine Lc 0 rfl rfl rfl cal_59 rfl (spec_tOwn_w _ _ H gT cI (c0.ext eZ)) ?_
   rintro _ iO ⟨aL, iP, e0, H, rfl, dI, e1, gU, bW⟩
   obtain ⟨aW, aX, rfl⟩ := e1.shape
   have dJ := (bV.trans dI)
   refine LP_gs ⟨⟨.inl rfl, .inl rfl, .inr (eX.ext dJ), .inr (eY.ext dJ), trivial⟩, ?_⟩
   refine GT_ev 10 ok [(13, sl a t.Rows c), (15, sl aA t.Cols aB), (18, sl aU aK aV), (21, sl aW aL aX)] (.agg #[sl a t.Rows c, sl aA t.Cols aB, sl aU aK aV, sl aW aL aX]) rfl (by kernel_rfl) rfl (fun _ h => h) (fun _ => rfl) ?_
   refine GT_end (by kernel_rfl) ?_
   intro iQ cT ρ gV
   refine AP_forget [(1, I i), (2, I j), (3, I lo), (4, I hi), (10, pb bM), (11, pb bT), (22, .agg #[sl a t.Rows c, sl aA t.Cols aB, sl aU aK aV, sl aW aL aX])] (by exact gV) fun ρ => ?_
   refine AP_tail 12 [[], [0], [], [2], [], [4], [4, 5], [], [7], [4, 5, 6, 7, 8], [0, 1, 2, 3, 4, 5, 6, 7, 8, 9], [], [0, 1, 2, 3, 4, 5, 6, 7, 8, 9, 10, 11]] (by kernel_rfl) ?_
   refine Lx 12 (vs := [sl a t.Rows c, sl aA t.Cols aB, sl aU aK aV, sl aW aL aX]) (cs' := [sl a t.Rows c, sl aA t.Cols aB, sl aU aK aV, sl aW aL aX]) rfl rfl rfl ti_29 rfl rfl rfl rfl rfl (eP.ext ((((bJ.trans cA).trans bV).trans dI).trans cT)) rfl rfl fun iR gW cC => (Ln _ rfl ?_)
   have dK := (((((((aH.trans b8).trans b9).trans bJ).trans cA).trans bV).trans dI).trans cT)
   have cU := (aH.trans b8)
   have dL := (eP.ext bJ)
   have dM := (cA.trans bV)
   have e2 := (dL.ext dM)
   have dN := (a1.ext cU)
   have gX := (Df dN bU).symm
   have dO := (a2.ext cU)
   have gY := (Df dO bU).symm
   have e3 := (b9.trans bJ)
   have e4 := (dN.ext e3)
   have gZ := (Df e4 cB).symm
   have e5 := (dO.ext e3)
   have g0 := (Df e5 cB).symm
   have g1 : Dj eU (bx bT 29 [sl a t.Rows c, sl aA t.Cols aB, sl aU aK aV, sl aW aL aX]) := (Db (Df dL cB).symm.symm).symm
   have g2 := (Df (e4.ext dM) bW).symm
   have g3 := (Df (e5.ext dM) bW).symm
   have g4 : Dj e0 (bx bT 29 [sl a t.Rows c, sl aA t.Cols aB, sl aU aK aV, sl aW aL aX]) := (Db (Df e2 bW).symm.symm).symm
   have g5 := (Df (eW.ext bV) bW).symm
   have g6 : Dj hx (bx bT 29 [sl a t.Rows c, sl aA t.Cols aB, sl aU aK aV, sl aW aL aX]) := (Db (Df dN bU).symm).symm
   have g7 : Dj aF (bx bT 29 [sl a t.Rows c, sl aA t.Cols aB, sl aU aK aV, sl aW aL aX]) := (Db (Df dO bU).symm).symm
   exact ⟨(t.Rows, t.Cols, aK, aL), H, _, sl aU aK aV, eU, sl aW aL aX, e0, sl a t.Rows c, hx, sl aA t.Cols aB, aF, bT, Ee ⟨rfl, rfl, rfl, rfl, rfl, rfl, trivial⟩, But.ext (((Br emp _).stepx dK).step cC ((bU.mono cU.size).dom _)), eV, ((eW.ext (dJ.trans cT)).but cC (Df dL cB)), ((cB.mono eT.size).dom _), e1, ((gU.ext cT).but cC (Df e2 bW)), ((bW.mono eZ.size).dom _), r, ((a1.ext dK).but cC gX), (Oe D _), cG, ((a2.ext dK).but cC gY), (Oe D19 _), gW, (Fresh.box (bU.mono cU.size)), gZ, g0, g1, g2, g3, g4, g5, (Df (ex.ext x) bF), g6, (Df (cH.ext x) bF), g7⟩
 rintro ⟨rows, cols, bX, bY⟩ _ iS ⟨H, ρ, a3, a4, a5, a6, a7, a8, a9, bA, aM, rfl, HF⟩
 revert HF
 refine bb9 fun X80 o dP e6 e7 dQ e8 e9 => ?_
 refine bb9 fun dR g8 fA dS g9 fB iT d => ?_
 refine bb9 fun dT hA fC fD hB dU hC iU => ?_
 refine bb2 fun hD iV => ?_
 subst hk
 obtain ⟨bZ, b0, rfl⟩ := o.shape
 obtain ⟨b1, b2, rfl⟩ := e7.shape
 obtain ⟨cV, cW, rfl⟩ := e9.shape
 obtain ⟨cX, cY, rfl⟩ := fA.shape
 refine Wq (Wg (Lv ok 0 [(23, .pointer (some ⟨aM, 2, none⟩))] 1 rfl rfl (Lb 1 (v := sl bZ bX b0) rfl rfl rfl ti_23 ag_23 (fun _ => rfl) rfl fB rfl rfl (Lv ok 2 [(25, I i)] 3 rfl rfl ?_))))
 obtain ⟨dV, hE, hF, H⟩ := H
 refine LP_indexb (v := sl bZ bX b0) 3 rfl rfl rfl Try.underlying23 ti_22 rfl rfl o hE hF fun iW u hG rest hH bw => (LP_ldcell 4 rfl rfl rfl ti_22 ag_22 rfl hH dP ?_)
 have fE := bw.od
 obtain ⟨fF, fG, rfl⟩ := fE.shape
 have hI := Sub.le dP bw.le
 have hJ : OS 3 hG emp (sl fF dV fG) dV := OD.flat fE
 refine Lv ok 5 [(28, I j), (29, I lo)] 7 rfl rfl ?_
 obtain ⟨hK, hl, H⟩ := H
 refine LP_indexw (v := sl fF dV fG) 7 rfl rfl rfl Try.underlying22 ti_3 rfl rfl hJ hK hl fun iX wa => (LP_set 8 rfl rfl rfl rfl rfl wa (Le.refl emp) ⟨_, rfl, rfl⟩ hI fun iY iZ hL hM fH dm => ?_)
 obtain ⟨i0, hN, dd⟩ := BwL.turn bw (OS.od hL) (Dom.of dm)
 have fI := BwL.sub bw dP hM fH
 have aY := BwL.but bw fH
 refine Ln _ rfl (Wq (Wg (Lv ok 0 [(31, .pointer (some ⟨aM, 3, none⟩))] 1 rfl rfl ?_)))
 have fJ := (fB.but aY hA)
 refine Lb 1 (v := sl b1 bY b2) rfl rfl rfl ti_23 ag_23 (fun _ => rfl) rfl fJ rfl rfl (Lv ok 2 [(33, I i)] 3 rfl rfl ?_)
 obtain ⟨dW, hO, hP, H⟩ := H
 refine LP_indexb (v := sl b1 bY b2) 3 rfl rfl rfl Try.underlying23 ti_22 rfl rfl e7 hO hP fun i1 i2 hQ i3 hR cD => ?_
 have dX := (dQ.but aY dU.symm)
 refine LP_ldcell 4 rfl rfl rfl ti_22 ag_22 rfl hR dX ?_
 have fK := cD.od
 obtain ⟨fL, fM, rfl⟩ := fK.shape
 have hS := Sub.le dX cD.le
 have hT : OS 3 hQ emp (sl fL dW fM) dW := OD.flat fK
 refine Lv ok 5 [(36, I j), (37, I hi)] 7 rfl rfl ?_
 obtain ⟨hU, hV, H⟩ := H
 refine LP_indexw (v := sl fL dW fM) 7 rfl rfl rfl Try.underlying22 ti_3 rfl rfl hT hU hV fun i4 hW => (LP_set 8 rfl rfl rfl rfl rfl hW (Le.refl emp) ⟨_, rfl, rfl⟩ hS fun i5 i6 hX hY fN hZ => ?_)
 obtain ⟨i7, h0, cE⟩ := BwL.turn cD (OS.od hX) (Dom.of hZ)
 have h1 := BwL.sub cD dX hY fN
 have b3 := BwL.but cD fN
 refine Ln _ rfl (Wq (Wg (Lb 0 (v := .agg #[sl cV rows cW, sl cX cols cY, sl bZ bX b0, sl b1 bY b2]) rfl rfl rfl ti_29 ag_29 (fun h => by cases h) rfl (fJ.but b3 hB) rfl rfl ?_)))
 have dY := (Mj e6 (Dj.emp_l _) cK)
 have fO := (Mj e8 (Dj.emp_l _) cK)
 refine Lx 1 (vs := [sl cV rows cW, sl cX cols cY, sl bZ bX b0, sl b1 bY b2]) (cs' := [sl cV rows cW, sl cX cols cY, sl bZ bX b0, sl b1 bY b2]) rfl rfl rfl ti_29 rfl rfl rfl rfl rfl (((cK.ext X80).but aY dY).but b3 fO) rfl rfl fun i9 h2 cF => (Ln _ rfl (W_ret ?_))
 have fP := (cK.ext X80)
 have fQ := DomLe.fresh e6 (emp_fresh _) X28.size
 have X402 := (X28.stepx X80)
 have h3 := ((fun n => Oe dd n) _).fresh fQ X402.size
 have fR := DomLe.fresh e8 (emp_fresh _) X28.size
 have X407 := (X402.step aY (fQ.dom _))
 have h4 := ((fun n => Oe cE n) _).fresh fR X407.size
 exact ⟨_, Ret_of [.agg #[sl cV rows cW, sl cX cols cY, sl bZ bX b0, sl b1 bY b2]] ⟨⟨_, rfl, rfl, ld_res ti_29 ag_29 (fun h => by cases h) h2 rfl rfl⟩, trivial⟩, _, _, _, _, _, _, _, _, _, H, rfl, ((X407.step b3 (fR.dom _)).step cF (fV.dom _)).ext, e9, (((dR.but aY d).but b3 fC).but cF hC.symm), g8, fA, (((dS.but aY dT).but b3 fD).but cF hD.symm), g9, hN, ((fI.but b3 (Mj ((fun n => Oe dd n) _) dU.symm dQ).symm).but cF (Mj ((fun n => Oe dd n) _) dY fP).symm), h3, h0, (h1.but cF (Mj ((fun n => Oe cE n) _) fO (fP.but aY dY)).symm), h4, (Mj ((fun n => Oe dd n) _) d dR).symm, (Mj ((fun n => Oe cE n) _) fC (dR.but aY d)).symm, (Mj ((fun n => Oe dd n) _) dT dS).symm, (Mj ((fun n => Oe cE n) _) fD (dS.but aY dT)).symm, (Mj ((fun n => Oe cE n) _) (Mj ((fun n => Oe dd n) _) dU.symm dQ).symm fI).symm⟩

end Go.Proofs.Ytommbnkecafodaa
